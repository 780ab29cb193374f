import Derived.Test.YtcfildbgnjhjmaaOctPlain
/-! Bits of bytes turned, as one number turned. -/
namespace Go.Proofs.Ytcfildbgnjhjmaa.Oct

theorem mul_xor (k a b : Nat) : 2 ^ k * (a ^^^ b) = (2 ^ k * a) ^^^ (2 ^ k * b) := by
  rw [Nat.mul_comm, Nat.mul_comm _ a, Nat.mul_comm _ b, ← Nat.shiftLeft_eq, ← Nat.shiftLeft_eq, ← Nat.shiftLeft_eq, Nat.shiftLeft_xor_distrib]

theorem num_turn (xs : List Int) (hx : IsB xs) (j : Nat) (hj : j < xs.length) (b : Nat) (hb : b < 256) :
    num (xs.set j (((xs.getD j 0).toNat ^^^ b : Nat) : Int)) = num xs ^^^ (2 ^ (8 * j) * b) := by
  induction xs generalizing j with
  | nil => simp at hj
  | cons y ys ih =>
    have hy := hx y (by simp)
    have hyn : y.toNat < 2 ^ 8 := by omega
    rcases j with _ | j
    · simp only [List.set_cons_zero, List.getD_cons_zero, num, Int.toNat_natCast, Nat.mul_zero, Nat.pow_zero, Nat.one_mul]
      rw [show (256 : Nat) = 2 ^ 8 by decide, join_xor _ _ 8 (Nat.xor_lt_two_pow hyn hb), join_xor _ _ 8 hyn, Nat.xor_assoc, Nat.xor_comm b, Nat.xor_assoc]
    · have := ih (fun x h => hx x (by simp [h])) j (by simp at hj; omega)
      simp only [List.set_cons_succ, List.getD_cons_succ, num]
      rw [this, show (256 : Nat) = 2 ^ 8 by decide, join_xor _ _ 8 hyn, join_xor _ _ 8 hyn, mul_xor, ← Nat.mul_assoc, ← Nat.pow_add, Nat.xor_assoc]
      congr 4
      omega
theorem isB_set {xs : List Int} (h : IsB xs) (j : Nat) (b : Nat) (hb : b < 256) : IsB (xs.set j (b : Int)) := by
  intro x hx
  rcases List.mem_or_eq_of_mem_set hx with hx | rfl
  · exact h x hx
  · omega
theorem turn_lt {xs : List Int} (h : IsB xs) (j b : Nat) (hb : b < 256) : (xs.getD j 0).toNat ^^^ b < 256 := by
  refine Nat.xor_lt_two_pow (n := 8) ?_ hb
  rw [List.getD_eq_getElem?_getD]
  rcases Nat.lt_or_ge j xs.length with hj | hj
  · rw [List.getElem?_eq_getElem hj]
    have := h _ (List.getElem_mem hj)
    simp only [Option.getD_some]
    omega
  · rw [List.getElem?_eq_none hj]
    decide
/-- A bit turned: the p-th of all. -/
def turn (xs : List Int) (p : Nat) : List Int := xs.set (p / 8) (((xs.getD (p / 8) 0).toNat ^^^ 2 ^ (p % 8) : Nat) : Int)
theorem pow_mod8 (p : Nat) : 2 ^ (p % 8) < 256 := by
  have : 2 ^ (p % 8) < 2 ^ 8 := Nat.pow_lt_pow_right (by decide) (by omega)
  exact this
theorem turn_len (xs : List Int) (p : Nat) : (turn xs p).length = xs.length := by unfold turn; simp
theorem turn_isB {xs : List Int} (h : IsB xs) (p : Nat) : IsB (turn xs p) := isB_set h _ _ (turn_lt h _ _ (pow_mod8 p))
theorem num_turn_bit (xs : List Int) (h : IsB xs) (p : Nat) (hp : p < 8 * xs.length) : num (turn xs p) = num xs ^^^ 2 ^ p := by
  unfold turn
  rw [num_turn xs h _ (by omega) _ (pow_mod8 p), ← Nat.pow_add]
  congr 2
  omega

/-- The check of any sealed bytes, n + 4 of them. -/
def good (m : Nat) (s : List Int) : Prop := num (s.drop m) = sum (s.take m)
theorem good_iff {m : Nat} {s : List Int} (h : IsB s) (hl : s.length = m + 4) : good m s ↔ stpn (8 * s.length) (ones ^^^ num s) = resid := by
  have := sealed_iff (s.take m) (s.drop m) (isB_take h m) (isB_drop h m) (by rw [List.length_drop, hl]; omega)
  rw [List.take_append_drop] at this
  exact this
theorem good_seal (xs : List Int) (h : IsB xs) : good xs.length (xs ++ le (sum xs) 4) := by
  unfold good
  rw [List.drop_left, List.take_left, num_le, Nat.mod_eq_of_lt]
  exact sum_lt h
/-- Bits turned within 32: the check tells it. -/
theorem good_burst {m W k : Nat} {s t : List Int} (hs : IsB s) (ht : IsB t) (hl : s.length = m + 4) (hlt : t.length = m + 4) (hg : good m s) (he : num t = num s ^^^ 2 ^ k * W) (hW : W < 2 ^ 32) (hk : k ≤ 8 * s.length) :
    good m t ↔ W = 0 := by
  rw [good_iff hs hl] at hg
  rw [good_iff ht hlt, he]
  constructor
  · intro h
    rcases Nat.eq_zero_or_pos W with h0 | h0
    · exact h0
    · refine absurd (h.trans hg.symm) ?_
      rw [hlt, ← hl]
      exact burst hW (by omega) hk
  · rintro rfl
    rw [Nat.mul_zero, Nat.xor_zero, hlt, ← hl]
    exact hg
end Go.Proofs.Ytcfildbgnjhjmaa.Oct
