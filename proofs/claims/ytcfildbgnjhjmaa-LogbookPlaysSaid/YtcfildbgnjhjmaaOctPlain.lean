import Derived.Laws.BitsLemmas
import Derived.Laws.Entries
set_option linter.unusedVariables false
set_option linter.unusedSimpArgs false
namespace Go.Proofs.Ytcfildbgnjhjmaa.Oct

/-! Numbers as bytes. -/
def num : List Int → Nat
  | [] => 0
  | b :: bs => b.toNat + 256 * num bs
def le (x : Nat) : Nat → List Int
  | 0 => []
  | k + 1 => ((x % 256 : Nat) : Int) :: le (x / 256) k
def IsB (xs : List Int) : Prop := ∀ x ∈ xs, 0 ≤ x ∧ x ≤ 255

theorem le_len (x k : Nat) : (le x k).length = k := by
  induction k generalizing x with
  | zero => rfl
  | succ k ih => simp [le, ih]
theorem le_isB (x k : Nat) : IsB (le x k) := by
  induction k generalizing x with
  | zero => intro y hy; simp [le] at hy
  | succ k ih =>
    intro y hy
    simp only [le, List.mem_cons] at hy
    rcases hy with rfl | hy
    · omega
    · exact ih _ y hy
theorem num_le (x k : Nat) : num (le x k) = x % 256 ^ k := by
  induction k generalizing x with
  | zero => simp [le, num, Nat.mod_one]
  | succ k ih =>
    simp only [le, num, ih]
    rw [Nat.pow_succ, Nat.mul_comm (256 ^ k) 256, Nat.mod_mul]
    simp
    omega
theorem le_succ (x k : Nat) : le x (k + 1) = le x k ++ [((x / 256 ^ k % 256 : Nat) : Int)] := by
  induction k generalizing x with
  | zero => simp [le]
  | succ k ih =>
    rw [le, ih (x / 256)]
    simp only [le, List.cons_append, List.cons.injEq, true_and, List.append_cancel_left_eq, and_true]
    rw [Nat.div_div_eq_div_mul, Nat.pow_succ, Nat.mul_comm (256 ^ k) 256]
theorem num_append (xs ys : List Int) : num (xs ++ ys) = num xs + 256 ^ xs.length * num ys := by
  induction xs with
  | nil => simp [num]
  | cons b bs ih =>
    simp only [List.cons_append, num, ih, List.length_cons, Nat.pow_succ]
    rw [Nat.mul_add, Nat.mul_comm (256 ^ bs.length) 256, Nat.mul_assoc]
    omega
theorem num_lt (xs : List Int) (h : IsB xs) : num xs < 256 ^ xs.length := by
  induction xs with
  | nil => simp [num]
  | cons b bs ih =>
    have h1 := ih (fun x hx => h x (List.mem_cons_of_mem _ hx))
    have h2 := h b (List.mem_cons_self ..)
    simp only [num, List.length_cons, Nat.pow_succ]
    have : b.toNat ≤ 255 := by omega
    omega
theorem le_num (xs : List Int) (h : IsB xs) : le (num xs) xs.length = xs := by
  induction xs with
  | nil => rfl
  | cons b bs ih =>
    have h1 := ih (fun x hx => h x (List.mem_cons_of_mem _ hx))
    have h2 := h b (List.mem_cons_self ..)
    simp only [num, List.length_cons, le]
    have e1 : (b.toNat + 256 * num bs) % 256 = b.toNat := by omega
    have e2 : (b.toNat + 256 * num bs) / 256 = num bs := by omega
    rw [e1, e2, h1]
    congr 1
    omega
theorem le_inj {x y k : Nat} (hx : x < 256 ^ k) (hy : y < 256 ^ k) (h : le x k = le y k) : x = y := by
  have := congrArg num h
  rw [num_le, num_le, Nat.mod_eq_of_lt hx, Nat.mod_eq_of_lt hy] at this
  exact this
theorem num_inj {xs ys : List Int} (hx : IsB xs) (hy : IsB ys) (hl : xs.length = ys.length) (h : num xs = num ys) : xs = ys := by
  rw [← le_num xs hx, ← le_num ys hy, h, hl]
theorem isB_append {xs ys : List Int} (hx : IsB xs) (hy : IsB ys) : IsB (xs ++ ys) := by
  intro x h
  rcases List.mem_append.1 h with h | h
  · exact hx x h
  · exact hy x h
theorem isB_take {xs : List Int} (h : IsB xs) (k : Nat) : IsB (xs.take k) := fun x hx => h x (List.mem_of_mem_take hx)
theorem isB_drop {xs : List Int} (h : IsB xs) (k : Nat) : IsB (xs.drop k) := fun x hx => h x (List.mem_of_mem_drop hx)

/-! CRC-32. -/
def poly : Nat := 3988292384
def stp (c : Nat) : Nat := (c / 2) ^^^ (if c % 2 = 1 then poly else 0)
def stpn : Nat → Nat → Nat
  | 0, c => c
  | n + 1, c => stpn n (stp c)
def crc (c : Nat) (xs : List Int) : Nat := xs.foldl (fun c b => stpn 8 (c ^^^ b.toNat)) c
def ones : Nat := 4294967295
def sum (xs : List Int) : Nat := crc ones xs ^^^ ones

theorem stp_bit (c i : Nat) : (stp c).testBit i = (c.testBit (i + 1) ^^ (c.testBit 0 && poly.testBit i)) := by
  unfold stp
  rw [Nat.testBit_xor, Nat.testBit_div_two]
  by_cases h : c % 2 = 1
  · rw [if_pos h]
    have : c.testBit 0 = true := by rw [Nat.testBit_zero]; simpa using h
    rw [this, Bool.true_and]
  · rw [if_neg h]
    have : c.testBit 0 = false := by rw [Nat.testBit_zero]; simpa using h
    rw [this, Bool.false_and, Nat.zero_testBit]
theorem stp_xor (a b : Nat) : stp (a ^^^ b) = stp a ^^^ stp b := by
  apply Nat.eq_of_testBit_eq
  intro i
  simp only [stp_bit, Nat.testBit_xor]
  cases a.testBit (i + 1) <;> cases b.testBit (i + 1) <;> cases a.testBit 0 <;> cases b.testBit 0 <;> cases poly.testBit i <;> rfl
theorem stp_zero : stp 0 = 0 := rfl
theorem stp_double (m : Nat) : stp (2 * m) = m := by
  unfold stp
  rw [if_neg (by omega)]
  simp
theorem poly_bit31 : poly.testBit 31 = true := by decide
theorem poly_lt : poly < 2 ^ 32 := by decide
theorem stp_lt {c : Nat} (h : c < 2 ^ 32) : stp c < 2 ^ 32 := by
  unfold stp
  apply Nat.xor_lt_two_pow (by omega)
  split
  · exact poly_lt
  · decide
theorem stp_inj {a b : Nat} (ha : a < 2 ^ 32) (hb : b < 2 ^ 32) (h : stp a = stp b) : a = b := by
  have h31 := congrArg (fun x => x.testBit 31) h
  simp only [stp_bit, poly_bit31, Bool.and_true] at h31
  rw [Nat.testBit_lt_two_pow ha, Nat.testBit_lt_two_pow hb, Bool.false_xor, Bool.false_xor] at h31
  apply Nat.eq_of_testBit_eq
  intro i
  cases i with
  | zero => exact h31
  | succ i =>
    have hi := congrArg (fun x => x.testBit i) h
    simp only [stp_bit, h31] at hi
    revert hi
    cases a.testBit (i + 1) <;> cases b.testBit (i + 1) <;> cases b.testBit 0 <;> cases poly.testBit i <;> simp
theorem stpn_xor (n a b : Nat) : stpn n (a ^^^ b) = stpn n a ^^^ stpn n b := by
  induction n generalizing a b with
  | zero => rfl
  | succ n ih => simp only [stpn, stp_xor, ih]
theorem stpn_zero (n : Nat) : stpn n 0 = 0 := by
  induction n with
  | zero => rfl
  | succ n ih => simp only [stpn, stp_zero, ih]
theorem stpn_add (m n c : Nat) : stpn (m + n) c = stpn n (stpn m c) := by
  induction m generalizing c with
  | zero => simp [stpn]
  | succ m ih => rw [Nat.succ_add]; simp only [stpn, ih]
theorem stpn_lt {n c : Nat} (h : c < 2 ^ 32) : stpn n c < 2 ^ 32 := by
  induction n generalizing c with
  | zero => exact h
  | succ n ih => exact ih (stp_lt h)
theorem stpn_inj {n a b : Nat} (ha : a < 2 ^ 32) (hb : b < 2 ^ 32) (h : stpn n a = stpn n b) : a = b := by
  induction n generalizing a b with
  | zero => exact h
  | succ n ih => exact stp_inj ha hb (ih (stp_lt ha) (stp_lt hb) h)
theorem stpn_shift (k m : Nat) : stpn k (2 ^ k * m) = m := by
  induction k generalizing m with
  | zero => simp [stpn]
  | succ k ih =>
    simp only [stpn]
    rw [Nat.pow_succ, Nat.mul_comm (2 ^ k) 2, Nat.mul_assoc, stp_double, ih]
theorem join_xor (b m : Nat) (k : Nat) (h : b < 2 ^ k) : b + 2 ^ k * m = b ^^^ (2 ^ k * m) := by
  have h1 : 2 ^ k * m + b = 2 ^ k * m ||| b := Nat.two_pow_add_eq_or_of_lt h m
  rw [Nat.add_comm, h1]
  apply Nat.eq_of_testBit_eq
  intro i
  rw [Nat.testBit_or, Nat.testBit_xor]
  by_cases hi : i < k
  · rw [Nat.testBit_two_pow_mul, decide_eq_false (by omega), Bool.false_and, Bool.false_or, Bool.xor_false]
  · rw [Nat.testBit_lt_two_pow (Nat.lt_of_lt_of_le h (Nat.pow_le_pow_right (by decide) (by omega))), Bool.or_false, Bool.false_xor]

theorem crc_lt {c : Nat} {xs : List Int} (hc : c < 2 ^ 32) (h : IsB xs) : crc c xs < 2 ^ 32 := by
  induction xs generalizing c with
  | nil => exact hc
  | cons b bs ih =>
    have hb := h b (List.mem_cons_self ..)
    refine ih (c := stpn 8 (c ^^^ b.toNat)) (stpn_lt (Nat.xor_lt_two_pow hc (by omega))) (fun x hx => h x (List.mem_cons_of_mem _ hx))
theorem crc_num (xs : List Int) (h : IsB xs) (c : Nat) : crc c xs = stpn (8 * xs.length) (c ^^^ num xs) := by
  induction xs generalizing c with
  | nil => simp [crc, num, stpn]
  | cons b bs ih =>
    have hb := h b (List.mem_cons_self ..)
    have e : crc c (b :: bs) = crc (stpn 8 (c ^^^ b.toNat)) bs := rfl
    rw [e, ih (fun x hx => h x (List.mem_cons_of_mem _ hx))]
    simp only [List.length_cons, num]
    rw [show 8 * (bs.length + 1) = 8 + 8 * bs.length by omega, stpn_add]
    congr 1
    rw [show (256 : Nat) = 2 ^ 8 by rfl, join_xor b.toNat (num bs) 8 (by omega), ← Nat.xor_assoc, stpn_xor 8 (c ^^^ b.toNat), stpn_shift]
theorem sum_lt {xs : List Int} (h : IsB xs) : sum xs < 2 ^ 32 := Nat.xor_lt_two_pow (crc_lt (by decide) h) (by decide)

theorem crc_append (c : Nat) (xs ys : List Int) : crc c (xs ++ ys) = crc (crc c xs) ys := by simp [crc, List.foldl_append]
theorem crc_snoc (c : Nat) (xs : List Int) (b : Int) : crc c (xs ++ [b]) = stpn 8 (crc c xs ^^^ b.toNat) := by rw [crc_append]; rfl

/-! Sealed bytes: the check of n + 4 bytes as one equation. -/
def resid : Nat := stpn 32 ones
theorem sealed_iff (xs ts : List Int) (hx : IsB xs) (ht : IsB ts) (hl : ts.length = 4) :
    num ts = sum xs ↔ stpn (8 * (xs ++ ts).length) (ones ^^^ num (xs ++ ts)) = resid := by
  have htl : num ts < 2 ^ 32 := by have := num_lt ts ht; rw [hl] at this; exact this
  have hcl := crc_lt (c := ones) (by decide) hx
  have e : stpn (8 * (xs ++ ts).length) (ones ^^^ num (xs ++ ts)) = stpn 32 (crc ones xs ^^^ num ts) := by
    rw [List.length_append, hl, Nat.mul_add, stpn_add, num_append]
    congr 1
    have hp : (256 : Nat) ^ xs.length = 2 ^ (8 * xs.length) := by rw [Nat.pow_mul]
    have hn : num xs < 2 ^ (8 * xs.length) := by rw [← hp]; exact num_lt xs hx
    rw [hp, join_xor _ _ _ hn, ← Nat.xor_assoc, stpn_xor, stpn_shift, crc_num xs hx]
  rw [e]
  unfold resid sum
  constructor
  · intro h
    rw [h, ← Nat.xor_assoc, Nat.xor_self, Nat.zero_xor]
  · intro h
    have h1 := stpn_inj (Nat.xor_lt_two_pow hcl htl) (by decide) h
    have h2 := congrArg (fun x => crc ones xs ^^^ x) h1
    simpa [← Nat.xor_assoc] using h2

/-- Bits that stand within 32, turned in sealed bytes, are told: in numbers. -/
theorem burst {X W k m : Nat} (hW : W < 2 ^ 32) (hW0 : W ≠ 0) (hk : k ≤ m) : stpn m (ones ^^^ (X ^^^ 2 ^ k * W)) ≠ stpn m (ones ^^^ X) := by
  intro h
  rw [← Nat.xor_assoc, stpn_xor] at h
  have h1 : stpn m (2 ^ k * W) = 0 := by
    have := congrArg (fun x => stpn m (ones ^^^ X) ^^^ x) h
    simpa [← Nat.xor_assoc] using this
  obtain ⟨d, rfl⟩ := Nat.exists_eq_add_of_le hk
  rw [stpn_add, stpn_shift] at h1
  have h2 : stpn d W = stpn d 0 := by rw [h1, stpn_zero]
  exact hW0 (stpn_inj hW (by decide) h2)
end Go.Proofs.Ytcfildbgnjhjmaa.Oct
