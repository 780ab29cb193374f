import Derived.Test.YtnlidokfmpfepaaPoolNew
set_option linter.unusedVariables false
set_option linter.unusedSimpArgs false
namespace Go.Proofs.Ytnlidokfmpfepaa.Pool
open Go.RowKit Go.Proofs.Ytnlidokfmpfepaa.Kit Go.Maps

def cntH (hs : List (Option Nat)) (v : Nat) : Nat := (List.range 64).countP (fun k => hs.getD k none == some v)
/-- What is still to come of those that stand so. -/
def restH (hs : List (Option Nat)) (left : Lit → Bool) (v : Nat) : Nat := (List.range 64).countP (fun k => hs.getD k none == some v && left (.int .i64 (k : Int)))
theorem countP_strike (q : Nat → Bool) (k0 : Nat) : ∀ n, (List.range n).countP (fun k => q k && !(k == k0)) + (if k0 < n ∧ q k0 = true then 1 else 0) = (List.range n).countP q := by
  intro n
  induction n with
  | zero => rfl
  | succ n ih =>
    rw [List.range_succ, List.countP_append, List.countP_append, ← ih]
    have e : ∀ g : Nat → Bool, List.countP g [n] = if g n = true then 1 else 0 := fun g => by rw [List.countP_cons, List.countP_nil, Nat.zero_add]
    rw [e, e]
    by_cases hk : n = k0
    · subst hk
      cases hq : q n
      · simp
      · simp
    · have hk' : (n == k0) = false := by rw [beq_eq_false_iff_ne]; exact hk
      rw [hk']
      simp only [Bool.not_false, Bool.and_true]
      by_cases h2 : k0 < n
      · have h3 : k0 < n + 1 := by omega
        simp only [h2, h3]
        omega
      · have h3 : ¬ k0 < n + 1 := by omega
        simp only [h2, h3]
        omega
theorem sameKey_nat (k j : Nat) : (Lit.int .i64 (k : Int)).sameKey (.int .i64 (j : Int)) = (k == j) := by
  by_cases e : k = j
  · subst e
    rw [WideAt.sameKey_self (show WideAt.IsKeyLit (Lit.int .i64 (k : Int)) from trivial)]
    simp
  · rw [sameKey_ne (by intro h; injection h with _ h; omega)]
    simp [e]
theorem restH_strike (hs : List (Option Nat)) (left : Lit → Bool) (v k0 u : Nat) (hk : k0 < 64) (hu : hs.getD k0 none = some u) (hl : left (.int .i64 (k0 : Int)) = true) :
    restH hs (fun z => left z && !z.sameKey (.int .i64 (k0 : Int))) v + (if u = v then 1 else 0) = restH hs left v := by
  unfold restH
  rw [← countP_strike (fun k => hs.getD k none == some v && left (.int .i64 (k : Int))) k0 64]
  congr 1
  · apply List.countP_congr
    intro k _
    simp only [sameKey_nat]
    simp [Bool.and_assoc]
  · simp only [hu, hl, hk]
    by_cases e : u = v
    · simp [e]
    · simp [e]
theorem restH_none (hs : List (Option Nat)) (left : Lit → Bool) (v : Nat) (h : ∀ kl, left kl = false) : restH hs left v = 0 := by
  unfold restH
  rw [List.countP_eq_zero]
  intro k _
  simp [h]
theorem restH_le (hs : List (Option Nat)) (left : Lit → Bool) (v : Nat) : restH hs left v ≤ 64 := by
  unfold restH
  exact Nat.le_trans List.countP_le_length (by simp)
theorem below_of_grown {w w' : World} (h : w.grownBy w' none) : Below w.heap.size w w' := ⟨h.os, h.tape, h.output, h.size, fun i hi => h.block i hi (by simp)⟩

set_option maxRecDepth 100000 in
set_option maxHeartbeats 4000000 in
theorem count_any (b g n : Nat) (A : Option Addr) (m c : Nat) (xs : List Int) (hs : List (Option Nat)) (v : Nat) (w : World) (h : PS w b g n A m c xs hs) (hv : v < 256) :
    Calls Try.prog 22 #[.pointer (some ⟨b, 0, none⟩), .int .u8 (v : Int)] w fun e w' => e = .returned (.int .i64 (cntH hs v : Int)) ∧ Below w.heap.size w w' := by
  obtain ⟨c0, c1⟩ := h.cells
  obtain ⟨D, hown, hD⟩ := h.mp
  have hall : restH hs (Maps.has D) v = cntH hs v := by
    unfold restH cntH
    apply List.countP_congr
    intro k hk
    have hk64 : k < 64 := by simpa using hk
    have := hD (k : Int) (i64wf_of (by omega))
    rw [hAt_nat hs k hk64] at this
    cases hh : hs.getD k none with
    | none => simp
    | some u =>
      rw [(this.2 u hh).1]
      simp
  have hcl : cntH hs v ≤ 64 := by unfold cntH; exact Nat.le_trans List.countP_le_length (by simp)
  have Hall := hid hall
  have HD := hid hD
  clear h hall hD
  go_enter Try.func22, Try.ntmps22
  go_wp2_with (first
    | (at_range; refine wpList_range_own _ rfl _ 71 rfl 3 5 law3 Try.underlying71 _ g n _ rfl hown ?_; intro w0 hrg0 hg0 hs0)
    | go_in)
  go_frame
  go_loopw [5] (fun a wr => ∃ (left : Lit → Bool) (cnt acc : Nat), a = .int .i64 (acc : Int) ∧ acc + restH hs left v = cntH hs v ∧ wr.ranges Try.prog 3 (plainElem Try.prog 5) g w.heap.size n D left cnt ∧ w.grownBy wr none)
    (fun _ wr => wr.rangeLeft g w.heap.size)
  case atStart => exact ⟨_, _, 0, rfl, by rw [Hall.out]; omega, hrg0, hg0⟩
  case round =>
    obtain ⟨left, cnt, acc, rfl, hacc, hrg, hgw⟩ := hrel
    clear hrg0 hg0 hs0 c0 c1
    go_wp2_with (first
      | (at_next; refine wpList_next_ranges_ii _ rfl _ rfl 3 5 .i64 .u8 law3 Try.underlying3 Try.underlying5 g w.heap.size n _ _ _ rfl hrg ?_ ?_)
      | go_in)
    · intro _ hl0
      have e0 := restH_none hs left v hl0
      have ea : acc = cntH hs v := by omega
      have Ha := hid ea
      clear ea e0 hacc hl0 hrg
      go_wp2
      go_ret
      rw [Ha.out]
      exact ⟨rfl, below_of_grown hgw⟩
    · intro x cc w1 cnt1 hwx hwc hlx hat hrg1 hlt hg1 hs1 hen
      have hgw1 := hgw.andThen hg1 (fun j hj => by cases hj; exact Or.inl (Nat.le_refl _))
      have hstep : ∃ k u : Nat, x = (k : Int) ∧ cc = (u : Int) ∧ u < 256 ∧ restH hs (fun z => left z && !z.sameKey (.int .i64 x)) v + (if u = v then 1 else 0) = restH hs left v := by
        have hD := HD.out x hwx
        have hh := has_true_of_atKey hat
        cases hx : hAt hs x with
        | none =>
          rw [hD.1 hx] at hh
          cases hh
        | some u =>
          have h2 := (hD.2 u hx).2 .nil
          rw [hat .nil] at h2
          injection h2 with h2
          injection h2 with _ h2
          unfold hAt at hx
          split at hx
          · rename_i hr
            obtain ⟨k, rfl⟩ := Int.eq_ofNat_of_zero_le hr.1
            obtain ⟨q0, q1⟩ := wf_u8 hwc
            exact ⟨k, u, rfl, h2, by omega, restH_strike hs left v k u (by omega) hx hlx⟩
          · cases hx
      obtain ⟨k, u, rfl, rfl, hu, hst⟩ := hstep
      have hm : w1.rangeLeft g w.heap.size < wr.rangeLeft g w.heap.size := by rw [hrg1.left_eq, hrg.left_eq]; exact hlt
      have Hrg1 := hid hrg1
      have Hgw1 := hid hgw1
      clear hat hrg1 hrg hg1 hgw hwx hwc hlx hgw1 hlt
      by_cases huv : u = v
      · subst huv
        rw [if_pos rfl] at hst
        have hacc' : acc + 1 + restH hs (fun z => left z && !z.sameKey (.int .i64 (k : Int))) u = cntH hs u := by omega
        have Ha := hid hacc'
        clear hacc'
        go_wp2
        go_roundw
        case rel => exact ⟨_, cnt1, acc + 1, by go_num, Ha.out, Hrg1.out, Hgw1.out⟩
        case measure => exact hm
      · rw [if_neg huv] at hst
        have hne : ((u : Int) == (v : Int)) = false := by rw [beq_eq_false_iff_ne]; omega
        have hacc' : acc + restH hs (fun z => left z && !z.sameKey (.int .i64 (k : Int))) v = cntH hs v := by omega
        have Ha := hid hacc'
        clear hacc'
        go_wp2
        go_roundw
        case rel => exact ⟨_, cnt1, acc, by go_num, Ha.out, Hrg1.out, Hgw1.out⟩
        case measure => exact hm
end Go.Proofs.Ytnlidokfmpfepaa.Pool
