import Derived.Test.YtpcbpljdiacbmaaJFtlP
set_option linter.unusedVariables false
set_option linter.unusedSimpArgs false
namespace Go.Proofs.Ytpcbpljdiacbmaa.Ftl
open Go.RowKit Go.Proofs.Ytpcbpljdiacbmaa.Kit Go.Proofs.Ytpcbpljdiacbmaa.Oct Go.Proofs.Ytpcbpljdiacbmaa.Sheet Go.Proofs.Ytpcbpljdiacbmaa.Nand Go.Proofs.Ytpcbpljdiacbmaa.Plan Go.Proofs.Ytpcbpljdiacbmaa.Scan Go.Proofs.Ytpcbpljdiacbmaa.Pmap Go.Proofs.Ytpcbpljdiacbmaa.Pool

/-! What is found on an array. -/
def dd (N : NA) (i : Int) : Prop := (N.blk i.toNat).failed = true
noncomputable def L0 (c : FC) (N : NA) (i : Int) : List Fo := if i ∈ c.xs then found ((c.M : Int) - 1) (NB.seen (N.blk i.toNat)) else []
/-- Where an address's page is, and what stands there. -/
noncomputable def cF (st : FT) (a : Nat) : Option (Int × Fo) :=
 if st.has.getD a false = true then (st.pg a).map fun p => ((st.at'.getD a (0, 0)).1, ((st.at'.getD a (0, 0)).2.toNat, p)) else none
theorem xs_nat {c : FC} {i : Int} (h : i ∈ c.xs) : ∃ k : Nat, i = (k : Int) ∧ 2 ≤ k ∧ k < c.nb := by
 have := us_bd h
 obtain ⟨k, hk⟩ := Int.eq_ofNat_of_zero_le (show 0 ≤ i by omega)
 exact ⟨k, hk, by omega, by omega⟩
theorem found_snoc (lim : Int) (qs : List (List Int)) (q : List Int) : found lim (qs ++ [q]) = found lim qs ++ found1 lim qs.length q := by
 have h := found_take lim (qs ++ [q]) qs.length (by rw [List.length_append, List.length_singleton]; omega)
 rw [List.take_of_length_le (by rw [List.length_append, List.length_singleton]; omega), List.take_left' rfl, List.getD_eq_getElem?_getD, List.getElem?_append_right (Nat.le_refl _), Nat.sub_self] at h
 exact h
section
variable {c : FC} {N N' : NA} {b : Nat}
theorem L0_congr (h : ∀ i : Nat, (i : Int) ∈ c.xs → NB.seen (N'.blk i) = NB.seen (N.blk i)) : L0 c N' = L0 c N := by
 funext i
 unfold L0
 by_cases hi : i ∈ c.xs
 ·rw [if_pos hi, if_pos hi]
  obtain ⟨k, rfl, -⟩ := xs_nat hi
  rw [Int.toNat_natCast, h k hi]
 ·rw [if_neg hi, if_neg hi]
theorem L0_put (hb : (b : Int) ∈ c.xs) (ho : ∀ j, j ≠ b → N'.blk j = N.blk j) (hh : (N.blk b).half = false) (hh' : (N'.blk b).half = false) {q : List Int} (hp : (N'.blk b).pages = (N.blk b).pages ++ [q]) {p : Pg} (hq : q = p.bytes) (hok : p.ok) (hK : p.K ≠ 3) (ha : p.a < c.M) : L0 c N' = putL (L0 c N) (b : Int) ((N.blk b).pages.length, p) := by
 funext i
 unfold L0 putL
 dsimp only
 by_cases hi : i ∈ c.xs
 ·rw [if_pos hi, if_pos hi]
  obtain ⟨k, rfl, -⟩ := xs_nat hi
  rw [Int.toNat_natCast]
  by_cases e : (k : Int) = (b : Int)
  ·have e' : k = b := by omega
   subst e'
   rw [if_pos rfl]
   unfold NB.seen
   rw [hh, hh', if_neg (by decide), if_neg (by decide), hp, found_snoc]
   congr 1
   unfold found1
   rw [hq, rdP_yes hok rfl]
   simp only
   rw [if_pos (show p.of ((c.M : Int) - 1) = true from decide_eq_true ⟨hK, by omega⟩)]
  ·rw [if_neg e, ho k (by omega)]
 ·rw [if_neg hi, if_neg hi, if_neg (show ¬ i = (b : Int) from fun e => hi (by rw [e]; exact hb))]
theorem L0_torn (ho : ∀ j, j ≠ b → N'.blk j = N.blk j) (hh : (N.blk b).half = false) (hh' : (N'.blk b).half = false) {q : List Int} (hp : (N'.blk b).pages = (N.blk b).pages ++ [q]) (hq : rdP q = none) : L0 c N' = L0 c N := by
 funext i
 unfold L0
 by_cases hi : i ∈ c.xs
 ·rw [if_pos hi, if_pos hi]
  obtain ⟨k, rfl, -⟩ := xs_nat hi
  rw [Int.toNat_natCast]
  by_cases e : k = b
  ·subst e
   unfold NB.seen
   rw [hh, hh', if_neg (by decide), if_neg (by decide), hp, found_snoc]
   unfold found1
   rw [hq]
   simp
  ·rw [ho k e]
 ·rw [if_neg hi, if_neg hi]
theorem L0_clr (ho : ∀ j, j ≠ b → N'.blk j = N.blk j) (hp : NB.seen (N'.blk b) = []) : L0 c N' = clrL (L0 c N) (b : Int) := by
 funext i
 unfold L0 clrL
 dsimp only
 by_cases hi : i ∈ c.xs
 ·rw [if_pos hi, if_pos hi]
  obtain ⟨k, rfl, -⟩ := xs_nat hi
  rw [Int.toNat_natCast]
  by_cases e : (k : Int) = (b : Int)
  ·have e' : k = b := by omega
   subst e'
   rw [if_pos rfl, hp]
   rfl
  ·rw [if_neg e, ho k (by omega)]
 ·rw [if_neg hi, if_neg hi]
  split <;> rfl
theorem L0_mem {i : Int} {x : Fo} (h : x ∈ L0 c N i) : i ∈ c.xs ∧ (N.blk i.toNat).half = false ∧ x.1 < (N.blk i.toNat).pages.length ∧ rdP ((N.blk i.toNat).pages.getD x.1 []) = some x.2 ∧ x.2.K ≠ 3 ∧ x.2.a < c.M := by
 unfold L0 at h
 split at h
 ·rename_i hi
  have h' := found_mem.1 (show (x.1, x.2) ∈ found _ _ from h)
  unfold NB.seen at h'
  split at h'
  ·obtain ⟨h1, -⟩ := h'
   simp at h1
  ·rename_i hh
   obtain ⟨h1, h2, h3, h4⟩ := h'
   exact ⟨hi, by cases e : (N.blk i.toNat).half; rfl; exact absurd e hh, h1, h2, h3, by omega⟩
 ·cases h
theorem L0_nil (hh : (N.blk b).pages = [] ∨ (N.blk b).half = true) : L0 c N (b : Int) = [] := by
 cases hL : L0 c N (b : Int) with
 | nil => rfl
 | cons x l =>
  obtain ⟨-, h1, h2, -⟩ := L0_mem (c := c) (N := N) (i := (b : Int)) (x := x) (by rw [hL]; exact List.mem_cons_self)
  rw [Int.toNat_natCast] at h1 h2
  rcases hh with h | h
  ·rw [h] at h2; exact absurd h2 (by simp)
  ·rw [h] at h1; cases h1
/-- The bytes of a page that was cut short are no page. -/
theorem rdP_torn {q : List Int} (hq : q.length = 96) (cut : Int) (hc : cut < 96) : rdP (tornL q cut) = none := by
 refine rdP_last ?_
 unfold tornL
 rw [List.getD_eq_getElem?_getD, List.getElem?_append_right (by rw [List.length_take]; omega), List.getElem?_replicate, if_pos (by rw [List.length_take]; omega)]
 decide
theorem torn_all {q : List Int} (hq : q.length = 96) (cut : Int) (hc : 96 ≤ cut) : tornL q cut = q := by
 unfold tornL
 rw [List.take_of_length_le (by omega), show q.length - cut.toNat = 0 by omega]
 simp
theorem torn_isB {q : List Int} (h : IsB q) (cut : Int) : IsB (tornL q cut) := by
 intro x hx
 unfold tornL at hx
 rcases List.mem_append.1 hx with hx | hx
 ·exact h x (List.mem_of_mem_take hx)
 ·rw [List.mem_replicate] at hx; rw [hx.2]; decide
end
theorem cF_some {st : FT} {a : Nat} {i : Int} {x : Fo} (h : cF st a = some (i, x)) : st.has.getD a false = true ∧ i = (st.at'.getD a (0, 0)).1 ∧ x.1 = (st.at'.getD a (0, 0)).2.toNat ∧ st.pg a = some x.2 := by
 unfold cF at h
 split at h
 ·rename_i hh
  cases hp : st.pg a with
  | none => rw [hp] at h; cases h
  | some p =>
   rw [hp] at h
   injection h with h
   injection h with h1 h2
   rw [← h2, ← h1]
   exact ⟨hh, rfl, rfl, rfl⟩
 ·cases h
/-- The pages that count stand where they stood. -/
theorem cF_congr {st st' : FT} (ha : st'.at' = st.at') (hh : st'.has = st.has) (hp : ∀ a, st.has.getD a false = true → st'.pg a = st.pg a) : cF st' = cF st := by
 funext a
 unfold cF
 rw [hh, ha]
 by_cases e : st.has.getD a false = true
 ·rw [if_pos e, if_pos e, hp a e]
 ·rw [if_neg e, if_neg e]
end Go.Proofs.Ytpcbpljdiacbmaa.Ftl
