import Derived.Test.YtpcbpljdiacbmaaJFtlP
set_option linter.unusedVariables false
set_option linter.unusedSimpArgs false
namespace Go.Proofs.Ytpcbpljdiacbmaa.Ftl
open Go.RowKit Go.Proofs.Ytpcbpljdiacbmaa.Kit Go.Proofs.Ytpcbpljdiacbmaa.Oct Go.Proofs.Ytpcbpljdiacbmaa.Sheet Go.Proofs.Ytpcbpljdiacbmaa.Nand Go.Proofs.Ytpcbpljdiacbmaa.Plan Go.Proofs.Ytpcbpljdiacbmaa.Scan Go.Proofs.Ytpcbpljdiacbmaa.Pmap Go.Proofs.Ytpcbpljdiacbmaa.Pool

/-! The addresses on a block. -/
theorem byL_len (at' : List (Int × Int)) (has : List Bool) (k n : Nat) : (byL at' has k n).length = 32 := by
 induction n with
 | zero => rfl
 | succ n ih => rw [byL_succ, byF_len, ih]
theorem byL_spec {N M : Nat} {at' : List (Int × Int)} {has : List Bool} {cnt : List Int} (h : PI N M at' has cnt) (k : Nat) : ∀ n, (∀ P, P < 32 → (byL at' has k n).getD P 0 = 0 ∨ ∃ a, a < n ∧ (byL at' has k n).getD P 0 = (a : Int) + 1 ∧ onP at' has k a = true ∧ (at'.getD a (0, 0)).2 = (P : Int)) ∧ ∀ a, a < n → onP at' has k a = true → (byL at' has k n).getD (at'.getD a (0, 0)).2.toNat 0 = (a : Int) + 1 := by
 intro n
 induction n with
 | zero =>
  refine ⟨fun P hP => .inl ?_, fun a ha => absurd ha (by omega)⟩
  show (List.replicate 32 (0 : Int)).getD P 0 = 0
  rw [List.getD_eq_getElem?_getD, List.getElem?_replicate, if_pos hP]
  rfl
 | succ n ih =>
  obtain ⟨ih1, ih2⟩ := ih
  rw [byL_succ]
  have hl := byL_len at' has k n
  unfold byF
  by_cases hn : has.getD n false = true ∧ (at'.getD n (0, 0)).1 = (k : Int)
  ·rw [if_pos hn]
   have hon : onP at' has k n = true := by unfold onP; rw [hn.1, decide_eq_true hn.2]; rfl
   have hb := (h.here n hn.1).2
   have hg : ∀ P, ((byL at' has k n).set (at'.getD n (0, 0)).2.toNat ((n : Int) + 1)).getD P 0 = if P = (at'.getD n (0, 0)).2.toNat then (n : Int) + 1 else (byL at' has k n).getD P 0 := fun P => getD_set_any _ _ _ _ _ (by rw [hl]; omega)
   refine ⟨fun P hP => ?_, fun a ha hoa => ?_⟩
   ·rw [hg]
    by_cases e : P = (at'.getD n (0, 0)).2.toNat
    ·rw [if_pos e]
     exact .inr ⟨n, by omega, rfl, hon, by omega⟩
    ·rw [if_neg e]
     rcases ih1 P hP with g | ⟨a, ha, g⟩
     ·exact .inl g
     ·exact .inr ⟨a, by omega, g⟩
   ·rw [hg]
    by_cases e : (at'.getD a (0, 0)).2.toNat = (at'.getD n (0, 0)).2.toNat
    ·rw [if_pos e]
     have ho := hoa
     unfold onP at ho
     rw [Bool.and_eq_true, decide_eq_true_iff] at ho
     have hba := (h.here a ho.1).2
     have := h.inj a n ho.1 hn.1 (Prod.ext (by rw [ho.2, hn.2]) (by omega))
     rw [this]
    ·rw [if_neg e]
     have hne : a ≠ n := fun x => e (by rw [x])
     exact ih2 a (by omega) hoa
  ·rw [if_neg hn]
   refine ⟨fun P hP => ?_, fun a ha hoa => ?_⟩
   ·rcases ih1 P hP with g | ⟨a, ha, g⟩
    ·exact .inl g
    ·exact .inr ⟨a, by omega, g⟩
   ·have hne : a ≠ n := fun x => hn (by
     subst x
     unfold onP at hoa
     rw [Bool.and_eq_true, decide_eq_true_iff] at hoa
     exact hoa)
    exact ih2 a (by omega) hoa
theorem cnum_ex (p : Nat → Bool) (n : Nat) (h : 0 < cnum p n) : ∃ a, a < n ∧ p a = true := by
 induction n with
 | zero => exact absurd h (by simp [cnum])
 | succ n ih =>
  by_cases hp : p n = true
  ·exact ⟨n, by omega, hp⟩
  ·rw [cnum_succ, if_neg hp] at h
   obtain ⟨a, ha, hpa⟩ := ih (by omega)
   exact ⟨a, by omega, hpa⟩
/-- Each that On tells is an address whose page is there. -/
theorem on_mem {N M : Nat} {at' : List (Int × Int)} {has : List Bool} {cnt : List Int} (h : PI N M at' has cnt) (k : Nat) {x : Int} (hx : x ∈ outs (byL at' has k N)) : ∃ a, a < N ∧ x = (a : Int) ∧ has.getD a false = true ∧ (at'.getD a (0, 0)).1 = (k : Int) := by
 unfold outs at hx
 obtain ⟨y, hy, rfl⟩ := List.mem_map.1 hx
 obtain ⟨hy1, hy2⟩ := List.mem_filter.1 hy
 obtain ⟨P, hP, e⟩ := List.mem_iff_getElem.1 hy1
 rw [byL_len] at hP
 have hg : (byL at' has k N).getD P 0 = y := by rw [List.getD_eq_getElem?_getD, List.getElem?_eq_getElem (by rw [byL_len]; exact hP)]; exact e
 rcases (byL_spec h k N).1 P hP with g | ⟨a, ha, g, ho, -⟩
 ·rw [hg] at g
  rw [g] at hy2
  exact absurd hy2 (by decide)
 ·rw [hg] at g
  unfold onP at ho
  rw [Bool.and_eq_true, decide_eq_true_iff] at ho
  exact ⟨a, ha, by omega, ho.1, ho.2⟩
theorem on_has {N M : Nat} {at' : List (Int × Int)} {has : List Bool} {cnt : List Int} (h : PI N M at' has cnt) (k a : Nat) (ha : has.getD a false = true) (hk : (at'.getD a (0, 0)).1 = (k : Int)) : (a : Int) ∈ outs (byL at' has k N) := by
 have hl : a < N := by rw [← h.lh]; exact has_lt ha
 have hg := (byL_spec h k N).2 a hl (by unfold onP; rw [ha, decide_eq_true hk]; rfl)
 have hb := (h.here a ha).2
 unfold outs
 refine List.mem_map.2 ⟨(a : Int) + 1, List.mem_filter.2 ⟨?_, decide_eq_true (by omega)⟩, by omega⟩
 rw [List.getD_eq_getElem?_getD, List.getElem?_eq_getElem (by rw [byL_len]; omega)] at hg
 rw [← show _ = (a : Int) + 1 from hg]
 exact List.getElem_mem _
theorem on_pos {N M : Nat} {at' : List (Int × Int)} {has : List Bool} {cnt : List Int} (h : PI N M at' has cnt) (k : Nat) (hk : k < M) (hc : cnt.getD k 0 ≠ 0) : outs (byL at' has k N) ≠ [] := by
 rw [h.on k hk] at hc
 obtain ⟨a, ha, ho⟩ := cnum_ex (onP at' has k) N (by omega)
 unfold onP at ho
 rw [Bool.and_eq_true, decide_eq_true_iff] at ho
 have := on_has h k a ho.1 ho.2
 intro e
 rw [e] at this
 cases this

/-! The least of some numbers. -/
theorem exists_least {P : Nat → Prop} (h : ∃ n, P n) : ∃ n, P n ∧ ∀ m, P m → n ≤ m := by
 obtain ⟨n, hn⟩ := h
 induction n using Nat.strongRecOn with
 | ind n ih =>
  by_cases hm : ∃ m, m < n ∧ P m
  ·obtain ⟨m, hlt, hp⟩ := hm
   exact ih m hlt hp
  ·refine ⟨n, hn, fun m hp => ?_⟩
   by_cases e : n ≤ m
   ·exact e
   ·exact absurd ⟨m, by omega, hp⟩ hm
open Classical in
noncomputable def lst (P : Nat → Prop) : Nat := if h : ∃ n, P n then (exists_least h).choose else 0
theorem lst_spec {P : Nat → Prop} (h : ∃ n, P n) : P (lst P) := by
 unfold lst
 rw [dif_pos h]
 exact (exists_least h).choose_spec.1
theorem lst_le {P : Nat → Prop} {m : Nat} (h : P m) : lst P ≤ m := by
 unfold lst
 rw [dif_pos ⟨m, h⟩]
 exact (exists_least ⟨m, h⟩).choose_spec.2 m h

/-! The best of some blocks. -/
theorem bestF_spec (hs : List (Option Nat)) (ws : List Int) (v : Nat) (xs : List Int) (hx : ∀ x ∈ xs, 0 ≤ x ∧ x < (ws.length : Int)) :
  (∀ j, bestF hs ws v xs = some j → j ∈ xs ∧ (hAt hs j).getD 0 = v ∧ ∀ x ∈ xs, (hAt hs x).getD 0 = v → ws.getD j.toNat 0 ≤ ws.getD x.toNat 0) ∧ (bestF hs ws v xs = none → ∀ x ∈ xs, (hAt hs x).getD 0 ≠ v) := by
 induction xs using snoc_ind with
 | h0 => exact ⟨fun j h => (by cases h), fun _ x hx => (by cases hx)⟩
 | h1 l y ih =>
  obtain ⟨ih1, ih2⟩ := ih (fun x hx' => hx x (List.mem_append_left _ hx'))
  have hy := hx y (List.mem_append_right _ (List.mem_singleton.2 rfl))
  rw [bestF_snoc]
  unfold bstep
  by_cases hc : (hAt hs y).getD 0 = v ∧ y < (ws.length : Int) ∧ bOk ws (bestF hs ws v l) y = true
  ·rw [if_pos hc]
   refine ⟨fun j hj => ?_, fun h => (by cases h)⟩
   injection hj with hj
   subst hj
   refine ⟨List.mem_append_right _ (List.mem_singleton.2 rfl), hc.1, fun x hx' hxv => ?_⟩
   rcases List.mem_append.1 hx' with hx' | hx'
   ·have hok := hc.2.2
    unfold bOk at hok
    cases hb : bestF hs ws v l with
    | none => exact absurd hxv (ih2 hb x hx')
    | some j =>
     rw [hb] at hok
     have := (ih1 j hb).2.2 x hx' hxv
     have hok := of_decide_eq_true hok
     omega
   ·rw [List.mem_singleton.1 hx']; exact Int.le_refl _
  ·rw [if_neg hc]
   refine ⟨fun j hj => ?_, fun h x hx' hxv => ?_⟩
   ·obtain ⟨g1, g2, g3⟩ := ih1 j hj
    refine ⟨List.mem_append_left _ g1, g2, fun x hx' hxv => ?_⟩
    rcases List.mem_append.1 hx' with hx' | hx'
    ·exact g3 x hx' hxv
    ·have e := List.mem_singleton.1 hx'
     subst e
     by_cases hlt : ws.getD x.toNat 0 < ws.getD j.toNat 0
     ·exfalso
      refine hc ⟨hxv, hy.2, ?_⟩
      rw [hj]
      exact decide_eq_true hlt
     ·omega
   ·rcases List.mem_append.1 hx' with hx' | hx'
    ·exact ih2 h x hx' hxv
    ·rw [List.mem_singleton.1 hx'] at hxv
     exact hc ⟨hxv, hy.2, by rw [h]; rfl⟩
end Go.Proofs.Ytpcbpljdiacbmaa.Ftl
