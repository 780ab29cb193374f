import Derived.Test.YtpcbpljdiacbmaaJFtlL
import Derived.Test.YtpcbpljdiacbmaaJScanRun
set_option linter.unusedVariables false
set_option linter.unusedSimpArgs false
namespace Go.Proofs.Ytpcbpljdiacbmaa.Ftl
open Go.RowKit Go.Proofs.Ytpcbpljdiacbmaa.Kit Go.Proofs.Ytpcbpljdiacbmaa.Scan

/-! What scan.All tells is the newest page of each address that is on no block of copies. -/
def foL (L : Int → List Scan.Fd) : Int → List Fo := fun i => (L i).map fun x => (x.k, x.p)
theorem foL_mem {L : Int → List Scan.Fd} {i : Int} {z : Fo} : z ∈ foL L i ↔ ∃ x ∈ L i, z = (x.k, x.p) := by
 unfold foL
 rw [List.mem_map]
 exact ⟨fun ⟨x, h, e⟩ => ⟨x, h, e.symm⟩, fun ⟨x, h, e⟩ => ⟨x, h, e.symm⟩⟩
theorem cop_iff (L : Int → List Scan.Fd) (i : Int) : copiedB L i = true ↔ Cop (foL L) i := by
 unfold copiedB Cop
 cases hL : L i with
 | nil =>
  have e : foL L i = [] := by unfold foL; rw [hL]; rfl
  rw [e]
  exact ⟨fun h => (by cases h), fun h => absurd rfl h.1⟩
 | cons x0 r =>
  have e : foL L i = (x0.k, x0.p) :: r.map (fun x => (x.k, x.p)) := by unfold foL; rw [hL]; rfl
  have ef : frm (foL L i) = (x0.p.f : Int) - 1 := by rw [e]; rfl
  simp only
  rw [ef, Bool.and_eq_true, decide_eq_true_iff, List.all_eq_true]
  constructor
  ·rintro ⟨h1, h2⟩
   refine ⟨by rw [e]; simp, by omega, fun z hz => ?_⟩
   obtain ⟨x, hx, rfl⟩ := foL_mem.1 hz
   rw [hL] at hx
   have h3 := h2 x hx
   rw [Bool.and_eq_true, decide_eq_true_iff, List.any_eq_true] at h3
   obtain ⟨h4, o, ho, h5⟩ := h3
   refine ⟨by show (x.p.f : Int) - 1 = _; omega, (o.k, o.p), foL_mem.2 ⟨o, ho, rfl⟩, h5⟩
  ·rintro ⟨-, h1, h2⟩
   refine ⟨by omega, fun x hx => ?_⟩
   obtain ⟨h3, o', ho', h5⟩ := h2 (x.k, x.p) (foL_mem.2 ⟨x, by rw [hL]; exact hx, rfl⟩)
   obtain ⟨o, ho, rfl⟩ := foL_mem.1 ho'
   rw [Bool.and_eq_true, decide_eq_true_iff, List.any_eq_true]
   exact ⟨by have h3 : (x.p.f : Int) - 1 = (x0.p.f : Int) - 1 := h3; omega, o, ho, h5⟩
theorem spoil_all {U : List Int} {L : Int → List Scan.Fd} (nd : U.Nodup) (ho : ∀ i ∈ U, Cop (foL L) i → ¬ Cop (foL L) (frm (foL L i))) : ∀ i, (spoilS U L).1 i = if i ∈ U ∧ copiedB L i = true then [] else L i := by
 have key : ∀ l : List Int, (∀ j ∈ l, j ∈ U) → l.Nodup → ∀ i, (spoilS l L).1 i = if i ∈ l ∧ copiedB L i = true then [] else L i := by
  intro l
  induction l using snoc_ind with
  | h0 => intro _ _ i; rfl
  | h1 l q ih =>
   intro hs hn i
   have hn' := List.nodup_append.1 hn
   have e := ih (fun j hj => hs j (List.mem_append_left _ hj)) hn'.1
   have hql : q ∉ l := fun hm => hn'.2.2 q hm q (List.mem_singleton.2 rfl) rfl
   have hqU : q ∈ U := hs q (List.mem_append_right _ (List.mem_singleton.2 rfl))
   have eq1 : (spoilS l L).1 q = L q := by rw [e q, if_neg (fun h => hql h.1)]
   have hsub : ∀ j, ∀ x ∈ (spoilS l L).1 j, x ∈ L j := fun j x hx => by
    rw [e j] at hx
    split at hx
    ·cases hx
    ·exact hx
   have hcq : copiedB (spoilS l L).1 q = copiedB L q := by
    rw [Bool.eq_iff_iff, cop_iff, cop_iff]
    have ef : foL (spoilS l L).1 q = foL L q := by unfold foL; rw [eq1]
    constructor
    ·rintro ⟨h1, h2, h3⟩
     rw [ef] at h1 h2 h3
     refine ⟨h1, h2, fun x hx => ?_⟩
     obtain ⟨g1, o, g2, g3⟩ := h3 x hx
     obtain ⟨o', ho', rfl⟩ := foL_mem.1 g2
     exact ⟨g1, _, foL_mem.2 ⟨o', hsub _ o' ho', rfl⟩, g3⟩
    ·intro hc
     have hnc := ho q hqU hc
     obtain ⟨h1, h2, h3⟩ := hc
     have e2 : foL (spoilS l L).1 (frm (foL L q)) = foL L (frm (foL L q)) := by
      unfold foL
      rw [e, if_neg (fun h => hnc ((cop_iff L _).1 h.2))]
     refine ⟨by rw [ef]; exact h1, by rw [ef]; exact h2, fun x hx => ?_⟩
     rw [ef] at hx ⊢
     rw [e2]
     exact h3 x hx
   rw [spoilS_snoc, hcq]
   by_cases hc : copiedB L q = true
   ·rw [if_pos hc]
    show strikeL (spoilS l L).1 q i = _
    unfold strikeL
    by_cases hi : i = q
    ·subst hi
     rw [if_pos rfl, if_pos ⟨List.mem_append_right _ (List.mem_singleton.2 rfl), hc⟩]
    ·rw [if_neg hi, e i]
     by_cases h2 : i ∈ l ∧ copiedB L i = true
     ·rw [if_pos h2, if_pos ⟨List.mem_append_left _ h2.1, h2.2⟩]
     ·rw [if_neg h2, if_neg (fun h => h2 ⟨(List.mem_append.1 h.1).resolve_right (fun x => hi (List.mem_singleton.1 x)), h.2⟩)]
   ·rw [if_neg hc, e i]
    by_cases h2 : i ∈ l ∧ copiedB L i = true
    ·rw [if_pos h2, if_pos ⟨List.mem_append_left _ h2.1, h2.2⟩]
    ·rw [if_neg h2, if_neg (fun h => ?_)]
     rcases List.mem_append.1 h.1 with h3 | h3
     ·exact h2 ⟨h3, h.2⟩
     ·rw [List.mem_singleton.1 h3] at h; exact hc h.2
 exact key U (fun _ h => h) nd
/-- What All's map tells. -/
def newC (U : List Int) (L : Int → List Scan.Fd) (a : Nat) : Option (Int × Fo) := (newest (a : Int) (flatF U (spoilS U L).1)).map fun y => (y.1, (y.2.k, y.2.p))
theorem newC_is {U : List Int} {L : Int → List Scan.Fd} (nd : U.Nodup) (ho : ∀ i ∈ U, Cop (foL L) i → ¬ Cop (foL L) (frm (foL L i))) : IsNew U (foL L) (newC U L) := by
 have hs := spoil_all nd ho
 have hfm : ∀ {y : Int × Scan.Fd}, y ∈ flatF U (spoilS U L).1 ↔ y.1 ∈ U ∧ ¬ Cop (foL L) y.1 ∧ y.2 ∈ L y.1 := fun {y} => by
  rw [flatF_mem, hs]
  constructor
  ·rintro ⟨h1, h2⟩
   split at h2
   ·cases h2
   ·rename_i h3
    exact ⟨h1, fun hc => h3 ⟨h1, (cop_iff L _).2 hc⟩, h2⟩
  ·rintro ⟨h1, h2, h3⟩
   refine ⟨h1, ?_⟩
   rw [if_neg (fun h => h2 ((cop_iff L _).1 h.2))]
   exact h3
 refine ⟨fun a hn i hi hc z hz e => ?_, fun a i z hz => ?_⟩
 ·unfold newC at hn
  obtain ⟨x, hx, rfl⟩ := foL_mem.1 hz
  obtain ⟨y, hy, -⟩ := newest_has (a := (a : Int)) (z := (i, x)) (hfm.2 ⟨hi, hc, hx⟩) (by show (x.p.a : Int) = a; have : x.p.a = a := e; omega)
  rw [hy] at hn
  cases hn
 ·unfold newC at hz
  cases hy : newest (a : Int) (flatF U (spoilS U L).1) with
  | none => rw [hy] at hz; cases hz
  | some y =>
   rw [hy] at hz
   injection hz with hz
   injection hz with z1 z2
   subst z1; subst z2
   obtain ⟨hm, hya⟩ := newest_spec (a : Int) _ y hy
   obtain ⟨m1, m2, m3⟩ := hfm.1 hm
   refine ⟨⟨m1, m2, foL_mem.2 ⟨y.2, m3, rfl⟩, by show y.2.p.a = a; omega⟩, fun j hj hc r hr hra => ?_⟩
   obtain ⟨x, hx, rfl⟩ := foL_mem.1 hr
   exact (newest_max (a : Int) _).2 y hy (j, x) (hfm.2 ⟨hj, hc, hx⟩) (by show (x.p.a : Int) = a; have : x.p.a = a := hra; omega)
end Go.Proofs.Ytpcbpljdiacbmaa.Ftl
