import Derived.Test.YtpcbpljdiacbmaaJScanAllP
set_option linter.unusedVariables false
set_option linter.unusedSimpArgs false
namespace Go.Proofs.Ytpcbpljdiacbmaa.Ftl
open Go.RowKit Go.Proofs.Ytpcbpljdiacbmaa.Kit Go.Proofs.Ytpcbpljdiacbmaa.Scan

/-! What was written is there: what is found on the blocks, and what each address has. No program in sight. -/
/-- A page that is found: its place in its block, what stands on it. -/
abbrev Fo := Nat × Pg
/-- Of which block the first page is a copy. -/
def frm : List Fo → Int
 | [] => -1
 | x :: _ => (x.2.f : Int) - 1
def sameP (x y : Pg) : Prop := x.K = y.K ∧ x.ys = y.ys
/-- All pages of block i are copies of one block's, which are there. -/
def Cop (L : Int → List Fo) (i : Int) : Prop := L i ≠ [] ∧ 0 ≤ frm (L i) ∧ ∀ x ∈ L i, (x.2.f : Int) - 1 = frm (L i) ∧ ∃ o ∈ L (frm (L i)), copyOf o.2 x.2 = true
theorem copyOf_iff {o x : Pg} : copyOf o x = true ↔ o.K = x.K ∧ o.a = x.a ∧ o.S < x.S ∧ o.ys = x.ys := by
 unfold copyOf
 exact decide_eq_true_iff
/-- c tells of each address its page. dd: the blocks that are dead. -/
structure Good (U : List Int) (dd : Int → Prop) (L : Int → List Fo) (c : Nat → Option (Int × Fo)) : Prop where
 here : ∀ a i x, c a = some (i, x) → i ∈ U ∧ x ∈ L i ∧ x.2.a = a
 all : ∀ i ∈ U, ∀ x ∈ L i, ∃ y, c x.2.a = some y
 late : ∀ i ∈ U, ∀ x ∈ L i, ∀ j y, c x.2.a = some (j, y) → (i = j ∧ x = y) ∨ x.2.S < y.2.S ∨ (dd i ∧ Cop L i ∧ frm (L i) = j ∧ sameP x.2 y.2)
 back : ∀ a i x, c a = some (i, x) → Cop L i → ∃ o ∈ L (frm (L i)), o.2.a = a ∧ sameP o.2 x.2 ∧ ∀ j ∈ U, ∀ r ∈ L j, r.2.a = a → (j = i ∧ r = x) ∨ r.2.S ≤ o.2.S ∨ (dd j ∧ Cop L j ∧ frm (L j) = frm (L i) ∧ sameP r.2 o.2)
 once : ∀ i ∈ U, Cop L i → ¬ Cop L (frm (L i))
 one : ∀ i ∈ U, ∀ j ∈ U, ∀ x ∈ L i, ∀ y ∈ L j, x.2.S = y.2.S → i = j ∧ x = y
 out : ∀ i, i ∉ U → L i = []
/-- .. if it has a page. -/
def Vof (c : Nat → Option (Int × Fo)) (a : Nat) : Option (List Int) := (c a).map fun y => y.2.2.ys
def putL (L : Int → List Fo) (b : Int) (p : Fo) : Int → List Fo := fun i => if i = b then L i ++ [p] else L i
def clrL (L : Int → List Fo) (b : Int) : Int → List Fo := fun i => if i = b then [] else L i
def updC (c : Nat → Option (Int × Fo)) (a : Nat) (y : Int × Fo) : Nat → Option (Int × Fo) := fun n => if n = a then some y else c n
section
variable {U : List Int} {dd dd' : Int → Prop} {L : Int → List Fo} {c : Nat → Option (Int × Fo)} {b i : Int}
theorem putL_same (p : Fo) : putL L b p b = L b ++ [p] := if_pos rfl
theorem putL_other (p : Fo) (h : i ≠ b) : putL L b p i = L i := if_neg h
theorem putL_mem {p x : Fo} (h : x ∈ putL L b p i) : (i = b ∧ x = p) ∨ x ∈ L i := by
 unfold putL at h
 split at h
 ·rename_i e
  rcases List.mem_append.1 h with h | h
  ·exact .inr h
  ·exact .inl ⟨e, List.mem_singleton.1 h⟩
 ·exact .inr h
theorem mem_putL {p x : Fo} (h : x ∈ L i) : x ∈ putL L b p i := by
 unfold putL
 split
 ·exact List.mem_append_left _ h
 ·exact h
theorem clrL_same : clrL L b b = [] := if_pos rfl
theorem clrL_other (h : i ≠ b) : clrL L b i = L i := if_neg h
theorem clrL_mem {x : Fo} (h : x ∈ clrL L b i) : i ≠ b ∧ x ∈ L i := by
 unfold clrL at h
 split at h
 ·cases h
 ·rename_i e; exact ⟨e, h⟩
theorem frm_append (l : List Fo) (p : Fo) (h : l ≠ []) : frm (l ++ [p]) = frm l := by
 cases l with
 | nil => exact absurd rfl h
 | cons x l => rfl
theorem Cop.from_ne (h : Cop L i) : L (frm (L i)) ≠ [] := by
 obtain ⟨h1, h2, h3⟩ := h
 obtain ⟨x, hx⟩ := List.exists_mem_of_ne_nil _ h1
 obtain ⟨-, o, ho, -⟩ := h3 x hx
 exact List.ne_nil_of_mem ho
theorem Cop.clr (h : Cop (clrL L b) i) : i ≠ b ∧ Cop L i ∧ frm (L i) ≠ b := by
 have hi : i ≠ b := fun e => h.1 (by rw [e, clrL_same])
 have e : clrL L b i = L i := clrL_other hi
 have hf := h.from_ne
 obtain ⟨h1, h2, h3⟩ := h
 rw [e] at h1 h2 h3 hf
 have hfb : frm (L i) ≠ b := fun e => hf (by rw [e, clrL_same])
 rw [clrL_other hfb] at h3
 exact ⟨hi, ⟨h1, h2, h3⟩, hfb⟩
theorem Cop.clr_of (h : Cop L i) (hi : i ≠ b) (hf : frm (L i) ≠ b) : Cop (clrL L b) i := by
 obtain ⟨h1, h2, h3⟩ := h
 refine ⟨?_, ?_, ?_⟩ <;> rw [clrL_other hi]
 ·exact h1
 ·exact h2
 ·rw [clrL_other hf]; exact h3
theorem Good.weak (h : Good U dd L c) (hd : ∀ i, dd i → dd' i) : Good U dd' L c :=
 ⟨h.here, h.all, fun i hi x hx j y hc => (h.late i hi x hx j y hc).imp id (Or.imp id (fun ⟨a, r⟩ => ⟨hd _ a, r⟩)), fun a i x hc hp => by
  obtain ⟨o, ho, h1, h2, h3⟩ := h.back a i x hc hp
  exact ⟨o, ho, h1, h2, fun j hj r hr hra => (h3 j hj r hr hra).imp id (Or.imp id (fun ⟨a, r⟩ => ⟨hd _ a, r⟩))⟩, h.once, h.one, h.out⟩
/-- A block on which no address has its page is erased. -/
theorem Good.clr (h : Good U dd L c) (hb : ∀ a i x, c a = some (i, x) → i ≠ b) : Good U dd (clrL L b) c where
 here := fun a i x hc => by
  obtain ⟨h1, h2, h3⟩ := h.here a i x hc
  exact ⟨h1, by rw [clrL_other (hb a i x hc)]; exact h2, h3⟩
 all := fun i hi x hx => h.all i hi x (clrL_mem hx).2
 late := fun i hi x hx j y hc => by
  obtain ⟨hib, hx'⟩ := clrL_mem hx
  rcases h.late i hi x hx' j y hc with h1 | h1 | ⟨h1, h2, h3, h4⟩
  ·exact .inl h1
  ·exact .inr (.inl h1)
  ·refine .inr (.inr ⟨h1, h2.clr_of hib (by rw [h3]; exact hb _ _ _ hc), ?_, h4⟩)
   rw [clrL_other hib]; exact h3
 back := fun a i x hc hp => by
  obtain ⟨hib, hp', hfb⟩ := hp.clr
  obtain ⟨o, ho, h1, h2, h3⟩ := h.back a i x hc hp'
  rw [clrL_other hib]
  refine ⟨o, by rw [clrL_other hfb]; exact ho, h1, h2, fun j hj r hr hra => ?_⟩
  obtain ⟨hjb, hr'⟩ := clrL_mem hr
  rcases h3 j hj r hr' hra with g1 | g1 | ⟨g1, g2, g3, g4⟩
  ·exact .inl g1
  ·exact .inr (.inl g1)
  ·refine .inr (.inr ⟨g1, g2.clr_of hjb (by rw [g3]; exact hfb), ?_, g4⟩)
   rw [clrL_other hjb]; exact g3
 once := fun i hi hp hq => by
  obtain ⟨hib, hp', hfb⟩ := hp.clr
  rw [clrL_other hib] at hq
  exact h.once i hi hp' hq.clr.2.1
 one := fun i hi j hj x hx y hy e => h.one i hi j hj x (clrL_mem hx).2 y (clrL_mem hy).2 e
 out := fun i hi => by
  unfold clrL
  split
  ·rfl
  ·exact h.out i hi
/-- A page of a greater number makes no block one of copies, but its own. -/
theorem Cop.put_iff {p : Fo} (hi : i ≠ b) (hS : ∀ x ∈ L i, x.2.S < p.2.S) : Cop (putL L b p) i ↔ Cop L i := by
 have e : putL L b p i = L i := putL_other p hi
 constructor
 ·rintro ⟨h1, h2, h3⟩
  rw [e] at h1 h2 h3
  refine ⟨h1, h2, fun x hx => ?_⟩
  obtain ⟨g1, o, ho, g2⟩ := h3 x hx
  refine ⟨g1, o, ?_, g2⟩
  rcases putL_mem ho with ⟨-, rfl⟩ | ho
  ·have := (copyOf_iff.1 g2).2.2.1
   have := hS x hx
   omega
  ·exact ho
 ·rintro ⟨h1, h2, h3⟩
  refine ⟨by rw [e]; exact h1, by rw [e]; exact h2, fun x hx => ?_⟩
  rw [e] at hx ⊢
  obtain ⟨g1, o, ho, g2⟩ := h3 x hx
  exact ⟨g1, o, mem_putL ho, g2⟩
theorem Good.mem_U (h : Good U dd L c) {x : Fo} (hx : x ∈ L i) : i ∈ U := by
 by_cases e : i ∈ U
 ·exact e
 ·rw [h.out i e] at hx; cases hx
/-- An address's new page. -/
theorem Good.write (h : Good U dd L c) (hb : b ∈ U) (hd : ¬ dd b) (p : Fo) (hf : p.2.f = 0) (hS : ∀ i ∈ U, ∀ x ∈ L i, x.2.S < p.2.S) : Good U dd (putL L b p) (updC c p.2.a (b, p)) := by
 have hSi : ∀ i, ∀ x ∈ L i, x.2.S < p.2.S := fun i x hx => hS i (h.mem_U hx) x hx
 have hnb : ¬ Cop (putL L b p) b := fun ⟨h1, h2, h3⟩ => by
  obtain ⟨g1, -⟩ := h3 p (by rw [putL_same]; exact List.mem_append_right _ (List.mem_singleton.2 rfl))
  rw [hf] at g1
  omega
 have hpi : ∀ i, i ≠ b → (Cop (putL L b p) i ↔ Cop L i) := fun i hi => Cop.put_iff hi (hSi i)
 have hclean : ∀ x ∈ L b, ∀ j y, c x.2.a = some (j, y) → (b = j ∧ x = y) ∨ x.2.S < y.2.S := fun x hx j y hc => by
  rcases h.late b hb x hx j y hc with g | g | ⟨g, -⟩
  ·exact .inl g
  ·exact .inr g
  ·exact absurd g hd
 refine ⟨fun a i x hc => ?_, fun i hi x hx => ?_, fun i hi x hx j y hc => ?_, fun a i x hc hp => ?_, fun i hi hp hq => ?_, fun i hi j hj x hx y hy e => ?_, fun i hi => ?_⟩
 ·unfold updC at hc
  split at hc
  ·rename_i e
   injection hc with hc
   injection hc with c1 c2
   subst c1; subst c2
   exact ⟨hb, by rw [putL_same]; exact List.mem_append_right _ (List.mem_singleton.2 rfl), e.symm⟩
  ·obtain ⟨h1, h2, h3⟩ := h.here a i x hc
   exact ⟨h1, mem_putL h2, h3⟩
 ·unfold updC
  split
  ·exact ⟨_, rfl⟩
  ·rename_i e
   rcases putL_mem hx with ⟨-, rfl⟩ | hx
   ·exact absurd rfl e
   ·exact h.all i hi x hx
 ·unfold updC at hc
  rcases putL_mem hx with ⟨rfl, rfl⟩ | hx
  ·rw [if_pos rfl] at hc
   injection hc with hc
   injection hc with c1 c2
   exact .inl ⟨c1, c2⟩
  ·split at hc
   ·injection hc with hc
    injection hc with c1 c2
    rw [← c2]
    exact .inr (.inl (hSi i x hx))
   ·rcases h.late i hi x hx j y hc with g | g | ⟨g1, g2, g3, g4⟩
    ·exact .inl g
    ·exact .inr (.inl g)
    ·have hib : i ≠ b := fun e => hd (e ▸ g1)
     exact .inr (.inr ⟨g1, (hpi i hib).2 g2, by rw [putL_other p hib]; exact g3, g4⟩)
 ·have hib : i ≠ b := fun e => hnb (e ▸ hp)
  have hp' := (hpi i hib).1 hp
  unfold updC at hc
  split at hc
  ·injection hc with hc
   injection hc with c1 c2
   exact absurd c1.symm hib
  ·rename_i ha
   obtain ⟨o, ho, h1, h2, h3⟩ := h.back a i x hc hp'
   rw [putL_other p hib]
   refine ⟨o, mem_putL ho, h1, h2, fun j hj r hr hra => ?_⟩
   rcases putL_mem hr with ⟨-, rfl⟩ | hr
   ·exact absurd hra.symm ha
   ·rcases h3 j hj r hr hra with g | g | ⟨g1, g2, g3, g4⟩
    ·exact .inl g
    ·exact .inr (.inl g)
    ·have hjb : j ≠ b := fun e => hd (e ▸ g1)
     exact .inr (.inr ⟨g1, (hpi j hjb).2 g2, by rw [putL_other p hjb]; exact g3, g4⟩)
 ·have hib : i ≠ b := fun e => hnb (e ▸ hp)
  rw [putL_other p hib] at hq
  have hfb : frm (L i) ≠ b := fun e => hnb (e ▸ hq)
  exact h.once i hi ((hpi i hib).1 hp) ((hpi _ hfb).1 hq)
 ·rcases putL_mem hx with ⟨e1, e2⟩ | hx
  ·rcases putL_mem hy with ⟨e3, e4⟩ | hy
   ·exact ⟨by rw [e1, e3], by rw [e2, e4]⟩
   ·have := hSi j y hy
    rw [e2] at e
    omega
  ·rcases putL_mem hy with ⟨e3, e4⟩ | hy
   ·have := hSi i x hx
    rw [e4] at e
    omega
   ·exact h.one i hi j hj x hx y hy e
 ·have hib : i ≠ b := fun e => hi (e ▸ hb)
  rw [putL_other p hib]
  exact h.out i hi
/-- A page is copied to a fresh block, or to one that has but copies of that block's pages. -/
theorem Good.copy {v : Int} {a : Nat} {o : Fo} (h : Good U dd L c) (hb : b ∈ U) (hd : ¬ dd b) (hbv : b ≠ v) (hv : ¬ Cop L v) (hc : c a = some (v, o)) (hv0 : 0 ≤ v) (hL : L b = [] ∨ (Cop L b ∧ frm (L b) = v)) (p : Fo) (hf : (p.2.f : Int) - 1 = v) (ha : p.2.a = a) (hs : sameP o.2 p.2) (hS : ∀ i ∈ U, ∀ x ∈ L i, x.2.S < p.2.S) :
  Good U dd (putL L b p) (updC c a (b, p)) ∧ Cop (putL L b p) b ∧ frm (putL L b p b) = v := by
 have hSi : ∀ i, ∀ x ∈ L i, x.2.S < p.2.S := fun i x hx => hS i (h.mem_U hx) x hx
 obtain ⟨hvU, hov, hoa⟩ := h.here a v o hc
 have hpi : ∀ i, i ≠ b → (Cop (putL L b p) i ↔ Cop L i) := fun i hi => Cop.put_iff hi (hSi i)
 have hfrm : frm (putL L b p b) = v := by
  rw [putL_same]
  rcases hL with e | ⟨e1, e2⟩
  ·rw [e]; exact hf
  ·rw [frm_append _ _ e1.1]; exact e2
 have hvb : v ≠ b := fun e => hbv e.symm
 have hcb : Cop (putL L b p) b := by
  refine ⟨by rw [putL_same]; simp, by rw [hfrm]; exact hv0, fun x hx => ?_⟩
  rw [hfrm]
  rcases putL_mem hx with ⟨-, rfl⟩ | hx
  ·exact ⟨hf, o, mem_putL hov, copyOf_iff.2 ⟨hs.1, by rw [hoa, ha], hSi v o hov, hs.2⟩⟩
  ·rcases hL with e | ⟨⟨-, -, e3⟩, e2⟩
   ·rw [e] at hx; cases hx
   ·obtain ⟨g1, q, hq, g2⟩ := e3 x hx
    rw [e2] at g1 hq
    exact ⟨g1, q, mem_putL hq, g2⟩
 -- no block is one of copies of b's
 have hno : ∀ i, i ≠ b → Cop L i → i ∈ U → frm (L i) ≠ b := fun i hib hci hiU e => by
  have := hci.from_ne
  rw [e] at this
  rcases hL with e0 | ⟨e1, -⟩
  ·exact this e0
  ·exact h.once i hiU hci (e ▸ e1)
 have hclean : ∀ x ∈ L b, x.2.a = a → x.2.S < o.2.S := fun x hx hxa => by
  rcases h.late b hb x hx v o (by rw [hxa]; exact hc) with ⟨g, -⟩ | g | ⟨g, -⟩
  ·exact absurd g hbv
  ·exact g
  ·exact absurd g hd
 refine ⟨⟨fun a' i x hc' => ?_, fun i hi x hx => ?_, fun i hi x hx j y hc' => ?_, fun a' i x hc' hp => ?_, fun i hi hp hq => ?_, fun i hi j hj x hx y hy e => ?_, fun i hi => ?_⟩, hcb, hfrm⟩
 ·unfold updC at hc'
  split at hc'
  ·rename_i e
   injection hc' with hc'
   injection hc' with c1 c2
   subst c1; subst c2
   exact ⟨hb, by rw [putL_same]; exact List.mem_append_right _ (List.mem_singleton.2 rfl), by rw [ha, e]⟩
  ·obtain ⟨h1, h2, h3⟩ := h.here a' i x hc'
   exact ⟨h1, mem_putL h2, h3⟩
 ·unfold updC
  split
  ·exact ⟨_, rfl⟩
  ·rename_i e
   rcases putL_mem hx with ⟨-, rfl⟩ | hx
   ·exact absurd ha e
   ·exact h.all i hi x hx
 ·unfold updC at hc'
  rcases putL_mem hx with ⟨rfl, rfl⟩ | hx
  ·rw [if_pos ha] at hc'
   injection hc' with hc'
   injection hc' with c1 c2
   exact .inl ⟨c1, c2⟩
  ·split at hc'
   ·injection hc' with hc'
    injection hc' with c1 c2
    rw [← c2]
    exact .inr (.inl (hSi i x hx))
   ·rcases h.late i hi x hx j y hc' with g | g | ⟨g1, g2, g3, g4⟩
    ·exact .inl g
    ·exact .inr (.inl g)
    ·have hib : i ≠ b := fun e => hd (e ▸ g1)
     exact .inr (.inr ⟨g1, (hpi i hib).2 g2, by rw [putL_other p hib]; exact g3, g4⟩)
 ·unfold updC at hc'
  split at hc'
  ·rename_i ea
   injection hc' with hc'
   injection hc' with c1 c2
   subst c1; subst c2
   rw [hfrm]
   refine ⟨o, mem_putL hov, by rw [hoa, ea], hs, fun j hj r hr hra => ?_⟩
   rcases putL_mem hr with ⟨e1, e2⟩ | hr2
   ·exact .inl ⟨e1, e2⟩
   ·by_cases hjb : j = b
    ·rw [hjb] at hr2
     exact .inr (.inl (Nat.le_of_lt (hclean r hr2 (by rw [hra, ea]))))
    ·rcases h.late j hj r hr2 v o (by rw [hra, ea]; exact hc) with ⟨-, g⟩ | g | ⟨g1, g2, g3, g4⟩
     ·exact .inr (.inl (by rw [g]; exact Nat.le_refl _))
     ·exact .inr (.inl (Nat.le_of_lt g))
     ·exact .inr (.inr ⟨g1, (hpi j hjb).2 g2, by rw [putL_other p hjb]; exact g3, g4⟩)
  ·rename_i ea
   have hold : Cop L i ∧ frm (putL L b p i) = frm (L i) := by
    by_cases hib : i = b
    ·subst hib
     rcases hL with e | ⟨e1, e2⟩
     ·obtain ⟨-, h2, -⟩ := h.here a' i x hc'
      rw [e] at h2; cases h2
     ·exact ⟨e1, by rw [hfrm, e2]⟩
    ·exact ⟨(hpi i hib).1 hp, by rw [putL_other p hib]⟩
   obtain ⟨q, hq, h1, h2, h3⟩ := h.back a' i x hc' hold.1
   rw [hold.2]
   refine ⟨q, mem_putL hq, h1, h2, fun j hj r hr hra => ?_⟩
   rcases putL_mem hr with ⟨-, rfl⟩ | hr
   ·exact absurd (hra.symm.trans ha) ea
   ·rcases h3 j hj r hr hra with g | g | ⟨g1, g2, g3, g4⟩
    ·exact .inl g
    ·exact .inr (.inl g)
    ·have hjb : j ≠ b := fun e => hd (e ▸ g1)
     exact .inr (.inr ⟨g1, (hpi j hjb).2 g2, by rw [putL_other p hjb]; exact g3, g4⟩)
 ·by_cases hib : i = b
  ·subst hib
   rw [hfrm] at hq
   exact hv ((hpi v hvb).1 hq)
  ·have hp' := (hpi i hib).1 hp
   have hfb := hno i hib hp' hi
   rw [putL_other p hib] at hq
   exact h.once i hi hp' ((hpi _ hfb).1 hq)
 ·rcases putL_mem hx with ⟨e1, e2⟩ | hx
  ·rcases putL_mem hy with ⟨e3, e4⟩ | hy
   ·exact ⟨by rw [e1, e3], by rw [e2, e4]⟩
   ·have := hSi j y hy
    rw [e2] at e
    omega
  ·rcases putL_mem hy with ⟨e3, e4⟩ | hy
   ·have := hSi i x hx
    rw [e4] at e
    omega
   ·exact h.one i hi j hj x hx y hy e
 ·have hib : i ≠ b := fun e => hi (e ▸ hb)
  rw [putL_other p hib]
  exact h.out i hi
/-- c tells of each address the newest page that is on no block of copies. -/
structure IsNew (U : List Int) (L : Int → List Fo) (c : Nat → Option (Int × Fo)) : Prop where
 none_ : ∀ a, c a = none → ∀ i ∈ U, ¬ Cop L i → ∀ x ∈ L i, x.2.a ≠ a
 some_ : ∀ a i x, c a = some (i, x) → (i ∈ U ∧ ¬ Cop L i ∧ x ∈ L i ∧ x.2.a = a) ∧ ∀ j ∈ U, ¬ Cop L j → ∀ r ∈ L j, r.2.a = a → r.2.S ≤ x.2.S
/-- What is found when it is mounted. -/
theorem Good.mount {c' : Nat → Option (Int × Fo)} (h : Good U dd L c) (hn : IsNew U L c') : Good U (fun _ => True) L c' ∧ ∀ a, Vof c' a = Vof c a := by
 have key : ∀ a, (c a = none ∧ c' a = none) ∨ (∃ i x, c a = some (i, x) ∧ ¬ Cop L i ∧ c' a = some (i, x)) ∨ ∃ i x o, c a = some (i, x) ∧ Cop L i ∧ c' a = some (frm (L i), o) ∧ sameP o.2 x.2 ∧ ∀ j ∈ U, ∀ r ∈ L j, r.2.a = a → (j = i ∧ r = x) ∨ r.2.S ≤ o.2.S ∨ (dd j ∧ Cop L j ∧ frm (L j) = frm (L i) ∧ sameP r.2 o.2) := by
  intro a
  cases hc : c a with
  | none =>
   refine .inl ⟨rfl, ?_⟩
   cases hc' : c' a with
   | none => rfl
   | some y =>
    obtain ⟨⟨h1, -, h2, h3⟩, -⟩ := hn.some_ a y.1 y.2 hc'
    obtain ⟨z, hz⟩ := h.all y.1 h1 y.2 h2
    rw [h3, hc] at hz
    cases hz
  | some y =>
   obtain ⟨i, x⟩ := y
   obtain ⟨h1, h2, h3⟩ := h.here a i x hc
   by_cases hp : Cop L i
   ·obtain ⟨o, ho, g1, g2, g3⟩ := h.back a i x hc hp
    have hF : frm (L i) ∈ U := h.mem_U ho
    have hFn := h.once i h1 hp
    refine .inr (.inr ⟨i, x, o, rfl, hp, ?_, g2, g3⟩)
    cases hc' : c' a with
    | none => exact absurd g1 (hn.none_ a hc' _ hF hFn o ho)
    | some z =>
     obtain ⟨⟨k1, k2, k3, k4⟩, k5⟩ := hn.some_ a z.1 z.2 hc'
     have hle := k5 _ hF hFn o ho g1
     rcases g3 z.1 k1 z.2 k3 k4 with ⟨e, -⟩ | e | ⟨-, e, -⟩
     ·exact absurd hp (e ▸ k2)
     ·obtain ⟨e1, e2⟩ := h.one z.1 k1 _ hF z.2 k3 o ho (by omega)
      rw [← e1, ← e2]
     ·exact absurd e k2
   ·refine .inr (.inl ⟨i, x, rfl, hp, ?_⟩)
    cases hc' : c' a with
    | none => exact absurd h3 (hn.none_ a hc' i h1 hp x h2)
    | some z =>
     obtain ⟨⟨k1, k2, k3, k4⟩, k5⟩ := hn.some_ a z.1 z.2 hc'
     have hle := k5 i h1 hp x h2 h3
     rcases h.late z.1 k1 z.2 k3 i x (by rw [k4]; exact hc) with ⟨e1, e2⟩ | e | ⟨-, e, -⟩
     ·rw [← e1, ← e2]
     ·omega
     ·exact absurd e k2
 refine ⟨⟨fun a i x hc => ?_, fun i hi x hx => ?_, fun i hi x hx j y hc => ?_, fun a i x hc hp => ?_, h.once, h.one, h.out⟩, fun a => ?_⟩
 ·obtain ⟨⟨h1, -, h2, h3⟩, -⟩ := hn.some_ a i x hc
  exact ⟨h1, h2, h3⟩
 ·obtain ⟨z, hz⟩ := h.all i hi x hx
  rcases key x.2.a with ⟨e, -⟩ | ⟨i0, x0, -, -, e⟩ | ⟨i0, x0, o, -, -, e, -⟩
  ·rw [e] at hz; cases hz
  ·exact ⟨_, e⟩
  ·exact ⟨_, e⟩
 ·rcases key x.2.a with ⟨-, e⟩ | ⟨i0, x0, e1, -, e⟩ | ⟨i0, x0, o, e1, e2, e, e3, e4⟩
  ·rw [e] at hc; cases hc
  ·rw [e] at hc
   rw [hc] at e1
   rcases h.late i hi x hx j y (e1.trans (by rw [← hc])) with g | g | ⟨g1, g2, g3, g4⟩
   ·exact .inl g
   ·exact .inr (.inl g)
   ·exact .inr (.inr ⟨trivial, g2, g3, g4⟩)
  ·rw [e] at hc
   injection hc with hc
   injection hc with c1 c2
   subst c1; subst c2
   have hoF : o ∈ L (frm (L i0)) ∧ frm (L i0) ∈ U := by
    obtain ⟨⟨k1, -, k3, -⟩, -⟩ := hn.some_ _ _ _ e
    exact ⟨k3, k1⟩
   rcases e4 i hi x hx rfl with ⟨g1, g2⟩ | g | ⟨-, g2, g3, g4⟩
   ·subst g1; subst g2
    exact .inr (.inr ⟨trivial, e2, rfl, ⟨e3.1.symm, e3.2.symm⟩⟩)
   ·by_cases heq : x.2.S = o.2.S
    ·exact .inl (h.one i hi _ hoF.2 x hx o hoF.1 heq)
    ·exact .inr (.inl (by omega))
   ·exact .inr (.inr ⟨trivial, g2, g3, g4⟩)
 ·exact absurd hp (hn.some_ a i x hc).1.2.1
 ·unfold Vof
  rcases key a with ⟨e1, e2⟩ | ⟨i0, x0, e1, -, e2⟩ | ⟨i0, x0, o, e1, -, e2, e3, -⟩
  ·rw [e1, e2]
  ·rw [e1, e2]
  ·rw [e1, e2]; exact congrArg some e3.2
/-- Behind the mounting: what is not dead, and has no address's page, is empty. -/
theorem Good.fin (h : Good U (fun _ => True) L c) (hn : ∀ a i x, c a = some (i, x) → ¬ Cop L i) (hu : ∀ i ∈ U, ¬ dd i → L i ≠ [] → ∃ a x, c a = some (i, x)) : Good U dd L c := by
 refine ⟨h.here, h.all, fun i hi x hx j y hc => ?_, fun a i x hc hp => absurd hp (hn a i x hc), h.once, h.one, h.out⟩
 rcases h.late i hi x hx j y hc with g | g | ⟨-, g2, g3⟩
 ·exact .inl g
 ·exact .inr (.inl g)
 ·refine .inr (.inr ⟨?_, g2, g3⟩)
  by_cases hd : dd i
  ·exact hd
  ·obtain ⟨a, z, hz⟩ := hu i hi hd g2.1
   exact absurd g2 (hn a i z hz)
theorem Vof_upd (c : Nat → Option (Int × Fo)) (a : Nat) (y : Int × Fo) (n : Nat) : Vof (updC c a y) n = if n = a then some y.2.2.ys else Vof c n := by
 unfold Vof updC
 by_cases e : n = a
 ·rw [if_pos e, if_pos e]; rfl
 ·rw [if_neg e, if_neg e]
end
end Go.Proofs.Ytpcbpljdiacbmaa.Ftl
