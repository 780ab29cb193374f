import Derived.Test.YtpcbpljdiacbmaaJScanAll
import Derived.Test.YtpcbpljdiacbmaaJScanGeo
set_option linter.unusedVariables false
set_option linter.unusedSimpArgs false
namespace Go.Proofs.Ytpcbpljdiacbmaa.Scan
open Go.RowKit Go.Proofs.Ytpcbpljdiacbmaa.Kit Go.Proofs.Ytpcbpljdiacbmaa.Oct Go.Proofs.Ytpcbpljdiacbmaa.Sheet Go.Proofs.Ytpcbpljdiacbmaa.Nand Go.Proofs.Ytpcbpljdiacbmaa.Plan Go.Proofs.Ytpcbpljdiacbmaa.Log Go.Proofs.Ytpcbpljdiacbmaa.Pmap Go.Maps

/-! An array to which nothing happened that is not told. -/
structure Hale (N : NA) (nb np : Nat) (bad : List Int) : Prop where
 on : N.off = false
 armed : N.armed = 0
 fence : N.fence = 0
 lb : N.bs.length = nb
 lp : N.pages = np
 fine : ∀ i : Nat, i < nb → (i : Int) ∉ bad → (N.blk i).half = false ∧ (N.blk i).doom = 0 ∧ (N.blk i).dead = false
 bytes : ∀ (j : Nat) (q : List Int), q ∈ (N.blk j).pages → IsB q
theorem Hale.new (nb np : Nat) (bad : List Int) : Hale (newA nb np bad) nb np bad :=
 ⟨rfl, rfl, rfl, newA_len nb np bad, rfl, fun i hi hb => by
  rw [newA_blk nb np bad i hi, decide_eq_false hb]
  exact ⟨rfl, rfl, rfl⟩, fun j q hq => by
  by_cases hj : j < nb
  ·rw [newA_blk nb np bad j hj] at hq
   cases hq
  ·unfold NA.blk at hq
   rw [List.getD_eq_getElem?_getD, List.getElem?_eq_none (by have := newA_len nb np bad; omega)] at hq
   cases hq⟩
theorem new_empty (nb np : Nat) (bad : List Int) (i : Nat) (hi : i < nb) : ((newA nb np bad).blk i).pages = [] := by
 rw [newA_blk nb np bad i hi]
 rfl
theorem blk_setB (N : NA) (i j : Nat) (x : NB) (hi : i < N.bs.length) : (N.setB i x).blk j = if j = i then x else N.blk j := by
 unfold NA.setB NA.blk
 simp only [List.getD_eq_getElem?_getD]
 by_cases e : j = i
 ·subst e
  rw [if_pos rfl, List.getElem?_set_self hi]
  rfl
 ·rw [if_neg e, List.getElem?_set_ne (fun h => e h.symm)]
/-- A page is programmed. -/
theorem Hale.prog {N : NA} {nb np : Nat} {bad : List Int} (h : Hale N nb np bad) (i : Nat) (hi : i < nb) (hb : (i : Int) ∉ bad) (k : Nat) (hk : k = (N.blk i).pages.length) (hp : k < np) (q : List Int) (hq : q.length = 96) (hB : IsB q) :
  (N.prog (i : Int) (k : Int) q 0).2 = 0 ∧ Hale (N.prog (i : Int) (k : Int) q 0).1 nb np bad ∧ ∀ j, ((N.prog (i : Int) (k : Int) q 0).1.blk j).pages = if j = i then (N.blk i).pages ++ [q] else (N.blk j).pages := by
 obtain ⟨f1, f2, f3⟩ := h.fine i hi hb
 have hi' : i < N.bs.length := by rw [h.lb]; exact hi
 have e := prog_calm (N := N) i k q 0 hi' h.armed h.on f2 f3 hk (by rw [h.lp]; exact hp) hq f1 (by rw [h.fence]; decide)
 rw [e]
 have hbk : ∀ j, (N.opd.setB i ((N.blk i).add q)).blk j = if j = i then (N.blk i).add q else N.blk j := fun j => by
  rw [blk_setB _ _ _ _ (show i < N.opd.bs.length from hi')]
  rfl
 refine ⟨rfl, ⟨h.on, h.armed, h.fence, ?_, h.lp, fun j hj hjb => ?_, fun j p hp' => ?_⟩, fun j => ?_⟩
 ·show (N.bs.set i _).length = nb
  rw [List.length_set]; exact h.lb
 ·dsimp only
  rw [hbk j]
  split
  ·rename_i e; exact ⟨f1, f2, f3⟩
  ·exact h.fine j hj hjb
 ·dsimp only at hp'
  rw [hbk j] at hp'
  split at hp'
  ·rcases List.mem_append.1 (show p ∈ (N.blk i).pages ++ [q] from hp') with hm | hm
   ·exact h.bytes i p hm
   ·rw [List.mem_singleton.1 hm]; exact hB
  ·exact h.bytes j p hp'
 ·dsimp only
  rw [hbk j]
  split <;> rfl
/-- A block is erased. -/
theorem Hale.erase {N : NA} {nb np : Nat} {bad : List Int} (h : Hale N nb np bad) (i : Nat) (hi : i < nb) (hb : (i : Int) ∉ bad) :
  (N.erase (i : Int) 0).2 = 0 ∧ Hale (N.erase (i : Int) 0).1 nb np bad ∧ ∀ j, ((N.erase (i : Int) 0).1.blk j).pages = if j = i then [] else (N.blk j).pages := by
 obtain ⟨f1, f2, f3⟩ := h.fine i hi hb
 have hi' : i < N.bs.length := by rw [h.lb]; exact hi
 have e := erase_calm (N := N) i 0 hi' h.armed h.on f2 f3 (by rw [h.fence]; decide)
 rw [e]
 have hbk : ∀ j, (N.opd.setB i (N.blk i).clean).blk j = if j = i then (N.blk i).clean else N.blk j := fun j => by
  rw [blk_setB _ _ _ _ (show i < N.opd.bs.length from hi')]
  rfl
 refine ⟨rfl, ⟨h.on, h.armed, h.fence, ?_, h.lp, fun j hj hjb => ?_, fun j p hp' => ?_⟩, fun j => ?_⟩
 ·show (N.bs.set i _).length = nb
  rw [List.length_set]; exact h.lb
 ·dsimp only
  rw [hbk j]
  split
  ·exact ⟨rfl, f2, f3⟩
  ·exact h.fine j hj hjb
 ·dsimp only at hp'
  rw [hbk j] at hp'
  split at hp'
  ·cases hp'
  ·exact h.bytes j p hp'
 ·dsimp only
  rw [hbk j]
  split <;> rfl

/-! What was found. -/
theorem found_mem {lim : Int} {qs : List (List Int)} {k : Nat} {p : Pg} : (k, p) ∈ found lim qs ↔ k < qs.length ∧ rdP (qs.getD k []) = some p ∧ p.K ≠ 3 ∧ (p.a : Int) ≤ lim := by
 constructor
 ·intro h
  have h1 := mem_found h
  have h2 := rd_found h
  refine ⟨h1.1, h2, ?_, h1.2⟩
  unfold found at h
  obtain ⟨j, hj, hm⟩ := List.mem_flatMap.1 h
  unfold found1 at hm
  split at hm
  ·split at hm
   ·rename_i hof
    have e := List.mem_singleton.1 hm
    injection e with e1 e2
    subst e1; subst e2
    unfold Pg.of at hof
    exact (of_decide_eq_true hof).1
   ·cases hm
  ·cases hm
 ·rintro ⟨h1, h2, h3, h4⟩
  unfold found
  refine List.mem_flatMap.2 ⟨k, List.mem_range.2 h1, ?_⟩
  unfold found1
  rw [h2]
  simp only
  rw [if_pos (show p.of lim = true from decide_eq_true ⟨h3, h4⟩)]
  exact List.mem_singleton.2 rfl
/-- L tells what stands on the blocks us: block i has the pages Q i. -/
def Told (lim : Int) (us : List Int) (Q : Int → List (List Int)) (L : Int → List Fd) : Prop := ∀ i ∈ us, (L i).map (fun x => (x.k, x.p)) = found lim (Q i)
theorem Told.has {lim : Int} {us : List Int} {Q : Int → List (List Int)} {L : Int → List Fd} (h : Told lim us Q L) {i : Int} (hi : i ∈ us) {k : Nat} {p : Pg} (hk : k < (Q i).length) (hr : rdP ((Q i).getD k []) = some p) (hK : p.K ≠ 3) (ha : (p.a : Int) ≤ lim) : ∃ x ∈ L i, x.k = k ∧ x.p = p := by
 have : (k, p) ∈ (L i).map (fun x => (x.k, x.p)) := by rw [h i hi]; exact found_mem.2 ⟨hk, hr, hK, ha⟩
 obtain ⟨x, hx, e⟩ := List.mem_map.1 this
 injection e with e1 e2
 exact ⟨x, hx, e1, e2⟩
theorem flatF_mem {us : List Int} {L : Int → List Fd} {y : Int × Fd} : y ∈ flatF us L ↔ y.1 ∈ us ∧ y.2 ∈ L y.1 := by
 unfold flatF tagF
 rw [List.mem_flatMap]
 constructor
 ·rintro ⟨i, hi, hm⟩
  obtain ⟨x, hx, rfl⟩ := List.mem_map.1 hm
  exact ⟨hi, hx⟩
 ·rintro ⟨h1, h2⟩
  exact ⟨y.1, h1, List.mem_map.2 ⟨y.2, h2, rfl⟩⟩
theorem snoc_ind {α : Type} {P : List α → Prop} (h0 : P []) (h1 : ∀ l a, P l → P (l ++ [a])) : ∀ l, P l := by
 have key : ∀ (n : Nat) (l : List α), l.length = n → P l := by
  intro n
  induction n with
  | zero =>
   intro l hl
   rw [List.eq_nil_of_length_eq_zero hl]
   exact h0
  | succ n ih =>
   intro l hl
   rcases List.eq_nil_or_concat l with rfl | ⟨l', z, rfl⟩
   ·exact h0
   ·rw [List.concat_eq_append] at hl ⊢
    rw [List.length_append, List.length_singleton] at hl
    exact h1 l' z (ih l' (by omega))
 exact fun l => key l.length l rfl
theorem newest_max (a : Int) (l : List (Int × Fd)) : (newest a l = none → ∀ z ∈ l, (z.2.p.a : Int) ≠ a) ∧ ∀ y, newest a l = some y → ∀ z ∈ l, (z.2.p.a : Int) = a → z.2.p.S ≤ y.2.p.S := by
 induction l using snoc_ind with
 | h0 => exact ⟨fun _ z hz => (by cases hz), fun y h => (by cases h)⟩
 | h1 l u ih =>
  rw [newest_snoc]
  unfold newer
  by_cases hu : (u.2.p.a : Int) = a
  ·rw [if_pos hu]
   cases hn : newest a l with
   | none =>
    refine ⟨fun h => (by cases h), fun y h z hz hza => ?_⟩
    injection h with h
    subst h
    rcases List.mem_append.1 hz with hz | hz
    ·exact absurd hza (ih.1 hn z hz)
    ·rw [List.mem_singleton.1 hz]; exact Nat.le_refl _
   | some v =>
    have ih2 := ih.2 v hn
    refine ⟨fun h => ?_, fun y h z hz hza => ?_⟩
    ·exfalso
     have h : (if v.2.p.S < u.2.p.S then some u else some v) = none := h
     split at h <;> cases h
    ·have h : (if v.2.p.S < u.2.p.S then some u else some v) = some y := h
     have hzv : z ∈ l → z.2.p.S ≤ v.2.p.S := fun hz => ih2 z hz hza
     split at h
     ·injection h with h
      subst h
      rcases List.mem_append.1 hz with hz | hz
      ·have := hzv hz; omega
      ·rw [List.mem_singleton.1 hz]; exact Nat.le_refl _
     ·injection h with h
      subst h
      rcases List.mem_append.1 hz with hz | hz
      ·exact hzv hz
      ·rw [List.mem_singleton.1 hz]; omega
  ·rw [if_neg hu]
   refine ⟨fun h z hz => ?_, fun y h z hz hza => ?_⟩
   ·rcases List.mem_append.1 hz with hz | hz
    ·exact ih.1 h z hz
    ·rw [List.mem_singleton.1 hz]; exact hu
   ·rcases List.mem_append.1 hz with hz | hz
    ·exact ih.2 y h z hz hza
    ·rw [List.mem_singleton.1 hz] at hza; exact absurd hza hu
theorem newest_has {a : Int} {l : List (Int × Fd)} {z : Int × Fd} (hz : z ∈ l) (ha : (z.2.p.a : Int) = a) : ∃ y, newest a l = some y ∧ y ∈ l ∧ (y.2.p.a : Int) = a ∧ z.2.p.S ≤ y.2.p.S := by
 cases h : newest a l with
 | none => exact absurd ha ((newest_max a l).1 h z hz)
 | some y => exact ⟨y, rfl, (newest_spec a l y h).1, (newest_spec a l y h).2, (newest_max a l).2 y h z hz ha⟩
/-- How many addresses the map of places has. -/
theorem AllR.len {W : World} {base bm ga gh gc gp np M nb : Nat} {FL : List (Int × Fd)} {spv : Value} {sp : List Int} {at' : List (Int × Int)} {has : List Bool} {cnt : List Int} (h : AllR W base bm ga gh gc gp np M nb FL spv sp at' has cnt) : isum cnt = (keysN FL M : Int) := by
 rw [h.pi.all]
 congr 1
 exact cnum_congr _ _ _ fun a ha => (h.tells a ha).1

theorem program_run {F : Nat → Prop} {w w1 W : World} {b : Nat} {N : NA} {K : Nat → Prop} (h : Run F w w1 b N K W) {nb np : Nat} {bad : List Int} (hG : Hale N nb np bad) (i : Nat) (hi : i < nb) (hb : (i : Int) ∉ bad) (k : Nat) (hk : k = (N.blk i).pages.length) (hp : k < np) (A : Option Addr) (n c : Nat) (q : List Int) (hz : Nums w1 .u8 A n q) (hn : n = 96) (hB : IsB q) :
  Calls Try.prog 79 #[.pointer (some ⟨b, 0, none⟩), .int .i64 (i : Int), .int .i64 (k : Int), .slice A n c, .int .u64 0] w1 fun e w' => e = .returned (.int .i64 0) ∧ ∃ N', Run F w w' b N' K W ∧ Hale N' nb np bad ∧ ∀ j, (N'.blk j).pages = if j = i then (N.blk i).pages ++ [q] else (N.blk j).pages := by
 have hq : q.length = 96 := by rw [hz.len]; exact hn
 obtain ⟨e1, e2, e3⟩ := hG.prog i hi hb k hk hp q hq hB
 refine (h.calls (fun F' hA => program_any F' b N (i : Int) (k : Int) A n c q 0 w1 hA hz (by omega))).mono ?_
 rintro e w' ⟨rfl, hR⟩
 exact ⟨by rw [e1], _, hR, e2, e3⟩
theorem erase_run {F : Nat → Prop} {w w1 W : World} {b : Nat} {N : NA} {K : Nat → Prop} (h : Run F w w1 b N K W) {nb np : Nat} {bad : List Int} (hG : Hale N nb np bad) (i : Nat) (hi : i < nb) (hb : (i : Int) ∉ bad) :
  Calls Try.prog 64 #[.pointer (some ⟨b, 0, none⟩), .int .i64 (i : Int), .int .u64 0] w1 fun e w' => e = .returned (.int .i64 0) ∧ ∃ N', Run F w w' b N' K W ∧ Hale N' nb np bad ∧ ∀ j, (N'.blk j).pages = if j = i then [] else (N.blk j).pages := by
 obtain ⟨e1, e2, e3⟩ := hG.erase i hi hb
 refine (h.calls (fun F' hA => erase_any F' b N (i : Int) 0 w1 hA)).mono ?_
 rintro e w' ⟨rfl, hR⟩
 exact ⟨by rw [e1], _, hR, e2, e3⟩
end Go.Proofs.Ytpcbpljdiacbmaa.Scan
