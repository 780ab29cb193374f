import Derived.Test.YtpcbpljdiacbmaaJFtlLaw
import Derived.Lib.ConvBytes
import Derived.Deep.DeepCutAuto
import Derived.Deep.CutBlock
set_option linter.unusedVariables false
set_option linter.unusedSimpArgs false
namespace Go.Proofs.Ytpcbpljdiacbmaa.Scan
open Go.RowKit Go.Proofs.Ytpcbpljdiacbmaa.Kit Go.Proofs.Ytpcbpljdiacbmaa.Oct Go.Proofs.Ytpcbpljdiacbmaa.Sheet Go.Proofs.Ytpcbpljdiacbmaa.Nand Go.Proofs.Ytpcbpljdiacbmaa.Plan Go.Proofs.Ytpcbpljdiacbmaa.Log Go.Proofs.Ytpcbpljdiacbmaa.Pmap Go.Maps
theorem rus_any {w : World} {nb np : Nat} {S : Int} {A : Option Addr} {n c : Nat} {bad : List Int} (h : Geo w nb np S A n c bad) :
  Calls Try.prog 27 #[.agg #[.int .i64 (nb : Int), .int .i64 (np : Int), .int .i64 S, .slice A n c]] w fun e w' => ∃ U d, e = .returned (.slice U (us nb bad).length d) ∧ Nums w' .i64 U (us nb bad).length (us nb bad) ∧ (∀ a, U = some a → w.heap.size ≤ a.block) ∧ Below w.heap.size w w' := by
 have hb := h.bd
 refine (rusable_any (nb : Int) (np : Int) S A n c bad w h.nums (by omega)).mono ?_
 rintro e w' ⟨v, rfl, ho, hB⟩
 rw [Int.toNat_natCast] at ho
 obtain ⟨U, d, rfl, -, hz⟩ := own_nums ho (us_wf (bad := bad) hb.2.1)
 exact ⟨U, d, rfl, hz, fun a ha => own_low ho a.block (by rw [ha]; rfl), hB⟩
end Go.Proofs.Ytpcbpljdiacbmaa.Scan

namespace Go.Proofs.Ytpcbpljdiacbmaa.Ftl
open Go.RowKit Go.Proofs.Ytpcbpljdiacbmaa.Kit Go.Proofs.Ytpcbpljdiacbmaa.Oct Go.Proofs.Ytpcbpljdiacbmaa.Sheet Go.Proofs.Ytpcbpljdiacbmaa.Nand Go.Proofs.Ytpcbpljdiacbmaa.Plan Go.Proofs.Ytpcbpljdiacbmaa.Scan Go.Proofs.Ytpcbpljdiacbmaa.Pmap Go.Proofs.Ytpcbpljdiacbmaa.Pool

/-! Strings as bytes; all addresses are full. -/
section
variable {c : FC} {o : FId} {A : Option Addr} {n cc s a : Nat} {K K' : Nat → Prop} {V w w1 w2 : World} {st : FT} {D : Nat → Option (List Int)}
end
end Go.Proofs.Ytpcbpljdiacbmaa.Ftl

namespace Go.Proofs.Ytpcbpljdiacbmaa.Ftl
open Go.RowKit Go.Proofs.Ytpcbpljdiacbmaa.Kit Go.Proofs.Ytpcbpljdiacbmaa.Oct Go.Proofs.Ytpcbpljdiacbmaa.Sheet Go.Proofs.Ytpcbpljdiacbmaa.Nand Go.Proofs.Ytpcbpljdiacbmaa.Plan Go.Proofs.Ytpcbpljdiacbmaa.Scan Go.Proofs.Ytpcbpljdiacbmaa.Pmap Go.Proofs.Ytpcbpljdiacbmaa.Pool

/-! An array on which each block is empty or has pages that count. -/
section
variable {c : FC} {o : FId} {A : Option Addr} {n cc b s a : Nat} {K K' : Nat → Prop} {V w w1 w2 : World} {st : FT} {N N' : NA} {c0 c1 : Nat → Option (Int × Fo)} {D : Nat → Option (List Int)} {R : FT × Int} {fe : Int}
end
end Go.Proofs.Ytpcbpljdiacbmaa.Ftl

namespace Go.Proofs.Ytpcbpljdiacbmaa.Ftl
open Go.RowKit Go.Proofs.Ytpcbpljdiacbmaa.Kit Go.Proofs.Ytpcbpljdiacbmaa.Oct Go.Proofs.Ytpcbpljdiacbmaa.Sheet Go.Proofs.Ytpcbpljdiacbmaa.Nand Go.Proofs.Ytpcbpljdiacbmaa.Plan Go.Proofs.Ytpcbpljdiacbmaa.Scan Go.Proofs.Ytpcbpljdiacbmaa.Pmap Go.Proofs.Ytpcbpljdiacbmaa.Pool

/-! How many pages there are: where blocks are filled one behind the other. -/
section
variable {c : FC} {st : FT} {N N' : NA} {b : Nat}
end
end Go.Proofs.Ytpcbpljdiacbmaa.Ftl

namespace Go.Proofs.Ytpcbpljdiacbmaa.Ftl
open Go.RowKit Go.Proofs.Ytpcbpljdiacbmaa.Kit Go.Proofs.Ytpcbpljdiacbmaa.Oct Go.Proofs.Ytpcbpljdiacbmaa.Sheet Go.Proofs.Ytpcbpljdiacbmaa.Nand Go.Proofs.Ytpcbpljdiacbmaa.Plan Go.Proofs.Ytpcbpljdiacbmaa.Scan Go.Proofs.Ytpcbpljdiacbmaa.Pmap Go.Proofs.Ytpcbpljdiacbmaa.Pool

/-! A page is written without copying. -/
section
variable {c : FC} {st : FT} {N N' : NA} {a b s : Nat} {D : Nat → Option (List Int)} {R : FT × Int} {ys : List Int}
section
variable {o : FId} {A : Option Addr} {n cc : Nat} {K : Nat → Prop} {V w w1 w2 : World}
end
end
end Go.Proofs.Ytpcbpljdiacbmaa.Ftl

namespace Go.Proofs.Ytpcbpljdiacbmaa.Ftl
open Go.RowKit Go.Proofs.Ytpcbpljdiacbmaa.Kit Go.Proofs.Ytpcbpljdiacbmaa.Oct Go.Proofs.Ytpcbpljdiacbmaa.Sheet Go.Proofs.Ytpcbpljdiacbmaa.Nand Go.Proofs.Ytpcbpljdiacbmaa.Plan Go.Proofs.Ytpcbpljdiacbmaa.Scan Go.Proofs.Ytpcbpljdiacbmaa.Pmap Go.Proofs.Ytpcbpljdiacbmaa.Pool

/-! One address is written again and again. -/
section
variable {c : FC} {st : FT} {N N' : NA} {a b s : Nat} {D : Nat → Option (List Int)} {R : FT × Int} {ys : List Int}
end
theorem geo_three : ∀ n : Fin 256, 3 + gS n.val ≤ (us (gB n.val) (gL n.val)).length := by decide +kernel
end Go.Proofs.Ytpcbpljdiacbmaa.Ftl

namespace Go.Proofs.Ytpcbpljdiacbmaa.Ftl
open Go.RowKit Go.Proofs.Ytpcbpljdiacbmaa.Kit Go.Proofs.Ytpcbpljdiacbmaa.Oct Go.Proofs.Ytpcbpljdiacbmaa.Sheet Go.Proofs.Ytpcbpljdiacbmaa.Nand Go.Proofs.Ytpcbpljdiacbmaa.Plan Go.Proofs.Ytpcbpljdiacbmaa.Scan Go.Proofs.Ytpcbpljdiacbmaa.Pmap Go.Proofs.Ytpcbpljdiacbmaa.Pool

/-! Where blocks fail, but nothing is cut. -/
section
variable {c : FC} {o : FId} {A : Option Addr} {n cc b s a : Nat} {K K' : Nat → Prop} {V w w1 w2 : World} {st : FT} {N N' : NA} {c0 : Nat → Option (Int × Fo)} {D : Nat → Option (List Int)} {R : FT × Int} {ys : List Int}
end
theorem LF.row {c : FC} {o : FId} {A : Option Addr} {n cc : Nat} {K : Nat → Prop} {V w w1 : World} {st : FT} {gu ou l : Nat} {k : IntKind} {xs : List Int} (h : LF c o A n cc K V w w1 st) (hg : K gu) (hz : Nums V k (some ⟨gu, ou, none⟩) l xs) : Nums w1 k (some ⟨gu, ou, none⟩) l xs := nums_blk hz (fun _ a ha => by
 injection ha with ha
 rw [← ha]
 exact h.heap hg)
theorem _root_.Go.Proofs.Ytpcbpljdiacbmaa.Kit.Nums.cell0 {w : World} {k : IntKind} {gu ou l : Nat} {xs : List Int} (h : Nums w k (some ⟨gu, ou, none⟩) l xs) (j : Nat) (hj : j < l) : w.cell? ⟨gu, ou + j, none⟩ = some (.int k (xs.getD j 0)) := by
 obtain ⟨b, o, e, hc⟩ := h.at_ j hj
 injection e with e
 injection e with e1 e2
 subst e1
 subst e2
 exact hc
theorem _root_.Go.Proofs.Ytpcbpljdiacbmaa.Kit.Nums.lt0 {w : World} {k : IntKind} {A : Option Addr} {l : Nat} {xs : List Int} (h : Nums w k A l xs) (h0 : 0 < l) (ad : Addr) (had : A = some ad) : ad.block < w.heap.size := by
 obtain ⟨b', o', e', hc'⟩ := h.cell 0 h0
 rw [e'] at had
 injection had with had
 rw [← had]
 exact World.block_lt_of_cell? w _ (hc' 0 h0)
end Go.Proofs.Ytpcbpljdiacbmaa.Ftl

namespace Go.Proofs.Ytpcbpljdiacbmaa.Ftl
open Go.RowKit Go.Proofs.Ytpcbpljdiacbmaa.Kit Go.Proofs.Ytpcbpljdiacbmaa.Oct Go.Proofs.Ytpcbpljdiacbmaa.Sheet Go.Proofs.Ytpcbpljdiacbmaa.Nand Go.Proofs.Ytpcbpljdiacbmaa.Plan Go.Proofs.Ytpcbpljdiacbmaa.Scan Go.Proofs.Ytpcbpljdiacbmaa.Pmap Go.Proofs.Ytpcbpljdiacbmaa.Pool

/-! Whatever is cut, as plain data. -/
/-- But the blocks X none is doomed. -/
def Bnd (c : FC) (N : NA) (X : List Nat) : Prop := ∀ i : Nat, (i : Int) ∈ c.xs → i ∉ X → Hale1 N i
section
variable {c : FC} {o : FId} {A : Option Addr} {n cc b s s' a : Nat} {K K' : Nat → Prop} {V w w1 w2 : World} {st : FT} {N N' : NA} {c0 : Nat → Option (Int × Fo)} {D : Nat → Option (List Int)} {R : FT × Int} {ys : List Int} {X : List Nat} {P P' : (Nat → Option (List Int)) → Prop}
theorem cnum_list : ∀ (X : List Nat) (p : Nat → Bool) (n : Nat), (∀ i, i < n → p i = true → i ∈ X) → cnum p n ≤ X.length := by
 intro X
 induction X with
 | nil =>
  intro p n h
  rw [cnum_zero n (fun i hi => by
   cases e : p i with
   | false => rfl
   | true => cases h i hi e)]
  exact Nat.le_refl _
 | cons x X ih =>
  intro p n h
  have h1 := ih (fun i => p i && decide (i ≠ x)) n (fun i hi hp => by
   rw [Bool.and_eq_true, decide_eq_true_iff] at hp
   rcases List.mem_cons.1 (h i hi hp.1) with e | e
   ·exact absurd e hp.2
   ·exact e)
  have h2 := cnum_le2 (p := p) (q := fun _ => false) (r := fun i => p i && decide (i ≠ x)) (s := fun i => decide (i = x)) n (fun i hi => by
   by_cases e : i = x
   ·subst e
    cases p i <;> simp
   ·rw [decide_eq_true (show i ≠ x from e), decide_eq_false e, Bool.and_true]
    simp)
  have h3 := cnum_at x n
  have h4 := cnum_zero (p := fun _ => false) n (fun _ _ => rfl)
  rw [List.length_cons]
  omega
theorem Bnd.dead {ex : Nat → Prop} (h : Bnd c st.N X) (hp : Pol c st ex) : cntH st.hs 3 ≤ X.length := by
 rw [dead_count hp]
 refine cnum_list X _ 64 (fun i hi hx => ?_)
 rw [Bool.and_eq_true, decide_eq_true_iff] at hx
 by_cases e : i ∈ X
 ·exact e
 ·have := (h i hx.1 e).2.2
  rw [hx.2] at this
  cases this
theorem Bnd.ops {ep : Int} (h : Bnd c N X) (ho : Ops ep N N') : Bnd c N' X := fun i hi hx => ho.hale (h i hi hx)
theorem Bnd.same (h : Bnd c N X) (hb : ∀ i, (N'.blk i).dead = (N.blk i).dead ∧ (N'.blk i).doom = (N.blk i).doom ∧ (N'.blk i).failed = (N.blk i).failed) : Bnd c N' X := fun i hi hx => by
 obtain ⟨h1, h2, h3⟩ := h i hi hx
 obtain ⟨g1, g2, g3⟩ := hb i
 exact ⟨by rw [g1]; exact h1, by rw [g2]; exact h2, by rw [g3]; exact h3⟩
theorem fall_same (N : NA) (hw : ∀ u, N.way = some u → u.i < N.bs.length) (cut : Int) (j : Nat) : ((N.restart cut).blk j).dead = (N.blk j).dead ∧ ((N.restart cut).blk j).doom = (N.blk j).doom ∧ ((N.restart cut).blk j).failed = (N.blk j).failed := by
 rw [restart_blk]
 unfold NA.fall
 split
 ·exact ⟨rfl, rfl, rfl⟩
 ·rename_i u hu
  have hlt := hw u hu
  have key : ∀ x : NB, x.dead = (N.blk u.i).dead → x.doom = (N.blk u.i).doom → x.failed = (N.blk u.i).failed → ((N.setB u.i x).blk j).dead = (N.blk j).dead ∧ ((N.setB u.i x).blk j).doom = (N.blk j).doom ∧ ((N.setB u.i x).blk j).failed = (N.blk j).failed := fun x h1 h2 h3 => by
   rw [blk_set u.i j x hlt]
   by_cases e : j = u.i
   ·rw [if_pos e, e]; exact ⟨h1, h2, h3⟩
   ·rw [if_neg e]; exact ⟨rfl, rfl, rfl⟩
  split
  ·split
   ·exact key _ rfl rfl rfl
   ·exact ⟨rfl, rfl, rfl⟩
  ·split
   ·exact key _ rfl rfl rfl
   ·split
    ·exact key _ rfl rfl rfl
    ·exact ⟨rfl, rfl, rfl⟩
/-- An array that can be mounted once the power went off and on; its data are as P says. -/
structure Mnt (c : FC) (N : NA) (P : (Nat → Option (List Int)) → Prop) (s : Nat) (X : List Nat) : Prop where
 all : ∀ cut, ∃ c2, AOk c (N.restart cut) c2 s ∧ P (Vof c2)
 bnd : Bnd c N X
/-- An FTL at rest, of which at most the blocks X may fail. -/
structure Hld (c : FC) (st : FT) (D : Nat → Option (List Int)) (s : Nat) (X : List Nat) : Prop where
 rest : At c st
 data : Vof (cF st) = D
 seq : st.seq ≤ s
 fence : st.N.fence = 0
 bnd : Bnd c st.N X
theorem Hld.up (h : Hld c st D s X) (hs : s ≤ s') : Hld c st D s' X := ⟨h.rest, h.data, Nat.le_trans h.seq hs, h.fence, h.bnd⟩
theorem Hld.put (h : Hld c st D s X) (hX : X.length ≤ c.S) (hp : PutO c st 7000 a ys R) (ho : Ops c.ep st.N R.1.N) : (R.2 = 0 ∧ Hld c R.1 (updV D a ys) (s + 7000) X) ∨ (R.2 = 9 ∧ Mnt c R.1.N (fun D' => D' = D ∨ D' = updV D a ys) (s + 7000) X) := by
 have hs := h.seq
 have hb := h.bnd.ops ho
 rcases hp with ⟨g0, g1, g2, g3, g4, g5⟩ | ⟨g0, g1, g2, g3, g4, g5⟩ | ⟨g0, g1⟩ | ⟨g0, g1, g2, g3, g4, g5⟩
 ·exact .inl ⟨g0, g1, by rw [g2, h.data], by omega, g3.trans h.fence, hb⟩
 ·have := h.fence
  omega
 ·refine .inr ⟨g0, fun cut => ?_, hb⟩
  obtain ⟨c2, k1, k2⟩ := g1.2 cut
  exact ⟨c2, k1.later (by omega), by rw [h.data] at k2; exact k2⟩
 ·have := hb.dead g1.pol
  omega
theorem Hld.boot (h : Hld c st D s X) (hnb : c.nb ≤ 64) (hw : st.N.way = none) : Mnt c st.N (fun D' => D' = D) s X :=
 ⟨fun cut => ⟨cF st, ((h.rest.aok hnb).later h.seq).boot hw cut, h.data⟩, h.bnd⟩
theorem Mnt.mono (h : Mnt c N P s X) (hP : ∀ D, P D → P' D) (hs : s ≤ s') : Mnt c N P' s' X :=
 ⟨fun cut => by
  obtain ⟨c2, h1, h2⟩ := h.all cut
  exact ⟨c2, h1.later hs, hP _ h2⟩, h.bnd⟩
theorem Hld.mount (hf : N.fence = 0) (hb : Bnd c N X) (hm : MntO c N.fence D s R) (ho : Ops c.ep N R.1.N) : (R.2 = 0 ∧ Hld c R.1 D s X) ∨ (R.2 = 9 ∧ Mnt c R.1.N (fun D' => D' = D) s X ∧ R.1.N.off = true) := by
 have hb' := hb.ops ho
 rcases hm with ⟨g0, g1, g2, g3, g4⟩ | ⟨g0, g1⟩ | ⟨g0, g1⟩
 ·exact .inl ⟨g0, g1, g2, g4, g3.trans hf, hb'⟩
 ·omega
 ·exact .inr ⟨g0, ⟨g1.2, hb'⟩, g1.1⟩
/-- It is armed. -/
theorem arm_is (N : NA) (q : Nat) : N.arm (q : Int) = ({ N with armed := q }, 0) := by
 unfold NA.arm
 rw [if_neg (by omega), Int.toNat_natCast]
theorem LF.arm (h : LF c o A n cc K V w w1 st) (hS : Hld c st D s X) (q : Nat) (hq : q ≤ 1000) :
  Calls Try.prog 34 #[.pointer (some ⟨o.ba, 0, none⟩), .int .i64 (q : Int)] w1 fun e w' => e = .returned (.int .i64 0) ∧ ∃ st', LF c o A n cc K V w w' st' ∧ Hld c st' D s X ∧ (q = 0 → st'.N.armed = 0) := by
 obtain ⟨N', hN'⟩ : ∃ x : NA, { st.N with armed := q } = x := ⟨_, rfl⟩
 have hbk : ∀ j, N'.blk j = st.N.blk j := fun j => by subst hN'; rfl
 obtain ⟨h1, h2⟩ := hS.rest.arr (N' := N') (by subst hN'; rfl) (by subst hN'; rfl) (by subst hN'; exact hS.rest.cor.on) (fun i => by rw [hbk]; exact ⟨rfl, rfl, rfl, rfl⟩)
 refine (h.calls (N' := N') (R := fun e => e = .returned (.int .i64 0)) (h.wf.arr (by subst hN'; rfl) (by subst hN'; rfl) (fun j => by rw [hbk]; exact ⟨rfl, rfl⟩)) (fun F' hA => by
  refine (arm_any F' o.ba st.N (q : Int) w1 hA (by omega)).mono ?_
  rintro e w' ⟨he, h1, h2⟩
  rw [arm_is, hN'] at he h1
  exact ⟨he, h1.grown (w := w1) w1, h2⟩)).mono ?_
 rintro e w' ⟨he, hL⟩
 exact ⟨he, _, hL, ⟨h1, by rw [h2]; exact hS.data, hS.seq, by subst hN'; exact hS.fence, hS.bnd.same (fun i => by show (N'.blk i).dead = _ ∧ (N'.blk i).doom = _ ∧ (N'.blk i).failed = _; rw [hbk]; exact ⟨rfl, rfl, rfl⟩)⟩, fun hq => by subst hN'; exact hq⟩
/-- A block is doomed. -/
theorem LF.doomX (h : LF c o A n cc K V w w1 st) (hS : Hld c st D s X) (i q : Nat) (hi : i < c.nb) (hq : q ≤ 1000) :
  Calls Try.prog 29 #[.pointer (some ⟨o.ba, 0, none⟩), .int .i64 (i : Int), .int .i64 (q : Int)] w1 fun e w' => e = .returned (.int .i64 0) ∧ ∃ st', LF c o A n cc K V w w' st' ∧ Hld c st' D s (i :: X) := by
 have hlt : i < st.N.bs.length := by rw [hS.rest.cor.wf.lb]; exact hi
 obtain ⟨N', hN'⟩ : ∃ x, st.N.setB i { st.N.blk i with doom := q } = x := ⟨_, rfl⟩
 have hd : st.N.doomed (i : Int) (q : Int) = (N', 0) := by
  unfold NA.doomed
  rw [if_neg (by omega), Int.toNat_natCast, Int.toNat_natCast, hN']
 have hot : ∀ j, j ≠ i → N'.blk j = st.N.blk j := fun j hj => by rw [← hN', blk_set i j _ hlt, if_neg hj]
 have hbk : ∀ j, (N'.blk j).pages = (st.N.blk j).pages ∧ (N'.blk j).erases = (st.N.blk j).erases ∧ (N'.blk j).half = (st.N.blk j).half ∧ (N'.blk j).failed = (st.N.blk j).failed := fun j => by
  rw [← hN', blk_set i j _ hlt]
  by_cases e : j = i
  ·rw [if_pos e, e]; exact ⟨rfl, rfl, rfl, rfl⟩
  ·rw [if_neg e]; exact ⟨rfl, rfl, rfl, rfl⟩
 have hl : N'.bs.length = st.N.bs.length := by rw [← hN']; exact len_set _ _ _
 have hpg : N'.pages = st.N.pages := by subst hN'; rfl
 have hoff : N'.off = false := by subst hN'; exact hS.rest.cor.on
 obtain ⟨h1, h2⟩ := hS.rest.arr (N' := N') hl hpg hoff hbk
 refine (h.calls (N' := N') (R := fun e => e = .returned (.int .i64 0)) (h.wf.arr hl hpg (fun j => ⟨(hbk j).1, (hbk j).2.1⟩)) (fun F' hA => by
  refine (doom_any F' o.ba st.N (i : Int) (q : Int) w1 hA (by omega)).mono ?_
  rintro e w' ⟨he, h1, h2⟩
  rw [hd] at he h1
  exact ⟨he, h1.grown (w := w1) w1, h2⟩)).mono ?_
 rintro e w' ⟨he, hL⟩
 refine ⟨he, _, hL, h1, by rw [h2]; exact hS.data, hS.seq, by subst hN'; exact hS.fence, fun j hj hx => ?_⟩
 have hji : j ≠ i := fun e => hx (by rw [e]; exact List.mem_cons_self)
 show Hale1 N' j
 unfold Hale1
 rw [hot j hji]
 exact hS.bnd j hj (fun x => hx (List.mem_cons_of_mem _ x))
end
section
variable {c : FC} {A : Option Addr} {n cc b s : Nat} {K : Nat → Prop} {w w1 w2 : World} {N : NA} {P : (Nat → Option (List Int)) → Prop} {X : List Nat}
/-- The power goes off and on. -/
theorem run_restart {W : World} (h : Run (fun _ => False) w w1 b N K W) (cut : Int) :
  Calls Try.prog 35 #[.pointer (some ⟨b, 0, none⟩), .int .i64 cut] w1 fun e w' => e = .returned (.int .i64 0) ∧ Run (fun _ => False) w w' b (N.restart cut) K W :=
 h.calls (fun F' hA => restart_any F' b N cut w1 hA)
theorem run_arm {W : World} (h : Run (fun _ => False) w w1 b N K W) (q : Nat) (hq : q ≤ 1000) :
  Calls Try.prog 34 #[.pointer (some ⟨b, 0, none⟩), .int .i64 (q : Int)] w1 fun e w' => e = .returned (.int .i64 0) ∧ Run (fun _ => False) w w' b { N with armed := q } K W :=
 h.calls (fun F' hA => by
  refine (arm_any F' b N (q : Int) w1 hA (by omega)).mono ?_
  rintro e w' ⟨he, h1, h2⟩
  rw [arm_is] at he h1
  exact ⟨he, h1.grown (w := w1) w1, h2⟩)
end
end Go.Proofs.Ytpcbpljdiacbmaa.Ftl

namespace Go.Proofs.Ytpcbpljdiacbmaa.Ftl
open Go.RowKit Go.Proofs.Ytpcbpljdiacbmaa.Kit Go.Proofs.Ytpcbpljdiacbmaa.Oct Go.Proofs.Ytpcbpljdiacbmaa.Sheet Go.Proofs.Ytpcbpljdiacbmaa.Nand Go.Proofs.Ytpcbpljdiacbmaa.Plan Go.Proofs.Ytpcbpljdiacbmaa.Scan Go.Proofs.Ytpcbpljdiacbmaa.Pmap Go.Proofs.Ytpcbpljdiacbmaa.Pool

/-! Calls while the power may fail. -/
section
variable {c : FC} {o : FId} {A : Option Addr} {n cc b s s' a : Nat} {K K' : Nat → Prop} {V w w1 w2 : World} {st : FT} {N N' : NA} {D D' : Nat → Option (List Int)} {ys : List Int} {zs : List (List Int)} {X : List Nat} {P P' : (Nat → Option (List Int)) → Prop}
/-- Behind a call: it went, or the power has failed. -/
def Aft (c : FC) (st : FT) (D D' : Nat → Option (List Int)) (s : Nat) (X : List Nat) (h : Int) : Prop :=
 (h = 0 ∧ Hld c st D' s X) ∨ (h = 9 ∧ Mnt c st.N (fun x => x = D ∨ x = D') s X ∧ st.N.fence = 0)
theorem LF.hwrite (h : LF c o A n cc K V w w1 st) (hk : CK c) (hS : Hld c st D s X) (hX : X.length ≤ c.S) (hs : s + 7000 ≤ 281474976710000) (a : Nat) (ys : List Int) (A' : Option Addr) (n' c' : Nat) (hz : Nums w .u8 A' n' ys) (ha : a < c.M) (hn : n' ≤ 64) :
  Calls Try.prog 18 #[.pointer (some ⟨o.bf, 0, none⟩), .int .i64 (a : Int), .slice A' n' c'] w1 fun e w' => ∃ q st', e = .returned (.int .i64 q) ∧ LF c o A n cc K V w w' st' ∧ Aft c st' D (updV D a ys) (s + 7000) X q := by
 have hB : IsB ys := fun x hx => wf_u8 (hz.wf x hx)
 have hlt := hz.lt0
 obtain ⟨R, r1, r2, r3⟩ := put_ex hk hS.rest (by have := hS.seq; omega) 1 a ys ha (.inl rfl) (by rw [hz.len]; exact hn) (.inl rfl) hB
 refine (h.write hk a ys A' n' c' (nums_blk hz (fun h0 ad had => h.old _ (hlt h0 ad had))) (fun h0 ad had => .inl (hlt h0 ad had)) hB ha hn R r1).mono ?_
 rintro e w' ⟨he, hL⟩
 refine ⟨_, _, he, hL, ?_⟩
 rcases hS.put hX r2 r3 with ⟨g0, g1⟩ | ⟨g0, g1⟩
 ·exact .inl ⟨g0, g1⟩
 ·exact .inr ⟨g0, g1, r3.fence.trans hS.fence⟩
theorem LF.hwrite_new (h : LF c o A n cc K V w w1 st) (hk : CK c) (hS : Hld c st D s X) (hX : X.length ≤ c.S) (hs : s + 7000 ≤ 281474976710000) (h0 : st.N.armed = 0) (hB : Below w1.heap.size w1 w2) (a : Nat) (ys : List Int) (g m c' : Nat) (hz : Nums w2 .u8 (some ⟨g, 0, none⟩) m ys) (hg : w1.heap.size ≤ g ∧ g < w2.heap.size) (ha : a < c.M) (hn : m ≤ 64) :
  Calls Try.prog 18 #[.pointer (some ⟨o.bf, 0, none⟩), .int .i64 (a : Int), .slice (some ⟨g, 0, none⟩) m c'] w2 fun e w' => e = .returned (.int .i64 0) ∧ Below w.heap.size w w' := by
 have hY : IsB ys := fun x hx => wf_u8 (hz.wf x hx)
 have hL := h.more (K' := fun x => K x ∨ x = g) hB (fun x hx => by
  rcases hx with hx | hx
  ·exact .inl hx
  ·exact .inr (by rw [hx]; exact hg)) (fun x hx => .inl hx)
 obtain ⟨R, r1, r2, r3⟩ := put_ex hk hS.rest (by have := hS.seq; omega) 1 a ys ha (.inl rfl) (by rw [hz.len]; exact hn) (.inl rfl) hY
 have hne : R.2 ≠ 9 := fun e => by
  rcases r2 with ⟨g0, -⟩ | ⟨g0, -⟩ | ⟨g0, g1⟩ | ⟨g0, -⟩
  ·omega
  ·omega
  ·have := r3.on h0 hS.rest.cor.on
   rw [g1.1] at this
   cases this
  ·omega
 have h00 : R.2 = 0 := by
  rcases hS.put hX r2 r3 with ⟨g0, g1⟩ | ⟨g0, g1⟩
  ·exact g0
  ·exact absurd g0 hne
 refine (hL.write hk a ys _ m c' hz (fun _ ad had => by
  injection had with had
  rw [← had]
  exact .inr (.inr rfl)) hY ha hn R r1).mono ?_
 rintro e w' ⟨he, hL'⟩
 rw [h00] at he
 exact ⟨he, hL'.below⟩
theorem LF.htrim (h : LF c o A n cc K V w w1 st) (hk : CK c) (hS : Hld c st D s X) (hX : X.length ≤ c.S) (hs : s + 7000 ≤ 281474976710000) (a : Nat) (ha : a < c.M) :
  Calls Try.prog 20 #[.pointer (some ⟨o.bf, 0, none⟩), .int .i64 (a : Int)] w1 fun e w' => ∃ q st', e = .returned (.int .i64 q) ∧ LF c o A n cc K V w w' st' ∧ Aft c st' D (if D a = none then D else updV D a []) (s + 7000) X q := by
 have hcf := hS.rest.cor.cf a
 have hD : D a = none ↔ st.has.getD a false = false := by
  rw [← hS.data, hcf]
  unfold Vof
  cases cF st a <;> simp
 by_cases hn : D a = none
 ·rw [if_pos hn]
  refine (trim_none h.fr hk.ok a ha (hD.1 hn)).mono ?_
  rintro e w' ⟨he, hB⟩
  exact ⟨0, st, he, h.later hB, .inl ⟨rfl, hS.up (by omega)⟩⟩
 ·rw [if_neg hn]
  have hh : st.has.getD a false = true := by
   cases e : st.has.getD a false with
   | true => rfl
   | false => exact absurd (hD.2 e) hn
  obtain ⟨R, r1, r2, r3⟩ := put_ex hk hS.rest (by have := hS.seq; omega) 2 a [] ha (.inr rfl) (by simp) (.inr rfl) (fun x hx => by cases hx)
  refine (h.trim hk a ha hh R r1).mono ?_
  rintro e w' ⟨he, hL⟩
  refine ⟨_, _, he, hL, ?_⟩
  rcases hS.put hX r2 r3 with ⟨g0, g1⟩ | ⟨g0, g1⟩
  ·exact .inl ⟨g0, g1⟩
  ·exact .inr ⟨g0, g1, r3.fence.trans hS.fence⟩
theorem set_own : ∀ (ys : List (List Int)) (j : Nat), ys.set j (ys.getD j []) = ys := by
 intro ys
 induction ys with
 | nil => intro j; rfl
 | cons y ys ih =>
  intro j
  cases j with
  | zero => rfl
  | succ j => rw [List.set_cons_succ, List.getD_cons_succ, ih]
theorem Fits.own {c : FC} (h : Fits c D zs) (j : Nat) : Fits c D (zs.set j (zs.getD j [])) := by rw [set_own]; exact h
/-- The power is off. -/
structure Dn (c : FC) (A : Option Addr) (n cc b : Nat) (K : Nat → Prop) (V w w1 : World) (N : NA) (P : (Nat → Option (List Int)) → Prop) (s : Nat) (X : List Nat) : Prop where
 run : Run (fun _ => False) w w1 b N (withA K A) V
 apart : ∀ g, K g → ∀ ad, A = some ad → g ≠ ad.block
 geo : Geo V c.nb c.np (c.S : Int) A n cc c.bad
 mnt : Mnt c N P s X
/-- It is on again. -/
structure Up (c : FC) (A : Option Addr) (n cc b : Nat) (K : Nat → Prop) (V w w1 : World) (N : NA) (P : (Nat → Option (List Int)) → Prop) (s : Nat) (X : List Nat) : Prop where
 run : Run (fun _ => False) w w1 b N (withA K A) V
 apart : ∀ g, K g → ∀ ad, A = some ad → g ≠ ad.block
 geo : Geo V c.nb c.np (c.S : Int) A n cc c.bad
 aok : ∃ c2, AOk c N c2 s ∧ P (Vof c2)
 bnd : Bnd c N X
 fence : N.fence = 0
 on : N.off = false
theorem geo_run {K : Nat → Prop} (hr : Run (fun _ => False) w w1 b N (withA K A) V) (hg : Geo V c.nb c.np (c.S : Int) A n cc c.bad) : Geo w1 c.nb c.np (c.S : Int) A n cc c.bad := by
 obtain ⟨F', h1, h2, h3, h4⟩ := hr
 exact ⟨nums_blk hg.nums (fun _ ad had => (h4 _ (.inr ⟨ad, had, rfl⟩)).2.2.2), hg.nc, hg.form⟩
theorem Dn.now (h : Dn c A n cc b K V w w1 N P s X) : Dn c A n cc b K w1 w w1 N P s X := ⟨h.run.now, h.apart, geo_run h.run h.geo, h.mnt⟩
theorem Up.now (h : Up c A n cc b K V w w1 N P s X) : Up c A n cc b K w1 w w1 N P s X := ⟨h.run.now, h.apart, geo_run h.run h.geo, h.aok, h.bnd, h.fence, h.on⟩
theorem Dn.blk {g : Nat} {cs : Array Value} {T : TypeId} (h : Dn c A n cc b K V w w1 N P s X) (hg : K g) (hb : Blk V g cs T) : Blk w1 g cs T := h.run.blk (.inl hg) hb
theorem Up.blk {g : Nat} {cs : Array Value} {T : TypeId} (h : Up c A n cc b K V w w1 N P s X) (hg : K g) (hb : Blk V g cs T) : Blk w1 g cs T := h.run.blk (.inl hg) hb
theorem LF.dn (h : LF c o A n cc K V w w1 st) (hM : Mnt c st.N P s X) : Dn c A n cc o.ba K w1 w w1 st.N P s X := ⟨h.run, h.apart, h.geo, hM⟩
theorem LF.up (h : LF c o A n cc K V w w1 st) (hk : CK c) (hS : Hld c st D s X) : Up c A n cc o.ba K w1 w w1 st.N (fun x => x = D) s X :=
 ⟨h.run, h.apart, h.geo, ⟨cF st, (hS.rest.aok hk.nb).later hS.seq, hS.data⟩, hS.bnd, hS.fence, hS.rest.cor.on⟩
theorem Dn.restart (h : Dn c A n cc b K V w w1 N P s X) (cut : Int) :
  Calls Try.prog 35 #[.pointer (some ⟨b, 0, none⟩), .int .i64 cut] w1 fun e w' => e = .returned (.int .i64 0) ∧ ∃ N', N'.armed = 0 ∧ Up c A n cc b K V w w' N' P s X := by
 refine (run_restart h.run cut).mono ?_
 rintro e w' ⟨he, hR⟩
 obtain ⟨c2, h1, h2⟩ := h.mnt.all cut
 exact ⟨he, _, rfl, hR, h.apart, h.geo, ⟨c2, h1, h2⟩, h.mnt.bnd.same (fun i => fall_same N (fun u hu => (h.run.wf.way u hu).2.1) cut i), rfl, rfl⟩
theorem Up.arm (h : Up c A n cc b K V w w1 N P s X) (q : Nat) (hq : q ≤ 1000) :
  Calls Try.prog 34 #[.pointer (some ⟨b, 0, none⟩), .int .i64 (q : Int)] w1 fun e w' => e = .returned (.int .i64 0) ∧ ∃ N', Up c A n cc b K V w w' N' P s X := by
 refine (run_arm h.run q hq).mono ?_
 rintro e w' ⟨he, hR⟩
 obtain ⟨c2, h1, h2⟩ := h.aok
 exact ⟨he, _, hR, h.apart, h.geo, ⟨c2, h1.same (Nat.le_refl _) rfl rfl (fun i => ⟨rfl, rfl⟩) (fun i hi => hi) h1.er, h2⟩, h.bnd.same (fun i => ⟨rfl, rfl, rfl⟩), h.fence, h.on⟩
theorem Up.mount (h : Up c A n cc b K V w w1 N P s X) {e0 : Nat} (hk : CK (c.at e0)) :
  Calls Try.prog 16 #[.pointer (some ⟨b, 0, none⟩), .agg #[.int .i64 (c.nb : Int), .int .i64 (c.np : Int), .int .i64 (c.S : Int), .slice A n cc], .int .u64 (e0 : Int)] w1 fun e w' =>
   (∃ o st D, o.ba = b ∧ e = .returned (.tuple #[.pointer (some ⟨o.bf, 0, none⟩), .int .i64 0]) ∧ LF (c.at e0) o A n cc K w1 w w' st ∧ P D ∧ Hld (c.at e0) st D s X ∧ (N.armed = 0 → st.N.armed = 0)) ∨
   (N.armed ≠ 0 ∧ e = .returned (.tuple #[.pointer none, .int .i64 9]) ∧ ∃ N', Dn c A n cc b K w' w w' N' P s X ∧ ∀ g cs T, K g → Blk w1 g cs T → Blk w' g cs T) := by
 obtain ⟨c2, h1, h2⟩ := h.aok
 refine (lmount (c := c.at e0) hk h.run.now h.apart (geo_run h.run h.geo) (h1.at e0) h.on).mono ?_
 rintro e w' ⟨o, R, q1, q2, q3, q4, q5, q6⟩
 rcases Hld.mount (c := c.at e0) h.fence h.bnd q5 q6 with ⟨g0, g1⟩ | ⟨g0, g1, g2⟩
 ·exact .inl ⟨o, R.1, _, q1, q2 g0, q4, h2, g1, fun h0 => q6.calm h0⟩
 ·refine .inr ⟨fun ha => ?_, ?_, R.1.N, ?_⟩
  ·have := q6.on ha h.on
   rw [g2] at this
   cases this
  ·rw [q3 (by omega), g0]
  ·have hd := q4.dn g1
   rw [q1] at hd
   exact ⟨⟨hd.run, h.apart, hd.geo, ⟨fun cut => by
    obtain ⟨c3, k1, k2⟩ := g1.all cut
    exact ⟨c3, k1.at c.ep, k2 ▸ h2⟩, g1.bnd⟩⟩, fun g cs T hg hb => q4.blk hg hb⟩
end
end Go.Proofs.Ytpcbpljdiacbmaa.Ftl

namespace Go.Proofs.Ytpcbpljdiacbmaa.Ftl
open Go.RowKit Go.Proofs.Ytpcbpljdiacbmaa.Kit Go.Proofs.Ytpcbpljdiacbmaa.Oct Go.Proofs.Ytpcbpljdiacbmaa.Sheet Go.Proofs.Ytpcbpljdiacbmaa.Nand Go.Proofs.Ytpcbpljdiacbmaa.Plan Go.Proofs.Ytpcbpljdiacbmaa.Scan Go.Proofs.Ytpcbpljdiacbmaa.Pmap Go.Proofs.Ytpcbpljdiacbmaa.Pool

set_option maxRecDepth 100000 in
set_option maxHeartbeats 4000000 in
theorem law_falls (n : Int) (hn : 0 ≤ n ∧ n ≤ 255) (C : Option Addr) (l d : Nat) (xs : Nat → FAct) (w : World) (hx : Recs w C l 5 FAct.enc FAct.ok xs) :
  Calls Try.prog 12 #[.int .u8 n, .slice C l d] w fun e w' => e = .returned (.bool true) ∧ Below w.heap.size w w' := by
 have hl63 : (l : Int) ≤ 9223372036854775807 := by have := hx.most; omega
 have Hx := hid hx
 clear hx
 obtain ⟨n, rfl⟩ := Int.eq_ofNat_of_zero_le hn.1
 have hn : n < 256 := by omega
 have hk : CK (cG n 1) := cG_ok hn (by omega) (by omega)
 have hgeo : ∀ W, Calls Try.prog 14 #[.int .u8 (n : Int)] W fun e w' => ∃ A m cp, e = .returned (.agg #[.int .i64 ((cG n 1).nb : Int), .int .i64 ((cG n 1).np : Int), .int .i64 ((cG n 1).S : Int), .slice A m cp]) ∧ Geo w' (cG n 1).nb (cG n 1).np ((cG n 1).S : Int) A m cp (cG n 1).bad ∧ Below W.heap.size W w' ∧ ∀ ad, A = some ad → W.heap.size ≤ ad.block ∧ ad.block < w'.heap.size := fun W => geometry_low n hn W
 have hbad : ∀ x ∈ (cG n 1).bad, 0 ≤ x ∧ x < ((cG n 1).nb : Int) := geo_bad ⟨n, hn⟩
 have hcM : Plan.cap ((cG n 1).nb : Int) ((cG n 1).np : Int) ((cG n 1).S : Int) (cG n 1).bad = ((cG n 1).M : Int) - 1 := hk.ok
 have hM61 : (cG n 1).M ≤ 61 := by
  have h := (geo_more ⟨n, hn⟩).2.2.2
  have h : capN n ≤ 60 := h
  show capN n + 1 ≤ 61
  omega
 have hnb : 5 ≤ (cG n 1).nb ∧ (cG n 1).nb ≤ 9 := by show 5 ≤ gB n ∧ gB n ≤ 9; unfold gB; omega
 have hnp : 2 ≤ (cG n 1).np ∧ (cG n 1).np ≤ 5 := by show 2 ≤ gP n ∧ gP n ≤ 5; unfold gP; omega
 have hlen3 : 3 + (cG n 1).S ≤ (cG n 1).xs.length := geo_three ⟨n, hn⟩
 generalize cG n 1 = c at *
 have Hlen := hid hlen3
 clear hlen3
 have Hk := hid hk
 have Hbad := hid hbad
 have HcM := hid hcM
 have hM1 := hk.M
 clear hk hbad hcM
 go_enter Try.func12, Try.ntmps12
 go_wp2_with fail
 refine (awake_ftl w).mono ?_
 rintro e w0 ⟨rfl, hB0⟩
 have hgeo' := hgeo w0
 clear hgeo
 go_wp2_with fail
 refine hgeo'.mono ?_
 rintro e w1 ⟨A, m, cp, rfl, hg1, hB1, hA1⟩
 clear hgeo'
 go_upto_region 4 with (fail)
 generalize hw2 : World.alloc w1 _ = w2
 obtain ⟨g1, hg1e⟩ : ∃ g, w1.heap.size = g := ⟨_, rfl⟩
 have hB2 : Below w1.heap.size w1 w2 := by rw [← hw2]; exact (Below.refl _ _).alloc (Nat.le_refl _) _
 have hb1 : Blk w2 g1 #[.int .i64 (c.nb : Int), .int .i64 (c.np : Int), .int .i64 (c.S : Int), .slice A m cp] 26 := by rw [← hw2, ← hg1e]; exact Blk.new _ _ _
 have hg2 := hg1.later hB2
 have hB02 := hB0.trans ((hB1.trans (hB2.mono hB1.size)).mono hB0.size)
 have hnew := new_run c.nb c.np A m cp c.bad (gk g1) w w2 hB02 (by omega) (by omega) hg2.nums Hbad.out (fun g hg => by
  have h1 := hB1.size
  have h2 := hb1.lt
  have h3 := hB0.size
  rcases hg with hg | ⟨ad, had, rfl⟩
  ·have hg : g = g1 := hg
   rw [hg]
   omega
  ·have := hA1 ad had
   omega)
 have hne : ∀ g, gk g1 g → ∀ ad, A = some ad → g ≠ ad.block := fun g hg ad had => by
  have hg : g = g1 := hg
  have := hA1 ad had
  omega
 obtain ⟨z0, z1, z2, z3⟩ := geo_four hb1
 rw [hg1e]
 have Hne := hid hne
 have Hb1 := hid hb1
 have Hg2 := hid hg2
 clear hw2 hg1e hB1 hB2 hb1 hg1 hg2 hA1 hne hB0 hB02
 go_wp2_with fail
 refine hnew.mono ?_
 rintro e w3 ⟨b, rfl, hR3, hB3⟩
 clear hnew z0 z1 z2 z3
 have hb3 := Hb1.out.later hB3
 have hg3 := Hg2.out.later hB3
 have hke := Hk.out.at (e := 1) (by omega) (by omega)
 have hmt : Calls Try.prog 16 #[.pointer (some ⟨b, 0, none⟩), .agg #[.int .i64 (c.nb : Int), .int .i64 (c.np : Int), .int .i64 (c.S : Int), .slice A m cp], .int .u64 1] w3 fun e w' => ∃ o st, o.ba = b ∧ e = .returned (.tuple #[.pointer (some ⟨o.bf, 0, none⟩), .int .i64 0]) ∧ LF (c.at 1) o A m cp (gk g1) w3 w w' st ∧ Sound (c.at 1) st (Vof (fun _ => none)) 0 ∧ Ops 1 (newA c.nb c.np c.bad) st.N := cmount (c := c.at 1) hke hR3 Hne.out hg3 (AOk.new hke) rfl CalmN.new
 obtain ⟨z0, z1, z2, z3⟩ := geo_four hb3
 have Hb3 := hid hb3
 clear hR3 hB3 hg3 hb3 Hb1 Hg2 Hne Hbad hke
 go_wp2_with fail
 refine hmt.mono ?_
 rintro e w4 ⟨o, st, hob, rfl, hL4, hS4, -⟩
 clear hmt z0 z1 z2 z3
 subst hob
 have hb4 := hL4.blk (show gk g1 g1 from rfl) Hb3.out
 have HS := hid hS4
 obtain ⟨z0, z1, z2, z3⟩ := geo_four hb4
 have hrc : Calls Try.prog 17 #[.agg #[.int .i64 (c.nb : Int), .int .i64 (c.np : Int), .int .i64 (c.S : Int), .slice A m cp]] w4 fun e w' => e = .returned (.int .i64 ((c.M : Int) - 1)) ∧ Below w4.heap.size w4 w' := by rw [← HcM.out]; exact rcap_geo hL4.geo
 have HL4 := hid hL4
 have Hb4 := hid hb4
 clear hL4 hS4 hb4 Hb3
 go_wp2_with fail
 refine hrc.mono ?_
 rintro e w5 ⟨rfl, hB5⟩
 clear hrc z0 z1 z2 z3
 have hmk := fun W => make_strs W c.M (by omega)
 have hMw : IntKind.i64.wrap ((c.M : Int) - 1 + 1) = (c.M : Int) := by rw [IntWalk.i64_in _ (by omega)]; omega
 go_upto_region 9 with (fail)
 clear hmk
 generalize hw6 : World.alloc w5 _ = w6
 obtain ⟨gn, hgn⟩ : ∃ g, w5.heap.size = g := ⟨_, rfl⟩
 have hB6 : Below w5.heap.size w5 w6 := by rw [← hw6]; exact (Below.refl _ _).alloc (Nat.le_refl _) _
 have hbn : Blk w6 gn (strs (List.replicate c.M [])) 9 := by rw [← hw6, ← hgn]; exact Blk.new _ _ _
 have hB46 := hB5.trans (hB6.mono hB5.size)
 have hL6 := HL4.out.more (K' := gk2 g1 gn) hB46 (fun g hg => by
  rcases hg with hg | hg
  ·exact .inl hg
  ·exact .inr (by rw [hg]; exact ⟨by have := hB5.size; omega, hbn.lt⟩)) (fun g hg => .inl hg)
 have HL := hid hL6
 have Hg := hid (Hb4.out.later hB46)
 have Hn := hid hbn
 rw [hgn]
 have HM := hid (show c.M ≤ 61 ∧ 1 ≤ c.M from ⟨hM61, hM1⟩)
 have h1n := hid (show g1 ≠ gn by have := Hb4.out.lt; have := hB5.size; omega)
 clear hw6 hgn hB5 hB6 hbn hB46 hL6 HL4 Hb4 hMw
 obtain ⟨ba, hba⟩ : ∃ x, o.ba = x := ⟨_, rfl⟩
 rw [hba]
 have Hba := hid hba
 clear hba
 have hM61 := HM.out.1
 have HS0 := hid (show Hld (c.at 1) st (Vof (fun _ => none)) (7000 * 0) [] from ⟨HS.out.rest, HS.out.data, HS.out.seq, HS.out.calm.fence, fun i hi _ => HS.out.calm.hale i hi⟩)
 clear HS
 have hS8 := (geo_four Hg.out).2.2
 clear hS8
 go_wp2
 go_loopw [12, 8, 11] (fun t f d w' => ∃ (k e : Nat) (o' : FId) (st' : FT) (D : Nat → Option (List Int)) (X : List Nat) (dd : Nat) (ys : List (List Int)), k ≤ l ∧ k ≤ 100 ∧ t = .int .i64 (k : Int) ∧ f = .pointer (some ⟨o'.bf, 0, none⟩) ∧ d = .int .i64 (dd : Int) ∧ o'.ba = ba ∧ 1 ≤ e ∧ e < 1000 ∧ LF (c.at e) o' A m cp (gk2 g1 gn) w' w w' st' ∧ Hld (c.at e) st' D (7000 * k) X ∧ (X.length ≤ dd ∧ dd ≤ c.S) ∧ Fits c D ys ∧ Blk w' g1 #[.int .i64 (c.nb : Int), .int .i64 (c.np : Int), .int .i64 (c.S : Int), .slice A m cp] 26 ∧ Blk w' gn (strs ys) 9) (fun t _ _ _ => l - (intOf t).toNat)
 case atStart => exact ⟨0, 1, o, st, _, [], 0, _, by omega, by omega, rfl, rfl, rfl, Hba.out, by omega, by omega, HL.out, HS0.out, ⟨by simp, by omega⟩, Fits.new c, Hg.out, Hn.out⟩
 case round =>
  clear HL HS0 Hg Hn Hba
  obtain ⟨k, e, o', st', D, X, dd, ys, hkl, hk100, rfl, rfl, rfl, hba, he1, he2, hL, hS, hX, hF, hbg, hbn⟩ := hrel
  by_cases hlt : k < l
  ·have hltI : (k : Int) < (l : Int) := by omega
   by_cases h100 : k < 100
   ·have h100I : (k : Int) < 100 := by omega
    obtain ⟨bC, oC, rfl, hc⟩ := (Hx.out.below hL.below (fun _ h => h.later hL.below)).at_ k hlt
    obtain ⟨x0, x1, x2, x3, x4⟩ := FAct.cells hc
    obtain ⟨hkd, had, hz, hnn⟩ := Hx.out.ok k hlt
    generalize (xs k).kind = kd at *
    generalize (xs k).addr = ad at *
    generalize (xs k).near = nr at *
    generalize (xs k).A = dA at *
    generalize (xs k).dn = dn at *
    generalize (xs k).dc = dc at *
    generalize (xs k).ys = dys at *
    generalize (xs k).n = nn at *
    obtain ⟨P, hP, hPt, hP15⟩ := rem_nat kd hkd.1 15 (by omega)
    replace hP : kd % 15 = (P : Int) := hP
    replace hPt : kd.tmod 15 = (P : Int) := hPt
    obtain ⟨j, hj, hjm⟩ := umod_nat ad c.M HM.out.2
    have HL := hid hL
    have HS := hid hS
    have HF := hid hF
    have HX := hid hX
    have Hg := hid hbg
    have Hn := hid hbn
    have Hz := hid hz
    have Hke := hid (Hk.out.at (e := e) (by omega) (by omega))
    clear hL hS hF hX hbg hbn hc hz
    have b1 : IntKind.u64.wrap (c.M : Int) = (c.M : Int) := IntWalk.u64_in _ (by omega)
    have b2 : IntKind.i64.wrap (j : Int) = (j : Int) := IntWalk.i64_in _ (by omega)
    have b3 : (c.M : Int) ≠ 0 := by omega
    have hjI : (j : Int) < (c.M : Int) := by omega
    go_upto_region 14 with (fail)
    generalize hw2 : World.alloc wr _ = w2
    obtain ⟨gx, hgx⟩ : ∃ g, wr.heap.size = g := ⟨_, rfl⟩
    have hB2 : Below wr.heap.size wr w2 := by rw [← hw2]; exact (Below.refl _ _).alloc (Nat.le_refl _) _
    have hbx : Blk w2 gx #[.int .u8 kd, .int .i64 ad, .bool nr, .slice dA dn dc, .int .u8 nn] 48 := by rw [← hw2, ← hgx]; exact Blk.new _ _ _
    have hL2 := HL.out.more (K' := fun g => gk2 g1 gn g ∨ g = gx) hB2 (fun g hg => hg.imp id (fun x => by rw [x]; exact ⟨by omega, hbx.lt⟩)) (fun g hg => .inl hg)
    have HL2 := hid hL2
    have Hg2 := hid (Hg.out.later hB2)
    have Hn2 := hid (Hn.out.later hB2)
    have Hgx := hid (show gn ≠ gx by have := Hn.out.lt; omega)
    rw [hgx]
    clear hw2 hgx hB2 hL2 HL Hg Hn x0 x1 x2 x3 x4
    have Hbx := hid hbx
    obtain ⟨x0, x1, x2, x3, x4⟩ := five hbx
    have n0 := strs_cell Hn2.out j (by rw [HF.out.1]; exact hj)
    clear hbx
    go_upto_block 2 with (fail)
    clear b1 b2 b3 n0 hjm
    go_cut [15, 16, 11] (fun nx h d wx => ∃ (ya : List Int) (q : Int) (st' : FT) (D' : Nat → Option (List Int)) (X' : List Nat) (dd' : Nat), nx = .string (strOfNums ya) ∧ h = .int .i64 q ∧ d = .int .i64 (dd' : Int) ∧ LF (c.at e) o' A m cp (fun g => gk2 g1 gn g ∨ g = gx) wx w wx st' ∧ Aft (c.at e) st' D D' (7000 * k + 7000) X' q ∧ (X'.length ≤ dd' ∧ dd' ≤ c.S) ∧ Fits c D' (ys.set j ya) ∧ Blk wx gx #[.int .u8 kd, .int .i64 ad, .bool nr, .slice dA dn dc, .int .u8 nn] 48 ∧ Blk wx g1 #[.int .i64 (c.nb : Int), .int .i64 (c.np : Int), .int .i64 (c.S : Int), .slice A m cp] 26 ∧ Blk wx gn (strs ys) 9)
    case first =>
     as_aux_lemma =>
      rcases (show P < 8 ∨ (P = 8 ∨ P = 9) ∨ P = 10 ∨ (P = 11 ∨ P = 12) ∨ P = 13 ∨ P = 14 by omega) with hp | hp | hp | hp | hp | hp
      ·have hpI : (P : Int) < 8 := by omega
       by_cases hdn : 64 < dn
       ·have hdnI : ¬ (dn : Int) ≤ 64 := by omega
        have hdnb : decide ((dn : Int) ≤ 64) = false := decide_eq_false hdnI
        have hp1 : (P : Int) ≠ 8 ∧ (P : Int) ≠ 9 ∧ (P : Int) ≠ 11 ∧ (P : Int) ≠ 12 ∧ (P : Int) ≠ 13 ∧ (P : Int) ≠ 14 := by omega
        obtain ⟨v1, v2, v3, v4, v5, v6⟩ := hp1
        have y1 : ((P : Int) == 8) = false := by rw [beq_eq_false_iff_ne]; exact v1
        have y2 : ((P : Int) == 9) = false := by rw [beq_eq_false_iff_ne]; exact v2
        have y3 : ((P : Int) == 11) = false := by rw [beq_eq_false_iff_ne]; exact v3
        have y4 : ((P : Int) == 12) = false := by rw [beq_eq_false_iff_ne]; exact v4
        have HF9 := hid (HF.out.own j)
        have hA9 := HS.out.up (s' := 7000 * k + 7000) (by omega)
        have hL9 := HL2.out
        clear HL2 HS HF
        go_wp2
        go_meet
        case rel => exact ⟨ys.getD j [], 0, st', D, X, dd, rfl, rfl, rfl, hL9, .inl ⟨rfl, hA9⟩, HX.out, HF9.out, hL9.blk (.inr rfl) Hbx.out, hL9.blk (.inl (.inl rfl)) Hg2.out, hL9.blk (.inl (.inr rfl)) Hn2.out⟩
       ·have hdnI : (dn : Int) ≤ 64 := by omega
        have hwr := HL2.out.hwrite Hke.out HS.out (by have := HX.out; show X.length ≤ c.S; omega) (by omega) j dys dA dn dc Hz.out hj (by omega)
        have hcv := conv_str (c := dc) (Hz.out.below HL2.out.below)
        have HF9 := hid (HF.out.set hj dys)
        go_wp2_with fail
        refine hwr.mono ?_
        rintro e7 w9 ⟨q, st9, rfl, hL9, hA9⟩
        clear hwr hcv HL2
        go_wp2
        go_meet
        case rel => exact ⟨dys, q, st9, _, X, dd, rfl, rfl, rfl, hL9.now, hA9, HX.out, HF9.out, hL9.blk (.inr rfl) Hbx.out, hL9.blk (.inl (.inl rfl)) Hg2.out, hL9.blk (.inl (.inr rfl)) Hn2.out⟩
      ·rcases hp with rfl | rfl
       ·have hwr := HL2.out.htrim Hke.out HS.out (by have := HX.out; show X.length ≤ c.S; omega) (by omega) j hj
        have HF9 := hid (HF.out.trim hj)
        go_wp2_with fail
        refine hwr.mono ?_
        rintro e7 w9 ⟨q, st9, rfl, hL9, hA9⟩
        clear hwr HL2
        go_wp2
        go_meet
        case rel => exact ⟨[], q, st9, _, X, dd, rfl, rfl, rfl, hL9.now, hA9, HX.out, HF9.out, hL9.blk (.inr rfl) Hbx.out, hL9.blk (.inl (.inl rfl)) Hg2.out, hL9.blk (.inl (.inr rfl)) Hn2.out⟩
       ·have hwr := HL2.out.htrim Hke.out HS.out (by have := HX.out; show X.length ≤ c.S; omega) (by omega) j hj
        have HF9 := hid (HF.out.trim hj)
        go_wp2_with fail
        refine hwr.mono ?_
        rintro e7 w9 ⟨q, st9, rfl, hL9, hA9⟩
        clear hwr HL2
        go_wp2
        go_meet
        case rel => exact ⟨[], q, st9, _, X, dd, rfl, rfl, rfl, hL9.now, hA9, HX.out, HF9.out, hL9.blk (.inr rfl) Hbx.out, hL9.blk (.inl (.inl rfl)) Hg2.out, hL9.blk (.inl (.inr rfl)) Hn2.out⟩
      ·obtain rfl := hp
       have HF9 := hid (HF.out.own j)
       have hA9 := HS.out.up (s' := 7000 * k + 7000) (by omega)
       have hL9 := HL2.out
       clear HL2 HS HF
       go_wp2
       go_meet
       case rel => exact ⟨ys.getD j [], 0, st', D, X, dd, rfl, rfl, rfl, hL9, .inl ⟨rfl, hA9⟩, HX.out, HF9.out, hL9.blk (.inr rfl) Hbx.out, hL9.blk (.inl (.inl rfl)) Hg2.out, hL9.blk (.inl (.inr rfl)) Hn2.out⟩
      ·rcases hp with rfl | rfl
       ·obtain ⟨q, hq, hqt, hq12⟩ := rem_nat nn hnn.1 12 (by omega)
        replace hq : nn % 12 = (q : Int) := hq
        replace hqt : nn.tmod 12 = (q : Int) := hqt
        have har := HL2.out.arm (HS.out.up (s' := 7000 * k + 7000) (by omega)) (1 + q) (by omega)
        rw [hba, show ((1 + q : Nat) : Int) = 1 + (q : Int) by omega] at har
        have HF9 := hid (HF.out.own j)
        have u1 : IntKind.i64.wrap nn = nn := IntWalk.i64_in _ (by omega)
        have u2 : IntKind.i64.wrap (q : Int) = (q : Int) := IntWalk.i64_in _ (by omega)
        have u5 : IntKind.i64.wrap (1 + (q : Int)) = 1 + (q : Int) := IntWalk.i64_in _ (by omega)
        go_wp2_with fail
        refine har.mono ?_
        rintro e7 w9 ⟨rfl, st9, hL9, hA9, -⟩
        clear har HL2 u1 u2 u5
        go_wp2
        go_meet
        case rel => exact ⟨ys.getD j [], 0, st9, D, X, dd, rfl, rfl, rfl, hL9.now, .inl ⟨rfl, hA9⟩, HX.out, HF9.out, hL9.blk (.inr rfl) Hbx.out, hL9.blk (.inl (.inl rfl)) Hg2.out, hL9.blk (.inl (.inr rfl)) Hn2.out⟩
       ·obtain ⟨q, hq, hqt, hq12⟩ := rem_nat nn hnn.1 12 (by omega)
        replace hq : nn % 12 = (q : Int) := hq
        replace hqt : nn.tmod 12 = (q : Int) := hqt
        have har := HL2.out.arm (HS.out.up (s' := 7000 * k + 7000) (by omega)) (1 + q) (by omega)
        rw [hba, show ((1 + q : Nat) : Int) = 1 + (q : Int) by omega] at har
        have HF9 := hid (HF.out.own j)
        have u1 : IntKind.i64.wrap nn = nn := IntWalk.i64_in _ (by omega)
        have u2 : IntKind.i64.wrap (q : Int) = (q : Int) := IntWalk.i64_in _ (by omega)
        have u5 : IntKind.i64.wrap (1 + (q : Int)) = 1 + (q : Int) := IntWalk.i64_in _ (by omega)
        go_wp2_with fail
        refine har.mono ?_
        rintro e7 w9 ⟨rfl, st9, hL9, hA9, -⟩
        clear har HL2 u1 u2 u5
        go_wp2
        go_meet
        case rel => exact ⟨ys.getD j [], 0, st9, D, X, dd, rfl, rfl, rfl, hL9.now, .inl ⟨rfl, hA9⟩, HX.out, HF9.out, hL9.blk (.inr rfl) Hbx.out, hL9.blk (.inl (.inl rfl)) Hg2.out, hL9.blk (.inl (.inr rfl)) Hn2.out⟩
      ·obtain rfl := hp
       have HF9 := hid (HF.out.own j)
       have hway : st'.N.way = none := by
        cases hw : st'.N.way with
        | none => rfl
        | some u =>
         have := (HL2.out.run.wf.way u hw).1
         rw [HS.out.rest.cor.on] at this
         cases this
       have hA9 := ((HS.out.boot Hke.out.nb hway).mono (P' := fun x => x = D ∨ x = D) (fun _ h => .inl h) (show 7000 * k ≤ 7000 * k + 7000 by omega))
       have hf9 := HS.out.fence
       have hL9 := HL2.out
       clear HL2 HS HF hway
       go_wp2
       go_meet
       case rel => exact ⟨ys.getD j [], 9, st', D, X, dd, rfl, rfl, rfl, hL9, .inr ⟨rfl, hA9, hf9⟩, HX.out, HF9.out, hL9.blk (.inr rfl) Hbx.out, hL9.blk (.inl (.inl rfl)) Hg2.out, hL9.blk (.inl (.inr rfl)) Hn2.out⟩
      ·obtain rfl := hp
       obtain ⟨z0, z1, z2, z3⟩ := geo_four Hg2.out
       by_cases hdS : dd < c.S
       ·have hdI : (dd : Int) < (c.S : Int) := by omega
        have hru := rus_any HL2.out.geo
        have hru : Calls Try.prog 27 #[.agg #[.int .i64 (c.nb : Int), .int .i64 (c.np : Int), .int .i64 (c.S : Int), .slice A m cp]] w2 fun e w' => ∃ U d, e = .returned (.slice U c.xs.length d) ∧ Nums w' .i64 U c.xs.length c.xs ∧ (∀ a, U = some a → w2.heap.size ≤ a.block) ∧ Below w2.heap.size w2 w' := hru
        have hxl : c.xs.length ≤ 64 := by have := xs_len (c := c) (by omega); rw [this]; exact cnum_le _ _
        have hget : ∀ j, j < c.xs.length → ∃ i : Nat, c.xs.getD j 0 = (i : Int) ∧ i < c.nb := fun j hj => by
         have hm : c.xs.getD j 0 ∈ c.xs := by
          rw [List.getD_eq_getElem?_getD, List.getElem?_eq_getElem hj]
          exact List.getElem_mem _
         obtain ⟨q, hq, -, h2⟩ := xs_nat hm
         exact ⟨q, hq, h2⟩
        have hlen0 : 3 ≤ c.xs.length := by have := Hlen.out; omega
        obtain ⟨us, hus⟩ : ∃ x, c.xs = x := ⟨_, rfl⟩
        rw [hus] at hru hxl hget hlen0
        obtain ⟨ul, hul⟩ : ∃ x, us.length = x := ⟨_, rfl⟩
        rw [hul] at hru hxl hget hlen0
        clear hus hul
        have hS8 : (c.S : Int) ≤ 8 := HL2.out.geo.bd.2.2.2.2.2.1
        have d1 : IntKind.i64.wrap ((dd : Int) + 1) = (dd : Int) + 1 := IntWalk.i64_in _ (by omega)
        go_wp2_with fail
        refine hru.mono ?_
        rintro e7 w7 ⟨U, ud, rfl, hU, hUl, hB7⟩
        clear hru z0 z1 z2 z3 x0 x1 x2 x3 x4
        obtain ⟨gu, ou, rfl, hu0⟩ := hU.at_ 0 (by omega)
        have hgu := hUl _ rfl
        replace hgu : w2.heap.size ≤ gu := hgu
        have hgu7 := World.block_lt_of_cell? w7 _ hu0
        replace hgu7 : gu < w7.heap.size := hgu7
        have hL7 := HL2.out.more (K' := fun g => (gk2 g1 gn g ∨ g = gx) ∨ g = gu) hB7 (fun g hg => hg.imp id (fun x => by rw [x]; exact ⟨hgu, hgu7⟩)) (fun g hg => .inl hg)
        obtain ⟨i, hi, hit, hil⟩ := rem_nat nn hnn.1 ul (by omega)
        obtain ⟨q, hq, hqt, hq8⟩ : ∃ q : Nat, nn / 16 = (q : Int) ∧ nn.tdiv 16 = (q : Int) ∧ q < 16 := ⟨(nn / 16).toNat, by omega, by rw [Int.tdiv_eq_ediv_of_nonneg hnn.1]; omega, by omega⟩
        obtain ⟨i0, hi0, hi0n⟩ := hget i hil
        have hcu := hU.cell0 i hil
        rw [hi0] at hcu
        have hdm := hL7.drew.doomX (HS.out.up (s' := 7000 * k + 7000) (by omega)) i0 (1 + q) hi0n (by omega)
        rw [hba, show ((1 + q : Nat) : Int) = 1 + (q : Int) by omega] at hdm
        have Hbx7 := hid (Hbx.out.later hB7)
        have Hg7 := hid (Hg2.out.later hB7)
        have Hn7 := hid (Hn2.out.later hB7)
        have x4 : w7.cell? ⟨gx, 4, none⟩ = some (.int .u8 nn) := Hbx7.out.cell 4
        have Hu7 := hid hU
        have HXd := hid (show w7.drew.cell? ⟨gx, 4, none⟩ = some (.int .u8 nn) ∧ w7.drew.cell? ⟨gu, ou + i, none⟩ = some (.int .i64 (i0 : Int)) from ⟨x4, hcu⟩)
        have HX9 := hid (show (i0 :: X).length ≤ dd + 1 ∧ dd + 1 ≤ c.S from ⟨by have := HX.out.1; rw [List.length_cons]; omega, by omega⟩)
        have HF9 := hid (HF.out.own j)
        clear hL7 HL2 hB7 hU hUl hu0 hgu hgu7 x4 hget
        have u1 : IntKind.i64.wrap nn = nn := IntWalk.i64_in _ (by omega)
        have u2 : IntKind.i64.wrap (i : Int) = (i : Int) := IntWalk.i64_in _ (by omega)
        have u3 : IntKind.i64.wrap (q : Int) = (q : Int) := IntWalk.i64_in _ (by omega)
        have u4 : IntKind.u8.wrap (q : Int) = (q : Int) := IntWalk.u8_in _ (by omega)
        have u5 : IntKind.i64.wrap (1 + (q : Int)) = 1 + (q : Int) := IntWalk.i64_in _ (by omega)
        have ulI : (ul : Int) ≠ 0 := by omega
        have ulN : ul ≠ 0 := by omega
        have hiI : (i : Int) < (ul : Int) := by omega
        go_upto_region 32 with (fail)
        refine wp_region_held_drew (S := (fun w' => w'.cell? ⟨gx, 4, none⟩ = some (.int .u8 nn) ∧ w'.cell? ⟨gu, ou + i, none⟩ = some (.int .i64 (i0 : Int)))) (by kernel_rfl) ?hSnewFkz (fun hHeld => ?restFkz)
        case hSnewFkz => ((try dsimp only); exact HXd.out)
        refine wpAnyH_take (i := 0) (oi := ?oiFkt2x0) (v := ?vFkt2x0) ?hoFkt2x0 ?h1Fkt2x0 ?h2Fkt2x0 ?h3Fkt2x0 ?hqFkt2x0 (Or.inl ⟨?h4Fkt2x0, ?hyFkt2x0⟩) (by assumption) ?restFkt2x0
        case hoFkt2x0 => (simp only [qa, qb, qc]; rfl)
        case h1Fkt2x0 => kernel_rfl
        case h2Fkt2x0 => kernel_rfl
        case h3Fkt2x0 => kernel_rfl
        case h4Fkt2x0 => rfl
        case hqFkt2x0 => exact fun _ _ _ h => h
        case hyFkt2x0 => (intro w hSw; (try dsimp only at hSw); go_simp <;> with_reducible rfl)
        (try simp only [Act.put, qd, qe, qf])
        refine wpAnyH_take (i := 1) (oi := ?oiFkt4x1) (v := ?vFkt4x1) ?hoFkt4x1 ?h1Fkt4x1 ?h2Fkt4x1 ?h3Fkt4x1 ?hqFkt4x1 (Or.inl ⟨?h4Fkt4x1, ?hyFkt4x1⟩) (by assumption) ?restFkt4x1
        case hoFkt4x1 => (simp only [qa, qb, qc]; rfl)
        case h1Fkt4x1 => kernel_rfl
        case h2Fkt4x1 => kernel_rfl
        case h3Fkt4x1 => kernel_rfl
        case h4Fkt4x1 => rfl
        case hqFkt4x1 => exact fun _ _ _ h => h
        case hyFkt4x1 => (intro w hSw; (try dsimp only at hSw); go_simp <;> with_reducible rfl)
        (try simp only [Act.put, qd, qe, qf])
        refine wpAnyH_take (i := 2) (oi := ?oiFkt6x2) (v := ?vFkt6x2) ?hoFkt6x2 ?h1Fkt6x2 ?h2Fkt6x2 ?h3Fkt6x2 ?hqFkt6x2 (Or.inl ⟨?h4Fkt6x2, ?hyFkt6x2⟩) (by assumption) ?restFkt6x2
        case hoFkt6x2 => (simp only [qa, qb, qc]; rfl)
        case h1Fkt6x2 => kernel_rfl
        case h2Fkt6x2 => kernel_rfl
        case h3Fkt6x2 => kernel_rfl
        case h4Fkt6x2 => rfl
        case hqFkt6x2 => exact fun _ _ _ h => h
        case hyFkt6x2 => (intro w hSw; (try dsimp only at hSw); go_simp <;> with_reducible rfl)
        (try simp only [Act.put, qd, qe, qf])
        refine wpAnyH_take (i := 3) (oi := ?oiFkt8x3) (v := ?vFkt8x3) ?hoFkt8x3 ?h1Fkt8x3 ?h2Fkt8x3 ?h3Fkt8x3 ?hqFkt8x3 (Or.inl ⟨?h4Fkt8x3, ?hyFkt8x3⟩) (by assumption) ?restFkt8x3
        case hoFkt8x3 => (simp only [qa, qb, qc]; rfl)
        case h1Fkt8x3 => kernel_rfl
        case h2Fkt8x3 => kernel_rfl
        case h3Fkt8x3 => kernel_rfl
        case h4Fkt8x3 => rfl
        case hqFkt8x3 => exact fun _ _ _ h => h
        case hyFkt8x3 => (intro w hSw; (try dsimp only at hSw); go_simp <;> with_reducible rfl)
        (try simp only [Act.put, qd, qe, qf])
        refine wpAnyH_take (i := 4) (oi := ?oiFkt10x4) (v := ?vFkt10x4) ?hoFkt10x4 ?h1Fkt10x4 ?h2Fkt10x4 ?h3Fkt10x4 ?hqFkt10x4 (Or.inl ⟨?h4Fkt10x4, ?hyFkt10x4⟩) (by assumption) ?restFkt10x4
        case hoFkt10x4 => (simp only [qa, qb, qc]; rfl)
        case h1Fkt10x4 => kernel_rfl
        case h2Fkt10x4 => kernel_rfl
        case h3Fkt10x4 => kernel_rfl
        case h4Fkt10x4 => rfl
        case hqFkt10x4 => exact fun _ _ _ h => h
        case hyFkt10x4 => (intro w hSw; (try dsimp only at hSw); go_simp <;> with_reducible rfl)
        (try simp only [Act.put, qd, qe, qf])
        refine wpAnyH_take (i := 5) (oi := ?oiFkt12x5) (v := ?vFkt12x5) ?hoFkt12x5 ?h1Fkt12x5 ?h2Fkt12x5 ?h3Fkt12x5 ?hqFkt12x5 (Or.inl ⟨?h4Fkt12x5, ?hyFkt12x5⟩) (by assumption) ?restFkt12x5
        case hoFkt12x5 => (simp only [qa, qb, qc]; rfl)
        case h1Fkt12x5 => kernel_rfl
        case h2Fkt12x5 => kernel_rfl
        case h3Fkt12x5 => kernel_rfl
        case h4Fkt12x5 => rfl
        case hqFkt12x5 => exact fun _ _ _ h => h
        case hyFkt12x5 => (intro w hSw; (try dsimp only at hSw); go_simp <;> with_reducible rfl)
        (try simp only [Act.put, qd, qe, qf])
        refine wpAnyH_take (i := 6) (oi := ?oiFkt14x6) (v := ?vFkt14x6) ?hoFkt14x6 ?h1Fkt14x6 ?h2Fkt14x6 ?h3Fkt14x6 ?hqFkt14x6 (Or.inl ⟨?h4Fkt14x6, ?hyFkt14x6⟩) (by assumption) ?restFkt14x6
        case hoFkt14x6 => (simp only [qa, qb, qc]; rfl)
        case h1Fkt14x6 => kernel_rfl
        case h2Fkt14x6 => kernel_rfl
        case h3Fkt14x6 => kernel_rfl
        case h4Fkt14x6 => rfl
        case hqFkt14x6 => exact fun _ _ _ h => h
        case hyFkt14x6 => (intro w hSw; (try dsimp only at hSw); go_simp <;> with_reducible rfl)
        (try simp only [Act.put, qd, qe, qf])
        refine wpAnyH_take (i := 7) (oi := ?oiFkt16x7) (v := ?vFkt16x7) ?hoFkt16x7 ?h1Fkt16x7 ?h2Fkt16x7 ?h3Fkt16x7 ?hqFkt16x7 (Or.inl ⟨?h4Fkt16x7, ?hyFkt16x7⟩) (by assumption) ?restFkt16x7
        case hoFkt16x7 => (simp only [qa, qb, qc]; rfl)
        case h1Fkt16x7 => kernel_rfl
        case h2Fkt16x7 => kernel_rfl
        case h3Fkt16x7 => kernel_rfl
        case h4Fkt16x7 => rfl
        case hqFkt16x7 => exact fun _ _ _ h => h
        case hyFkt16x7 => (intro w hSw; (try dsimp only at hSw); go_simp <;> with_reducible rfl)
        (try simp only [Act.put, qd, qe, qf])
        refine wpAnyH_take (i := 8) (oi := ?oiFkt18x8) (v := ?vFkt18x8) ?hoFkt18x8 ?h1Fkt18x8 ?h2Fkt18x8 ?h3Fkt18x8 ?hqFkt18x8 (Or.inl ⟨?h4Fkt18x8, ?hyFkt18x8⟩) (by assumption) ?restFkt18x8
        case hoFkt18x8 => (simp only [qa, qb, qc]; rfl)
        case h1Fkt18x8 => kernel_rfl
        case h2Fkt18x8 => kernel_rfl
        case h3Fkt18x8 => kernel_rfl
        case h4Fkt18x8 => rfl
        case hqFkt18x8 => exact fun _ _ _ h => h
        case hyFkt18x8 => (intro w hSw; (try dsimp only at hSw); go_simp <;> with_reducible rfl)
        (try simp only [Act.put, qd, qe, qf])
        refine wpAnyH_take (i := 9) (oi := ?oiFkt20x9) (v := ?vFkt20x9) ?hoFkt20x9 ?h1Fkt20x9 ?h2Fkt20x9 ?h3Fkt20x9 ?hqFkt20x9 (Or.inl ⟨?h4Fkt20x9, ?hyFkt20x9⟩) (by assumption) ?restFkt20x9
        case hoFkt20x9 => (simp only [qa, qb, qc]; rfl)
        case h1Fkt20x9 => kernel_rfl
        case h2Fkt20x9 => kernel_rfl
        case h3Fkt20x9 => kernel_rfl
        case h4Fkt20x9 => rfl
        case hqFkt20x9 => exact fun _ _ _ h => h
        case hyFkt20x9 => (intro w hSw; (try dsimp only at hSw); go_simp <;> with_reducible rfl)
        (try simp only [Act.put, qd, qe, qf])
        refine wpAnyH_take (i := 10) (oi := ?oiFkt22x10) (v := ?vFkt22x10) ?hoFkt22x10 ?h1Fkt22x10 ?h2Fkt22x10 ?h3Fkt22x10 ?hqFkt22x10 (Or.inl ⟨?h4Fkt22x10, ?hyFkt22x10⟩) (by assumption) ?restFkt22x10
        case hoFkt22x10 => (simp only [qa, qb, qc]; rfl)
        case h1Fkt22x10 => kernel_rfl
        case h2Fkt22x10 => kernel_rfl
        case h3Fkt22x10 => kernel_rfl
        case h4Fkt22x10 => rfl
        case hqFkt22x10 => exact fun _ _ _ h => h
        case hyFkt22x10 => (intro w hSw; (try dsimp only at hSw); go_simp <;> with_reducible rfl)
        (try simp only [Act.put, qd, qe, qf])
        refine wpAnyH_take (i := 11) (oi := ?oiFkt24x11) (v := ?vFkt24x11) ?hoFkt24x11 ?h1Fkt24x11 ?h2Fkt24x11 ?h3Fkt24x11 ?hqFkt24x11 (Or.inl ⟨?h4Fkt24x11, ?hyFkt24x11⟩) (by assumption) ?restFkt24x11
        case hoFkt24x11 => (simp only [qa, qb, qc]; rfl)
        case h1Fkt24x11 => kernel_rfl
        case h2Fkt24x11 => kernel_rfl
        case h3Fkt24x11 => kernel_rfl
        case h4Fkt24x11 => rfl
        case hqFkt24x11 => exact fun _ _ _ h => h
        case hyFkt24x11 => (intro w hSw; (try dsimp only at hSw); go_simp <;> with_reducible rfl)
        (try simp only [Act.put, qd, qe, qf])
        refine wpAnyH_take (i := 12) (oi := ?oiFkt26x12) (v := ?vFkt26x12) ?hoFkt26x12 ?h1Fkt26x12 ?h2Fkt26x12 ?h3Fkt26x12 ?hqFkt26x12 (Or.inl ⟨?h4Fkt26x12, ?hyFkt26x12⟩) (by assumption) ?restFkt26x12
        case hoFkt26x12 => (simp only [qa, qb, qc]; rfl)
        case h1Fkt26x12 => kernel_rfl
        case h2Fkt26x12 => kernel_rfl
        case h3Fkt26x12 => kernel_rfl
        case h4Fkt26x12 => rfl
        case hqFkt26x12 => exact fun _ _ _ h => h
        case hyFkt26x12 => (intro w hSw; (try dsimp only at hSw); go_simp <;> with_reducible rfl)
        (try simp only [Act.put, qd, qe, qf])
        refine wpAnyH_take (i := 13) (oi := ?oiFkt28x13) (v := ?vFkt28x13) ?hoFkt28x13 ?h1Fkt28x13 ?h2Fkt28x13 ?h3Fkt28x13 ?hqFkt28x13 (Or.inl ⟨?h4Fkt28x13, ?hyFkt28x13⟩) (by assumption) ?restFkt28x13
        case hoFkt28x13 => (simp only [qa, qb, qc]; rfl)
        case h1Fkt28x13 => kernel_rfl
        case h2Fkt28x13 => kernel_rfl
        case h3Fkt28x13 => kernel_rfl
        case h4Fkt28x13 => rfl
        case hqFkt28x13 => exact fun _ _ _ h => h
        case hyFkt28x13 => (intro w hSw; (try dsimp only at hSw); go_simp <;> with_reducible rfl)
        (try simp only [Act.put, qd, qe, qf])
        refine wpAnyH_take (i := 14) (oi := ?oiFkt30x14) (v := ?vFkt30x14) ?hoFkt30x14 ?h1Fkt30x14 ?h2Fkt30x14 ?h3Fkt30x14 ?hqFkt30x14 (Or.inl ⟨?h4Fkt30x14, ?hyFkt30x14⟩) (by assumption) ?restFkt30x14
        case hoFkt30x14 => (simp only [qa, qb, qc]; rfl)
        case h1Fkt30x14 => kernel_rfl
        case h2Fkt30x14 => kernel_rfl
        case h3Fkt30x14 => kernel_rfl
        case h4Fkt30x14 => rfl
        case hqFkt30x14 => exact fun _ _ _ h => h
        case hyFkt30x14 => (intro w hSw; (try dsimp only at hSw); go_simp <;> with_reducible rfl)
        (try simp only [Act.put, qd, qe, qf])
        refine wpAnyH_ready (rs := [15]) (by kernel_rfl) (by simp) ?_
        refine AllReadyH.cons (o := ?oiFkq31) ?hoFkq31 (fun K hK => ?restFkq31) ?moreFkq31
        case moreFkq31 => exact AllReadyH.nil
        case hoFkq31 => (simp only [qa, qb, qc]; rfl)
        go_simp
        refine hdm.mono ?_
        rintro e7 w8 ⟨rfl, st8, hL8, hS8⟩
        have hbx8 := hL8.blk (.inl (.inr rfl)) Hbx7.out
        have hu8 := hL8.row (.inr rfl) Hu7.out
        have hx8 : w8.cell? ⟨gx, 4, none⟩ = some (.int .u8 nn) ∧ w8.cell? ⟨gu, ou + i, none⟩ = some (.int .i64 (i0 : Int)) := ⟨hbx8.cell 4, by have := hu8.cell0 i hil; rw [this, hi0]⟩
        try go_wp2_with fail
        refine hK.out _ _ ?hSnewFkhq31 (fun hHeld => ?restFkhq31)
        case hSnewFkhq31 => ((try dsimp only); exact hx8)
        clear hK K
        (try simp only [Act.put, qd, qe, qf])
        refine wpAnyH_done (by kernel_rfl) ?_ _
        have hL9 := hL8
        have hA9 := hS8
        have HG9 := hid (hL8.blk (.inl (.inl (.inl rfl))) Hg7.out)
        have HN9 := hid (hL8.blk (.inl (.inl (.inr rfl))) Hn7.out)
        clear hx8 hu8 Hu7 HXd hcu hdm u1 u2 u3 u4 u5 HS hHeld
        go_wp2
        go_meet
        case rel => exact ⟨ys.getD j [], 0, st8, D, i0 :: X, dd + 1, rfl, rfl, by go_num, hL9.now.less (fun g hg => .inl hg), .inl ⟨rfl, hA9⟩, HX9.out, HF9.out, hbx8, HG9.out, HN9.out⟩
       ·have hdI : ¬ (dd : Int) < (c.S : Int) := by omega
        have HF9 := hid (HF.out.own j)
        have hA9 := HS.out.up (s' := 7000 * k + 7000) (by omega)
        have hL9 := HL2.out
        clear HL2 HS HF
        go_wp2
        go_meet
        case rel => exact ⟨ys.getD j [], 0, st', D, X, dd, rfl, rfl, rfl, hL9, .inl ⟨rfl, hA9⟩, HX.out, HF9.out, hL9.blk (.inr rfl) Hbx.out, hL9.blk (.inl (.inl rfl)) Hg2.out, hL9.blk (.inl (.inr rfl)) Hn2.out⟩
    case rest =>
     as_aux_lemma =>
      have hF0 := HF.out
      have Hl := hid HF.out.1
      clear HL2 HS HF HX Hg2 Hn2 Hbx x0 x1 x2 x3 x4
      obtain ⟨ya, q, st', D', X, dd, rfl, rfl, rfl, hL, hA, hX, hF', hbx, hbg, hbn⟩ := hcut
      rcases hA with ⟨rfl, hS⟩ | ⟨rfl, hMn, hfe⟩
      ·have n0 := strs_cell hbn j (by rw [Hl.out]; exact hj)
       have fn := hbn.free j
       have hset := hbn.set j (.string (strOfNums ya))
       rw [strs_set] at hset
       have HL9 := hid ((hL.now).store gn j (.string (strOfNums ya)) (.inl (.inr rfl)))
       have Hn9 := hid hset
       have Hg9 := hid (hbg.setOther ⟨gn, j, none⟩ (show g1 ≠ gn from h1n.out) (.string (strOfNums ya)))
       have HS9 := hid hS
       have HF9 := hid hF'
       have HX9 := hid hX
       clear hL hset hbg hbn hbx hS hF' hX
       go_wp2
       go_roundw
       case rel => exact ⟨k + 1, e, o', st', D', X, dd, _, by omega, by omega, by go_num, rfl, rfl, hba, by omega, by omega, HL9.out.less (fun g hg => .inl hg), HS9.out.up (by omega), HX9.out, HF9.out, Hg9.out, Hn9.out⟩
       case measure => simp [intOf]; omega
      ·have hd := hL.dn hMn
       rw [hba] at hd
       have HD := hid hd.now
       have HF9 := hid hF'
       have HX9 := hid hX
       have Hbx := hid hbx
       have Hg := hid hbg
       have Hn := hid hbn
       have HF := hid hF0
       clear hL hMn hd hF' hX hbx hbg hbn hF0
       go_upto_block 3 with (fail)
       go_cut [8, 9] (fun f ev wx => ∃ (o9 : FId) (st9 : FT) (D9 : Nat → Option (List Int)), f = .pointer (some ⟨o9.bf, 0, none⟩) ∧ ev = .int .i64 0 ∧ o9.ba = ba ∧ LF (c.at (2 + k)) o9 A m cp (fun g => gk2 g1 gn g ∨ g = gx) wx w wx st9 ∧ (D9 = D ∨ D9 = D') ∧ Hld (c.at (2 + k)) st9 D9 (7000 * k + 7000) X ∧ Blk wx g1 #[.int .i64 (c.nb : Int), .int .i64 (c.np : Int), .int .i64 (c.S : Int), .slice A m cp] 26 ∧ Blk wx gn (strs ys) 9)
       case first =>
        as_aux_lemma =>
         go_wp2
         go_loopw [19] (fun u w' => ∃ (kk : Nat) (N9 : NA), kk ≤ 5 ∧ u = .int .i64 (kk : Int) ∧ Dn (c.at e) A m cp ba (fun g => gk2 g1 gn g ∨ g = gx) w' w w' N9 (fun x => x = D ∨ x = D') (7000 * k + 7000) X ∧ Blk w' gx #[.int .u8 kd, .int .i64 ad, .bool nr, .slice dA dn dc, .int .u8 nn] 48 ∧ Blk w' g1 #[.int .i64 (c.nb : Int), .int .i64 (c.np : Int), .int .i64 (c.S : Int), .slice A m cp] 26 ∧ Blk w' gn (strs ys) 9) (fun u _ => 8 - (intOf u).toNat)
         case atStart => exact ⟨0, _, by omega, rfl, HD.out, Hbx.out, Hg.out, Hn.out⟩
         case round =>
          clear HD Hbx Hg Hn
          obtain ⟨kk, N9, hkk, rfl, hD, hbx, hbg, hbn⟩ := hrel
          have hk8 : (kk : Int) < 8 := by omega
          obtain ⟨x0, x1, x2, x3, x4⟩ := five hbx
          have hrs := fun cut => hD.restart cut
          have u1 : IntKind.i64.wrap nn = nn := IntWalk.i64_in _ (by omega)
          have u2 : IntKind.i64.wrap ((kk : Int) + 1) = (kk : Int) + 1 := IntWalk.i64_in _ (by omega)
          have hm1 : 0 ≤ nn * ((kk : Int) + 1) ∧ nn * ((kk : Int) + 1) ≤ 255 * 6 := ⟨Int.mul_nonneg hnn.1 (by omega), Int.mul_le_mul hnn.2 (by omega) (by omega) (by omega)⟩
          have u3 : IntKind.i64.wrap (nn * ((kk : Int) + 1)) = nn * ((kk : Int) + 1) := IntWalk.i64_in _ (by omega)
          have Hbx := hid hbx
          have Hg := hid hbg
          have Hn := hid hbn
          clear hD hbx hbg hbn
          go_wp2_with fail
          refine (hrs _).mono ?_
          rintro e7 w7 ⟨rfl, N7, h07, hU7⟩
          clear hrs u2 u3
          have H07 := hid h07
          have HU7 := hid hU7.now
          have Hbx7 := hid (hU7.blk (.inr rfl) Hbx.out)
          have Hg7 := hid (hU7.blk (.inl (.inl rfl)) Hg.out)
          have Hn7 := hid (hU7.blk (.inl (.inr rfl)) Hn.out)
          clear h07 hU7 Hbx Hg Hn x0 x1 x2 x3 x4
          obtain ⟨x0, x1, x2, x3, x4⟩ := five Hbx7.out
          obtain ⟨Q, hQ, hQt, hQ2⟩ := rem_nat nn hnn.1 2 (by omega)
          replace hQ : nn % 2 = (Q : Int) := hQ
          replace hQt : nn.tmod 2 = (Q : Int) := hQt
          have a1 : IntKind.u64.wrap (k : Int) = (k : Int) := IntWalk.u64_in _ (by omega)
          have a2 : IntKind.u64.wrap (2 + (k : Int)) = 2 + (k : Int) := IntWalk.u64_in _ (by omega)
          have hmt : ∀ (V : World) (N8 : NA) (W : World), Up (c.at e) A m cp ba (fun g => gk2 g1 gn g ∨ g = gx) V w W N8 (fun x => x = D ∨ x = D') (7000 * k + 7000) X → Calls Try.prog 16 #[.pointer (some ⟨ba, 0, none⟩), .agg #[.int .i64 (c.nb : Int), .int .i64 (c.np : Int), .int .i64 (c.S : Int), .slice A m cp], .int .u64 (2 + (k : Int))] W fun e' w' =>
            (∃ o9 st9 D9, o9.ba = ba ∧ e' = .returned (.tuple #[.pointer (some ⟨o9.bf, 0, none⟩), .int .i64 0]) ∧ LF (c.at (2 + k)) o9 A m cp (fun g => gk2 g1 gn g ∨ g = gx) W w w' st9 ∧ (D9 = D ∨ D9 = D') ∧ Hld (c.at (2 + k)) st9 D9 (7000 * k + 7000) X ∧ (N8.armed = 0 → st9.N.armed = 0)) ∨
            (N8.armed ≠ 0 ∧ e' = .returned (.tuple #[.pointer none, .int .i64 9]) ∧ ∃ N', Dn (c.at e) A m cp ba (fun g => gk2 g1 gn g ∨ g = gx) w' w w' N' (fun x => x = D ∨ x = D') (7000 * k + 7000) X ∧ ∀ g cs T, (fun g => gk2 g1 gn g ∨ g = gx) g → Blk W g cs T → Blk w' g cs T) := fun V N8 W hU => by
           have := hU.mount (e0 := 2 + k) (Hk.out.at (e := 2 + k) (by omega) (by omega))
           rw [show ((2 + k : Nat) : Int) = 2 + (k : Int) by omega] at this
           exact this
          by_cases h5 : kk < 5
          ·have h5I : (kk : Int) < 5 := by omega
           rcases (show Q = 1 ∨ Q = 0 by omega) with rfl | rfl
           ·have u2 : IntKind.i64.wrap ((kk : Int) + 3) = (kk : Int) + 3 := IntWalk.i64_in _ (by omega)
            have hm1 : 0 ≤ nn * ((kk : Int) + 3) ∧ nn * ((kk : Int) + 3) ≤ 255 * 7 := ⟨Int.mul_nonneg hnn.1 (by omega), Int.mul_le_mul hnn.2 (by omega) (by omega) (by omega)⟩
            have u3 : IntKind.i64.wrap (nn * ((kk : Int) + 3)) = nn * ((kk : Int) + 3) := IntWalk.i64_in _ (by omega)
            obtain ⟨q9, hq9, hq9t, hq99⟩ := rem_nat (nn * ((kk : Int) + 3)) hm1.1 9 (by omega)
            replace hq9 : nn * ((kk : Int) + 3) % 9 = (q9 : Int) := hq9
            replace hq9t : (nn * ((kk : Int) + 3)).tmod 9 = (q9 : Int) := hq9t
            have u5 : IntKind.i64.wrap (1 + (q9 : Int)) = 1 + (q9 : Int) := IntWalk.i64_in _ (by omega)
            have har := HU7.out.arm (1 + q9) (by omega)
            rw [show ((1 + q9 : Nat) : Int) = 1 + (q9 : Int) by omega] at har
            have Hmt := hid hmt
            clear hmt
            go_wp2_with fail
            refine har.mono ?_
            rintro e8 w8 ⟨rfl, N8, hU8⟩
            have hmt := Hmt.out _ _ _ hU8
            have Hbx8 := hid (hU8.blk (.inr rfl) Hbx7.out)
            have Hg8 := hid (hU8.blk (.inl (.inl rfl)) Hg7.out)
            have Hn8 := hid (hU8.blk (.inl (.inr rfl)) Hn7.out)
            obtain ⟨z0, z1, z2, z3⟩ := geo_four Hg8.out
            clear har hU8 Hmt u2 u3 u5 hq9 hq9t hm1
            go_wp2_with fail
            refine hmt.mono ?_
            rintro e9 w9 (⟨o9, st9, D9, hb9, rfl, hL9, hD9, hS9, -⟩ | ⟨-, rfl, N10, hd10, hk10⟩)
            ·have HL9 := hid hL9
             clear hmt hL9 z0 z1 z2 z3 a1 a2
             go_wp2
             go_meet
             case rel => exact ⟨o9, st9, D9, rfl, rfl, hb9, HL9.out.now, hD9, hS9, HL9.out.blk (.inl (.inl rfl)) Hg8.out, HL9.out.blk (.inl (.inr rfl)) Hn8.out⟩
            ·have Hd10 := hid hd10
             have Hk10 := hid hk10
             clear hmt hd10 hk10 z0 z1 z2 z3 a1 a2
             go_wp2
             go_roundw
             case rel => exact ⟨kk + 1, N10, by omega, by go_num, Hd10.out, Hk10.out _ _ _ (.inr rfl) Hbx8.out, Hk10.out _ _ _ (.inl (.inl rfl)) Hg8.out, Hk10.out _ _ _ (.inl (.inr rfl)) Hn8.out⟩
             case measure => simp [intOf]; omega
           ·have hmt := hmt _ _ _ HU7.out
            obtain ⟨z0, z1, z2, z3⟩ := geo_four Hg7.out
            go_wp2_with fail
            refine hmt.mono ?_
            rintro e9 w9 (⟨o9, st9, D9, hb9, rfl, hL9, hD9, hS9, -⟩ | ⟨hne, -⟩)
            ·have HL9 := hid hL9
             clear hmt hL9 z0 z1 z2 z3 a1 a2
             go_wp2
             go_meet
             case rel => exact ⟨o9, st9, D9, rfl, rfl, hb9, HL9.out.now, hD9, hS9, HL9.out.blk (.inl (.inl rfl)) Hg7.out, HL9.out.blk (.inl (.inr rfl)) Hn7.out⟩
            ·exact absurd H07.out hne
          ·obtain rfl : kk = 5 := by omega
           have hmt := hmt _ _ _ HU7.out
           obtain ⟨z0, z1, z2, z3⟩ := geo_four Hg7.out
           go_wp2_with fail
           refine hmt.mono ?_
           rintro e9 w9 (⟨o9, st9, D9, hb9, rfl, hL9, hD9, hS9, -⟩ | ⟨hne, -⟩)
           ·have HL9 := hid hL9
            clear hmt hL9 z0 z1 z2 z3 a1 a2
            go_wp2
            go_meet
            case rel => exact ⟨o9, st9, D9, rfl, rfl, hb9, HL9.out.now, hD9, hS9, HL9.out.blk (.inl (.inl rfl)) Hg7.out, HL9.out.blk (.inl (.inr rfl)) Hn7.out⟩
           ·exact absurd H07.out hne
       case rest =>
        as_aux_lemma =>
         clear HD Hbx Hg Hn
         obtain ⟨o9, st9, D9, rfl, rfl, hb9, hL9, hD9, hS9, hbg, hbn⟩ := hcut
         have Hk9 := hid (Hk.out.at (e := 2 + k) (by omega) (by omega))
         have har := hL9.arm hS9 0 (by omega)
         rw [hb9] at har
         have Hg := hid hbg
         have Hn := hid hbn
         clear hL9 hS9 hbg hbn
         go_wp2_with fail
         refine har.mono ?_
         rintro e7 w7 ⟨rfl, st8, hL7, hS7, -⟩
         clear har
         have hrd := hL7.read Hk9.out hS7.rest j hj
         rw [hS7.data] at hrd
         have HL7 := hid hL7
         have hS9 := hid hS7
         clear hL7 hS7
         go_wp2_with fail
         refine hrd.mono ?_
         rintro e8 w8 ⟨A8, n8, c8, rfl, hz8, hB8, -⟩
         clear hrd
         have hcv := conv_str (c := c8) hz8
         have hL8 := HL7.out.later hB8
         have Hg8 := hid (hL8.blk (.inl (.inl rfl)) Hg.out)
         have hbn8 := hL8.blk (.inl (.inr rfl)) Hn.out
         have HL8 := hid hL8.now
         obtain ⟨yr, hyr⟩ : ∃ x, (D9 j).getD [] = x := ⟨_, rfl⟩
         rw [hyr] at hcv
         have Hyr := hid hyr
         clear hz8 hB8 hL8 HL7 Hg Hn hyr
         have hse := fun h : ya = yr => str_eq_true h.symm
         cases hqb : ((strOfNums yr).toList == (strOfNums ya).toList)
         ·have HF9 := hid (show Fits c D9 ys from by
           rcases hD9 with rfl | rfl
           ·exact HF.out
           ·have h1 := HF9.out.2 j hj
            rw [List.getD_eq_getElem?_getD, List.getElem?_set_self (by rw [HF.out.1]; exact hj), Option.getD_some] at h1
            rw [Hyr.out] at h1
            have h2 := hse h1.symm
            rw [hqb] at h2
            cases h2)
          have hL9 := HL8.out
          have Hn9 := hid hbn8
          have Hg9 := Hg8
          clear hbn8 HL8 Hg8 hse
          have hrt := right_any hL9.now Hk9.out hS9.out.rest gn c.M ys Hn9.out HF9.out.1 (Nat.le_refl _) (fun i hi => by rw [hS9.out.data]; exact HF9.out.2 i hi)
          go_wp2_with fail
          refine hrt.mono ?_
          rintro e10 w10 ⟨rfl, hB10⟩
          clear hrt
          have HL10 := hid (hL9.later hB10).now
          have Hg10 := hid (Hg9.out.later hB10)
          have Hn10 := hid (Hn9.out.later hB10)
          clear hL9 hB10 Hg9 Hn9
          go_wp2
          go_roundw
          case rel => exact ⟨k + 1, 2 + k, o9, st8, D9, X, dd, ys, by omega, by omega, by go_num, rfl, rfl, hb9, by omega, by omega, HL10.out.less (fun g hg => .inl hg), hS9.out.up (by omega), HX9.out, HF9.out, Hg10.out, Hn10.out⟩
          case measure => simp [intOf]; omega
         ·have hq : strOfNums ya = strOfNums yr := Go.WideShapes.bytes_inj (by rw [← ByteArray.toList_eq, ← ByteArray.toList_eq]; exact (beq_iff_eq.1 hqb).symm)
          rw [hq]
          have HF9 := hid (show Fits c D9 (ys.set j yr) from by
           rw [← Hyr.out]
           rcases hD9 with rfl | rfl
           ·rw [HF.out.2 j hj]; exact HF.out.own j
           ·have h1 := HF9.out.2 j hj
            rw [List.getD_eq_getElem?_getD, List.getElem?_set_self (by rw [HF.out.1]; exact hj), Option.getD_some] at h1
            rw [h1]; exact HF9.out)
          have n0 := strs_cell hbn8 j (by rw [HF.out.1]; exact hj)
          have fn := hbn8.free j
          have hset := hbn8.set j (.string (strOfNums yr))
          rw [strs_set] at hset
          have hL9 := (HL8.out.store gn j (.string (strOfNums yr)) (.inl (.inr rfl)))
          have Hn9 := hid hset
          have Hg9 := hid (Hg8.out.setOther ⟨gn, j, none⟩ (show g1 ≠ gn from h1n.out) (.string (strOfNums yr)))
          clear hset hbn8 hq hqb hse HL8 Hg8
          have hrt := right_any hL9.now Hk9.out hS9.out.rest gn c.M (ys.set j yr) Hn9.out HF9.out.1 (Nat.le_refl _) (fun i hi => by rw [hS9.out.data]; exact HF9.out.2 i hi)
          go_wp2_with fail
          refine hrt.mono ?_
          rintro e10 w10 ⟨rfl, hB10⟩
          clear hrt
          have HL10 := hid (hL9.later hB10).now
          have Hg10 := hid (Hg9.out.later hB10)
          have Hn10 := hid (Hn9.out.later hB10)
          clear hL9 hB10 Hg9 Hn9
          go_wp2
          go_roundw
          case rel => exact ⟨k + 1, 2 + k, o9, st8, D9, X, dd, _, by omega, by omega, by go_num, rfl, rfl, hb9, by omega, by omega, HL10.out.less (fun g hg => .inl hg), hS9.out.up (by omega), HX9.out, HF9.out, Hg10.out, Hn10.out⟩
          case measure => simp [intOf]; omega
   ·obtain rfl : k = 100 := by omega
    as_aux_lemma =>
     have har := hL.arm hS 0 (by omega)
     rw [hba] at har
     have HF := hid hF
     have Hg := hid hbg
     have Hn := hid hbn
     have HX := hid hX
     clear hL hS hF hbg hbn hX
     go_wp2_with fail
     refine har.mono ?_
     rintro e7 w7 ⟨rfl, st7, hL7, hS7, h07⟩
     clear har
     have H07 := hid (h07 (by first | rfl | trivial))
     have hon : Calls Try.prog 36 #[.pointer (some ⟨ba, 0, none⟩)] w7 fun e w' => e = .returned (.bool true) ∧ w' = w7 := by
      obtain ⟨F', hA⟩ := hL7.arr
      have := Nand.on_any F' o'.ba st7.N w7 hA
      rw [hS7.rest.cor.on, hba] at this
      exact this
     have hmt : Calls Try.prog 16 #[.pointer (some ⟨ba, 0, none⟩), .agg #[.int .i64 (c.nb : Int), .int .i64 (c.np : Int), .int .i64 (c.S : Int), .slice A m cp], .int .u64 1000] w7 fun e' w' =>
        (∃ o9 st9 D9, o9.ba = ba ∧ e' = .returned (.tuple #[.pointer (some ⟨o9.bf, 0, none⟩), .int .i64 0]) ∧ LF (c.at 1000) o9 A m cp (gk2 g1 gn) w7 w w' st9 ∧ D9 = D ∧ Hld (c.at 1000) st9 D9 (7000 * 100) X ∧ (st7.N.armed = 0 → st9.N.armed = 0)) ∨
        (st7.N.armed ≠ 0 ∧ e' = .returned (.tuple #[.pointer none, .int .i64 9]) ∧ ∃ N', Dn (c.at e) A m cp ba (gk2 g1 gn) w' w w' N' (fun x => x = D) (7000 * 100) X ∧ ∀ g cs T, gk2 g1 gn g → Blk w7 g cs T → Blk w' g cs T) := by
      have := (hL7.up (Hk.out.at (e := e) (by omega) (by omega)) hS7).mount (e0 := 1000) (Hk.out.at (e := 1000) (by omega) (by omega))
      rw [hba] at this
      exact this
     have Hg7 := hid (hL7.blk (.inl rfl) Hg.out)
     have Hn7 := hid (hL7.blk (.inr rfl) Hn.out)
     clear hL7 hS7 h07 Hg Hn
     go_wp2_with fail
     refine hon.mono ?_
     rintro e8 w8 ⟨rfl, hw8⟩
     subst hw8
     clear hon
     obtain ⟨z0, z1, z2, z3⟩ := geo_four Hg7.out
     go_wp2_with fail
     refine hmt.mono ?_
     rintro e9 w9 (⟨o9, st9, D9, hb9, rfl, hL9, hD9, hS9, h09⟩ | ⟨hne, -⟩)
     ·have h09 := h09 H07.out
      have Hk9 := hid (Hk.out.at (e := 1000) (by omega) (by omega))
      have hrt := right_any hL9.now Hk9.out hS9.rest gn c.M ys (hL9.blk (.inr rfl) Hn7.out) HF.out.1 (Nat.le_refl _) (fun i hi => by rw [hS9.data, hD9]; exact HF.out.2 i hi)
      have HL9 := hid hL9
      have HS9 := hid hS9
      have H09 := hid h09
      clear hmt hL9 hS9 h09 z0 z1 z2 z3
      go_wp2_with fail
      refine hrt.mono ?_
      rintro e10 w10 ⟨rfl, hB10⟩
      clear hrt
      have hL10 := HL9.out.later hB10
      have hwr : ∀ W, Below w10.heap.size w10 W → Nums W .u8 (some ⟨w10.heap.size, 0, none⟩) 1 [122] → w10.heap.size < W.heap.size → Calls Try.prog 18 #[.pointer (some ⟨o9.bf, 0, none⟩), .int .i64 0, .slice (some ⟨w10.heap.size, 0, none⟩) 1 1] W fun e w' => e = .returned (.int .i64 0) ∧ Below w.heap.size w w' := fun W hW hz hlt => hL10.hwrite_new Hk9.out HS9.out (by have := HX.out; show X.length ≤ c.S; omega) (by omega) H09.out hW 0 [122] w10.heap.size 1 1 hz ⟨Nat.le_refl _, hlt⟩ HM.out.2 (by omega)
      clear hL10 hB10
      have hwr := hwr (w10.alloc (.cells #[.int .u8 122] 5 (1, 2))) ((Below.refl _ _).alloc (Nat.le_refl _) _) (nums_lit (xs := [122]) (heap_alloc_new _ _) rfl (wf_of (fun x hx => by rw [List.mem_singleton.1 hx]; decide))) (by simp)
      have hcv := Lib.run_convert_bytes_const (P := Try.prog) w10 22 5 #[.int .u8 122] 1 1 Try.underlying22 Try.underlying5
      go_wp2_with fail
      refine hwr.mono ?_
      rintro e11 w11 ⟨rfl, hB11⟩
      clear hwr hcv
      go_wp2
      go_ret
      exact ⟨rfl, hB11⟩
     ·exact absurd H07.out hne
  ·obtain rfl : k = l := by omega
   as_aux_lemma =>
    have har := hL.arm hS 0 (by omega)
    rw [hba] at har
    have HF := hid hF
    have Hg := hid hbg
    have Hn := hid hbn
    have HX := hid hX
    clear hL hS hF hbg hbn hX
    go_wp2_with fail
    refine har.mono ?_
    rintro e7 w7 ⟨rfl, st7, hL7, hS7, h07⟩
    clear har
    have H07 := hid (h07 (by first | rfl | trivial))
    have hon : Calls Try.prog 36 #[.pointer (some ⟨ba, 0, none⟩)] w7 fun e w' => e = .returned (.bool true) ∧ w' = w7 := by
     obtain ⟨F', hA⟩ := hL7.arr
     have := Nand.on_any F' o'.ba st7.N w7 hA
     rw [hS7.rest.cor.on, hba] at this
     exact this
    have hmt : Calls Try.prog 16 #[.pointer (some ⟨ba, 0, none⟩), .agg #[.int .i64 (c.nb : Int), .int .i64 (c.np : Int), .int .i64 (c.S : Int), .slice A m cp], .int .u64 1000] w7 fun e' w' =>
       (∃ o9 st9 D9, o9.ba = ba ∧ e' = .returned (.tuple #[.pointer (some ⟨o9.bf, 0, none⟩), .int .i64 0]) ∧ LF (c.at 1000) o9 A m cp (gk2 g1 gn) w7 w w' st9 ∧ D9 = D ∧ Hld (c.at 1000) st9 D9 (7000 * k) X ∧ (st7.N.armed = 0 → st9.N.armed = 0)) ∨
       (st7.N.armed ≠ 0 ∧ e' = .returned (.tuple #[.pointer none, .int .i64 9]) ∧ ∃ N', Dn (c.at e) A m cp ba (gk2 g1 gn) w' w w' N' (fun x => x = D) (7000 * k) X ∧ ∀ g cs T, gk2 g1 gn g → Blk w7 g cs T → Blk w' g cs T) := by
     have := (hL7.up (Hk.out.at (e := e) (by omega) (by omega)) hS7).mount (e0 := 1000) (Hk.out.at (e := 1000) (by omega) (by omega))
     rw [hba] at this
     exact this
    have Hg7 := hid (hL7.blk (.inl rfl) Hg.out)
    have Hn7 := hid (hL7.blk (.inr rfl) Hn.out)
    clear hL7 hS7 h07 Hg Hn
    go_wp2_with fail
    refine hon.mono ?_
    rintro e8 w8 ⟨rfl, hw8⟩
    subst hw8
    clear hon
    obtain ⟨z0, z1, z2, z3⟩ := geo_four Hg7.out
    go_wp2_with fail
    refine hmt.mono ?_
    rintro e9 w9 (⟨o9, st9, D9, hb9, rfl, hL9, hD9, hS9, h09⟩ | ⟨hne, -⟩)
    ·have h09 := h09 H07.out
     have Hk9 := hid (Hk.out.at (e := 1000) (by omega) (by omega))
     have hrt := right_any hL9.now Hk9.out hS9.rest gn c.M ys (hL9.blk (.inr rfl) Hn7.out) HF.out.1 (Nat.le_refl _) (fun i hi => by rw [hS9.data, hD9]; exact HF.out.2 i hi)
     have HL9 := hid hL9
     have HS9 := hid hS9
     have H09 := hid h09
     clear hmt hL9 hS9 h09 z0 z1 z2 z3
     go_wp2_with fail
     refine hrt.mono ?_
     rintro e10 w10 ⟨rfl, hB10⟩
     clear hrt
     have hL10 := HL9.out.later hB10
     have hwr : ∀ W, Below w10.heap.size w10 W → Nums W .u8 (some ⟨w10.heap.size, 0, none⟩) 1 [122] → w10.heap.size < W.heap.size → Calls Try.prog 18 #[.pointer (some ⟨o9.bf, 0, none⟩), .int .i64 0, .slice (some ⟨w10.heap.size, 0, none⟩) 1 1] W fun e w' => e = .returned (.int .i64 0) ∧ Below w.heap.size w w' := fun W hW hz hlt => hL10.hwrite_new Hk9.out HS9.out (by have := HX.out; show X.length ≤ c.S; omega) (by omega) H09.out hW 0 [122] w10.heap.size 1 1 hz ⟨Nat.le_refl _, hlt⟩ HM.out.2 (by omega)
     clear hL10 hB10
     have hwr := hwr (w10.alloc (.cells #[.int .u8 122] 5 (1, 2))) ((Below.refl _ _).alloc (Nat.le_refl _) _) (nums_lit (xs := [122]) (heap_alloc_new _ _) rfl (wf_of (fun x hx => by rw [List.mem_singleton.1 hx]; decide))) (by simp)
     have hcv := Lib.run_convert_bytes_const (P := Try.prog) w10 22 5 #[.int .u8 122] 1 1 Try.underlying22 Try.underlying5
     go_wp2_with fail
     refine hwr.mono ?_
     rintro e11 w11 ⟨rfl, hB11⟩
     clear hwr hcv
     go_wp2
     go_ret
     exact ⟨rfl, hB11⟩
    ·exact absurd H07.out hne
end Go.Proofs.Ytpcbpljdiacbmaa.Ftl
