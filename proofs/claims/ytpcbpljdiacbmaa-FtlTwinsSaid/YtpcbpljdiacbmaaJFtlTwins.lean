import Derived.Test.YtpcbpljdiacbmaaJFtlLaw
import Derived.Lib.ConvBytes
import Derived.Deep.DeepCutAuto
set_option linter.unusedVariables false
set_option linter.unusedSimpArgs false
namespace Go.Proofs.Ytpcbpljdiacbmaa.Ftl
open Go.RowKit Go.Proofs.Ytpcbpljdiacbmaa.Kit Go.Proofs.Ytpcbpljdiacbmaa.Oct Go.Proofs.Ytpcbpljdiacbmaa.Sheet Go.Proofs.Ytpcbpljdiacbmaa.Nand Go.Proofs.Ytpcbpljdiacbmaa.Plan Go.Proofs.Ytpcbpljdiacbmaa.Scan Go.Proofs.Ytpcbpljdiacbmaa.Pmap Go.Proofs.Ytpcbpljdiacbmaa.Pool

/-! Strings as bytes; all addresses are full. -/
section
variable {c : FC} {o : FId} {A : Option Addr} {n cc s a : Nat} {K K' : Nat → Prop} {V w w1 w2 : World} {st : FT} {D : Nat → Option (List Int)}
end
end Go.Proofs.Ytpcbpljdiacbmaa.Ftl

namespace Go.Proofs.Ytpcbpljdiacbmaa.Ftl
open Go.RowKit Go.Proofs.Ytpcbpljdiacbmaa.Kit Go.Proofs.Ytpcbpljdiacbmaa.Oct Go.Proofs.Ytpcbpljdiacbmaa.Sheet Go.Proofs.Ytpcbpljdiacbmaa.Nand Go.Proofs.Ytpcbpljdiacbmaa.Plan Go.Proofs.Ytpcbpljdiacbmaa.Scan Go.Proofs.Ytpcbpljdiacbmaa.Pmap Go.Proofs.Ytpcbpljdiacbmaa.Pool

/-! An array on which each block is empty or has pages that count. -/
section
variable {c : FC} {o : FId} {A : Option Addr} {n cc b s a : Nat} {K K' : Nat → Prop} {V w w1 w2 : World} {st : FT} {N N' : NA} {c0 c1 : Nat → Option (Int × Fo)} {D : Nat → Option (List Int)} {R : FT × Int} {fe : Int}
end
end Go.Proofs.Ytpcbpljdiacbmaa.Ftl

namespace Go.Proofs.Ytpcbpljdiacbmaa.Ftl
open Go.RowKit Go.Proofs.Ytpcbpljdiacbmaa.Kit Go.Proofs.Ytpcbpljdiacbmaa.Oct Go.Proofs.Ytpcbpljdiacbmaa.Sheet Go.Proofs.Ytpcbpljdiacbmaa.Nand Go.Proofs.Ytpcbpljdiacbmaa.Plan Go.Proofs.Ytpcbpljdiacbmaa.Scan Go.Proofs.Ytpcbpljdiacbmaa.Pmap Go.Proofs.Ytpcbpljdiacbmaa.Pool

/-! How many pages there are: where blocks are filled one behind the other. -/
section
variable {c : FC} {st : FT} {N N' : NA} {b : Nat}
end
end Go.Proofs.Ytpcbpljdiacbmaa.Ftl

namespace Go.Proofs.Ytpcbpljdiacbmaa.Ftl
open Go.RowKit Go.Proofs.Ytpcbpljdiacbmaa.Kit Go.Proofs.Ytpcbpljdiacbmaa.Oct Go.Proofs.Ytpcbpljdiacbmaa.Sheet Go.Proofs.Ytpcbpljdiacbmaa.Nand Go.Proofs.Ytpcbpljdiacbmaa.Plan Go.Proofs.Ytpcbpljdiacbmaa.Scan Go.Proofs.Ytpcbpljdiacbmaa.Pmap Go.Proofs.Ytpcbpljdiacbmaa.Pool

/-! A page is written without copying. -/
section
variable {c : FC} {st : FT} {N N' : NA} {a b s : Nat} {D : Nat → Option (List Int)} {R : FT × Int} {ys : List Int}
theorem mloop_empty (c : FC) (q : Nat → Nat) : ∀ (l : List Int) (m : FT × Nat × Int), (∀ i : Nat, (i : Int) ∈ l → (m.1.N.blk i).pages = [] ∧ (m.1.N.blk i).failed = false) → (∀ x ∈ l, 0 ≤ x) → mloop c q l m = (m, 0) := by
 intro l
 induction l with
 | nil => intro m _ _; rfl
 | cons x l ih =>
  intro m h hx
  obtain ⟨k, rfl⟩ := Int.eq_ofNat_of_zero_le (hx x List.mem_cons_self)
  obtain ⟨s0, nw, op⟩ := m
  obtain ⟨h1, h2⟩ := h k List.mem_cons_self
  have e := m_empty (c := c) (q := q) (b := k) (nw := nw) (op := op) (s := s0) (by rw [show (s0.N.blk k).failed = false from h2]; simp) (by rw [show (s0.N.blk k).pages = [] from h1]; rfl)
  have e : mstep c q k (s0, nw, op) = ((s0, nw, op), 0) := e
  rw [mloop_cons]
  rw [e, if_neg (by simp)]
  exact ih _ (fun i hi => h i (List.mem_cons_of_mem _ hi)) (fun y hy => hx y (List.mem_cons_of_mem _ hy))
section
variable {o : FId} {A : Option Addr} {n cc : Nat} {K : Nat → Prop} {V w w1 w2 : World}
end
end
end Go.Proofs.Ytpcbpljdiacbmaa.Ftl

namespace Go.Proofs.Ytpcbpljdiacbmaa.Ftl
open Go.RowKit Go.Proofs.Ytpcbpljdiacbmaa.Kit Go.Proofs.Ytpcbpljdiacbmaa.Oct Go.Proofs.Ytpcbpljdiacbmaa.Sheet Go.Proofs.Ytpcbpljdiacbmaa.Nand Go.Proofs.Ytpcbpljdiacbmaa.Plan Go.Proofs.Ytpcbpljdiacbmaa.Scan Go.Proofs.Ytpcbpljdiacbmaa.Pmap Go.Proofs.Ytpcbpljdiacbmaa.Pool

/-! Two FTLs at once. -/
section
variable {c : FC} {o o1 o2 : FId} {A : Option Addr} {n cc : Nat} {K K' : Nat → Prop} {F F1 F2 : Nat → Prop} {V w w1 w2 : World} {st st1 st2 st' : FT}
/-- What an FTL knows at a world: its array lies in F; all is newer than w. -/
structure Sd (c : FC) (o : FId) (A : Option Addr) (n cc : Nat) (F : Nat → Prop) (w w1 : World) (st : FT) : Prop where
 arr : Arr w1 F o.ba st.N
 ft : FtW c o w1 st
 wf : FWf c st
 fnew : ∀ g, F g → w.heap.size ≤ g ∧ ¬ o.K g
 knew : ∀ g, o.K g → w.heap.size ≤ g ∧ g < w1.heap.size
 ab : o.Ab = A ∧ o.nbad = n ∧ o.cbad = cc
/-- Two of them, and the caller's own blocks K. -/
def Tw (c : FC) (o1 o2 : FId) (A : Option Addr) (n cc : Nat) (K : Nat → Prop) (w w1 : World) (st1 st2 : FT) : Prop :=
 ∃ F1 F2, Sd c o1 A n cc F1 w w1 st1 ∧ Sd c o2 A n cc F2 w w1 st2 ∧ (∀ g, F1 g ∨ o1.mut g → ¬ F2 g ∧ ¬ o2.K g) ∧ (∀ g, F2 g ∨ o2.mut g → ¬ F1 g ∧ ¬ o1.K g) ∧
  (∀ g, K g → w.heap.size ≤ g ∧ g < w1.heap.size ∧ (¬ F1 g ∧ ¬ o1.K g) ∧ ¬ F2 g ∧ ¬ o2.K g) ∧ Below w.heap.size w w1
theorem Tw.symm (h : Tw c o1 o2 A n cc K w w1 st1 st2) : Tw c o2 o1 A n cc K w w1 st2 st1 := by
 obtain ⟨F1, F2, h1, h2, h3, h4, h5, h6⟩ := h
 exact ⟨F2, F1, h2, h1, h4, h3, fun g hg => ⟨(h5 g hg).1, (h5 g hg).2.1, (h5 g hg).2.2.2, (h5 g hg).2.2.1⟩, h6⟩
theorem Tw.below (h : Tw c o1 o2 A n cc K w w1 st1 st2) : Below w.heap.size w w1 := by
 obtain ⟨F1, F2, h1, h2, h3, h4, h5, h6⟩ := h
 exact h6
theorem Sd.later (h : Sd c o A n cc F w w1 st) (hB : Below w1.heap.size w1 w2) : Sd c o A n cc F w w2 st :=
 ⟨h.arr.later hB, h.ft.later hB, h.wf, h.fnew, fun g hg => ⟨(h.knew g hg).1, Nat.lt_of_lt_of_le (h.knew g hg).2 hB.size⟩, h.ab⟩
theorem Tw.later (h : Tw c o1 o2 A n cc K w w1 st1 st2) (hB : Below w1.heap.size w1 w2) : Tw c o1 o2 A n cc K w w2 st1 st2 := by
 obtain ⟨F1, F2, h1, h2, h3, h4, h5, h6⟩ := h
 exact ⟨F1, F2, h1.later hB, h2.later hB, h3, h4, fun g hg => ⟨(h5 g hg).1, Nat.lt_of_lt_of_le (h5 g hg).2.1 hB.size, (h5 g hg).2.2⟩, h6.trans (hB.mono h6.size)⟩
theorem Sd.geo (h : Sd c o A n cc F w w1 st) : Geo w1 c.nb c.np (c.S : Int) A n cc c.bad := by
 have := h.ft.geo
 rw [h.ab.1, h.ab.2.1, h.ab.2.2] at this
 exact this
theorem Tw.geo (h : Tw c o1 o2 A n cc K w w1 st1 st2) : Geo w1 c.nb c.np (c.S : Int) A n cc c.bad := by
 obtain ⟨F1, F2, h1, -⟩ := h
 exact h1.geo
/-- As an FTL alone. -/
theorem Sd.fr (h : Sd c o A n cc F w w1 st) {Q : Nat → Prop} (hQ : ∀ g, Q g → (¬ F g ∧ ¬ o.K g) ∧ g < w1.heap.size) : FR c o F Q w1 w1 w1 st :=
 ⟨F, h.arr, h.ft, fun g hg => .inl hg, fun g hg => (h.fnew g hg).2, Nand.Fr.refl _ _, fun g hg => (h.knew g hg).2, fun g hg => ⟨(hQ g hg).1, (hQ g hg).2, rfl⟩⟩
/-- The other one's step. -/
theorem Tw.step (h : Tw c o1 o2 A n cc K w w1 st1 st2) {Q : Nat → Prop} (hQF : Sd c o1 A n cc F1 w w1 st1) (hQG : Sd c o2 A n cc F2 w w1 st2) (h3 : ∀ g, F1 g ∨ o1.mut g → ¬ F2 g ∧ ¬ o2.K g) (h4 : ∀ g, F2 g ∨ o2.mut g → ¬ F1 g ∧ ¬ o1.K g)
  (h5 : ∀ g, K g → w.heap.size ≤ g ∧ g < w1.heap.size ∧ (¬ F1 g ∧ ¬ o1.K g) ∧ ¬ F2 g ∧ ¬ o2.K g) (h6 : Below w.heap.size w w1)
  (hf : FR c o1 F1 (fun g => g < w.heap.size ∨ K g ∨ F2 g ∨ o2.mut g) w1 w1 w2 st') (hw : FWf c st') : Tw c o1 o2 A n cc K w w2 st' st2 ∧ ∀ g, K g → w2.heap[g]? = w1.heap[g]? := by
 obtain ⟨F', k1, k2, k3, k4, k5, k6, k7⟩ := hf
 have hfr : Nand.Fr (fun g => F1 g ∨ o1.mut g) w1 w2 := ⟨k5.os, k5.tape, k5.output, k5.size, fun g hg hn => by
  by_cases hq : g < w.heap.size ∨ K g ∨ F2 g ∨ o2.mut g
  ·exact (k7 g hq).2.2
  ·exact k5.block g hg (fun x => by
    rcases x with x | x | x
    ·exact hn (.inl x)
    ·exact hn (.inr x)
    ·exact hq x)⟩
 refine ⟨⟨F', F2, ⟨k1, k2, hw, fun g hg => ⟨?_, k4 g hg⟩, fun g hg => ⟨(hQF.knew g hg).1, k6 g hg⟩, hQF.ab⟩, ⟨hQG.arr.fr hfr (fun g hg x => ?_), hQG.ft.fr hfr (fun g hg x => (h3 g x).2 hg), hQG.wf, hQG.fnew, fun g hg => ⟨(hQG.knew g hg).1, Nat.lt_of_lt_of_le (hQG.knew g hg).2 hfr.size⟩, hQG.ab⟩, fun g hg => ?_, fun g hg => ⟨fun x => ?_, (h4 g hg).2⟩, fun g hg => ⟨(h5 g hg).1, (k7 g (.inr (.inl hg))).2.1, ⟨(k7 g (.inr (.inl hg))).1.1, (h5 g hg).2.2.1.2⟩, (h5 g hg).2.2.2⟩, ?_⟩, fun g hg => (k7 g (.inr (.inl hg))).2.2⟩
 ·rcases k3 g hg with x | x
  ·exact (hQF.fnew g x).1
  ·exact Nat.le_trans h6.size x
 ·exact (h3 g x).1 hg
 ·rcases hg with hg | hg
  ·rcases k3 g hg with x | x
   ·exact h3 g (.inl x)
   ·exact ⟨fun y => by have := hQG.arr.low g y; omega, fun y => by have := (hQG.knew g y).2; omega⟩
  ·exact h3 g (.inr hg)
 ·rcases hg with hg | hg
  ·exact (k7 g (.inr (.inr (.inl hg)))).1.1 x
  ·exact (k7 g (.inr (.inr (.inr hg)))).1.1 x
 ·refine ⟨hfr.os.trans h6.os, hfr.tape.trans h6.tape, hfr.output.trans h6.output, Nat.le_trans h6.size hfr.size, fun g hg => ?_⟩
  exact (k7 g (.inl hg)).2.2.trans (h6.block g hg)
/-- A call of the first one. -/
theorem Tw.one {P : Program} {fn : FuncId} {args : Array Value} {R : Ending → Prop} (h : Tw c o1 o2 A n cc K w w1 st1 st2)
  (hc : ∀ F Q, (∀ g, g < w.heap.size → Q g) → FR c o1 F Q w1 w1 w1 st1 → FWf c st1 → Calls P fn args w1 fun e w' => R e ∧ FR c o1 F Q w1 w1 w' st' ∧ FWf c st') :
  Calls P fn args w1 fun e w' => R e ∧ Tw c o1 o2 A n cc K w w' st' st2 ∧ ∀ g, K g → w'.heap[g]? = w1.heap[g]? := by
 have h0 := h
 obtain ⟨F1, F2, h1, h2, h3, h4, h5, h6⟩ := h
 refine (hc F1 (fun g => g < w.heap.size ∨ K g ∨ F2 g ∨ o2.mut g) (fun g hg => .inl hg) (h1.fr (fun g hg => ?_)) h1.wf).mono ?_
 ·rcases hg with hg | hg | hg | hg
  ·exact ⟨⟨fun x => by have := (h1.fnew g x).1; omega, fun x => by have := (h1.knew g x).1; omega⟩, Nat.lt_of_lt_of_le hg h6.size⟩
  ·exact ⟨(h5 g hg).2.2.1, (h5 g hg).2.1⟩
  ·exact ⟨h4 g (.inl hg), h2.arr.low g hg⟩
  ·exact ⟨h4 g (.inr hg), (h2.knew g (.inl hg)).2⟩
 ·rintro e w' ⟨he, hf, hw⟩
  exact ⟨he, h0.step (Q := fun _ => True) h1 h2 h3 h4 h5 h6 hf hw⟩
/-- What is written came in. -/
theorem Tw.write (h : Tw c o1 o2 A n cc K w w1 st1 st2) (hk : CK c) (a : Nat) (ys : List Int) (A' : Option Addr) (n' c' : Nat) (hz : Nums w .u8 A' n' ys) (ha : a < c.M) (hn : n' ≤ 64) (R : FT × Int) (hR : putG c 100 3 65 st1 1 a ys = some R) :
  Calls Try.prog 18 #[.pointer (some ⟨o1.bf, 0, none⟩), .int .i64 (a : Int), .slice A' n' c'] w1 fun e w' => e = .returned (.int .i64 R.2) ∧ Tw c o1 o2 A n cc K w w' R.1 st2 ∧ ∀ g, K g → w'.heap[g]? = w1.heap[g]? := by
 have hlt : 0 < n' → ∀ ad, A' = some ad → ad.block < w.heap.size := fun h0 ad had => by
  obtain ⟨b', o', e', hc'⟩ := hz.cell 0 h0
  rw [e'] at had
  injection had with had
  rw [← had]
  exact World.block_lt_of_cell? w _ (hc' 0 h0)
 have hz1 := nums_blk hz (fun h0 ad had => h.below.block _ (hlt h0 ad had))
 exact h.one (R := fun e => e = .returned (.int .i64 R.2)) (fun F Q hQ hf hw => write_run hf hw hk.ok hk.ep.2 100 3 65 a ys A' n' c' hz1 (fun h0 ad had => hQ _ (hlt h0 ad had)) (fun x hx => wf_u8 (hz.wf x hx)) ha hn R hR)
theorem Tw.trim (h : Tw c o1 o2 A n cc K w w1 st1 st2) (hk : CK c) (a : Nat) (ha : a < c.M) (hh : st1.has.getD a false = true) (R : FT × Int) (hR : putG c 100 3 65 st1 2 a [] = some R) :
  Calls Try.prog 20 #[.pointer (some ⟨o1.bf, 0, none⟩), .int .i64 (a : Int)] w1 fun e w' => e = .returned (.int .i64 R.2) ∧ Tw c o1 o2 A n cc K w w' R.1 st2 ∧ ∀ g, K g → w'.heap[g]? = w1.heap[g]? :=
 h.one (R := fun e => e = .returned (.int .i64 R.2)) (fun F Q hQ hf hw => trim_run hf hw hk.ok hk.ep.2 100 3 65 a ha hh R hR)
theorem Tw.trim_none (h : Tw c o1 o2 A n cc K w w1 st1 st2) (hk : CK c) (a : Nat) (ha : a < c.M) (hh : st1.has.getD a false = false) :
  Calls Try.prog 20 #[.pointer (some ⟨o1.bf, 0, none⟩), .int .i64 (a : Int)] w1 fun e w' => e = .returned (.int .i64 0) ∧ Tw c o1 o2 A n cc K w w' st1 st2 ∧ ∀ g, K g → w'.heap[g]? = w1.heap[g]? := by
 have h0 := h
 obtain ⟨F1, F2, h1, -, -, -, h5, -⟩ := h
 refine (Ftl.trim_none (h1.fr (Q := fun _ => False) (fun g hg => hg.elim)) hk.ok a ha hh).mono ?_
 rintro e w' ⟨he, hB⟩
 exact ⟨he, h0.later hB, fun g hg => hB.block g (h5 g hg).2.1⟩
theorem Tw.blk {g : Nat} {cs : Array Value} {T : TypeId} (hK : ∀ g, K g → w2.heap[g]? = w1.heap[g]?) (hg : K g) (hb : Blk w1 g cs T) : Blk w2 g cs T := by
 unfold Blk at *
 rw [hK g hg]
 exact hb
theorem Tw.fr1 (h : Tw c o1 o2 A n cc K w w1 st1 st2) : ∃ F, FR c o1 F (fun _ => False) w1 w1 w1 st1 ∧ FWf c st1 := by
 obtain ⟨F1, F2, h1, -⟩ := h
 exact ⟨F1, h1.fr (fun g hg => hg.elim), h1.wf⟩
theorem Tw.arr1 (h : Tw c o1 o2 A n cc K w w1 st1 st2) : ∃ F, Arr w1 F o1.ba st1.N := by
 obtain ⟨F1, F2, h1, -⟩ := h
 exact ⟨F1, h1.arr⟩
/-- A new array's FTL. -/
noncomputable def blankT (c : FC) : FT := ⟨newA c.nb c.np c.bad, List.replicate c.M (0, 0), List.replicate c.M false, List.replicate c.nb 0, newH c.xs, 0⟩
theorem getD_ext {α : Type} {l l' : List α} {d : α} (hl : l.length = l'.length) (h : ∀ i, i < l.length → l.getD i d = l'.getD i d) : l = l' := by
 refine List.ext_getElem hl (fun i h1 h2 => ?_)
 have := h i h1
 rw [List.getD_eq_getElem?_getD, List.getD_eq_getElem?_getD, List.getElem?_eq_getElem h1, List.getElem?_eq_getElem h2] at this
 exact this
theorem blank_is (hw : FWf c st) (hN : st.N = newA c.nb c.np c.bad) (hh : st.hs = newH c.xs) (hs : st.seq = 0) (hno : ∀ a, a < c.M → st.has.getD a false = false) : st = blankT c := by
 have hno' : ∀ a, st.has.getD a false = false := fun a => by
  by_cases ha : a < c.M
  ·exact hno a ha
  ·rw [List.getD_eq_getElem?_getD, List.getElem?_eq_none (by rw [hw.pi.lh]; omega)]
   rfl
 have e1 : st.has = List.replicate c.M false := getD_ext (d := false) (by rw [hw.pi.lh, List.length_replicate]) (fun i hi => by
  rw [hno' i, List.getD_eq_getElem?_getD, List.getElem?_replicate]
  split <;> rfl)
 have e2 : st.at' = List.replicate c.M (0, 0) := getD_ext (d := (0, 0)) (by rw [hw.pi.la, List.length_replicate]) (fun i hi => by
  rw [hw.pi.gone i (hno' i), List.getD_eq_getElem?_getD, List.getElem?_replicate]
  split <;> rfl)
 have e3 : st.cnt = List.replicate c.nb 0 := getD_ext (d := 0) (by rw [hw.pi.lc, List.length_replicate]) (fun i hi => by
  rw [hw.pi.on i (by rw [← hw.pi.lc]; exact hi), List.getD_eq_getElem?_getD, List.getElem?_replicate, if_pos (by rw [← hw.pi.lc]; exact hi)]
  have : cnum (onP st.at' st.has i) c.M = 0 := cnum_zero _ (fun j hj => by unfold onP; rw [hno' j]; rfl)
  rw [this]
  rfl)
 obtain ⟨N, at', has, cnt, hs', seq⟩ := st
 simp only at *
 subst e1; subst e2; subst e3; subst hN; subst hh; subst hs
 rfl
/-- A new array is mounted. -/
theorem mount_blankT {w1 : World} {F : Nat → Prop} {b : Nat} (hk : CK c) (h : Arr w1 F b (newA c.nb c.np c.bad)) (A : Option Addr) (n cc : Nat) (hg : Geo w1 c.nb c.np (c.S : Int) A n cc c.bad) (hab : ∀ ad, A = some ad → ad.block < w1.heap.size ∧ ¬ F ad.block) :
  Calls Try.prog 16 #[.pointer (some ⟨b, 0, none⟩), .agg #[.int .i64 (c.nb : Int), .int .i64 (c.np : Int), .int .i64 (c.S : Int), .slice A n cc], .int .u64 (c.ep : Int)] w1 fun e w' => ∃ o, o.ba = b ∧ e = .returned (.tuple #[.pointer (some ⟨o.bf, 0, none⟩), .int .i64 0]) ∧ (o.Ab = A ∧ o.nbad = n ∧ o.cbad = cc) ∧ (∀ g, o.K g → w1.heap.size ≤ g ∨ ∃ a, A = some a ∧ g = a.block) ∧ FR c o F (fun _ => False) w' w1 w' (blankT c) ∧ FWf c (blankT c) ∧ At c (blankT c) := by
 have hA := AOk.new hk
 have hcm : CalmN c (newA c.nb c.np c.bad) := CalmN.new
 refine (mount_run h hA.lb hA.lp rfl hA.bytes hA.er A n cc hg hab hk.ok hk.M hk.ep.1 hk.ep.2).mono ?_
 rintro e w' ⟨o, L, at', has, cnt, st0, FL, R, q1, q2, q3, q4, q5, q6, q7, q8, q9, q10, q11, q12, q13⟩
 obtain ⟨m1, m2, m3⟩ := mount_start hk hA rfl q4 q5 q6 q7 q8
 have hm := mountF_law hk (q := qOf FL) m1
 have eN : st0.N = newA c.nb c.np c.bad := by rw [q5]
 have hpg := newA_pages c.nb c.np c.bad
 have hRe : R = (st0, 0) := by
  rw [← q9]
  have := mloop_empty c (qOf FL) c.xs (st0, 0, -1) (fun i hi => ⟨by show (st0.N.blk i).pages = []; rw [eN, hpg], by show (st0.N.blk i).failed = false; rw [eN]; exact (hcm.hale i hi).2.2⟩) (fun x hx => by obtain ⟨k, rfl, -⟩ := xs_nat hx; omega)
  unfold mountF
  simp only [this]
  rfl
 rw [q9, m2] at hm
 subst hRe
 rcases hm with ⟨g0, g1, g2, g3, g4⟩ | ⟨g0, g1⟩ | ⟨g0, g1⟩
 ·have g1 : At c st0 := g1
  have g2 : Vof (cF st0) = Vof fun _ => none := g2
  have hst : st0 = blankT c := blank_is q8 eN (by rw [q5]; rfl) (by have : st0.seq ≤ 0 := Nat.le_trans g4 m3; omega) (fun a ha => by
   rw [g1.cor.cf a]
   have := congrFun g2 a
   unfold Vof at this
   cases hca : cF st0 a with
   | none => rfl
   | some y => rw [hca] at this; cases this)
  have q12 : FR c o F (fun _ => False) w' w1 w' st0 := q12
  rw [hst] at q12 g1 q8
  exact ⟨o, q1, q10 g0, q2, q3, q12, q8, g1⟩
 ·cases g0
 ·cases g0
/-- Two new arrays are mounted. -/
theorem Tw.start {Fa Fb : Nat → Prop} {w1 w2 w3 : World} (ha : o1.Ab = A ∧ o1.nbad = n ∧ o1.cbad = cc) (hb : o2.Ab = A ∧ o2.nbad = n ∧ o2.cbad = cc) (hB : Below w.heap.size w w1) (hAB : ∀ g, Fa g → ¬ Fb g) (hAl : ∀ g, Fa g → w.heap.size ≤ g ∧ g < w1.heap.size) (hBl : ∀ g, Fb g → w.heap.size ≤ g ∧ g < w1.heap.size) (hA : ∀ ad, A = some ad → w.heap.size ≤ ad.block ∧ ad.block < w1.heap.size ∧ ¬ Fa ad.block ∧ ¬ Fb ad.block)
  (hK : ∀ g, K g → w.heap.size ≤ g ∧ g < w1.heap.size ∧ ¬ Fa g ∧ ¬ Fb g ∧ ∀ ad, A = some ad → g ≠ ad.block)
  (hK1 : ∀ g, o1.K g → w1.heap.size ≤ g ∨ ∃ a, A = some a ∧ g = a.block) (hf1 : FR c o1 Fa (fun _ => False) w2 w1 w2 st1) (hw1 : FWf c st1)
  (hK2 : ∀ g, o2.K g → w2.heap.size ≤ g ∨ ∃ a, A = some a ∧ g = a.block) (hf2 : FR c o2 Fb (fun _ => False) w3 w2 w3 st2) (hw2 : FWf c st2) :
  Tw c o1 o2 A n cc K w w3 st1 st2 ∧ ∀ g, K g → w3.heap[g]? = w1.heap[g]? := by
 obtain ⟨F1, a1, a2, a3, a4, a5, a6, -⟩ := hf1
 obtain ⟨F2, b1, b2, b3, b4, b5, b6, -⟩ := hf2
 have s12 := a5.size
 have s23 := b5.size
 have m1 : ∀ g, o1.mut g → w1.heap.size ≤ g := fun g hg => by
  rcases hK1 g (.inl hg) with x | ⟨ad, had, rfl⟩
  ·exact x
  ·exact absurd hg (a2.ap.ab ad (by rw [ha.1]; exact had))
 have m2 : ∀ g, o2.mut g → w2.heap.size ≤ g := fun g hg => by
  rcases hK2 g (.inl hg) with x | ⟨ad, had, rfl⟩
  ·exact x
  ·exact absurd hg (b2.ap.ab ad (by rw [hb.1]; exact had))
 have f1l := a1.low
 have f2l := b1.low
 -- the second mount has left the first one alone
 have hS : ∀ g, g < w2.heap.size → (Fb g ∨ o2.mut g ∨ False) → Fb g := fun g hg x => by
  rcases x with x | x | x
  ·exact x
  ·have := m2 g x; omega
  ·exact x.elim
 have hfr2 : Nand.Fr Fb w2 w3 := b5.mono hS
 have hF1b : ∀ g, F1 g → ¬ Fb g := fun g hg x => by
  rcases a3 g hg with y | y
  ·exact hAB g y x
  ·have := (hBl g x).2; omega
 have hk1b : ∀ g, o1.K g → ¬ Fb g := fun g hg x => by
  rcases hK1 g hg with y | ⟨ad, had, rfl⟩
  ·have := (hBl g x).2; omega
  ·exact (hA ad had).2.2.2 x
 have hfr1 : Nand.Fr Fa w1 w2 := a5.mono (fun g hg x => by
  rcases x with x | x | x
  ·exact x
  ·have := m1 g x; omega
  ·exact x.elim)
 refine ⟨⟨F1, F2, ⟨a1.fr hfr2 hF1b, a2.fr hfr2 hk1b, hw1, fun g hg => ⟨?_, a4 g hg⟩, fun g hg => ⟨?_, Nat.lt_of_lt_of_le (a6 g hg) s23⟩, ha⟩, ⟨b1, b2, hw2, fun g hg => ⟨?_, b4 g hg⟩, fun g hg => ⟨?_, b6 g hg⟩, hb⟩, fun g hg => ?_, fun g hg => ?_, fun g hg => ?_, ?_⟩, fun g hg => ?_⟩
 ·rcases a3 g hg with y | y
  ·exact (hAl g y).1
  ·exact Nat.le_trans hB.size y
 ·rcases hK1 g hg with y | ⟨ad, had, rfl⟩
  ·exact Nat.le_trans hB.size y
  ·exact (hA ad had).1
 ·rcases b3 g hg with y | y
  ·exact (hBl g y).1
  ·exact Nat.le_trans hB.size (Nat.le_trans s12 y)
 ·rcases hK2 g hg with y | ⟨ad, had, rfl⟩
  ·exact Nat.le_trans hB.size (Nat.le_trans s12 y)
  ·exact (hA ad had).1
 ·rcases hg with hg | hg
  ·refine ⟨fun x => ?_, fun x => ?_⟩
   ·rcases b3 g x with y | y
    ·exact hF1b g hg y
    ·have := f1l g hg; omega
   ·rcases hK2 g x with y | ⟨ad, had, rfl⟩
    ·have := f1l g hg; omega
    ·exact a4 _ hg (.inr (.inr (.inr (.inl ⟨ad, by rw [ha.1]; exact had, rfl⟩))))
  ·have h1 := m1 g hg
   have h2 := a6 g (.inl hg)
   refine ⟨fun x => ?_, fun x => ?_⟩
   ·rcases b3 g x with y | y
    ·have := (hBl g y).2; omega
    ·omega
   ·rcases hK2 g x with y | ⟨ad, had, rfl⟩
    ·omega
    ·have := (hA ad had).2.1; omega
 ·rcases hg with hg | hg
  ·refine ⟨fun x => ?_, fun x => ?_⟩
   ·rcases b3 g hg with y | y
    ·exact hF1b g x y
    ·have := f1l g x; omega
   ·rcases b3 g hg with y | y
    ·exact hk1b g x y
    ·have := a6 g x; omega
  ·have h1 := m2 g hg
   exact ⟨fun x => by have := f1l g x; omega, fun x => by have := a6 g x; omega⟩
 ·obtain ⟨c1, c2, c3, c4, c5⟩ := hK g hg
  refine ⟨c1, by omega, ⟨fun x => ?_, fun x => ?_⟩, fun x => ?_, fun x => ?_⟩
  ·rcases a3 g x with y | y
   ·exact c3 y
   ·omega
  ·rcases hK1 g x with y | ⟨ad, had, y⟩
   ·omega
   ·exact c5 ad had y
  ·rcases b3 g x with y | y
   ·exact c4 y
   ·omega
  ·rcases hK2 g x with y | ⟨ad, had, y⟩
   ·omega
   ·exact c5 ad had y
 ·have h1 := hfr1.below (B := w.heap.size) hB.size (fun g hg => (hAl g hg).1)
  have h2 := hfr2.below (B := w.heap.size) (Nat.le_trans hB.size s12) (fun g hg => (hBl g hg).1)
  exact (hB.trans h1).trans h2
 ·obtain ⟨c1, c2, c3, c4, c5⟩ := hK g hg
  exact (hfr2.block g (by omega) c4).trans (hfr1.block g c2 c3)
end
end Go.Proofs.Ytpcbpljdiacbmaa.Ftl

namespace Go.Proofs.Ytpcbpljdiacbmaa.Ftl
open Go.RowKit Go.Proofs.Ytpcbpljdiacbmaa.Kit Go.Proofs.Ytpcbpljdiacbmaa.Oct Go.Proofs.Ytpcbpljdiacbmaa.Sheet Go.Proofs.Ytpcbpljdiacbmaa.Nand Go.Proofs.Ytpcbpljdiacbmaa.Plan Go.Proofs.Ytpcbpljdiacbmaa.Scan Go.Proofs.Ytpcbpljdiacbmaa.Pmap Go.Proofs.Ytpcbpljdiacbmaa.Pool

/-- What a page reads. -/
def rdL (N : NA) (i p : Nat) : List Int := if N.readE (i : Int) (p : Int) = 0 then N.page (i : Int) (p : Int) else []
section
variable {c : FC} {o1 o2 : FId} {A : Option Addr} {n cc : Nat} {K : Nat → Prop} {w w1 : World} {st1 st2 : FT}
theorem tw_read (h : Tw c o1 o2 A n cc K w w1 st1 st2) (hA : At c st1) (i p : Nat) (hi : i < c.nb) :
  Calls Try.prog 32 #[.pointer (some ⟨o1.ba, 0, none⟩), .int .i64 (i : Int), .int .i64 (p : Int)] w1 fun e w' => ∃ A' n' c', e = .returned (.tuple #[.slice A' n' c', .int .i64 (st1.N.readE (i : Int) (p : Int))]) ∧ Nums w' .u8 A' n' (rdL st1.N i p) ∧ Below w1.heap.size w1 w' := by
 obtain ⟨F, hF⟩ := h.arr1
 unfold rdL
 by_cases he : st1.N.readE (i : Int) (p : Int) = 0
 ·rw [if_pos he, he]
  refine (read_yes F o1.ba st1.N (i : Int) (p : Int) w1 hF he).mono ?_
  rintro e w' ⟨A', c', he', hown, hB⟩
  have hwf : ∀ x ∈ st1.N.page (i : Int) (p : Int), (Lit.int .u8 x).wf = true := fun x hx => by
   obtain ⟨-, h1, h2, h3, -⟩ := readE_ok he
   refine wf_of (hA.cor.bytes i _ ?_) x hx
   unfold NA.page
   rw [Int.toNat_natCast, Int.toNat_natCast] at *
   rw [List.getD_eq_getElem?_getD, List.getElem?_eq_getElem (by omega)]
   exact List.getElem_mem _
  obtain ⟨A2, c2, e2, -, hz⟩ := own_nums hown hwf
  injection e2 with e2 _ e3
  subst e2; subst e3
  exact ⟨_, 96, _, he', hz, hB⟩
 ·rw [if_neg he]
  refine (read_no F o1.ba st1.N (i : Int) (p : Int) w1 hF he).mono ?_
  rintro e w' ⟨he', rfl⟩
  exact ⟨none, 0, 0, he', Nums.none _ _ _, Below.refl _ _⟩
theorem tw_erases (h : Tw c o1 o2 A n cc K w w1 st1 st2) (i : Nat) (hi : i < c.nb) :
  Calls Try.prog 28 #[.pointer (some ⟨o1.ba, 0, none⟩), .int .i64 (i : Int)] w1 fun e w' => e = .returned (.int .i64 (st1.N.blk i).erases) ∧ w' = w1 := by
 obtain ⟨F, hF⟩ := h.arr1
 obtain ⟨F1, hf, hw⟩ := h.fr1
 have := erases_any F o1.ba st1.N (i : Int) w1 hF
 rw [show st1.N.inI (i : Int) = true by unfold NA.inI; simp; rw [hw.lb]; omega, if_pos rfl, Int.toNat_natCast] at this
 exact this
end
set_option maxRecDepth 100000 in
set_option maxHeartbeats 4000000 in
theorem law_twins (n : Int) (hn : 0 ≤ n ∧ n ≤ 255) (C : Option Addr) (l d : Nat) (xs : Nat → FAct) (w : World) (hx : Recs w C l 5 FAct.enc FAct.ok xs) :
  Calls Try.prog 10 #[.int .u8 n, .slice C l d] w fun e w' => e = .returned (.bool true) ∧ Below w.heap.size w w' := by
 have hl63 : (l : Int) ≤ 9223372036854775807 := by have := hx.most; omega
 have Hx := hid hx
 clear hx
 obtain ⟨n, rfl⟩ := Int.eq_ofNat_of_zero_le hn.1
 have hn : n < 256 := by omega
 have hk : CK (cG n 1) := cG_ok hn (by omega) (by omega)
 have hgeo : ∀ W, Calls Try.prog 14 #[.int .u8 (n : Int)] W fun e w' => ∃ A m cp, e = .returned (.agg #[.int .i64 ((cG n 1).nb : Int), .int .i64 ((cG n 1).np : Int), .int .i64 ((cG n 1).S : Int), .slice A m cp]) ∧ Geo w' (cG n 1).nb (cG n 1).np ((cG n 1).S : Int) A m cp (cG n 1).bad ∧ Below W.heap.size W w' ∧ ∀ ad, A = some ad → W.heap.size ≤ ad.block ∧ ad.block < w'.heap.size := fun W => geometry_low n hn W
 have hbad : ∀ x ∈ (cG n 1).bad, 0 ≤ x ∧ x < ((cG n 1).nb : Int) := geo_bad ⟨n, hn⟩
 have hcM : Plan.cap ((cG n 1).nb : Int) ((cG n 1).np : Int) ((cG n 1).S : Int) (cG n 1).bad = ((cG n 1).M : Int) - 1 := hk.ok
 have hM61 : (cG n 1).M ≤ 61 := by
  have h := (geo_more ⟨n, hn⟩).2.2.2
  have h : capN n ≤ 60 := h
  show capN n + 1 ≤ 61
  omega
 have hnb : 5 ≤ (cG n 1).nb ∧ (cG n 1).nb ≤ 9 := by show 5 ≤ gB n ∧ gB n ≤ 9; unfold gB; omega
 have hnp : 2 ≤ (cG n 1).np ∧ (cG n 1).np ≤ 5 := by show 2 ≤ gP n ∧ gP n ≤ 5; unfold gP; omega
 generalize cG n 1 = c at *
 have Hk := hid hk
 have Hbad := hid hbad
 have HcM := hid hcM
 have hM1 := hk.M
 clear hk hbad hcM
 go_enter Try.func10, Try.ntmps10
 go_wp2_with fail
 refine (awake_ftl w).mono ?_
 rintro e w0 ⟨rfl, hB0⟩
 have hgeo' := hgeo w0
 clear hgeo
 go_wp2_with fail
 refine hgeo'.mono ?_
 rintro e w1 ⟨A, m, cp, rfl, hg1, hB1, hA1⟩
 clear hgeo'
 go_upto_region 4 with (fail)
 generalize hw2 : World.alloc w1 _ = w2
 obtain ⟨g1, hg1e⟩ : ∃ g, w1.heap.size = g := ⟨_, rfl⟩
 have hB2 : Below w1.heap.size w1 w2 := by rw [← hw2]; exact (Below.refl _ _).alloc (Nat.le_refl _) _
 have hb1 : Blk w2 g1 #[.int .i64 (c.nb : Int), .int .i64 (c.np : Int), .int .i64 (c.S : Int), .slice A m cp] 26 := by rw [← hw2, ← hg1e]; exact Blk.new _ _ _
 have hg2 := hg1.later hB2
 have hB02 := hB0.trans ((hB1.trans (hB2.mono hB1.size)).mono hB0.size)
 have hnew : Calls Try.prog 15 #[.int .i64 (c.nb : Int), .int .i64 (c.np : Int), .slice A m cp] w2 fun e w' => ∃ b, e = .returned (.tuple #[.pointer (some ⟨b, 0, none⟩), .int .i64 0]) ∧ Arr w' (newF w2 w') b (newA c.nb c.np c.bad) ∧ Below w2.heap.size w2 w' := Nand.new_any c.nb c.np A m cp c.bad w2 (by omega) (by omega) hg2.nums Hbad.out
 obtain ⟨z0, z1, z2, z3⟩ := geo_four hb1
 have HA1 := hid (show ∀ ad, A = some ad → w.heap.size ≤ ad.block ∧ ad.block < w2.heap.size ∧ ad.block ≠ g1 from fun ad had => by
  have h1 := hA1 ad had
  have h2 := hB0.size
  have h3 := hB2.size
  exact ⟨by omega, by omega, by omega⟩)
 have Hg1 := hid (show w.heap.size ≤ g1 by have := hB0.size; have := hB1.size; omega)
 rw [hg1e]
 have Hb1 := hid hb1
 have Hg2 := hid hg2
 have HB02 := hid hB02
 clear hw2 hg1e hB1 hB2 hb1 hg1 hg2 hA1 hB0 hB02
 go_wp2_with fail
 refine hnew.mono ?_
 rintro e w3 ⟨b1, rfl, hA3, hB3⟩
 clear hnew z0 z1 z2 z3
 have hnew : Calls Try.prog 15 #[.int .i64 (c.nb : Int), .int .i64 (c.np : Int), .slice A m cp] w3 fun e w' => ∃ b, e = .returned (.tuple #[.pointer (some ⟨b, 0, none⟩), .int .i64 0]) ∧ Arr w' (newF w3 w') b (newA c.nb c.np c.bad) ∧ Below w3.heap.size w3 w' := Nand.new_any c.nb c.np A m cp c.bad w3 (by omega) (by omega) (Hg2.out.later hB3).nums Hbad.out
 obtain ⟨z0, z1, z2, z3⟩ := geo_four (Hb1.out.later hB3)
 have HA3 := hid hA3
 have HB3 := hid hB3
 clear hA3 hB3
 go_wp2_with fail
 refine hnew.mono ?_
 rintro e w4 ⟨b2, rfl, hA4, hB4⟩
 clear hnew z0 z1 z2 z3
 have hke := Hk.out.at (e := 1) (by omega) (by omega)
 have hB24 := HB3.out.trans (hB4.mono HB3.out.size)
 have hmt : Calls Try.prog 16 #[.pointer (some ⟨b1, 0, none⟩), .agg #[.int .i64 (c.nb : Int), .int .i64 (c.np : Int), .int .i64 (c.S : Int), .slice A m cp], .int .u64 1] w4 fun e w' => ∃ o, o.ba = b1 ∧ e = .returned (.tuple #[.pointer (some ⟨o.bf, 0, none⟩), .int .i64 0]) ∧ (o.Ab = A ∧ o.nbad = m ∧ o.cbad = cp) ∧ (∀ g, o.K g → w4.heap.size ≤ g ∨ ∃ a, A = some a ∧ g = a.block) ∧ FR (c.at 1) o (newF w2 w3) (fun _ => False) w' w4 w' (blankT (c.at 1)) ∧ FWf (c.at 1) (blankT (c.at 1)) ∧ At (c.at 1) (blankT (c.at 1)) :=
  mount_blankT (c := c.at 1) hke (HA3.out.later hB4) A m cp (Hg2.out.later hB24) (fun ad had => ⟨Nat.lt_of_lt_of_le (HA1.out ad had).2.1 hB24.size, fun x => by have := x.1; have := HA1.out ad had; omega⟩)
 obtain ⟨z0, z1, z2, z3⟩ := geo_four (Hb1.out.later hB24)
 have HA4 := hid hA4
 have HB4 := hid hB4
 have HB24 := hid hB24
 clear hA4 hB4 hB24 hke
 go_wp2_with fail
 refine hmt.mono ?_
 rintro e w5 ⟨o1, hob1, rfl, hab1, hK1, hf1, hw1, hAt⟩
 clear hmt z0 z1 z2 z3
 have hmut : ∀ g, o1.mut g → w4.heap.size ≤ g := fun g hg => by
  rcases hK1 g (.inl hg) with x | ⟨ad, had, rfl⟩
  ·exact x
  ·exact absurd hg (hf1.ft.ap.ab ad (by rw [hab1.1]; exact had))
 have hA5 := HA4.out.fr hf1.fr (fun g hg x => by
  have h1 := hg.1
  have h2 := hg.2
  rcases x with x | x | x
  ·have := x.2; omega
  ·have := hmut g x; omega
  ·exact x)
 have hgeo5 : Geo w5 c.nb c.np (c.S : Int) A m cp c.bad := by
  have := hf1.ft.geo
  rw [hab1.1, hab1.2.1, hab1.2.2] at this
  exact this
 have hg1l := Hb1.out.lt
 have hb5 := blk_fr (Hb1.out.later HB24.out) hf1.fr (fun x => by
  rcases x with x | x | x
  ·have := x.1; omega
  ·have := hmut g1 x; have := HB24.out.size; omega
  ·exact x)
 have hs45 := hf1.fr.size
 have hke := Hk.out.at (e := 1) (by omega) (by omega)
 have hmt : Calls Try.prog 16 #[.pointer (some ⟨b2, 0, none⟩), .agg #[.int .i64 (c.nb : Int), .int .i64 (c.np : Int), .int .i64 (c.S : Int), .slice A m cp], .int .u64 1] w5 fun e w' => ∃ o, o.ba = b2 ∧ e = .returned (.tuple #[.pointer (some ⟨o.bf, 0, none⟩), .int .i64 0]) ∧ (o.Ab = A ∧ o.nbad = m ∧ o.cbad = cp) ∧ (∀ g, o.K g → w5.heap.size ≤ g ∨ ∃ a, A = some a ∧ g = a.block) ∧ FR (c.at 1) o (newF w3 w4) (fun _ => False) w' w5 w' (blankT (c.at 1)) ∧ FWf (c.at 1) (blankT (c.at 1)) ∧ At (c.at 1) (blankT (c.at 1)) :=
  mount_blankT (c := c.at 1) hke hA5 A m cp hgeo5 (fun ad had => ⟨by have := (HA1.out ad had).2.1; have := HB24.out.size; omega, fun x => by have := x.1; have := HA1.out ad had; have := HB3.out.size; omega⟩)
 obtain ⟨z0, z1, z2, z3⟩ := geo_four hb5
 have Hb5 := hid hb5
 have Hf1 := hid hf1
 have Hw1 := hid hw1
 have HAt := hid hAt
 have HK1 := hid hK1
 have Hab1 := hid hab1
 have Hob1 := hid hob1
 have Hs45 := hid hs45
 have Hg1l := hid hg1l
 clear hmut hA5 hgeo5 hb5 hf1 hw1 hAt hK1 hab1 hob1 hs45 hke hg1l
 go_wp2_with fail
 refine hmt.mono ?_
 rintro e w6 ⟨o2, hob2, rfl, hab2, hK2, hf2, hw2, -⟩
 clear hmt z0 z1 z2 z3
 obtain ⟨hT, hKk⟩ := Tw.start (K := gk g1) (w := w) (w1 := w4) Hab1.out hab2 (HB02.out.trans (HB24.out.mono HB02.out.size)) (fun g hg hg' => by have := hg.2; have := hg'.1; omega) (fun g hg => by
  have := hg.1; have := hg.2; have := HB02.out.size; have := HB4.out.size
  exact ⟨by omega, by omega⟩) (fun g hg => by
  have := hg.1; have := hg.2; have := HB02.out.size; have := HB3.out.size
  exact ⟨by omega, by omega⟩) (fun ad had => by
  have := HA1.out ad had; have := HB24.out.size; have := HB3.out.size
  exact ⟨by omega, by omega, fun x => by have := x.1; omega, fun x => by have := x.1; omega⟩) (fun g hg => by
  have hg : g = g1 := hg
  have := Hg1l.out; have := HB24.out.size; have := HB3.out.size; have := Hg1.out
  exact ⟨by omega, by omega, fun x => by have := x.1; omega, fun x => by have := x.1; omega, fun ad had e => by have := HA1.out ad had; omega⟩) HK1.out Hf1.out Hw1.out hK2 hf2 hw2
 have hb6 : Blk w6 g1 #[.int .i64 (c.nb : Int), .int .i64 (c.np : Int), .int .i64 (c.S : Int), .slice A m cp] 26 := by
  have := Hb1.out.later HB24.out
  unfold Blk at *
  rw [hKk g1 rfl]
  exact this
 have hS : Sound (c.at 1) (blankT (c.at 1)) (Vof (cF (blankT (c.at 1)))) 0 := ⟨HAt.out, rfl, Nat.le_refl _, CalmN.new (c := c.at 1)⟩
 generalize blankT (c.at 1) = st0 at *
 generalize Vof (cF st0) = D0 at *
 have HT := hid hT
 have HS := hid hS
 have Hb := hid hb6
 have Hke := hid (Hk.out.at (e := 1) (by omega) (by omega))
 have Hob2 := hid hob2
 clear hT hKk hb6 hS hK2 hf2 hw2 hab2 hob2 Hf1 Hw1 HAt HK1 Hab1 Hb5 HA3 HA4 HB3 HB4 HB24 HB02 Hb1 Hg2 HA1 Hs45 Hg1l Hg1 Hbad
 go_wp2
 go_loopw [14] (fun t w' => ∃ (k : Nat) (st' : FT) (D : Nat → Option (List Int)), k ≤ l ∧ k ≤ 80 ∧ t = .int .i64 (k : Int) ∧ Tw (c.at 1) o1 o2 A m cp (gk g1) w w' st' st' ∧ Sound (c.at 1) st' D (7000 * k) ∧ Blk w' g1 #[.int .i64 (c.nb : Int), .int .i64 (c.np : Int), .int .i64 (c.S : Int), .slice A m cp] 26) (fun t _ => l - (intOf t).toNat)
 case atStart => exact ⟨0, st0, _, by omega, by omega, rfl, HT.out, HS.out, Hb.out⟩
 case round =>
  clear HT HS Hb
  obtain ⟨k, st', D, hkl, hk80, rfl, hT, hS, hb⟩ := hrel
  by_cases hlt : k < l
  ·have hltI : (k : Int) < (l : Int) := by omega
   by_cases h80 : k < 80
   ·have h80I : (k : Int) < 80 := by omega
    obtain ⟨bC, oC, rfl, hc⟩ := (Hx.out.below hT.below (fun _ h => h.later hT.below)).at_ k hlt
    obtain ⟨x0, x1, x2, x3, x4⟩ := FAct.cells hc
    obtain ⟨hkd, had, hz, hnn⟩ := Hx.out.ok k hlt
    have hcell : ∀ W, Below wr.heap.size wr W → W.cell? ⟨bC, oC + k * 5, none⟩ = some (.int .u8 (xs k).kind) ∧ W.cell? ⟨bC, oC + k * 5 + 1, none⟩ = some (.int .i64 (xs k).addr) ∧ W.cell? ⟨bC, oC + k * 5 + 3, none⟩ = some (.slice (xs k).A (xs k).dn (xs k).dc) := fun W hW => by
     obtain ⟨bD, oD, eD, hd⟩ := (Hx.out.below (hT.below.trans (hW.mono hT.below.size)) (fun _ h => h.later (hT.below.trans (hW.mono hT.below.size)))).at_ k hlt
     injection eD with eD
     injection eD with eb eo
     subst eb; subst eo
     obtain ⟨y0, y1, y2, y3, y4⟩ := FAct.cells hd
     exact ⟨y0, y1, y3⟩
    generalize (xs k).kind = kd at *
    generalize (xs k).addr = ad at *
    generalize (xs k).A = dA at *
    generalize (xs k).dn = dn at *
    generalize (xs k).dc = dc at *
    generalize (xs k).ys = dys at *
    obtain ⟨P, hP, hPt, hP4⟩ := rem_nat kd hkd.1 4 (by omega)
    replace hP : kd % 4 = (P : Int) := hP
    replace hPt : kd.tmod 4 = (P : Int) := hPt
    obtain ⟨j, hj, hjm⟩ := umod_nat ad c.M hM1
    have b1 : IntKind.u64.wrap (c.M : Int) = (c.M : Int) := IntWalk.u64_in _ (by omega)
    have b2 : IntKind.i64.wrap (j : Int) = (j : Int) := IntWalk.i64_in _ (by omega)
    have b3 : (c.M : Int) ≠ 0 := by omega
    have b6 : c.M ≠ 0 := by omega
    have b5 : IntKind.i64.wrap (c.M : Int) = (c.M : Int) := IntWalk.i64_in _ (by omega)
    have b4 : IntKind.i64.wrap ((c.M : Int) - 1 + 1) = (c.M : Int) := by rw [IntWalk.i64_in _ (by omega)]; omega
    have hgeo := hT.geo
    have hrc : Calls Try.prog 17 #[.agg #[.int .i64 (c.nb : Int), .int .i64 (c.np : Int), .int .i64 (c.S : Int), .slice A m cp]] wr.drew fun e w' => e = .returned (.int .i64 ((c.M : Int) - 1)) ∧ Below wr.drew.heap.size wr.drew w' := by rw [← HcM.out]; exact rcap_geo (hgeo.later (below_drewN (Below.refl _ _) 1))
    have HS7 := hid (show ∀ W, Below wr.drew.heap.size wr.drew W → W.cell? ⟨bC, oC + k * 5 + 1, none⟩ = some (.int .i64 ad) ∧ W.cell? ⟨g1, 0, none⟩ = some (.int .i64 (c.nb : Int)) ∧ W.cell? ⟨g1, 1, none⟩ = some (.int .i64 (c.np : Int)) ∧ W.cell? ⟨g1, 2, none⟩ = some (.int .i64 (c.S : Int)) ∧ W.cell? ⟨g1, 3, none⟩ = some (.slice A m cp) from fun W hW => by
     have hW' : Below wr.heap.size wr W := (below_drewN (Below.refl wr.heap.size wr) 1).trans hW
     exact ⟨(hcell W hW').2.1, geo_four (hb.later hW')⟩)
    have Hcell := hid hcell
    have Hz := hid hz
    have HT := hid hT
    have HS := hid hS
    have Hb := hid hb
    clear hc hcell hz hT hS hb hgeo x0 x1 x2 x3 x4
    go_upto_region 11 with (fail)
    refine wp_region_held_drew (S := (fun w' => w'.cell? ⟨bC, oC + k * 5 + 1, none⟩ = some (.int .i64 ad) ∧ w'.cell? ⟨g1, 0, none⟩ = some (.int .i64 (c.nb : Int)) ∧ w'.cell? ⟨g1, 1, none⟩ = some (.int .i64 (c.np : Int)) ∧ w'.cell? ⟨g1, 2, none⟩ = some (.int .i64 (c.S : Int)) ∧ w'.cell? ⟨g1, 3, none⟩ = some (.slice A m cp))) (by kernel_rfl) ?hSnewTnz (fun hHeld => ?restTnz)
    case hSnewTnz => ((try dsimp only); exact HS7.out _ (Below.refl _ _))
    refine wpAnyH_take (i := 0) (oi := ?oiTnx0) (v := ?vTnx0) ?hoTnx0 ?h1Tnx0 ?h2Tnx0 ?h3Tnx0 ?hqTnx0 (Or.inl ⟨?h4Tnx0, ?hyTnx0⟩) (by assumption) ?restTnx0
    case hoTnx0 => (simp only [qa, qb, qc]; rfl)
    case h1Tnx0 => kernel_rfl
    case h2Tnx0 => kernel_rfl
    case h3Tnx0 => kernel_rfl
    case h4Tnx0 => rfl
    case hqTnx0 => exact fun _ _ _ h => h
    case hyTnx0 => (intro w hSw; (try dsimp only at hSw); go_simp <;> with_reducible rfl)
    (try simp only [Act.put, qd, qe, qf])
    refine wpAnyH_take (i := 1) (oi := ?oiTnx1) (v := ?vTnx1) ?hoTnx1 ?h1Tnx1 ?h2Tnx1 ?h3Tnx1 ?hqTnx1 (Or.inl ⟨?h4Tnx1, ?hyTnx1⟩) (by assumption) ?restTnx1
    case hoTnx1 => (simp only [qa, qb, qc]; rfl)
    case h1Tnx1 => kernel_rfl
    case h2Tnx1 => kernel_rfl
    case h3Tnx1 => kernel_rfl
    case h4Tnx1 => rfl
    case hqTnx1 => exact fun _ _ _ h => h
    case hyTnx1 => (intro w hSw; (try dsimp only at hSw); go_simp <;> with_reducible rfl)
    (try simp only [Act.put, qd, qe, qf])
    refine wpAnyH_take (i := 2) (oi := ?oiTnx2) (v := ?vTnx2) ?hoTnx2 ?h1Tnx2 ?h2Tnx2 ?h3Tnx2 ?hqTnx2 (Or.inl ⟨?h4Tnx2, ?hyTnx2⟩) (by assumption) ?restTnx2
    case hoTnx2 => (simp only [qa, qb, qc]; rfl)
    case h1Tnx2 => kernel_rfl
    case h2Tnx2 => kernel_rfl
    case h3Tnx2 => kernel_rfl
    case h4Tnx2 => rfl
    case hqTnx2 => exact fun _ _ _ h => h
    case hyTnx2 => (intro w hSw; (try dsimp only at hSw); go_simp <;> with_reducible rfl)
    (try simp only [Act.put, qd, qe, qf])
    refine wpAnyH_take (i := 3) (oi := ?oiTnx3) (v := ?vTnx3) ?hoTnx3 ?h1Tnx3 ?h2Tnx3 ?h3Tnx3 ?hqTnx3 (Or.inl ⟨?h4Tnx3, ?hyTnx3⟩) (by assumption) ?restTnx3
    case hoTnx3 => (simp only [qa, qb, qc]; rfl)
    case h1Tnx3 => kernel_rfl
    case h2Tnx3 => kernel_rfl
    case h3Tnx3 => kernel_rfl
    case h4Tnx3 => rfl
    case hqTnx3 => exact fun _ _ _ h => h
    case hyTnx3 => (intro w hSw; (try dsimp only at hSw); go_simp <;> with_reducible rfl)
    (try simp only [Act.put, qd, qe, qf])
    refine wpAnyH_take (i := 4) (oi := ?oiTnx4) (v := ?vTnx4) ?hoTnx4 ?h1Tnx4 ?h2Tnx4 ?h3Tnx4 ?hqTnx4 (Or.inl ⟨?h4Tnx4, ?hyTnx4⟩) (by assumption) ?restTnx4
    case hoTnx4 => (simp only [qa, qb, qc]; rfl)
    case h1Tnx4 => kernel_rfl
    case h2Tnx4 => kernel_rfl
    case h3Tnx4 => kernel_rfl
    case h4Tnx4 => rfl
    case hqTnx4 => exact fun _ _ _ h => h
    case hyTnx4 => (intro w hSw; (try dsimp only at hSw); go_simp <;> with_reducible rfl)
    (try simp only [Act.put, qd, qe, qf])
    refine wpAnyH_take (i := 5) (oi := ?oiTnx5) (v := ?vTnx5) ?hoTnx5 ?h1Tnx5 ?h2Tnx5 ?h3Tnx5 ?hqTnx5 (Or.inl ⟨?h4Tnx5, ?hyTnx5⟩) (by assumption) ?restTnx5
    case hoTnx5 => (simp only [qa, qb, qc]; rfl)
    case h1Tnx5 => kernel_rfl
    case h2Tnx5 => kernel_rfl
    case h3Tnx5 => kernel_rfl
    case h4Tnx5 => rfl
    case hqTnx5 => exact fun _ _ _ h => h
    case hyTnx5 => (intro w hSw; (try dsimp only at hSw); go_simp <;> with_reducible rfl)
    (try simp only [Act.put, qd, qe, qf])
    refine wpAnyH_take (i := 6) (oi := ?oiTnx6) (v := ?vTnx6) ?hoTnx6 ?h1Tnx6 ?h2Tnx6 ?h3Tnx6 ?hqTnx6 (Or.inl ⟨?h4Tnx6, ?hyTnx6⟩) (by assumption) ?restTnx6
    case hoTnx6 => (simp only [qa, qb, qc]; rfl)
    case h1Tnx6 => kernel_rfl
    case h2Tnx6 => kernel_rfl
    case h3Tnx6 => kernel_rfl
    case h4Tnx6 => rfl
    case hqTnx6 => exact fun _ _ _ h => h
    case hyTnx6 => (intro w hSw; (try dsimp only at hSw); go_simp <;> with_reducible rfl)
    (try simp only [Act.put, qd, qe, qf])
    refine wpAnyH_ready (rs := [7]) (by kernel_rfl) (by simp) ?_
    refine AllReadyH.cons (o := ?oiTnx7) ?hoTnx7 (fun K hK => ?restTnx7) ?moreTnx7
    case moreTnx7 => exact AllReadyH.nil
    case hoTnx7 => (simp only [qa, qb, qc]; rfl)
    go_simp
    refine hrc.mono ?_
    rintro e w8 ⟨rfl, hB8⟩
    try go_wp2_with fail
    refine hK.out _ _ ?hSnewTny7 (fun hHeld => ?restTny7)
    case hSnewTny7 => ((try dsimp only); exact HS7.out w8 hB8)
    clear hK K
    (try simp only [Act.put, qd, qe, qf])
    refine wpAnyH_take (i := 8) (oi := ?oiTnx8) (v := ?vTnx8) ?hoTnx8 ?h1Tnx8 ?h2Tnx8 ?h3Tnx8 ?hqTnx8 (Or.inl ⟨?h4Tnx8, ?hyTnx8⟩) (by assumption) ?restTnx8
    case hoTnx8 => (simp only [qa, qb, qc]; rfl)
    case h1Tnx8 => kernel_rfl
    case h2Tnx8 => kernel_rfl
    case h3Tnx8 => kernel_rfl
    case h4Tnx8 => rfl
    case hqTnx8 => exact fun _ _ _ h => h
    case hyTnx8 => (intro w hSw; (try dsimp only at hSw); go_simp <;> with_reducible rfl)
    (try simp only [Act.put, qd, qe, qf])
    refine wpAnyH_take (i := 9) (oi := ?oiTnx9) (v := ?vTnx9) ?hoTnx9 ?h1Tnx9 ?h2Tnx9 ?h3Tnx9 ?hqTnx9 (Or.inl ⟨?h4Tnx9, ?hyTnx9⟩) (by assumption) ?restTnx9
    case hoTnx9 => (simp only [qa, qb, qc]; rfl)
    case h1Tnx9 => kernel_rfl
    case h2Tnx9 => kernel_rfl
    case h3Tnx9 => kernel_rfl
    case h4Tnx9 => rfl
    case hqTnx9 => exact fun _ _ _ h => h
    case hyTnx9 => (intro w hSw; (try dsimp only at hSw); go_simp <;> with_reducible rfl)
    (try simp only [Act.put, qd, qe, qf])
    refine wpAnyH_take (i := 10) (oi := ?oiTnx10) (v := ?vTnx10) ?hoTnx10 ?h1Tnx10 ?h2Tnx10 ?h3Tnx10 ?hqTnx10 (Or.inl ⟨?h4Tnx10, ?hyTnx10⟩) (by assumption) ?restTnx10
    case hoTnx10 => (simp only [qa, qb, qc]; rfl)
    case h1Tnx10 => kernel_rfl
    case h2Tnx10 => kernel_rfl
    case h3Tnx10 => kernel_rfl
    case h4Tnx10 => rfl
    case hqTnx10 => exact fun _ _ _ h => h
    case hyTnx10 => (intro w hSw; (try dsimp only at hSw); go_simp <;> with_reducible rfl)
    (try simp only [Act.put, qd, qe, qf])
    refine wpAnyH_take (i := 11) (oi := ?oiTnx11) (v := ?vTnx11) ?hoTnx11 ?h1Tnx11 ?h2Tnx11 ?h3Tnx11 ?hqTnx11 (Or.inl ⟨?h4Tnx11, ?hyTnx11⟩) (by assumption) ?restTnx11
    case hoTnx11 => (simp only [qa, qb, qc]; rfl)
    case h1Tnx11 => kernel_rfl
    case h2Tnx11 => kernel_rfl
    case h3Tnx11 => kernel_rfl
    case h4Tnx11 => rfl
    case hqTnx11 => exact fun _ _ _ h => h
    case hyTnx11 => (intro w hSw; (try dsimp only at hSw); go_simp <;> with_reducible rfl)
    (try simp only [Act.put, qd, qe, qf])
    refine wpAnyH_take (i := 12) (oi := ?oiTnx12) (v := ?vTnx12) ?hoTnx12 ?h1Tnx12 ?h2Tnx12 ?h3Tnx12 ?hqTnx12 (Or.inl ⟨?h4Tnx12, ?hyTnx12⟩) (by assumption) ?restTnx12
    case hoTnx12 => (simp only [qa, qb, qc]; rfl)
    case h1Tnx12 => kernel_rfl
    case h2Tnx12 => kernel_rfl
    case h3Tnx12 => kernel_rfl
    case h4Tnx12 => rfl
    case hqTnx12 => exact fun _ _ _ h => h
    case hyTnx12 => (intro w hSw; (try dsimp only at hSw); go_simp <;> with_reducible rfl)
    (try simp only [Act.put, qd, qe, qf])
    refine wpAnyH_done (by kernel_rfl) ?_ _
    have hB8' : Below wr.heap.size wr w8 := (below_drewN (Below.refl wr.heap.size wr) 1).trans hB8
    obtain ⟨x0, x1, x3⟩ := Hcell.out w8 hB8'
    have HT8 := hid (HT.out.later hB8')
    have Hb8 := hid (Hb.out.later hB8')
    clear hB8 hB8' hrc HS7 Hcell HT Hb hHeld
    by_cases hP3 : P = 3
    ·have hP3I : (P : Int) = 3 := by omega
     by_cases hdn : 64 < dn
     ·have hdnI : (64 : Int) < (dn : Int) := by omega
      cases hh : st'.has.getD j false
      ·have htr := HT8.out.trim_none Hke.out j hj hh
       go_wp2_with fail
       refine htr.mono ?_
       rintro e w9 ⟨rfl, hT9, hK9⟩
       have hb9 := Tw.blk hK9 (show gk g1 g1 from rfl) Hb8.out
       have htr2 := hT9.symm.trim_none Hke.out j hj hh
       have Hb9 := hid hb9
       clear htr hT9 hK9 hb9 HT8 Hb8
       go_wp2_with fail
       refine htr2.mono ?_
       rintro e w10 ⟨rfl, hT10, hK10⟩
       have HT10 := hid hT10.symm
       have Hb10 := hid (Tw.blk hK10 (show gk g1 g1 from rfl) Hb9.out)
       clear htr2 hT10 hK10 Hb9 x0 x1 x3
       go_wp2
       go_roundw
       case rel => exact ⟨k + 1, _, _, by omega, by omega, by go_num, HT10.out, HS.out.up (by omega), Hb10.out⟩
       case measure => simp [intOf]; omega
      ·obtain ⟨R, r1, r2, r3⟩ := put_ex Hke.out HS.out.rest (by have := HS.out.seq; omega) 2 j [] hj (.inr rfl) (by simp) (.inr rfl) (fun x hx => by cases hx)
       obtain ⟨q1, q2⟩ := HS.out.put r2 r3
       have htr := HT8.out.trim Hke.out j hj hh R r1
       rw [q1] at htr
       go_wp2_with fail
       refine htr.mono ?_
       rintro e w9 ⟨rfl, hT9, hK9⟩
       have hb9 := Tw.blk hK9 (show gk g1 g1 from rfl) Hb8.out
       have htr2 := hT9.symm.trim Hke.out j hj hh R r1
       rw [q1] at htr2
       have Hb9 := hid hb9
       have HS10 := hid q2
       clear htr hT9 hK9 hb9 HT8 Hb8 q1 q2 r1 r2 r3 HS
       go_wp2_with fail
       refine htr2.mono ?_
       rintro e w10 ⟨rfl, hT10, hK10⟩
       have HT10 := hid hT10.symm
       have Hb10 := hid (Tw.blk hK10 (show gk g1 g1 from rfl) Hb9.out)
       clear htr2 hT10 hK10 Hb9 x0 x1 x3
       go_wp2
       go_roundw
       case rel => exact ⟨k + 1, _, _, by omega, by omega, by go_num, HT10.out, HS10.out.up (by omega), Hb10.out⟩
       case measure => simp [intOf]; omega
     ·have hdnI : (dn : Int) ≤ 64 := by omega
      cases hh : st'.has.getD j false
      ·have htr := HT8.out.trim_none Hke.out j hj hh
       go_wp2_with fail
       refine htr.mono ?_
       rintro e w9 ⟨rfl, hT9, hK9⟩
       have hb9 := Tw.blk hK9 (show gk g1 g1 from rfl) Hb8.out
       have htr2 := hT9.symm.trim_none Hke.out j hj hh
       have Hb9 := hid hb9
       clear htr hT9 hK9 hb9 HT8 Hb8
       go_wp2_with fail
       refine htr2.mono ?_
       rintro e w10 ⟨rfl, hT10, hK10⟩
       have HT10 := hid hT10.symm
       have Hb10 := hid (Tw.blk hK10 (show gk g1 g1 from rfl) Hb9.out)
       clear htr2 hT10 hK10 Hb9 x0 x1 x3
       go_wp2
       go_roundw
       case rel => exact ⟨k + 1, _, _, by omega, by omega, by go_num, HT10.out, HS.out.up (by omega), Hb10.out⟩
       case measure => simp [intOf]; omega
      ·obtain ⟨R, r1, r2, r3⟩ := put_ex Hke.out HS.out.rest (by have := HS.out.seq; omega) 2 j [] hj (.inr rfl) (by simp) (.inr rfl) (fun x hx => by cases hx)
       obtain ⟨q1, q2⟩ := HS.out.put r2 r3
       have htr := HT8.out.trim Hke.out j hj hh R r1
       rw [q1] at htr
       go_wp2_with fail
       refine htr.mono ?_
       rintro e w9 ⟨rfl, hT9, hK9⟩
       have hb9 := Tw.blk hK9 (show gk g1 g1 from rfl) Hb8.out
       have htr2 := hT9.symm.trim Hke.out j hj hh R r1
       rw [q1] at htr2
       have Hb9 := hid hb9
       have HS10 := hid q2
       clear htr hT9 hK9 hb9 HT8 Hb8 q1 q2 r1 r2 r3 HS
       go_wp2_with fail
       refine htr2.mono ?_
       rintro e w10 ⟨rfl, hT10, hK10⟩
       have HT10 := hid hT10.symm
       have Hb10 := hid (Tw.blk hK10 (show gk g1 g1 from rfl) Hb9.out)
       clear htr2 hT10 hK10 Hb9 x0 x1 x3
       go_wp2
       go_roundw
       case rel => exact ⟨k + 1, _, _, by omega, by omega, by go_num, HT10.out, HS10.out.up (by omega), Hb10.out⟩
       case measure => simp [intOf]; omega
    ·have hP3I : (P : Int) ≠ 3 := by omega
     by_cases hdn : 64 < dn
     ·have hdnI : (64 : Int) < (dn : Int) := by omega
      obtain ⟨R, r1, r2, r3⟩ := put_ex Hke.out HS.out.rest (by have := HS.out.seq; omega) 1 j [] hj (.inl rfl) (by simp) (.inl rfl) (fun x hx => by cases hx)
      obtain ⟨q1, q2⟩ := HS.out.put r2 r3
      have htr := HT8.out.write Hke.out j [] none 0 0 (Nums.none _ _ _) hj (by omega) R r1
      rw [q1] at htr
      go_wp2_with fail
      refine htr.mono ?_
      rintro e w9 ⟨rfl, hT9, hK9⟩
      have hb9 := Tw.blk hK9 (show gk g1 g1 from rfl) Hb8.out
      have htr2 := hT9.symm.write Hke.out j [] none 0 0 (Nums.none _ _ _) hj (by omega) R r1
      rw [q1] at htr2
      have Hb9 := hid hb9
      have HS10 := hid q2
      clear htr hT9 hK9 hb9 HT8 Hb8 q1 q2 r1 r2 r3 HS
      go_wp2_with fail
      refine htr2.mono ?_
      rintro e w10 ⟨rfl, hT10, hK10⟩
      have HT10 := hid hT10.symm
      have Hb10 := hid (Tw.blk hK10 (show gk g1 g1 from rfl) Hb9.out)
      clear htr2 hT10 hK10 Hb9 x0 x1 x3
      go_wp2
      go_roundw
      case rel => exact ⟨k + 1, _, _, by omega, by omega, by go_num, HT10.out, HS10.out.up (by omega), Hb10.out⟩
      case measure => simp [intOf]; omega
     ·have hdnI : (dn : Int) ≤ 64 := by omega
      obtain ⟨R, r1, r2, r3⟩ := put_ex Hke.out HS.out.rest (by have := HS.out.seq; omega) 1 j dys hj (.inl rfl) (by rw [Hz.out.len]; omega) (.inl rfl) (fun x hx => wf_u8 (Hz.out.wf x hx))
      obtain ⟨q1, q2⟩ := HS.out.put r2 r3
      have htr := HT8.out.write Hke.out j dys dA dn dc Hz.out hj (by omega) R r1
      rw [q1] at htr
      go_wp2_with fail
      refine htr.mono ?_
      rintro e w9 ⟨rfl, hT9, hK9⟩
      have hb9 := Tw.blk hK9 (show gk g1 g1 from rfl) Hb8.out
      have htr2 := hT9.symm.write Hke.out j dys dA dn dc Hz.out hj (by omega) R r1
      rw [q1] at htr2
      have Hb9 := hid hb9
      have HS10 := hid q2
      clear htr hT9 hK9 hb9 HT8 Hb8 q1 q2 r1 r2 r3 HS
      go_wp2_with fail
      refine htr2.mono ?_
      rintro e w10 ⟨rfl, hT10, hK10⟩
      have HT10 := hid hT10.symm
      have Hb10 := hid (Tw.blk hK10 (show gk g1 g1 from rfl) Hb9.out)
      clear htr2 hT10 hK10 Hb9 x0 x1 x3
      go_wp2
      go_roundw
      case rel => exact ⟨k + 1, _, _, by omega, by omega, by go_num, HT10.out, HS10.out.up (by omega), Hb10.out⟩
      case measure => simp [intOf]; omega
   ·obtain rfl : k = 80 := by omega
    obtain ⟨w9, rfl⟩ : ∃ x : World, x = wr := ⟨_, rfl⟩
    have HT := hid hT
    have hrd1 := fun W (hW : Below w9.heap.size w9 W) (i p : Nat) (hi : i < c.nb) => tw_read (hT.later hW) hS.rest i p (show i < (c.at 1).nb from hi)
    have hrd2 := fun W (hW : Below w9.heap.size w9 W) (i p : Nat) (hi : i < c.nb) => tw_read (hT.symm.later hW) hS.rest i p (show i < (c.at 1).nb from hi)
    have her1 := fun W (hW : Below w9.heap.size w9 W) (i : Nat) (hi : i < c.nb) => tw_erases (hT.later hW) i (show i < (c.at 1).nb from hi)
    have her2 := fun W (hW : Below w9.heap.size w9 W) (i : Nat) (hi : i < c.nb) => tw_erases (hT.symm.later hW) i (show i < (c.at 1).nb from hi)
    rw [Hob1.out] at hrd1 her1
    rw [Hob2.out] at hrd2 her2
    have HR1 := hid hrd1
    have HR2 := hid hrd2
    have HE1 := hid her1
    have HE2 := hid her2
    have Hb := hid hb
    clear hT hS hb hrd1 hrd2 her1 her2
    go_wp2
    go_loopw [17] (fun t w' => ∃ i : Nat, i ≤ c.nb ∧ t = .int .i64 (i : Int) ∧ Below w9.heap.size w9 w') (fun t _ => c.nb - (intOf t).toNat)
    case atStart => exact ⟨0, by omega, rfl, Below.refl _ _⟩
    case round =>
     obtain ⟨i, hil, rfl, hB⟩ := hrel
     have hbi := (Hb.out.later hB)
     obtain ⟨z0, z1, z2, z3⟩ := geo_four hbi
     by_cases hi : i < c.nb
     ·have hiI : (i : Int) < (c.nb : Int) := by omega
      have HB := hid hB
      clear hbi hB
      go_upto_region 24 with (fail)
      clear z0 z1 z2 z3
      obtain ⟨wi, rfl⟩ : ∃ x : World, x = wr := ⟨_, rfl⟩
      go_loopw [18] (fun t w' => ∃ p : Nat, p ≤ c.np ∧ t = .int .i64 (p : Int) ∧ Below w9.heap.size w9 w') (fun t _ => c.np - (intOf t).toNat)
      case atStart => exact ⟨0, by omega, rfl, HB.out⟩
      case round =>
       clear HB
       obtain ⟨p, hpl, rfl, hB⟩ := hrel
       obtain ⟨z0, z1, z2, z3⟩ := geo_four (Hb.out.later hB)
       by_cases hp : p < c.np
       ·have hpI : (p : Int) < (c.np : Int) := by omega
        obtain ⟨r, hr⟩ : ∃ x, st'.N.readE (i : Int) (p : Int) = x := ⟨_, rfl⟩
        have hrd := HR1.out wr hB i p hi
        rw [hr] at hrd
        have HB := hid hB
        clear hB
        go_wp2_with fail
        refine hrd.mono ?_
        rintro e w2 ⟨A2, n2, c2, rfl, hz2, hB2⟩
        clear hrd z0 z1 z2 z3
        have hB2' := HB.out.trans (hB2.mono HB.out.size)
        have hrd := HR2.out w2 hB2' i p hi
        rw [hr] at hrd
        have HB2 := hid hB2'
        have Hz2 := hid hz2
        clear hB2 hB2' hz2 HB
        go_wp2_with fail
        refine hrd.mono ?_
        rintro e w3 ⟨A3, n3, c3, rfl, hz3, hB3⟩
        clear hrd
        have HB3 := hid (HB2.out.trans (hB3.mono HB2.out.size))
        have cv2 := conv_str (c := c2) (Hz2.out.below hB3)
        have cv3 := conv_str (c := c3) hz3
        have hse : ((strOfNums (rdL st'.N i p)).toList == (strOfNums (rdL st'.N i p)).toList) = true := by simp
        generalize strOfNums (rdL st'.N i p) = sx at *
        clear hz3 hB3 Hz2 hr
        go_wp2
        go_roundw
        case rel => exact ⟨p + 1, by omega, by go_num, HB3.out⟩
        case measure => simp [intOf]; omega
       ·have hpI : ¬ (p : Int) < (c.np : Int) := by omega
        have her := HE1.out wr hB i hi
        have HB := hid hB
        clear hB
        go_wp2_with fail
        refine her.mono ?_
        rintro e w2 ⟨rfl, hw2⟩
        subst hw2
        have her2 := HE2.out _ HB.out i hi
        clear her z0 z1 z2 z3
        go_wp2_with fail
        refine her2.mono ?_
        rintro e w2 ⟨rfl, hw2⟩
        subst hw2
        clear her2
        go_wp2
        go_roundw
        case rel => exact ⟨i + 1, by omega, by go_num, HB.out⟩
        case measure => simp [intOf]; omega
     ·have hiI : ¬ (i : Int) < (c.nb : Int) := by omega
      obtain ⟨F1, hf1, hw1⟩ := (HT.out.later hB).fr1
      have hfr := fre_run hf1
      have HB := hid hB
      clear hB hbi hf1 hw1
      obtain ⟨n0, hn0⟩ : ∃ x, cntH st'.hs 0 = x := ⟨_, rfl⟩
      obtain ⟨n1, hn1⟩ : ∃ x, isum st'.cnt = x := ⟨_, rfl⟩
      rw [hn0] at hfr
      have Hn0 := hid hn0
      have Hn1 := hid hn1
      clear hn0 hn1
      go_wp2_with fail
      refine hfr.mono ?_
      rintro e w2 ⟨rfl, hB2⟩
      have hB2' := HB.out.trans (hB2.mono HB.out.size)
      obtain ⟨F2, hf2, hw2⟩ := (HT.out.symm.later hB2').fr1
      have hfr2 := fre_run hf2
      rw [Hn0.out] at hfr2
      have HB2 := hid hB2'
      clear hfr z0 z1 z2 z3 hB2 hB2' hf2 hw2
      go_wp2_with fail
      refine hfr2.mono ?_
      rintro e w3 ⟨rfl, hB3⟩
      have hB3' := HB2.out.trans (hB3.mono HB2.out.size)
      obtain ⟨F3, hf3, hw3⟩ := (HT.out.later hB3').fr1
      have hfl := flen_run hf3 hw3
      rw [Hn1.out] at hfl
      have HB3 := hid hB3'
      clear hfr2 hB3 hB3' hf3 hw3
      go_wp2_with fail
      refine hfl.mono ?_
      rintro e w4 ⟨rfl, hw4⟩
      subst hw4
      obtain ⟨F4, hf4, hw4⟩ := (HT.out.symm.later HB3.out).fr1
      have hfl2 := flen_run hf4 hw4
      rw [Hn1.out] at hfl2
      clear hfl hf4 hw4
      go_wp2_with fail
      refine hfl2.mono ?_
      rintro e w4 ⟨rfl, hw4⟩
      subst hw4
      clear hfl2
      go_wp2
      go_ret
      exact ⟨rfl, (HT.out.later HB3.out).below⟩
  ·obtain rfl : k = l := by omega
   obtain ⟨w9, rfl⟩ : ∃ x : World, x = wr := ⟨_, rfl⟩
   have HT := hid hT
   have hrd1 := fun W (hW : Below w9.heap.size w9 W) (i p : Nat) (hi : i < c.nb) => tw_read (hT.later hW) hS.rest i p (show i < (c.at 1).nb from hi)
   have hrd2 := fun W (hW : Below w9.heap.size w9 W) (i p : Nat) (hi : i < c.nb) => tw_read (hT.symm.later hW) hS.rest i p (show i < (c.at 1).nb from hi)
   have her1 := fun W (hW : Below w9.heap.size w9 W) (i : Nat) (hi : i < c.nb) => tw_erases (hT.later hW) i (show i < (c.at 1).nb from hi)
   have her2 := fun W (hW : Below w9.heap.size w9 W) (i : Nat) (hi : i < c.nb) => tw_erases (hT.symm.later hW) i (show i < (c.at 1).nb from hi)
   rw [Hob1.out] at hrd1 her1
   rw [Hob2.out] at hrd2 her2
   have HR1 := hid hrd1
   have HR2 := hid hrd2
   have HE1 := hid her1
   have HE2 := hid her2
   have Hb := hid hb
   clear hT hS hb hrd1 hrd2 her1 her2
   go_wp2
   go_loopw [17] (fun t w' => ∃ i : Nat, i ≤ c.nb ∧ t = .int .i64 (i : Int) ∧ Below w9.heap.size w9 w') (fun t _ => c.nb - (intOf t).toNat)
   case atStart => exact ⟨0, by omega, rfl, Below.refl _ _⟩
   case round =>
    obtain ⟨i, hil, rfl, hB⟩ := hrel
    have hbi := (Hb.out.later hB)
    obtain ⟨z0, z1, z2, z3⟩ := geo_four hbi
    by_cases hi : i < c.nb
    ·have hiI : (i : Int) < (c.nb : Int) := by omega
     have HB := hid hB
     clear hbi hB
     go_upto_region 24 with (fail)
     clear z0 z1 z2 z3
     obtain ⟨wi, rfl⟩ : ∃ x : World, x = wr := ⟨_, rfl⟩
     go_loopw [18] (fun t w' => ∃ p : Nat, p ≤ c.np ∧ t = .int .i64 (p : Int) ∧ Below w9.heap.size w9 w') (fun t _ => c.np - (intOf t).toNat)
     case atStart => exact ⟨0, by omega, rfl, HB.out⟩
     case round =>
      clear HB
      obtain ⟨p, hpl, rfl, hB⟩ := hrel
      obtain ⟨z0, z1, z2, z3⟩ := geo_four (Hb.out.later hB)
      by_cases hp : p < c.np
      ·have hpI : (p : Int) < (c.np : Int) := by omega
       obtain ⟨r, hr⟩ : ∃ x, st'.N.readE (i : Int) (p : Int) = x := ⟨_, rfl⟩
       have hrd := HR1.out wr hB i p hi
       rw [hr] at hrd
       have HB := hid hB
       clear hB
       go_wp2_with fail
       refine hrd.mono ?_
       rintro e w2 ⟨A2, n2, c2, rfl, hz2, hB2⟩
       clear hrd z0 z1 z2 z3
       have hB2' := HB.out.trans (hB2.mono HB.out.size)
       have hrd := HR2.out w2 hB2' i p hi
       rw [hr] at hrd
       have HB2 := hid hB2'
       have Hz2 := hid hz2
       clear hB2 hB2' hz2 HB
       go_wp2_with fail
       refine hrd.mono ?_
       rintro e w3 ⟨A3, n3, c3, rfl, hz3, hB3⟩
       clear hrd
       have HB3 := hid (HB2.out.trans (hB3.mono HB2.out.size))
       have cv2 := conv_str (c := c2) (Hz2.out.below hB3)
       have cv3 := conv_str (c := c3) hz3
       have hse : ((strOfNums (rdL st'.N i p)).toList == (strOfNums (rdL st'.N i p)).toList) = true := by simp
       generalize strOfNums (rdL st'.N i p) = sx at *
       clear hz3 hB3 Hz2 hr
       go_wp2
       go_roundw
       case rel => exact ⟨p + 1, by omega, by go_num, HB3.out⟩
       case measure => simp [intOf]; omega
      ·have hpI : ¬ (p : Int) < (c.np : Int) := by omega
       have her := HE1.out wr hB i hi
       have HB := hid hB
       clear hB
       go_wp2_with fail
       refine her.mono ?_
       rintro e w2 ⟨rfl, hw2⟩
       subst hw2
       have her2 := HE2.out _ HB.out i hi
       clear her z0 z1 z2 z3
       go_wp2_with fail
       refine her2.mono ?_
       rintro e w2 ⟨rfl, hw2⟩
       subst hw2
       clear her2
       go_wp2
       go_roundw
       case rel => exact ⟨i + 1, by omega, by go_num, HB.out⟩
       case measure => simp [intOf]; omega
    ·have hiI : ¬ (i : Int) < (c.nb : Int) := by omega
     obtain ⟨F1, hf1, hw1⟩ := (HT.out.later hB).fr1
     have hfr := fre_run hf1
     have HB := hid hB
     clear hB hbi hf1 hw1
     obtain ⟨n0, hn0⟩ : ∃ x, cntH st'.hs 0 = x := ⟨_, rfl⟩
     obtain ⟨n1, hn1⟩ : ∃ x, isum st'.cnt = x := ⟨_, rfl⟩
     rw [hn0] at hfr
     have Hn0 := hid hn0
     have Hn1 := hid hn1
     clear hn0 hn1
     go_wp2_with fail
     refine hfr.mono ?_
     rintro e w2 ⟨rfl, hB2⟩
     have hB2' := HB.out.trans (hB2.mono HB.out.size)
     obtain ⟨F2, hf2, hw2⟩ := (HT.out.symm.later hB2').fr1
     have hfr2 := fre_run hf2
     rw [Hn0.out] at hfr2
     have HB2 := hid hB2'
     clear hfr z0 z1 z2 z3 hB2 hB2' hf2 hw2
     go_wp2_with fail
     refine hfr2.mono ?_
     rintro e w3 ⟨rfl, hB3⟩
     have hB3' := HB2.out.trans (hB3.mono HB2.out.size)
     obtain ⟨F3, hf3, hw3⟩ := (HT.out.later hB3').fr1
     have hfl := flen_run hf3 hw3
     rw [Hn1.out] at hfl
     have HB3 := hid hB3'
     clear hfr2 hB3 hB3' hf3 hw3
     go_wp2_with fail
     refine hfl.mono ?_
     rintro e w4 ⟨rfl, hw4⟩
     subst hw4
     obtain ⟨F4, hf4, hw4⟩ := (HT.out.symm.later HB3.out).fr1
     have hfl2 := flen_run hf4 hw4
     rw [Hn1.out] at hfl2
     clear hfl hf4 hw4
     go_wp2_with fail
     refine hfl2.mono ?_
     rintro e w4 ⟨rfl, hw4⟩
     subst hw4
     clear hfl2
     go_wp2
     go_ret
     exact ⟨rfl, (HT.out.later HB3.out).below⟩
end Go.Proofs.Ytpcbpljdiacbmaa.Ftl
