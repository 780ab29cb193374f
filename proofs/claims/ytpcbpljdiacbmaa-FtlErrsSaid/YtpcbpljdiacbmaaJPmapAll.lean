import Derived.Test.YtpcbpljdiacbmaaJKit
import Derived.Deep.Cut
import Derived.Laws.ResultCell
import Derived.StillTailTactics
import Derived.BigRegion
import Derived.Deep.DeepCutAuto
import Derived.Deep.RegionHeld3
import Derived.Deep.WholeRow
import Derived.Laws.Tables
set_option linter.unusedVariables false
set_option linter.unusedSimpArgs false
namespace Go.Proofs.Ytpcbpljdiacbmaa.Pmap
open Go.RowKit Go.Proofs.Ytpcbpljdiacbmaa.Kit

def flatP (l : List (Int × Int)) : List Value := l.flatMap (fun p => [.int .i64 p.1, .int .i64 p.2])
theorem flatP_cons (p : Int × Int) (l : List (Int × Int)) : flatP (p :: l) = .int .i64 p.1 :: .int .i64 p.2 :: flatP l := rfl
theorem flatP_get (l : List (Int × Int)) (k : Nat) (h : k < l.length) : (flatP l)[k * 2]? = some (.int .i64 (l.getD k (0, 0)).1) ∧ (flatP l)[k * 2 + 1]? = some (.int .i64 (l.getD k (0, 0)).2) := by
 induction l generalizing k with
 | nil => exact absurd h (by simp)
 | cons p l ih =>
  rcases k with _ | k
  ·exact ⟨rfl, rfl⟩
  ·have := ih k (by simpa using h)
   rw [flatP_cons]
   have e : (k + 1) * 2 = k * 2 + 1 + 1 := by omega
   rw [e]
   simpa using this
theorem flatP_set (l : List (Int × Int)) (k : Nat) (h : k < l.length) (p : Int × Int) : ((flatP l).set (k * 2) (.int .i64 p.1)).set (k * 2 + 1) (.int .i64 p.2) = flatP (l.set k p) := by
 induction l generalizing k with
 | nil => exact absurd h (by simp)
 | cons q l ih =>
  rcases k with _ | k
  ·rfl
  ·have := ih k (by simpa using h)
   rw [flatP_cons]
   have e : (k + 1) * 2 = k * 2 + 1 + 1 := by omega
   rw [e]
   simp only [List.set_cons_succ, flatP_cons]
   rw [this]

/-- A map, its three arrays known whole. -/
structure PM (w : World) (b ga gh gc N M : Nat) (at' : List (Int × Int)) (has : List Bool) (cnt : List Int) : Prop where
 blk : Blk w b #[.slice (some ⟨ga, 0, none⟩) N N, .slice (some ⟨gh, 0, none⟩) N N, .slice (some ⟨gc, 0, none⟩) M M] 119
 ats : Blk w ga (flatP at').toArray 87
 hass : Blk w gh (has.map Value.bool).toArray 4
 cnts : Blk w gc (cnt.map (Value.int .i64)).toArray 3
 la : at'.length = N
 lh : has.length = N
 lc : cnt.length = M
 nM : N ≤ 65536 ∧ M ≤ 64
 ne : b ≠ ga ∧ b ≠ gh ∧ b ≠ gc ∧ ga ≠ gh ∧ ga ≠ gc ∧ gh ≠ gc
theorem PM.later {w w' : World} {b ga gh gc N M : Nat} {at' : List (Int × Int)} {has : List Bool} {cnt : List Int} (h : PM w b ga gh gc N M at' has cnt) (hB : Below w.heap.size w w') : PM w' b ga gh gc N M at' has cnt :=
 ⟨h.blk.later hB, h.ats.later hB, h.hass.later hB, h.cnts.later hB, h.la, h.lh, h.lc, h.nM, h.ne⟩
theorem PM.cells {w : World} {b ga gh gc N M : Nat} {at' : List (Int × Int)} {has : List Bool} {cnt : List Int} (h : PM w b ga gh gc N M at' has cnt) :
  w.cell? ⟨b, 0, none⟩ = some (.slice (some ⟨ga, 0, none⟩) N N) ∧ w.cell? ⟨b, 1, none⟩ = some (.slice (some ⟨gh, 0, none⟩) N N) ∧ w.cell? ⟨b, 2, none⟩ = some (.slice (some ⟨gc, 0, none⟩) M M) := ⟨h.blk.cell 0, h.blk.cell 1, h.blk.cell 2⟩
theorem PM.has_at {w : World} {b ga gh gc N M : Nat} {at' : List (Int × Int)} {has : List Bool} {cnt : List Int} (h : PM w b ga gh gc N M at' has cnt) (k : Nat) (hk : k < N) : w.cell? ⟨gh, k, none⟩ = some (.bool (has.getD k false)) := by
 rw [h.hass.cell]
 have : k < has.length := by rw [h.lh]; exact hk
 simp [List.getD_eq_getElem?_getD, List.getElem?_eq_getElem this]
theorem PM.cnt_at {w : World} {b ga gh gc N M : Nat} {at' : List (Int × Int)} {has : List Bool} {cnt : List Int} (h : PM w b ga gh gc N M at' has cnt) (k : Nat) (hk : k < M) : w.cell? ⟨gc, k, none⟩ = some (.int .i64 (cnt.getD k 0)) := by
 rw [h.cnts.cell]
 have : k < cnt.length := by rw [h.lc]; exact hk
 simp [List.getD_eq_getElem?_getD, List.getElem?_eq_getElem this]
theorem PM.at_at {w : World} {b ga gh gc N M : Nat} {at' : List (Int × Int)} {has : List Bool} {cnt : List Int} (h : PM w b ga gh gc N M at' has cnt) (k : Nat) (hk : k < N) : w.cell? ⟨ga, k * 2, none⟩ = some (.int .i64 (at'.getD k (0, 0)).1) ∧ w.cell? ⟨ga, k * 2 + 1, none⟩ = some (.int .i64 (at'.getD k (0, 0)).2) := by
 rw [h.ats.cell, h.ats.cell]
 have := flatP_get at' k (by rw [h.la]; exact hk)
 simpa using this

set_option maxHeartbeats 1000000 in
theorem count_any (b ga gh gc N M : Nat) (at' : List (Int × Int)) (has : List Bool) (cnt : List Int) (k : Int) (w : World) (h : PM w b ga gh gc N M at' has cnt) :
  Calls Try.prog 42 #[.pointer (some ⟨b, 0, none⟩), .int .i64 k] w fun e w' => e = .returned (.int .i64 (if 0 ≤ k ∧ k < M then cnt.getD k.toNat 0 else 0)) ∧ w' = w := by
 obtain ⟨c0, c1, c2⟩ := h.cells
 have hM := h.nM.2
 by_cases hk : 0 ≤ k ∧ k < M
 ·rw [if_pos hk]
  obtain ⟨k0, k1⟩ := hk
  obtain ⟨k, rfl⟩ := Int.eq_ofNat_of_zero_le k0
  have hc := h.cnt_at k (by omega)
  clear h
  rw [show ((k : Int)).toNat = k by omega]
  generalize cnt.getD k 0 = x at *
  go_enter Try.func42, Try.ntmps42
  go_wp2
  go_ret
  exact ⟨rfl, rfl⟩
 ·rw [if_neg hk]
  clear h
  by_cases hk0 : k < 0
  ·go_enter Try.func42, Try.ntmps42
   go_wp2
   go_ret
   exact ⟨rfl, rfl⟩
  ·have hk1 : (M : Int) ≤ k := by omega
   clear hk
   go_enter Try.func42, Try.ntmps42
   go_wp2
   go_ret
   exact ⟨rfl, rfl⟩
theorem results_row_tmp {P : Program} {fn : Func} {p u : Tmp} {ty : TypeId} (h : fn.results = #[.cell p ty, .tmp u]) (tmps : Array Value) (w : World) (g : Nat) (t : TypeId) (cs : Array Value) (fr : Nat × Nat) (d : TypeDesc)
  (hp : tmps.getD p undef = .pointer (some ⟨g, 0, none⟩)) (hg : w.heap[g]? = some (.cells cs t fr))
  (hu : P.underlying ty = some d) (hd : (match d with | .struct _ | .array _ _ => true | _ => false) = true) (hi : (P.info? ty).map (·.size) = some cs.size) :
  (results fn tmps).run P w = .ok (.tuple #[.agg cs, tmps.getD u undef]) w := by
 rw [results_cell_tmp h, hp]
 show ((loadVar ty ⟨g, 0, none⟩).run P w).andThen _ = _
 rw [run_loadVar_row w g t ty cs fr d hg hu hd hi]
 rfl
theorem _root_.Go.Proofs.Ytpcbpljdiacbmaa.Kit.Blk.two_set {w : World} {g : Nat} {v0 v1 : Value} {T : TypeId} (h : Blk w g #[v0, v1] T) (u0 u1 : Value) : Blk ((w.setCell ⟨g, 0, none⟩ u0).setCell ⟨g, 1, none⟩ u1) g #[u0, u1] T := by
 have hb := (h.set 0 u0).set 1 u1
 simpa using hb
theorem _root_.Go.Proofs.Ytpcbpljdiacbmaa.Kit.Blk.two {w : World} {g : Nat} {v0 v1 : Value} {T : TypeId} (h : Blk w g #[v0, v1] T) : (w.cell? ⟨g, 0, none⟩ = some v0 ∧ w.cell? ⟨g, 1, none⟩ = some v1) ∧ w.frozen? ⟨g, 0, none⟩ = false ∧ w.frozen? ⟨g, 1, none⟩ = false := ⟨⟨h.cell 0, h.cell 1⟩, h.free 0, h.free 1⟩

def getOk (has : List Bool) (N : Nat) (k : Int) : Bool := decide (0 ≤ k ∧ k < N) && has.getD k.toNat false
def getV (at' : List (Int × Int)) (has : List Bool) (N : Nat) (k : Int) : Int × Int := if getOk has N k = true then at'.getD k.toNat (0, 0) else (0, 0)

set_option maxHeartbeats 4000000 in
theorem get_any (b ga gh gc N M : Nat) (at' : List (Int × Int)) (has : List Bool) (cnt : List Int) (k : Int) (w : World) (h : PM w b ga gh gc N M at' has cnt) :
  Calls Try.prog 47 #[.pointer (some ⟨b, 0, none⟩), .int .i64 k] w fun e w' => e = .returned (.tuple #[.agg #[.int .i64 (getV at' has N k).1, .int .i64 (getV at' has N k).2], .bool (getOk has N k)]) ∧ Below w.heap.size w w' := by
 have hN := h.nM.1
 by_cases hk : 0 ≤ k ∧ k < N
 ·obtain ⟨k0, k1⟩ := hk
  obtain ⟨k, rfl⟩ := Int.eq_ofNat_of_zero_le k0
  have e1 : getOk has N (k : Int) = has.getD k false := by unfold getOk; rw [decide_eq_true ⟨by omega, by omega⟩, Bool.true_and]; rfl
  have e2 : getV at' has N (k : Int) = if has.getD k false = true then at'.getD k (0, 0) else (0, 0) := by unfold getV; rw [e1]; rfl
  cases hhk : has.getD k false
  ·rw [hhk] at e1 e2
   rw [if_neg (by simp)] at e2
   rw [e1, e2]
   clear e1 e2
   go_enter Try.func47, Try.ntmps47
   go_upto_region 1 with (fail)
   obtain ⟨w2, hw⟩ : ∃ W, W = w.alloc (.cells #[.int .i64 0, .int .i64 0] 87) := ⟨_, rfl⟩
   have hb : Blk w2 w.heap.size #[.int .i64 0, .int .i64 0] 87 := by rw [hw]; exact Blk.new _ _ _
   have hB : Below w.heap.size w w2 := by rw [hw]; exact (Below.refl _ _).alloc (Nat.le_refl _) _
   rw [← hw]
   clear hw
   have h2 := h.later hB
   obtain ⟨c0, c1, c2⟩ := h2.cells
   have hh := h2.has_at k (by omega)
   rw [hhk] at hh
   obtain ⟨⟨d0, d1⟩, f0, f1⟩ := hb.two
   have Hb := hid hb
   clear hb h h2
   go_wp2
   refine bodyPost_ret (results_row_tmp (P := Try.prog) rfl _ _ w.heap.size _ _ (0, 0) _ rfl (Blk.two_set Hb.out (.int .i64 0) (.int .i64 0)) Try.underlying87 rfl (by kernel_rfl)) rfl ?_
   exact ⟨rfl, (hB.setCell (Nat.le_refl _) _).setCell (Nat.le_refl _) _⟩
  ·rw [hhk] at e1 e2
   rw [if_pos rfl] at e2
   rw [e1, e2]
   clear e1 e2
   go_enter Try.func47, Try.ntmps47
   go_upto_region 1 with (fail)
   obtain ⟨w2, hw⟩ : ∃ W, W = w.alloc (.cells #[.int .i64 0, .int .i64 0] 87) := ⟨_, rfl⟩
   have hb : Blk w2 w.heap.size #[.int .i64 0, .int .i64 0] 87 := by rw [hw]; exact Blk.new _ _ _
   have hB : Below w.heap.size w w2 := by rw [hw]; exact (Below.refl _ _).alloc (Nat.le_refl _) _
   rw [← hw]
   clear hw
   have h2 := h.later hB
   obtain ⟨c0, c1, c2⟩ := h2.cells
   have hh := h2.has_at k (by omega)
   rw [hhk] at hh
   obtain ⟨a0, a1⟩ := h2.at_at k (by omega)
   obtain ⟨⟨d0, d1⟩, f0, f1⟩ := hb.two
   have Hb := hid hb
   clear hb h h2
   go_wp2
   refine bodyPost_ret (results_row_tmp (P := Try.prog) rfl _ _ w.heap.size _ _ (0, 0) _ rfl (Blk.two_set Hb.out (.int .i64 (at'.getD k (0, 0)).1) (.int .i64 (at'.getD k (0, 0)).2)) Try.underlying87 rfl (by kernel_rfl)) rfl ?_
   exact ⟨rfl, (hB.setCell (Nat.le_refl _) _).setCell (Nat.le_refl _) _⟩
 ·have e1 : getOk has N k = false := by unfold getOk; rw [decide_eq_false hk, Bool.false_and]
  have e2 : getV at' has N k = (0, 0) := by unfold getV; rw [e1]; rfl
  rw [e1, e2]
  clear e1 e2
  by_cases hk0 : k < 0
  ·clear hk
   go_enter Try.func47, Try.ntmps47
   go_upto_region 1 with (fail)
   obtain ⟨w2, hw⟩ : ∃ W, W = w.alloc (.cells #[.int .i64 0, .int .i64 0] 87) := ⟨_, rfl⟩
   have hb : Blk w2 w.heap.size #[.int .i64 0, .int .i64 0] 87 := by rw [hw]; exact Blk.new _ _ _
   have hB : Below w.heap.size w w2 := by rw [hw]; exact (Below.refl _ _).alloc (Nat.le_refl _) _
   rw [← hw]
   clear hw
   have h2 := h.later hB
   obtain ⟨c0, c1, c2⟩ := h2.cells
   obtain ⟨⟨d0, d1⟩, f0, f1⟩ := hb.two
   have Hb := hid hb
   clear hb h h2
   go_wp2
   refine bodyPost_ret (results_row_tmp (P := Try.prog) rfl _ _ w.heap.size _ _ (0, 0) _ rfl (Blk.two_set Hb.out (.int .i64 0) (.int .i64 0)) Try.underlying87 rfl (by kernel_rfl)) rfl ?_
   exact ⟨rfl, (hB.setCell (Nat.le_refl _) _).setCell (Nat.le_refl _) _⟩
  ·have hk1 : (N : Int) ≤ k := by omega
   clear hk
   go_enter Try.func47, Try.ntmps47
   go_upto_region 1 with (fail)
   obtain ⟨w2, hw⟩ : ∃ W, W = w.alloc (.cells #[.int .i64 0, .int .i64 0] 87) := ⟨_, rfl⟩
   have hb : Blk w2 w.heap.size #[.int .i64 0, .int .i64 0] 87 := by rw [hw]; exact Blk.new _ _ _
   have hB : Below w.heap.size w w2 := by rw [hw]; exact (Below.refl _ _).alloc (Nat.le_refl _) _
   rw [← hw]
   clear hw
   have h2 := h.later hB
   obtain ⟨c0, c1, c2⟩ := h2.cells
   obtain ⟨⟨d0, d1⟩, f0, f1⟩ := hb.two
   have Hb := hid hb
   clear hb h h2
   go_wp2
   refine bodyPost_ret (results_row_tmp (P := Try.prog) rfl _ _ w.heap.size _ _ (0, 0) _ rfl (Blk.two_set Hb.out (.int .i64 0) (.int .i64 0)) Try.underlying87 rfl (by kernel_rfl)) rfl ?_
   exact ⟨rfl, (hB.setCell (Nat.le_refl _) _).setCell (Nat.le_refl _) _⟩
end Go.Proofs.Ytpcbpljdiacbmaa.Pmap

set_option linter.unusedVariables false
set_option linter.unusedSimpArgs false
namespace Go.Proofs.Ytpcbpljdiacbmaa.Pmap
open Go.RowKit Go.Proofs.Ytpcbpljdiacbmaa.Kit

/-- Nothing but three blocks is written. -/
structure Fr (w w' : World) (ga gh gc : Nat) : Prop where
 os : w'.os = w.os
 tape : w'.tape = w.tape
 output : w'.output = w.output
 size : w.heap.size ≤ w'.heap.size
 block : ∀ g, g < w.heap.size → g ≠ ga → g ≠ gh → g ≠ gc → w'.heap[g]? = w.heap[g]?
theorem Fr.refl (w : World) (ga gh gc : Nat) : Fr w w ga gh gc := ⟨rfl, rfl, rfl, Nat.le_refl _, fun _ _ _ _ _ => rfl⟩
theorem Fr.trans {w w1 w2 : World} {ga gh gc : Nat} (h : Fr w w1 ga gh gc) (k : Fr w1 w2 ga gh gc) : Fr w w2 ga gh gc :=
 ⟨k.os.trans h.os, k.tape.trans h.tape, k.output.trans h.output, Nat.le_trans h.size k.size, fun g hg h1 h2 h3 => (k.block g (Nat.lt_of_lt_of_le hg h.size) h1 h2 h3).trans (h.block g hg h1 h2 h3)⟩
theorem Fr.of_below {w w1 : World} {ga gh gc : Nat} (h : Below w.heap.size w w1) : Fr w w1 ga gh gc := ⟨h.os, h.tape, h.output, h.size, fun g hg _ _ _ => h.block g hg⟩
theorem Fr.set {w w1 : World} {ga gh gc : Nat} (h : Fr w w1 ga gh gc) (g i : Nat) (v : Value) (hg : g = ga ∨ g = gh ∨ g = gc) : Fr w (w1.setCell ⟨g, i, none⟩ v) ga gh gc :=
 ⟨h.os, h.tape, h.output, by simpa [World.setCell] using h.size, fun j hj h1 h2 h3 => (Below.heap_setCell w1 ⟨g, i, none⟩ v j (by rcases hg with rfl | rfl | rfl <;> assumption)).trans (h.block j hj h1 h2 h3)⟩
theorem Fr.drewN {w w1 : World} {ga gh gc : Nat} (h : Fr w w1 ga gh gc) (n : Nat) : Fr w (w1.drewN n) ga gh gc := ⟨h.os, h.tape, h.output, h.size, h.block⟩
theorem Fr.below {w w1 : World} {ga gh gc B : Nat} (h : Fr w w1 ga gh gc) (hB : B ≤ w.heap.size) (ha : B ≤ ga) (hh : B ≤ gh) (hc : B ≤ gc) : Below B w w1 :=
 ⟨h.os, h.tape, h.output, h.size, fun g hg => h.block g (by omega) (by omega) (by omega) (by omega)⟩

theorem PM.drewN {w : World} {b ga gh gc N M : Nat} {at' : List (Int × Int)} {has : List Bool} {cnt : List Int} (h : PM w b ga gh gc N M at' has cnt) (n : Nat) : PM (w.drewN n) b ga gh gc N M at' has cnt :=
 ⟨h.blk, h.ats, h.hass, h.cnts, h.la, h.lh, h.lc, h.nM, h.ne⟩
theorem PM.set_cnt {w : World} {b ga gh gc N M : Nat} {at' : List (Int × Int)} {has : List Bool} {cnt : List Int} (h : PM w b ga gh gc N M at' has cnt) (j : Nat) (x : Int) : PM (w.setCell ⟨gc, j, none⟩ (.int .i64 x)) b ga gh gc N M at' has (cnt.set j x) := by
 obtain ⟨n1, n2, n3, n4, n5, n6⟩ := h.ne
 refine ⟨h.blk.setOther (⟨gc, j, none⟩ : Addr) n3 _, h.ats.setOther (⟨gc, j, none⟩ : Addr) n5 _, h.hass.setOther (⟨gc, j, none⟩ : Addr) n6 _, ?_, h.la, h.lh, by rw [List.length_set]; exact h.lc, h.nM, h.ne⟩
 have := h.cnts.set j (.int .i64 x)
 rw [List.map_set]
 simpa using this
theorem PM.set_has {w : World} {b ga gh gc N M : Nat} {at' : List (Int × Int)} {has : List Bool} {cnt : List Int} (h : PM w b ga gh gc N M at' has cnt) (j : Nat) (x : Bool) : PM (w.setCell ⟨gh, j, none⟩ (.bool x)) b ga gh gc N M at' (has.set j x) cnt := by
 obtain ⟨n1, n2, n3, n4, n5, n6⟩ := h.ne
 refine ⟨h.blk.setOther (⟨gh, j, none⟩ : Addr) n2 _, h.ats.setOther (⟨gh, j, none⟩ : Addr) n4 _, ?_, h.cnts.setOther (⟨gh, j, none⟩ : Addr) (Ne.symm n6) _, h.la, by rw [List.length_set]; exact h.lh, h.lc, h.nM, h.ne⟩
 have := h.hass.set j (.bool x)
 rw [List.map_set]
 simpa using this
theorem PM.set_at {w : World} {b ga gh gc N M : Nat} {at' : List (Int × Int)} {has : List Bool} {cnt : List Int} (h : PM w b ga gh gc N M at' has cnt) (j : Nat) (hj : j < N) (x : Int × Int) : PM ((w.setCell ⟨ga, j * 2, none⟩ (.int .i64 x.1)).setCell ⟨ga, j * 2 + 1, none⟩ (.int .i64 x.2)) b ga gh gc N M (at'.set j x) has cnt := by
 obtain ⟨n1, n2, n3, n4, n5, n6⟩ := h.ne
 refine ⟨(h.blk.setOther (⟨ga, j * 2, none⟩ : Addr) n1 _).setOther (⟨ga, j * 2 + 1, none⟩ : Addr) n1 _, ?_, (h.hass.setOther (⟨ga, j * 2, none⟩ : Addr) (Ne.symm n4) _).setOther (⟨ga, j * 2 + 1, none⟩ : Addr) (Ne.symm n4) _, (h.cnts.setOther (⟨ga, j * 2, none⟩ : Addr) (Ne.symm n5) _).setOther (⟨ga, j * 2 + 1, none⟩ : Addr) (Ne.symm n5) _, by rw [List.length_set]; exact h.la, h.lh, h.lc, h.nM, h.ne⟩
 have := (h.ats.set (j * 2) (.int .i64 x.1)).set (j * 2 + 1) (.int .i64 x.2)
 rw [← flatP_set at' j (by rw [h.la]; exact hj)]
 simpa using this

theorem PM.cells_fr {w W : World} {b ga gh gc N M : Nat} {at' : List (Int × Int)} {has : List Bool} {cnt : List Int} (h : PM w b ga gh gc N M at' has cnt) (k : Fr w W ga gh gc) :
  W.cell? ⟨b, 0, none⟩ = some (.slice (some ⟨ga, 0, none⟩) N N) ∧ W.cell? ⟨b, 1, none⟩ = some (.slice (some ⟨gh, 0, none⟩) N N) ∧ W.cell? ⟨b, 2, none⟩ = some (.slice (some ⟨gc, 0, none⟩) M M) := by
 have hb : Blk W b #[.slice (some ⟨ga, 0, none⟩) N N, .slice (some ⟨gh, 0, none⟩) N N, .slice (some ⟨gc, 0, none⟩) M M] 119 := (k.block b h.blk.lt h.ne.1 h.ne.2.1 h.ne.2.2.1).trans h.blk
 exact ⟨hb.cell 0, hb.cell 1, hb.cell 2⟩

def dcnt (at' : List (Int × Int)) (has : List Bool) (cnt : List Int) (k : Nat) : List Int := if has.getD k false = true then cnt.set (at'.getD k (0, 0)).1.toNat (cnt.getD (at'.getD k (0, 0)).1.toNat 0 - 1) else cnt

set_option maxRecDepth 100000 in
set_option maxHeartbeats 4000000 in
theorem drop_in (b ga gh gc N M : Nat) (at' : List (Int × Int)) (has : List Bool) (cnt : List Int) (k : Nat) (w : World) (h : PM w b ga gh gc N M at' has cnt) (hk : k < N)
  (hw : has.getD k false = true → 0 ≤ (at'.getD k (0, 0)).1 ∧ (at'.getD k (0, 0)).1 < M ∧ 1 ≤ cnt.getD (at'.getD k (0, 0)).1.toNat 0 ∧ cnt.getD (at'.getD k (0, 0)).1.toNat 0 ≤ 65536) :
  Calls Try.prog 71 #[.pointer (some ⟨b, 0, none⟩), .int .i64 (k : Int)] w fun e w' => e = .returned (.int .i64 0) ∧ PM w' b ga gh gc N M (at'.set k (0, 0)) (has.set k false) (dcnt at' has cnt k) ∧ Fr w w' ga gh gc := by
 have hN := h.nM.1
 have hM := h.nM.2
 have hkI : (k : Int) < (N : Int) := by omega
 have hk0 : (0 : Int) ≤ (k : Int) := by omega
 obtain ⟨c0, c1, c2⟩ := h.cells
 have hh := h.has_at k hk
 obtain ⟨a0, a1⟩ := h.at_at k hk
 have fa0 := h.ats.free (k * 2)
 have fa1 := h.ats.free (k * 2 + 1)
 have fh := h.hass.free k
 cases hhk : has.getD k false
 ·rw [hhk] at hh
  have hd : dcnt at' has cnt k = cnt := by unfold dcnt; rw [hhk]; exact if_neg (by simp)
  rw [hd]
  have H := hid h
  have HS := hid (fun W (k : Fr w W ga gh gc) => h.cells_fr k)
  obtain ⟨-, -, -, n4, n5, n6⟩ := h.ne
  have n4' := Ne.symm n4
  have n5' := Ne.symm n5
  have n6' := Ne.symm n6
  clear h hd hw hhk
  generalize at'.getD k (0, 0) = p at *
  go_enter Try.func71, Try.ntmps71
  go_upto_region 7 with (fail)
  refine wp_region_held_drew (S := (fun w' => w'.cell? ⟨b, 0, none⟩ = some (.slice (some ⟨ga, 0, none⟩) N N) ∧ w'.cell? ⟨b, 1, none⟩ = some (.slice (some ⟨gh, 0, none⟩) N N) ∧ w'.cell? ⟨b, 2, none⟩ = some (.slice (some ⟨gc, 0, none⟩) M M))) (by kernel_rfl) ?hSnewAz (fun hHeld => ?restAz)
  case hSnewAz => ((try dsimp only); exact HS.out _ ((Fr.refl _ _ _ _).drewN 1))
  refine wpAnyH_take (i := 0) (oi := ?oiAx0) (v := ?vAx0) ?hoAx0 ?h1Ax0 ?h2Ax0 ?h3Ax0 ?hqAx0 (Or.inl ⟨?h4Ax0, ?hyAx0⟩) (by assumption) ?restAx0
  case hoAx0 => (simp only [qa, qb, qc]; rfl)
  case h1Ax0 => kernel_rfl
  case h2Ax0 => kernel_rfl
  case h3Ax0 => kernel_rfl
  case h4Ax0 => rfl
  case hqAx0 => exact fun _ _ _ h => h
  case hyAx0 => (intro w hSw; (try dsimp only at hSw); go_simp <;> with_reducible rfl)
  (try simp only [Act.put, qd, qe, qf])
  refine wpAnyH_take (i := 1) (oi := ?oiAx1) (v := ?vAx1) ?hoAx1 ?h1Ax1 ?h2Ax1 ?h3Ax1 ?hqAx1 (Or.inl ⟨?h4Ax1, ?hyAx1⟩) (by assumption) ?restAx1
  case hoAx1 => (simp only [qa, qb, qc]; rfl)
  case h1Ax1 => kernel_rfl
  case h2Ax1 => kernel_rfl
  case h3Ax1 => kernel_rfl
  case h4Ax1 => rfl
  case hqAx1 => exact fun _ _ _ h => h
  case hyAx1 => (intro w hSw; (try dsimp only at hSw); go_simp <;> with_reducible rfl)
  (try simp only [Act.put, qd, qe, qf])
  refine wpAnyH_take (i := 2) (oi := ?oiAx2) (v := ?vAx2) ?hoAx2 ?h1Ax2 ?h2Ax2 ?h3Ax2 ?hqAx2 (Or.inl ⟨?h4Ax2, ?hyAx2⟩) (by assumption) ?restAx2
  case hoAx2 => (simp only [qa, qb, qc]; rfl)
  case h1Ax2 => kernel_rfl
  case h2Ax2 => kernel_rfl
  case h3Ax2 => kernel_rfl
  case h4Ax2 => rfl
  case hqAx2 => exact fun _ _ _ h => h
  case hyAx2 => (intro w hSw; (try dsimp only at hSw); go_simp <;> with_reducible rfl)
  (try simp only [Act.put, qd, qe, qf])
  refine wpAnyH_take (i := 3) (oi := ?oiAx3) (v := ?vAx3) ?hoAx3 ?h1Ax3 ?h2Ax3 ?h3Ax3 ?hqAx3 (Or.inl ⟨?h4Ax3, ?hyAx3⟩) (by assumption) ?restAx3
  case hoAx3 => (simp only [qa, qb, qc]; rfl)
  case h1Ax3 => kernel_rfl
  case h2Ax3 => kernel_rfl
  case h3Ax3 => kernel_rfl
  case h4Ax3 => rfl
  case hqAx3 => exact fun _ _ _ h => h
  case hyAx3 => (intro w hSw; (try dsimp only at hSw); go_simp <;> with_reducible rfl)
  (try simp only [Act.put, qd, qe, qf])
  refine wpAnyH_take (i := 4) (oi := ?oiAx4) (v := ?vAx4) ?hoAx4 ?h1Ax4 ?h2Ax4 ?h3Ax4 ?hqAx4 (Or.inl ⟨?h4Ax4, ?hyAx4⟩) (by assumption) ?restAx4
  case hoAx4 => (simp only [qa, qb, qc]; rfl)
  case h1Ax4 => kernel_rfl
  case h2Ax4 => kernel_rfl
  case h3Ax4 => kernel_rfl
  case h4Ax4 => rfl
  case hqAx4 => exact fun _ _ _ h => h
  case hyAx4 => (intro w hSw; (try dsimp only at hSw); go_simp <;> with_reducible rfl)
  (try simp only [Act.put, qd, qe, qf])
  refine wpAnyH_take (i := 5) (oi := ?oiAx5) (v := ?vAx5) ?hoAx5 ?h1Ax5 ?h2Ax5 ?h3Ax5 ?hqAx5 (Or.inl ⟨?h4Ax5, ?hyAx5⟩) (by assumption) ?restAx5
  case hoAx5 => (simp only [qa, qb, qc]; rfl)
  case h1Ax5 => kernel_rfl
  case h2Ax5 => kernel_rfl
  case h3Ax5 => kernel_rfl
  case h4Ax5 => rfl
  case hqAx5 => exact fun _ _ _ h => h
  case hyAx5 => (intro w hSw; (try dsimp only at hSw); go_simp <;> with_reducible rfl)
  (try simp only [Act.put, qd, qe, qf])
  refine wpAnyH_take (i := 6) (oi := ?oiAx6) (v := ?vAx6) ?hoAx6 ?h1Ax6 ?h2Ax6 ?h3Ax6 ?hqAx6 (Or.inl ⟨?h4Ax6, ?hyAx6⟩) (by assumption) ?restAx6
  case hoAx6 => (simp only [qa, qb, qc]; rfl)
  case h1Ax6 => kernel_rfl
  case h2Ax6 => kernel_rfl
  case h3Ax6 => kernel_rfl
  case h4Ax6 => rfl
  case hqAx6 => exact fun _ _ _ h => h
  case hyAx6 => (intro w hSw; (try dsimp only at hSw); go_simp <;> with_reducible rfl)
  (try simp only [Act.put, qd, qe, qf])
  refine wpAnyH_take (i := 7) (oi := ?oiAx7) (v := ?vAx7) ?hoAx7 ?h1Ax7 ?h2Ax7 ?h3Ax7 ?hqAx7 (Or.inl ⟨?h4Ax7, ?hyAx7⟩) (by assumption) ?restAx7
  case hoAx7 => (simp only [qa, qb, qc]; rfl)
  case h1Ax7 => kernel_rfl
  case h2Ax7 => kernel_rfl
  case h3Ax7 => kernel_rfl
  case h4Ax7 => rfl
  case hqAx7 => exact fun _ _ _ h => h
  case hyAx7 => (intro w hSw; (try dsimp only at hSw); go_simp <;> with_reducible rfl)
  (try simp only [Act.put, qd, qe, qf])
  refine wpAnyH_take (i := 8) (oi := ?oiAx8) (v := ?vAx8) ?hoAx8 ?h1Ax8 ?h2Ax8 ?h3Ax8 ?hqAx8 (Or.inl ⟨?h4Ax8, ?hyAx8⟩) (by assumption) ?restAx8
  case hoAx8 => (simp only [qa, qb, qc]; rfl)
  case h1Ax8 => kernel_rfl
  case h2Ax8 => kernel_rfl
  case h3Ax8 => kernel_rfl
  case h4Ax8 => rfl
  case hqAx8 => exact fun _ _ _ h => h
  case hyAx8 => (intro w hSw; (try dsimp only at hSw); go_simp <;> with_reducible rfl)
  (try simp only [Act.put, qd, qe, qf])
  refine wpAnyH_take (i := 9) (oi := ?oiAx9) (v := ?vAx9) ?hoAx9 ?h1Ax9 ?h2Ax9 ?h3Ax9 ?hqAx9 (Or.inl ⟨?h4Ax9, ?hyAx9⟩) (by assumption) ?restAx9
  case hoAx9 => (simp only [qa, qb, qc]; rfl)
  case h1Ax9 => kernel_rfl
  case h2Ax9 => kernel_rfl
  case h3Ax9 => kernel_rfl
  case h4Ax9 => rfl
  case hqAx9 => exact fun _ _ _ h => h
  case hyAx9 => (intro w hSw; (try dsimp only at hSw); go_simp <;> with_reducible rfl)
  (try simp only [Act.put, qd, qe, qf])
  refine wpAnyH_take (i := 10) (oi := ?oiAx10) (v := ?vAx10) ?hoAx10 ?h1Ax10 ?h2Ax10 ?h3Ax10 ?hqAx10 (Or.inl ⟨?h4Ax10, ?hyAx10⟩) (by assumption) ?restAx10
  case hoAx10 => (simp only [qa, qb, qc]; rfl)
  case h1Ax10 => kernel_rfl
  case h2Ax10 => kernel_rfl
  case h3Ax10 => kernel_rfl
  case h4Ax10 => rfl
  case hqAx10 => exact fun _ _ _ h => h
  case hyAx10 => (intro w hSw; (try dsimp only at hSw); go_simp <;> with_reducible rfl)
  (try simp only [Act.put, qd, qe, qf])
  refine wpAnyH_take (i := 11) (oi := ?oiAx11) (v := ?vAx11) ?hoAx11 ?h1Ax11 ?h2Ax11 ?h3Ax11 ?hqAx11 (Or.inl ⟨?h4Ax11, ?hyAx11⟩) (by assumption) ?restAx11
  case hoAx11 => (simp only [qa, qb, qc]; rfl)
  case h1Ax11 => kernel_rfl
  case h2Ax11 => kernel_rfl
  case h3Ax11 => kernel_rfl
  case h4Ax11 => rfl
  case hqAx11 => exact fun _ _ _ h => h
  case hyAx11 => (intro w hSw; (try dsimp only at hSw); go_simp <;> with_reducible rfl)
  (try simp only [Act.put, qd, qe, qf])
  refine wpAnyH_ready (rs := [12]) (by kernel_rfl) (by simp) ?_
  refine AllReadyH.cons (o := ?oiAx12) ?hoAx12 (fun K hK => ?restAx12) ?moreAx12
  case moreAx12 => exact AllReadyH.nil
  case hoAx12 => (simp only [qa, qb, qc]; rfl)
  go_simp
  refine hK.out _ _ ?hSnewAy12 (fun hHeld => ?restAy12)
  case hSnewAy12 => ((try dsimp only); exact HS.out _ (((Fr.refl _ _ _ _).drewN 1).set ga _ _ (.inl rfl) |>.set ga _ _ (.inl rfl)))
  clear hK K
  (try simp only [Act.put, qd, qe, qf])
  refine wpAnyH_take (i := 13) (oi := ?oiAx13) (v := ?vAx13) ?hoAx13 ?h1Ax13 ?h2Ax13 ?h3Ax13 ?hqAx13 (Or.inl ⟨?h4Ax13, ?hyAx13⟩) (by assumption) ?restAx13
  case hoAx13 => (simp only [qa, qb, qc]; rfl)
  case h1Ax13 => kernel_rfl
  case h2Ax13 => kernel_rfl
  case h3Ax13 => kernel_rfl
  case h4Ax13 => rfl
  case hqAx13 => exact fun _ _ _ h => h
  case hyAx13 => (intro w hSw; (try dsimp only at hSw); go_simp <;> with_reducible rfl)
  (try simp only [Act.put, qd, qe, qf])
  refine wpAnyH_ready (rs := [14]) (by kernel_rfl) (by simp) ?_
  refine AllReadyH.cons (o := ?oiAx14) ?hoAx14 (fun K hK => ?restAx14) ?moreAx14
  case moreAx14 => exact AllReadyH.nil
  case hoAx14 => (simp only [qa, qb, qc]; rfl)
  go_simp
  refine hK.out _ _ ?hSnewAy14 (fun hHeld => ?restAy14)
  case hSnewAy14 => ((try dsimp only); exact HS.out _ ((((Fr.refl _ _ _ _).drewN 1).set ga _ _ (.inl rfl) |>.set ga _ _ (.inl rfl)).set gh _ _ (.inr (.inl rfl))))
  clear hK K
  (try simp only [Act.put, qd, qe, qf])
  refine wpAnyH_done (by kernel_rfl) ?_ _
  go_wp2
  go_ret
  exact ⟨rfl, (((H.out.drewN 1).set_at k hk (0, 0)).set_has k false), (((Fr.refl _ _ _ _).drewN 1).set ga _ _ (.inl rfl) |>.set ga _ _ (.inl rfl)).set gh _ _ (.inr (.inl rfl))⟩
 ·rw [hhk] at hh
  obtain ⟨w0, w1, w2, w3⟩ := hw hhk
  have hd : dcnt at' has cnt k = cnt.set (at'.getD k (0, 0)).1.toNat (cnt.getD (at'.getD k (0, 0)).1.toNat 0 - 1) := by unfold dcnt; rw [hhk]; exact if_pos rfl
  rw [hd]
  have H := hid h
  have hne := h.ne
  clear hd hw hhk
  obtain ⟨⟨p1, p2⟩, hp⟩ : ∃ p, at'.getD k (0, 0) = p := ⟨_, rfl⟩
  rw [hp] at a0 a1 w0 w1 w2 w3 ⊢
  simp only at a0 a1 w0 w1 w2 w3 ⊢
  obtain ⟨p1, rfl⟩ := Int.eq_ofNat_of_zero_le w0
  have e1 : ((p1 : Int)).toNat = p1 := by omega
  rw [e1] at w2 w3 ⊢
  have hcn := h.cnt_at p1 (by omega)
  have fc := h.cnts.free p1
  clear h e1 hp
  generalize cnt.getD p1 0 = cx at *
  go_enter Try.func71, Try.ntmps71
  go_upto_region 6 with (fail)
  have hwx : IntKind.i64.wrap (cx - 1) = cx - 1 := IntWalk.i64_in _ (by omega)
  go_still_tail 16, (by kernel_rfl)
  change wpList _ _ _ _ _ w.drew
  clear hwx
  go_upto_region 7 with (fail)
  have hP3 := (H.out.set_cnt p1 (cx - 1)).drewN 1
  have hF3 : Fr w (((w.setCell ⟨gc, p1, none⟩ (.int .i64 (cx - 1))).drewN 1)) ga gh gc := ((Fr.refl _ _ _ _).set gc _ _ (.inr (.inr rfl))).drewN 1
  obtain ⟨w4, hw4⟩ : ∃ W, W = ((w.setCell ⟨gc, p1, none⟩ (.int .i64 (cx - 1))).drewN 1) := ⟨_, rfl⟩
  rw [← hw4] at hP3 hF3
  have hgoal : (w.setCell ⟨gc, p1, none⟩ (.int .i64 (cx - 1))).drew = w4 := hw4.symm
  rw [hgoal]
  clear hgoal hw4 c0 c1 c2 hh a0 a1 fa0 fa1 fh hcn fc
  obtain ⟨c0, c1, c2⟩ := hP3.cells
  have hh := hP3.has_at k hk
  obtain ⟨a0, a1⟩ := hP3.at_at k hk
  have fa0 := hP3.ats.free (k * 2)
  have fa1 := hP3.ats.free (k * 2 + 1)
  have fh := hP3.hass.free k
  have HP3 := hid hP3
  have HS := hid (fun W (k : Fr w4 W ga gh gc) => hP3.cells_fr k)
  obtain ⟨-, -, -, n4, n5, n6⟩ := hP3.ne
  have n4' := Ne.symm n4
  have n5' := Ne.symm n5
  have n6' := Ne.symm n6
  clear hP3 hne
  generalize has.getD k false = hb0 at *
  generalize at'.getD k (0, 0) = p0 at *
  refine wp_region_held_drew (S := (fun w' => w'.cell? ⟨b, 0, none⟩ = some (.slice (some ⟨ga, 0, none⟩) N N) ∧ w'.cell? ⟨b, 1, none⟩ = some (.slice (some ⟨gh, 0, none⟩) N N) ∧ w'.cell? ⟨b, 2, none⟩ = some (.slice (some ⟨gc, 0, none⟩) M M))) (by kernel_rfl) ?hSnewBz (fun hHeld => ?restBz)
  case hSnewBz => ((try dsimp only); exact HS.out _ ((Fr.refl _ _ _ _).drewN 1))
  refine wpAnyH_take (i := 0) (oi := ?oiBx0) (v := ?vBx0) ?hoBx0 ?h1Bx0 ?h2Bx0 ?h3Bx0 ?hqBx0 (Or.inl ⟨?h4Bx0, ?hyBx0⟩) (by assumption) ?restBx0
  case hoBx0 => (simp only [qa, qb, qc]; rfl)
  case h1Bx0 => kernel_rfl
  case h2Bx0 => kernel_rfl
  case h3Bx0 => kernel_rfl
  case h4Bx0 => rfl
  case hqBx0 => exact fun _ _ _ h => h
  case hyBx0 => (intro w hSw; (try dsimp only at hSw); go_simp <;> with_reducible rfl)
  (try simp only [Act.put, qd, qe, qf])
  refine wpAnyH_take (i := 1) (oi := ?oiBx1) (v := ?vBx1) ?hoBx1 ?h1Bx1 ?h2Bx1 ?h3Bx1 ?hqBx1 (Or.inl ⟨?h4Bx1, ?hyBx1⟩) (by assumption) ?restBx1
  case hoBx1 => (simp only [qa, qb, qc]; rfl)
  case h1Bx1 => kernel_rfl
  case h2Bx1 => kernel_rfl
  case h3Bx1 => kernel_rfl
  case h4Bx1 => rfl
  case hqBx1 => exact fun _ _ _ h => h
  case hyBx1 => (intro w hSw; (try dsimp only at hSw); go_simp <;> with_reducible rfl)
  (try simp only [Act.put, qd, qe, qf])
  refine wpAnyH_take (i := 2) (oi := ?oiBx2) (v := ?vBx2) ?hoBx2 ?h1Bx2 ?h2Bx2 ?h3Bx2 ?hqBx2 (Or.inl ⟨?h4Bx2, ?hyBx2⟩) (by assumption) ?restBx2
  case hoBx2 => (simp only [qa, qb, qc]; rfl)
  case h1Bx2 => kernel_rfl
  case h2Bx2 => kernel_rfl
  case h3Bx2 => kernel_rfl
  case h4Bx2 => rfl
  case hqBx2 => exact fun _ _ _ h => h
  case hyBx2 => (intro w hSw; (try dsimp only at hSw); go_simp <;> with_reducible rfl)
  (try simp only [Act.put, qd, qe, qf])
  refine wpAnyH_take (i := 3) (oi := ?oiBx3) (v := ?vBx3) ?hoBx3 ?h1Bx3 ?h2Bx3 ?h3Bx3 ?hqBx3 (Or.inl ⟨?h4Bx3, ?hyBx3⟩) (by assumption) ?restBx3
  case hoBx3 => (simp only [qa, qb, qc]; rfl)
  case h1Bx3 => kernel_rfl
  case h2Bx3 => kernel_rfl
  case h3Bx3 => kernel_rfl
  case h4Bx3 => rfl
  case hqBx3 => exact fun _ _ _ h => h
  case hyBx3 => (intro w hSw; (try dsimp only at hSw); go_simp <;> with_reducible rfl)
  (try simp only [Act.put, qd, qe, qf])
  refine wpAnyH_take (i := 4) (oi := ?oiBx4) (v := ?vBx4) ?hoBx4 ?h1Bx4 ?h2Bx4 ?h3Bx4 ?hqBx4 (Or.inl ⟨?h4Bx4, ?hyBx4⟩) (by assumption) ?restBx4
  case hoBx4 => (simp only [qa, qb, qc]; rfl)
  case h1Bx4 => kernel_rfl
  case h2Bx4 => kernel_rfl
  case h3Bx4 => kernel_rfl
  case h4Bx4 => rfl
  case hqBx4 => exact fun _ _ _ h => h
  case hyBx4 => (intro w hSw; (try dsimp only at hSw); go_simp <;> with_reducible rfl)
  (try simp only [Act.put, qd, qe, qf])
  refine wpAnyH_take (i := 5) (oi := ?oiBx5) (v := ?vBx5) ?hoBx5 ?h1Bx5 ?h2Bx5 ?h3Bx5 ?hqBx5 (Or.inl ⟨?h4Bx5, ?hyBx5⟩) (by assumption) ?restBx5
  case hoBx5 => (simp only [qa, qb, qc]; rfl)
  case h1Bx5 => kernel_rfl
  case h2Bx5 => kernel_rfl
  case h3Bx5 => kernel_rfl
  case h4Bx5 => rfl
  case hqBx5 => exact fun _ _ _ h => h
  case hyBx5 => (intro w hSw; (try dsimp only at hSw); go_simp <;> with_reducible rfl)
  (try simp only [Act.put, qd, qe, qf])
  refine wpAnyH_take (i := 6) (oi := ?oiBx6) (v := ?vBx6) ?hoBx6 ?h1Bx6 ?h2Bx6 ?h3Bx6 ?hqBx6 (Or.inl ⟨?h4Bx6, ?hyBx6⟩) (by assumption) ?restBx6
  case hoBx6 => (simp only [qa, qb, qc]; rfl)
  case h1Bx6 => kernel_rfl
  case h2Bx6 => kernel_rfl
  case h3Bx6 => kernel_rfl
  case h4Bx6 => rfl
  case hqBx6 => exact fun _ _ _ h => h
  case hyBx6 => (intro w hSw; (try dsimp only at hSw); go_simp <;> with_reducible rfl)
  (try simp only [Act.put, qd, qe, qf])
  refine wpAnyH_take (i := 7) (oi := ?oiBx7) (v := ?vBx7) ?hoBx7 ?h1Bx7 ?h2Bx7 ?h3Bx7 ?hqBx7 (Or.inl ⟨?h4Bx7, ?hyBx7⟩) (by assumption) ?restBx7
  case hoBx7 => (simp only [qa, qb, qc]; rfl)
  case h1Bx7 => kernel_rfl
  case h2Bx7 => kernel_rfl
  case h3Bx7 => kernel_rfl
  case h4Bx7 => rfl
  case hqBx7 => exact fun _ _ _ h => h
  case hyBx7 => (intro w hSw; (try dsimp only at hSw); go_simp <;> with_reducible rfl)
  (try simp only [Act.put, qd, qe, qf])
  refine wpAnyH_take (i := 8) (oi := ?oiBx8) (v := ?vBx8) ?hoBx8 ?h1Bx8 ?h2Bx8 ?h3Bx8 ?hqBx8 (Or.inl ⟨?h4Bx8, ?hyBx8⟩) (by assumption) ?restBx8
  case hoBx8 => (simp only [qa, qb, qc]; rfl)
  case h1Bx8 => kernel_rfl
  case h2Bx8 => kernel_rfl
  case h3Bx8 => kernel_rfl
  case h4Bx8 => rfl
  case hqBx8 => exact fun _ _ _ h => h
  case hyBx8 => (intro w hSw; (try dsimp only at hSw); go_simp <;> with_reducible rfl)
  (try simp only [Act.put, qd, qe, qf])
  refine wpAnyH_take (i := 9) (oi := ?oiBx9) (v := ?vBx9) ?hoBx9 ?h1Bx9 ?h2Bx9 ?h3Bx9 ?hqBx9 (Or.inl ⟨?h4Bx9, ?hyBx9⟩) (by assumption) ?restBx9
  case hoBx9 => (simp only [qa, qb, qc]; rfl)
  case h1Bx9 => kernel_rfl
  case h2Bx9 => kernel_rfl
  case h3Bx9 => kernel_rfl
  case h4Bx9 => rfl
  case hqBx9 => exact fun _ _ _ h => h
  case hyBx9 => (intro w hSw; (try dsimp only at hSw); go_simp <;> with_reducible rfl)
  (try simp only [Act.put, qd, qe, qf])
  refine wpAnyH_take (i := 10) (oi := ?oiBx10) (v := ?vBx10) ?hoBx10 ?h1Bx10 ?h2Bx10 ?h3Bx10 ?hqBx10 (Or.inl ⟨?h4Bx10, ?hyBx10⟩) (by assumption) ?restBx10
  case hoBx10 => (simp only [qa, qb, qc]; rfl)
  case h1Bx10 => kernel_rfl
  case h2Bx10 => kernel_rfl
  case h3Bx10 => kernel_rfl
  case h4Bx10 => rfl
  case hqBx10 => exact fun _ _ _ h => h
  case hyBx10 => (intro w hSw; (try dsimp only at hSw); go_simp <;> with_reducible rfl)
  (try simp only [Act.put, qd, qe, qf])
  refine wpAnyH_take (i := 11) (oi := ?oiBx11) (v := ?vBx11) ?hoBx11 ?h1Bx11 ?h2Bx11 ?h3Bx11 ?hqBx11 (Or.inl ⟨?h4Bx11, ?hyBx11⟩) (by assumption) ?restBx11
  case hoBx11 => (simp only [qa, qb, qc]; rfl)
  case h1Bx11 => kernel_rfl
  case h2Bx11 => kernel_rfl
  case h3Bx11 => kernel_rfl
  case h4Bx11 => rfl
  case hqBx11 => exact fun _ _ _ h => h
  case hyBx11 => (intro w hSw; (try dsimp only at hSw); go_simp <;> with_reducible rfl)
  (try simp only [Act.put, qd, qe, qf])
  refine wpAnyH_ready (rs := [12]) (by kernel_rfl) (by simp) ?_
  refine AllReadyH.cons (o := ?oiBx12) ?hoBx12 (fun K hK => ?restBx12) ?moreBx12
  case moreBx12 => exact AllReadyH.nil
  case hoBx12 => (simp only [qa, qb, qc]; rfl)
  go_simp
  refine hK.out _ _ ?hSnewBy12 (fun hHeld => ?restBy12)
  case hSnewBy12 => ((try dsimp only); exact HS.out _ (((Fr.refl _ _ _ _).drewN 1).set ga _ _ (.inl rfl) |>.set ga _ _ (.inl rfl)))
  clear hK K
  (try simp only [Act.put, qd, qe, qf])
  refine wpAnyH_take (i := 13) (oi := ?oiBx13) (v := ?vBx13) ?hoBx13 ?h1Bx13 ?h2Bx13 ?h3Bx13 ?hqBx13 (Or.inl ⟨?h4Bx13, ?hyBx13⟩) (by assumption) ?restBx13
  case hoBx13 => (simp only [qa, qb, qc]; rfl)
  case h1Bx13 => kernel_rfl
  case h2Bx13 => kernel_rfl
  case h3Bx13 => kernel_rfl
  case h4Bx13 => rfl
  case hqBx13 => exact fun _ _ _ h => h
  case hyBx13 => (intro w hSw; (try dsimp only at hSw); go_simp <;> with_reducible rfl)
  (try simp only [Act.put, qd, qe, qf])
  refine wpAnyH_ready (rs := [14]) (by kernel_rfl) (by simp) ?_
  refine AllReadyH.cons (o := ?oiBx14) ?hoBx14 (fun K hK => ?restBx14) ?moreBx14
  case moreBx14 => exact AllReadyH.nil
  case hoBx14 => (simp only [qa, qb, qc]; rfl)
  go_simp
  refine hK.out _ _ ?hSnewBy14 (fun hHeld => ?restBy14)
  case hSnewBy14 => ((try dsimp only); exact HS.out _ ((((Fr.refl _ _ _ _).drewN 1).set ga _ _ (.inl rfl) |>.set ga _ _ (.inl rfl)).set gh _ _ (.inr (.inl rfl))))
  clear hK K
  (try simp only [Act.put, qd, qe, qf])
  refine wpAnyH_done (by kernel_rfl) ?_ _
  go_wp2
  go_ret
  exact ⟨rfl, (((HP3.out.drewN 1).set_at k hk (0, 0)).set_has k false), hF3.trans ((((Fr.refl _ _ _ _).drewN 1).set ga _ _ (.inl rfl) |>.set ga _ _ (.inl rfl)).set gh _ _ (.inr (.inl rfl)))⟩

end Go.Proofs.Ytpcbpljdiacbmaa.Pmap

set_option linter.unusedVariables false
set_option linter.unusedSimpArgs false
namespace Go.Proofs.Ytpcbpljdiacbmaa.Pmap
open Go.RowKit Go.Proofs.Ytpcbpljdiacbmaa.Kit

def scnt (at' : List (Int × Int)) (has : List Bool) (cnt : List Int) (k B : Nat) : List Int := (dcnt at' has cnt k).set B ((dcnt at' has cnt k).getD B 0 + 1)

set_option maxRecDepth 100000 in
set_option maxHeartbeats 8000000 in
theorem set_in (b ga gh gc N M : Nat) (at' : List (Int × Int)) (has : List Bool) (cnt : List Int) (k B P : Nat) (w : World) (h : PM w b ga gh gc N M at' has cnt) (hk : k < N) (hB : B < M) (hP : P < 32)
  (hw : has.getD k false = true → 0 ≤ (at'.getD k (0, 0)).1 ∧ (at'.getD k (0, 0)).1 < M ∧ 1 ≤ cnt.getD (at'.getD k (0, 0)).1.toNat 0 ∧ cnt.getD (at'.getD k (0, 0)).1.toNat 0 ≤ 65536)
  (hc : 0 ≤ (dcnt at' has cnt k).getD B 0 ∧ (dcnt at' has cnt k).getD B 0 ≤ 65536) (hga : ga < w.heap.size) (hgh : gh < w.heap.size) (hgc : gc < w.heap.size) :
  Calls Try.prog 60 #[.pointer (some ⟨b, 0, none⟩), .int .i64 (k : Int), .agg #[.int .i64 (B : Int), .int .i64 (P : Int)]] w fun e w' => e = .returned (.int .i64 0) ∧ PM w' b ga gh gc N M (at'.set k ((B : Int), (P : Int))) (has.set k true) (scnt at' has cnt k B) ∧ Fr w w' ga gh gc := by
 have hN := h.nM.1
 have hM := h.nM.2
 have hkI : (k : Int) < (N : Int) := by omega
 have hk0 : (0 : Int) ≤ (k : Int) := by omega
 have hBI : (B : Int) < (M : Int) := by omega
 have hB0 : (0 : Int) ≤ (B : Int) := by omega
 have hPI : (P : Int) < 32 := by omega
 have hP0 : (0 : Int) ≤ (P : Int) := by omega
 have hdr := fun W (hp : PM W b ga gh gc N M at' has cnt) => drop_in b ga gh gc N M at' has cnt k W hp hk hw
 have Hs := hid (show scnt at' has cnt k B = (dcnt at' has cnt k).set B ((dcnt at' has cnt k).getD B 0 + 1) from rfl)
 generalize dcnt at' has cnt k = dc at *
 clear hw
 go_enter Try.func60, Try.ntmps60
 go_upto_region 1 with (fail)
 obtain ⟨bx, hbx⟩ : ∃ g, w.heap.size = g := ⟨_, rfl⟩
 obtain ⟨w2, hw⟩ : ∃ W, W = w.alloc (.cells #[.int .i64 (B : Int), .int .i64 (P : Int)] 87) := ⟨_, rfl⟩
 have hb2 : Blk w2 bx #[.int .i64 (B : Int), .int .i64 (P : Int)] 87 := by rw [hw, ← hbx]; exact Blk.new _ _ _
 have hB2 : Below w.heap.size w w2 := by rw [hw]; exact (Below.refl _ _).alloc (Nat.le_refl _) _
 rw [← hw, hbx]
 clear hw
 have hF2 : Fr w w2 ga gh gc := Fr.of_below hB2
 have h2 := h.later hB2
 have hxa : bx ≠ ga := by omega
 have hxh : bx ≠ gh := by omega
 have hxc : bx ≠ gc := by omega
 clear hbx hB2 hga hgh hgc h
 obtain ⟨c0, c1, c2⟩ := h2.cells
 obtain ⟨⟨d0, d1⟩, -⟩ := hb2.two
 have H2 := hid h2
 have Hb2 := hid hb2
 clear h2 hb2
 go_upto_region 3 with (fail)
 have e1 : decide ((k : Int) < 0) = false := decide_eq_false (by omega)
 have e2 : decide ((N : Int) ≤ (k : Int)) = false := decide_eq_false (by omega)
 have e2n : decide (N ≤ k) = false := decide_eq_false (by omega)
 have e3 : decide ((B : Int) < 0) = false := decide_eq_false (by omega)
 have e4 : decide ((M : Int) ≤ (B : Int)) = false := decide_eq_false (by omega)
 have e4n : decide (M ≤ B) = false := decide_eq_false (by omega)
 have e5 : decide ((P : Int) < 0) = false := decide_eq_false (by omega)
 have e6 : decide ((32 : Int) ≤ (P : Int)) = false := decide_eq_false (by omega)
 have e6n : decide (32 ≤ P) = false := decide_eq_false (by omega)
 go_quiet (fail)
 clear e1 e2 e2n e3 e4 e4n e5 e6 e6n
 go_wp2_with fail
 refine (hdr _ (H2.out.drewN nq)).mono ?_
 rintro e w3 ⟨rfl, h3, hF3⟩
 have hF23 := hF2.trans ((Fr.drewN (Fr.refl w2 ga gh gc) nq).trans hF3)
 have hb3 : Blk w3 bx #[.int .i64 (B : Int), .int .i64 (P : Int)] 87 := (hF3.block bx Hb2.out.lt hxa hxh hxc).trans Hb2.out
 clear hF2 hF3 hdr c0 c1 c2 d0 d1
 obtain ⟨c0, c1, c2⟩ := h3.cells
 obtain ⟨⟨d0, d1⟩, -⟩ := hb3.two
 have hh := h3.has_at k hk
 obtain ⟨a0, a1⟩ := h3.at_at k hk
 have fa0 := h3.ats.free (k * 2)
 have fa1 := h3.ats.free (k * 2 + 1)
 have fh := h3.hass.free k
 have H3 := hid h3
 have Hb3 := hid hb3
 have HS := hid (fun W (q : Fr w3 W ga gh gc) => (⟨h3.cells_fr q, ((show Blk W bx #[.int .i64 (B : Int), .int .i64 (P : Int)] 87 from (q.block bx hb3.lt hxa hxh hxc).trans hb3).two).1⟩ : _ ∧ _))
 obtain ⟨-, -, -, n4, n5, n6⟩ := h3.ne
 have n4' := Ne.symm n4
 have n5' := Ne.symm n5
 have n6' := Ne.symm n6
 clear h3 hb3
 generalize (has.set k false).getD k false = hb0 at *
 generalize (at'.set k (0, 0)).getD k (0, 0) = p0 at *
 go_upto_region 6 with (fail)
 refine wp_region_held_drew (S := (fun w' => (w'.cell? ⟨b, 0, none⟩ = some (.slice (some ⟨ga, 0, none⟩) N N) ∧ w'.cell? ⟨b, 1, none⟩ = some (.slice (some ⟨gh, 0, none⟩) N N) ∧ w'.cell? ⟨b, 2, none⟩ = some (.slice (some ⟨gc, 0, none⟩) M M)) ∧ (w'.cell? ⟨bx, 0, none⟩ = some (.int .i64 (B : Int)) ∧ w'.cell? ⟨bx, 1, none⟩ = some (.int .i64 (P : Int))))) (by kernel_rfl) ?hSnewSz (fun hHeld => ?restSz)
 case hSnewSz => ((try dsimp only); exact HS.out _ ((Fr.refl _ _ _ _).drewN 1))
 refine wpAnyH_take (i := 0) (oi := ?oiSx0) (v := ?vSx0) ?hoSx0 ?h1Sx0 ?h2Sx0 ?h3Sx0 ?hqSx0 (Or.inl ⟨?h4Sx0, ?hySx0⟩) (by assumption) ?restSx0
 case hoSx0 => (simp only [qa, qb, qc]; rfl)
 case h1Sx0 => kernel_rfl
 case h2Sx0 => kernel_rfl
 case h3Sx0 => kernel_rfl
 case h4Sx0 => rfl
 case hqSx0 => exact fun _ _ _ h => h
 case hySx0 => (intro w hSw; (try dsimp only at hSw); go_simp <;> with_reducible rfl)
 (try simp only [Act.put, qd, qe, qf])
 refine wpAnyH_take (i := 1) (oi := ?oiSx1) (v := ?vSx1) ?hoSx1 ?h1Sx1 ?h2Sx1 ?h3Sx1 ?hqSx1 (Or.inl ⟨?h4Sx1, ?hySx1⟩) (by assumption) ?restSx1
 case hoSx1 => (simp only [qa, qb, qc]; rfl)
 case h1Sx1 => kernel_rfl
 case h2Sx1 => kernel_rfl
 case h3Sx1 => kernel_rfl
 case h4Sx1 => rfl
 case hqSx1 => exact fun _ _ _ h => h
 case hySx1 => (intro w hSw; (try dsimp only at hSw); go_simp <;> with_reducible rfl)
 (try simp only [Act.put, qd, qe, qf])
 refine wpAnyH_take (i := 2) (oi := ?oiSx2) (v := ?vSx2) ?hoSx2 ?h1Sx2 ?h2Sx2 ?h3Sx2 ?hqSx2 (Or.inl ⟨?h4Sx2, ?hySx2⟩) (by assumption) ?restSx2
 case hoSx2 => (simp only [qa, qb, qc]; rfl)
 case h1Sx2 => kernel_rfl
 case h2Sx2 => kernel_rfl
 case h3Sx2 => kernel_rfl
 case h4Sx2 => rfl
 case hqSx2 => exact fun _ _ _ h => h
 case hySx2 => (intro w hSw; (try dsimp only at hSw); go_simp <;> with_reducible rfl)
 (try simp only [Act.put, qd, qe, qf])
 refine wpAnyH_take (i := 3) (oi := ?oiSx3) (v := ?vSx3) ?hoSx3 ?h1Sx3 ?h2Sx3 ?h3Sx3 ?hqSx3 (Or.inl ⟨?h4Sx3, ?hySx3⟩) (by assumption) ?restSx3
 case hoSx3 => (simp only [qa, qb, qc]; rfl)
 case h1Sx3 => kernel_rfl
 case h2Sx3 => kernel_rfl
 case h3Sx3 => kernel_rfl
 case h4Sx3 => rfl
 case hqSx3 => exact fun _ _ _ h => h
 case hySx3 => (intro w hSw; (try dsimp only at hSw); go_simp <;> with_reducible rfl)
 (try simp only [Act.put, qd, qe, qf])
 refine wpAnyH_take (i := 4) (oi := ?oiSx4) (v := ?vSx4) ?hoSx4 ?h1Sx4 ?h2Sx4 ?h3Sx4 ?hqSx4 (Or.inl ⟨?h4Sx4, ?hySx4⟩) (by assumption) ?restSx4
 case hoSx4 => (simp only [qa, qb, qc]; rfl)
 case h1Sx4 => kernel_rfl
 case h2Sx4 => kernel_rfl
 case h3Sx4 => kernel_rfl
 case h4Sx4 => rfl
 case hqSx4 => exact fun _ _ _ h => h
 case hySx4 => (intro w hSw; (try dsimp only at hSw); go_simp <;> with_reducible rfl)
 (try simp only [Act.put, qd, qe, qf])
 refine wpAnyH_take (i := 5) (oi := ?oiSx5) (v := ?vSx5) ?hoSx5 ?h1Sx5 ?h2Sx5 ?h3Sx5 ?hqSx5 (Or.inl ⟨?h4Sx5, ?hySx5⟩) (by assumption) ?restSx5
 case hoSx5 => (simp only [qa, qb, qc]; rfl)
 case h1Sx5 => kernel_rfl
 case h2Sx5 => kernel_rfl
 case h3Sx5 => kernel_rfl
 case h4Sx5 => rfl
 case hqSx5 => exact fun _ _ _ h => h
 case hySx5 => (intro w hSw; (try dsimp only at hSw); go_simp <;> with_reducible rfl)
 (try simp only [Act.put, qd, qe, qf])
 refine wpAnyH_take (i := 6) (oi := ?oiSx6) (v := ?vSx6) ?hoSx6 ?h1Sx6 ?h2Sx6 ?h3Sx6 ?hqSx6 (Or.inl ⟨?h4Sx6, ?hySx6⟩) (by assumption) ?restSx6
 case hoSx6 => (simp only [qa, qb, qc]; rfl)
 case h1Sx6 => kernel_rfl
 case h2Sx6 => kernel_rfl
 case h3Sx6 => kernel_rfl
 case h4Sx6 => rfl
 case hqSx6 => exact fun _ _ _ h => h
 case hySx6 => (intro w hSw; (try dsimp only at hSw); go_simp <;> with_reducible rfl)
 (try simp only [Act.put, qd, qe, qf])
 refine wpAnyH_take (i := 7) (oi := ?oiSx7) (v := ?vSx7) ?hoSx7 ?h1Sx7 ?h2Sx7 ?h3Sx7 ?hqSx7 (Or.inl ⟨?h4Sx7, ?hySx7⟩) (by assumption) ?restSx7
 case hoSx7 => (simp only [qa, qb, qc]; rfl)
 case h1Sx7 => kernel_rfl
 case h2Sx7 => kernel_rfl
 case h3Sx7 => kernel_rfl
 case h4Sx7 => rfl
 case hqSx7 => exact fun _ _ _ h => h
 case hySx7 => (intro w hSw; (try dsimp only at hSw); go_simp <;> with_reducible rfl)
 (try simp only [Act.put, qd, qe, qf])
 refine wpAnyH_take (i := 8) (oi := ?oiSx8) (v := ?vSx8) ?hoSx8 ?h1Sx8 ?h2Sx8 ?h3Sx8 ?hqSx8 (Or.inl ⟨?h4Sx8, ?hySx8⟩) (by assumption) ?restSx8
 case hoSx8 => (simp only [qa, qb, qc]; rfl)
 case h1Sx8 => kernel_rfl
 case h2Sx8 => kernel_rfl
 case h3Sx8 => kernel_rfl
 case h4Sx8 => rfl
 case hqSx8 => exact fun _ _ _ h => h
 case hySx8 => (intro w hSw; (try dsimp only at hSw); go_simp <;> with_reducible rfl)
 (try simp only [Act.put, qd, qe, qf])
 refine wpAnyH_take (i := 9) (oi := ?oiSx9) (v := ?vSx9) ?hoSx9 ?h1Sx9 ?h2Sx9 ?h3Sx9 ?hqSx9 (Or.inl ⟨?h4Sx9, ?hySx9⟩) (by assumption) ?restSx9
 case hoSx9 => (simp only [qa, qb, qc]; rfl)
 case h1Sx9 => kernel_rfl
 case h2Sx9 => kernel_rfl
 case h3Sx9 => kernel_rfl
 case h4Sx9 => rfl
 case hqSx9 => exact fun _ _ _ h => h
 case hySx9 => (intro w hSw; (try dsimp only at hSw); go_simp <;> with_reducible rfl)
 (try simp only [Act.put, qd, qe, qf])
 refine wpAnyH_take (i := 10) (oi := ?oiSx10) (v := ?vSx10) ?hoSx10 ?h1Sx10 ?h2Sx10 ?h3Sx10 ?hqSx10 (Or.inl ⟨?h4Sx10, ?hySx10⟩) (by assumption) ?restSx10
 case hoSx10 => (simp only [qa, qb, qc]; rfl)
 case h1Sx10 => kernel_rfl
 case h2Sx10 => kernel_rfl
 case h3Sx10 => kernel_rfl
 case h4Sx10 => rfl
 case hqSx10 => exact fun _ _ _ h => h
 case hySx10 => (intro w hSw; (try dsimp only at hSw); go_simp <;> with_reducible rfl)
 (try simp only [Act.put, qd, qe, qf])
 refine wpAnyH_take (i := 11) (oi := ?oiSx11) (v := ?vSx11) ?hoSx11 ?h1Sx11 ?h2Sx11 ?h3Sx11 ?hqSx11 (Or.inl ⟨?h4Sx11, ?hySx11⟩) (by assumption) ?restSx11
 case hoSx11 => (simp only [qa, qb, qc]; rfl)
 case h1Sx11 => kernel_rfl
 case h2Sx11 => kernel_rfl
 case h3Sx11 => kernel_rfl
 case h4Sx11 => rfl
 case hqSx11 => exact fun _ _ _ h => h
 case hySx11 => (intro w hSw; (try dsimp only at hSw); go_simp <;> with_reducible rfl)
 (try simp only [Act.put, qd, qe, qf])
 refine wpAnyH_ready (rs := [12]) (by kernel_rfl) (by simp) ?_
 refine AllReadyH.cons (o := ?oiSx12) ?hoSx12 (fun K hK => ?restSx12) ?moreSx12
 case moreSx12 => exact AllReadyH.nil
 case hoSx12 => (simp only [qa, qb, qc]; rfl)
 go_simp
 refine hK.out _ _ ?hSnewSy12 (fun hHeld => ?restSy12)
 case hSnewSy12 => ((try dsimp only); exact HS.out _ (((Fr.refl _ _ _ _).drewN 1).set ga _ _ (.inl rfl) |>.set ga _ _ (.inl rfl)))
 clear hK K
 (try simp only [Act.put, qd, qe, qf])
 refine wpAnyH_take (i := 13) (oi := ?oiSx13) (v := ?vSx13) ?hoSx13 ?h1Sx13 ?h2Sx13 ?h3Sx13 ?hqSx13 (Or.inl ⟨?h4Sx13, ?hySx13⟩) (by assumption) ?restSx13
 case hoSx13 => (simp only [qa, qb, qc]; rfl)
 case h1Sx13 => kernel_rfl
 case h2Sx13 => kernel_rfl
 case h3Sx13 => kernel_rfl
 case h4Sx13 => rfl
 case hqSx13 => exact fun _ _ _ h => h
 case hySx13 => (intro w hSw; (try dsimp only at hSw); go_simp <;> with_reducible rfl)
 (try simp only [Act.put, qd, qe, qf])
 refine wpAnyH_ready (rs := [14]) (by kernel_rfl) (by simp) ?_
 refine AllReadyH.cons (o := ?oiSx14) ?hoSx14 (fun K hK => ?restSx14) ?moreSx14
 case moreSx14 => exact AllReadyH.nil
 case hoSx14 => (simp only [qa, qb, qc]; rfl)
 go_simp
 refine hK.out _ _ ?hSnewSy14 (fun hHeld => ?restSy14)
 case hSnewSy14 => ((try dsimp only); exact HS.out _ ((((Fr.refl _ _ _ _).drewN 1).set ga _ _ (.inl rfl) |>.set ga _ _ (.inl rfl)).set gh _ _ (.inr (.inl rfl))))
 clear hK K
 (try simp only [Act.put, qd, qe, qf])
 refine wpAnyH_done (by kernel_rfl) ?_ _
 have h7 := ((H3.out.set_at k hk ((B : Int), (P : Int))).set_has k true).drewN 1
 have hF7 := hF23.trans (((((Fr.refl w3 ga gh gc).set ga (k * 2) (.int .i64 (B : Int)) (.inl rfl)).set ga (k * 2 + 1) (.int .i64 (P : Int)) (.inl rfl)).set gh k (.bool true) (.inr (.inl rfl))).drewN 1)
 have hb7 := (((Hb3.out.setOther (⟨ga, k * 2, none⟩ : Addr) hxa (.int .i64 (B : Int))).setOther (⟨ga, k * 2 + 1, none⟩ : Addr) hxa (.int .i64 (P : Int))).setOther (⟨gh, k, none⟩ : Addr) hxh (.bool true)).drewN 1
 obtain ⟨w7, hw7⟩ : ∃ W, (((w3.setCell ⟨ga, k * 2, none⟩ (.int .i64 (B : Int))).setCell ⟨ga, k * 2 + 1, none⟩ (.int .i64 (P : Int))).setCell ⟨gh, k, none⟩ (.bool true)).drewN 1 = W := ⟨_, rfl⟩
 have hgoal : (((w3.setCell ⟨ga, k * 2, none⟩ (.int .i64 (B : Int))).setCell ⟨ga, k * 2 + 1, none⟩ (.int .i64 (P : Int))).setCell ⟨gh, k, none⟩ (.bool true)).drew = w7 := hw7
 simp only at h7
 rw [hw7] at h7 hF7 hb7
 rw [hgoal]
 clear hgoal
 rw [List.set_set, List.set_set] at h7
 clear hw7 c0 c1 c2 d0 d1 hh a0 a1 fa0 fa1 fh HS hF23 n4 n5 n6 n4' n5' n6'
 obtain ⟨c0, c1, c2⟩ := h7.cells
 obtain ⟨⟨d0, d1⟩, -⟩ := hb7.two
 have hcn := h7.cnt_at B hB
 have fc := h7.cnts.free B
 have H7 := hid h7
 clear h7 hb7
 generalize dc.getD B 0 = cx at *
 obtain ⟨hc0, hc1⟩ := hc
 go_upto_region 7 with (fail)
 have hwx : IntKind.i64.wrap (cx + 1) = cx + 1 := IntWalk.i64_in _ (by omega)
 go_still_tail 10, (by kernel_rfl)
 change wpList _ _ _ _ _ w7.drew
 clear hwx
 go_wp2
 go_ret
 exact ⟨rfl, by rw [Hs.out]; exact (H7.out.set_cnt B (cx + 1)).drewN 1, hF7.trans (((Fr.refl _ _ _ _).set gc _ _ (.inr (.inr rfl))).drewN 1)⟩
end Go.Proofs.Ytpcbpljdiacbmaa.Pmap

set_option linter.unusedVariables false
set_option linter.unusedSimpArgs false
namespace Go.Proofs.Ytpcbpljdiacbmaa.Pmap
open Go.RowKit Go.Proofs.Ytpcbpljdiacbmaa.Kit

theorem made_one (v : Value) (n : Nat) : madeCells #[v] n = (List.replicate n v).toArray := by
 apply Array.ext
 ·simp [size_madeCells]
 ·intro i h1 h2
  simp [madeCells, Nat.mod_one]
theorem flatP_zeros (n : Nat) : flatP (List.replicate n ((0 : Int), (0 : Int))) = List.replicate (n * 2) (.int .i64 0) := by
 induction n with
 | zero => rfl
 | succ n ih =>
  rw [List.replicate_succ, flatP_cons, ih, show (n + 1) * 2 = n * 2 + 1 + 1 by omega, List.replicate_succ, List.replicate_succ]
theorem made_two (n : Nat) : madeCells #[.int .i64 0, .int .i64 0] (n * 2) = (flatP (List.replicate n ((0 : Int), (0 : Int)))).toArray := by
 rw [flatP_zeros]
 apply Array.ext
 ·simp [size_madeCells]
 ·intro i h1 h2
  have : i % 2 = 0 ∨ i % 2 = 1 := by omega
  rcases this with h | h <;> simp [madeCells, h]

theorem al0 (w : World) (a b c d : Obj) : ((((w.alloc a).alloc b).alloc c).alloc d).heap[w.heap.size]? = some a :=
 (heap_alloc_old _ d (by simp; omega)).trans ((heap_alloc_old _ c (by simp; omega)).trans ((heap_alloc_old _ b (by simp)).trans (heap_alloc_new w a)))
theorem al1 (w : World) (a b c d : Obj) : ((((w.alloc a).alloc b).alloc c).alloc d).heap[w.heap.size + 1]? = some b :=
 (heap_alloc_old _ d (by simp)).trans ((heap_alloc_old _ c (by simp)).trans (by have := heap_alloc_new (w.alloc a) b; simpa using this))
theorem al2 (w : World) (a b c d : Obj) : ((((w.alloc a).alloc b).alloc c).alloc d).heap[w.heap.size + 1 + 1]? = some c :=
 (heap_alloc_old _ d (by simp)).trans (by have := heap_alloc_new ((w.alloc a).alloc b) c; simpa using this)
theorem al3 (w : World) (a b c d : Obj) : ((((w.alloc a).alloc b).alloc c).alloc d).heap[w.heap.size + 1 + 1 + 1]? = some d := by
 have := heap_alloc_new (((w.alloc a).alloc b).alloc c) d
 simpa using this

/-- A new map: nothing is anywhere. -/
def NewM (w w' : World) (N M : Nat) (b ga gh gc : Nat) : Prop :=
 PM w' b ga gh gc N M (List.replicate N (0, 0)) (List.replicate N false) (List.replicate M 0) ∧ Below w.heap.size w w' ∧ w.heap.size ≤ ga ∧ w.heap.size ≤ gh ∧ w.heap.size ≤ gc ∧ w.heap.size ≤ b ∧ ga < w'.heap.size ∧ gh < w'.heap.size ∧ gc < w'.heap.size

theorem newM_of {w : World} {N M ga gh gc : Nat} {o1 o2 o3 : Obj} {z0 z1 z2 : Array Value} (hN : N ≤ 65536) (hM : M ≤ 64) (h0 : (flatP (List.replicate N ((0 : Int), (0 : Int)))).toArray = z0) (h1 : ((List.replicate N false).map Value.bool).toArray = z1) (h2 : ((List.replicate M (0 : Int)).map (Value.int .i64)).toArray = z2)
  (ho : o1 = .cells z0 87 ∨ o1 = .cells z1 4 ∨ o1 = .cells z2 3)
  (ha : ((((w.alloc o1).alloc o2).alloc o3).alloc (.cells #[.slice (some ⟨ga, 0, none⟩) N N, .slice (some ⟨gh, 0, none⟩) N N, .slice (some ⟨gc, 0, none⟩) M M] 119)).heap[ga]? = some (.cells z0 87))
  (hh : ((((w.alloc o1).alloc o2).alloc o3).alloc (.cells #[.slice (some ⟨ga, 0, none⟩) N N, .slice (some ⟨gh, 0, none⟩) N N, .slice (some ⟨gc, 0, none⟩) M M] 119)).heap[gh]? = some (.cells z1 4))
  (hc : ((((w.alloc o1).alloc o2).alloc o3).alloc (.cells #[.slice (some ⟨ga, 0, none⟩) N N, .slice (some ⟨gh, 0, none⟩) N N, .slice (some ⟨gc, 0, none⟩) M M] 119)).heap[gc]? = some (.cells z2 3))
  (r : w.heap.size ≤ ga ∧ w.heap.size ≤ gh ∧ w.heap.size ≤ gc ∧ ga ≤ w.heap.size + 2 ∧ gh ≤ w.heap.size + 2 ∧ gc ≤ w.heap.size + 2 ∧ ga ≠ gh ∧ ga ≠ gc ∧ gh ≠ gc) :
  NewM w ((((w.alloc o1).alloc o2).alloc o3).alloc (.cells #[.slice (some ⟨ga, 0, none⟩) N N, .slice (some ⟨gh, 0, none⟩) N N, .slice (some ⟨gc, 0, none⟩) M M] 119)).drew N M (w.heap.size + 1 + 1 + 1) ga gh gc := by
 obtain ⟨r1, r2, r3, r4, r5, r6, r7, r8, r9⟩ := r
 have hs : ((((w.alloc o1).alloc o2).alloc o3).alloc (.cells #[.slice (some ⟨ga, 0, none⟩) N N, .slice (some ⟨gh, 0, none⟩) N N, .slice (some ⟨gc, 0, none⟩) M M] 119)).drew.heap.size = w.heap.size + 4 := by simp
 have hB : Below w.heap.size w ((((w.alloc o1).alloc o2).alloc o3).alloc (.cells #[.slice (some ⟨ga, 0, none⟩) N N, .slice (some ⟨gh, 0, none⟩) N N, .slice (some ⟨gc, 0, none⟩) M M] 119)).drew :=
  (((((Below.refl _ _).alloc (Nat.le_refl _) _).alloc (by simp) _).alloc (by simp; omega) _).alloc (by simp; omega) _).drewB 1
 refine ⟨⟨al3 w o1 o2 o3 _, by rw [h0]; exact ha, by rw [h1]; exact hh, by rw [h2]; exact hc, by simp, by simp, by simp, ⟨hN, hM⟩, ⟨by omega, by omega, by omega, r7, r8, r9⟩⟩, hB, r1, r2, r3, by omega, by rw [hs]; omega, by rw [hs]; omega, by rw [hs]; omega⟩

set_option maxRecDepth 100000 in
set_option maxHeartbeats 8000000 in
theorem new_any (N M : Nat) (w : World) (hN1 : 1 ≤ N) (hN : N ≤ 65536) (hM1 : 1 ≤ M) (hM : M ≤ 64) :
  Calls Try.prog 56 #[.int .i64 (N : Int), .int .i64 (M : Int)] w fun e w' => ∃ b ga gh gc, e = .returned (.tuple #[.pointer (some ⟨b, 0, none⟩), .int .i64 0]) ∧ NewM w w' N M b ga gh gc := by
 obtain ⟨i0, hi0, hz0⟩ : ∃ i : TypeInfo, Try.prog.info? 87 = some i ∧ i.zero = some (.agg #[.int .i64 0, .int .i64 0]) ∧ i.size = 2 ∧ i.bytes = 16 := ⟨_, rfl, rfl, rfl, rfl⟩
 obtain ⟨i1, hi1, hz1⟩ : ∃ i : TypeInfo, Try.prog.info? 4 = some i ∧ i.zero = some (.bool false) ∧ i.size = 1 ∧ i.bytes = 1 := ⟨_, rfl, rfl, rfl, rfl⟩
 obtain ⟨i2, hi2, hz2⟩ : ∃ i : TypeInfo, Try.prog.info? 3 = some i ∧ i.zero = some (.int .i64 0) ∧ i.size = 1 ∧ i.bytes = 8 := ⟨_, rfl, rfl, rfl, rfl⟩
 have m0 : ∀ W : World, (Instr.makeSlice 117 (.int .i64 (N : Int)) (.int .i64 (N : Int))).run Try.prog W = .ok (.slice (some ⟨W.heap.size, 0, none⟩) N N) (W.alloc (.cells (flatP (List.replicate N ((0 : Int), (0 : Int)))).toArray 87)) := fun W => by
  have := run_make (P := Try.prog) W 117 87 i0 _ Try.underlying117 hi0 hz0.1 .i64 .i64 (N : Int) (N : Int) (by omega) (Int.le_refl _) (by rw [hz0.2.2]; omega) (by omega)
  rw [hz0.2.1, Int.toNat_natCast] at this
  rw [← made_two]
  exact this
 have m1 : ∀ W : World, (Instr.makeSlice 37 (.int .i64 (N : Int)) (.int .i64 (N : Int))).run Try.prog W = .ok (.slice (some ⟨W.heap.size, 0, none⟩) N N) (W.alloc (.cells ((List.replicate N false).map Value.bool).toArray 4)) := fun W => by
  have := run_make (P := Try.prog) W 37 4 i1 _ Try.underlying37 hi1 hz1.1 .i64 .i64 (N : Int) (N : Int) (by omega) (Int.le_refl _) (by rw [hz1.2.2]; omega) (by omega)
  rw [hz1.2.1, Int.toNat_natCast, Nat.mul_one] at this
  rw [List.map_replicate, ← made_one]
  exact this
 have m2 : ∀ W : World, (Instr.makeSlice 24 (.int .i64 (M : Int)) (.int .i64 (M : Int))).run Try.prog W = .ok (.slice (some ⟨W.heap.size, 0, none⟩) M M) (W.alloc (.cells ((List.replicate M (0 : Int)).map (Value.int .i64)).toArray 3)) := fun W => by
  have := run_make (P := Try.prog) W 24 3 i2 _ Try.underlying24 hi2 hz2.1 .i64 .i64 (M : Int) (M : Int) (by omega) (Int.le_refl _) (by rw [hz2.2.2]; omega) (by omega)
  rw [hz2.2.1, Int.toNat_natCast, Nat.mul_one] at this
  rw [List.map_replicate, ← made_one]
  exact this
 clear hi0 hz0 hi1 hz1 hi2 hz2
 have hfin : ∀ (A B C : Obj) (b ga gh gc : Nat) (W : World), True := fun _ _ _ _ _ _ _ _ => trivial
 generalize hx0 : (flatP (List.replicate N ((0 : Int), (0 : Int)))).toArray = z0 at m0
 generalize hx1 : ((List.replicate N false).map Value.bool).toArray = z1 at m1
 generalize hx2 : ((List.replicate M (0 : Int)).map (Value.int .i64)).toArray = z2 at m2
 have Hx0 := hid hx0
 have Hx1 := hid hx1
 have Hx2 := hid hx2
 clear hx0 hx1 hx2 hfin
 have h1 : (1 : Int) ≤ (N : Int) := by omega
 have h2 : (N : Int) ≤ 65536 := by omega
 have h3 : (1 : Int) ≤ (M : Int) := by omega
 have h4 : (M : Int) ≤ 64 := by omega
 go_enter Try.func56, Try.ntmps56
 go_upto_region 3 with (fail)
 go_cut [4, 5] (fun p q wx => q = .int .i64 0 ∧ ∃ b ga gh gc, p = .pointer (some ⟨b, 0, none⟩) ∧ NewM w wx N M b ga gh gc)
 case first =>
  go_region_held3 (fun w' => w'.os = w.os) (rfl) (first | (fail))
  all_goals
   go_wp2_with fail
   go_meet
   exact ⟨rfl, _, _, _, _, rfl, newM_of hN hM Hx0.out Hx1.out Hx2.out (by simp) (by first | exact al0 _ _ _ _ _ | exact al1 _ _ _ _ _ | exact al2 _ _ _ _ _) (by first | exact al0 _ _ _ _ _ | exact al1 _ _ _ _ _ | exact al2 _ _ _ _ _) (by first | exact al0 _ _ _ _ _ | exact al1 _ _ _ _ _ | exact al2 _ _ _ _ _) (by omega)⟩
 case rest =>
  obtain ⟨rfl, b, ga, gh, gc, rfl, hn⟩ := hcut
  go_wp2
  go_ret2
  exact ⟨b, ga, gh, gc, rfl, hn⟩
end Go.Proofs.Ytpcbpljdiacbmaa.Pmap

set_option linter.unusedVariables false
set_option linter.unusedSimpArgs false
namespace Go.Proofs.Ytpcbpljdiacbmaa.Pmap
open Go.RowKit Go.Proofs.Ytpcbpljdiacbmaa.Kit

theorem info3 : (Try.prog.info? 3).map (fun i => (i.zero, i.size, i.bytes)) = some (some (.int .i64 0), 1, 8) := by kernel_rfl
def isum : List Int → Int
 | [] => 0
 | x :: l => x + isum l
theorem isum_append (a b : List Int) : isum (a ++ b) = isum a + isum b := by
 induction a with
 | nil => simp [isum]
 | cons x a ih => simp only [List.cons_append, isum, ih]; omega
theorem isum_bound (l : List Int) (h : ∀ x ∈ l, 0 ≤ x ∧ x ≤ 65536) : 0 ≤ isum l ∧ isum l ≤ 65536 * l.length := by
 induction l with
 | nil => exact ⟨Int.le_refl _, Int.le_refl _⟩
 | cons x l ih =>
  have h1 := ih (fun y hy => h y (List.mem_cons_of_mem _ hy))
  have h2 := h x List.mem_cons_self
  simp only [isum, List.length_cons]
  omega
theorem take_snoc (l : List Int) (k : Nat) (h : k < l.length) : l.take (k + 1) = l.take k ++ [l.getD k 0] := by
 rw [List.take_succ_eq_append_getElem h, List.getD_eq_getElem?_getD, List.getElem?_eq_getElem h]
 rfl

set_option maxHeartbeats 2000000 in
theorem len_any (b ga gh gc N M : Nat) (at' : List (Int × Int)) (has : List Bool) (cnt : List Int) (w : World) (h : PM w b ga gh gc N M at' has cnt) (hb : ∀ x ∈ cnt, 0 ≤ x ∧ x ≤ 65536) :
  Calls Try.prog 50 #[.pointer (some ⟨b, 0, none⟩)] w fun e w' => e = .returned (.int .i64 (isum cnt)) ∧ w' = w := by
 have hM := h.nM.2
 have hl := h.lc
 obtain ⟨c0, c1, c2⟩ := h.cells
 have H := hid h
 have Hl := hid hl
 clear h hl
 go_enter Try.func50, Try.ntmps50
 go_wp2
 go_loop [3, 5, 13] (fun v _ i => ∃ k : Nat, k ≤ M ∧ i = .int .i64 (k : Int) ∧ v = .int .i64 (isum (cnt.take k))) (fun _ _ i => M - (intOf i).toNat)
 case atStart => exact ⟨0, by omega, rfl, rfl⟩
 case round =>
  obtain ⟨k, hk, rfl, rfl⟩ := hrel
  by_cases hlt : k < M
  ·have hc := H.out.cnt_at k hlt
   have hbt := isum_bound (cnt.take k) (fun x hx => hb x (List.mem_of_mem_take hx))
   have hlen : (cnt.take k).length ≤ 64 := by rw [List.length_take]; omega
   have Hs := hid (take_snoc cnt k (by rw [Hl.out]; exact hlt))
   have hx : 0 ≤ cnt.getD k 0 ∧ cnt.getD k 0 ≤ 65536 := by
    rw [List.getD_eq_getElem?_getD, List.getElem?_eq_getElem (by rw [Hl.out]; exact hlt)]
    exact hb _ (List.getElem_mem _)
   generalize cnt.getD k 0 = x at *
   generalize hsu : isum (cnt.take k) = s at *
   have Hsu := hid hsu
   obtain ⟨s0, s1⟩ := hbt
   obtain ⟨x0, x1⟩ := hx
   have s2 : s ≤ 4194304 := by
    have : 65536 * ((cnt.take k).length : Int) ≤ 4194304 := by omega
    omega
   clear hsu s1 hlen
   go_wp2
   go_round
   case rel => exact ⟨k + 1, by omega, by go_num, by rw [Hs.out, isum_append, Hsu.out]; simp [isum]⟩
   case measure => simp [intOf]; omega
  ·obtain rfl : k = M := by omega
   have ht : cnt.take k = cnt := List.take_of_length_le (by rw [Hl.out]; exact Nat.le_refl _)
   rw [ht]
   clear ht
   go_wp2
   go_ret
   exact ⟨rfl, rfl⟩

/-- By pages: the array that On fills. -/
def byF (at' : List (Int × Int)) (has : List Bool) (k : Nat) (l : List Int) (a : Nat) : List Int := if has.getD a false = true ∧ (at'.getD a (0, 0)).1 = (k : Int) then l.set (at'.getD a (0, 0)).2.toNat ((a : Int) + 1) else l
def byL (at' : List (Int × Int)) (has : List Bool) (k n : Nat) : List Int := (List.range n).foldl (byF at' has k) (List.replicate 32 0)
theorem byL_succ (at' : List (Int × Int)) (has : List Bool) (k n : Nat) : byL at' has k (n + 1) = byF at' has k (byL at' has k n) n := by
 unfold byL
 rw [List.range_succ, List.foldl_append]
 rfl
theorem byF_len (at' : List (Int × Int)) (has : List Bool) (k : Nat) (l : List Int) (a : Nat) : (byF at' has k l a).length = l.length := by
 unfold byF
 split
 ·rw [List.length_set]
 ·rfl
theorem byL_len (at' : List (Int × Int)) (has : List Bool) (k n : Nat) : (byL at' has k n).length = 32 := by
 induction n with
 | zero => rfl
 | succ n ih => rw [byL_succ, byF_len, ih]
theorem index32 (cs : Array Value) (j : Nat) (y : Int) (hj : j < 32) (h : cs[j]? = some (.int .i64 y)) (W : World) : (Instr.index 121 (.agg cs) (.int .i64 (j : Int))).run Try.prog W = .ok (.int .i64 y) W := by
 have hp : (part 3 cs j).run Try.prog W = .ok (.int .i64 y) W := by
  have ha : (isAgg 3).run Try.prog W = .ok false W := by kernel_rfl
  unfold part
  simp [Sem.run_bind, ha, h]
 have hs : (sizeOf 3).run Try.prog W = .ok 1 W := by kernel_rfl
 have hj' : (j : Int) < 32 := by omega
 simp [Instr.index, run_underlying Try.underlying121, asIntOf, hs, hp, hj', Result.andThen]
 intro h32
 omega
theorem byL_bound (at' : List (Int × Int)) (has : List Bool) (k n : Nat) : ∀ j, 0 ≤ (byL at' has k n).getD j 0 ∧ (byL at' has k n).getD j 0 ≤ n := by
 induction n with
 | zero =>
  intro j
  have : (byL at' has k 0).getD j 0 = 0 := by
   show (List.replicate 32 (0 : Int)).getD j 0 = 0
   rw [List.getD_eq_getElem?_getD, List.getElem?_replicate]
   split <;> rfl
  rw [this]
  omega
 | succ n ih =>
  intro j
  rw [byL_succ]
  unfold byF
  have h := ih j
  split
  ·rw [List.getD_eq_getElem?_getD, List.getElem?_set]
   split
   ·split
    ·simp; omega
    ·simp; omega
   ·rw [← List.getD_eq_getElem?_getD]; omega
  ·omega
def outs (l : List Int) : List Int := (l.filter (fun x => decide (0 < x))).map (fun x => x - 1)

theorem outs_snoc (l : List Int) (y : Int) : outs (l ++ [y]) = outs l ++ (if 0 < y then [y - 1] else []) := by
 unfold outs
 rw [List.filter_append, List.map_append]
 by_cases h : 0 < y
 ·rw [if_pos h]; simp [h]
 ·rw [if_neg h]; simp [h]

set_option maxRecDepth 100000 in
set_option maxHeartbeats 4000000 in
theorem on_any (b ga gh gc N M : Nat) (at' : List (Int × Int)) (has : List Bool) (cnt : List Int) (k : Nat) (w : World) (h : PM w b ga gh gc N M at' has cnt) (hk : k < M) (hc : cnt.getD k 0 ≠ 0)
  (hpg : ∀ a, a < N → has.getD a false = true → 0 ≤ (at'.getD a (0, 0)).2 ∧ (at'.getD a (0, 0)).2 < 32) :
  Calls Try.prog 44 #[.pointer (some ⟨b, 0, none⟩), .int .i64 (k : Int)] w fun e w' => ∃ v, e = .returned v ∧ w'.ownsRow w.heap.size 3 1 v (outs (byL at' has k N)).length ((outs (byL at' has k N)).map (Value.int .i64)) ∧ Below w.heap.size w w' := by
 have hN := h.nM.1
 have hM := h.nM.2
 obtain ⟨c0, c1, c2⟩ := h.cells
 have hcn := h.cnt_at k hk
 have H := hid h
 have e0 : (cnt.getD k 0 == 0) = false := by rw [beq_eq_false_iff_ne]; exact hc
 have Hc := hid hc
 clear h hc
 generalize cnt.getD k 0 = cx at *
 have hkM : (k : Int) < (M : Int) := by omega
 have hkM' : (k : Int) < 64 := by omega
 go_enter Try.func44, Try.ntmps44
 go_upto_region 4 with (refine wpList_store_row (by rfl) 121 _ _ (by rfl) w.heap.size (List.replicate 32 (Value.int .i64 0)).toArray (by rfl) (by rfl) 121 (List.replicate 32 (Value.int .i64 0)).toArray (heap_alloc_new w _) (by kernel_rfl) rfl (by kernel_rfl) ?_)
 generalize hw : World.setRow _ w.heap.size _ = w3
 have hb3 : Blk w3 w.heap.size ((byL at' has k 0).map (Value.int .i64)).toArray 121 := by
  rw [← hw]
  exact (congrArg (fun W : World => W.heap[w.heap.size]?) (World.setRow_alloc_new w (List.replicate 32 (Value.int .i64 0)).toArray (List.replicate 32 (Value.int .i64 0)).toArray 121)).trans (Blk.new w _ _)
 have hB3 : Below w.heap.size w w3 := by
  rw [← hw]
  show Below w.heap.size w ((w.alloc (.cells (List.replicate 32 (Value.int .i64 0)).toArray 121)).setRow w.heap.size (List.replicate 32 (Value.int .i64 0)).toArray)
  rw [World.setRow_alloc_new]
  exact (Below.refl _ _).alloc (Nat.le_refl _) _
 clear hw c0 c1 c2 hcn e0
 obtain ⟨bb, hbb⟩ : ∃ g, w.heap.size = g := ⟨_, rfl⟩
 have hPM := H.out.later hB3
 rw [hbb] at hb3 hB3 ⊢
 obtain ⟨c0, c1, c2⟩ := hPM.cells
 have Hla := hid H.out.la
 have hbn : b < bb := by rw [← hbb]; exact H.out.blk.lt
 clear hPM
 go_wp2
 go_loopw [42] (fun i w' => ∃ n : Nat, n ≤ N ∧ i = .int .i64 (n : Int) ∧ Blk w' bb ((byL at' has k n).map (Value.int .i64)).toArray 121 ∧ Below bb w w') (fun i _ => N - (intOf i).toNat)
 case atStart => exact ⟨0, by omega, rfl, hb3, hB3⟩
 case round =>
  rename_i wr
  clear hb3 hB3 c0 c1 c2
  obtain ⟨n, hn, rfl, hbr, hBr⟩ := hrel
  have hPr := H.out.later (by rw [hbb]; exact hBr)
  obtain ⟨c0, c1, c2⟩ := hPr.cells
  by_cases hlt : n < N
  ·obtain ⟨a0, a1⟩ := hPr.at_at n hlt
   have hh := hPr.has_at n hlt
   have hpn := hpg n hlt
   have Hs := hid (byL_succ at' has k n)
   have hbF : byF at' has k (byL at' has k n) n = if has.getD n false = true ∧ (at'.getD n (0, 0)).1 = (k : Int) then (byL at' has k n).set (at'.getD n (0, 0)).2.toNat ((n : Int) + 1) else byL at' has k n := rfl
   have HbF := hid hbF
   have hbl := byL_len at' has k n
   have hbs := hBr.size
   have Hbr := hid hbr
   have HBr := hid hBr
   clear hbF hbr hBr
   generalize byL at' has k n = L at *
   obtain ⟨⟨p1, p2⟩, hp⟩ : ∃ p, at'.getD n (0, 0) = p := ⟨_, rfl⟩
   rw [hp] at a0 a1 hpn HbF
   simp only at a0 a1 hpn HbF
   have hnI : (n : Int) < (N : Int) := by omega
   have hn0 : (0 : Int) ≤ (n : Int) := by omega
   clear hp
   go_upto_region 7 with (fail)
   obtain ⟨bx, hbx⟩ : ∃ g, wr.heap.size = g := ⟨_, rfl⟩
   rw [hbx]
   obtain ⟨w5, hw5⟩ : ∃ W, W = wr.alloc (.cells #[.int .i64 p1, .int .i64 p2] 87) := ⟨_, rfl⟩
   have hx5 : Blk w5 bx #[.int .i64 p1, .int .i64 p2] 87 := by rw [hw5, ← hbx]; exact Blk.new _ _ _
   have hA5 : Below wr.heap.size wr w5 := by rw [hw5]; exact (Below.refl _ _).alloc (Nat.le_refl _) _
   rw [← hw5]
   have hP5 := hPr.later hA5
   have hb5 := Hbr.out.later hA5
   have hB5 : Below bb w w5 := HBr.out.trans (hA5.mono (by have := Hbr.out.lt; omega))
   have hbbx : bb < bx := by rw [← hbx]; exact Hbr.out.lt
   clear hw5 hbx hA5 hPr c0 c1 c2 a0 a1 hh
   obtain ⟨c0, c1, c2⟩ := hP5.cells
   have hh := hP5.has_at n hlt
   obtain ⟨⟨d0, d1⟩, -⟩ := hx5.two
   have Hb5 := hid hb5
   have HB5 := hid hB5
   clear hP5 hx5 hb5 hB5
   cases hhn : has.getD n false
   ·rw [hhn] at hh HbF
    have hF : byL at' has k (n + 1) = L := by rw [Hs.out, HbF.out]; exact if_neg (by simp)
    have HF := hid hF
    clear hF hpn hhn
    go_wp2
    go_roundw
    case rel => exact ⟨n + 1, by omega, by go_num, by rw [HF.out]; exact Hb5.out, HB5.out⟩
    case measure => simp [intOf]; omega
   ·rw [hhn] at hh HbF
    obtain ⟨p20, p21⟩ := hpn hhn
    by_cases hpk : p1 = (k : Int)
    ·obtain ⟨q, rfl⟩ := Int.eq_ofNat_of_zero_le p20
     have hq : q < 32 := by omega
     have hF : byL at' has k (n + 1) = L.set q ((n : Int) + 1) := by rw [Hs.out, HbF.out]; exact if_pos ⟨rfl, hpk⟩
     have HF := hid hF
     have e1 : (p1 == (k : Int)) = true := by simp [hpk]
     have Hpk := hid hpk
     have hcb : w5.cell? ⟨bb, q, none⟩ = some (.int .i64 (L.getD q 0)) := by
      rw [Hb5.out.cell]
      simp [List.getD_eq_getElem?_getD, List.getElem?_eq_getElem (show q < L.length by omega)]
     have fcb := Hb5.out.free q
     have hb6 := Hb5.out.set q (.int .i64 ((n : Int) + 1))
     have hb6' : Blk (w5.setCell ⟨bb, q, none⟩ (.int .i64 ((n : Int) + 1))) bb ((L.set q ((n : Int) + 1)).map (Value.int .i64)).toArray 121 := by
      rw [List.map_set]
      simpa using hb6
     have Hb6 := hid hb6'
     generalize L.getD q 0 = y at *
     clear hF hpk hhn hb6 hb6' hpn
     go_wp2
     go_roundw
     case rel => exact ⟨n + 1, by omega, by go_num, by rw [HF.out]; exact Hb6.out, HB5.out.setCell (p := (⟨bb, q, none⟩ : Addr)) (Nat.le_refl _) _⟩
     case measure => simp [intOf]; omega
    ·have hF : byL at' has k (n + 1) = L := by rw [Hs.out, HbF.out]; exact if_neg (fun h => hpk h.2)
     have HF := hid hF
     have e1 : (p1 == (k : Int)) = false := by rw [beq_eq_false_iff_ne]; exact hpk
     have Hpk := hid hpk
     clear hF hpk hhn hpn
     go_wp2
     go_roundw
     case rel => exact ⟨n + 1, by omega, by go_num, by rw [HF.out]; exact Hb5.out, HB5.out⟩
     case measure => simp [intOf]; omega
  ·obtain rfl : n = N := by omega
   have hbl := byL_len at' has k n
   have hLB : ∀ j, j < 32 → (byL at' has k n).getD j 0 ≤ 65536 := fun j _ => by have := byL_bound at' has k n j; omega
   generalize hbL : byL at' has k n = L at *
   have HbL := hid hbL
   clear hbL
   obtain ⟨cs, hcs⟩ : ∃ cs, (L.map (Value.int .i64)).toArray = cs := ⟨_, rfl⟩
   have hsz : cs.size = 32 := by rw [← hcs]; simp [hbl]
   have hget : ∀ j, j < 32 → cs[j]? = some (.int .i64 (L.getD j 0)) := fun j hj => by
    rw [← hcs]
    simp [List.getD_eq_getElem?_getD, List.getElem?_eq_getElem (show j < L.length by omega)]
   rw [hcs] at hbr
   have Hget := hid hget
   have Hbl := hid hbl
   have Hsz := hid hsz
   have Hbr := hid hbr
   have HBr := hid hBr
   have HLB := hid hLB
   clear hcs hget hsz hbl hbr hBr hPr c0 c1 c2 hLB
   go_wp2_with (refine wpList_load_row (by rfl) 121 _ (by rfl) bb (by rfl) 121 cs (0, 0) _ Hbr.out Try.underlying121 rfl (by rw [Hsz.out]; kernel_rfl) ?_)
   go_loopw [8, 67] (fun v i w' => ∃ j : Nat, j ≤ 32 ∧ i = .int .i64 (j : Int) ∧ w'.ownsRow bb 3 1 v (outs (L.take j)).length ((outs (L.take j)).map (Value.int .i64)) ∧ Below bb w w' ∧ bb ≤ w'.heap.size) (fun _ i _ => 32 - (intOf i).toNat)
   case atStart => exact ⟨0, by omega, rfl, World.ownsRow_nil _ _ _ _, HBr.out, Nat.le_of_lt Hbr.out.lt⟩
   case round =>
    obtain ⟨j, hj, rfl, hw, hBj, hsj⟩ := hrel
    by_cases hlt : j < 32
    ·have hix := fun W => index32 cs j (L.getD j 0) hlt (Hget.out j hlt) W
     have Ht := hid (take_snoc L j (by rw [Hbl.out]; exact hlt))
     have Ho := hid (outs_snoc (L.take j) (L.getD j 0))
     have hol : (outs (L.take j)).length ≤ 32 := by
      unfold outs
      rw [List.length_map]
      exact Nat.le_trans (List.length_filter_le _ _) (by rw [List.length_take]; omega)
     have hj0 : (j : Int) < 32 := by omega
     have hj1 : (0 : Int) ≤ (j : Int) := by omega
     have hyb := HLB.out j hlt
     generalize L.getD j 0 = y at *
     by_cases hy : 0 < y
     ·rw [if_pos hy] at Ho
      have hBj' := hBj
      go_wp2_with (at_builtin; refine append_one bb rfl _ _ 24 3 (.int .i64 0) 8 rfl Try.underlying24 info3 rfl _ _ _ (.int .i64 (y - 1)) (by rfl) (by rfl) rfl hw hsj (by omega) (by omega) ?_; intro v1 w2 hown2 hgr hat)
      have hw2 : w2.ownsRow bb 3 1 v1 (outs (L.take (j + 1))).length ((outs (L.take (j + 1))).map (Value.int .i64)) := by
       rw [Ht.out, Ho.out, List.length_append, List.map_append]
       exact hown2
      have hB2 := hBj.grown hgr hsj (fun k hk => (World.ownsRow.lt hw k hk).1)
      have hs2 := Nat.le_trans hsj hgr.size
      clear hown2 hgr hat hw hBj hBj' hsj
      go_wp2
      go_roundw
      case rel => exact ⟨j + 1, by omega, by go_num, hw2, hB2, hs2⟩
      case measure => simp [intOf]; omega
     ·rw [if_neg hy, List.append_nil] at Ho
      go_wp2
      go_roundw
      case rel => exact ⟨j + 1, by omega, by go_num, by rw [Ht.out, Ho.out]; exact hw, hBj, hsj⟩
      case measure => simp [intOf]; omega
    ·obtain rfl : j = 32 := by omega
     have ht : L.take 32 = L := List.take_of_length_le (by rw [Hbl.out]; exact Nat.le_refl _)
     rw [ht] at hw
     go_wp2
     go_ret
     exact ⟨_, rfl, by rw [HbL.out, hbb]; exact hw, by rw [hbb]; exact hBj⟩
end Go.Proofs.Ytpcbpljdiacbmaa.Pmap

set_option linter.unusedVariables false
set_option linter.unusedSimpArgs false
namespace Go.Proofs.Ytpcbpljdiacbmaa.Pmap
open Go.RowKit Go.Proofs.Ytpcbpljdiacbmaa.Kit

/-! Two predicates that differ at one number alone. -/
def cnum (p : Nat → Bool) (n : Nat) : Nat := (List.range n).countP p
theorem cnum_succ (p : Nat → Bool) (n : Nat) : cnum p (n + 1) = cnum p n + (if p n = true then 1 else 0) := by
 unfold cnum
 rw [List.range_succ, List.countP_append]
 simp [List.countP_cons, List.countP_nil]
theorem cnum_le (p : Nat → Bool) (n : Nat) : cnum p n ≤ n := by
 unfold cnum
 exact Nat.le_trans List.countP_le_length (by rw [List.length_range]; exact Nat.le_refl _)
theorem cnum_congr (p q : Nat → Bool) (n : Nat) (h : ∀ a, a < n → p a = q a) : cnum p n = cnum q n := by
 induction n with
 | zero => rfl
 | succ n ih => rw [cnum_succ, cnum_succ, ih (fun a ha => h a (by omega)), h n (by omega)]
theorem cnum_upd (p q : Nat → Bool) (n k : Nat) (hk : k < n) (h : ∀ a, a ≠ k → p a = q a) : cnum q n + (if p k = true then 1 else 0) = cnum p n + (if q k = true then 1 else 0) := by
 induction n with
 | zero => cases hk
 | succ n ih =>
  rw [cnum_succ, cnum_succ]
  by_cases e : k = n
  ·subst e
   rw [cnum_congr p q k (fun a ha => h a (by omega))]
   omega
  ·have := ih (by omega)
   rw [h n (by omega)]
   omega
theorem cnum_pos (p : Nat → Bool) (n k : Nat) (hk : k < n) (h : p k = true) : 1 ≤ cnum p n := by
 induction n with
 | zero => cases hk
 | succ n ih =>
  rw [cnum_succ]
  by_cases e : k = n
  ·subst e; rw [if_pos h]; omega
  ·have := ih (by omega); omega
theorem isum_set (l : List Int) (i : Nat) (v : Int) (h : i < l.length) : isum (l.set i v) = isum l - l.getD i 0 + v := by
 induction l generalizing i with
 | nil => cases h
 | cons x l ih =>
  cases i with
  | zero => simp [isum, List.getD]; omega
  | succ i =>
   have := ih i (by simpa using h)
   simp only [List.set_cons_succ, isum, this]
   rw [show (x :: l).getD (i + 1) 0 = l.getD i 0 from rfl]
   omega
theorem getD_set_any {α : Type} (l : List α) (k j : Nat) (d v : α) (hk : k < l.length) : (l.set k v).getD j d = if j = k then v else l.getD j d := by
 rw [List.getD_eq_getElem?_getD, List.getElem?_set, List.getD_eq_getElem?_getD]
 by_cases e : k = j
 ·subst e
  rw [if_pos rfl, if_pos rfl, if_pos hk]
  rfl
 ·rw [if_neg e, if_neg (fun x => e x.symm)]

/-! The map as it is. -/
def onP (at' : List (Int × Int)) (has : List Bool) (k : Nat) (a : Nat) : Bool := has.getD a false && decide ((at'.getD a (0, 0)).1 = (k : Int))
structure PI (N M : Nat) (at' : List (Int × Int)) (has : List Bool) (cnt : List Int) : Prop where
 la : at'.length = N
 lh : has.length = N
 lc : cnt.length = M
 here : ∀ a, has.getD a false = true → (0 ≤ (at'.getD a (0, 0)).1 ∧ (at'.getD a (0, 0)).1 < M) ∧ 0 ≤ (at'.getD a (0, 0)).2 ∧ (at'.getD a (0, 0)).2 < 32
 gone : ∀ a, has.getD a false = false → at'.getD a (0, 0) = (0, 0)
 inj : ∀ a c, has.getD a false = true → has.getD c false = true → at'.getD a (0, 0) = at'.getD c (0, 0) → a = c
 on : ∀ k, k < M → cnt.getD k 0 = (cnum (onP at' has k) N : Int)
 all : isum cnt = (cnum (fun a => has.getD a false) N : Int)
theorem has_lt {has : List Bool} {a : Nat} (h : has.getD a false = true) : a < has.length := by
 by_cases e : a < has.length
 ·exact e
 ·rw [List.getD_eq_getElem?_getD, List.getElem?_eq_none (by omega)] at h
  cases h
theorem PI.start (N M : Nat) : PI N M (List.replicate N (0, 0)) (List.replicate N false) (List.replicate M 0) := by
 have hf : ∀ a, (List.replicate N false).getD a false = false := fun a => by
  rw [List.getD_eq_getElem?_getD, List.getElem?_replicate]; split <;> rfl
 have hz : ∀ n p, (∀ a, p a = false) → cnum p n = 0 := fun n p hp => by
  induction n with
  | zero => rfl
  | succ n ih => rw [cnum_succ, ih, hp n]; rfl
 refine ⟨by simp, by simp, by simp, fun a h => ?_, fun a _ => ?_, fun a c h => ?_, fun k hk => ?_, ?_⟩
 ·rw [hf a] at h; cases h
 ·rw [List.getD_eq_getElem?_getD, List.getElem?_replicate]; split <;> rfl
 ·rw [hf a] at h; cases h
 ·rw [hz N _ (fun a => by unfold onP; rw [hf a]; rfl), List.getD_eq_getElem?_getD, List.getElem?_replicate]
  split <;> rfl
 ·rw [hz N _ (fun a => hf a)]
  induction M with
  | zero => rfl
  | succ m ih => rw [List.replicate_succ]; simp only [isum]; omega
theorem PI.drop {N M : Nat} {at' : List (Int × Int)} {has : List Bool} {cnt : List Int} (h : PI N M at' has cnt) (k : Nat) (hk : k < N) :
  PI N M (at'.set k (0, 0)) (has.set k false) (dcnt at' has cnt k) := by
 have hA : ∀ a, (at'.set k ((0 : Int), (0 : Int))).getD a (0, 0) = if a = k then (0, 0) else at'.getD a (0, 0) := fun a => getD_set_any _ _ _ _ _ (by rw [h.la]; exact hk)
 have hH : ∀ a, (has.set k false).getD a false = if a = k then false else has.getD a false := fun a => getD_set_any _ _ _ _ _ (by rw [h.lh]; exact hk)
 have hne : ∀ a, (has.set k false).getD a false = true → a ≠ k ∧ has.getD a false = true := fun a ha => by
  rw [hH] at ha
  by_cases e : a = k
  ·rw [if_pos e] at ha; cases ha
  ·rw [if_neg e] at ha; exact ⟨e, ha⟩
 have hup : ∀ j, cnum (onP (at'.set k (0, 0)) (has.set k false) j) N + (if onP at' has j k = true then 1 else 0) = cnum (onP at' has j) N := fun j => by
  have := cnum_upd (onP at' has j) (onP (at'.set k (0, 0)) (has.set k false) j) N k hk (fun a ha => by unfold onP; rw [hA, hH, if_neg ha, if_neg ha])
  rw [this]
  have : onP (at'.set k (0, 0)) (has.set k false) j k = false := by unfold onP; rw [hH, if_pos rfl]; rfl
  rw [this]
  rfl
 have hal : cnum (fun a => (has.set k false).getD a false) N + (if has.getD k false = true then 1 else 0) = cnum (fun a => has.getD a false) N := by
  have := cnum_upd (fun a => has.getD a false) (fun a => (has.set k false).getD a false) N k hk (fun a ha => by rw [hH, if_neg ha])
  rw [this, hH, if_pos rfl]
  rfl
 refine ⟨by rw [List.length_set]; exact h.la, by rw [List.length_set]; exact h.lh, ?_, fun a ha => ?_, fun a ha => ?_, fun a c ha hc => ?_, fun j hj => ?_, ?_⟩
 ·unfold dcnt; split
  ·rw [List.length_set]; exact h.lc
  ·exact h.lc
 ·obtain ⟨e, ha⟩ := hne a ha
  rw [hA, if_neg e]
  exact h.here a ha
 ·rw [hA]
  by_cases e : a = k
  ·rw [if_pos e]
  ·rw [if_neg e]
   rw [hH, if_neg e] at ha
   exact h.gone a ha
 ·obtain ⟨e, ha⟩ := hne a ha
  obtain ⟨e2, hc⟩ := hne c hc
  rw [hA, hA, if_neg e, if_neg e2]
  exact h.inj a c ha hc
 ·have hu := hup j
  have ho := h.on j hj
  unfold dcnt
  by_cases hh : has.getD k false = true
  ·rw [if_pos hh]
   have hb := (h.here k hh).1
   rw [getD_set_any _ _ _ _ _ (by rw [h.lc]; omega)]
   by_cases e : j = (at'.getD k (0, 0)).1.toNat
   ·rw [if_pos e, ← e, ho]
    rw [if_pos (by unfold onP; rw [hh, Bool.true_and]; exact decide_eq_true (by omega))] at hu
    omega
   ·rw [if_neg e, ho]
    rw [if_neg (by unfold onP; rw [hh, Bool.true_and, decide_eq_false (by omega)]; simp)] at hu
    omega
  ·rw [if_neg hh, ho]
   rw [if_neg (by unfold onP; rw [Bool.eq_false_iff.2 hh]; simp)] at hu
   omega
 ·have ha := h.all
  unfold dcnt
  by_cases hh : has.getD k false = true
  ·rw [if_pos hh] at hal ⊢
   have hb := (h.here k hh).1
   rw [isum_set _ _ _ (by rw [h.lc]; omega)]
   omega
  ·rw [if_neg hh] at hal ⊢
   omega
theorem PI.set {N M : Nat} {at' : List (Int × Int)} {has : List Bool} {cnt : List Int} (h : PI N M at' has cnt) (k B P : Nat) (hk : k < N) (hB : B < M) (hP : P < 32)
  (hno : ∀ a, a ≠ k → has.getD a false = true → at'.getD a (0, 0) ≠ ((B : Int), (P : Int))) :
  PI N M (at'.set k ((B : Int), (P : Int))) (has.set k true) (scnt at' has cnt k B) := by
 have hd := h.drop k hk
 have hA : ∀ a, (at'.set k ((B : Int), (P : Int))).getD a (0, 0) = if a = k then ((B : Int), (P : Int)) else at'.getD a (0, 0) := fun a => getD_set_any _ _ _ _ _ (by rw [h.la]; exact hk)
 have hH : ∀ a, (has.set k true).getD a false = if a = k then true else has.getD a false := fun a => getD_set_any _ _ _ _ _ (by rw [h.lh]; exact hk)
 have hA0 : ∀ a, (at'.set k ((0 : Int), (0 : Int))).getD a (0, 0) = if a = k then (0, 0) else at'.getD a (0, 0) := fun a => getD_set_any _ _ _ _ _ (by rw [h.la]; exact hk)
 have hH0 : ∀ a, (has.set k false).getD a false = if a = k then false else has.getD a false := fun a => getD_set_any _ _ _ _ _ (by rw [h.lh]; exact hk)
 have hup : ∀ j, cnum (onP (at'.set k ((B : Int), (P : Int))) (has.set k true) j) N = cnum (onP (at'.set k (0, 0)) (has.set k false) j) N + (if j = B then 1 else 0) := fun j => by
  have := cnum_upd (onP (at'.set k (0, 0)) (has.set k false) j) (onP (at'.set k ((B : Int), (P : Int))) (has.set k true) j) N k hk (fun a ha => by unfold onP; rw [hA, hH, hA0, hH0, if_neg ha, if_neg ha, if_neg ha, if_neg ha])
  rw [if_neg (show ¬ (onP (at'.set k (0, 0)) (has.set k false) j k = true) by unfold onP; rw [hH0, if_pos rfl]; simp)] at this
  have e : onP (at'.set k ((B : Int), (P : Int))) (has.set k true) j k = decide (j = B) := by
   unfold onP
   rw [hH, hA, if_pos rfl, if_pos rfl, Bool.true_and]
   by_cases e : j = B
   ·rw [decide_eq_true e, decide_eq_true (by omega)]
   ·rw [decide_eq_false e, decide_eq_false (by omega)]
  rw [e] at this
  by_cases e : j = B
  ·rw [if_pos e]; rw [if_pos (decide_eq_true e)] at this; omega
  ·rw [if_neg e]; rw [if_neg (by rw [decide_eq_false e]; simp)] at this; omega
 have hal : cnum (fun a => (has.set k true).getD a false) N = cnum (fun a => (has.set k false).getD a false) N + 1 := by
  have := cnum_upd (fun a => (has.set k false).getD a false) (fun a => (has.set k true).getD a false) N k hk (fun a ha => by rw [hH, hH0, if_neg ha, if_neg ha])
  rw [hH0, hH, if_pos rfl, if_pos rfl] at this
  simpa using this
 have hlc := hd.lc
 refine ⟨by rw [List.length_set]; exact h.la, by rw [List.length_set]; exact h.lh, by unfold scnt; rw [List.length_set]; exact hlc, fun a ha => ?_, fun a ha => ?_, fun a c ha hc => ?_, fun j hj => ?_, ?_⟩
 ·rw [hA]
  rw [hH] at ha
  by_cases e : a = k
  ·rw [if_pos e]; exact ⟨⟨by simp, by show (B : Int) < M; omega⟩, by simp, by show (P : Int) < 32; omega⟩
  ·rw [if_neg e]; rw [if_neg e] at ha; exact h.here a ha
 ·rw [hH] at ha
  by_cases e : a = k
  ·rw [if_pos e] at ha; cases ha
  ·rw [if_neg e] at ha; rw [hA, if_neg e]; exact h.gone a ha
 ·rw [hA, hA]
  rw [hH] at ha hc
  by_cases e : a = k
  ·by_cases e2 : c = k
   ·intro _; omega
   ·rw [if_pos e, if_neg e2]
    rw [if_neg e2] at hc
    intro x
    exact absurd x.symm (hno c e2 hc)
  ·rw [if_neg e] at ha
   by_cases e2 : c = k
   ·rw [if_neg e, if_pos e2]
    intro x
    exact absurd x (hno a e ha)
   ·rw [if_neg e, if_neg e2]
    rw [if_neg e2] at hc
    exact h.inj a c ha hc
 ·have ho := hd.on j hj
  unfold scnt
  rw [getD_set_any _ _ _ _ _ (by rw [hlc]; exact hB), hup j]
  by_cases e : j = B
  ·subst e
   rw [if_pos rfl, if_pos rfl, ho]
   omega
  ·rw [if_neg e, if_neg e, ho]
   omega
 ·have ha := hd.all
  unfold scnt
  rw [isum_set _ _ _ (by rw [hlc]; exact hB), hal]
  omega

/-! What On tells. -/
theorem byL_spec {N M : Nat} {at' : List (Int × Int)} {has : List Bool} {cnt : List Int} (h : PI N M at' has cnt) (k n : Nat) :
  (∀ P, P < 32 → (byL at' has k n).getD P 0 = 0 ∨ ∃ a : Nat, a < n ∧ (byL at' has k n).getD P 0 = (a : Int) + 1 ∧ has.getD a false = true ∧ at'.getD a (0, 0) = ((k : Int), (P : Int))) ∧
  (byL at' has k n).countP (fun x => decide (0 < x)) = cnum (onP at' has k) n := by
 induction n with
 | zero =>
  refine ⟨fun P hP => .inl ?_, ?_⟩
  ·show (List.replicate 32 (0 : Int)).getD P 0 = 0
   rw [List.getD_eq_getElem?_getD, List.getElem?_replicate]
   split <;> rfl
  ·rfl
 | succ n ih =>
  obtain ⟨h1, h2⟩ := ih
  have hlen := byL_len at' has k n
  rw [byL_succ, cnum_succ]
  unfold byF
  by_cases hc : has.getD n false = true ∧ (at'.getD n (0, 0)).1 = (k : Int)
  ·rw [if_pos hc]
   have hp := (h.here n hc.1).2
   obtain ⟨P0, hP0⟩ : ∃ P0 : Nat, (at'.getD n (0, 0)).2 = (P0 : Int) := ⟨_, (Int.toNat_of_nonneg hp.1).symm⟩
   have hP32 : P0 < 32 := by omega
   rw [show (at'.getD n (0, 0)).2.toNat = P0 by omega]
   have heq : at'.getD n (0, 0) = ((k : Int), (P0 : Int)) := Prod.ext hc.2 hP0
   have hz : (byL at' has k n).getD P0 0 = 0 := by
    rcases h1 P0 hP32 with h1 | ⟨a, ha, -, hh, he⟩
    ·exact h1
    ·have := h.inj a n hh hc.1 (he.trans heq.symm)
     omega
   refine ⟨fun P hP => ?_, ?_⟩
   ·rw [getD_set_any _ _ _ _ _ (by rw [hlen]; exact hP32)]
    by_cases e : P = P0
    ·subst e
     rw [if_pos rfl]
     exact .inr ⟨n, by omega, rfl, hc.1, heq⟩
    ·rw [if_neg e]
     rcases h1 P hP with h1 | ⟨a, ha, r⟩
     ·exact .inl h1
     ·exact .inr ⟨a, by omega, r⟩
   ·rw [List.countP_set (h := by rw [hlen]; exact hP32), h2]
    have hz2 : (byL at' has k n)[P0]'(by rw [hlen]; exact hP32) = 0 := by
     rw [List.getD_eq_getElem?_getD, List.getElem?_eq_getElem (by rw [hlen]; exact hP32)] at hz
     exact hz
    rw [hz2, if_neg (by simp), if_pos (by exact decide_eq_true (by omega)), if_pos (by unfold onP; rw [hc.1, Bool.true_and]; exact decide_eq_true hc.2)]
    omega
  ·rw [if_neg hc]
   refine ⟨fun P hP => ?_, ?_⟩
   ·rcases h1 P hP with h1 | ⟨a, ha, r⟩
    ·exact .inl h1
    ·exact .inr ⟨a, by omega, r⟩
   ·rw [h2, if_neg]
    ·rfl
    ·unfold onP
     intro x
     rw [Bool.and_eq_true] at x
     exact hc ⟨x.1, of_decide_eq_true x.2⟩
end Go.Proofs.Ytpcbpljdiacbmaa.Pmap
