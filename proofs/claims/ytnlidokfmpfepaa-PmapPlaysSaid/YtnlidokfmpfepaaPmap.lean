import Derived.Test.YtnlidokfmpfepaaKit
import Derived.Deep.Cut
import Derived.Laws.ResultCell
import Derived.StillTailTactics
set_option linter.unusedVariables false
set_option linter.unusedSimpArgs false
namespace Go.Proofs.Ytnlidokfmpfepaa.Pmap
open Go.RowKit Go.Proofs.Ytnlidokfmpfepaa.Kit

def flatP (l : List (Int × Int)) : List Value := l.flatMap (fun p => [.int .i64 p.1, .int .i64 p.2])
theorem flatP_len (l : List (Int × Int)) : (flatP l).length = 2 * l.length := by
  induction l with
  | nil => rfl
  | cons p l ih => simp only [flatP, List.flatMap_cons, List.length_append, List.length_cons, List.length_nil] at *; omega
theorem flatP_cons (p : Int × Int) (l : List (Int × Int)) : flatP (p :: l) = .int .i64 p.1 :: .int .i64 p.2 :: flatP l := rfl
theorem flatP_get (l : List (Int × Int)) (k : Nat) (h : k < l.length) : (flatP l)[k * 2]? = some (.int .i64 (l.getD k (0, 0)).1) ∧ (flatP l)[k * 2 + 1]? = some (.int .i64 (l.getD k (0, 0)).2) := by
  induction l generalizing k with
  | nil => exact absurd h (by simp)
  | cons p l ih =>
    rcases k with _ | k
    · exact ⟨rfl, rfl⟩
    · have := ih k (by simpa using h)
      rw [flatP_cons]
      have e : (k + 1) * 2 = k * 2 + 1 + 1 := by omega
      rw [e]
      simpa using this
theorem flatP_set (l : List (Int × Int)) (k : Nat) (h : k < l.length) (p : Int × Int) : ((flatP l).set (k * 2) (.int .i64 p.1)).set (k * 2 + 1) (.int .i64 p.2) = flatP (l.set k p) := by
  induction l generalizing k with
  | nil => exact absurd h (by simp)
  | cons q l ih =>
    rcases k with _ | k
    · rfl
    · have := ih k (by simpa using h)
      rw [flatP_cons]
      have e : (k + 1) * 2 = k * 2 + 1 + 1 := by omega
      rw [e]
      simp only [List.set_cons_succ, flatP_cons]
      rw [this]

/-- A map, its three arrays known whole. -/
structure PM (w : World) (b ga gh gc N M : Nat) (at' : List (Int × Int)) (has : List Bool) (cnt : List Int) : Prop where
  blk : Blk w b #[.slice (some ⟨ga, 0, none⟩) N N, .slice (some ⟨gh, 0, none⟩) N N, .slice (some ⟨gc, 0, none⟩) M M] 69
  ats : Blk w ga (flatP at').toArray 28
  hass : Blk w gh (has.map Value.bool).toArray 4
  cnts : Blk w gc (cnt.map (Value.int .i64)).toArray 3
  la : at'.length = N
  lh : has.length = N
  lc : cnt.length = M
  nM : N ≤ 65536 ∧ M ≤ 64
  ne : b ≠ ga ∧ b ≠ gh ∧ b ≠ gc ∧ ga ≠ gh ∧ ga ≠ gc ∧ gh ≠ gc
theorem PM.later {w w' : World} {b ga gh gc N M : Nat} {at' : List (Int × Int)} {has : List Bool} {cnt : List Int} (h : PM w b ga gh gc N M at' has cnt) (hB : Below w.heap.size w w') : PM w' b ga gh gc N M at' has cnt :=
  ⟨h.blk.later hB, h.ats.later hB, h.hass.later hB, h.cnts.later hB, h.la, h.lh, h.lc, h.nM, h.ne⟩
theorem PM.cells {w : World} {b ga gh gc N M : Nat} {at' : List (Int × Int)} {has : List Bool} {cnt : List Int} (h : PM w b ga gh gc N M at' has cnt) :
    w.cell? ⟨b, 0, none⟩ = some (.slice (some ⟨ga, 0, none⟩) N N) ∧ w.cell? ⟨b, 1, none⟩ = some (.slice (some ⟨gh, 0, none⟩) N N) ∧ w.cell? ⟨b, 2, none⟩ = some (.slice (some ⟨gc, 0, none⟩) M M) := ⟨h.blk.cell 0, h.blk.cell 1, h.blk.cell 2⟩
theorem PM.has_at {w : World} {b ga gh gc N M : Nat} {at' : List (Int × Int)} {has : List Bool} {cnt : List Int} (h : PM w b ga gh gc N M at' has cnt) (k : Nat) (hk : k < N) : w.cell? ⟨gh, k, none⟩ = some (.bool (has.getD k false)) := by
  rw [h.hass.cell]
  have : k < has.length := by rw [h.lh]; exact hk
  simp [List.getD_eq_getElem?_getD, List.getElem?_eq_getElem this]
theorem PM.cnt_at {w : World} {b ga gh gc N M : Nat} {at' : List (Int × Int)} {has : List Bool} {cnt : List Int} (h : PM w b ga gh gc N M at' has cnt) (k : Nat) (hk : k < M) : w.cell? ⟨gc, k, none⟩ = some (.int .i64 (cnt.getD k 0)) := by
  rw [h.cnts.cell]
  have : k < cnt.length := by rw [h.lc]; exact hk
  simp [List.getD_eq_getElem?_getD, List.getElem?_eq_getElem this]
theorem PM.at_at {w : World} {b ga gh gc N M : Nat} {at' : List (Int × Int)} {has : List Bool} {cnt : List Int} (h : PM w b ga gh gc N M at' has cnt) (k : Nat) (hk : k < N) : w.cell? ⟨ga, k * 2, none⟩ = some (.int .i64 (at'.getD k (0, 0)).1) ∧ w.cell? ⟨ga, k * 2 + 1, none⟩ = some (.int .i64 (at'.getD k (0, 0)).2) := by
  rw [h.ats.cell, h.ats.cell]
  have := flatP_get at' k (by rw [h.la]; exact hk)
  simpa using this

set_option maxHeartbeats 1000000 in
theorem count_any (b ga gh gc N M : Nat) (at' : List (Int × Int)) (has : List Bool) (cnt : List Int) (k : Int) (w : World) (h : PM w b ga gh gc N M at' has cnt) :
    Calls Try.prog 16 #[.pointer (some ⟨b, 0, none⟩), .int .i64 k] w fun e w' => e = .returned (.int .i64 (if 0 ≤ k ∧ k < M then cnt.getD k.toNat 0 else 0)) ∧ w' = w := by
  obtain ⟨c0, c1, c2⟩ := h.cells
  have hM := h.nM.2
  by_cases hk : 0 ≤ k ∧ k < M
  · rw [if_pos hk]
    obtain ⟨k0, k1⟩ := hk
    obtain ⟨k, rfl⟩ := Int.eq_ofNat_of_zero_le k0
    have hc := h.cnt_at k (by omega)
    clear h
    rw [show ((k : Int)).toNat = k by omega]
    generalize cnt.getD k 0 = x at *
    go_enter Try.func16, Try.ntmps16
    go_wp2
    go_ret
    exact ⟨rfl, rfl⟩
  · rw [if_neg hk]
    clear h
    by_cases hk0 : k < 0
    · go_enter Try.func16, Try.ntmps16
      go_wp2
      go_ret
      exact ⟨rfl, rfl⟩
    · have hk1 : (M : Int) ≤ k := by omega
      clear hk
      go_enter Try.func16, Try.ntmps16
      go_wp2
      go_ret
      exact ⟨rfl, rfl⟩
theorem count_nil (k : Int) (w : World) : Calls Try.prog 16 #[.pointer none, .int .i64 k] w fun e w' => e = .returned (.int .i64 0) ∧ w' = w := by
  go_enter Try.func16, Try.ntmps16
  go_wp2
  go_ret
  exact ⟨rfl, rfl⟩
theorem len_nil (w : World) : Calls Try.prog 25 #[.pointer none] w fun e w' => e = .returned (.int .i64 0) ∧ w' = w := by
  go_enter Try.func25, Try.ntmps25
  go_wp2
  go_ret
  exact ⟨rfl, rfl⟩
theorem on_nil (k : Int) (w : World) : Calls Try.prog 15 #[.pointer none, .int .i64 k] w fun e w' => e = .returned (.slice none 0 0) ∧ w' = w := by
  go_enter Try.func15, Try.ntmps15
  go_wp2
  go_ret
  exact ⟨rfl, rfl⟩
theorem drop_nil (k : Int) (w : World) : Calls Try.prog 23 #[.pointer none, .int .i64 k] w fun e w' => e = .returned (.int .i64 5) ∧ w' = w := by
  go_enter Try.func23, Try.ntmps23
  go_wp2
  go_ret
  exact ⟨rfl, rfl⟩
theorem set_nil (k B P : Int) (w : World) : Calls Try.prog 14 #[.pointer none, .int .i64 k, .agg #[.int .i64 B, .int .i64 P]] w fun e w' => e = .returned (.int .i64 5) ∧ Below w.heap.size w w' := by
  go_enter Try.func14, Try.ntmps14
  go_wp2
  go_ret
  exact ⟨rfl, (Below.refl _ _).alloc (Nat.le_refl _) _⟩

theorem results_row_tmp {P : Program} {fn : Func} {p u : Tmp} {ty : TypeId} (h : fn.results = #[.cell p ty, .tmp u]) (tmps : Array Value) (w : World) (g : Nat) (t : TypeId) (cs : Array Value) (fr : Nat × Nat) (d : TypeDesc)
    (hp : tmps.getD p undef = .pointer (some ⟨g, 0, none⟩)) (hg : w.heap[g]? = some (.cells cs t fr))
    (hu : P.underlying ty = some d) (hd : (match d with | .struct _ | .array _ _ => true | _ => false) = true) (hi : (P.info? ty).map (·.size) = some cs.size) :
    (results fn tmps).run P w = .ok (.tuple #[.agg cs, tmps.getD u undef]) w := by
  rw [results_cell_tmp h, hp]
  show ((loadVar ty ⟨g, 0, none⟩).run P w).andThen _ = _
  rw [run_loadVar_row w g t ty cs fr d hg hu hd hi]
  rfl
theorem _root_.Go.Proofs.Ytnlidokfmpfepaa.Kit.Blk.two_set {w : World} {g : Nat} {v0 v1 : Value} {T : TypeId} (h : Blk w g #[v0, v1] T) (u0 u1 : Value) : Blk ((w.setCell ⟨g, 0, none⟩ u0).setCell ⟨g, 1, none⟩ u1) g #[u0, u1] T := by
  have hb := (h.set 0 u0).set 1 u1
  simpa using hb
theorem _root_.Go.Proofs.Ytnlidokfmpfepaa.Kit.Blk.two {w : World} {g : Nat} {v0 v1 : Value} {T : TypeId} (h : Blk w g #[v0, v1] T) : (w.cell? ⟨g, 0, none⟩ = some v0 ∧ w.cell? ⟨g, 1, none⟩ = some v1) ∧ w.frozen? ⟨g, 0, none⟩ = false ∧ w.frozen? ⟨g, 1, none⟩ = false := ⟨⟨h.cell 0, h.cell 1⟩, h.free 0, h.free 1⟩

def getOk (has : List Bool) (N : Nat) (k : Int) : Bool := decide (0 ≤ k ∧ k < N) && has.getD k.toNat false
def getV (at' : List (Int × Int)) (has : List Bool) (N : Nat) (k : Int) : Int × Int := if getOk has N k = true then at'.getD k.toNat (0, 0) else (0, 0)

set_option maxHeartbeats 2000000 in
theorem get_nil (k : Int) (w : World) : Calls Try.prog 13 #[.pointer none, .int .i64 k] w fun e w' => e = .returned (.tuple #[.agg #[.int .i64 0, .int .i64 0], .bool false]) ∧ Below w.heap.size w w' := by
  go_enter Try.func13, Try.ntmps13
  go_upto_region 1 with (fail)
  obtain ⟨w2, hw⟩ : ∃ W, W = w.alloc (.cells #[.int .i64 0, .int .i64 0] 28) := ⟨_, rfl⟩
  have hb : Blk w2 w.heap.size #[.int .i64 0, .int .i64 0] 28 := by rw [hw]; exact Blk.new _ _ _
  have hB : Below w.heap.size w w2 := by rw [hw]; exact (Below.refl _ _).alloc (Nat.le_refl _) _
  rw [← hw]
  clear hw
  obtain ⟨⟨c0, c1⟩, f0, f1⟩ := hb.two
  have Hb := hid hb
  clear hb
  go_wp2
  refine bodyPost_ret (results_row_tmp (P := Try.prog) rfl _ _ w.heap.size _ _ (0, 0) _ rfl (Blk.two_set Hb.out (.int .i64 0) (.int .i64 0)) Try.underlying28 rfl (by kernel_rfl)) rfl ?_
  exact ⟨rfl, (hB.setCell (Nat.le_refl _) _).setCell (Nat.le_refl _) _⟩

set_option maxHeartbeats 4000000 in
theorem get_any (b ga gh gc N M : Nat) (at' : List (Int × Int)) (has : List Bool) (cnt : List Int) (k : Int) (w : World) (h : PM w b ga gh gc N M at' has cnt) :
    Calls Try.prog 13 #[.pointer (some ⟨b, 0, none⟩), .int .i64 k] w fun e w' => e = .returned (.tuple #[.agg #[.int .i64 (getV at' has N k).1, .int .i64 (getV at' has N k).2], .bool (getOk has N k)]) ∧ Below w.heap.size w w' := by
  have hN := h.nM.1
  by_cases hk : 0 ≤ k ∧ k < N
  · obtain ⟨k0, k1⟩ := hk
    obtain ⟨k, rfl⟩ := Int.eq_ofNat_of_zero_le k0
    have e1 : getOk has N (k : Int) = has.getD k false := by unfold getOk; rw [decide_eq_true ⟨by omega, by omega⟩, Bool.true_and]; rfl
    have e2 : getV at' has N (k : Int) = if has.getD k false = true then at'.getD k (0, 0) else (0, 0) := by unfold getV; rw [e1]; rfl
    cases hhk : has.getD k false
    · rw [hhk] at e1 e2
      rw [if_neg (by simp)] at e2
      rw [e1, e2]
      clear e1 e2
      go_enter Try.func13, Try.ntmps13
      go_upto_region 1 with (fail)
      obtain ⟨w2, hw⟩ : ∃ W, W = w.alloc (.cells #[.int .i64 0, .int .i64 0] 28) := ⟨_, rfl⟩
      have hb : Blk w2 w.heap.size #[.int .i64 0, .int .i64 0] 28 := by rw [hw]; exact Blk.new _ _ _
      have hB : Below w.heap.size w w2 := by rw [hw]; exact (Below.refl _ _).alloc (Nat.le_refl _) _
      rw [← hw]
      clear hw
      have h2 := h.later hB
      obtain ⟨c0, c1, c2⟩ := h2.cells
      have hh := h2.has_at k (by omega)
      rw [hhk] at hh
      obtain ⟨⟨d0, d1⟩, f0, f1⟩ := hb.two
      have Hb := hid hb
      clear hb h h2
      go_wp2
      refine bodyPost_ret (results_row_tmp (P := Try.prog) rfl _ _ w.heap.size _ _ (0, 0) _ rfl (Blk.two_set Hb.out (.int .i64 0) (.int .i64 0)) Try.underlying28 rfl (by kernel_rfl)) rfl ?_
      exact ⟨rfl, (hB.setCell (Nat.le_refl _) _).setCell (Nat.le_refl _) _⟩
    · rw [hhk] at e1 e2
      rw [if_pos rfl] at e2
      rw [e1, e2]
      clear e1 e2
      go_enter Try.func13, Try.ntmps13
      go_upto_region 1 with (fail)
      obtain ⟨w2, hw⟩ : ∃ W, W = w.alloc (.cells #[.int .i64 0, .int .i64 0] 28) := ⟨_, rfl⟩
      have hb : Blk w2 w.heap.size #[.int .i64 0, .int .i64 0] 28 := by rw [hw]; exact Blk.new _ _ _
      have hB : Below w.heap.size w w2 := by rw [hw]; exact (Below.refl _ _).alloc (Nat.le_refl _) _
      rw [← hw]
      clear hw
      have h2 := h.later hB
      obtain ⟨c0, c1, c2⟩ := h2.cells
      have hh := h2.has_at k (by omega)
      rw [hhk] at hh
      obtain ⟨a0, a1⟩ := h2.at_at k (by omega)
      obtain ⟨⟨d0, d1⟩, f0, f1⟩ := hb.two
      have Hb := hid hb
      clear hb h h2
      go_wp2
      refine bodyPost_ret (results_row_tmp (P := Try.prog) rfl _ _ w.heap.size _ _ (0, 0) _ rfl (Blk.two_set Hb.out (.int .i64 (at'.getD k (0, 0)).1) (.int .i64 (at'.getD k (0, 0)).2)) Try.underlying28 rfl (by kernel_rfl)) rfl ?_
      exact ⟨rfl, (hB.setCell (Nat.le_refl _) _).setCell (Nat.le_refl _) _⟩
  · have e1 : getOk has N k = false := by unfold getOk; rw [decide_eq_false hk, Bool.false_and]
    have e2 : getV at' has N k = (0, 0) := by unfold getV; rw [e1]; rfl
    rw [e1, e2]
    clear e1 e2
    by_cases hk0 : k < 0
    · clear hk
      go_enter Try.func13, Try.ntmps13
      go_upto_region 1 with (fail)
      obtain ⟨w2, hw⟩ : ∃ W, W = w.alloc (.cells #[.int .i64 0, .int .i64 0] 28) := ⟨_, rfl⟩
      have hb : Blk w2 w.heap.size #[.int .i64 0, .int .i64 0] 28 := by rw [hw]; exact Blk.new _ _ _
      have hB : Below w.heap.size w w2 := by rw [hw]; exact (Below.refl _ _).alloc (Nat.le_refl _) _
      rw [← hw]
      clear hw
      have h2 := h.later hB
      obtain ⟨c0, c1, c2⟩ := h2.cells
      obtain ⟨⟨d0, d1⟩, f0, f1⟩ := hb.two
      have Hb := hid hb
      clear hb h h2
      go_wp2
      refine bodyPost_ret (results_row_tmp (P := Try.prog) rfl _ _ w.heap.size _ _ (0, 0) _ rfl (Blk.two_set Hb.out (.int .i64 0) (.int .i64 0)) Try.underlying28 rfl (by kernel_rfl)) rfl ?_
      exact ⟨rfl, (hB.setCell (Nat.le_refl _) _).setCell (Nat.le_refl _) _⟩
    · have hk1 : (N : Int) ≤ k := by omega
      clear hk
      go_enter Try.func13, Try.ntmps13
      go_upto_region 1 with (fail)
      obtain ⟨w2, hw⟩ : ∃ W, W = w.alloc (.cells #[.int .i64 0, .int .i64 0] 28) := ⟨_, rfl⟩
      have hb : Blk w2 w.heap.size #[.int .i64 0, .int .i64 0] 28 := by rw [hw]; exact Blk.new _ _ _
      have hB : Below w.heap.size w w2 := by rw [hw]; exact (Below.refl _ _).alloc (Nat.le_refl _) _
      rw [← hw]
      clear hw
      have h2 := h.later hB
      obtain ⟨c0, c1, c2⟩ := h2.cells
      obtain ⟨⟨d0, d1⟩, f0, f1⟩ := hb.two
      have Hb := hid hb
      clear hb h h2
      go_wp2
      refine bodyPost_ret (results_row_tmp (P := Try.prog) rfl _ _ w.heap.size _ _ (0, 0) _ rfl (Blk.two_set Hb.out (.int .i64 0) (.int .i64 0)) Try.underlying28 rfl (by kernel_rfl)) rfl ?_
      exact ⟨rfl, (hB.setCell (Nat.le_refl _) _).setCell (Nat.le_refl _) _⟩
end Go.Proofs.Ytnlidokfmpfepaa.Pmap
