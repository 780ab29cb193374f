import Derived.Test.YtnlidokfmpfepaaPmap
import Derived.BigRegion
set_option linter.unusedVariables false
set_option linter.unusedSimpArgs false
namespace Go.Proofs.Ytnlidokfmpfepaa.Pmap
open Go.RowKit Go.Proofs.Ytnlidokfmpfepaa.Kit

/-- Nothing but three blocks is written. -/
structure Fr (w w' : World) (ga gh gc : Nat) : Prop where
  os : w'.os = w.os
  tape : w'.tape = w.tape
  output : w'.output = w.output
  size : w.heap.size ≤ w'.heap.size
  block : ∀ g, g < w.heap.size → g ≠ ga → g ≠ gh → g ≠ gc → w'.heap[g]? = w.heap[g]?
theorem Fr.refl (w : World) (ga gh gc : Nat) : Fr w w ga gh gc := ⟨rfl, rfl, rfl, Nat.le_refl _, fun _ _ _ _ _ => rfl⟩
theorem Fr.trans {w w1 w2 : World} {ga gh gc : Nat} (h : Fr w w1 ga gh gc) (k : Fr w1 w2 ga gh gc) : Fr w w2 ga gh gc :=
  ⟨k.os.trans h.os, k.tape.trans h.tape, k.output.trans h.output, Nat.le_trans h.size k.size, fun g hg h1 h2 h3 => (k.block g (Nat.lt_of_lt_of_le hg h.size) h1 h2 h3).trans (h.block g hg h1 h2 h3)⟩
theorem Fr.of_below {w w1 : World} {ga gh gc : Nat} (h : Below w.heap.size w w1) : Fr w w1 ga gh gc := ⟨h.os, h.tape, h.output, h.size, fun g hg _ _ _ => h.block g hg⟩
theorem Fr.set {w w1 : World} {ga gh gc : Nat} (h : Fr w w1 ga gh gc) (g i : Nat) (v : Value) (hg : g = ga ∨ g = gh ∨ g = gc) : Fr w (w1.setCell ⟨g, i, none⟩ v) ga gh gc :=
  ⟨h.os, h.tape, h.output, by simpa [World.setCell] using h.size, fun j hj h1 h2 h3 => (Below.heap_setCell w1 ⟨g, i, none⟩ v j (by rcases hg with rfl | rfl | rfl <;> assumption)).trans (h.block j hj h1 h2 h3)⟩
theorem Fr.drewN {w w1 : World} {ga gh gc : Nat} (h : Fr w w1 ga gh gc) (n : Nat) : Fr w (w1.drewN n) ga gh gc := ⟨h.os, h.tape, h.output, h.size, h.block⟩
theorem Fr.below {w w1 : World} {ga gh gc B : Nat} (h : Fr w w1 ga gh gc) (hB : B ≤ w.heap.size) (ha : B ≤ ga) (hh : B ≤ gh) (hc : B ≤ gc) : Below B w w1 :=
  ⟨h.os, h.tape, h.output, h.size, fun g hg => h.block g (by omega) (by omega) (by omega) (by omega)⟩

theorem PM.drewN {w : World} {b ga gh gc N M : Nat} {at' : List (Int × Int)} {has : List Bool} {cnt : List Int} (h : PM w b ga gh gc N M at' has cnt) (n : Nat) : PM (w.drewN n) b ga gh gc N M at' has cnt :=
  ⟨h.blk, h.ats, h.hass, h.cnts, h.la, h.lh, h.lc, h.nM, h.ne⟩
theorem PM.set_cnt {w : World} {b ga gh gc N M : Nat} {at' : List (Int × Int)} {has : List Bool} {cnt : List Int} (h : PM w b ga gh gc N M at' has cnt) (j : Nat) (x : Int) : PM (w.setCell ⟨gc, j, none⟩ (.int .i64 x)) b ga gh gc N M at' has (cnt.set j x) := by
  obtain ⟨n1, n2, n3, n4, n5, n6⟩ := h.ne
  refine ⟨h.blk.setOther (⟨gc, j, none⟩ : Addr) n3 _, h.ats.setOther (⟨gc, j, none⟩ : Addr) n5 _, h.hass.setOther (⟨gc, j, none⟩ : Addr) n6 _, ?_, h.la, h.lh, by rw [List.length_set]; exact h.lc, h.nM, h.ne⟩
  have := h.cnts.set j (.int .i64 x)
  rw [List.map_set]
  simpa using this
theorem PM.set_has {w : World} {b ga gh gc N M : Nat} {at' : List (Int × Int)} {has : List Bool} {cnt : List Int} (h : PM w b ga gh gc N M at' has cnt) (j : Nat) (x : Bool) : PM (w.setCell ⟨gh, j, none⟩ (.bool x)) b ga gh gc N M at' (has.set j x) cnt := by
  obtain ⟨n1, n2, n3, n4, n5, n6⟩ := h.ne
  refine ⟨h.blk.setOther (⟨gh, j, none⟩ : Addr) n2 _, h.ats.setOther (⟨gh, j, none⟩ : Addr) n4 _, ?_, h.cnts.setOther (⟨gh, j, none⟩ : Addr) (Ne.symm n6) _, h.la, by rw [List.length_set]; exact h.lh, h.lc, h.nM, h.ne⟩
  have := h.hass.set j (.bool x)
  rw [List.map_set]
  simpa using this
theorem PM.set_at {w : World} {b ga gh gc N M : Nat} {at' : List (Int × Int)} {has : List Bool} {cnt : List Int} (h : PM w b ga gh gc N M at' has cnt) (j : Nat) (hj : j < N) (x : Int × Int) : PM ((w.setCell ⟨ga, j * 2, none⟩ (.int .i64 x.1)).setCell ⟨ga, j * 2 + 1, none⟩ (.int .i64 x.2)) b ga gh gc N M (at'.set j x) has cnt := by
  obtain ⟨n1, n2, n3, n4, n5, n6⟩ := h.ne
  refine ⟨(h.blk.setOther (⟨ga, j * 2, none⟩ : Addr) n1 _).setOther (⟨ga, j * 2 + 1, none⟩ : Addr) n1 _, ?_, (h.hass.setOther (⟨ga, j * 2, none⟩ : Addr) (Ne.symm n4) _).setOther (⟨ga, j * 2 + 1, none⟩ : Addr) (Ne.symm n4) _, (h.cnts.setOther (⟨ga, j * 2, none⟩ : Addr) (Ne.symm n5) _).setOther (⟨ga, j * 2 + 1, none⟩ : Addr) (Ne.symm n5) _, by rw [List.length_set]; exact h.la, h.lh, h.lc, h.nM, h.ne⟩
  have := (h.ats.set (j * 2) (.int .i64 x.1)).set (j * 2 + 1) (.int .i64 x.2)
  rw [← flatP_set at' j (by rw [h.la]; exact hj)]
  simpa using this

theorem PM.cells_fr {w W : World} {b ga gh gc N M : Nat} {at' : List (Int × Int)} {has : List Bool} {cnt : List Int} (h : PM w b ga gh gc N M at' has cnt) (k : Fr w W ga gh gc) :
    W.cell? ⟨b, 0, none⟩ = some (.slice (some ⟨ga, 0, none⟩) N N) ∧ W.cell? ⟨b, 1, none⟩ = some (.slice (some ⟨gh, 0, none⟩) N N) ∧ W.cell? ⟨b, 2, none⟩ = some (.slice (some ⟨gc, 0, none⟩) M M) := by
  have hb : Blk W b #[.slice (some ⟨ga, 0, none⟩) N N, .slice (some ⟨gh, 0, none⟩) N N, .slice (some ⟨gc, 0, none⟩) M M] 69 := (k.block b h.blk.lt h.ne.1 h.ne.2.1 h.ne.2.2.1).trans h.blk
  exact ⟨hb.cell 0, hb.cell 1, hb.cell 2⟩

def dcnt (at' : List (Int × Int)) (has : List Bool) (cnt : List Int) (k : Nat) : List Int := if has.getD k false = true then cnt.set (at'.getD k (0, 0)).1.toNat (cnt.getD (at'.getD k (0, 0)).1.toNat 0 - 1) else cnt

set_option maxRecDepth 100000 in
set_option maxHeartbeats 4000000 in
theorem drop_in (b ga gh gc N M : Nat) (at' : List (Int × Int)) (has : List Bool) (cnt : List Int) (k : Nat) (w : World) (h : PM w b ga gh gc N M at' has cnt) (hk : k < N)
    (hw : has.getD k false = true → 0 ≤ (at'.getD k (0, 0)).1 ∧ (at'.getD k (0, 0)).1 < M ∧ 1 ≤ cnt.getD (at'.getD k (0, 0)).1.toNat 0 ∧ cnt.getD (at'.getD k (0, 0)).1.toNat 0 ≤ 65536) :
    Calls Try.prog 23 #[.pointer (some ⟨b, 0, none⟩), .int .i64 (k : Int)] w fun e w' => e = .returned (.int .i64 0) ∧ PM w' b ga gh gc N M (at'.set k (0, 0)) (has.set k false) (dcnt at' has cnt k) ∧ Fr w w' ga gh gc := by
  have hN := h.nM.1
  have hM := h.nM.2
  have hkI : (k : Int) < (N : Int) := by omega
  have hk0 : (0 : Int) ≤ (k : Int) := by omega
  obtain ⟨c0, c1, c2⟩ := h.cells
  have hh := h.has_at k hk
  obtain ⟨a0, a1⟩ := h.at_at k hk
  have fa0 := h.ats.free (k * 2)
  have fa1 := h.ats.free (k * 2 + 1)
  have fh := h.hass.free k
  cases hhk : has.getD k false
  · rw [hhk] at hh
    have hd : dcnt at' has cnt k = cnt := by unfold dcnt; rw [hhk]; exact if_neg (by simp)
    rw [hd]
    have H := hid h
    have HS := hid (fun W (k : Fr w W ga gh gc) => h.cells_fr k)
    obtain ⟨-, -, -, n4, n5, n6⟩ := h.ne
    have n4' := Ne.symm n4
    have n5' := Ne.symm n5
    have n6' := Ne.symm n6
    clear h hd hw hhk
    generalize at'.getD k (0, 0) = p at *
    go_enter Try.func23, Try.ntmps23
    go_upto_region 7 with (fail)
    refine wp_region_held_drew (S := (fun w' => w'.cell? ⟨b, 0, none⟩ = some (.slice (some ⟨ga, 0, none⟩) N N) ∧ w'.cell? ⟨b, 1, none⟩ = some (.slice (some ⟨gh, 0, none⟩) N N) ∧ w'.cell? ⟨b, 2, none⟩ = some (.slice (some ⟨gc, 0, none⟩) M M))) (by kernel_rfl) ?hSnewAz (fun hHeld => ?restAz)
    case hSnewAz => ((try dsimp only); exact HS.out _ ((Fr.refl _ _ _ _).drewN 1))
    refine wpAnyH_take (i := 0) (oi := ?oiAx0) (v := ?vAx0) ?hoAx0 ?h1Ax0 ?h2Ax0 ?h3Ax0 ?hqAx0 (Or.inl ⟨?h4Ax0, ?hyAx0⟩) (by assumption) ?restAx0
    case hoAx0 => (simp only [List.getElem?_toArray, List.getElem?_cons_zero, List.getElem?_cons_succ]; rfl)
    case h1Ax0 => kernel_rfl
    case h2Ax0 => kernel_rfl
    case h3Ax0 => kernel_rfl
    case h4Ax0 => rfl
    case hqAx0 => exact fun _ _ _ h => h
    case hyAx0 => (intro w hSw; (try dsimp only at hSw); go_simp <;> with_reducible rfl)
    (try simp only [Act.put, List.setIfInBounds_toArray, List.set_cons_zero, List.set_cons_succ])
    refine wpAnyH_take (i := 1) (oi := ?oiAx1) (v := ?vAx1) ?hoAx1 ?h1Ax1 ?h2Ax1 ?h3Ax1 ?hqAx1 (Or.inl ⟨?h4Ax1, ?hyAx1⟩) (by assumption) ?restAx1
    case hoAx1 => (simp only [List.getElem?_toArray, List.getElem?_cons_zero, List.getElem?_cons_succ]; rfl)
    case h1Ax1 => kernel_rfl
    case h2Ax1 => kernel_rfl
    case h3Ax1 => kernel_rfl
    case h4Ax1 => rfl
    case hqAx1 => exact fun _ _ _ h => h
    case hyAx1 => (intro w hSw; (try dsimp only at hSw); go_simp <;> with_reducible rfl)
    (try simp only [Act.put, List.setIfInBounds_toArray, List.set_cons_zero, List.set_cons_succ])
    refine wpAnyH_take (i := 2) (oi := ?oiAx2) (v := ?vAx2) ?hoAx2 ?h1Ax2 ?h2Ax2 ?h3Ax2 ?hqAx2 (Or.inl ⟨?h4Ax2, ?hyAx2⟩) (by assumption) ?restAx2
    case hoAx2 => (simp only [List.getElem?_toArray, List.getElem?_cons_zero, List.getElem?_cons_succ]; rfl)
    case h1Ax2 => kernel_rfl
    case h2Ax2 => kernel_rfl
    case h3Ax2 => kernel_rfl
    case h4Ax2 => rfl
    case hqAx2 => exact fun _ _ _ h => h
    case hyAx2 => (intro w hSw; (try dsimp only at hSw); go_simp <;> with_reducible rfl)
    (try simp only [Act.put, List.setIfInBounds_toArray, List.set_cons_zero, List.set_cons_succ])
    refine wpAnyH_take (i := 3) (oi := ?oiAx3) (v := ?vAx3) ?hoAx3 ?h1Ax3 ?h2Ax3 ?h3Ax3 ?hqAx3 (Or.inl ⟨?h4Ax3, ?hyAx3⟩) (by assumption) ?restAx3
    case hoAx3 => (simp only [List.getElem?_toArray, List.getElem?_cons_zero, List.getElem?_cons_succ]; rfl)
    case h1Ax3 => kernel_rfl
    case h2Ax3 => kernel_rfl
    case h3Ax3 => kernel_rfl
    case h4Ax3 => rfl
    case hqAx3 => exact fun _ _ _ h => h
    case hyAx3 => (intro w hSw; (try dsimp only at hSw); go_simp <;> with_reducible rfl)
    (try simp only [Act.put, List.setIfInBounds_toArray, List.set_cons_zero, List.set_cons_succ])
    refine wpAnyH_take (i := 4) (oi := ?oiAx4) (v := ?vAx4) ?hoAx4 ?h1Ax4 ?h2Ax4 ?h3Ax4 ?hqAx4 (Or.inl ⟨?h4Ax4, ?hyAx4⟩) (by assumption) ?restAx4
    case hoAx4 => (simp only [List.getElem?_toArray, List.getElem?_cons_zero, List.getElem?_cons_succ]; rfl)
    case h1Ax4 => kernel_rfl
    case h2Ax4 => kernel_rfl
    case h3Ax4 => kernel_rfl
    case h4Ax4 => rfl
    case hqAx4 => exact fun _ _ _ h => h
    case hyAx4 => (intro w hSw; (try dsimp only at hSw); go_simp <;> with_reducible rfl)
    (try simp only [Act.put, List.setIfInBounds_toArray, List.set_cons_zero, List.set_cons_succ])
    refine wpAnyH_take (i := 5) (oi := ?oiAx5) (v := ?vAx5) ?hoAx5 ?h1Ax5 ?h2Ax5 ?h3Ax5 ?hqAx5 (Or.inl ⟨?h4Ax5, ?hyAx5⟩) (by assumption) ?restAx5
    case hoAx5 => (simp only [List.getElem?_toArray, List.getElem?_cons_zero, List.getElem?_cons_succ]; rfl)
    case h1Ax5 => kernel_rfl
    case h2Ax5 => kernel_rfl
    case h3Ax5 => kernel_rfl
    case h4Ax5 => rfl
    case hqAx5 => exact fun _ _ _ h => h
    case hyAx5 => (intro w hSw; (try dsimp only at hSw); go_simp <;> with_reducible rfl)
    (try simp only [Act.put, List.setIfInBounds_toArray, List.set_cons_zero, List.set_cons_succ])
    refine wpAnyH_take (i := 6) (oi := ?oiAx6) (v := ?vAx6) ?hoAx6 ?h1Ax6 ?h2Ax6 ?h3Ax6 ?hqAx6 (Or.inl ⟨?h4Ax6, ?hyAx6⟩) (by assumption) ?restAx6
    case hoAx6 => (simp only [List.getElem?_toArray, List.getElem?_cons_zero, List.getElem?_cons_succ]; rfl)
    case h1Ax6 => kernel_rfl
    case h2Ax6 => kernel_rfl
    case h3Ax6 => kernel_rfl
    case h4Ax6 => rfl
    case hqAx6 => exact fun _ _ _ h => h
    case hyAx6 => (intro w hSw; (try dsimp only at hSw); go_simp <;> with_reducible rfl)
    (try simp only [Act.put, List.setIfInBounds_toArray, List.set_cons_zero, List.set_cons_succ])
    refine wpAnyH_take (i := 7) (oi := ?oiAx7) (v := ?vAx7) ?hoAx7 ?h1Ax7 ?h2Ax7 ?h3Ax7 ?hqAx7 (Or.inl ⟨?h4Ax7, ?hyAx7⟩) (by assumption) ?restAx7
    case hoAx7 => (simp only [List.getElem?_toArray, List.getElem?_cons_zero, List.getElem?_cons_succ]; rfl)
    case h1Ax7 => kernel_rfl
    case h2Ax7 => kernel_rfl
    case h3Ax7 => kernel_rfl
    case h4Ax7 => rfl
    case hqAx7 => exact fun _ _ _ h => h
    case hyAx7 => (intro w hSw; (try dsimp only at hSw); go_simp <;> with_reducible rfl)
    (try simp only [Act.put, List.setIfInBounds_toArray, List.set_cons_zero, List.set_cons_succ])
    refine wpAnyH_take (i := 8) (oi := ?oiAx8) (v := ?vAx8) ?hoAx8 ?h1Ax8 ?h2Ax8 ?h3Ax8 ?hqAx8 (Or.inl ⟨?h4Ax8, ?hyAx8⟩) (by assumption) ?restAx8
    case hoAx8 => (simp only [List.getElem?_toArray, List.getElem?_cons_zero, List.getElem?_cons_succ]; rfl)
    case h1Ax8 => kernel_rfl
    case h2Ax8 => kernel_rfl
    case h3Ax8 => kernel_rfl
    case h4Ax8 => rfl
    case hqAx8 => exact fun _ _ _ h => h
    case hyAx8 => (intro w hSw; (try dsimp only at hSw); go_simp <;> with_reducible rfl)
    (try simp only [Act.put, List.setIfInBounds_toArray, List.set_cons_zero, List.set_cons_succ])
    refine wpAnyH_take (i := 9) (oi := ?oiAx9) (v := ?vAx9) ?hoAx9 ?h1Ax9 ?h2Ax9 ?h3Ax9 ?hqAx9 (Or.inl ⟨?h4Ax9, ?hyAx9⟩) (by assumption) ?restAx9
    case hoAx9 => (simp only [List.getElem?_toArray, List.getElem?_cons_zero, List.getElem?_cons_succ]; rfl)
    case h1Ax9 => kernel_rfl
    case h2Ax9 => kernel_rfl
    case h3Ax9 => kernel_rfl
    case h4Ax9 => rfl
    case hqAx9 => exact fun _ _ _ h => h
    case hyAx9 => (intro w hSw; (try dsimp only at hSw); go_simp <;> with_reducible rfl)
    (try simp only [Act.put, List.setIfInBounds_toArray, List.set_cons_zero, List.set_cons_succ])
    refine wpAnyH_take (i := 10) (oi := ?oiAx10) (v := ?vAx10) ?hoAx10 ?h1Ax10 ?h2Ax10 ?h3Ax10 ?hqAx10 (Or.inl ⟨?h4Ax10, ?hyAx10⟩) (by assumption) ?restAx10
    case hoAx10 => (simp only [List.getElem?_toArray, List.getElem?_cons_zero, List.getElem?_cons_succ]; rfl)
    case h1Ax10 => kernel_rfl
    case h2Ax10 => kernel_rfl
    case h3Ax10 => kernel_rfl
    case h4Ax10 => rfl
    case hqAx10 => exact fun _ _ _ h => h
    case hyAx10 => (intro w hSw; (try dsimp only at hSw); go_simp <;> with_reducible rfl)
    (try simp only [Act.put, List.setIfInBounds_toArray, List.set_cons_zero, List.set_cons_succ])
    refine wpAnyH_take (i := 11) (oi := ?oiAx11) (v := ?vAx11) ?hoAx11 ?h1Ax11 ?h2Ax11 ?h3Ax11 ?hqAx11 (Or.inl ⟨?h4Ax11, ?hyAx11⟩) (by assumption) ?restAx11
    case hoAx11 => (simp only [List.getElem?_toArray, List.getElem?_cons_zero, List.getElem?_cons_succ]; rfl)
    case h1Ax11 => kernel_rfl
    case h2Ax11 => kernel_rfl
    case h3Ax11 => kernel_rfl
    case h4Ax11 => rfl
    case hqAx11 => exact fun _ _ _ h => h
    case hyAx11 => (intro w hSw; (try dsimp only at hSw); go_simp <;> with_reducible rfl)
    (try simp only [Act.put, List.setIfInBounds_toArray, List.set_cons_zero, List.set_cons_succ])
    refine wpAnyH_ready (rs := [12]) (by kernel_rfl) (by simp) ?_
    refine AllReadyH.cons (o := ?oiAx12) ?hoAx12 (fun K hK => ?restAx12) ?moreAx12
    case moreAx12 => exact AllReadyH.nil
    case hoAx12 => (simp only [List.getElem?_toArray, List.getElem?_cons_zero, List.getElem?_cons_succ]; rfl)
    go_simp
    refine hK.out _ _ ?hSnewAy12 (fun hHeld => ?restAy12)
    case hSnewAy12 => ((try dsimp only); exact HS.out _ (((Fr.refl _ _ _ _).drewN 1).set ga _ _ (.inl rfl) |>.set ga _ _ (.inl rfl)))
    clear hK K
    (try simp only [Act.put, List.setIfInBounds_toArray, List.set_cons_zero, List.set_cons_succ])
    refine wpAnyH_take (i := 13) (oi := ?oiAx13) (v := ?vAx13) ?hoAx13 ?h1Ax13 ?h2Ax13 ?h3Ax13 ?hqAx13 (Or.inl ⟨?h4Ax13, ?hyAx13⟩) (by assumption) ?restAx13
    case hoAx13 => (simp only [List.getElem?_toArray, List.getElem?_cons_zero, List.getElem?_cons_succ]; rfl)
    case h1Ax13 => kernel_rfl
    case h2Ax13 => kernel_rfl
    case h3Ax13 => kernel_rfl
    case h4Ax13 => rfl
    case hqAx13 => exact fun _ _ _ h => h
    case hyAx13 => (intro w hSw; (try dsimp only at hSw); go_simp <;> with_reducible rfl)
    (try simp only [Act.put, List.setIfInBounds_toArray, List.set_cons_zero, List.set_cons_succ])
    refine wpAnyH_ready (rs := [14]) (by kernel_rfl) (by simp) ?_
    refine AllReadyH.cons (o := ?oiAx14) ?hoAx14 (fun K hK => ?restAx14) ?moreAx14
    case moreAx14 => exact AllReadyH.nil
    case hoAx14 => (simp only [List.getElem?_toArray, List.getElem?_cons_zero, List.getElem?_cons_succ]; rfl)
    go_simp
    refine hK.out _ _ ?hSnewAy14 (fun hHeld => ?restAy14)
    case hSnewAy14 => ((try dsimp only); exact HS.out _ ((((Fr.refl _ _ _ _).drewN 1).set ga _ _ (.inl rfl) |>.set ga _ _ (.inl rfl)).set gh _ _ (.inr (.inl rfl))))
    clear hK K
    (try simp only [Act.put, List.setIfInBounds_toArray, List.set_cons_zero, List.set_cons_succ])
    refine wpAnyH_done (by kernel_rfl) ?_ _
    go_wp2
    go_ret
    exact ⟨rfl, (((H.out.drewN 1).set_at k hk (0, 0)).set_has k false), (((Fr.refl _ _ _ _).drewN 1).set ga _ _ (.inl rfl) |>.set ga _ _ (.inl rfl)).set gh _ _ (.inr (.inl rfl))⟩
  · rw [hhk] at hh
    obtain ⟨w0, w1, w2, w3⟩ := hw hhk
    have hd : dcnt at' has cnt k = cnt.set (at'.getD k (0, 0)).1.toNat (cnt.getD (at'.getD k (0, 0)).1.toNat 0 - 1) := by unfold dcnt; rw [hhk]; exact if_pos rfl
    rw [hd]
    have H := hid h
    have hne := h.ne
    clear hd hw hhk
    obtain ⟨⟨p1, p2⟩, hp⟩ : ∃ p, at'.getD k (0, 0) = p := ⟨_, rfl⟩
    rw [hp] at a0 a1 w0 w1 w2 w3 ⊢
    simp only at a0 a1 w0 w1 w2 w3 ⊢
    obtain ⟨p1, rfl⟩ := Int.eq_ofNat_of_zero_le w0
    have e1 : ((p1 : Int)).toNat = p1 := by omega
    rw [e1] at w2 w3 ⊢
    have hcn := h.cnt_at p1 (by omega)
    have fc := h.cnts.free p1
    clear h e1 hp
    generalize cnt.getD p1 0 = cx at *
    go_enter Try.func23, Try.ntmps23
    go_upto_region 6 with (fail)
    have hwx : IntKind.i64.wrap (cx - 1) = cx - 1 := IntWalk.i64_in _ (by omega)
    go_still_tail 16, (by kernel_rfl)
    change wpList _ _ _ _ _ w.drew
    clear hwx
    go_upto_region 7 with (fail)
    have hP3 := (H.out.set_cnt p1 (cx - 1)).drewN 1
    have hF3 : Fr w (((w.setCell ⟨gc, p1, none⟩ (.int .i64 (cx - 1))).drewN 1)) ga gh gc := ((Fr.refl _ _ _ _).set gc _ _ (.inr (.inr rfl))).drewN 1
    obtain ⟨w4, hw4⟩ : ∃ W, W = ((w.setCell ⟨gc, p1, none⟩ (.int .i64 (cx - 1))).drewN 1) := ⟨_, rfl⟩
    rw [← hw4] at hP3 hF3
    have hgoal : (w.setCell ⟨gc, p1, none⟩ (.int .i64 (cx - 1))).drew = w4 := hw4.symm
    rw [hgoal]
    clear hgoal hw4 c0 c1 c2 hh a0 a1 fa0 fa1 fh hcn fc
    obtain ⟨c0, c1, c2⟩ := hP3.cells
    have hh := hP3.has_at k hk
    obtain ⟨a0, a1⟩ := hP3.at_at k hk
    have fa0 := hP3.ats.free (k * 2)
    have fa1 := hP3.ats.free (k * 2 + 1)
    have fh := hP3.hass.free k
    have HP3 := hid hP3
    have HS := hid (fun W (k : Fr w4 W ga gh gc) => hP3.cells_fr k)
    obtain ⟨-, -, -, n4, n5, n6⟩ := hP3.ne
    have n4' := Ne.symm n4
    have n5' := Ne.symm n5
    have n6' := Ne.symm n6
    clear hP3 hne
    generalize has.getD k false = hb0 at *
    generalize at'.getD k (0, 0) = p0 at *
    refine wp_region_held_drew (S := (fun w' => w'.cell? ⟨b, 0, none⟩ = some (.slice (some ⟨ga, 0, none⟩) N N) ∧ w'.cell? ⟨b, 1, none⟩ = some (.slice (some ⟨gh, 0, none⟩) N N) ∧ w'.cell? ⟨b, 2, none⟩ = some (.slice (some ⟨gc, 0, none⟩) M M))) (by kernel_rfl) ?hSnewBz (fun hHeld => ?restBz)
    case hSnewBz => ((try dsimp only); exact HS.out _ ((Fr.refl _ _ _ _).drewN 1))
    refine wpAnyH_take (i := 0) (oi := ?oiBx0) (v := ?vBx0) ?hoBx0 ?h1Bx0 ?h2Bx0 ?h3Bx0 ?hqBx0 (Or.inl ⟨?h4Bx0, ?hyBx0⟩) (by assumption) ?restBx0
    case hoBx0 => (simp only [List.getElem?_toArray, List.getElem?_cons_zero, List.getElem?_cons_succ]; rfl)
    case h1Bx0 => kernel_rfl
    case h2Bx0 => kernel_rfl
    case h3Bx0 => kernel_rfl
    case h4Bx0 => rfl
    case hqBx0 => exact fun _ _ _ h => h
    case hyBx0 => (intro w hSw; (try dsimp only at hSw); go_simp <;> with_reducible rfl)
    (try simp only [Act.put, List.setIfInBounds_toArray, List.set_cons_zero, List.set_cons_succ])
    refine wpAnyH_take (i := 1) (oi := ?oiBx1) (v := ?vBx1) ?hoBx1 ?h1Bx1 ?h2Bx1 ?h3Bx1 ?hqBx1 (Or.inl ⟨?h4Bx1, ?hyBx1⟩) (by assumption) ?restBx1
    case hoBx1 => (simp only [List.getElem?_toArray, List.getElem?_cons_zero, List.getElem?_cons_succ]; rfl)
    case h1Bx1 => kernel_rfl
    case h2Bx1 => kernel_rfl
    case h3Bx1 => kernel_rfl
    case h4Bx1 => rfl
    case hqBx1 => exact fun _ _ _ h => h
    case hyBx1 => (intro w hSw; (try dsimp only at hSw); go_simp <;> with_reducible rfl)
    (try simp only [Act.put, List.setIfInBounds_toArray, List.set_cons_zero, List.set_cons_succ])
    refine wpAnyH_take (i := 2) (oi := ?oiBx2) (v := ?vBx2) ?hoBx2 ?h1Bx2 ?h2Bx2 ?h3Bx2 ?hqBx2 (Or.inl ⟨?h4Bx2, ?hyBx2⟩) (by assumption) ?restBx2
    case hoBx2 => (simp only [List.getElem?_toArray, List.getElem?_cons_zero, List.getElem?_cons_succ]; rfl)
    case h1Bx2 => kernel_rfl
    case h2Bx2 => kernel_rfl
    case h3Bx2 => kernel_rfl
    case h4Bx2 => rfl
    case hqBx2 => exact fun _ _ _ h => h
    case hyBx2 => (intro w hSw; (try dsimp only at hSw); go_simp <;> with_reducible rfl)
    (try simp only [Act.put, List.setIfInBounds_toArray, List.set_cons_zero, List.set_cons_succ])
    refine wpAnyH_take (i := 3) (oi := ?oiBx3) (v := ?vBx3) ?hoBx3 ?h1Bx3 ?h2Bx3 ?h3Bx3 ?hqBx3 (Or.inl ⟨?h4Bx3, ?hyBx3⟩) (by assumption) ?restBx3
    case hoBx3 => (simp only [List.getElem?_toArray, List.getElem?_cons_zero, List.getElem?_cons_succ]; rfl)
    case h1Bx3 => kernel_rfl
    case h2Bx3 => kernel_rfl
    case h3Bx3 => kernel_rfl
    case h4Bx3 => rfl
    case hqBx3 => exact fun _ _ _ h => h
    case hyBx3 => (intro w hSw; (try dsimp only at hSw); go_simp <;> with_reducible rfl)
    (try simp only [Act.put, List.setIfInBounds_toArray, List.set_cons_zero, List.set_cons_succ])
    refine wpAnyH_take (i := 4) (oi := ?oiBx4) (v := ?vBx4) ?hoBx4 ?h1Bx4 ?h2Bx4 ?h3Bx4 ?hqBx4 (Or.inl ⟨?h4Bx4, ?hyBx4⟩) (by assumption) ?restBx4
    case hoBx4 => (simp only [List.getElem?_toArray, List.getElem?_cons_zero, List.getElem?_cons_succ]; rfl)
    case h1Bx4 => kernel_rfl
    case h2Bx4 => kernel_rfl
    case h3Bx4 => kernel_rfl
    case h4Bx4 => rfl
    case hqBx4 => exact fun _ _ _ h => h
    case hyBx4 => (intro w hSw; (try dsimp only at hSw); go_simp <;> with_reducible rfl)
    (try simp only [Act.put, List.setIfInBounds_toArray, List.set_cons_zero, List.set_cons_succ])
    refine wpAnyH_take (i := 5) (oi := ?oiBx5) (v := ?vBx5) ?hoBx5 ?h1Bx5 ?h2Bx5 ?h3Bx5 ?hqBx5 (Or.inl ⟨?h4Bx5, ?hyBx5⟩) (by assumption) ?restBx5
    case hoBx5 => (simp only [List.getElem?_toArray, List.getElem?_cons_zero, List.getElem?_cons_succ]; rfl)
    case h1Bx5 => kernel_rfl
    case h2Bx5 => kernel_rfl
    case h3Bx5 => kernel_rfl
    case h4Bx5 => rfl
    case hqBx5 => exact fun _ _ _ h => h
    case hyBx5 => (intro w hSw; (try dsimp only at hSw); go_simp <;> with_reducible rfl)
    (try simp only [Act.put, List.setIfInBounds_toArray, List.set_cons_zero, List.set_cons_succ])
    refine wpAnyH_take (i := 6) (oi := ?oiBx6) (v := ?vBx6) ?hoBx6 ?h1Bx6 ?h2Bx6 ?h3Bx6 ?hqBx6 (Or.inl ⟨?h4Bx6, ?hyBx6⟩) (by assumption) ?restBx6
    case hoBx6 => (simp only [List.getElem?_toArray, List.getElem?_cons_zero, List.getElem?_cons_succ]; rfl)
    case h1Bx6 => kernel_rfl
    case h2Bx6 => kernel_rfl
    case h3Bx6 => kernel_rfl
    case h4Bx6 => rfl
    case hqBx6 => exact fun _ _ _ h => h
    case hyBx6 => (intro w hSw; (try dsimp only at hSw); go_simp <;> with_reducible rfl)
    (try simp only [Act.put, List.setIfInBounds_toArray, List.set_cons_zero, List.set_cons_succ])
    refine wpAnyH_take (i := 7) (oi := ?oiBx7) (v := ?vBx7) ?hoBx7 ?h1Bx7 ?h2Bx7 ?h3Bx7 ?hqBx7 (Or.inl ⟨?h4Bx7, ?hyBx7⟩) (by assumption) ?restBx7
    case hoBx7 => (simp only [List.getElem?_toArray, List.getElem?_cons_zero, List.getElem?_cons_succ]; rfl)
    case h1Bx7 => kernel_rfl
    case h2Bx7 => kernel_rfl
    case h3Bx7 => kernel_rfl
    case h4Bx7 => rfl
    case hqBx7 => exact fun _ _ _ h => h
    case hyBx7 => (intro w hSw; (try dsimp only at hSw); go_simp <;> with_reducible rfl)
    (try simp only [Act.put, List.setIfInBounds_toArray, List.set_cons_zero, List.set_cons_succ])
    refine wpAnyH_take (i := 8) (oi := ?oiBx8) (v := ?vBx8) ?hoBx8 ?h1Bx8 ?h2Bx8 ?h3Bx8 ?hqBx8 (Or.inl ⟨?h4Bx8, ?hyBx8⟩) (by assumption) ?restBx8
    case hoBx8 => (simp only [List.getElem?_toArray, List.getElem?_cons_zero, List.getElem?_cons_succ]; rfl)
    case h1Bx8 => kernel_rfl
    case h2Bx8 => kernel_rfl
    case h3Bx8 => kernel_rfl
    case h4Bx8 => rfl
    case hqBx8 => exact fun _ _ _ h => h
    case hyBx8 => (intro w hSw; (try dsimp only at hSw); go_simp <;> with_reducible rfl)
    (try simp only [Act.put, List.setIfInBounds_toArray, List.set_cons_zero, List.set_cons_succ])
    refine wpAnyH_take (i := 9) (oi := ?oiBx9) (v := ?vBx9) ?hoBx9 ?h1Bx9 ?h2Bx9 ?h3Bx9 ?hqBx9 (Or.inl ⟨?h4Bx9, ?hyBx9⟩) (by assumption) ?restBx9
    case hoBx9 => (simp only [List.getElem?_toArray, List.getElem?_cons_zero, List.getElem?_cons_succ]; rfl)
    case h1Bx9 => kernel_rfl
    case h2Bx9 => kernel_rfl
    case h3Bx9 => kernel_rfl
    case h4Bx9 => rfl
    case hqBx9 => exact fun _ _ _ h => h
    case hyBx9 => (intro w hSw; (try dsimp only at hSw); go_simp <;> with_reducible rfl)
    (try simp only [Act.put, List.setIfInBounds_toArray, List.set_cons_zero, List.set_cons_succ])
    refine wpAnyH_take (i := 10) (oi := ?oiBx10) (v := ?vBx10) ?hoBx10 ?h1Bx10 ?h2Bx10 ?h3Bx10 ?hqBx10 (Or.inl ⟨?h4Bx10, ?hyBx10⟩) (by assumption) ?restBx10
    case hoBx10 => (simp only [List.getElem?_toArray, List.getElem?_cons_zero, List.getElem?_cons_succ]; rfl)
    case h1Bx10 => kernel_rfl
    case h2Bx10 => kernel_rfl
    case h3Bx10 => kernel_rfl
    case h4Bx10 => rfl
    case hqBx10 => exact fun _ _ _ h => h
    case hyBx10 => (intro w hSw; (try dsimp only at hSw); go_simp <;> with_reducible rfl)
    (try simp only [Act.put, List.setIfInBounds_toArray, List.set_cons_zero, List.set_cons_succ])
    refine wpAnyH_take (i := 11) (oi := ?oiBx11) (v := ?vBx11) ?hoBx11 ?h1Bx11 ?h2Bx11 ?h3Bx11 ?hqBx11 (Or.inl ⟨?h4Bx11, ?hyBx11⟩) (by assumption) ?restBx11
    case hoBx11 => (simp only [List.getElem?_toArray, List.getElem?_cons_zero, List.getElem?_cons_succ]; rfl)
    case h1Bx11 => kernel_rfl
    case h2Bx11 => kernel_rfl
    case h3Bx11 => kernel_rfl
    case h4Bx11 => rfl
    case hqBx11 => exact fun _ _ _ h => h
    case hyBx11 => (intro w hSw; (try dsimp only at hSw); go_simp <;> with_reducible rfl)
    (try simp only [Act.put, List.setIfInBounds_toArray, List.set_cons_zero, List.set_cons_succ])
    refine wpAnyH_ready (rs := [12]) (by kernel_rfl) (by simp) ?_
    refine AllReadyH.cons (o := ?oiBx12) ?hoBx12 (fun K hK => ?restBx12) ?moreBx12
    case moreBx12 => exact AllReadyH.nil
    case hoBx12 => (simp only [List.getElem?_toArray, List.getElem?_cons_zero, List.getElem?_cons_succ]; rfl)
    go_simp
    refine hK.out _ _ ?hSnewBy12 (fun hHeld => ?restBy12)
    case hSnewBy12 => ((try dsimp only); exact HS.out _ (((Fr.refl _ _ _ _).drewN 1).set ga _ _ (.inl rfl) |>.set ga _ _ (.inl rfl)))
    clear hK K
    (try simp only [Act.put, List.setIfInBounds_toArray, List.set_cons_zero, List.set_cons_succ])
    refine wpAnyH_take (i := 13) (oi := ?oiBx13) (v := ?vBx13) ?hoBx13 ?h1Bx13 ?h2Bx13 ?h3Bx13 ?hqBx13 (Or.inl ⟨?h4Bx13, ?hyBx13⟩) (by assumption) ?restBx13
    case hoBx13 => (simp only [List.getElem?_toArray, List.getElem?_cons_zero, List.getElem?_cons_succ]; rfl)
    case h1Bx13 => kernel_rfl
    case h2Bx13 => kernel_rfl
    case h3Bx13 => kernel_rfl
    case h4Bx13 => rfl
    case hqBx13 => exact fun _ _ _ h => h
    case hyBx13 => (intro w hSw; (try dsimp only at hSw); go_simp <;> with_reducible rfl)
    (try simp only [Act.put, List.setIfInBounds_toArray, List.set_cons_zero, List.set_cons_succ])
    refine wpAnyH_ready (rs := [14]) (by kernel_rfl) (by simp) ?_
    refine AllReadyH.cons (o := ?oiBx14) ?hoBx14 (fun K hK => ?restBx14) ?moreBx14
    case moreBx14 => exact AllReadyH.nil
    case hoBx14 => (simp only [List.getElem?_toArray, List.getElem?_cons_zero, List.getElem?_cons_succ]; rfl)
    go_simp
    refine hK.out _ _ ?hSnewBy14 (fun hHeld => ?restBy14)
    case hSnewBy14 => ((try dsimp only); exact HS.out _ ((((Fr.refl _ _ _ _).drewN 1).set ga _ _ (.inl rfl) |>.set ga _ _ (.inl rfl)).set gh _ _ (.inr (.inl rfl))))
    clear hK K
    (try simp only [Act.put, List.setIfInBounds_toArray, List.set_cons_zero, List.set_cons_succ])
    refine wpAnyH_done (by kernel_rfl) ?_ _
    go_wp2
    go_ret
    exact ⟨rfl, (((HP3.out.drewN 1).set_at k hk (0, 0)).set_has k false), hF3.trans ((((Fr.refl _ _ _ _).drewN 1).set ga _ _ (.inl rfl) |>.set ga _ _ (.inl rfl)).set gh _ _ (.inr (.inl rfl)))⟩

theorem drop_out (b ga gh gc N M : Nat) (at' : List (Int × Int)) (has : List Bool) (cnt : List Int) (k : Int) (w : World) (h : PM w b ga gh gc N M at' has cnt) (hk : ¬ (0 ≤ k ∧ k < N)) :
    Calls Try.prog 23 #[.pointer (some ⟨b, 0, none⟩), .int .i64 k] w fun e w' => e = .returned (.int .i64 1) ∧ w' = w := by
  have hN := h.nM.1
  obtain ⟨c0, c1, c2⟩ := h.cells
  clear h
  by_cases hk0 : k < 0
  · clear hk
    go_enter Try.func23, Try.ntmps23
    go_wp2
    go_ret
    exact ⟨rfl, rfl⟩
  · have hk1 : (N : Int) ≤ k := by omega
    clear hk
    go_enter Try.func23, Try.ntmps23
    go_wp2
    go_ret
    exact ⟨rfl, rfl⟩
end Go.Proofs.Ytnlidokfmpfepaa.Pmap
