import Derived.Test.YtnlidokfmpfepaaPmapDrop
import Derived.StillTailTactics
set_option linter.unusedVariables false
set_option linter.unusedSimpArgs false
namespace Go.Proofs.Ytnlidokfmpfepaa.Pmap
open Go.RowKit Go.Proofs.Ytnlidokfmpfepaa.Kit

def scnt (at' : List (Int × Int)) (has : List Bool) (cnt : List Int) (k B : Nat) : List Int := (dcnt at' has cnt k).set B ((dcnt at' has cnt k).getD B 0 + 1)

set_option maxRecDepth 100000 in
set_option maxHeartbeats 8000000 in
theorem set_in (b ga gh gc N M : Nat) (at' : List (Int × Int)) (has : List Bool) (cnt : List Int) (k B P : Nat) (w : World) (h : PM w b ga gh gc N M at' has cnt) (hk : k < N) (hB : B < M) (hP : P < 32)
    (hw : has.getD k false = true → 0 ≤ (at'.getD k (0, 0)).1 ∧ (at'.getD k (0, 0)).1 < M ∧ 1 ≤ cnt.getD (at'.getD k (0, 0)).1.toNat 0 ∧ cnt.getD (at'.getD k (0, 0)).1.toNat 0 ≤ 65536)
    (hc : 0 ≤ (dcnt at' has cnt k).getD B 0 ∧ (dcnt at' has cnt k).getD B 0 ≤ 65536) (hga : ga < w.heap.size) (hgh : gh < w.heap.size) (hgc : gc < w.heap.size) :
    Calls Try.prog 14 #[.pointer (some ⟨b, 0, none⟩), .int .i64 (k : Int), .agg #[.int .i64 (B : Int), .int .i64 (P : Int)]] w fun e w' => e = .returned (.int .i64 0) ∧ PM w' b ga gh gc N M (at'.set k ((B : Int), (P : Int))) (has.set k true) (scnt at' has cnt k B) ∧ Fr w w' ga gh gc := by
  have hN := h.nM.1
  have hM := h.nM.2
  have hkI : (k : Int) < (N : Int) := by omega
  have hk0 : (0 : Int) ≤ (k : Int) := by omega
  have hBI : (B : Int) < (M : Int) := by omega
  have hB0 : (0 : Int) ≤ (B : Int) := by omega
  have hPI : (P : Int) < 32 := by omega
  have hP0 : (0 : Int) ≤ (P : Int) := by omega
  have hdr := fun W (hp : PM W b ga gh gc N M at' has cnt) => drop_in b ga gh gc N M at' has cnt k W hp hk hw
  have Hs := hid (show scnt at' has cnt k B = (dcnt at' has cnt k).set B ((dcnt at' has cnt k).getD B 0 + 1) from rfl)
  generalize dcnt at' has cnt k = dc at *
  clear hw
  go_enter Try.func14, Try.ntmps14
  go_upto_region 1 with (fail)
  obtain ⟨bx, hbx⟩ : ∃ g, w.heap.size = g := ⟨_, rfl⟩
  obtain ⟨w2, hw⟩ : ∃ W, W = w.alloc (.cells #[.int .i64 (B : Int), .int .i64 (P : Int)] 28) := ⟨_, rfl⟩
  have hb2 : Blk w2 bx #[.int .i64 (B : Int), .int .i64 (P : Int)] 28 := by rw [hw, ← hbx]; exact Blk.new _ _ _
  have hB2 : Below w.heap.size w w2 := by rw [hw]; exact (Below.refl _ _).alloc (Nat.le_refl _) _
  rw [← hw, hbx]
  clear hw
  have hF2 : Fr w w2 ga gh gc := Fr.of_below hB2
  have h2 := h.later hB2
  have hxa : bx ≠ ga := by omega
  have hxh : bx ≠ gh := by omega
  have hxc : bx ≠ gc := by omega
  clear hbx hB2 hga hgh hgc h
  obtain ⟨c0, c1, c2⟩ := h2.cells
  obtain ⟨⟨d0, d1⟩, -⟩ := hb2.two
  have H2 := hid h2
  have Hb2 := hid hb2
  clear h2 hb2
  go_upto_region 3 with (fail)
  have e1 : decide ((k : Int) < 0) = false := decide_eq_false (by omega)
  have e2 : decide ((N : Int) ≤ (k : Int)) = false := decide_eq_false (by omega)
  have e2n : decide (N ≤ k) = false := decide_eq_false (by omega)
  have e3 : decide ((B : Int) < 0) = false := decide_eq_false (by omega)
  have e4 : decide ((M : Int) ≤ (B : Int)) = false := decide_eq_false (by omega)
  have e4n : decide (M ≤ B) = false := decide_eq_false (by omega)
  have e5 : decide ((P : Int) < 0) = false := decide_eq_false (by omega)
  have e6 : decide ((32 : Int) ≤ (P : Int)) = false := decide_eq_false (by omega)
  have e6n : decide (32 ≤ P) = false := decide_eq_false (by omega)
  go_quiet (fail)
  clear e1 e2 e2n e3 e4 e4n e5 e6 e6n
  go_wp2_with fail
  refine (hdr _ (H2.out.drewN nq)).mono ?_
  rintro e w3 ⟨rfl, h3, hF3⟩
  have hF23 := hF2.trans ((Fr.drewN (Fr.refl w2 ga gh gc) nq).trans hF3)
  have hb3 : Blk w3 bx #[.int .i64 (B : Int), .int .i64 (P : Int)] 28 := (hF3.block bx Hb2.out.lt hxa hxh hxc).trans Hb2.out
  clear hF2 hF3 hdr c0 c1 c2 d0 d1
  obtain ⟨c0, c1, c2⟩ := h3.cells
  obtain ⟨⟨d0, d1⟩, -⟩ := hb3.two
  have hh := h3.has_at k hk
  obtain ⟨a0, a1⟩ := h3.at_at k hk
  have fa0 := h3.ats.free (k * 2)
  have fa1 := h3.ats.free (k * 2 + 1)
  have fh := h3.hass.free k
  have H3 := hid h3
  have Hb3 := hid hb3
  have HS := hid (fun W (q : Fr w3 W ga gh gc) => (⟨h3.cells_fr q, ((show Blk W bx #[.int .i64 (B : Int), .int .i64 (P : Int)] 28 from (q.block bx hb3.lt hxa hxh hxc).trans hb3).two).1⟩ : _ ∧ _))
  obtain ⟨-, -, -, n4, n5, n6⟩ := h3.ne
  have n4' := Ne.symm n4
  have n5' := Ne.symm n5
  have n6' := Ne.symm n6
  clear h3 hb3
  generalize (has.set k false).getD k false = hb0 at *
  generalize (at'.set k (0, 0)).getD k (0, 0) = p0 at *
  go_upto_region 6 with (fail)
  refine wp_region_held_drew (S := (fun w' => (w'.cell? ⟨b, 0, none⟩ = some (.slice (some ⟨ga, 0, none⟩) N N) ∧ w'.cell? ⟨b, 1, none⟩ = some (.slice (some ⟨gh, 0, none⟩) N N) ∧ w'.cell? ⟨b, 2, none⟩ = some (.slice (some ⟨gc, 0, none⟩) M M)) ∧ (w'.cell? ⟨bx, 0, none⟩ = some (.int .i64 (B : Int)) ∧ w'.cell? ⟨bx, 1, none⟩ = some (.int .i64 (P : Int))))) (by kernel_rfl) ?hSnewSz (fun hHeld => ?restSz)
  case hSnewSz => ((try dsimp only); exact HS.out _ ((Fr.refl _ _ _ _).drewN 1))
  refine wpAnyH_take (i := 0) (oi := ?oiSx0) (v := ?vSx0) ?hoSx0 ?h1Sx0 ?h2Sx0 ?h3Sx0 ?hqSx0 (Or.inl ⟨?h4Sx0, ?hySx0⟩) (by assumption) ?restSx0
  case hoSx0 => (simp only [List.getElem?_toArray, List.getElem?_cons_zero, List.getElem?_cons_succ]; rfl)
  case h1Sx0 => kernel_rfl
  case h2Sx0 => kernel_rfl
  case h3Sx0 => kernel_rfl
  case h4Sx0 => rfl
  case hqSx0 => exact fun _ _ _ h => h
  case hySx0 => (intro w hSw; (try dsimp only at hSw); go_simp <;> with_reducible rfl)
  (try simp only [Act.put, List.setIfInBounds_toArray, List.set_cons_zero, List.set_cons_succ])
  refine wpAnyH_take (i := 1) (oi := ?oiSx1) (v := ?vSx1) ?hoSx1 ?h1Sx1 ?h2Sx1 ?h3Sx1 ?hqSx1 (Or.inl ⟨?h4Sx1, ?hySx1⟩) (by assumption) ?restSx1
  case hoSx1 => (simp only [List.getElem?_toArray, List.getElem?_cons_zero, List.getElem?_cons_succ]; rfl)
  case h1Sx1 => kernel_rfl
  case h2Sx1 => kernel_rfl
  case h3Sx1 => kernel_rfl
  case h4Sx1 => rfl
  case hqSx1 => exact fun _ _ _ h => h
  case hySx1 => (intro w hSw; (try dsimp only at hSw); go_simp <;> with_reducible rfl)
  (try simp only [Act.put, List.setIfInBounds_toArray, List.set_cons_zero, List.set_cons_succ])
  refine wpAnyH_take (i := 2) (oi := ?oiSx2) (v := ?vSx2) ?hoSx2 ?h1Sx2 ?h2Sx2 ?h3Sx2 ?hqSx2 (Or.inl ⟨?h4Sx2, ?hySx2⟩) (by assumption) ?restSx2
  case hoSx2 => (simp only [List.getElem?_toArray, List.getElem?_cons_zero, List.getElem?_cons_succ]; rfl)
  case h1Sx2 => kernel_rfl
  case h2Sx2 => kernel_rfl
  case h3Sx2 => kernel_rfl
  case h4Sx2 => rfl
  case hqSx2 => exact fun _ _ _ h => h
  case hySx2 => (intro w hSw; (try dsimp only at hSw); go_simp <;> with_reducible rfl)
  (try simp only [Act.put, List.setIfInBounds_toArray, List.set_cons_zero, List.set_cons_succ])
  refine wpAnyH_take (i := 3) (oi := ?oiSx3) (v := ?vSx3) ?hoSx3 ?h1Sx3 ?h2Sx3 ?h3Sx3 ?hqSx3 (Or.inl ⟨?h4Sx3, ?hySx3⟩) (by assumption) ?restSx3
  case hoSx3 => (simp only [List.getElem?_toArray, List.getElem?_cons_zero, List.getElem?_cons_succ]; rfl)
  case h1Sx3 => kernel_rfl
  case h2Sx3 => kernel_rfl
  case h3Sx3 => kernel_rfl
  case h4Sx3 => rfl
  case hqSx3 => exact fun _ _ _ h => h
  case hySx3 => (intro w hSw; (try dsimp only at hSw); go_simp <;> with_reducible rfl)
  (try simp only [Act.put, List.setIfInBounds_toArray, List.set_cons_zero, List.set_cons_succ])
  refine wpAnyH_take (i := 4) (oi := ?oiSx4) (v := ?vSx4) ?hoSx4 ?h1Sx4 ?h2Sx4 ?h3Sx4 ?hqSx4 (Or.inl ⟨?h4Sx4, ?hySx4⟩) (by assumption) ?restSx4
  case hoSx4 => (simp only [List.getElem?_toArray, List.getElem?_cons_zero, List.getElem?_cons_succ]; rfl)
  case h1Sx4 => kernel_rfl
  case h2Sx4 => kernel_rfl
  case h3Sx4 => kernel_rfl
  case h4Sx4 => rfl
  case hqSx4 => exact fun _ _ _ h => h
  case hySx4 => (intro w hSw; (try dsimp only at hSw); go_simp <;> with_reducible rfl)
  (try simp only [Act.put, List.setIfInBounds_toArray, List.set_cons_zero, List.set_cons_succ])
  refine wpAnyH_take (i := 5) (oi := ?oiSx5) (v := ?vSx5) ?hoSx5 ?h1Sx5 ?h2Sx5 ?h3Sx5 ?hqSx5 (Or.inl ⟨?h4Sx5, ?hySx5⟩) (by assumption) ?restSx5
  case hoSx5 => (simp only [List.getElem?_toArray, List.getElem?_cons_zero, List.getElem?_cons_succ]; rfl)
  case h1Sx5 => kernel_rfl
  case h2Sx5 => kernel_rfl
  case h3Sx5 => kernel_rfl
  case h4Sx5 => rfl
  case hqSx5 => exact fun _ _ _ h => h
  case hySx5 => (intro w hSw; (try dsimp only at hSw); go_simp <;> with_reducible rfl)
  (try simp only [Act.put, List.setIfInBounds_toArray, List.set_cons_zero, List.set_cons_succ])
  refine wpAnyH_take (i := 6) (oi := ?oiSx6) (v := ?vSx6) ?hoSx6 ?h1Sx6 ?h2Sx6 ?h3Sx6 ?hqSx6 (Or.inl ⟨?h4Sx6, ?hySx6⟩) (by assumption) ?restSx6
  case hoSx6 => (simp only [List.getElem?_toArray, List.getElem?_cons_zero, List.getElem?_cons_succ]; rfl)
  case h1Sx6 => kernel_rfl
  case h2Sx6 => kernel_rfl
  case h3Sx6 => kernel_rfl
  case h4Sx6 => rfl
  case hqSx6 => exact fun _ _ _ h => h
  case hySx6 => (intro w hSw; (try dsimp only at hSw); go_simp <;> with_reducible rfl)
  (try simp only [Act.put, List.setIfInBounds_toArray, List.set_cons_zero, List.set_cons_succ])
  refine wpAnyH_take (i := 7) (oi := ?oiSx7) (v := ?vSx7) ?hoSx7 ?h1Sx7 ?h2Sx7 ?h3Sx7 ?hqSx7 (Or.inl ⟨?h4Sx7, ?hySx7⟩) (by assumption) ?restSx7
  case hoSx7 => (simp only [List.getElem?_toArray, List.getElem?_cons_zero, List.getElem?_cons_succ]; rfl)
  case h1Sx7 => kernel_rfl
  case h2Sx7 => kernel_rfl
  case h3Sx7 => kernel_rfl
  case h4Sx7 => rfl
  case hqSx7 => exact fun _ _ _ h => h
  case hySx7 => (intro w hSw; (try dsimp only at hSw); go_simp <;> with_reducible rfl)
  (try simp only [Act.put, List.setIfInBounds_toArray, List.set_cons_zero, List.set_cons_succ])
  refine wpAnyH_take (i := 8) (oi := ?oiSx8) (v := ?vSx8) ?hoSx8 ?h1Sx8 ?h2Sx8 ?h3Sx8 ?hqSx8 (Or.inl ⟨?h4Sx8, ?hySx8⟩) (by assumption) ?restSx8
  case hoSx8 => (simp only [List.getElem?_toArray, List.getElem?_cons_zero, List.getElem?_cons_succ]; rfl)
  case h1Sx8 => kernel_rfl
  case h2Sx8 => kernel_rfl
  case h3Sx8 => kernel_rfl
  case h4Sx8 => rfl
  case hqSx8 => exact fun _ _ _ h => h
  case hySx8 => (intro w hSw; (try dsimp only at hSw); go_simp <;> with_reducible rfl)
  (try simp only [Act.put, List.setIfInBounds_toArray, List.set_cons_zero, List.set_cons_succ])
  refine wpAnyH_take (i := 9) (oi := ?oiSx9) (v := ?vSx9) ?hoSx9 ?h1Sx9 ?h2Sx9 ?h3Sx9 ?hqSx9 (Or.inl ⟨?h4Sx9, ?hySx9⟩) (by assumption) ?restSx9
  case hoSx9 => (simp only [List.getElem?_toArray, List.getElem?_cons_zero, List.getElem?_cons_succ]; rfl)
  case h1Sx9 => kernel_rfl
  case h2Sx9 => kernel_rfl
  case h3Sx9 => kernel_rfl
  case h4Sx9 => rfl
  case hqSx9 => exact fun _ _ _ h => h
  case hySx9 => (intro w hSw; (try dsimp only at hSw); go_simp <;> with_reducible rfl)
  (try simp only [Act.put, List.setIfInBounds_toArray, List.set_cons_zero, List.set_cons_succ])
  refine wpAnyH_take (i := 10) (oi := ?oiSx10) (v := ?vSx10) ?hoSx10 ?h1Sx10 ?h2Sx10 ?h3Sx10 ?hqSx10 (Or.inl ⟨?h4Sx10, ?hySx10⟩) (by assumption) ?restSx10
  case hoSx10 => (simp only [List.getElem?_toArray, List.getElem?_cons_zero, List.getElem?_cons_succ]; rfl)
  case h1Sx10 => kernel_rfl
  case h2Sx10 => kernel_rfl
  case h3Sx10 => kernel_rfl
  case h4Sx10 => rfl
  case hqSx10 => exact fun _ _ _ h => h
  case hySx10 => (intro w hSw; (try dsimp only at hSw); go_simp <;> with_reducible rfl)
  (try simp only [Act.put, List.setIfInBounds_toArray, List.set_cons_zero, List.set_cons_succ])
  refine wpAnyH_take (i := 11) (oi := ?oiSx11) (v := ?vSx11) ?hoSx11 ?h1Sx11 ?h2Sx11 ?h3Sx11 ?hqSx11 (Or.inl ⟨?h4Sx11, ?hySx11⟩) (by assumption) ?restSx11
  case hoSx11 => (simp only [List.getElem?_toArray, List.getElem?_cons_zero, List.getElem?_cons_succ]; rfl)
  case h1Sx11 => kernel_rfl
  case h2Sx11 => kernel_rfl
  case h3Sx11 => kernel_rfl
  case h4Sx11 => rfl
  case hqSx11 => exact fun _ _ _ h => h
  case hySx11 => (intro w hSw; (try dsimp only at hSw); go_simp <;> with_reducible rfl)
  (try simp only [Act.put, List.setIfInBounds_toArray, List.set_cons_zero, List.set_cons_succ])
  refine wpAnyH_ready (rs := [12]) (by kernel_rfl) (by simp) ?_
  refine AllReadyH.cons (o := ?oiSx12) ?hoSx12 (fun K hK => ?restSx12) ?moreSx12
  case moreSx12 => exact AllReadyH.nil
  case hoSx12 => (simp only [List.getElem?_toArray, List.getElem?_cons_zero, List.getElem?_cons_succ]; rfl)
  go_simp
  refine hK.out _ _ ?hSnewSy12 (fun hHeld => ?restSy12)
  case hSnewSy12 => ((try dsimp only); exact HS.out _ (((Fr.refl _ _ _ _).drewN 1).set ga _ _ (.inl rfl) |>.set ga _ _ (.inl rfl)))
  clear hK K
  (try simp only [Act.put, List.setIfInBounds_toArray, List.set_cons_zero, List.set_cons_succ])
  refine wpAnyH_take (i := 13) (oi := ?oiSx13) (v := ?vSx13) ?hoSx13 ?h1Sx13 ?h2Sx13 ?h3Sx13 ?hqSx13 (Or.inl ⟨?h4Sx13, ?hySx13⟩) (by assumption) ?restSx13
  case hoSx13 => (simp only [List.getElem?_toArray, List.getElem?_cons_zero, List.getElem?_cons_succ]; rfl)
  case h1Sx13 => kernel_rfl
  case h2Sx13 => kernel_rfl
  case h3Sx13 => kernel_rfl
  case h4Sx13 => rfl
  case hqSx13 => exact fun _ _ _ h => h
  case hySx13 => (intro w hSw; (try dsimp only at hSw); go_simp <;> with_reducible rfl)
  (try simp only [Act.put, List.setIfInBounds_toArray, List.set_cons_zero, List.set_cons_succ])
  refine wpAnyH_ready (rs := [14]) (by kernel_rfl) (by simp) ?_
  refine AllReadyH.cons (o := ?oiSx14) ?hoSx14 (fun K hK => ?restSx14) ?moreSx14
  case moreSx14 => exact AllReadyH.nil
  case hoSx14 => (simp only [List.getElem?_toArray, List.getElem?_cons_zero, List.getElem?_cons_succ]; rfl)
  go_simp
  refine hK.out _ _ ?hSnewSy14 (fun hHeld => ?restSy14)
  case hSnewSy14 => ((try dsimp only); exact HS.out _ ((((Fr.refl _ _ _ _).drewN 1).set ga _ _ (.inl rfl) |>.set ga _ _ (.inl rfl)).set gh _ _ (.inr (.inl rfl))))
  clear hK K
  (try simp only [Act.put, List.setIfInBounds_toArray, List.set_cons_zero, List.set_cons_succ])
  refine wpAnyH_done (by kernel_rfl) ?_ _
  have h7 := ((H3.out.set_at k hk ((B : Int), (P : Int))).set_has k true).drewN 1
  have hF7 := hF23.trans (((((Fr.refl w3 ga gh gc).set ga (k * 2) (.int .i64 (B : Int)) (.inl rfl)).set ga (k * 2 + 1) (.int .i64 (P : Int)) (.inl rfl)).set gh k (.bool true) (.inr (.inl rfl))).drewN 1)
  have hb7 := (((Hb3.out.setOther (⟨ga, k * 2, none⟩ : Addr) hxa (.int .i64 (B : Int))).setOther (⟨ga, k * 2 + 1, none⟩ : Addr) hxa (.int .i64 (P : Int))).setOther (⟨gh, k, none⟩ : Addr) hxh (.bool true)).drewN 1
  obtain ⟨w7, hw7⟩ : ∃ W, (((w3.setCell ⟨ga, k * 2, none⟩ (.int .i64 (B : Int))).setCell ⟨ga, k * 2 + 1, none⟩ (.int .i64 (P : Int))).setCell ⟨gh, k, none⟩ (.bool true)).drewN 1 = W := ⟨_, rfl⟩
  have hgoal : (((w3.setCell ⟨ga, k * 2, none⟩ (.int .i64 (B : Int))).setCell ⟨ga, k * 2 + 1, none⟩ (.int .i64 (P : Int))).setCell ⟨gh, k, none⟩ (.bool true)).drew = w7 := hw7
  simp only at h7
  rw [hw7] at h7 hF7 hb7
  rw [hgoal]
  clear hgoal
  rw [List.set_set, List.set_set] at h7
  clear hw7 c0 c1 c2 d0 d1 hh a0 a1 fa0 fa1 fh HS hF23 n4 n5 n6 n4' n5' n6'
  obtain ⟨c0, c1, c2⟩ := h7.cells
  obtain ⟨⟨d0, d1⟩, -⟩ := hb7.two
  have hcn := h7.cnt_at B hB
  have fc := h7.cnts.free B
  have H7 := hid h7
  clear h7 hb7
  generalize dc.getD B 0 = cx at *
  obtain ⟨hc0, hc1⟩ := hc
  go_upto_region 7 with (fail)
  have hwx : IntKind.i64.wrap (cx + 1) = cx + 1 := IntWalk.i64_in _ (by omega)
  go_still_tail 10, (by kernel_rfl)
  change wpList _ _ _ _ _ w7.drew
  clear hwx
  go_wp2
  go_ret
  exact ⟨rfl, by rw [Hs.out]; exact (H7.out.set_cnt B (cx + 1)).drewN 1, hF7.trans (((Fr.refl _ _ _ _).set gc _ _ (.inr (.inr rfl))).drewN 1)⟩
end Go.Proofs.Ytnlidokfmpfepaa.Pmap
