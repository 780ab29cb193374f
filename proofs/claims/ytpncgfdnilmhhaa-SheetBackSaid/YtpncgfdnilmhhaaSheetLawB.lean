import Derived.Test.YtpncgfdnilmhhaaSheetNear
import Derived.Test.YtpncgfdnilmhhaaSheetAwake
import Derived.Test.YtpncgfdnilmhhaaSheetSame
import Derived.Test.YtpncgfdnilmhhaaSheetRead
import Derived.Test.YtpncgfdnilmhhaaSheetRefRd
import Derived.BigRegion
set_option linter.unusedVariables false
set_option linter.unusedSimpArgs false
namespace Go.Proofs.Ytpncgfdnilmhhaa.Sheet
open Go.RowKit Go.Proofs.Ytpncgfdnilmhhaa.Kit Go.Proofs.Ytpncgfdnilmhhaa.Oct

set_option maxRecDepth 100000 in
set_option maxHeartbeats 4000000 in
theorem law_back (K1 E1 S1 a1 F1 : Int) (A1 : Option Addr) (n1 c1 : Nat) (xs1 : List Int) (hK1 : 0 ≤ K1 ∧ K1 ≤ 255) (hE1 : 0 ≤ E1 ∧ E1 ≤ 18446744073709551615) (hS1 : 0 ≤ S1 ∧ S1 ≤ 18446744073709551615) (w : World) (hz1 : Nums w .u8 A1 n1 xs1) :
    Calls Try.prog 5 #[.agg #[.int .u8 K1, .int .u64 E1, .int .u64 S1, .int .i64 a1, .int .i64 F1, .slice A1 n1 c1]] w fun e w' => e = .returned (.bool true) ∧ Below w.heap.size w w' := by
  have G1 := fun W (h : Nums W .u8 A1 n1 xs1) => near_any K1 E1 S1 a1 F1 A1 n1 c1 xs1 W hK1 hE1 hS1 h
  clear hK1 hE1 hS1
  go_enter Try.func5, Try.ntmps5
  go_upto_region 1 with (fail)
  obtain ⟨w2, hw2⟩ : ∃ w2, w2 = (w.alloc (.cells #[.int .u8 K1, .int .u64 E1, .int .u64 S1, .int .i64 a1, .int .i64 F1, .slice A1 n1 c1] 25)) := ⟨_, rfl⟩
  have hb2 : Blk w2 w.heap.size #[.int .u8 K1, .int .u64 E1, .int .u64 S1, .int .i64 a1, .int .i64 F1, .slice A1 n1 c1] 25 := by rw [hw2]; exact Blk.new _ _ _
  have hB2 : Below w.heap.size w w2 := by rw [hw2]; exact (Below.refl _ _).alloc (Nat.le_refl _) _
  rw [← hw2]
  clear hw2
  have Hz2 := hid (hz1.below hB2)
  have Hb2 := hid hb2
  have HB2 := hid hB2
  clear hb2 hz1 hB2
  go_wp2_with fail
  refine (awake_any w2).mono ?_
  rintro e w3 ⟨rfl, hB3⟩
  have hz3 := Hz2.out.below hB3
  have hb3 := Hb2.out.later hB3
  have hB3' := HB2.out.trans (hB3.mono HB2.out.size)
  obtain ⟨⟨k0, k1, k2, k3, k4, k5⟩, -⟩ := hb3.six
  clear hb3 hB3
  go_wp2_with fail
  refine (G1 w3 hz3).mono ?_
  clear G1 hz3 k0 k1 k2 k3 k4 k5
  rintro e w4 ⟨K1, E1, S1, a1, f1, A1, n1, c1, ys1, rfl, hf1, hz4, hB4⟩
  have hB4' := hB3'.trans (hB4.mono hB3'.size)
  clear hB3' hB4
  go_upto_region 4 with (fail)
  obtain ⟨gx, hgx⟩ : ∃ g, w4.heap.size = g := ⟨_, rfl⟩
  rw [hgx]
  obtain ⟨w5, hw⟩ : ∃ W, W = w4.alloc (.cells #[.int .u8 (K1 : Int), .int .u64 (E1 : Int), .int .u64 (S1 : Int), .int .i64 (a1 : Int), .int .i64 ((f1 : Int) - 1), .slice A1 n1 c1] 25) := ⟨_, rfl⟩
  have hgxb : Blk w5 gx #[.int .u8 (K1 : Int), .int .u64 (E1 : Int), .int .u64 (S1 : Int), .int .i64 (a1 : Int), .int .i64 ((f1 : Int) - 1), .slice A1 n1 c1] 25 := by rw [hw, ← hgx]; exact Blk.new _ _ _
  have hA5 : Below w4.heap.size w4 w5 := by rw [hw]; exact (Below.refl _ _).alloc (Nat.le_refl _) _
  rw [← hw]
  clear hw hgx
  have hz5 := hz4.below hA5
  have hB5 := hB4'.trans (hA5.mono hB4'.size)
  obtain ⟨⟨c0, c1', c2', c3, c4, c5⟩, -⟩ := hgxb.six
  clear hA5 hz4 hB4'
  go_wp2_with fail
  refine (lay_any K1 E1 S1 a1 f1 ((f1 : Int) - 1) A1 n1 c1 ys1 w5 hz5 (by have := hf1.2.1; omega) (by have := hf1.2.2.1; omega) (by have := hf1.2.2.2.1; omega) (by have := hf1.2.2.2.2.1; omega) (by have := hf1.2.2.2.2.2.1; omega) rfl (by have := hf1.2.2.2.2.2.2.1; have := Nums.len hz5; omega)).mono ?_
  rintro e w6 ⟨v6, rfl, ho6, hB6⟩
  have h7 := hf1.2.2.2.2.2.2.1
  have hpl1 := page_len K1 E1 S1 a1 f1 ys1 h7
  have hpB1 := page_isB K1 E1 S1 a1 f1 hf1.2.2.2.2.2.2.2.2
  obtain ⟨P1, q1, e6, hq1, hp6⟩ := ho6.reads hpB1
  rw [hpl1] at e6 hq1 hp6
  subst e6
  have hz6 := hz5.below hB6
  have hx6 := hgxb.later hB6
  have hB6' := hB5.trans (hB6.mono hB5.size)
  clear c0 c1' c2' c3 c4 c5 ho6 hB6 hgxb hz5 hB5
  obtain ⟨pg1, hpg1⟩ : ∃ pg, page K1 E1 S1 a1 f1 ys1 = pg := ⟨_, rfl⟩
  rw [hpg1] at hpl1 hpB1 hp6
  have Hpg1 := hid hpg1
  have Hf1 := hid hf1
  clear hpg1 hf1 h7
  go_wp2_with fail
  refine (sread_any P1 96 q1 pg1 w6 hp6 hq1).mono ?_
  rintro e w7 ⟨v7, k7, rfl, ht7, hB7⟩
  obtain ⟨K2, E2, S2, a2, f2, A2, n2, c2, ys2, rfl, rfl, hf2, hz7, he2⟩ : ∃ (K E S a f : Nat) (A : Option Addr) (n c : Nat) (ys : List Int), v7 = .agg #[.int .u8 (K : Int), .int .u64 (E : Int), .int .u64 (S : Int), .int .i64 (a : Int), .int .i64 ((f : Int) - 1), .slice A n c] ∧ k7 = 0 ∧ formN K E S a f ys ∧ Nums w7 .u8 A n ys ∧ pg1 = page K E S a f ys := by
    rcases ht7 with h | ⟨h, _⟩
    · exact h
    · exact absurd ⟨K1, E1, S1, a1, f1, ys1, Hf1.out, Hpg1.out.symm⟩ h
  obtain ⟨rfl, rfl, rfl, rfl, rfl, rfl⟩ := page_inj Hf1.out hf2 (Hpg1.out.trans he2)
  clear hf2 he2 ht7
  go_upto_region 6 with (fail)
  obtain ⟨gy, hgy⟩ : ∃ g, w7.heap.size = g := ⟨_, rfl⟩
  rw [hgy]
  obtain ⟨w8, hw⟩ : ∃ W, W = w7.alloc (.cells #[.int .u8 (K1 : Int), .int .u64 (E1 : Int), .int .u64 (S1 : Int), .int .i64 (a1 : Int), .int .i64 ((f1 : Int) - 1), .slice A2 n2 c2] 25) := ⟨_, rfl⟩
  have hgyb : Blk w8 gy #[.int .u8 (K1 : Int), .int .u64 (E1 : Int), .int .u64 (S1 : Int), .int .i64 (a1 : Int), .int .i64 ((f1 : Int) - 1), .slice A2 n2 c2] 25 := by rw [hw, ← hgy]; exact Blk.new _ _ _
  have hA8 : Below w7.heap.size w7 w8 := by rw [hw]; exact (Below.refl _ _).alloc (Nat.le_refl _) _
  rw [← hw]
  clear hw hgy
  have hx8 := hx6.later (hB7.trans (hA8.mono hB7.size))
  have hB68 := hB7.trans (hA8.mono hB7.size)
  have Hz1 := hid (hz6.below hB68)
  have Hz2' := hid (hz7.below hA8)
  have HB := hid (hB6'.trans (hB68.mono hB6'.size))
  have hp8 := hp6.below hB68
  have HS := hid (fun W (h : Below w8.heap.size w8 W) => (⟨⟨(hx8.later h).six.1, (hgyb.later h).six.1⟩, conv_str (c := q1) (hp8.below h)⟩ : (_ ∧ _) ∧ _))
  have hBd : Below w8.heap.size w8 (w8.drewN 1) := below_drewN (Below.refl _ _) 1
  clear hx6 hx8 hgyb hB7 hA8 hB68 hz6 hz7 hB6' hp6 hp8
  have O1 := fun W => of_any (K1 : Int) (E1 : Int) (S1 : Int) (a1 : Int) ((f1 : Int) - 1) A1 n1 c1 W
  have O2 := fun W => of_any (K1 : Int) (E1 : Int) (S1 : Int) (a1 : Int) ((f1 : Int) - 1) A2 n2 c2 W
  have L1 : ∀ W, Nums W .u8 A1 n1 ys1 → Calls Try.prog 18 #[.agg #[.int .u8 (K1 : Int), .int .u64 (E1 : Int), .int .u64 (S1 : Int), .int .i64 (a1 : Int), .int .i64 ((f1 : Int) - 1), .slice A1 n1 c1]] W fun e w' => ∃ v, e = .returned v ∧ OwnB w' W.heap.size v pg1 ∧ Below W.heap.size W w' := fun W h => by
    have hf1 := Hf1.out
    rw [← Hpg1.out]
    exact rlay_any K1 E1 S1 a1 f1 ((f1 : Int) - 1) A1 n1 c1 ys1 W h (by have := hf1.2.1; omega) (by have := hf1.2.2.1; omega) (by have := hf1.2.2.2.1; omega) (by have := hf1.2.2.2.2.1; omega) (by have := hf1.2.2.2.2.2.1; omega) rfl (by have := hf1.2.2.2.2.2.2.1; have := Nums.len h; omega)
  have SM : ∀ W, Nums W .u8 A1 n1 ys1 → Nums W .u8 A2 n2 ys1 → Calls Try.prog 13 #[.agg #[.int .u8 (K1 : Int), .int .u64 (E1 : Int), .int .u64 (S1 : Int), .int .i64 (a1 : Int), .int .i64 ((f1 : Int) - 1), .slice A1 n1 c1], .agg #[.int .u8 (K1 : Int), .int .u64 (E1 : Int), .int .u64 (S1 : Int), .int .i64 (a1 : Int), .int .i64 ((f1 : Int) - 1), .slice A2 n2 c2]] W fun e w' => e = .returned (.bool true) ∧ Below W.heap.size W w' := fun W h1 h2 => by
    have := same_any (K1 : Int) (E1 : Int) (S1 : Int) (a1 : Int) ((f1 : Int) - 1) A1 n1 c1 ys1 (K1 : Int) (E1 : Int) (S1 : Int) (a1 : Int) ((f1 : Int) - 1) A2 n2 c2 ys1 W h1 h2
    rw [decide_eq_true ⟨rfl, rfl, rfl, rfl, rfl, rfl⟩] at this
    exact this
  have hse := str_eq_true (show pg1 = pg1 from rfl)
  refine wp_region_held_drew (S := (fun w' => ((w'.cell? ⟨gx, 0, none⟩ = some (.int .u8 (K1 : Int)) ∧ w'.cell? ⟨gx, 1, none⟩ = some (.int .u64 (E1 : Int)) ∧ w'.cell? ⟨gx, 2, none⟩ = some (.int .u64 (S1 : Int)) ∧ w'.cell? ⟨gx, 3, none⟩ = some (.int .i64 (a1 : Int)) ∧ w'.cell? ⟨gx, 4, none⟩ = some (.int .i64 ((f1 : Int) - 1)) ∧ w'.cell? ⟨gx, 5, none⟩ = some (.slice A1 n1 c1)) ∧ (w'.cell? ⟨gy, 0, none⟩ = some (.int .u8 (K1 : Int)) ∧ w'.cell? ⟨gy, 1, none⟩ = some (.int .u64 (E1 : Int)) ∧ w'.cell? ⟨gy, 2, none⟩ = some (.int .u64 (S1 : Int)) ∧ w'.cell? ⟨gy, 3, none⟩ = some (.int .i64 (a1 : Int)) ∧ w'.cell? ⟨gy, 4, none⟩ = some (.int .i64 ((f1 : Int) - 1)) ∧ w'.cell? ⟨gy, 5, none⟩ = some (.slice A2 n2 c2))) ∧ (convert 23 9 (.slice P1 96 q1)).run Try.prog w' = .ok (.string (strOfNums pg1)) w')) (by kernel_rfl) ?hSnewAz (fun hHeld => ?restAz)
  case hSnewAz => ((try dsimp only); exact HS.out _ hBd)
  refine wpAnyH_take (i := 0) (oi := ?oiAx0) (v := ?vAx0) ?hoAx0 ?h1Ax0 ?h2Ax0 ?h3Ax0 ?hqAx0 (Or.inl ⟨?h4Ax0, ?hyAx0⟩) (by assumption) ?restAx0
  case hoAx0 => (simp only [List.getElem?_toArray, List.getElem?_cons_zero, List.getElem?_cons_succ]; rfl)
  case h1Ax0 => kernel_rfl
  case h2Ax0 => kernel_rfl
  case h3Ax0 => kernel_rfl
  case h4Ax0 => rfl
  case hqAx0 => exact fun _ _ _ h => h
  case hyAx0 => (intro w hSw; (try dsimp only at hSw); go_simp <;> with_reducible rfl)
  (try simp only [Act.put, List.setIfInBounds_toArray, List.set_cons_zero, List.set_cons_succ])
  refine wpAnyH_take (i := 1) (oi := ?oiAx1) (v := ?vAx1) ?hoAx1 ?h1Ax1 ?h2Ax1 ?h3Ax1 ?hqAx1 (Or.inl ⟨?h4Ax1, ?hyAx1⟩) (by assumption) ?restAx1
  case hoAx1 => (simp only [List.getElem?_toArray, List.getElem?_cons_zero, List.getElem?_cons_succ]; rfl)
  case h1Ax1 => kernel_rfl
  case h2Ax1 => kernel_rfl
  case h3Ax1 => kernel_rfl
  case h4Ax1 => rfl
  case hqAx1 => exact fun _ _ _ h => h
  case hyAx1 => (intro w hSw; (try dsimp only at hSw); go_simp <;> with_reducible rfl)
  (try simp only [Act.put, List.setIfInBounds_toArray, List.set_cons_zero, List.set_cons_succ])
  refine wpAnyH_take (i := 2) (oi := ?oiAx2) (v := ?vAx2) ?hoAx2 ?h1Ax2 ?h2Ax2 ?h3Ax2 ?hqAx2 (Or.inl ⟨?h4Ax2, ?hyAx2⟩) (by assumption) ?restAx2
  case hoAx2 => (simp only [List.getElem?_toArray, List.getElem?_cons_zero, List.getElem?_cons_succ]; rfl)
  case h1Ax2 => kernel_rfl
  case h2Ax2 => kernel_rfl
  case h3Ax2 => kernel_rfl
  case h4Ax2 => rfl
  case hqAx2 => exact fun _ _ _ h => h
  case hyAx2 => (intro w hSw; (try dsimp only at hSw); go_simp <;> with_reducible rfl)
  (try simp only [Act.put, List.setIfInBounds_toArray, List.set_cons_zero, List.set_cons_succ])
  refine wpAnyH_ready (rs := [3]) (by kernel_rfl) (by simp) ?_
  refine AllReadyH.cons (o := ?oiAx3) ?hoAx3 (fun K hK => ?restAx3) ?moreAx3
  case moreAx3 => exact AllReadyH.nil
  case hoAx3 => (simp only [List.getElem?_toArray, List.getElem?_cons_zero, List.getElem?_cons_succ]; rfl)
  go_simp
  refine (O1 _).mono ?_
  rintro e w10 ⟨rfl, hB10'⟩
  have hB10 := hBd.trans hB10'
  try go_wp2_with fail
  refine hK.out _ _ ?hSnewAy3 (fun hHeld => ?restAy3)
  case hSnewAy3 => ((try dsimp only); exact HS.out _ hB10)
  clear hK K
  (try simp only [Act.put, List.setIfInBounds_toArray, List.set_cons_zero, List.set_cons_succ])
  refine wpAnyH_ready (rs := [4]) (by kernel_rfl) (by simp) ?_
  refine AllReadyH.cons (o := ?oiAx4) ?hoAx4 (fun K hK => ?restAx4) ?moreAx4
  case moreAx4 => exact AllReadyH.nil
  case hoAx4 => (simp only [List.getElem?_toArray, List.getElem?_cons_zero, List.getElem?_cons_succ]; rfl)
  go_simp
  refine (L1 _ (Hz1.out.below hB10)).mono ?_
  rintro e w11 ⟨v11, rfl, ho11, hB11'⟩
  obtain ⟨P2, q2, e11, hq11, hp11⟩ := ho11.reads hpB1
  rw [hpl1] at e11 hq11 hp11
  subst e11
  have hB11 := hB10.trans (hB11'.mono hB10.size)
  have HC2 := hid (fun W (h : Below w11.heap.size w11 W) => conv_str (c := q2) (hp11.below h))
  have HALL := hid (fun W (h : Below w11.heap.size w11 W) => (⟨HS.out W (hB11.trans (h.mono hB11.size)), HC2.out W h⟩ : _ ∧ _))
  have hB99 := Below.refl w11.heap.size w11
  try go_wp2_with fail
  refine hK.out _ _ ?hSnewAy4 (fun hHeld => ?restAy4)
  case hSnewAy4 => ((try dsimp only); exact HS.out _ hB11)
  clear hK K
  (try simp only [Act.put, List.setIfInBounds_toArray, List.set_cons_zero, List.set_cons_succ])
  refine held_switch (fun w' => (((w'.cell? ⟨gx, 0, none⟩ = some (.int .u8 (K1 : Int)) ∧ w'.cell? ⟨gx, 1, none⟩ = some (.int .u64 (E1 : Int)) ∧ w'.cell? ⟨gx, 2, none⟩ = some (.int .u64 (S1 : Int)) ∧ w'.cell? ⟨gx, 3, none⟩ = some (.int .i64 (a1 : Int)) ∧ w'.cell? ⟨gx, 4, none⟩ = some (.int .i64 ((f1 : Int) - 1)) ∧ w'.cell? ⟨gx, 5, none⟩ = some (.slice A1 n1 c1)) ∧ (w'.cell? ⟨gy, 0, none⟩ = some (.int .u8 (K1 : Int)) ∧ w'.cell? ⟨gy, 1, none⟩ = some (.int .u64 (E1 : Int)) ∧ w'.cell? ⟨gy, 2, none⟩ = some (.int .u64 (S1 : Int)) ∧ w'.cell? ⟨gy, 3, none⟩ = some (.int .i64 (a1 : Int)) ∧ w'.cell? ⟨gy, 4, none⟩ = some (.int .i64 ((f1 : Int) - 1)) ∧ w'.cell? ⟨gy, 5, none⟩ = some (.slice A2 n2 c2))) ∧ (convert 23 9 (.slice P1 96 q1)).run Try.prog w' = .ok (.string (strOfNums pg1)) w') ∧ (convert 23 9 (.slice P2 96 q2)).run Try.prog w' = .ok (.string (strOfNums pg1)) w') (fun w h => h.1) ?hSnewAsa (fun hHeld => ?restAsa)
  case hSnewAsa => ((try dsimp only); exact HALL.out _ hB99)
  refine wpAnyH_take (i := 5) (oi := ?oiAx5) (v := ?vAx5) ?hoAx5 ?h1Ax5 ?h2Ax5 ?h3Ax5 ?hqAx5 (Or.inl ⟨?h4Ax5, ?hyAx5⟩) (by assumption) ?restAx5
  case hoAx5 => (simp only [List.getElem?_toArray, List.getElem?_cons_zero, List.getElem?_cons_succ]; rfl)
  case h1Ax5 => kernel_rfl
  case h2Ax5 => kernel_rfl
  case h3Ax5 => kernel_rfl
  case h4Ax5 => rfl
  case hqAx5 => exact fun _ _ _ h => h
  case hyAx5 => (intro w hSw; (try dsimp only at hSw); go_simp <;> with_reducible rfl)
  (try simp only [Act.put, List.setIfInBounds_toArray, List.set_cons_zero, List.set_cons_succ])
  refine wpAnyH_take (i := 6) (oi := ?oiAx6) (v := ?vAx6) ?hoAx6 ?h1Ax6 ?h2Ax6 ?h3Ax6 ?hqAx6 (Or.inl ⟨?h4Ax6, ?hyAx6⟩) (by assumption) ?restAx6
  case hoAx6 => (simp only [List.getElem?_toArray, List.getElem?_cons_zero, List.getElem?_cons_succ]; rfl)
  case h1Ax6 => kernel_rfl
  case h2Ax6 => kernel_rfl
  case h3Ax6 => kernel_rfl
  case h4Ax6 => rfl
  case hqAx6 => exact fun _ _ _ h => h
  case hyAx6 => (intro w hSw; (try dsimp only at hSw); go_simp <;> with_reducible rfl)
  (try simp only [Act.put, List.setIfInBounds_toArray, List.set_cons_zero, List.set_cons_succ])
  refine wpAnyH_take (i := 7) (oi := ?oiAx7) (v := ?vAx7) ?hoAx7 ?h1Ax7 ?h2Ax7 ?h3Ax7 ?hqAx7 (Or.inl ⟨?h4Ax7, ?hyAx7⟩) (by assumption) ?restAx7
  case hoAx7 => (simp only [List.getElem?_toArray, List.getElem?_cons_zero, List.getElem?_cons_succ]; rfl)
  case h1Ax7 => kernel_rfl
  case h2Ax7 => kernel_rfl
  case h3Ax7 => kernel_rfl
  case h4Ax7 => rfl
  case hqAx7 => exact fun _ _ _ h => h
  case hyAx7 => (intro w hSw; (try dsimp only at hSw); go_simp <;> with_reducible rfl)
  (try simp only [Act.put, List.setIfInBounds_toArray, List.set_cons_zero, List.set_cons_succ])
  refine wpAnyH_take (i := 8) (oi := ?oiAx8) (v := ?vAx8) ?hoAx8 ?h1Ax8 ?h2Ax8 ?h3Ax8 ?hqAx8 (Or.inl ⟨?h4Ax8, ?hyAx8⟩) (by assumption) ?restAx8
  case hoAx8 => (simp only [List.getElem?_toArray, List.getElem?_cons_zero, List.getElem?_cons_succ]; rfl)
  case h1Ax8 => kernel_rfl
  case h2Ax8 => kernel_rfl
  case h3Ax8 => kernel_rfl
  case h4Ax8 => rfl
  case hqAx8 => exact fun _ _ _ h => h
  case hyAx8 => (intro w hSw; (try dsimp only at hSw); go_simp <;> with_reducible rfl)
  (try simp only [Act.put, List.setIfInBounds_toArray, List.set_cons_zero, List.set_cons_succ])
  refine wpAnyH_take (i := 9) (oi := ?oiAx9) (v := ?vAx9) ?hoAx9 ?h1Ax9 ?h2Ax9 ?h3Ax9 ?hqAx9 (Or.inl ⟨?h4Ax9, ?hyAx9⟩) (by assumption) ?restAx9
  case hoAx9 => (simp only [List.getElem?_toArray, List.getElem?_cons_zero, List.getElem?_cons_succ]; rfl)
  case h1Ax9 => kernel_rfl
  case h2Ax9 => kernel_rfl
  case h3Ax9 => kernel_rfl
  case h4Ax9 => rfl
  case hqAx9 => exact fun _ _ _ h => h
  case hyAx9 => (intro w hSw; (try dsimp only at hSw); go_simp <;> with_reducible rfl)
  (try simp only [Act.put, List.setIfInBounds_toArray, List.set_cons_zero, List.set_cons_succ])
  refine wpAnyH_take (i := 10) (oi := ?oiAx10) (v := ?vAx10) ?hoAx10 ?h1Ax10 ?h2Ax10 ?h3Ax10 ?hqAx10 (Or.inl ⟨?h4Ax10, ?hyAx10⟩) (by assumption) ?restAx10
  case hoAx10 => (simp only [List.getElem?_toArray, List.getElem?_cons_zero, List.getElem?_cons_succ]; rfl)
  case h1Ax10 => kernel_rfl
  case h2Ax10 => kernel_rfl
  case h3Ax10 => kernel_rfl
  case h4Ax10 => rfl
  case hqAx10 => exact fun _ _ _ h => h
  case hyAx10 => (intro w hSw; (try dsimp only at hSw); go_simp <;> with_reducible rfl)
  (try simp only [Act.put, List.setIfInBounds_toArray, List.set_cons_zero, List.set_cons_succ])
  refine wpAnyH_take (i := 11) (oi := ?oiAx11) (v := ?vAx11) ?hoAx11 ?h1Ax11 ?h2Ax11 ?h3Ax11 ?hqAx11 (Or.inl ⟨?h4Ax11, ?hyAx11⟩) (by assumption) ?restAx11
  case hoAx11 => (simp only [List.getElem?_toArray, List.getElem?_cons_zero, List.getElem?_cons_succ]; rfl)
  case h1Ax11 => kernel_rfl
  case h2Ax11 => kernel_rfl
  case h3Ax11 => kernel_rfl
  case h4Ax11 => rfl
  case hqAx11 => exact fun _ _ _ h => h
  case hyAx11 => (intro w hSw; (try dsimp only at hSw); go_simp <;> with_reducible rfl)
  (try simp only [Act.put, List.setIfInBounds_toArray, List.set_cons_zero, List.set_cons_succ])
  refine wpAnyH_take (i := 12) (oi := ?oiAx12) (v := ?vAx12) ?hoAx12 ?h1Ax12 ?h2Ax12 ?h3Ax12 ?hqAx12 (Or.inl ⟨?h4Ax12, ?hyAx12⟩) (by assumption) ?restAx12
  case hoAx12 => (simp only [List.getElem?_toArray, List.getElem?_cons_zero, List.getElem?_cons_succ]; rfl)
  case h1Ax12 => kernel_rfl
  case h2Ax12 => kernel_rfl
  case h3Ax12 => kernel_rfl
  case h4Ax12 => rfl
  case hqAx12 => exact fun _ _ _ h => h
  case hyAx12 => (intro w hSw; (try dsimp only at hSw); go_simp <;> with_reducible rfl)
  (try simp only [Act.put, List.setIfInBounds_toArray, List.set_cons_zero, List.set_cons_succ])
  refine wpAnyH_take (i := 14) (oi := ?oiAx14) (v := ?vAx14) ?hoAx14 ?h1Ax14 ?h2Ax14 ?h3Ax14 ?hqAx14 (Or.inl ⟨?h4Ax14, ?hyAx14⟩) (by assumption) ?restAx14
  case hoAx14 => (simp only [List.getElem?_toArray, List.getElem?_cons_zero, List.getElem?_cons_succ]; rfl)
  case h1Ax14 => kernel_rfl
  case h2Ax14 => kernel_rfl
  case h3Ax14 => kernel_rfl
  case h4Ax14 => rfl
  case hqAx14 => exact fun _ _ _ h => h
  case hyAx14 => (intro w hSw; (try dsimp only at hSw); go_simp <;> with_reducible rfl)
  (try simp only [Act.put, List.setIfInBounds_toArray, List.set_cons_zero, List.set_cons_succ])
  refine wpAnyH_ready (rs := [13]) (by kernel_rfl) (by simp) ?_
  refine AllReadyH.cons (o := ?oiAx13) ?hoAx13 (fun K hK => ?restAx13) ?moreAx13
  case moreAx13 => exact AllReadyH.nil
  case hoAx13 => (simp only [List.getElem?_toArray, List.getElem?_cons_zero, List.getElem?_cons_succ]; rfl)
  go_simp
  refine (O1 _).mono ?_
  rintro e w12 ⟨rfl, hB12'⟩
  have hB12 := hB99.trans hB12'
  try go_wp2_with fail
  refine hK.out _ _ ?hSnewAy13 (fun hHeld => ?restAy13)
  case hSnewAy13 => ((try dsimp only); exact HALL.out _ hB12)
  clear hK K
  (try simp only [Act.put, List.setIfInBounds_toArray, List.set_cons_zero, List.set_cons_succ])
  refine wpAnyH_ready (rs := [15]) (by kernel_rfl) (by simp) ?_
  refine AllReadyH.cons (o := ?oiAx15) ?hoAx15 (fun K hK => ?restAx15) ?moreAx15
  case moreAx15 => exact AllReadyH.nil
  case hoAx15 => (simp only [List.getElem?_toArray, List.getElem?_cons_zero, List.getElem?_cons_succ]; rfl)
  go_simp
  refine (O2 _).mono ?_
  rintro e w13 ⟨rfl, hB13'⟩
  have hB13 := hB12.trans (hB13'.mono hB12.size)
  try go_wp2_with fail
  refine hK.out _ _ ?hSnewAy15 (fun hHeld => ?restAy15)
  case hSnewAy15 => ((try dsimp only); exact HALL.out _ hB13)
  clear hK K
  (try simp only [Act.put, List.setIfInBounds_toArray, List.set_cons_zero, List.set_cons_succ])
  refine wpAnyH_ready (rs := [16]) (by kernel_rfl) (by simp) ?_
  refine AllReadyH.cons (o := ?oiAx16) ?hoAx16 (fun K hK => ?restAx16) ?moreAx16
  case moreAx16 => exact AllReadyH.nil
  case hoAx16 => (simp only [List.getElem?_toArray, List.getElem?_cons_zero, List.getElem?_cons_succ]; rfl)
  go_simp
  refine (SM _ (Hz1.out.below (hB11.trans (hB13.mono hB11.size))) (Hz2'.out.below (hB11.trans (hB13.mono hB11.size)))).mono ?_
  rintro e w14 ⟨rfl, hB14'⟩
  have hB14 := hB13.trans (hB14'.mono hB13.size)
  try go_wp2_with fail
  refine hK.out _ _ ?hSnewAy16 (fun hHeld => ?restAy16)
  case hSnewAy16 => ((try dsimp only); exact HALL.out _ hB14)
  clear hK K
  (try simp only [Act.put, List.setIfInBounds_toArray, List.set_cons_zero, List.set_cons_succ])
  refine wpAnyH_take (i := 17) (oi := ?oiAx17) (v := ?vAx17) ?hoAx17 ?h1Ax17 ?h2Ax17 ?h3Ax17 ?hqAx17 (Or.inl ⟨?h4Ax17, ?hyAx17⟩) (by assumption) ?restAx17
  case hoAx17 => (simp only [List.getElem?_toArray, List.getElem?_cons_zero, List.getElem?_cons_succ]; rfl)
  case h1Ax17 => kernel_rfl
  case h2Ax17 => kernel_rfl
  case h3Ax17 => kernel_rfl
  case h4Ax17 => rfl
  case hqAx17 => exact fun _ _ _ h => h
  case hyAx17 => (intro w hSw; (try dsimp only at hSw); go_simp <;> with_reducible rfl)
  (try simp only [Act.put, List.setIfInBounds_toArray, List.set_cons_zero, List.set_cons_succ])
  refine wpAnyH_take (i := 18) (oi := ?oiAx18) (v := ?vAx18) ?hoAx18 ?h1Ax18 ?h2Ax18 ?h3Ax18 ?hqAx18 (Or.inl ⟨?h4Ax18, ?hyAx18⟩) (by assumption) ?restAx18
  case hoAx18 => (simp only [List.getElem?_toArray, List.getElem?_cons_zero, List.getElem?_cons_succ]; rfl)
  case h1Ax18 => kernel_rfl
  case h2Ax18 => kernel_rfl
  case h3Ax18 => kernel_rfl
  case h4Ax18 => rfl
  case hqAx18 => exact fun _ _ _ h => h
  case hyAx18 => (intro w hSw; (try dsimp only at hSw); go_simp <;> with_reducible rfl)
  (try simp only [Act.put, List.setIfInBounds_toArray, List.set_cons_zero, List.set_cons_succ])
  refine wpAnyH_done (by kernel_rfl) ?_ _
  go_wp2
  go_ret
  exact ⟨rfl, HB.out.trans ((hB11.trans (hB14.mono hB11.size)).mono HB.out.size)⟩
end Go.Proofs.Ytpncgfdnilmhhaa.Sheet
