import Derived.Test.YtpncgfdnilmhhaaSheetNear
import Derived.Test.YtpncgfdnilmhhaaSheetAwake
import Derived.Test.YtpncgfdnilmhhaaSheetSame
import Derived.BigRegion
set_option linter.unusedVariables false
set_option linter.unusedSimpArgs false
namespace Go.Proofs.Ytpncgfdnilmhhaa.Sheet
open Go.RowKit Go.Proofs.Ytpncgfdnilmhhaa.Kit Go.Proofs.Ytpncgfdnilmhhaa.Oct

set_option maxRecDepth 100000 in
set_option maxHeartbeats 4000000 in
theorem law_apart (K1 E1 S1 a1 F1 : Int) (A1 : Option Addr) (n1 c1 : Nat) (xs1 : List Int) (hK1 : 0 ≤ K1 ∧ K1 ≤ 255) (hE1 : 0 ≤ E1 ∧ E1 ≤ 18446744073709551615) (hS1 : 0 ≤ S1 ∧ S1 ≤ 18446744073709551615) (K2 E2 S2 a2 F2 : Int) (A2 : Option Addr) (n2 c2 : Nat) (xs2 : List Int) (hK2 : 0 ≤ K2 ∧ K2 ≤ 255) (hE2 : 0 ≤ E2 ∧ E2 ≤ 18446744073709551615) (hS2 : 0 ≤ S2 ∧ S2 ≤ 18446744073709551615) (w : World) (hz1 : Nums w .u8 A1 n1 xs1) (hz2 : Nums w .u8 A2 n2 xs2) :
    Calls Try.prog 3 #[.agg #[.int .u8 K1, .int .u64 E1, .int .u64 S1, .int .i64 a1, .int .i64 F1, .slice A1 n1 c1], .agg #[.int .u8 K2, .int .u64 E2, .int .u64 S2, .int .i64 a2, .int .i64 F2, .slice A2 n2 c2]] w fun e w' => e = .returned (.bool true) ∧ Below w.heap.size w w' := by
  have G1 := fun W (h : Nums W .u8 A1 n1 xs1) => near_any K1 E1 S1 a1 F1 A1 n1 c1 xs1 W hK1 hE1 hS1 h
  have G2 := fun W (h : Nums W .u8 A2 n2 xs2) => near_any K2 E2 S2 a2 F2 A2 n2 c2 xs2 W hK2 hE2 hS2 h
  clear hK1 hE1 hS1 hK2 hE2 hS2
  go_enter Try.func3, Try.ntmps3
  go_upto_region 1 with (fail)
  obtain ⟨w2, hw2⟩ : ∃ w2, w2 = ((w.alloc (.cells #[.int .u8 K1, .int .u64 E1, .int .u64 S1, .int .i64 a1, .int .i64 F1, .slice A1 n1 c1] 25)).alloc (.cells #[.int .u8 K2, .int .u64 E2, .int .u64 S2, .int .i64 a2, .int .i64 F2, .slice A2 n2 c2] 25)) := ⟨_, rfl⟩
  have hb1 : Blk w2 w.heap.size #[.int .u8 K1, .int .u64 E1, .int .u64 S1, .int .i64 a1, .int .i64 F1, .slice A1 n1 c1] 25 := by rw [hw2]; exact (Blk.new _ _ _).alloc _
  have hb2 : Blk w2 (w.heap.size + 1) #[.int .u8 K2, .int .u64 E2, .int .u64 S2, .int .i64 a2, .int .i64 F2, .slice A2 n2 c2] 25 := by
    rw [hw2]
    have := Blk.new (w.alloc (.cells #[.int .u8 K1, .int .u64 E1, .int .u64 S1, .int .i64 a1, .int .i64 F1, .slice A1 n1 c1] 25)) #[.int .u8 K2, .int .u64 E2, .int .u64 S2, .int .i64 a2, .int .i64 F2, .slice A2 n2 c2] 25
    simpa using this
  have hB : Below w.heap.size w w2 := by rw [hw2]; exact ((Below.refl _ _).alloc (Nat.le_refl _) _).alloc (by simp) _
  rw [← hw2]
  clear hw2
  have Hz2w := hid (hz2.below hB)
  have hz1w := hz1.below hB
  obtain ⟨⟨k0, k1, k2, k3, k4, k5⟩, -⟩ := hb1.six
  have Hb2 := hid hb2
  have HB2 := hid hB
  clear hb1 hb2 hz1 hz2 hB
  go_wp2_with fail
  refine (G1 w2 hz1w).mono ?_
  clear G1 hz1w
  clear k0 k1 k2 k3 k4 k5
  rintro e w3 ⟨K1, E1, S1, a1, f1, A1, n1, c1, ys1, rfl, hf1, hz3, hB3⟩
  go_upto_region 2 with (fail)
  obtain ⟨gx, hgx⟩ : ∃ gx, w3.heap.size = gx := ⟨_, rfl⟩
  rw [hgx]
  obtain ⟨w4, hw4⟩ : ∃ w4, w4 = w3.alloc (.cells #[.int .u8 (K1 : Int), .int .u64 (E1 : Int), .int .u64 (S1 : Int), .int .i64 (a1 : Int), .int .i64 ((f1 : Int) - 1), .slice A1 n1 c1] 25) := ⟨_, rfl⟩
  have hx4 : Blk w4 gx #[.int .u8 (K1 : Int), .int .u64 (E1 : Int), .int .u64 (S1 : Int), .int .i64 (a1 : Int), .int .i64 ((f1 : Int) - 1), .slice A1 n1 c1] 25 := by rw [hw4, ← hgx]; exact Blk.new _ _ _
  have hB34 : Below w3.heap.size w3 w4 := by rw [hw4]; exact (Below.refl _ _).alloc (Nat.le_refl _) _
  rw [← hw4]
  clear hw4 hgx
  have hB24 := hB3.trans (hB34.mono hB3.size)
  have hb4 := Hb2.out.later hB24
  have hz14 := hz3.below hB34
  have hz24 := Hz2w.out.below hB24
  have HB4 := hid (HB2.out.trans (hB24.mono HB2.out.size))
  obtain ⟨⟨k0, k1, k2, k3, k4, k5⟩, -⟩ := hb4.six
  clear hb4 hB3 hB34 hB24 hz3
  go_wp2_with fail
  refine (G2 w4 hz24).mono ?_
  clear G2 hz24 k0 k1 k2 k3 k4 k5
  rintro e w5 ⟨K2, E2, S2, a2, f2, A2, n2, c2, ys2, rfl, hf2, hz5, hB5⟩
  go_upto_region 3 with (fail)
  obtain ⟨gy, hgy⟩ : ∃ gy, w5.heap.size = gy := ⟨_, rfl⟩
  rw [hgy]
  obtain ⟨w6, hw6⟩ : ∃ w6, w6 = w5.alloc (.cells #[.int .u8 (K2 : Int), .int .u64 (E2 : Int), .int .u64 (S2 : Int), .int .i64 (a2 : Int), .int .i64 ((f2 : Int) - 1), .slice A2 n2 c2] 25) := ⟨_, rfl⟩
  have hy6 : Blk w6 gy #[.int .u8 (K2 : Int), .int .u64 (E2 : Int), .int .u64 (S2 : Int), .int .i64 (a2 : Int), .int .i64 ((f2 : Int) - 1), .slice A2 n2 c2] 25 := by rw [hw6, ← hgy]; exact Blk.new _ _ _
  have hB56 : Below w5.heap.size w5 w6 := by rw [hw6]; exact (Below.refl _ _).alloc (Nat.le_refl _) _
  rw [← hw6]
  clear hw6 hgy
  have hB46 := hB5.trans (hB56.mono hB5.size)
  have hx6 := hx4.later hB46
  have Hz1 := hid (hz14.below hB46)
  have Hz2 := hid (hz5.below hB56)
  have HB := hid (HB4.out.trans (hB46.mono HB4.out.size))
  have HS := hid (fun W (h : Below w6.heap.size w6 W) => (⟨(hx6.later h).six.1, (hy6.later h).six.1⟩ : _ ∧ _))
  have hBd : Below w6.heap.size w6 (w6.drewN 1) := below_drewN (Below.refl _ _) 1
  clear hx4 hx6 hy6 hB5 hB56 hB46 hz14 hz5 Hz2w
  obtain ⟨pg1, hpg1⟩ : ∃ pg, page K1 E1 S1 a1 f1 ys1 = pg := ⟨_, rfl⟩
  obtain ⟨pg2, hpg2⟩ : ∃ pg, page K2 E2 S2 a2 f2 ys2 = pg := ⟨_, rfl⟩
  have L1 : ∀ W, Nums W .u8 A1 n1 ys1 → Calls Try.prog 12 #[.agg #[.int .u8 (K1 : Int), .int .u64 (E1 : Int), .int .u64 (S1 : Int), .int .i64 (a1 : Int), .int .i64 ((f1 : Int) - 1), .slice A1 n1 c1]] W fun e w' => ∃ v, e = .returned v ∧ OwnB w' W.heap.size v pg1 ∧ Below W.heap.size W w' := fun W h => by
    rw [← hpg1]
    exact lay_any K1 E1 S1 a1 f1 ((f1 : Int) - 1) A1 n1 c1 ys1 W h (by have := hf1.2.1; omega) (by have := hf1.2.2.1; omega) (by have := hf1.2.2.2.1; omega) (by have := hf1.2.2.2.2.1; omega) (by have := hf1.2.2.2.2.2.1; omega) rfl (by have := hf1.2.2.2.2.2.2.1; have := h.len; omega)
  have O1 := fun W => of_any (K1 : Int) (E1 : Int) (S1 : Int) (a1 : Int) ((f1 : Int) - 1) A1 n1 c1 W
  have hpl1 : pg1.length = 96 := by rw [← hpg1]; exact page_len _ _ _ _ _ _ hf1.2.2.2.2.2.2.1
  have hpB1 : IsB pg1 := by rw [← hpg1]; exact page_isB _ _ _ _ _ hf1.2.2.2.2.2.2.2.2
  have L2 : ∀ W, Nums W .u8 A2 n2 ys2 → Calls Try.prog 12 #[.agg #[.int .u8 (K2 : Int), .int .u64 (E2 : Int), .int .u64 (S2 : Int), .int .i64 (a2 : Int), .int .i64 ((f2 : Int) - 1), .slice A2 n2 c2]] W fun e w' => ∃ v, e = .returned v ∧ OwnB w' W.heap.size v pg2 ∧ Below W.heap.size W w' := fun W h => by
    rw [← hpg2]
    exact lay_any K2 E2 S2 a2 f2 ((f2 : Int) - 1) A2 n2 c2 ys2 W h (by have := hf2.2.1; omega) (by have := hf2.2.2.1; omega) (by have := hf2.2.2.2.1; omega) (by have := hf2.2.2.2.2.1; omega) (by have := hf2.2.2.2.2.2.1; omega) rfl (by have := hf2.2.2.2.2.2.2.1; have := h.len; omega)
  have O2 := fun W => of_any (K2 : Int) (E2 : Int) (S2 : Int) (a2 : Int) ((f2 : Int) - 1) A2 n2 c2 W
  have hpl2 : pg2.length = 96 := by rw [← hpg2]; exact page_len _ _ _ _ _ _ hf2.2.2.2.2.2.2.1
  have hpB2 : IsB pg2 := by rw [← hpg2]; exact page_isB _ _ _ _ _ hf2.2.2.2.2.2.2.2.2
  by_cases hpq : pg1 = pg2
  · have hse := (str_eq hpB1 hpB2).trans (decide_eq_true hpq)
    have hsame : decide ((K1 : Int) = (K2 : Int) ∧ (E1 : Int) = (E2 : Int) ∧ (S1 : Int) = (S2 : Int) ∧ (a1 : Int) = (a2 : Int) ∧ (f1 : Int) - 1 = (f2 : Int) - 1 ∧ ys1 = ys2) = true := decide_eq_true (by
      rw [← hpg1, ← hpg2] at hpq
      obtain ⟨h1, h2, h3, h4, h5, h6⟩ := page_inj hf1 hf2 hpq
      exact ⟨by omega, by omega, by omega, by omega, by omega, h6⟩)
    have SM : ∀ W, Nums W .u8 A1 n1 ys1 → Nums W .u8 A2 n2 ys2 → Calls Try.prog 13 #[.agg #[.int .u8 (K1 : Int), .int .u64 (E1 : Int), .int .u64 (S1 : Int), .int .i64 (a1 : Int), .int .i64 ((f1 : Int) - 1), .slice A1 n1 c1], .agg #[.int .u8 (K2 : Int), .int .u64 (E2 : Int), .int .u64 (S2 : Int), .int .i64 (a2 : Int), .int .i64 ((f2 : Int) - 1), .slice A2 n2 c2]] W fun e w' => e = .returned (.bool true) ∧ Below W.heap.size W w' := fun W h1 h2 => by
      have := same_any (K1 : Int) (E1 : Int) (S1 : Int) (a1 : Int) ((f1 : Int) - 1) A1 n1 c1 ys1 (K2 : Int) (E2 : Int) (S2 : Int) (a2 : Int) ((f2 : Int) - 1) A2 n2 c2 ys2 W h1 h2
      rw [hsame] at this
      exact this
    have Hf1 := hid hf1
    have Hf2 := hid hf2
    clear hpq hsame hpg1 hpg2 hf1 hf2
    refine wp_region_held_drew (S := (fun w' => (w'.cell? ⟨gx, 0, none⟩ = some (.int .u8 (K1 : Int)) ∧ w'.cell? ⟨gx, 1, none⟩ = some (.int .u64 (E1 : Int)) ∧ w'.cell? ⟨gx, 2, none⟩ = some (.int .u64 (S1 : Int)) ∧ w'.cell? ⟨gx, 3, none⟩ = some (.int .i64 (a1 : Int)) ∧ w'.cell? ⟨gx, 4, none⟩ = some (.int .i64 ((f1 : Int) - 1)) ∧ w'.cell? ⟨gx, 5, none⟩ = some (.slice A1 n1 c1)) ∧ (w'.cell? ⟨gy, 0, none⟩ = some (.int .u8 (K2 : Int)) ∧ w'.cell? ⟨gy, 1, none⟩ = some (.int .u64 (E2 : Int)) ∧ w'.cell? ⟨gy, 2, none⟩ = some (.int .u64 (S2 : Int)) ∧ w'.cell? ⟨gy, 3, none⟩ = some (.int .i64 (a2 : Int)) ∧ w'.cell? ⟨gy, 4, none⟩ = some (.int .i64 ((f2 : Int) - 1)) ∧ w'.cell? ⟨gy, 5, none⟩ = some (.slice A2 n2 c2)))) (by kernel_rfl) ?hSnewAz (fun hHeld => ?restAz)
    case hSnewAz => ((try dsimp only); exact HS.out _ hBd)
    refine wpAnyH_ready (rs := [0]) (by kernel_rfl) (by simp) ?_
    refine AllReadyH.cons (o := ?oiAx0) ?hoAx0 (fun K hK => ?restAx0) ?moreAx0
    case moreAx0 => exact AllReadyH.nil
    case hoAx0 => (simp only [List.getElem?_toArray, List.getElem?_cons_zero, List.getElem?_cons_succ]; rfl)
    go_simp
    refine (awake_any _).mono ?_
    rintro e w7 ⟨rfl, hB7'⟩
    have hB7 := hBd.trans hB7'
    try go_wp2_with fail
    refine hK.out _ _ ?hSnewAy0 (fun hHeld => ?restAy0)
    case hSnewAy0 => ((try dsimp only); exact HS.out _ hB7)
    clear hK K
    (try simp only [Act.put, List.setIfInBounds_toArray, List.set_cons_zero, List.set_cons_succ])
    refine wpAnyH_take (i := 1) (oi := ?oiAx1) (v := ?vAx1) ?hoAx1 ?h1Ax1 ?h2Ax1 ?h3Ax1 ?hqAx1 (Or.inl ⟨?h4Ax1, ?hyAx1⟩) (by assumption) ?restAx1
    case hoAx1 => (simp only [List.getElem?_toArray, List.getElem?_cons_zero, List.getElem?_cons_succ]; rfl)
    case h1Ax1 => kernel_rfl
    case h2Ax1 => kernel_rfl
    case h3Ax1 => kernel_rfl
    case h4Ax1 => rfl
    case hqAx1 => exact fun _ _ _ h => h
    case hyAx1 => (intro w hSw; (try dsimp only at hSw); go_simp <;> with_reducible rfl)
    (try simp only [Act.put, List.setIfInBounds_toArray, List.set_cons_zero, List.set_cons_succ])
    refine wpAnyH_take (i := 2) (oi := ?oiAx2) (v := ?vAx2) ?hoAx2 ?h1Ax2 ?h2Ax2 ?h3Ax2 ?hqAx2 (Or.inl ⟨?h4Ax2, ?hyAx2⟩) (by assumption) ?restAx2
    case hoAx2 => (simp only [List.getElem?_toArray, List.getElem?_cons_zero, List.getElem?_cons_succ]; rfl)
    case h1Ax2 => kernel_rfl
    case h2Ax2 => kernel_rfl
    case h3Ax2 => kernel_rfl
    case h4Ax2 => rfl
    case hqAx2 => exact fun _ _ _ h => h
    case hyAx2 => (intro w hSw; (try dsimp only at hSw); go_simp <;> with_reducible rfl)
    (try simp only [Act.put, List.setIfInBounds_toArray, List.set_cons_zero, List.set_cons_succ])
    refine wpAnyH_take (i := 5) (oi := ?oiAx5) (v := ?vAx5) ?hoAx5 ?h1Ax5 ?h2Ax5 ?h3Ax5 ?hqAx5 (Or.inl ⟨?h4Ax5, ?hyAx5⟩) (by assumption) ?restAx5
    case hoAx5 => (simp only [List.getElem?_toArray, List.getElem?_cons_zero, List.getElem?_cons_succ]; rfl)
    case h1Ax5 => kernel_rfl
    case h2Ax5 => kernel_rfl
    case h3Ax5 => kernel_rfl
    case h4Ax5 => rfl
    case hqAx5 => exact fun _ _ _ h => h
    case hyAx5 => (intro w hSw; (try dsimp only at hSw); go_simp <;> with_reducible rfl)
    (try simp only [Act.put, List.setIfInBounds_toArray, List.set_cons_zero, List.set_cons_succ])
    refine wpAnyH_take (i := 9) (oi := ?oiAx9) (v := ?vAx9) ?hoAx9 ?h1Ax9 ?h2Ax9 ?h3Ax9 ?hqAx9 (Or.inl ⟨?h4Ax9, ?hyAx9⟩) (by assumption) ?restAx9
    case hoAx9 => (simp only [List.getElem?_toArray, List.getElem?_cons_zero, List.getElem?_cons_succ]; rfl)
    case h1Ax9 => kernel_rfl
    case h2Ax9 => kernel_rfl
    case h3Ax9 => kernel_rfl
    case h4Ax9 => rfl
    case hqAx9 => exact fun _ _ _ h => h
    case hyAx9 => (intro w hSw; (try dsimp only at hSw); go_simp <;> with_reducible rfl)
    (try simp only [Act.put, List.setIfInBounds_toArray, List.set_cons_zero, List.set_cons_succ])
    refine wpAnyH_take (i := 11) (oi := ?oiAx11) (v := ?vAx11) ?hoAx11 ?h1Ax11 ?h2Ax11 ?h3Ax11 ?hqAx11 (Or.inl ⟨?h4Ax11, ?hyAx11⟩) (by assumption) ?restAx11
    case hoAx11 => (simp only [List.getElem?_toArray, List.getElem?_cons_zero, List.getElem?_cons_succ]; rfl)
    case h1Ax11 => kernel_rfl
    case h2Ax11 => kernel_rfl
    case h3Ax11 => kernel_rfl
    case h4Ax11 => rfl
    case hqAx11 => exact fun _ _ _ h => h
    case hyAx11 => (intro w hSw; (try dsimp only at hSw); go_simp <;> with_reducible rfl)
    (try simp only [Act.put, List.setIfInBounds_toArray, List.set_cons_zero, List.set_cons_succ])
    refine wpAnyH_ready (rs := [3]) (by kernel_rfl) (by simp) ?_
    refine AllReadyH.cons (o := ?oiAx3) ?hoAx3 (fun K hK => ?restAx3) ?moreAx3
    case moreAx3 => exact AllReadyH.nil
    case hoAx3 => (simp only [List.getElem?_toArray, List.getElem?_cons_zero, List.getElem?_cons_succ]; rfl)
    go_simp
    refine (L1 _ (Hz1.out.below hB7)).mono ?_
    rintro e w8 ⟨v8, rfl, ho8, hB8'⟩
    obtain ⟨P1, q1, e8, hq8, hp8⟩ := ho8.reads hpB1
    rw [hpl1] at e8 hq8 hp8
    subst e8
    have hB8 := hB7.trans (hB8'.mono hB7.size)
    have HC1 := hid (fun W (h : Below w8.heap.size w8 W) => conv_str (c := q1) (hp8.below h))
    try go_wp2_with fail
    refine hK.out _ _ ?hSnewAy3 (fun hHeld => ?restAy3)
    case hSnewAy3 => ((try dsimp only); exact HS.out _ hB8)
    clear hK K
    (try simp only [Act.put, List.setIfInBounds_toArray, List.set_cons_zero, List.set_cons_succ])
    refine held_switch (fun w' => ((w'.cell? ⟨gx, 0, none⟩ = some (.int .u8 (K1 : Int)) ∧ w'.cell? ⟨gx, 1, none⟩ = some (.int .u64 (E1 : Int)) ∧ w'.cell? ⟨gx, 2, none⟩ = some (.int .u64 (S1 : Int)) ∧ w'.cell? ⟨gx, 3, none⟩ = some (.int .i64 (a1 : Int)) ∧ w'.cell? ⟨gx, 4, none⟩ = some (.int .i64 ((f1 : Int) - 1)) ∧ w'.cell? ⟨gx, 5, none⟩ = some (.slice A1 n1 c1)) ∧ (w'.cell? ⟨gy, 0, none⟩ = some (.int .u8 (K2 : Int)) ∧ w'.cell? ⟨gy, 1, none⟩ = some (.int .u64 (E2 : Int)) ∧ w'.cell? ⟨gy, 2, none⟩ = some (.int .u64 (S2 : Int)) ∧ w'.cell? ⟨gy, 3, none⟩ = some (.int .i64 (a2 : Int)) ∧ w'.cell? ⟨gy, 4, none⟩ = some (.int .i64 ((f2 : Int) - 1)) ∧ w'.cell? ⟨gy, 5, none⟩ = some (.slice A2 n2 c2))) ∧ (convert 23 9 (.slice P1 96 q1)).run Try.prog w' = .ok (.string (strOfNums pg1)) w') (fun w h => h.1) ?hSnewAsa (fun hHeld => ?restAsa)
    case hSnewAsa => ((try dsimp only); exact ⟨HS.out _ hB8, HC1.out _ (Below.refl _ _)⟩)
    refine wpAnyH_take (i := 4) (oi := ?oiAx4) (v := ?vAx4) ?hoAx4 ?h1Ax4 ?h2Ax4 ?h3Ax4 ?hqAx4 (Or.inl ⟨?h4Ax4, ?hyAx4⟩) (by assumption) ?restAx4
    case hoAx4 => (simp only [List.getElem?_toArray, List.getElem?_cons_zero, List.getElem?_cons_succ]; rfl)
    case h1Ax4 => kernel_rfl
    case h2Ax4 => kernel_rfl
    case h3Ax4 => kernel_rfl
    case h4Ax4 => rfl
    case hqAx4 => exact fun _ _ _ h => h
    case hyAx4 => (intro w hSw; (try dsimp only at hSw); go_simp <;> with_reducible rfl)
    (try simp only [Act.put, List.setIfInBounds_toArray, List.set_cons_zero, List.set_cons_succ])
    refine wpAnyH_ready (rs := [6]) (by kernel_rfl) (by simp) ?_
    refine AllReadyH.cons (o := ?oiAx6) ?hoAx6 (fun K hK => ?restAx6) ?moreAx6
    case moreAx6 => exact AllReadyH.nil
    case hoAx6 => (simp only [List.getElem?_toArray, List.getElem?_cons_zero, List.getElem?_cons_succ]; rfl)
    go_simp
    refine (L2 _ (Hz2.out.below hB8)).mono ?_
    rintro e w9 ⟨v9, rfl, ho9, hB9'⟩
    obtain ⟨P2, q2, e9, hq9, hp9⟩ := ho9.reads hpB2
    rw [hpl2] at e9 hq9 hp9
    subst e9
    have hB9 := hB8.trans (hB9'.mono hB8.size)
    have HC2 := hid (fun W (h : Below w9.heap.size w9 W) => conv_str (c := q2) (hp9.below h))
    have HALL := hid (fun W (h : Below w9.heap.size w9 W) => (⟨⟨HS.out W (hB9.trans (h.mono hB9.size)), HC1.out W (hB9'.trans (h.mono hB9'.size))⟩, HC2.out W h⟩ : (_ ∧ _) ∧ _))
    have hB99 := Below.refl w9.heap.size w9
    try go_wp2_with fail
    refine hK.out _ _ ?hSnewAy6 (fun hHeld => ?restAy6)
    case hSnewAy6 => ((try dsimp only); exact ⟨HS.out _ hB9, HC1.out _ hB9'⟩)
    clear hK K
    (try simp only [Act.put, List.setIfInBounds_toArray, List.set_cons_zero, List.set_cons_succ])
    refine held_switch (fun w' => (((w'.cell? ⟨gx, 0, none⟩ = some (.int .u8 (K1 : Int)) ∧ w'.cell? ⟨gx, 1, none⟩ = some (.int .u64 (E1 : Int)) ∧ w'.cell? ⟨gx, 2, none⟩ = some (.int .u64 (S1 : Int)) ∧ w'.cell? ⟨gx, 3, none⟩ = some (.int .i64 (a1 : Int)) ∧ w'.cell? ⟨gx, 4, none⟩ = some (.int .i64 ((f1 : Int) - 1)) ∧ w'.cell? ⟨gx, 5, none⟩ = some (.slice A1 n1 c1)) ∧ (w'.cell? ⟨gy, 0, none⟩ = some (.int .u8 (K2 : Int)) ∧ w'.cell? ⟨gy, 1, none⟩ = some (.int .u64 (E2 : Int)) ∧ w'.cell? ⟨gy, 2, none⟩ = some (.int .u64 (S2 : Int)) ∧ w'.cell? ⟨gy, 3, none⟩ = some (.int .i64 (a2 : Int)) ∧ w'.cell? ⟨gy, 4, none⟩ = some (.int .i64 ((f2 : Int) - 1)) ∧ w'.cell? ⟨gy, 5, none⟩ = some (.slice A2 n2 c2))) ∧ (convert 23 9 (.slice P1 96 q1)).run Try.prog w' = .ok (.string (strOfNums pg1)) w') ∧ (convert 23 9 (.slice P2 96 q2)).run Try.prog w' = .ok (.string (strOfNums pg2)) w') (fun w h => h.1) ?hSnewAsb (fun hHeld => ?restAsb)
    case hSnewAsb => ((try dsimp only); exact HALL.out _ hB99)
    refine wpAnyH_take (i := 7) (oi := ?oiAx7) (v := ?vAx7) ?hoAx7 ?h1Ax7 ?h2Ax7 ?h3Ax7 ?hqAx7 (Or.inl ⟨?h4Ax7, ?hyAx7⟩) (by assumption) ?restAx7
    case hoAx7 => (simp only [List.getElem?_toArray, List.getElem?_cons_zero, List.getElem?_cons_succ]; rfl)
    case h1Ax7 => kernel_rfl
    case h2Ax7 => kernel_rfl
    case h3Ax7 => kernel_rfl
    case h4Ax7 => rfl
    case hqAx7 => exact fun _ _ _ h => h
    case hyAx7 => (intro w hSw; (try dsimp only at hSw); go_simp <;> with_reducible rfl)
    (try simp only [Act.put, List.setIfInBounds_toArray, List.set_cons_zero, List.set_cons_succ])
    refine wpAnyH_take (i := 8) (oi := ?oiAx8) (v := ?vAx8) ?hoAx8 ?h1Ax8 ?h2Ax8 ?h3Ax8 ?hqAx8 (Or.inl ⟨?h4Ax8, ?hyAx8⟩) (by assumption) ?restAx8
    case hoAx8 => (simp only [List.getElem?_toArray, List.getElem?_cons_zero, List.getElem?_cons_succ]; rfl)
    case h1Ax8 => kernel_rfl
    case h2Ax8 => kernel_rfl
    case h3Ax8 => kernel_rfl
    case h4Ax8 => rfl
    case hqAx8 => exact fun _ _ _ h => h
    case hyAx8 => (intro w hSw; (try dsimp only at hSw); go_simp <;> with_reducible rfl)
    (try simp only [Act.put, List.setIfInBounds_toArray, List.set_cons_zero, List.set_cons_succ])
    refine wpAnyH_ready (rs := [10]) (by kernel_rfl) (by simp) ?_
    refine AllReadyH.cons (o := ?oiAx10) ?hoAx10 (fun K hK => ?restAx10) ?moreAx10
    case moreAx10 => exact AllReadyH.nil
    case hoAx10 => (simp only [List.getElem?_toArray, List.getElem?_cons_zero, List.getElem?_cons_succ]; rfl)
    go_simp
    refine (O1 _).mono ?_
    rintro e w10 ⟨rfl, hB10'⟩
    have hB10 := hB99.trans hB10'
    try go_wp2_with fail
    refine hK.out _ _ ?hSnewAy10 (fun hHeld => ?restAy10)
    case hSnewAy10 => ((try dsimp only); exact HALL.out _ hB10)
    clear hK K
    (try simp only [Act.put, List.setIfInBounds_toArray, List.set_cons_zero, List.set_cons_succ])
    refine wpAnyH_ready (rs := [12]) (by kernel_rfl) (by simp) ?_
    refine AllReadyH.cons (o := ?oiAx12) ?hoAx12 (fun K hK => ?restAx12) ?moreAx12
    case moreAx12 => exact AllReadyH.nil
    case hoAx12 => (simp only [List.getElem?_toArray, List.getElem?_cons_zero, List.getElem?_cons_succ]; rfl)
    go_simp
    refine (O2 _).mono ?_
    rintro e w11 ⟨rfl, hB11'⟩
    have hB11 := hB10.trans (hB11'.mono hB10.size)
    try go_wp2_with fail
    refine hK.out _ _ ?hSnewAy12 (fun hHeld => ?restAy12)
    case hSnewAy12 => ((try dsimp only); exact HALL.out _ hB11)
    clear hK K
    (try simp only [Act.put, List.setIfInBounds_toArray, List.set_cons_zero, List.set_cons_succ])
    refine wpAnyH_ready (rs := [13]) (by kernel_rfl) (by simp) ?_
    refine AllReadyH.cons (o := ?oiAx13) ?hoAx13 (fun K hK => ?restAx13) ?moreAx13
    case moreAx13 => exact AllReadyH.nil
    case hoAx13 => (simp only [List.getElem?_toArray, List.getElem?_cons_zero, List.getElem?_cons_succ]; rfl)
    go_simp
    refine (SM _ (Hz1.out.below (hB9.trans (hB11.mono hB9.size))) (Hz2.out.below (hB9.trans (hB11.mono hB9.size)))).mono ?_
    rintro e w12 ⟨rfl, hB12'⟩
    have hB12 := hB11.trans (hB12'.mono hB11.size)
    try go_wp2_with fail
    refine hK.out _ _ ?hSnewAy13 (fun hHeld => ?restAy13)
    case hSnewAy13 => ((try dsimp only); exact HALL.out _ hB12)
    clear hK K
    (try simp only [Act.put, List.setIfInBounds_toArray, List.set_cons_zero, List.set_cons_succ])
    refine wpAnyH_take (i := 14) (oi := ?oiAx14) (v := ?vAx14) ?hoAx14 ?h1Ax14 ?h2Ax14 ?h3Ax14 ?hqAx14 (Or.inl ⟨?h4Ax14, ?hyAx14⟩) (by assumption) ?restAx14
    case hoAx14 => (simp only [List.getElem?_toArray, List.getElem?_cons_zero, List.getElem?_cons_succ]; rfl)
    case h1Ax14 => kernel_rfl
    case h2Ax14 => kernel_rfl
    case h3Ax14 => kernel_rfl
    case h4Ax14 => rfl
    case hqAx14 => exact fun _ _ _ h => h
    case hyAx14 => (intro w hSw; (try dsimp only at hSw); go_simp <;> with_reducible rfl)
    (try simp only [Act.put, List.setIfInBounds_toArray, List.set_cons_zero, List.set_cons_succ])
    refine wpAnyH_take (i := 15) (oi := ?oiAx15) (v := ?vAx15) ?hoAx15 ?h1Ax15 ?h2Ax15 ?h3Ax15 ?hqAx15 (Or.inl ⟨?h4Ax15, ?hyAx15⟩) (by assumption) ?restAx15
    case hoAx15 => (simp only [List.getElem?_toArray, List.getElem?_cons_zero, List.getElem?_cons_succ]; rfl)
    case h1Ax15 => kernel_rfl
    case h2Ax15 => kernel_rfl
    case h3Ax15 => kernel_rfl
    case h4Ax15 => rfl
    case hqAx15 => exact fun _ _ _ h => h
    case hyAx15 => (intro w hSw; (try dsimp only at hSw); go_simp <;> with_reducible rfl)
    (try simp only [Act.put, List.setIfInBounds_toArray, List.set_cons_zero, List.set_cons_succ])
    refine wpAnyH_take (i := 16) (oi := ?oiAx16) (v := ?vAx16) ?hoAx16 ?h1Ax16 ?h2Ax16 ?h3Ax16 ?hqAx16 (Or.inl ⟨?h4Ax16, ?hyAx16⟩) (by assumption) ?restAx16
    case hoAx16 => (simp only [List.getElem?_toArray, List.getElem?_cons_zero, List.getElem?_cons_succ]; rfl)
    case h1Ax16 => kernel_rfl
    case h2Ax16 => kernel_rfl
    case h3Ax16 => kernel_rfl
    case h4Ax16 => rfl
    case hqAx16 => exact fun _ _ _ h => h
    case hyAx16 => (intro w hSw; (try dsimp only at hSw); go_simp <;> with_reducible rfl)
    (try simp only [Act.put, List.setIfInBounds_toArray, List.set_cons_zero, List.set_cons_succ])
    refine wpAnyH_done (by kernel_rfl) ?_ _
    go_wp2
    go_ret
    exact ⟨rfl, HB.out.trans ((hB9.trans (hB12.mono hB9.size)).mono HB.out.size)⟩
  · have hse := (str_eq hpB1 hpB2).trans (decide_eq_false hpq)
    have hsame : decide ((K1 : Int) = (K2 : Int) ∧ (E1 : Int) = (E2 : Int) ∧ (S1 : Int) = (S2 : Int) ∧ (a1 : Int) = (a2 : Int) ∧ (f1 : Int) - 1 = (f2 : Int) - 1 ∧ ys1 = ys2) = false := decide_eq_false (by
      rintro ⟨h1, h2, h3, h4, h5, h6⟩
      apply hpq
      rw [← hpg1, ← hpg2, show K1 = K2 by omega, show E1 = E2 by omega, show S1 = S2 by omega, show a1 = a2 by omega, show f1 = f2 by omega, h6])
    have SM : ∀ W, Nums W .u8 A1 n1 ys1 → Nums W .u8 A2 n2 ys2 → Calls Try.prog 13 #[.agg #[.int .u8 (K1 : Int), .int .u64 (E1 : Int), .int .u64 (S1 : Int), .int .i64 (a1 : Int), .int .i64 ((f1 : Int) - 1), .slice A1 n1 c1], .agg #[.int .u8 (K2 : Int), .int .u64 (E2 : Int), .int .u64 (S2 : Int), .int .i64 (a2 : Int), .int .i64 ((f2 : Int) - 1), .slice A2 n2 c2]] W fun e w' => e = .returned (.bool false) ∧ Below W.heap.size W w' := fun W h1 h2 => by
      have := same_any (K1 : Int) (E1 : Int) (S1 : Int) (a1 : Int) ((f1 : Int) - 1) A1 n1 c1 ys1 (K2 : Int) (E2 : Int) (S2 : Int) (a2 : Int) ((f2 : Int) - 1) A2 n2 c2 ys2 W h1 h2
      rw [hsame] at this
      exact this
    have Hf1 := hid hf1
    have Hf2 := hid hf2
    clear hpq hsame hpg1 hpg2 hf1 hf2
    refine wp_region_held_drew (S := (fun w' => (w'.cell? ⟨gx, 0, none⟩ = some (.int .u8 (K1 : Int)) ∧ w'.cell? ⟨gx, 1, none⟩ = some (.int .u64 (E1 : Int)) ∧ w'.cell? ⟨gx, 2, none⟩ = some (.int .u64 (S1 : Int)) ∧ w'.cell? ⟨gx, 3, none⟩ = some (.int .i64 (a1 : Int)) ∧ w'.cell? ⟨gx, 4, none⟩ = some (.int .i64 ((f1 : Int) - 1)) ∧ w'.cell? ⟨gx, 5, none⟩ = some (.slice A1 n1 c1)) ∧ (w'.cell? ⟨gy, 0, none⟩ = some (.int .u8 (K2 : Int)) ∧ w'.cell? ⟨gy, 1, none⟩ = some (.int .u64 (E2 : Int)) ∧ w'.cell? ⟨gy, 2, none⟩ = some (.int .u64 (S2 : Int)) ∧ w'.cell? ⟨gy, 3, none⟩ = some (.int .i64 (a2 : Int)) ∧ w'.cell? ⟨gy, 4, none⟩ = some (.int .i64 ((f2 : Int) - 1)) ∧ w'.cell? ⟨gy, 5, none⟩ = some (.slice A2 n2 c2)))) (by kernel_rfl) ?hSnewBz (fun hHeld => ?restBz)
    case hSnewBz => ((try dsimp only); exact HS.out _ hBd)
    refine wpAnyH_ready (rs := [0]) (by kernel_rfl) (by simp) ?_
    refine AllReadyH.cons (o := ?oiBx0) ?hoBx0 (fun K hK => ?restBx0) ?moreBx0
    case moreBx0 => exact AllReadyH.nil
    case hoBx0 => (simp only [List.getElem?_toArray, List.getElem?_cons_zero, List.getElem?_cons_succ]; rfl)
    go_simp
    refine (awake_any _).mono ?_
    rintro e w7 ⟨rfl, hB7'⟩
    have hB7 := hBd.trans hB7'
    try go_wp2_with fail
    refine hK.out _ _ ?hSnewBy0 (fun hHeld => ?restBy0)
    case hSnewBy0 => ((try dsimp only); exact HS.out _ hB7)
    clear hK K
    (try simp only [Act.put, List.setIfInBounds_toArray, List.set_cons_zero, List.set_cons_succ])
    refine wpAnyH_take (i := 1) (oi := ?oiBx1) (v := ?vBx1) ?hoBx1 ?h1Bx1 ?h2Bx1 ?h3Bx1 ?hqBx1 (Or.inl ⟨?h4Bx1, ?hyBx1⟩) (by assumption) ?restBx1
    case hoBx1 => (simp only [List.getElem?_toArray, List.getElem?_cons_zero, List.getElem?_cons_succ]; rfl)
    case h1Bx1 => kernel_rfl
    case h2Bx1 => kernel_rfl
    case h3Bx1 => kernel_rfl
    case h4Bx1 => rfl
    case hqBx1 => exact fun _ _ _ h => h
    case hyBx1 => (intro w hSw; (try dsimp only at hSw); go_simp <;> with_reducible rfl)
    (try simp only [Act.put, List.setIfInBounds_toArray, List.set_cons_zero, List.set_cons_succ])
    refine wpAnyH_take (i := 2) (oi := ?oiBx2) (v := ?vBx2) ?hoBx2 ?h1Bx2 ?h2Bx2 ?h3Bx2 ?hqBx2 (Or.inl ⟨?h4Bx2, ?hyBx2⟩) (by assumption) ?restBx2
    case hoBx2 => (simp only [List.getElem?_toArray, List.getElem?_cons_zero, List.getElem?_cons_succ]; rfl)
    case h1Bx2 => kernel_rfl
    case h2Bx2 => kernel_rfl
    case h3Bx2 => kernel_rfl
    case h4Bx2 => rfl
    case hqBx2 => exact fun _ _ _ h => h
    case hyBx2 => (intro w hSw; (try dsimp only at hSw); go_simp <;> with_reducible rfl)
    (try simp only [Act.put, List.setIfInBounds_toArray, List.set_cons_zero, List.set_cons_succ])
    refine wpAnyH_take (i := 5) (oi := ?oiBx5) (v := ?vBx5) ?hoBx5 ?h1Bx5 ?h2Bx5 ?h3Bx5 ?hqBx5 (Or.inl ⟨?h4Bx5, ?hyBx5⟩) (by assumption) ?restBx5
    case hoBx5 => (simp only [List.getElem?_toArray, List.getElem?_cons_zero, List.getElem?_cons_succ]; rfl)
    case h1Bx5 => kernel_rfl
    case h2Bx5 => kernel_rfl
    case h3Bx5 => kernel_rfl
    case h4Bx5 => rfl
    case hqBx5 => exact fun _ _ _ h => h
    case hyBx5 => (intro w hSw; (try dsimp only at hSw); go_simp <;> with_reducible rfl)
    (try simp only [Act.put, List.setIfInBounds_toArray, List.set_cons_zero, List.set_cons_succ])
    refine wpAnyH_take (i := 9) (oi := ?oiBx9) (v := ?vBx9) ?hoBx9 ?h1Bx9 ?h2Bx9 ?h3Bx9 ?hqBx9 (Or.inl ⟨?h4Bx9, ?hyBx9⟩) (by assumption) ?restBx9
    case hoBx9 => (simp only [List.getElem?_toArray, List.getElem?_cons_zero, List.getElem?_cons_succ]; rfl)
    case h1Bx9 => kernel_rfl
    case h2Bx9 => kernel_rfl
    case h3Bx9 => kernel_rfl
    case h4Bx9 => rfl
    case hqBx9 => exact fun _ _ _ h => h
    case hyBx9 => (intro w hSw; (try dsimp only at hSw); go_simp <;> with_reducible rfl)
    (try simp only [Act.put, List.setIfInBounds_toArray, List.set_cons_zero, List.set_cons_succ])
    refine wpAnyH_take (i := 11) (oi := ?oiBx11) (v := ?vBx11) ?hoBx11 ?h1Bx11 ?h2Bx11 ?h3Bx11 ?hqBx11 (Or.inl ⟨?h4Bx11, ?hyBx11⟩) (by assumption) ?restBx11
    case hoBx11 => (simp only [List.getElem?_toArray, List.getElem?_cons_zero, List.getElem?_cons_succ]; rfl)
    case h1Bx11 => kernel_rfl
    case h2Bx11 => kernel_rfl
    case h3Bx11 => kernel_rfl
    case h4Bx11 => rfl
    case hqBx11 => exact fun _ _ _ h => h
    case hyBx11 => (intro w hSw; (try dsimp only at hSw); go_simp <;> with_reducible rfl)
    (try simp only [Act.put, List.setIfInBounds_toArray, List.set_cons_zero, List.set_cons_succ])
    refine wpAnyH_ready (rs := [3]) (by kernel_rfl) (by simp) ?_
    refine AllReadyH.cons (o := ?oiBx3) ?hoBx3 (fun K hK => ?restBx3) ?moreBx3
    case moreBx3 => exact AllReadyH.nil
    case hoBx3 => (simp only [List.getElem?_toArray, List.getElem?_cons_zero, List.getElem?_cons_succ]; rfl)
    go_simp
    refine (L1 _ (Hz1.out.below hB7)).mono ?_
    rintro e w8 ⟨v8, rfl, ho8, hB8'⟩
    obtain ⟨P1, q1, e8, hq8, hp8⟩ := ho8.reads hpB1
    rw [hpl1] at e8 hq8 hp8
    subst e8
    have hB8 := hB7.trans (hB8'.mono hB7.size)
    have HC1 := hid (fun W (h : Below w8.heap.size w8 W) => conv_str (c := q1) (hp8.below h))
    try go_wp2_with fail
    refine hK.out _ _ ?hSnewBy3 (fun hHeld => ?restBy3)
    case hSnewBy3 => ((try dsimp only); exact HS.out _ hB8)
    clear hK K
    (try simp only [Act.put, List.setIfInBounds_toArray, List.set_cons_zero, List.set_cons_succ])
    refine held_switch (fun w' => ((w'.cell? ⟨gx, 0, none⟩ = some (.int .u8 (K1 : Int)) ∧ w'.cell? ⟨gx, 1, none⟩ = some (.int .u64 (E1 : Int)) ∧ w'.cell? ⟨gx, 2, none⟩ = some (.int .u64 (S1 : Int)) ∧ w'.cell? ⟨gx, 3, none⟩ = some (.int .i64 (a1 : Int)) ∧ w'.cell? ⟨gx, 4, none⟩ = some (.int .i64 ((f1 : Int) - 1)) ∧ w'.cell? ⟨gx, 5, none⟩ = some (.slice A1 n1 c1)) ∧ (w'.cell? ⟨gy, 0, none⟩ = some (.int .u8 (K2 : Int)) ∧ w'.cell? ⟨gy, 1, none⟩ = some (.int .u64 (E2 : Int)) ∧ w'.cell? ⟨gy, 2, none⟩ = some (.int .u64 (S2 : Int)) ∧ w'.cell? ⟨gy, 3, none⟩ = some (.int .i64 (a2 : Int)) ∧ w'.cell? ⟨gy, 4, none⟩ = some (.int .i64 ((f2 : Int) - 1)) ∧ w'.cell? ⟨gy, 5, none⟩ = some (.slice A2 n2 c2))) ∧ (convert 23 9 (.slice P1 96 q1)).run Try.prog w' = .ok (.string (strOfNums pg1)) w') (fun w h => h.1) ?hSnewBsa (fun hHeld => ?restBsa)
    case hSnewBsa => ((try dsimp only); exact ⟨HS.out _ hB8, HC1.out _ (Below.refl _ _)⟩)
    refine wpAnyH_take (i := 4) (oi := ?oiBx4) (v := ?vBx4) ?hoBx4 ?h1Bx4 ?h2Bx4 ?h3Bx4 ?hqBx4 (Or.inl ⟨?h4Bx4, ?hyBx4⟩) (by assumption) ?restBx4
    case hoBx4 => (simp only [List.getElem?_toArray, List.getElem?_cons_zero, List.getElem?_cons_succ]; rfl)
    case h1Bx4 => kernel_rfl
    case h2Bx4 => kernel_rfl
    case h3Bx4 => kernel_rfl
    case h4Bx4 => rfl
    case hqBx4 => exact fun _ _ _ h => h
    case hyBx4 => (intro w hSw; (try dsimp only at hSw); go_simp <;> with_reducible rfl)
    (try simp only [Act.put, List.setIfInBounds_toArray, List.set_cons_zero, List.set_cons_succ])
    refine wpAnyH_ready (rs := [6]) (by kernel_rfl) (by simp) ?_
    refine AllReadyH.cons (o := ?oiBx6) ?hoBx6 (fun K hK => ?restBx6) ?moreBx6
    case moreBx6 => exact AllReadyH.nil
    case hoBx6 => (simp only [List.getElem?_toArray, List.getElem?_cons_zero, List.getElem?_cons_succ]; rfl)
    go_simp
    refine (L2 _ (Hz2.out.below hB8)).mono ?_
    rintro e w9 ⟨v9, rfl, ho9, hB9'⟩
    obtain ⟨P2, q2, e9, hq9, hp9⟩ := ho9.reads hpB2
    rw [hpl2] at e9 hq9 hp9
    subst e9
    have hB9 := hB8.trans (hB9'.mono hB8.size)
    have HC2 := hid (fun W (h : Below w9.heap.size w9 W) => conv_str (c := q2) (hp9.below h))
    have HALL := hid (fun W (h : Below w9.heap.size w9 W) => (⟨⟨HS.out W (hB9.trans (h.mono hB9.size)), HC1.out W (hB9'.trans (h.mono hB9'.size))⟩, HC2.out W h⟩ : (_ ∧ _) ∧ _))
    have hB99 := Below.refl w9.heap.size w9
    try go_wp2_with fail
    refine hK.out _ _ ?hSnewBy6 (fun hHeld => ?restBy6)
    case hSnewBy6 => ((try dsimp only); exact ⟨HS.out _ hB9, HC1.out _ hB9'⟩)
    clear hK K
    (try simp only [Act.put, List.setIfInBounds_toArray, List.set_cons_zero, List.set_cons_succ])
    refine held_switch (fun w' => (((w'.cell? ⟨gx, 0, none⟩ = some (.int .u8 (K1 : Int)) ∧ w'.cell? ⟨gx, 1, none⟩ = some (.int .u64 (E1 : Int)) ∧ w'.cell? ⟨gx, 2, none⟩ = some (.int .u64 (S1 : Int)) ∧ w'.cell? ⟨gx, 3, none⟩ = some (.int .i64 (a1 : Int)) ∧ w'.cell? ⟨gx, 4, none⟩ = some (.int .i64 ((f1 : Int) - 1)) ∧ w'.cell? ⟨gx, 5, none⟩ = some (.slice A1 n1 c1)) ∧ (w'.cell? ⟨gy, 0, none⟩ = some (.int .u8 (K2 : Int)) ∧ w'.cell? ⟨gy, 1, none⟩ = some (.int .u64 (E2 : Int)) ∧ w'.cell? ⟨gy, 2, none⟩ = some (.int .u64 (S2 : Int)) ∧ w'.cell? ⟨gy, 3, none⟩ = some (.int .i64 (a2 : Int)) ∧ w'.cell? ⟨gy, 4, none⟩ = some (.int .i64 ((f2 : Int) - 1)) ∧ w'.cell? ⟨gy, 5, none⟩ = some (.slice A2 n2 c2))) ∧ (convert 23 9 (.slice P1 96 q1)).run Try.prog w' = .ok (.string (strOfNums pg1)) w') ∧ (convert 23 9 (.slice P2 96 q2)).run Try.prog w' = .ok (.string (strOfNums pg2)) w') (fun w h => h.1) ?hSnewBsb (fun hHeld => ?restBsb)
    case hSnewBsb => ((try dsimp only); exact HALL.out _ hB99)
    refine wpAnyH_take (i := 7) (oi := ?oiBx7) (v := ?vBx7) ?hoBx7 ?h1Bx7 ?h2Bx7 ?h3Bx7 ?hqBx7 (Or.inl ⟨?h4Bx7, ?hyBx7⟩) (by assumption) ?restBx7
    case hoBx7 => (simp only [List.getElem?_toArray, List.getElem?_cons_zero, List.getElem?_cons_succ]; rfl)
    case h1Bx7 => kernel_rfl
    case h2Bx7 => kernel_rfl
    case h3Bx7 => kernel_rfl
    case h4Bx7 => rfl
    case hqBx7 => exact fun _ _ _ h => h
    case hyBx7 => (intro w hSw; (try dsimp only at hSw); go_simp <;> with_reducible rfl)
    (try simp only [Act.put, List.setIfInBounds_toArray, List.set_cons_zero, List.set_cons_succ])
    refine wpAnyH_take (i := 8) (oi := ?oiBx8) (v := ?vBx8) ?hoBx8 ?h1Bx8 ?h2Bx8 ?h3Bx8 ?hqBx8 (Or.inl ⟨?h4Bx8, ?hyBx8⟩) (by assumption) ?restBx8
    case hoBx8 => (simp only [List.getElem?_toArray, List.getElem?_cons_zero, List.getElem?_cons_succ]; rfl)
    case h1Bx8 => kernel_rfl
    case h2Bx8 => kernel_rfl
    case h3Bx8 => kernel_rfl
    case h4Bx8 => rfl
    case hqBx8 => exact fun _ _ _ h => h
    case hyBx8 => (intro w hSw; (try dsimp only at hSw); go_simp <;> with_reducible rfl)
    (try simp only [Act.put, List.setIfInBounds_toArray, List.set_cons_zero, List.set_cons_succ])
    refine wpAnyH_ready (rs := [10]) (by kernel_rfl) (by simp) ?_
    refine AllReadyH.cons (o := ?oiBx10) ?hoBx10 (fun K hK => ?restBx10) ?moreBx10
    case moreBx10 => exact AllReadyH.nil
    case hoBx10 => (simp only [List.getElem?_toArray, List.getElem?_cons_zero, List.getElem?_cons_succ]; rfl)
    go_simp
    refine (O1 _).mono ?_
    rintro e w10 ⟨rfl, hB10'⟩
    have hB10 := hB99.trans hB10'
    try go_wp2_with fail
    refine hK.out _ _ ?hSnewBy10 (fun hHeld => ?restBy10)
    case hSnewBy10 => ((try dsimp only); exact HALL.out _ hB10)
    clear hK K
    (try simp only [Act.put, List.setIfInBounds_toArray, List.set_cons_zero, List.set_cons_succ])
    refine wpAnyH_ready (rs := [12]) (by kernel_rfl) (by simp) ?_
    refine AllReadyH.cons (o := ?oiBx12) ?hoBx12 (fun K hK => ?restBx12) ?moreBx12
    case moreBx12 => exact AllReadyH.nil
    case hoBx12 => (simp only [List.getElem?_toArray, List.getElem?_cons_zero, List.getElem?_cons_succ]; rfl)
    go_simp
    refine (O2 _).mono ?_
    rintro e w11 ⟨rfl, hB11'⟩
    have hB11 := hB10.trans (hB11'.mono hB10.size)
    try go_wp2_with fail
    refine hK.out _ _ ?hSnewBy12 (fun hHeld => ?restBy12)
    case hSnewBy12 => ((try dsimp only); exact HALL.out _ hB11)
    clear hK K
    (try simp only [Act.put, List.setIfInBounds_toArray, List.set_cons_zero, List.set_cons_succ])
    refine wpAnyH_ready (rs := [13]) (by kernel_rfl) (by simp) ?_
    refine AllReadyH.cons (o := ?oiBx13) ?hoBx13 (fun K hK => ?restBx13) ?moreBx13
    case moreBx13 => exact AllReadyH.nil
    case hoBx13 => (simp only [List.getElem?_toArray, List.getElem?_cons_zero, List.getElem?_cons_succ]; rfl)
    go_simp
    refine (SM _ (Hz1.out.below (hB9.trans (hB11.mono hB9.size))) (Hz2.out.below (hB9.trans (hB11.mono hB9.size)))).mono ?_
    rintro e w12 ⟨rfl, hB12'⟩
    have hB12 := hB11.trans (hB12'.mono hB11.size)
    try go_wp2_with fail
    refine hK.out _ _ ?hSnewBy13 (fun hHeld => ?restBy13)
    case hSnewBy13 => ((try dsimp only); exact HALL.out _ hB12)
    clear hK K
    (try simp only [Act.put, List.setIfInBounds_toArray, List.set_cons_zero, List.set_cons_succ])
    refine wpAnyH_take (i := 14) (oi := ?oiBx14) (v := ?vBx14) ?hoBx14 ?h1Bx14 ?h2Bx14 ?h3Bx14 ?hqBx14 (Or.inl ⟨?h4Bx14, ?hyBx14⟩) (by assumption) ?restBx14
    case hoBx14 => (simp only [List.getElem?_toArray, List.getElem?_cons_zero, List.getElem?_cons_succ]; rfl)
    case h1Bx14 => kernel_rfl
    case h2Bx14 => kernel_rfl
    case h3Bx14 => kernel_rfl
    case h4Bx14 => rfl
    case hqBx14 => exact fun _ _ _ h => h
    case hyBx14 => (intro w hSw; (try dsimp only at hSw); go_simp <;> with_reducible rfl)
    (try simp only [Act.put, List.setIfInBounds_toArray, List.set_cons_zero, List.set_cons_succ])
    refine wpAnyH_take (i := 15) (oi := ?oiBx15) (v := ?vBx15) ?hoBx15 ?h1Bx15 ?h2Bx15 ?h3Bx15 ?hqBx15 (Or.inl ⟨?h4Bx15, ?hyBx15⟩) (by assumption) ?restBx15
    case hoBx15 => (simp only [List.getElem?_toArray, List.getElem?_cons_zero, List.getElem?_cons_succ]; rfl)
    case h1Bx15 => kernel_rfl
    case h2Bx15 => kernel_rfl
    case h3Bx15 => kernel_rfl
    case h4Bx15 => rfl
    case hqBx15 => exact fun _ _ _ h => h
    case hyBx15 => (intro w hSw; (try dsimp only at hSw); go_simp <;> with_reducible rfl)
    (try simp only [Act.put, List.setIfInBounds_toArray, List.set_cons_zero, List.set_cons_succ])
    refine wpAnyH_take (i := 16) (oi := ?oiBx16) (v := ?vBx16) ?hoBx16 ?h1Bx16 ?h2Bx16 ?h3Bx16 ?hqBx16 (Or.inl ⟨?h4Bx16, ?hyBx16⟩) (by assumption) ?restBx16
    case hoBx16 => (simp only [List.getElem?_toArray, List.getElem?_cons_zero, List.getElem?_cons_succ]; rfl)
    case h1Bx16 => kernel_rfl
    case h2Bx16 => kernel_rfl
    case h3Bx16 => kernel_rfl
    case h4Bx16 => rfl
    case hqBx16 => exact fun _ _ _ h => h
    case hyBx16 => (intro w hSw; (try dsimp only at hSw); go_simp <;> with_reducible rfl)
    (try simp only [Act.put, List.setIfInBounds_toArray, List.set_cons_zero, List.set_cons_succ])
    refine wpAnyH_done (by kernel_rfl) ?_ _
    go_wp2
    go_ret
    exact ⟨rfl, HB.out.trans ((hB9.trans (hB12.mono hB9.size)).mono HB.out.size)⟩
end Go.Proofs.Ytpncgfdnilmhhaa.Sheet
