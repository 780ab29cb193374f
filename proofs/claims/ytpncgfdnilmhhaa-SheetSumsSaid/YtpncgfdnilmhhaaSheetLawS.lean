import Derived.Test.YtpncgfdnilmhhaaSheetNear
import Derived.Test.YtpncgfdnilmhhaaSheetAwake
import Derived.Test.YtpncgfdnilmhhaaSheetSame
import Derived.Test.YtpncgfdnilmhhaaSheetRead
import Derived.Test.YtpncgfdnilmhhaaSheetRefRd
import Derived.Test.YtpncgfdnilmhhaaSheetSealed
import Derived.Test.YtpncgfdnilmhhaaSheetLawR
import Derived.Test.YtpncgfdnilmhhaaSheetLawT
import Derived.BigRegion
set_option linter.unusedVariables false
set_option linter.unusedSimpArgs false
namespace Go.Proofs.Ytpncgfdnilmhhaa.Sheet
open Go.RowKit Go.Proofs.Ytpncgfdnilmhhaa.Kit Go.Proofs.Ytpncgfdnilmhhaa.Oct

theorem core_code {xs : List Int} {K E S a F k : Int} {zs : List Int} (h : Core xs K E S a F zs k) : k = 0 ∨ k = code xs := by
  rcases h with ⟨_, _, _, _, _, _, _, _, _, _, h, _⟩ | ⟨_, h, _⟩
  · exact .inl h
  · exact .inr h
theorem code_sealed (xs : List Int) (hl : xs.length = 91) (hB : IsB xs) : code (xs ++ (le (sum xs) 4 ++ [90])) = 3 := by
  have e : (xs ++ (le (sum xs) 4 ++ [90])).take 95 = xs ++ le (sum xs) 4 := by
    rw [← List.append_assoc]
    exact List.take_left' (by rw [List.length_append, le_len, hl])
  refine code_three (by rw [List.length_append, List.length_append, le_len, hl]; rfl) ?_
  rw [e]
  have := good_seal xs hB
  rw [hl] at this
  exact this

set_option maxRecDepth 100000 in
set_option maxHeartbeats 4000000 in
theorem law_sums (kd : Int) (hkd : 0 ≤ kd ∧ kd ≤ 255) (sz : Int) (hsz : 0 ≤ sz ∧ sz ≤ 65535) (fl : Int) (hfl : 0 ≤ fl ∧ fl ≤ 255) (w : World) :
    Calls Try.prog 9 #[.int .u8 kd, .int .u16 sz, .int .u8 fl] w fun e w' => e = .returned (.bool true) ∧ Below w.heap.size w w' := by
  obtain ⟨kd0, kd1⟩ := hkd
  obtain ⟨sz0, sz1⟩ := hsz
  obtain ⟨fl0, fl1⟩ := hfl
  go_enter Try.func9, Try.ntmps9
  go_wp2_with fail
  refine (awake_any w).mono ?_
  rintro e w1 ⟨rfl, hB1⟩
  have hmk : ∀ W : World, (Instr.makeSlice 23 (.int .i64 91) (.int .i64 91)).run Try.prog W = .ok (.slice (some ⟨W.heap.size, 0, none⟩) 91 91) (W.alloc (.cells (Array.replicate 91 (.int .u8 0)) 5)) := fun _ => by kernel_rfl
  go_upto_region 4 with (fail)
  clear hmk
  obtain ⟨gp, hgp⟩ : ∃ g, w1.heap.size = g := ⟨_, rfl⟩
  have hgw : w.heap.size ≤ gp := by rw [← hgp]; exact hB1.size
  obtain ⟨w2, hw2⟩ : ∃ W, W = w1.alloc (.cells (Array.replicate 91 (.int .u8 0)) 5) := ⟨_, rfl⟩
  have hr2 : w2.ownsRow w.heap.size 5 1 (.slice (some ⟨gp, 0, none⟩) 91 91) 91 ((List.replicate 91 (0 : Int)).map (Value.int .u8)) := by
    rw [hw2, ← hgp]
    exact ⟨by simp, .inr ⟨w1.heap.size, 91, Array.replicate 91 (.int .u8 0), rfl, hB1.size, heap_alloc_new w1 _, by simp, by unfold maxLen; omega, by simp, by simp⟩⟩
  have hB2 : Below w.heap.size w w2 := by rw [hw2]; exact hB1.alloc hB1.size _
  rw [← hw2, hgp]
  clear hw2 hgp hB1
  go_wp2
  go_loopw [8] (fun x w' => ∃ (i : Nat) (ys : List Int), x = .int .i64 (i : Int) ∧ i ≤ 91 ∧ ys.length = 91 ∧ IsB ys ∧ w'.ownsRow w.heap.size 5 1 (.slice (some ⟨gp, 0, none⟩) 91 91) 91 (ys.map (Value.int .u8)) ∧ Below w.heap.size w w') (fun x _ => 91 - (intOf x).toNat)
  case atStart => exact ⟨0, List.replicate 91 0, rfl, by omega, by simp, (fun x hx => by rw [List.eq_of_mem_replicate hx]; omega), hr2, hB2⟩
  case round =>
    clear hr2 hB2
    obtain ⟨i, ys, rfl, hi1, hyl, hyB, hrow, hBi⟩ := hrel
    have hst : ∀ (j : Nat) (v : Int), 0 ≤ v → v ≤ 255 → ∀ (W : World) (zs : List Int), zs.length = 91 → IsB zs → W.ownsRow w.heap.size 5 1 (.slice (some ⟨gp, 0, none⟩) 91 91) 91 (zs.map (Value.int .u8)) → Below w.heap.size w W →
        ((zs.set j v).length = 91 ∧ IsB (zs.set j v)) ∧ (W.setCell ⟨gp, j, none⟩ (.int .u8 v)).ownsRow w.heap.size 5 1 (.slice (some ⟨gp, 0, none⟩) 91 91) 91 ((zs.set j v).map (Value.int .u8)) ∧ Below w.heap.size w (W.setCell ⟨gp, j, none⟩ (.int .u8 v)) := fun j v v0 v1 W zs hl hB hr hb => by
      refine ⟨⟨by rw [List.length_set]; exact hl, ?_⟩, ?_, below_set hb hgw j _⟩
      · intro x hx
        rcases List.mem_or_eq_of_mem_set hx with h | h
        · exact hB x h
        · omega
      · rw [List.map_set]
        exact own_set hr j _
    have Hst := hid hst
    clear hst
    by_cases hlt : i < 91
    · have hcell := own_at hrow (wf_of hyB) i hlt
      rw [Nat.zero_add] at hcell
      have hfr := (own_free hrow).2 i
      obtain ⟨⟨hl2, hB2⟩, hrow2, hb2⟩ := Hst.out i fl fl0 fl1 _ ys hyl hyB hrow hBi
      have Hrow2 := hid hrow2
      have Hb2 := hid hb2
      clear hrow2 hb2 hrow hBi
      go_wp2
      go_roundw
      case rel => exact ⟨i + 1, ys.set i fl, by go_num, by omega, hl2, hB2, Hrow2.out, Hb2.out⟩
      case measure => simp [intOf]; omega
    · obtain rfl : i = 91 := by omega
      have hcell := own_at hrow (wf_of hyB) 0 (by decide)
      rw [Nat.zero_add] at hcell
      have hfr := (own_free hrow).2 0
      obtain ⟨⟨hl2, hB2⟩, hrow2, hb2⟩ := Hst.out 0 kd kd0 kd1 _ ys hyl hyB hrow hBi
      have Hrow2 := hid hrow2
      have Hb2 := hid hb2
      clear hrow2 hb2 hrow hBi
      go_upto_region 9 with (fail)
      clear hcell hfr
      have hrow2 := Hrow2.out
      have hcell := own_at hrow2 (wf_of hB2) 16 (by decide)
      rw [Nat.zero_add] at hcell
      have hfr := (own_free hrow2).2 16
      obtain ⟨⟨hl3, hB3⟩, hrow3, hb3⟩ := Hst.out 16 (sz % 256) (by omega) (by omega) _ _ hl2 hB2 hrow2 Hb2.out
      generalize ys.set 0 kd = ys2 at *
      clear hrow2 Hrow2 Hb2
      have Hrow3 := hid hrow3
      have Hb3 := hid hb3
      clear hrow3 hb3
      go_upto_region 10 with (fail)
      clear hcell hfr
      have hrow3 := Hrow3.out
      have hcell := own_at hrow3 (wf_of hB3) 17 (by decide)
      rw [Nat.zero_add] at hcell
      have hfr := (own_free hrow3).2 17
      obtain ⟨⟨hl4, hB4⟩, hrow4, hb4⟩ := Hst.out 17 (sz / 256) (by omega) (by omega) _ _ hl3 hB3 hrow3 Hb3.out
      generalize ys2.set 16 (sz % 256) = ys3 at *
      clear hrow3 Hrow3 Hb3
      go_upto_region 11 with (fail)
      generalize World.setCell (World.setCell (World.setCell wr ⟨gp, 0, none⟩ (.int .u8 kd)) ⟨gp, 16, none⟩ (.int .u8 (sz % 256))) ⟨gp, 17, none⟩ (.int .u8 (sz / 256)) = w4 at *
      generalize ys3.set 17 (sz / 256) = ys4 at *
      clear hcell hfr Hst
      have hz4 := (own_reads hrow4 (wf_of hB4)).2
      have hcd := code_sealed ys4 hl4 hB4
      go_wp2_with fail
      refine (sealed_any (some ⟨gp, 0, none⟩) 91 91 ys4 w4 hz4 (by decide)).mono ?_
      rintro e w5 ⟨v5, rfl, ho5, hB45⟩
      have hB5 := hb4.trans (hB45.mono hb4.size)
      have hq96 : (ys4 ++ (le (sum ys4) 4 ++ [90])).length = 96 := by rw [List.length_append, List.length_append, le_len, hl4]; rfl
      have hqB : IsB (ys4 ++ (le (sum ys4) 4 ++ [90])) := isB_append hB4 (isB_append (le_isB _ _) (fun x hx => by simp at hx; omega))
      generalize ys4 ++ (le (sum ys4) 4 ++ [90]) = qs at *
      obtain ⟨A5, c5, e5, hcq, hp5⟩ := ho5.reads hqB
      rw [hq96] at e5 hcq hp5
      subst e5
      clear ho5 hB45 hb4 hrow4 hz4
      have hnq := Nums.len hp5
      go_wp2_with fail
      refine (sread_any A5 96 c5 qs w5 hp5 hcq).mono ?_
      rintro e w6 ⟨v6, k6, rfl, ht6, hB6⟩
      obtain ⟨K1, E1, S1, a1, F1, A1, n1, c1, zs1, rfl, hz6, hc6⟩ := told_core ht6
      clear ht6
      go_upto_region 13 with (fail)
      obtain ⟨gx, hgx⟩ : ∃ g, w6.heap.size = g := ⟨_, rfl⟩
      rw [hgx]
      obtain ⟨w7, hw⟩ : ∃ W, W = w6.alloc (.cells #[.int .u8 K1, .int .u64 E1, .int .u64 S1, .int .i64 a1, .int .i64 F1, .slice A1 n1 c1] 25) := ⟨_, rfl⟩
      have hgxb : Blk w7 gx #[.int .u8 K1, .int .u64 E1, .int .u64 S1, .int .i64 a1, .int .i64 F1, .slice A1 n1 c1] 25 := by rw [hw, ← hgx]; exact Blk.new _ _ _
      have hA7 : Below w6.heap.size w6 w7 := by rw [hw]; exact (Below.refl _ _).alloc (Nat.le_refl _) _
      rw [← hw]
      clear hw hgx
      have hp7 := Nums.below hp5 (hB6.trans (hA7.mono hB6.size))
      have hB7 := Below.trans hB5 ((hB6.trans (hA7.mono hB6.size)).mono (Below.size hB5))
      have hz7 := hz6.below hA7
      clear hB6 hA7 hz6
      go_wp2_with fail
      refine (rsread_any A5 96 c5 qs w7 hp7 hcq).mono ?_
      rintro e w8 ⟨v8, k8, rfl, ht8, hB8⟩
      obtain ⟨K2, E2, S2, a2, F2, A2, n2, c2, zs2, rfl, hz8, hc8⟩ := told_core ht8
      clear ht8
      obtain ⟨rfl, rfl, rfl, rfl, rfl, rfl, rfl⟩ := core_inj hc6 hc8
      clear hc8
      go_upto_region 14 with (fail)
      obtain ⟨gy, hgy⟩ : ∃ g, w8.heap.size = g := ⟨_, rfl⟩
      rw [hgy]
      obtain ⟨w9, hw⟩ : ∃ W, W = w8.alloc (.cells #[.int .u8 K1, .int .u64 E1, .int .u64 S1, .int .i64 a1, .int .i64 F1, .slice A2 n2 c2] 30) := ⟨_, rfl⟩
      have hgyb : Blk w9 gy #[.int .u8 K1, .int .u64 E1, .int .u64 S1, .int .i64 a1, .int .i64 F1, .slice A2 n2 c2] 30 := by rw [hw, ← hgy]; exact Blk.new _ _ _
      have hA9 : Below w8.heap.size w8 w9 := by rw [hw]; exact (Below.refl _ _).alloc (Nat.le_refl _) _
      rw [← hw]
      clear hw hgy
      have hB79 := hB8.trans (hA9.mono hB8.size)
      have hx9 := hgxb.later hB79
      have Hz1 := hid (hz7.below hB79)
      have Hz2 := hid (hz8.below hA9)
      have HB := hid (hB7.trans (hB79.mono hB7.size))
      have HS := hid (fun W (h : Below w9.heap.size w9 W) => (⟨(hx9.later h).six.1, (hgyb.later h).six.1⟩ : _ ∧ _))
      have hBd : Below w9.heap.size w9 (w9.drewN 1) := below_drewN (Below.refl _ _) 1
      clear hp7 hB7 hz7 hB8 hz8 hA9 hgxb hgyb hB79 hx9
      have O1 := fun W => of_any K1 E1 S1 a1 F1 A1 n1 c1 W
      have SM : ∀ W, Nums W .u8 A1 n1 zs1 → Nums W .u8 A2 n2 zs1 → Calls Try.prog 13 #[.agg #[.int .u8 K1, .int .u64 E1, .int .u64 S1, .int .i64 a1, .int .i64 F1, .slice A1 n1 c1], .agg #[.int .u8 K1, .int .u64 E1, .int .u64 S1, .int .i64 a1, .int .i64 F1, .slice A2 n2 c2]] W fun e w' => e = .returned (.bool true) ∧ Below W.heap.size W w' := fun W h1 h2 => by
        have := same_any K1 E1 S1 a1 F1 A1 n1 c1 zs1 K1 E1 S1 a1 F1 A2 n2 c2 zs1 W h1 h2
        rw [decide_eq_true ⟨rfl, rfl, rfl, rfl, rfl, rfl⟩] at this
        exact this
      have hk := core_code hc6
      rw [hcd] at hk
      clear hc6 hcd
      rcases hk with rfl | rfl
      · refine wp_region_held_drew (S := (fun w' => (w'.cell? ⟨gx, 0, none⟩ = some (.int .u8 K1) ∧ w'.cell? ⟨gx, 1, none⟩ = some (.int .u64 E1) ∧ w'.cell? ⟨gx, 2, none⟩ = some (.int .u64 S1) ∧ w'.cell? ⟨gx, 3, none⟩ = some (.int .i64 a1) ∧ w'.cell? ⟨gx, 4, none⟩ = some (.int .i64 F1) ∧ w'.cell? ⟨gx, 5, none⟩ = some (.slice A1 n1 c1)) ∧ (w'.cell? ⟨gy, 0, none⟩ = some (.int .u8 K1) ∧ w'.cell? ⟨gy, 1, none⟩ = some (.int .u64 E1) ∧ w'.cell? ⟨gy, 2, none⟩ = some (.int .u64 S1) ∧ w'.cell? ⟨gy, 3, none⟩ = some (.int .i64 a1) ∧ w'.cell? ⟨gy, 4, none⟩ = some (.int .i64 F1) ∧ w'.cell? ⟨gy, 5, none⟩ = some (.slice A2 n2 c2)))) (by kernel_rfl) ?hSnewAz (fun hHeld => ?restAz)
        case hSnewAz => ((try dsimp only); exact HS.out _ hBd)
        refine wpAnyH_take (i := 0) (oi := ?oiAx0) (v := ?vAx0) ?hoAx0 ?h1Ax0 ?h2Ax0 ?h3Ax0 ?hqAx0 (Or.inl ⟨?h4Ax0, ?hyAx0⟩) (by assumption) ?restAx0
        case hoAx0 => (simp only [List.getElem?_toArray, List.getElem?_cons_zero, List.getElem?_cons_succ]; rfl)
        case h1Ax0 => kernel_rfl
        case h2Ax0 => kernel_rfl
        case h3Ax0 => kernel_rfl
        case h4Ax0 => rfl
        case hqAx0 => exact fun _ _ _ h => h
        case hyAx0 => (intro w hSw; (try dsimp only at hSw); go_simp <;> with_reducible rfl)
        (try simp only [Act.put, List.setIfInBounds_toArray, List.set_cons_zero, List.set_cons_succ])
        refine wpAnyH_take (i := 1) (oi := ?oiAx1) (v := ?vAx1) ?hoAx1 ?h1Ax1 ?h2Ax1 ?h3Ax1 ?hqAx1 (Or.inl ⟨?h4Ax1, ?hyAx1⟩) (by assumption) ?restAx1
        case hoAx1 => (simp only [List.getElem?_toArray, List.getElem?_cons_zero, List.getElem?_cons_succ]; rfl)
        case h1Ax1 => kernel_rfl
        case h2Ax1 => kernel_rfl
        case h3Ax1 => kernel_rfl
        case h4Ax1 => rfl
        case hqAx1 => exact fun _ _ _ h => h
        case hyAx1 => (intro w hSw; (try dsimp only at hSw); go_simp <;> with_reducible rfl)
        (try simp only [Act.put, List.setIfInBounds_toArray, List.set_cons_zero, List.set_cons_succ])
        refine wpAnyH_take (i := 2) (oi := ?oiAx2) (v := ?vAx2) ?hoAx2 ?h1Ax2 ?h2Ax2 ?h3Ax2 ?hqAx2 (Or.inl ⟨?h4Ax2, ?hyAx2⟩) (by assumption) ?restAx2
        case hoAx2 => (simp only [List.getElem?_toArray, List.getElem?_cons_zero, List.getElem?_cons_succ]; rfl)
        case h1Ax2 => kernel_rfl
        case h2Ax2 => kernel_rfl
        case h3Ax2 => kernel_rfl
        case h4Ax2 => rfl
        case hqAx2 => exact fun _ _ _ h => h
        case hyAx2 => (intro w hSw; (try dsimp only at hSw); go_simp <;> with_reducible rfl)
        (try simp only [Act.put, List.setIfInBounds_toArray, List.set_cons_zero, List.set_cons_succ])
        refine wpAnyH_take (i := 3) (oi := ?oiAx3) (v := ?vAx3) ?hoAx3 ?h1Ax3 ?h2Ax3 ?h3Ax3 ?hqAx3 (Or.inl ⟨?h4Ax3, ?hyAx3⟩) (by assumption) ?restAx3
        case hoAx3 => (simp only [List.getElem?_toArray, List.getElem?_cons_zero, List.getElem?_cons_succ]; rfl)
        case h1Ax3 => kernel_rfl
        case h2Ax3 => kernel_rfl
        case h3Ax3 => kernel_rfl
        case h4Ax3 => rfl
        case hqAx3 => exact fun _ _ _ h => h
        case hyAx3 => (intro w hSw; (try dsimp only at hSw); go_simp <;> with_reducible rfl)
        (try simp only [Act.put, List.setIfInBounds_toArray, List.set_cons_zero, List.set_cons_succ])
        refine wpAnyH_take (i := 4) (oi := ?oiAx4) (v := ?vAx4) ?hoAx4 ?h1Ax4 ?h2Ax4 ?h3Ax4 ?hqAx4 (Or.inl ⟨?h4Ax4, ?hyAx4⟩) (by assumption) ?restAx4
        case hoAx4 => (simp only [List.getElem?_toArray, List.getElem?_cons_zero, List.getElem?_cons_succ]; rfl)
        case h1Ax4 => kernel_rfl
        case h2Ax4 => kernel_rfl
        case h3Ax4 => kernel_rfl
        case h4Ax4 => rfl
        case hqAx4 => exact fun _ _ _ h => h
        case hyAx4 => (intro w hSw; (try dsimp only at hSw); go_simp <;> with_reducible rfl)
        (try simp only [Act.put, List.setIfInBounds_toArray, List.set_cons_zero, List.set_cons_succ])
        refine wpAnyH_take (i := 6) (oi := ?oiAx6) (v := ?vAx6) ?hoAx6 ?h1Ax6 ?h2Ax6 ?h3Ax6 ?hqAx6 (Or.inl ⟨?h4Ax6, ?hyAx6⟩) (by assumption) ?restAx6
        case hoAx6 => (simp only [List.getElem?_toArray, List.getElem?_cons_zero, List.getElem?_cons_succ]; rfl)
        case h1Ax6 => kernel_rfl
        case h2Ax6 => kernel_rfl
        case h3Ax6 => kernel_rfl
        case h4Ax6 => rfl
        case hqAx6 => exact fun _ _ _ h => h
        case hyAx6 => (intro w hSw; (try dsimp only at hSw); go_simp <;> with_reducible rfl)
        (try simp only [Act.put, List.setIfInBounds_toArray, List.set_cons_zero, List.set_cons_succ])
        refine wpAnyH_ready (rs := [5]) (by kernel_rfl) (by simp) ?_
        refine AllReadyH.cons (o := ?oiAx5) ?hoAx5 (fun K hK => ?restAx5) ?moreAx5
        case moreAx5 => exact AllReadyH.nil
        case hoAx5 => (simp only [List.getElem?_toArray, List.getElem?_cons_zero, List.getElem?_cons_succ]; rfl)
        go_simp
        refine (O1 _).mono ?_
        rintro e w10 ⟨rfl, hB10'⟩
        have hB10 := hBd.trans hB10'
        try go_wp2_with fail
        refine hK.out _ _ ?hSnewAy5 (fun hHeld => ?restAy5)
        case hSnewAy5 => ((try dsimp only); exact HS.out _ hB10)
        clear hK K
        (try simp only [Act.put, List.setIfInBounds_toArray, List.set_cons_zero, List.set_cons_succ])
        refine wpAnyH_ready (rs := [7]) (by kernel_rfl) (by simp) ?_
        refine AllReadyH.cons (o := ?oiAx7) ?hoAx7 (fun K hK => ?restAx7) ?moreAx7
        case moreAx7 => exact AllReadyH.nil
        case hoAx7 => (simp only [List.getElem?_toArray, List.getElem?_cons_zero, List.getElem?_cons_succ]; rfl)
        go_simp
        refine (SM _ (Hz1.out.below hB10) (Hz2.out.below hB10)).mono ?_
        rintro e w11 ⟨rfl, hB11'⟩
        have hB11 := hB10.trans (hB11'.mono hB10.size)
        try go_wp2_with fail
        refine hK.out _ _ ?hSnewAy7 (fun hHeld => ?restAy7)
        case hSnewAy7 => ((try dsimp only); exact HS.out _ hB11)
        clear hK K
        (try simp only [Act.put, List.setIfInBounds_toArray, List.set_cons_zero, List.set_cons_succ])
        refine wpAnyH_take (i := 8) (oi := ?oiAx8) (v := ?vAx8) ?hoAx8 ?h1Ax8 ?h2Ax8 ?h3Ax8 ?hqAx8 (Or.inl ⟨?h4Ax8, ?hyAx8⟩) (by assumption) ?restAx8
        case hoAx8 => (simp only [List.getElem?_toArray, List.getElem?_cons_zero, List.getElem?_cons_succ]; rfl)
        case h1Ax8 => kernel_rfl
        case h2Ax8 => kernel_rfl
        case h3Ax8 => kernel_rfl
        case h4Ax8 => rfl
        case hqAx8 => exact fun _ _ _ h => h
        case hyAx8 => (intro w hSw; (try dsimp only at hSw); go_simp <;> with_reducible rfl)
        (try simp only [Act.put, List.setIfInBounds_toArray, List.set_cons_zero, List.set_cons_succ])
        refine wpAnyH_take (i := 9) (oi := ?oiAx9) (v := ?vAx9) ?hoAx9 ?h1Ax9 ?h2Ax9 ?h3Ax9 ?hqAx9 (Or.inl ⟨?h4Ax9, ?hyAx9⟩) (by assumption) ?restAx9
        case hoAx9 => (simp only [List.getElem?_toArray, List.getElem?_cons_zero, List.getElem?_cons_succ]; rfl)
        case h1Ax9 => kernel_rfl
        case h2Ax9 => kernel_rfl
        case h3Ax9 => kernel_rfl
        case h4Ax9 => rfl
        case hqAx9 => exact fun _ _ _ h => h
        case hyAx9 => (intro w hSw; (try dsimp only at hSw); go_simp <;> with_reducible rfl)
        (try simp only [Act.put, List.setIfInBounds_toArray, List.set_cons_zero, List.set_cons_succ])
        refine wpAnyH_take (i := 10) (oi := ?oiAx10) (v := ?vAx10) ?hoAx10 ?h1Ax10 ?h2Ax10 ?h3Ax10 ?hqAx10 (Or.inl ⟨?h4Ax10, ?hyAx10⟩) (by assumption) ?restAx10
        case hoAx10 => (simp only [List.getElem?_toArray, List.getElem?_cons_zero, List.getElem?_cons_succ]; rfl)
        case h1Ax10 => kernel_rfl
        case h2Ax10 => kernel_rfl
        case h3Ax10 => kernel_rfl
        case h4Ax10 => rfl
        case hqAx10 => exact fun _ _ _ h => h
        case hyAx10 => (intro w hSw; (try dsimp only at hSw); go_simp <;> with_reducible rfl)
        (try simp only [Act.put, List.setIfInBounds_toArray, List.set_cons_zero, List.set_cons_succ])
        refine wpAnyH_take (i := 11) (oi := ?oiAx11) (v := ?vAx11) ?hoAx11 ?h1Ax11 ?h2Ax11 ?h3Ax11 ?hqAx11 (Or.inl ⟨?h4Ax11, ?hyAx11⟩) (by assumption) ?restAx11
        case hoAx11 => (simp only [List.getElem?_toArray, List.getElem?_cons_zero, List.getElem?_cons_succ]; rfl)
        case h1Ax11 => kernel_rfl
        case h2Ax11 => kernel_rfl
        case h3Ax11 => kernel_rfl
        case h4Ax11 => rfl
        case hqAx11 => exact fun _ _ _ h => h
        case hyAx11 => (intro w hSw; (try dsimp only at hSw); go_simp <;> with_reducible rfl)
        (try simp only [Act.put, List.setIfInBounds_toArray, List.set_cons_zero, List.set_cons_succ])
        refine wpAnyH_take (i := 12) (oi := ?oiAx12) (v := ?vAx12) ?hoAx12 ?h1Ax12 ?h2Ax12 ?h3Ax12 ?hqAx12 (Or.inl ⟨?h4Ax12, ?hyAx12⟩) (by assumption) ?restAx12
        case hoAx12 => (simp only [List.getElem?_toArray, List.getElem?_cons_zero, List.getElem?_cons_succ]; rfl)
        case h1Ax12 => kernel_rfl
        case h2Ax12 => kernel_rfl
        case h3Ax12 => kernel_rfl
        case h4Ax12 => rfl
        case hqAx12 => exact fun _ _ _ h => h
        case hyAx12 => (intro w hSw; (try dsimp only at hSw); go_simp <;> with_reducible rfl)
        (try simp only [Act.put, List.setIfInBounds_toArray, List.set_cons_zero, List.set_cons_succ])
        refine wpAnyH_take (i := 13) (oi := ?oiAk13) (v := undef) ?hoAk13 ?h1Ak13 ?h2Ak13 ?h3Ak13 ?hqAk13 (Or.inr ⟨?h4Ak13, rfl⟩) (by assumption) ?restAk13
        case hoAk13 => (simp only [List.getElem?_toArray, List.getElem?_cons_zero, List.getElem?_cons_succ]; rfl)
        case h1Ak13 => kernel_rfl
        case h2Ak13 => kernel_rfl
        case h3Ak13 => kernel_rfl
        case h4Ak13 => rfl
        case hqAk13 => exact fun _ _ _ h => h
        (try simp only [Act.put, List.setIfInBounds_toArray, List.set_cons_zero, List.set_cons_succ])
        refine wpAnyH_take (i := 14) (oi := ?oiAk14) (v := undef) ?hoAk14 ?h1Ak14 ?h2Ak14 ?h3Ak14 ?hqAk14 (Or.inr ⟨?h4Ak14, rfl⟩) (by assumption) ?restAk14
        case hoAk14 => (simp only [List.getElem?_toArray, List.getElem?_cons_zero, List.getElem?_cons_succ]; rfl)
        case h1Ak14 => kernel_rfl
        case h2Ak14 => kernel_rfl
        case h3Ak14 => kernel_rfl
        case h4Ak14 => rfl
        case hqAk14 => exact fun _ _ _ h => h
        (try simp only [Act.put, List.setIfInBounds_toArray, List.set_cons_zero, List.set_cons_succ])
        refine wpAnyH_take (i := 15) (oi := ?oiAx15) (v := ?vAx15) ?hoAx15 ?h1Ax15 ?h2Ax15 ?h3Ax15 ?hqAx15 (Or.inl ⟨?h4Ax15, ?hyAx15⟩) (by assumption) ?restAx15
        case hoAx15 => (simp only [List.getElem?_toArray, List.getElem?_cons_zero, List.getElem?_cons_succ]; rfl)
        case h1Ax15 => kernel_rfl
        case h2Ax15 => kernel_rfl
        case h3Ax15 => kernel_rfl
        case h4Ax15 => rfl
        case hqAx15 => exact fun _ _ _ h => h
        case hyAx15 => (intro w hSw; (try dsimp only at hSw); go_simp <;> with_reducible rfl)
        (try simp only [Act.put, List.setIfInBounds_toArray, List.set_cons_zero, List.set_cons_succ])
        refine wpAnyH_take (i := 16) (oi := ?oiAx16) (v := ?vAx16) ?hoAx16 ?h1Ax16 ?h2Ax16 ?h3Ax16 ?hqAx16 (Or.inl ⟨?h4Ax16, ?hyAx16⟩) (by assumption) ?restAx16
        case hoAx16 => (simp only [List.getElem?_toArray, List.getElem?_cons_zero, List.getElem?_cons_succ]; rfl)
        case h1Ax16 => kernel_rfl
        case h2Ax16 => kernel_rfl
        case h3Ax16 => kernel_rfl
        case h4Ax16 => rfl
        case hqAx16 => exact fun _ _ _ h => h
        case hyAx16 => (intro w hSw; (try dsimp only at hSw); go_simp <;> with_reducible rfl)
        (try simp only [Act.put, List.setIfInBounds_toArray, List.set_cons_zero, List.set_cons_succ])
        refine wpAnyH_take (i := 17) (oi := ?oiAx17) (v := ?vAx17) ?hoAx17 ?h1Ax17 ?h2Ax17 ?h3Ax17 ?hqAx17 (Or.inl ⟨?h4Ax17, ?hyAx17⟩) (by assumption) ?restAx17
        case hoAx17 => (simp only [List.getElem?_toArray, List.getElem?_cons_zero, List.getElem?_cons_succ]; rfl)
        case h1Ax17 => kernel_rfl
        case h2Ax17 => kernel_rfl
        case h3Ax17 => kernel_rfl
        case h4Ax17 => rfl
        case hqAx17 => exact fun _ _ _ h => h
        case hyAx17 => (intro w hSw; (try dsimp only at hSw); go_simp <;> with_reducible rfl)
        (try simp only [Act.put, List.setIfInBounds_toArray, List.set_cons_zero, List.set_cons_succ])
        refine wpAnyH_done (by kernel_rfl) ?_ _
        go_wp2
        go_ret
        exact ⟨rfl, HB.out.trans (hB11.mono HB.out.size)⟩
      · refine wp_region_held_drew (S := (fun w' => (w'.cell? ⟨gx, 0, none⟩ = some (.int .u8 K1) ∧ w'.cell? ⟨gx, 1, none⟩ = some (.int .u64 E1) ∧ w'.cell? ⟨gx, 2, none⟩ = some (.int .u64 S1) ∧ w'.cell? ⟨gx, 3, none⟩ = some (.int .i64 a1) ∧ w'.cell? ⟨gx, 4, none⟩ = some (.int .i64 F1) ∧ w'.cell? ⟨gx, 5, none⟩ = some (.slice A1 n1 c1)) ∧ (w'.cell? ⟨gy, 0, none⟩ = some (.int .u8 K1) ∧ w'.cell? ⟨gy, 1, none⟩ = some (.int .u64 E1) ∧ w'.cell? ⟨gy, 2, none⟩ = some (.int .u64 S1) ∧ w'.cell? ⟨gy, 3, none⟩ = some (.int .i64 a1) ∧ w'.cell? ⟨gy, 4, none⟩ = some (.int .i64 F1) ∧ w'.cell? ⟨gy, 5, none⟩ = some (.slice A2 n2 c2)))) (by kernel_rfl) ?hSnewBz (fun hHeld => ?restBz)
        case hSnewBz => ((try dsimp only); exact HS.out _ hBd)
        refine wpAnyH_take (i := 0) (oi := ?oiBx0) (v := ?vBx0) ?hoBx0 ?h1Bx0 ?h2Bx0 ?h3Bx0 ?hqBx0 (Or.inl ⟨?h4Bx0, ?hyBx0⟩) (by assumption) ?restBx0
        case hoBx0 => (simp only [List.getElem?_toArray, List.getElem?_cons_zero, List.getElem?_cons_succ]; rfl)
        case h1Bx0 => kernel_rfl
        case h2Bx0 => kernel_rfl
        case h3Bx0 => kernel_rfl
        case h4Bx0 => rfl
        case hqBx0 => exact fun _ _ _ h => h
        case hyBx0 => (intro w hSw; (try dsimp only at hSw); go_simp <;> with_reducible rfl)
        (try simp only [Act.put, List.setIfInBounds_toArray, List.set_cons_zero, List.set_cons_succ])
        refine wpAnyH_take (i := 1) (oi := ?oiBx1) (v := ?vBx1) ?hoBx1 ?h1Bx1 ?h2Bx1 ?h3Bx1 ?hqBx1 (Or.inl ⟨?h4Bx1, ?hyBx1⟩) (by assumption) ?restBx1
        case hoBx1 => (simp only [List.getElem?_toArray, List.getElem?_cons_zero, List.getElem?_cons_succ]; rfl)
        case h1Bx1 => kernel_rfl
        case h2Bx1 => kernel_rfl
        case h3Bx1 => kernel_rfl
        case h4Bx1 => rfl
        case hqBx1 => exact fun _ _ _ h => h
        case hyBx1 => (intro w hSw; (try dsimp only at hSw); go_simp <;> with_reducible rfl)
        (try simp only [Act.put, List.setIfInBounds_toArray, List.set_cons_zero, List.set_cons_succ])
        refine wpAnyH_take (i := 2) (oi := ?oiBx2) (v := ?vBx2) ?hoBx2 ?h1Bx2 ?h2Bx2 ?h3Bx2 ?hqBx2 (Or.inl ⟨?h4Bx2, ?hyBx2⟩) (by assumption) ?restBx2
        case hoBx2 => (simp only [List.getElem?_toArray, List.getElem?_cons_zero, List.getElem?_cons_succ]; rfl)
        case h1Bx2 => kernel_rfl
        case h2Bx2 => kernel_rfl
        case h3Bx2 => kernel_rfl
        case h4Bx2 => rfl
        case hqBx2 => exact fun _ _ _ h => h
        case hyBx2 => (intro w hSw; (try dsimp only at hSw); go_simp <;> with_reducible rfl)
        (try simp only [Act.put, List.setIfInBounds_toArray, List.set_cons_zero, List.set_cons_succ])
        refine wpAnyH_take (i := 3) (oi := ?oiBx3) (v := ?vBx3) ?hoBx3 ?h1Bx3 ?h2Bx3 ?h3Bx3 ?hqBx3 (Or.inl ⟨?h4Bx3, ?hyBx3⟩) (by assumption) ?restBx3
        case hoBx3 => (simp only [List.getElem?_toArray, List.getElem?_cons_zero, List.getElem?_cons_succ]; rfl)
        case h1Bx3 => kernel_rfl
        case h2Bx3 => kernel_rfl
        case h3Bx3 => kernel_rfl
        case h4Bx3 => rfl
        case hqBx3 => exact fun _ _ _ h => h
        case hyBx3 => (intro w hSw; (try dsimp only at hSw); go_simp <;> with_reducible rfl)
        (try simp only [Act.put, List.setIfInBounds_toArray, List.set_cons_zero, List.set_cons_succ])
        refine wpAnyH_take (i := 4) (oi := ?oiBx4) (v := ?vBx4) ?hoBx4 ?h1Bx4 ?h2Bx4 ?h3Bx4 ?hqBx4 (Or.inl ⟨?h4Bx4, ?hyBx4⟩) (by assumption) ?restBx4
        case hoBx4 => (simp only [List.getElem?_toArray, List.getElem?_cons_zero, List.getElem?_cons_succ]; rfl)
        case h1Bx4 => kernel_rfl
        case h2Bx4 => kernel_rfl
        case h3Bx4 => kernel_rfl
        case h4Bx4 => rfl
        case hqBx4 => exact fun _ _ _ h => h
        case hyBx4 => (intro w hSw; (try dsimp only at hSw); go_simp <;> with_reducible rfl)
        (try simp only [Act.put, List.setIfInBounds_toArray, List.set_cons_zero, List.set_cons_succ])
        refine wpAnyH_take (i := 6) (oi := ?oiBx6) (v := ?vBx6) ?hoBx6 ?h1Bx6 ?h2Bx6 ?h3Bx6 ?hqBx6 (Or.inl ⟨?h4Bx6, ?hyBx6⟩) (by assumption) ?restBx6
        case hoBx6 => (simp only [List.getElem?_toArray, List.getElem?_cons_zero, List.getElem?_cons_succ]; rfl)
        case h1Bx6 => kernel_rfl
        case h2Bx6 => kernel_rfl
        case h3Bx6 => kernel_rfl
        case h4Bx6 => rfl
        case hqBx6 => exact fun _ _ _ h => h
        case hyBx6 => (intro w hSw; (try dsimp only at hSw); go_simp <;> with_reducible rfl)
        (try simp only [Act.put, List.setIfInBounds_toArray, List.set_cons_zero, List.set_cons_succ])
        refine wpAnyH_ready (rs := [5]) (by kernel_rfl) (by simp) ?_
        refine AllReadyH.cons (o := ?oiBx5) ?hoBx5 (fun K hK => ?restBx5) ?moreBx5
        case moreBx5 => exact AllReadyH.nil
        case hoBx5 => (simp only [List.getElem?_toArray, List.getElem?_cons_zero, List.getElem?_cons_succ]; rfl)
        go_simp
        refine (O1 _).mono ?_
        rintro e w10 ⟨rfl, hB10'⟩
        have hB10 := hBd.trans hB10'
        try go_wp2_with fail
        refine hK.out _ _ ?hSnewBy5 (fun hHeld => ?restBy5)
        case hSnewBy5 => ((try dsimp only); exact HS.out _ hB10)
        clear hK K
        (try simp only [Act.put, List.setIfInBounds_toArray, List.set_cons_zero, List.set_cons_succ])
        refine wpAnyH_ready (rs := [7]) (by kernel_rfl) (by simp) ?_
        refine AllReadyH.cons (o := ?oiBx7) ?hoBx7 (fun K hK => ?restBx7) ?moreBx7
        case moreBx7 => exact AllReadyH.nil
        case hoBx7 => (simp only [List.getElem?_toArray, List.getElem?_cons_zero, List.getElem?_cons_succ]; rfl)
        go_simp
        refine (SM _ (Hz1.out.below hB10) (Hz2.out.below hB10)).mono ?_
        rintro e w11 ⟨rfl, hB11'⟩
        have hB11 := hB10.trans (hB11'.mono hB10.size)
        try go_wp2_with fail
        refine hK.out _ _ ?hSnewBy7 (fun hHeld => ?restBy7)
        case hSnewBy7 => ((try dsimp only); exact HS.out _ hB11)
        clear hK K
        (try simp only [Act.put, List.setIfInBounds_toArray, List.set_cons_zero, List.set_cons_succ])
        refine wpAnyH_take (i := 8) (oi := ?oiBx8) (v := ?vBx8) ?hoBx8 ?h1Bx8 ?h2Bx8 ?h3Bx8 ?hqBx8 (Or.inl ⟨?h4Bx8, ?hyBx8⟩) (by assumption) ?restBx8
        case hoBx8 => (simp only [List.getElem?_toArray, List.getElem?_cons_zero, List.getElem?_cons_succ]; rfl)
        case h1Bx8 => kernel_rfl
        case h2Bx8 => kernel_rfl
        case h3Bx8 => kernel_rfl
        case h4Bx8 => rfl
        case hqBx8 => exact fun _ _ _ h => h
        case hyBx8 => (intro w hSw; (try dsimp only at hSw); go_simp <;> with_reducible rfl)
        (try simp only [Act.put, List.setIfInBounds_toArray, List.set_cons_zero, List.set_cons_succ])
        refine wpAnyH_take (i := 9) (oi := ?oiBx9) (v := ?vBx9) ?hoBx9 ?h1Bx9 ?h2Bx9 ?h3Bx9 ?hqBx9 (Or.inl ⟨?h4Bx9, ?hyBx9⟩) (by assumption) ?restBx9
        case hoBx9 => (simp only [List.getElem?_toArray, List.getElem?_cons_zero, List.getElem?_cons_succ]; rfl)
        case h1Bx9 => kernel_rfl
        case h2Bx9 => kernel_rfl
        case h3Bx9 => kernel_rfl
        case h4Bx9 => rfl
        case hqBx9 => exact fun _ _ _ h => h
        case hyBx9 => (intro w hSw; (try dsimp only at hSw); go_simp <;> with_reducible rfl)
        (try simp only [Act.put, List.setIfInBounds_toArray, List.set_cons_zero, List.set_cons_succ])
        refine wpAnyH_take (i := 10) (oi := ?oiBx10) (v := ?vBx10) ?hoBx10 ?h1Bx10 ?h2Bx10 ?h3Bx10 ?hqBx10 (Or.inl ⟨?h4Bx10, ?hyBx10⟩) (by assumption) ?restBx10
        case hoBx10 => (simp only [List.getElem?_toArray, List.getElem?_cons_zero, List.getElem?_cons_succ]; rfl)
        case h1Bx10 => kernel_rfl
        case h2Bx10 => kernel_rfl
        case h3Bx10 => kernel_rfl
        case h4Bx10 => rfl
        case hqBx10 => exact fun _ _ _ h => h
        case hyBx10 => (intro w hSw; (try dsimp only at hSw); go_simp <;> with_reducible rfl)
        (try simp only [Act.put, List.setIfInBounds_toArray, List.set_cons_zero, List.set_cons_succ])
        refine wpAnyH_take (i := 11) (oi := ?oiBx11) (v := ?vBx11) ?hoBx11 ?h1Bx11 ?h2Bx11 ?h3Bx11 ?hqBx11 (Or.inl ⟨?h4Bx11, ?hyBx11⟩) (by assumption) ?restBx11
        case hoBx11 => (simp only [List.getElem?_toArray, List.getElem?_cons_zero, List.getElem?_cons_succ]; rfl)
        case h1Bx11 => kernel_rfl
        case h2Bx11 => kernel_rfl
        case h3Bx11 => kernel_rfl
        case h4Bx11 => rfl
        case hqBx11 => exact fun _ _ _ h => h
        case hyBx11 => (intro w hSw; (try dsimp only at hSw); go_simp <;> with_reducible rfl)
        (try simp only [Act.put, List.setIfInBounds_toArray, List.set_cons_zero, List.set_cons_succ])
        refine wpAnyH_take (i := 12) (oi := ?oiBx12) (v := ?vBx12) ?hoBx12 ?h1Bx12 ?h2Bx12 ?h3Bx12 ?hqBx12 (Or.inl ⟨?h4Bx12, ?hyBx12⟩) (by assumption) ?restBx12
        case hoBx12 => (simp only [List.getElem?_toArray, List.getElem?_cons_zero, List.getElem?_cons_succ]; rfl)
        case h1Bx12 => kernel_rfl
        case h2Bx12 => kernel_rfl
        case h3Bx12 => kernel_rfl
        case h4Bx12 => rfl
        case hqBx12 => exact fun _ _ _ h => h
        case hyBx12 => (intro w hSw; (try dsimp only at hSw); go_simp <;> with_reducible rfl)
        (try simp only [Act.put, List.setIfInBounds_toArray, List.set_cons_zero, List.set_cons_succ])
        refine wpAnyH_take (i := 13) (oi := ?oiBx13) (v := ?vBx13) ?hoBx13 ?h1Bx13 ?h2Bx13 ?h3Bx13 ?hqBx13 (Or.inl ⟨?h4Bx13, ?hyBx13⟩) (by assumption) ?restBx13
        case hoBx13 => (simp only [List.getElem?_toArray, List.getElem?_cons_zero, List.getElem?_cons_succ]; rfl)
        case h1Bx13 => kernel_rfl
        case h2Bx13 => kernel_rfl
        case h3Bx13 => kernel_rfl
        case h4Bx13 => rfl
        case hqBx13 => exact fun _ _ _ h => h
        case hyBx13 => (intro w hSw; (try dsimp only at hSw); go_simp <;> with_reducible rfl)
        (try simp only [Act.put, List.setIfInBounds_toArray, List.set_cons_zero, List.set_cons_succ])
        refine wpAnyH_take (i := 14) (oi := ?oiBx14) (v := ?vBx14) ?hoBx14 ?h1Bx14 ?h2Bx14 ?h3Bx14 ?hqBx14 (Or.inl ⟨?h4Bx14, ?hyBx14⟩) (by assumption) ?restBx14
        case hoBx14 => (simp only [List.getElem?_toArray, List.getElem?_cons_zero, List.getElem?_cons_succ]; rfl)
        case h1Bx14 => kernel_rfl
        case h2Bx14 => kernel_rfl
        case h3Bx14 => kernel_rfl
        case h4Bx14 => rfl
        case hqBx14 => exact fun _ _ _ h => h
        case hyBx14 => (intro w hSw; (try dsimp only at hSw); go_simp <;> with_reducible rfl)
        (try simp only [Act.put, List.setIfInBounds_toArray, List.set_cons_zero, List.set_cons_succ])
        refine wpAnyH_take (i := 15) (oi := ?oiBx15) (v := ?vBx15) ?hoBx15 ?h1Bx15 ?h2Bx15 ?h3Bx15 ?hqBx15 (Or.inl ⟨?h4Bx15, ?hyBx15⟩) (by assumption) ?restBx15
        case hoBx15 => (simp only [List.getElem?_toArray, List.getElem?_cons_zero, List.getElem?_cons_succ]; rfl)
        case h1Bx15 => kernel_rfl
        case h2Bx15 => kernel_rfl
        case h3Bx15 => kernel_rfl
        case h4Bx15 => rfl
        case hqBx15 => exact fun _ _ _ h => h
        case hyBx15 => (intro w hSw; (try dsimp only at hSw); go_simp <;> with_reducible rfl)
        (try simp only [Act.put, List.setIfInBounds_toArray, List.set_cons_zero, List.set_cons_succ])
        refine wpAnyH_take (i := 16) (oi := ?oiBx16) (v := ?vBx16) ?hoBx16 ?h1Bx16 ?h2Bx16 ?h3Bx16 ?hqBx16 (Or.inl ⟨?h4Bx16, ?hyBx16⟩) (by assumption) ?restBx16
        case hoBx16 => (simp only [List.getElem?_toArray, List.getElem?_cons_zero, List.getElem?_cons_succ]; rfl)
        case h1Bx16 => kernel_rfl
        case h2Bx16 => kernel_rfl
        case h3Bx16 => kernel_rfl
        case h4Bx16 => rfl
        case hqBx16 => exact fun _ _ _ h => h
        case hyBx16 => (intro w hSw; (try dsimp only at hSw); go_simp <;> with_reducible rfl)
        (try simp only [Act.put, List.setIfInBounds_toArray, List.set_cons_zero, List.set_cons_succ])
        refine wpAnyH_take (i := 17) (oi := ?oiBx17) (v := ?vBx17) ?hoBx17 ?h1Bx17 ?h2Bx17 ?h3Bx17 ?hqBx17 (Or.inl ⟨?h4Bx17, ?hyBx17⟩) (by assumption) ?restBx17
        case hoBx17 => (simp only [List.getElem?_toArray, List.getElem?_cons_zero, List.getElem?_cons_succ]; rfl)
        case h1Bx17 => kernel_rfl
        case h2Bx17 => kernel_rfl
        case h3Bx17 => kernel_rfl
        case h4Bx17 => rfl
        case hqBx17 => exact fun _ _ _ h => h
        case hyBx17 => (intro w hSw; (try dsimp only at hSw); go_simp <;> with_reducible rfl)
        (try simp only [Act.put, List.setIfInBounds_toArray, List.set_cons_zero, List.set_cons_succ])
        refine wpAnyH_done (by kernel_rfl) ?_ _
        go_wp2
        go_ret
        exact ⟨rfl, HB.out.trans (hB11.mono HB.out.size)⟩
end Go.Proofs.Ytpncgfdnilmhhaa.Sheet
