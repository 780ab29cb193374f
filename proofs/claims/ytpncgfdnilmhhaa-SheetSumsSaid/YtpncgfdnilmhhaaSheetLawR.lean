import Derived.Test.YtpncgfdnilmhhaaSheetNear
import Derived.Test.YtpncgfdnilmhhaaSheetAwake
import Derived.Test.YtpncgfdnilmhhaaSheetSame
import Derived.Test.YtpncgfdnilmhhaaSheetRead
import Derived.Test.YtpncgfdnilmhhaaSheetRefRd
import Derived.BigRegion
set_option linter.unusedVariables false
set_option linter.unusedSimpArgs false
namespace Go.Proofs.Ytpncgfdnilmhhaa.Sheet
open Go.RowKit Go.Proofs.Ytpncgfdnilmhhaa.Kit Go.Proofs.Ytpncgfdnilmhhaa.Oct

/-- What reading told, by its parts. -/
def Core (xs : List Int) (K E S a F : Int) (zs : List Int) (k : Int) : Prop :=
  (∃ K0 E0 S0 a0 f0 : Nat, K = (K0 : Int) ∧ E = (E0 : Int) ∧ S = (S0 : Int) ∧ a = (a0 : Int) ∧ F = (f0 : Int) - 1 ∧ k = 0 ∧ formN K0 E0 S0 a0 f0 zs ∧ xs = page K0 E0 S0 a0 f0 zs) ∨
  (¬ IsPage xs ∧ k = code xs ∧ K = 0 ∧ E = 0 ∧ S = 0 ∧ a = 0 ∧ F = 0 ∧ zs = [])
theorem told_core {W : World} {xs : List Int} {v : Value} {k : Int} (h : Told W xs v k) : ∃ (K E S a F : Int) (A : Option Addr) (n c : Nat) (zs : List Int), v = .agg #[.int .u8 K, .int .u64 E, .int .u64 S, .int .i64 a, .int .i64 F, .slice A n c] ∧ Nums W .u8 A n zs ∧ Core xs K E S a F zs k := by
  rcases h with ⟨K, E, S, a, f, A, n, c, ys, rfl, rfl, hf, hz, he⟩ | ⟨h1, h2, rfl⟩
  · exact ⟨_, _, _, _, _, _, _, _, ys, rfl, hz, .inl ⟨K, E, S, a, f, rfl, rfl, rfl, rfl, rfl, rfl, hf, he⟩⟩
  · exact ⟨_, _, _, _, _, _, _, _, [], rfl, Nums.none _ _ _, .inr ⟨h1, h2, rfl, rfl, rfl, rfl, rfl, rfl⟩⟩
theorem core_inj {xs : List Int} {K E S a F k K' E' S' a' F' k' : Int} {zs zs' : List Int} (h : Core xs K E S a F zs k) (h' : Core xs K' E' S' a' F' zs' k') : K = K' ∧ E = E' ∧ S = S' ∧ a = a' ∧ F = F' ∧ zs = zs' ∧ k = k' := by
  rcases h with ⟨K0, E0, S0, a0, f0, rfl, rfl, rfl, rfl, rfl, rfl, hf, he⟩ | ⟨h1, rfl, rfl, rfl, rfl, rfl, rfl, rfl⟩
  · rcases h' with ⟨K1, E1, S1, a1, f1, rfl, rfl, rfl, rfl, rfl, rfl, hf', he'⟩ | ⟨h1, _⟩
    · obtain ⟨rfl, rfl, rfl, rfl, rfl, rfl⟩ := page_inj hf hf' (he.symm.trans he')
      exact ⟨rfl, rfl, rfl, rfl, rfl, rfl, rfl⟩
    · exact absurd ⟨K0, E0, S0, a0, f0, zs, hf, he⟩ h1
  · rcases h' with ⟨K1, E1, S1, a1, f1, rfl, rfl, rfl, rfl, rfl, rfl, hf', he'⟩ | ⟨h2, rfl, rfl, rfl, rfl, rfl, rfl, rfl⟩
    · exact absurd ⟨K1, E1, S1, a1, f1, zs', hf', he'⟩ h1
    · exact ⟨rfl, rfl, rfl, rfl, rfl, rfl, rfl⟩

set_option maxRecDepth 100000 in
set_option maxHeartbeats 4000000 in
theorem law_reads (A : Option Addr) (n c : Nat) (xs : List Int) (fill : Bool) (w : World) (hz : Nums w .u8 A n xs) :
    Calls Try.prog 6 #[.slice A n c, .bool fill] w fun e w' => e = .returned (.bool true) ∧ Below w.heap.size w w' := by
  have hlen := hz.len
  have hn := hz.most
  have hxB := isB_of hz
  go_enter Try.func6, Try.ntmps6
  go_wp2_with fail
  refine (awake_any w).mono ?_
  rintro e w1 ⟨rfl, hB1⟩
  by_cases h300 : 300 < n
  · go_wp2_with fail
    refine (awake_any w1).mono ?_
    rintro e w2 ⟨rfl, hB2⟩
    go_wp2
    go_ret
    exact ⟨rfl, hB1.trans (hB2.mono hB1.size)⟩
  · have hz1 := hz.below hB1
    have hs1 := hB1.size
    have Hlen := hid hlen
    clear hz hlen
    go_upto_region 5 with (at_builtin; refine append_nums w.heap.size rfl _ _ 23 5 .u8 1 rfl Try.underlying23 info5 _ 0 [] A n c xs (by rfl) (by rfl) (World.ownsRow_nil _ _ _ _) hz1 hs1 (by omega) (by omega) ?_; intro v2 w2 hown2 hgr2 hat2)
    have ho2 : OwnB w2 w.heap.size v2 xs := by
      unfold OwnB
      rw [Hlen.out]
      rw [List.nil_append, Nat.zero_add] at hown2
      exact hown2
    have hB2 : Below w.heap.size w w2 := hB1.grown hgr2 hs1 (by intro k hk; simp [Value.ownBlock] at hk)
    clear hown2 hgr2 hat2 hz1 hs1 hB1
    go_loopw [5] (fun p w' => ∃ (ys : List Int), ys.length ≤ 300 ∧ IsB ys ∧ (∃ A5 c5, p = .slice A5 ys.length c5) ∧ OwnB w' w.heap.size p ys ∧ Below w.heap.size w w') (fun p _ => 96 - lenV p)
    case atStart =>
      obtain ⟨A5, c5, e5, -, -⟩ := ho2.reads hxB
      exact ⟨xs, by have := Hlen.out; omega, hxB, ⟨A5, c5, e5⟩, ho2, hB2⟩
    case round =>
      obtain ⟨ys, hyl, hyB, ⟨A5, c5, rfl⟩, hw, hB5⟩ := hrel
      cases fill
      · obtain ⟨A6, c6, e6, hcq, hp6⟩ := hw.reads hyB
        injection e6 with e6 _ e7
        subst e6 e7
        clear hw
        have hnq := Nums.len hp6
        go_wp2_with fail
        refine (sread_any A5 ys.length c5 ys _ hp6 hcq).mono ?_
        rintro e w6 ⟨v6, k6, rfl, ht6, hB6⟩
        obtain ⟨K1, E1, S1, a1, F1, A1, n1, c1, zs1, rfl, hz6, hc6⟩ := told_core ht6
        clear ht6
        go_upto_region 8 with (fail)
        obtain ⟨gx, hgx⟩ : ∃ g, w6.heap.size = g := ⟨_, rfl⟩
        rw [hgx]
        obtain ⟨w7, hw⟩ : ∃ W, W = w6.alloc (.cells #[.int .u8 K1, .int .u64 E1, .int .u64 S1, .int .i64 a1, .int .i64 F1, .slice A1 n1 c1] 25) := ⟨_, rfl⟩
        have hgxb : Blk w7 gx #[.int .u8 K1, .int .u64 E1, .int .u64 S1, .int .i64 a1, .int .i64 F1, .slice A1 n1 c1] 25 := by rw [hw, ← hgx]; exact Blk.new _ _ _
        have hA7 : Below w6.heap.size w6 w7 := by rw [hw]; exact (Below.refl _ _).alloc (Nat.le_refl _) _
        rw [← hw]
        clear hw hgx
        have hp7 := Nums.below hp6 (hB6.trans (hA7.mono hB6.size))
        have hB7 := Below.trans hB5 ((hB6.trans (hA7.mono hB6.size)).mono (Below.size hB5))
        have hz7 := hz6.below hA7
        clear hB6 hA7 hz6
        go_wp2_with fail
        refine (rsread_any A5 ys.length c5 ys w7 hp7 hcq).mono ?_
        rintro e w8 ⟨v8, k8, rfl, ht8, hB8⟩
        obtain ⟨K2, E2, S2, a2, F2, A2, n2, c2, zs2, rfl, hz8, hc8⟩ := told_core ht8
        clear ht8
        obtain ⟨rfl, rfl, rfl, rfl, rfl, rfl, rfl⟩ := core_inj hc6 hc8
        clear hc8
        go_upto_region 9 with (fail)
        obtain ⟨gy, hgy⟩ : ∃ g, w8.heap.size = g := ⟨_, rfl⟩
        rw [hgy]
        obtain ⟨w9, hw⟩ : ∃ W, W = w8.alloc (.cells #[.int .u8 K1, .int .u64 E1, .int .u64 S1, .int .i64 a1, .int .i64 F1, .slice A2 n2 c2] 30) := ⟨_, rfl⟩
        have hgyb : Blk w9 gy #[.int .u8 K1, .int .u64 E1, .int .u64 S1, .int .i64 a1, .int .i64 F1, .slice A2 n2 c2] 30 := by rw [hw, ← hgy]; exact Blk.new _ _ _
        have hA9 : Below w8.heap.size w8 w9 := by rw [hw]; exact (Below.refl _ _).alloc (Nat.le_refl _) _
        rw [← hw]
        clear hw hgy
        have hB79 := hB8.trans (hA9.mono hB8.size)
        have hx9 := hgxb.later hB79
        have Hz1 := hid (hz7.below hB79)
        have Hz2 := hid (hz8.below hA9)
        have HB := hid (hB7.trans (hB79.mono hB7.size))
        have HS := hid (fun W (h : Below w9.heap.size w9 W) => (⟨(hx9.later h).six.1, (hgyb.later h).six.1⟩ : _ ∧ _))
        have hBd : Below w9.heap.size w9 (w9.drewN 1) := below_drewN (Below.refl _ _) 1
        clear hp7 hB7 hz7 hB8 hz8 hA9 hgxb hgyb hB79 hx9
        have O1 := fun W => of_any K1 E1 S1 a1 F1 A1 n1 c1 W
        have SM : ∀ W, Nums W .u8 A1 n1 zs1 → Nums W .u8 A2 n2 zs1 → Calls Try.prog 13 #[.agg #[.int .u8 K1, .int .u64 E1, .int .u64 S1, .int .i64 a1, .int .i64 F1, .slice A1 n1 c1], .agg #[.int .u8 K1, .int .u64 E1, .int .u64 S1, .int .i64 a1, .int .i64 F1, .slice A2 n2 c2]] W fun e w' => e = .returned (.bool true) ∧ Below W.heap.size W w' := fun W h1 h2 => by
          have := same_any K1 E1 S1 a1 F1 A1 n1 c1 zs1 K1 E1 S1 a1 F1 A2 n2 c2 zs1 W h1 h2
          rw [decide_eq_true ⟨rfl, rfl, rfl, rfl, rfl, rfl⟩] at this
          exact this
        refine wp_region_held_drew (S := (fun w' => (w'.cell? ⟨gx, 0, none⟩ = some (.int .u8 K1) ∧ w'.cell? ⟨gx, 1, none⟩ = some (.int .u64 E1) ∧ w'.cell? ⟨gx, 2, none⟩ = some (.int .u64 S1) ∧ w'.cell? ⟨gx, 3, none⟩ = some (.int .i64 a1) ∧ w'.cell? ⟨gx, 4, none⟩ = some (.int .i64 F1) ∧ w'.cell? ⟨gx, 5, none⟩ = some (.slice A1 n1 c1)) ∧ (w'.cell? ⟨gy, 0, none⟩ = some (.int .u8 K1) ∧ w'.cell? ⟨gy, 1, none⟩ = some (.int .u64 E1) ∧ w'.cell? ⟨gy, 2, none⟩ = some (.int .u64 S1) ∧ w'.cell? ⟨gy, 3, none⟩ = some (.int .i64 a1) ∧ w'.cell? ⟨gy, 4, none⟩ = some (.int .i64 F1) ∧ w'.cell? ⟨gy, 5, none⟩ = some (.slice A2 n2 c2)))) (by kernel_rfl) ?hSnewAz (fun hHeld => ?restAz)
        case hSnewAz => ((try dsimp only); exact HS.out _ hBd)
        refine wpAnyH_take (i := 0) (oi := ?oiAx0) (v := ?vAx0) ?hoAx0 ?h1Ax0 ?h2Ax0 ?h3Ax0 ?hqAx0 (Or.inl ⟨?h4Ax0, ?hyAx0⟩) (by assumption) ?restAx0
        case hoAx0 => (simp only [List.getElem?_toArray, List.getElem?_cons_zero, List.getElem?_cons_succ]; rfl)
        case h1Ax0 => kernel_rfl
        case h2Ax0 => kernel_rfl
        case h3Ax0 => kernel_rfl
        case h4Ax0 => rfl
        case hqAx0 => exact fun _ _ _ h => h
        case hyAx0 => (intro w hSw; (try dsimp only at hSw); go_simp <;> with_reducible rfl)
        (try simp only [Act.put, List.setIfInBounds_toArray, List.set_cons_zero, List.set_cons_succ])
        refine wpAnyH_take (i := 1) (oi := ?oiAx1) (v := ?vAx1) ?hoAx1 ?h1Ax1 ?h2Ax1 ?h3Ax1 ?hqAx1 (Or.inl ⟨?h4Ax1, ?hyAx1⟩) (by assumption) ?restAx1
        case hoAx1 => (simp only [List.getElem?_toArray, List.getElem?_cons_zero, List.getElem?_cons_succ]; rfl)
        case h1Ax1 => kernel_rfl
        case h2Ax1 => kernel_rfl
        case h3Ax1 => kernel_rfl
        case h4Ax1 => rfl
        case hqAx1 => exact fun _ _ _ h => h
        case hyAx1 => (intro w hSw; (try dsimp only at hSw); go_simp <;> with_reducible rfl)
        (try simp only [Act.put, List.setIfInBounds_toArray, List.set_cons_zero, List.set_cons_succ])
        refine wpAnyH_take (i := 2) (oi := ?oiAx2) (v := ?vAx2) ?hoAx2 ?h1Ax2 ?h2Ax2 ?h3Ax2 ?hqAx2 (Or.inl ⟨?h4Ax2, ?hyAx2⟩) (by assumption) ?restAx2
        case hoAx2 => (simp only [List.getElem?_toArray, List.getElem?_cons_zero, List.getElem?_cons_succ]; rfl)
        case h1Ax2 => kernel_rfl
        case h2Ax2 => kernel_rfl
        case h3Ax2 => kernel_rfl
        case h4Ax2 => rfl
        case hqAx2 => exact fun _ _ _ h => h
        case hyAx2 => (intro w hSw; (try dsimp only at hSw); go_simp <;> with_reducible rfl)
        (try simp only [Act.put, List.setIfInBounds_toArray, List.set_cons_zero, List.set_cons_succ])
        refine wpAnyH_take (i := 3) (oi := ?oiAx3) (v := ?vAx3) ?hoAx3 ?h1Ax3 ?h2Ax3 ?h3Ax3 ?hqAx3 (Or.inl ⟨?h4Ax3, ?hyAx3⟩) (by assumption) ?restAx3
        case hoAx3 => (simp only [List.getElem?_toArray, List.getElem?_cons_zero, List.getElem?_cons_succ]; rfl)
        case h1Ax3 => kernel_rfl
        case h2Ax3 => kernel_rfl
        case h3Ax3 => kernel_rfl
        case h4Ax3 => rfl
        case hqAx3 => exact fun _ _ _ h => h
        case hyAx3 => (intro w hSw; (try dsimp only at hSw); go_simp <;> with_reducible rfl)
        (try simp only [Act.put, List.setIfInBounds_toArray, List.set_cons_zero, List.set_cons_succ])
        refine wpAnyH_take (i := 4) (oi := ?oiAx4) (v := ?vAx4) ?hoAx4 ?h1Ax4 ?h2Ax4 ?h3Ax4 ?hqAx4 (Or.inl ⟨?h4Ax4, ?hyAx4⟩) (by assumption) ?restAx4
        case hoAx4 => (simp only [List.getElem?_toArray, List.getElem?_cons_zero, List.getElem?_cons_succ]; rfl)
        case h1Ax4 => kernel_rfl
        case h2Ax4 => kernel_rfl
        case h3Ax4 => kernel_rfl
        case h4Ax4 => rfl
        case hqAx4 => exact fun _ _ _ h => h
        case hyAx4 => (intro w hSw; (try dsimp only at hSw); go_simp <;> with_reducible rfl)
        (try simp only [Act.put, List.setIfInBounds_toArray, List.set_cons_zero, List.set_cons_succ])
        refine wpAnyH_take (i := 6) (oi := ?oiAx6) (v := ?vAx6) ?hoAx6 ?h1Ax6 ?h2Ax6 ?h3Ax6 ?hqAx6 (Or.inl ⟨?h4Ax6, ?hyAx6⟩) (by assumption) ?restAx6
        case hoAx6 => (simp only [List.getElem?_toArray, List.getElem?_cons_zero, List.getElem?_cons_succ]; rfl)
        case h1Ax6 => kernel_rfl
        case h2Ax6 => kernel_rfl
        case h3Ax6 => kernel_rfl
        case h4Ax6 => rfl
        case hqAx6 => exact fun _ _ _ h => h
        case hyAx6 => (intro w hSw; (try dsimp only at hSw); go_simp <;> with_reducible rfl)
        (try simp only [Act.put, List.setIfInBounds_toArray, List.set_cons_zero, List.set_cons_succ])
        refine wpAnyH_ready (rs := [5]) (by kernel_rfl) (by simp) ?_
        refine AllReadyH.cons (o := ?oiAx5) ?hoAx5 (fun K hK => ?restAx5) ?moreAx5
        case moreAx5 => exact AllReadyH.nil
        case hoAx5 => (simp only [List.getElem?_toArray, List.getElem?_cons_zero, List.getElem?_cons_succ]; rfl)
        go_simp
        refine (O1 _).mono ?_
        rintro e w10 ⟨rfl, hB10'⟩
        have hB10 := hBd.trans hB10'
        try go_wp2_with fail
        refine hK.out _ _ ?hSnewAy5 (fun hHeld => ?restAy5)
        case hSnewAy5 => ((try dsimp only); exact HS.out _ hB10)
        clear hK K
        (try simp only [Act.put, List.setIfInBounds_toArray, List.set_cons_zero, List.set_cons_succ])
        refine wpAnyH_ready (rs := [7]) (by kernel_rfl) (by simp) ?_
        refine AllReadyH.cons (o := ?oiAx7) ?hoAx7 (fun K hK => ?restAx7) ?moreAx7
        case moreAx7 => exact AllReadyH.nil
        case hoAx7 => (simp only [List.getElem?_toArray, List.getElem?_cons_zero, List.getElem?_cons_succ]; rfl)
        go_simp
        refine (SM _ (Hz1.out.below hB10) (Hz2.out.below hB10)).mono ?_
        rintro e w11 ⟨rfl, hB11'⟩
        have hB11 := hB10.trans (hB11'.mono hB10.size)
        try go_wp2_with fail
        refine hK.out _ _ ?hSnewAy7 (fun hHeld => ?restAy7)
        case hSnewAy7 => ((try dsimp only); exact HS.out _ hB11)
        clear hK K
        (try simp only [Act.put, List.setIfInBounds_toArray, List.set_cons_zero, List.set_cons_succ])
        refine wpAnyH_take (i := 8) (oi := ?oiAx8) (v := ?vAx8) ?hoAx8 ?h1Ax8 ?h2Ax8 ?h3Ax8 ?hqAx8 (Or.inl ⟨?h4Ax8, ?hyAx8⟩) (by assumption) ?restAx8
        case hoAx8 => (simp only [List.getElem?_toArray, List.getElem?_cons_zero, List.getElem?_cons_succ]; rfl)
        case h1Ax8 => kernel_rfl
        case h2Ax8 => kernel_rfl
        case h3Ax8 => kernel_rfl
        case h4Ax8 => rfl
        case hqAx8 => exact fun _ _ _ h => h
        case hyAx8 => (intro w hSw; (try dsimp only at hSw); go_simp <;> with_reducible rfl)
        (try simp only [Act.put, List.setIfInBounds_toArray, List.set_cons_zero, List.set_cons_succ])
        refine wpAnyH_take (i := 9) (oi := ?oiAx9) (v := ?vAx9) ?hoAx9 ?h1Ax9 ?h2Ax9 ?h3Ax9 ?hqAx9 (Or.inl ⟨?h4Ax9, ?hyAx9⟩) (by assumption) ?restAx9
        case hoAx9 => (simp only [List.getElem?_toArray, List.getElem?_cons_zero, List.getElem?_cons_succ]; rfl)
        case h1Ax9 => kernel_rfl
        case h2Ax9 => kernel_rfl
        case h3Ax9 => kernel_rfl
        case h4Ax9 => rfl
        case hqAx9 => exact fun _ _ _ h => h
        case hyAx9 => (intro w hSw; (try dsimp only at hSw); go_simp <;> with_reducible rfl)
        (try simp only [Act.put, List.setIfInBounds_toArray, List.set_cons_zero, List.set_cons_succ])
        refine wpAnyH_done (by kernel_rfl) ?_ _
        go_wp2
        go_ret
        exact ⟨rfl, HB.out.trans (hB11.mono HB.out.size)⟩
      · by_cases hlt : ys.length < 96
        · go_wp2_with (at_builtin; refine append_one w.heap.size rfl _ _ 23 5 (.int .u8 0) 1 rfl Try.underlying23 info5 rfl _ _ _ (.int .u8 90) (by rfl) (by rfl) rfl hw hB5.size (by omega) (by omega) ?_; intro v1 w6 hown6 hgr hat)
          have hw6 : OwnB w6 w.heap.size v1 (ys ++ [90]) := OwnB.snoc hown6
          have hB6 := hB5.grown hgr hB5.size (fun k hk => (hw.lt k hk).1)
          have hyB' : IsB (ys ++ [90]) := isB_append hyB (fun x hx => by simp at hx; omega)
          obtain ⟨A6, c6, e6, -, -⟩ := hw6.reads hyB'
          subst e6
          clear hown6 hgr hat hw hB5
          go_wp2
          go_roundw
          case rel => exact ⟨ys ++ [90], by rw [List.length_append]; simp; omega, hyB', ⟨_, _, rfl⟩, hw6, hB6⟩
          case measure => simp only [lenV, List.length_append, List.length_cons, List.length_nil]; omega
        · have hlt' : ¬ ((ys.length : Int) < 96) := by omega
          obtain ⟨A6, c6, e6, hcq, hp6⟩ := hw.reads hyB
          injection e6 with e6 _ e7
          subst e6 e7
          clear hw
          have hnq := Nums.len hp6
          go_wp2_with fail
          refine (sread_any A5 ys.length c5 ys _ hp6 hcq).mono ?_
          rintro e w6 ⟨v6, k6, rfl, ht6, hB6⟩
          obtain ⟨K1, E1, S1, a1, F1, A1, n1, c1, zs1, rfl, hz6, hc6⟩ := told_core ht6
          clear ht6
          go_upto_region 8 with (fail)
          obtain ⟨gx, hgx⟩ : ∃ g, w6.heap.size = g := ⟨_, rfl⟩
          rw [hgx]
          obtain ⟨w7, hw⟩ : ∃ W, W = w6.alloc (.cells #[.int .u8 K1, .int .u64 E1, .int .u64 S1, .int .i64 a1, .int .i64 F1, .slice A1 n1 c1] 25) := ⟨_, rfl⟩
          have hgxb : Blk w7 gx #[.int .u8 K1, .int .u64 E1, .int .u64 S1, .int .i64 a1, .int .i64 F1, .slice A1 n1 c1] 25 := by rw [hw, ← hgx]; exact Blk.new _ _ _
          have hA7 : Below w6.heap.size w6 w7 := by rw [hw]; exact (Below.refl _ _).alloc (Nat.le_refl _) _
          rw [← hw]
          clear hw hgx
          have hp7 := Nums.below hp6 (hB6.trans (hA7.mono hB6.size))
          have hB7 := Below.trans hB5 ((hB6.trans (hA7.mono hB6.size)).mono (Below.size hB5))
          have hz7 := hz6.below hA7
          clear hB6 hA7 hz6
          go_wp2_with fail
          refine (rsread_any A5 ys.length c5 ys w7 hp7 hcq).mono ?_
          rintro e w8 ⟨v8, k8, rfl, ht8, hB8⟩
          obtain ⟨K2, E2, S2, a2, F2, A2, n2, c2, zs2, rfl, hz8, hc8⟩ := told_core ht8
          clear ht8
          obtain ⟨rfl, rfl, rfl, rfl, rfl, rfl, rfl⟩ := core_inj hc6 hc8
          clear hc8
          go_upto_region 9 with (fail)
          obtain ⟨gy, hgy⟩ : ∃ g, w8.heap.size = g := ⟨_, rfl⟩
          rw [hgy]
          obtain ⟨w9, hw⟩ : ∃ W, W = w8.alloc (.cells #[.int .u8 K1, .int .u64 E1, .int .u64 S1, .int .i64 a1, .int .i64 F1, .slice A2 n2 c2] 30) := ⟨_, rfl⟩
          have hgyb : Blk w9 gy #[.int .u8 K1, .int .u64 E1, .int .u64 S1, .int .i64 a1, .int .i64 F1, .slice A2 n2 c2] 30 := by rw [hw, ← hgy]; exact Blk.new _ _ _
          have hA9 : Below w8.heap.size w8 w9 := by rw [hw]; exact (Below.refl _ _).alloc (Nat.le_refl _) _
          rw [← hw]
          clear hw hgy
          have hB79 := hB8.trans (hA9.mono hB8.size)
          have hx9 := hgxb.later hB79
          have Hz1 := hid (hz7.below hB79)
          have Hz2 := hid (hz8.below hA9)
          have HB := hid (hB7.trans (hB79.mono hB7.size))
          have HS := hid (fun W (h : Below w9.heap.size w9 W) => (⟨(hx9.later h).six.1, (hgyb.later h).six.1⟩ : _ ∧ _))
          have hBd : Below w9.heap.size w9 (w9.drewN 1) := below_drewN (Below.refl _ _) 1
          clear hp7 hB7 hz7 hB8 hz8 hA9 hgxb hgyb hB79 hx9
          have O1 := fun W => of_any K1 E1 S1 a1 F1 A1 n1 c1 W
          have SM : ∀ W, Nums W .u8 A1 n1 zs1 → Nums W .u8 A2 n2 zs1 → Calls Try.prog 13 #[.agg #[.int .u8 K1, .int .u64 E1, .int .u64 S1, .int .i64 a1, .int .i64 F1, .slice A1 n1 c1], .agg #[.int .u8 K1, .int .u64 E1, .int .u64 S1, .int .i64 a1, .int .i64 F1, .slice A2 n2 c2]] W fun e w' => e = .returned (.bool true) ∧ Below W.heap.size W w' := fun W h1 h2 => by
            have := same_any K1 E1 S1 a1 F1 A1 n1 c1 zs1 K1 E1 S1 a1 F1 A2 n2 c2 zs1 W h1 h2
            rw [decide_eq_true ⟨rfl, rfl, rfl, rfl, rfl, rfl⟩] at this
            exact this
          refine wp_region_held_drew (S := (fun w' => (w'.cell? ⟨gx, 0, none⟩ = some (.int .u8 K1) ∧ w'.cell? ⟨gx, 1, none⟩ = some (.int .u64 E1) ∧ w'.cell? ⟨gx, 2, none⟩ = some (.int .u64 S1) ∧ w'.cell? ⟨gx, 3, none⟩ = some (.int .i64 a1) ∧ w'.cell? ⟨gx, 4, none⟩ = some (.int .i64 F1) ∧ w'.cell? ⟨gx, 5, none⟩ = some (.slice A1 n1 c1)) ∧ (w'.cell? ⟨gy, 0, none⟩ = some (.int .u8 K1) ∧ w'.cell? ⟨gy, 1, none⟩ = some (.int .u64 E1) ∧ w'.cell? ⟨gy, 2, none⟩ = some (.int .u64 S1) ∧ w'.cell? ⟨gy, 3, none⟩ = some (.int .i64 a1) ∧ w'.cell? ⟨gy, 4, none⟩ = some (.int .i64 F1) ∧ w'.cell? ⟨gy, 5, none⟩ = some (.slice A2 n2 c2)))) (by kernel_rfl) ?hSnewBz (fun hHeld => ?restBz)
          case hSnewBz => ((try dsimp only); exact HS.out _ hBd)
          refine wpAnyH_take (i := 0) (oi := ?oiBx0) (v := ?vBx0) ?hoBx0 ?h1Bx0 ?h2Bx0 ?h3Bx0 ?hqBx0 (Or.inl ⟨?h4Bx0, ?hyBx0⟩) (by assumption) ?restBx0
          case hoBx0 => (simp only [List.getElem?_toArray, List.getElem?_cons_zero, List.getElem?_cons_succ]; rfl)
          case h1Bx0 => kernel_rfl
          case h2Bx0 => kernel_rfl
          case h3Bx0 => kernel_rfl
          case h4Bx0 => rfl
          case hqBx0 => exact fun _ _ _ h => h
          case hyBx0 => (intro w hSw; (try dsimp only at hSw); go_simp <;> with_reducible rfl)
          (try simp only [Act.put, List.setIfInBounds_toArray, List.set_cons_zero, List.set_cons_succ])
          refine wpAnyH_take (i := 1) (oi := ?oiBx1) (v := ?vBx1) ?hoBx1 ?h1Bx1 ?h2Bx1 ?h3Bx1 ?hqBx1 (Or.inl ⟨?h4Bx1, ?hyBx1⟩) (by assumption) ?restBx1
          case hoBx1 => (simp only [List.getElem?_toArray, List.getElem?_cons_zero, List.getElem?_cons_succ]; rfl)
          case h1Bx1 => kernel_rfl
          case h2Bx1 => kernel_rfl
          case h3Bx1 => kernel_rfl
          case h4Bx1 => rfl
          case hqBx1 => exact fun _ _ _ h => h
          case hyBx1 => (intro w hSw; (try dsimp only at hSw); go_simp <;> with_reducible rfl)
          (try simp only [Act.put, List.setIfInBounds_toArray, List.set_cons_zero, List.set_cons_succ])
          refine wpAnyH_take (i := 2) (oi := ?oiBx2) (v := ?vBx2) ?hoBx2 ?h1Bx2 ?h2Bx2 ?h3Bx2 ?hqBx2 (Or.inl ⟨?h4Bx2, ?hyBx2⟩) (by assumption) ?restBx2
          case hoBx2 => (simp only [List.getElem?_toArray, List.getElem?_cons_zero, List.getElem?_cons_succ]; rfl)
          case h1Bx2 => kernel_rfl
          case h2Bx2 => kernel_rfl
          case h3Bx2 => kernel_rfl
          case h4Bx2 => rfl
          case hqBx2 => exact fun _ _ _ h => h
          case hyBx2 => (intro w hSw; (try dsimp only at hSw); go_simp <;> with_reducible rfl)
          (try simp only [Act.put, List.setIfInBounds_toArray, List.set_cons_zero, List.set_cons_succ])
          refine wpAnyH_take (i := 3) (oi := ?oiBx3) (v := ?vBx3) ?hoBx3 ?h1Bx3 ?h2Bx3 ?h3Bx3 ?hqBx3 (Or.inl ⟨?h4Bx3, ?hyBx3⟩) (by assumption) ?restBx3
          case hoBx3 => (simp only [List.getElem?_toArray, List.getElem?_cons_zero, List.getElem?_cons_succ]; rfl)
          case h1Bx3 => kernel_rfl
          case h2Bx3 => kernel_rfl
          case h3Bx3 => kernel_rfl
          case h4Bx3 => rfl
          case hqBx3 => exact fun _ _ _ h => h
          case hyBx3 => (intro w hSw; (try dsimp only at hSw); go_simp <;> with_reducible rfl)
          (try simp only [Act.put, List.setIfInBounds_toArray, List.set_cons_zero, List.set_cons_succ])
          refine wpAnyH_take (i := 4) (oi := ?oiBx4) (v := ?vBx4) ?hoBx4 ?h1Bx4 ?h2Bx4 ?h3Bx4 ?hqBx4 (Or.inl ⟨?h4Bx4, ?hyBx4⟩) (by assumption) ?restBx4
          case hoBx4 => (simp only [List.getElem?_toArray, List.getElem?_cons_zero, List.getElem?_cons_succ]; rfl)
          case h1Bx4 => kernel_rfl
          case h2Bx4 => kernel_rfl
          case h3Bx4 => kernel_rfl
          case h4Bx4 => rfl
          case hqBx4 => exact fun _ _ _ h => h
          case hyBx4 => (intro w hSw; (try dsimp only at hSw); go_simp <;> with_reducible rfl)
          (try simp only [Act.put, List.setIfInBounds_toArray, List.set_cons_zero, List.set_cons_succ])
          refine wpAnyH_take (i := 6) (oi := ?oiBx6) (v := ?vBx6) ?hoBx6 ?h1Bx6 ?h2Bx6 ?h3Bx6 ?hqBx6 (Or.inl ⟨?h4Bx6, ?hyBx6⟩) (by assumption) ?restBx6
          case hoBx6 => (simp only [List.getElem?_toArray, List.getElem?_cons_zero, List.getElem?_cons_succ]; rfl)
          case h1Bx6 => kernel_rfl
          case h2Bx6 => kernel_rfl
          case h3Bx6 => kernel_rfl
          case h4Bx6 => rfl
          case hqBx6 => exact fun _ _ _ h => h
          case hyBx6 => (intro w hSw; (try dsimp only at hSw); go_simp <;> with_reducible rfl)
          (try simp only [Act.put, List.setIfInBounds_toArray, List.set_cons_zero, List.set_cons_succ])
          refine wpAnyH_ready (rs := [5]) (by kernel_rfl) (by simp) ?_
          refine AllReadyH.cons (o := ?oiBx5) ?hoBx5 (fun K hK => ?restBx5) ?moreBx5
          case moreBx5 => exact AllReadyH.nil
          case hoBx5 => (simp only [List.getElem?_toArray, List.getElem?_cons_zero, List.getElem?_cons_succ]; rfl)
          go_simp
          refine (O1 _).mono ?_
          rintro e w10 ⟨rfl, hB10'⟩
          have hB10 := hBd.trans hB10'
          try go_wp2_with fail
          refine hK.out _ _ ?hSnewBy5 (fun hHeld => ?restBy5)
          case hSnewBy5 => ((try dsimp only); exact HS.out _ hB10)
          clear hK K
          (try simp only [Act.put, List.setIfInBounds_toArray, List.set_cons_zero, List.set_cons_succ])
          refine wpAnyH_ready (rs := [7]) (by kernel_rfl) (by simp) ?_
          refine AllReadyH.cons (o := ?oiBx7) ?hoBx7 (fun K hK => ?restBx7) ?moreBx7
          case moreBx7 => exact AllReadyH.nil
          case hoBx7 => (simp only [List.getElem?_toArray, List.getElem?_cons_zero, List.getElem?_cons_succ]; rfl)
          go_simp
          refine (SM _ (Hz1.out.below hB10) (Hz2.out.below hB10)).mono ?_
          rintro e w11 ⟨rfl, hB11'⟩
          have hB11 := hB10.trans (hB11'.mono hB10.size)
          try go_wp2_with fail
          refine hK.out _ _ ?hSnewBy7 (fun hHeld => ?restBy7)
          case hSnewBy7 => ((try dsimp only); exact HS.out _ hB11)
          clear hK K
          (try simp only [Act.put, List.setIfInBounds_toArray, List.set_cons_zero, List.set_cons_succ])
          refine wpAnyH_take (i := 8) (oi := ?oiBx8) (v := ?vBx8) ?hoBx8 ?h1Bx8 ?h2Bx8 ?h3Bx8 ?hqBx8 (Or.inl ⟨?h4Bx8, ?hyBx8⟩) (by assumption) ?restBx8
          case hoBx8 => (simp only [List.getElem?_toArray, List.getElem?_cons_zero, List.getElem?_cons_succ]; rfl)
          case h1Bx8 => kernel_rfl
          case h2Bx8 => kernel_rfl
          case h3Bx8 => kernel_rfl
          case h4Bx8 => rfl
          case hqBx8 => exact fun _ _ _ h => h
          case hyBx8 => (intro w hSw; (try dsimp only at hSw); go_simp <;> with_reducible rfl)
          (try simp only [Act.put, List.setIfInBounds_toArray, List.set_cons_zero, List.set_cons_succ])
          refine wpAnyH_take (i := 9) (oi := ?oiBx9) (v := ?vBx9) ?hoBx9 ?h1Bx9 ?h2Bx9 ?h3Bx9 ?hqBx9 (Or.inl ⟨?h4Bx9, ?hyBx9⟩) (by assumption) ?restBx9
          case hoBx9 => (simp only [List.getElem?_toArray, List.getElem?_cons_zero, List.getElem?_cons_succ]; rfl)
          case h1Bx9 => kernel_rfl
          case h2Bx9 => kernel_rfl
          case h3Bx9 => kernel_rfl
          case h4Bx9 => rfl
          case hqBx9 => exact fun _ _ _ h => h
          case hyBx9 => (intro w hSw; (try dsimp only at hSw); go_simp <;> with_reducible rfl)
          (try simp only [Act.put, List.setIfInBounds_toArray, List.set_cons_zero, List.set_cons_succ])
          refine wpAnyH_done (by kernel_rfl) ?_ _
          go_wp2
          go_ret
          exact ⟨rfl, HB.out.trans (hB11.mono HB.out.size)⟩
end Go.Proofs.Ytpncgfdnilmhhaa.Sheet
