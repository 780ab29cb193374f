import Derived.Test.YtnlidokfmpfepaaPmapNil
import Derived.BigRegion
set_option linter.unusedVariables false
set_option linter.unusedSimpArgs false
namespace Go.Proofs.Ytnlidokfmpfepaa.Pmap
open Go.RowKit Go.Proofs.Ytnlidokfmpfepaa.Kit

/-- What lies at the one address. -/
def mAt : Option (Nat × Nat) → List (Int × Int)
  | none => List.replicate 5 (0, 0)
  | some p => (List.replicate 5 (0, 0)).set 3 ((p.1 : Int), (p.2 : Int))
def mHas : Option (Nat × Nat) → List Bool
  | none => List.replicate 5 false
  | some _ => (List.replicate 5 false).set 3 true
def mCnt : Option (Nat × Nat) → List Int
  | none => List.replicate 64 0
  | some p => (List.replicate 64 (0 : Int)).set p.1 1
theorem rep_set (B : Nat) (hB : B < 64) : ((List.replicate 64 (0 : Int)).set B 1).set B ((((List.replicate 64 (0 : Int)).set B 1)).getD B 0 - 1) = List.replicate 64 0 := by
  revert B
  decide +kernel
theorem rep_get (B : Nat) (hB : B < 64) : (List.replicate 64 (0 : Int)).getD B 0 = 0 ∧ ((List.replicate 64 (0 : Int)).set B 1).getD B 0 = 1 ∧ isum ((List.replicate 64 (0 : Int)).set B 1) = 1 ∧ (∀ x ∈ (List.replicate 64 (0 : Int)).set B 1, 0 ≤ x ∧ x ≤ 65536) := by
  revert B
  decide +kernel
theorem m_dcnt (o : Option (Nat × Nat)) (ho : ∀ p, o = some p → p.1 < 64) : dcnt (mAt o) (mHas o) (mCnt o) 3 = List.replicate 64 0 := by
  rcases o with _ | ⟨B, P⟩
  · rfl
  · exact rep_set B (ho _ rfl)
theorem m_set (o : Option (Nat × Nat)) (B P : Nat) (hB : B < 64) (ho : ∀ p, o = some p → p.1 < 64) :
    (mAt o).set 3 ((B : Int), (P : Int)) = mAt (some (B, P)) ∧ (mHas o).set 3 true = mHas (some (B, P)) ∧ scnt (mAt o) (mHas o) (mCnt o) 3 B = mCnt (some (B, P)) := by
  refine ⟨?_, ?_, ?_⟩
  · rcases o with _ | p
    · rfl
    · exact List.set_set _
  · rcases o with _ | p
    · rfl
    · exact List.set_set _
  · unfold scnt
    rw [m_dcnt o ho, (rep_get B hB).1]
    rfl
theorem m_hw (o : Option (Nat × Nat)) (ho : ∀ p, o = some p → p.1 < 64) : (mHas o).getD 3 false = true → 0 ≤ ((mAt o).getD 3 (0, 0)).1 ∧ ((mAt o).getD 3 (0, 0)).1 < (64 : Nat) ∧ 1 ≤ (mCnt o).getD ((mAt o).getD 3 (0, 0)).1.toNat 0 ∧ (mCnt o).getD ((mAt o).getD 3 (0, 0)).1.toNat 0 ≤ 65536 := by
  intro h
  rcases o with _ | ⟨B, P⟩
  · cases h
  · have hB := ho _ rfl
    have e : ((mAt (some (B, P))).getD 3 (0, 0)).1 = (B : Int) := rfl
    have g := (rep_get B hB).2.1
    have e2 : (mCnt (some (B, P))).getD B 0 = 1 := g
    rw [e, Int.toNat_natCast, e2]
    simp only at hB
    omega
theorem m_drop (o : Option (Nat × Nat)) (ho : ∀ p, o = some p → p.1 < 64) :
    (mAt o).set 3 (0, 0) = mAt none ∧ (mHas o).set 3 false = mHas none ∧ dcnt (mAt o) (mHas o) (mCnt o) 3 = mCnt none := by
  refine ⟨?_, ?_, m_dcnt o ho⟩
  · rcases o with _ | p
    · rfl
    · exact List.set_set _
  · rcases o with _ | p
    · rfl
    · exact List.set_set _
theorem outs_one (P : Nat) (hP : P < 32) : outs ((List.replicate 32 (0 : Int)).set P 4) = [3] := by
  revert P
  decide +kernel
theorem m_by (B P : Nat) : byL (mAt (some (B, P))) (mHas (some (B, P))) B 5 = (List.replicate 32 (0 : Int)).set P 4 := by
  have e : List.range 5 = [0, 1, 2, 3, 4] := rfl
  unfold byL
  rw [e]
  simp [byF, mAt, mHas]

set_option maxRecDepth 100000 in
set_option maxHeartbeats 8000000 in
theorem law_moves (A : Option Addr) (n c : Nat) (xs : List Int) (w : World) (hz : Nums w .u16 A n xs) :
    Calls Try.prog 8 #[.slice A n c] w fun e w' => e = .returned (.bool true) ∧ Below w.heap.size w w' := by
  have hn := hz.most
  go_enter Try.func8, Try.ntmps8
  go_wp2_with fail
  refine (awake_any w).mono ?_
  rintro e w1 ⟨rfl, hB1⟩
  by_cases h60 : 60 < n
  · go_wp2_with fail
    refine (awake_any w1).mono ?_
    rintro e w2 ⟨rfl, hB2⟩
    go_wp2
    go_ret
    exact ⟨rfl, hB1.trans (hB2.mono hB1.size)⟩
  · have Hz := hid hz
    clear hz
    go_wp2_with fail
    refine (new_any 5 64 w1 (by decide) (by decide) (by decide) (by decide)).mono ?_
    rintro e w2 ⟨b, ga, gh, gc, rfl, hp2, hB2, hga, hgh, hgc, -, la, lh, lc⟩
    have hs1 := hB1.size
    have hga' : w.heap.size ≤ ga := Nat.le_trans hs1 hga
    have hgh' : w.heap.size ≤ gh := Nat.le_trans hs1 hgh
    have hgc' : w.heap.size ≤ gc := Nat.le_trans hs1 hgc
    have hB02 := hB1.trans (hB2.mono hs1)
    clear hB1 hB2 hs1 hga hgh hgc
    go_wp2
    go_loopw [5] (fun x w' => ∃ (i : Nat) (o : Option (Nat × Nat)), i ≤ n ∧ x = .int .i64 (i : Int) ∧ (∀ p, o = some p → p.1 < 64 ∧ p.2 < 32) ∧ PM w' b ga gh gc 5 64 (mAt o) (mHas o) (mCnt o) ∧ Below w.heap.size w w' ∧ ga < w'.heap.size ∧ gh < w'.heap.size ∧ gc < w'.heap.size) (fun x _ => n - (intOf x).toNat)
    case atStart => exact ⟨0, none, by omega, rfl, (fun p h => by cases h), hp2, hB02, la, lh, lc⟩
    case round =>
      rename_i wr
      clear hp2 hB02 la lh lc
      obtain ⟨i, o, hi, rfl, ho, hp, hB, la, lh, lc⟩ := hrel
      by_cases hlt : i < n
      · obtain ⟨bz, oz, rfl, hcz⟩ := (Hz.out.below hB).at_ i hlt
        have hx16 := Hz.out.wf_at i hlt
        obtain ⟨hx0, hx1⟩ := wf_u16 hx16
        generalize xs.getD i 0 = x at *
        obtain ⟨x, rfl⟩ := Int.eq_ofNat_of_zero_le hx0
        obtain ⟨B, hBd⟩ : ∃ B, B = x % 64 := ⟨_, rfl⟩
        obtain ⟨y, hy⟩ : ∃ y, y = x / 64 := ⟨_, rfl⟩
        obtain ⟨P, hP⟩ : ∃ P, P = y % 32 := ⟨_, rfl⟩
        have hBl : B < 64 := by omega
        have hPl : P < 32 := by omega
        have hyl : y < 1024 := by omega
        have q1 : (x : Int).tmod 64 = (B : Int) := by rw [Int.tmod_eq_emod_of_nonneg (by omega)]; omega
        have q2 : (x : Int).tdiv 64 = (y : Int) := by rw [Int.tdiv_eq_ediv_of_nonneg (by omega)]; omega
        have q2' : (x : Int) / 64 = (y : Int) := by omega
        have q3 : (y : Int).tmod 32 = (P : Int) := by rw [Int.tmod_eq_emod_of_nonneg (by omega)]; omega
        have q1' : (x : Int) % 64 = (B : Int) := by omega
        have q3' : (y : Int) % 32 = (P : Int) := by omega
        have v1 : IntKind.i64.wrap (x : Int) = (x : Int) := IntWalk.i64_in _ (by omega)
        have v2 : IntKind.i64.wrap (y : Int) = (y : Int) := IntWalk.i64_in _ (by omega)
        have v3 : IntKind.u16.wrap (y : Int) = (y : Int) := IntWalk.u16_in _ (by omega)
        have v4 : IntKind.i64.wrap (B : Int) = (B : Int) := IntWalk.i64_in _ (by omega)
        have v5 : IntKind.i64.wrap (P : Int) = (P : Int) := IntWalk.i64_in _ (by omega)
        have hin : (i : Int) < (n : Int) := by omega
        have hi0 : (0 : Int) ≤ (i : Int) := by omega
        clear hBd hy hP
        have hBd : Below wr.heap.size wr (wr.drewN 1) := below_drewN (Below.refl _ _) 1
        have HZ := hid (fun W (h : Below wr.heap.size wr W) => (by rw [← hcz]; exact h.cell (World.block_lt_of_cell? wr _ hcz) : W.cell? ⟨bz, oz + i, none⟩ = some (.int .u16 (x : Int))))
        have hBa := hBd.alloc (Nat.le_refl _) (.cells #[.int .i64 (B : Int), .int .i64 (P : Int)] 28)
        go_upto_region 7 with (fail)
        refine wp_region_held_drew (S := (fun w' => w'.cell? ⟨bz, oz + i, none⟩ = some (.int .u16 (x : Int)))) (by kernel_rfl) ?hSnewMz (fun hHeld => ?restMz)
        case hSnewMz => ((try dsimp only); exact HZ.out _ hBd)
        refine wpAnyH_take (i := 0) (oi := ?oiMx0) (v := ?vMx0) ?hoMx0 ?h1Mx0 ?h2Mx0 ?h3Mx0 ?hqMx0 (Or.inl ⟨?h4Mx0, ?hyMx0⟩) (by assumption) ?restMx0
        case hoMx0 => (simp only [List.getElem?_toArray, List.getElem?_cons_zero, List.getElem?_cons_succ]; rfl)
        case h1Mx0 => kernel_rfl
        case h2Mx0 => kernel_rfl
        case h3Mx0 => kernel_rfl
        case h4Mx0 => rfl
        case hqMx0 => exact fun _ _ _ h => h
        case hyMx0 => (intro w hSw; (try dsimp only at hSw); go_simp <;> with_reducible rfl)
        (try simp only [Act.put, List.setIfInBounds_toArray, List.set_cons_zero, List.set_cons_succ])
        refine wpAnyH_take (i := 1) (oi := ?oiMx1) (v := ?vMx1) ?hoMx1 ?h1Mx1 ?h2Mx1 ?h3Mx1 ?hqMx1 (Or.inl ⟨?h4Mx1, ?hyMx1⟩) (by assumption) ?restMx1
        case hoMx1 => (simp only [List.getElem?_toArray, List.getElem?_cons_zero, List.getElem?_cons_succ]; rfl)
        case h1Mx1 => kernel_rfl
        case h2Mx1 => kernel_rfl
        case h3Mx1 => kernel_rfl
        case h4Mx1 => rfl
        case hqMx1 => exact fun _ _ _ h => h
        case hyMx1 => (intro w hSw; (try dsimp only at hSw); go_simp <;> with_reducible rfl)
        (try simp only [Act.put, List.setIfInBounds_toArray, List.set_cons_zero, List.set_cons_succ])
        refine wpAnyH_take (i := 2) (oi := ?oiMx2) (v := ?vMx2) ?hoMx2 ?h1Mx2 ?h2Mx2 ?h3Mx2 ?hqMx2 (Or.inl ⟨?h4Mx2, ?hyMx2⟩) (by assumption) ?restMx2
        case hoMx2 => (simp only [List.getElem?_toArray, List.getElem?_cons_zero, List.getElem?_cons_succ]; rfl)
        case h1Mx2 => kernel_rfl
        case h2Mx2 => kernel_rfl
        case h3Mx2 => kernel_rfl
        case h4Mx2 => rfl
        case hqMx2 => exact fun _ _ _ h => h
        case hyMx2 => (intro w hSw; (try dsimp only at hSw); go_simp <;> with_reducible rfl)
        (try simp only [Act.put, List.setIfInBounds_toArray, List.set_cons_zero, List.set_cons_succ])
        refine wpAnyH_take (i := 3) (oi := ?oiMx3) (v := ?vMx3) ?hoMx3 ?h1Mx3 ?h2Mx3 ?h3Mx3 ?hqMx3 (Or.inl ⟨?h4Mx3, ?hyMx3⟩) (by assumption) ?restMx3
        case hoMx3 => (simp only [List.getElem?_toArray, List.getElem?_cons_zero, List.getElem?_cons_succ]; rfl)
        case h1Mx3 => kernel_rfl
        case h2Mx3 => kernel_rfl
        case h3Mx3 => kernel_rfl
        case h4Mx3 => rfl
        case hqMx3 => exact fun _ _ _ h => h
        case hyMx3 => (intro w hSw; (try dsimp only at hSw); go_simp <;> with_reducible rfl)
        (try simp only [Act.put, List.setIfInBounds_toArray, List.set_cons_zero, List.set_cons_succ])
        refine wpAnyH_take (i := 4) (oi := ?oiMx4) (v := ?vMx4) ?hoMx4 ?h1Mx4 ?h2Mx4 ?h3Mx4 ?hqMx4 (Or.inl ⟨?h4Mx4, ?hyMx4⟩) (by assumption) ?restMx4
        case hoMx4 => (simp only [List.getElem?_toArray, List.getElem?_cons_zero, List.getElem?_cons_succ]; rfl)
        case h1Mx4 => kernel_rfl
        case h2Mx4 => kernel_rfl
        case h3Mx4 => kernel_rfl
        case h4Mx4 => rfl
        case hqMx4 => exact fun _ _ _ h => h
        case hyMx4 => (intro w hSw; (try dsimp only at hSw); go_simp <;> with_reducible rfl)
        (try simp only [Act.put, List.setIfInBounds_toArray, List.set_cons_zero, List.set_cons_succ])
        refine wpAnyH_take (i := 5) (oi := ?oiMx5) (v := ?vMx5) ?hoMx5 ?h1Mx5 ?h2Mx5 ?h3Mx5 ?hqMx5 (Or.inl ⟨?h4Mx5, ?hyMx5⟩) (by assumption) ?restMx5
        case hoMx5 => (simp only [List.getElem?_toArray, List.getElem?_cons_zero, List.getElem?_cons_succ]; rfl)
        case h1Mx5 => kernel_rfl
        case h2Mx5 => kernel_rfl
        case h3Mx5 => kernel_rfl
        case h4Mx5 => rfl
        case hqMx5 => exact fun _ _ _ h => h
        case hyMx5 => (intro w hSw; (try dsimp only at hSw); go_simp <;> with_reducible rfl)
        (try simp only [Act.put, List.setIfInBounds_toArray, List.set_cons_zero, List.set_cons_succ])
        refine wpAnyH_take (i := 6) (oi := ?oiMx6) (v := ?vMx6) ?hoMx6 ?h1Mx6 ?h2Mx6 ?h3Mx6 ?hqMx6 (Or.inl ⟨?h4Mx6, ?hyMx6⟩) (by assumption) ?restMx6
        case hoMx6 => (simp only [List.getElem?_toArray, List.getElem?_cons_zero, List.getElem?_cons_succ]; rfl)
        case h1Mx6 => kernel_rfl
        case h2Mx6 => kernel_rfl
        case h3Mx6 => kernel_rfl
        case h4Mx6 => rfl
        case hqMx6 => exact fun _ _ _ h => h
        case hyMx6 => (intro w hSw; (try dsimp only at hSw); go_simp <;> with_reducible rfl)
        (try simp only [Act.put, List.setIfInBounds_toArray, List.set_cons_zero, List.set_cons_succ])
        refine wpAnyH_take (i := 7) (oi := ?oiMx7) (v := ?vMx7) ?hoMx7 ?h1Mx7 ?h2Mx7 ?h3Mx7 ?hqMx7 (Or.inl ⟨?h4Mx7, ?hyMx7⟩) (by assumption) ?restMx7
        case hoMx7 => (simp only [List.getElem?_toArray, List.getElem?_cons_zero, List.getElem?_cons_succ]; rfl)
        case h1Mx7 => kernel_rfl
        case h2Mx7 => kernel_rfl
        case h3Mx7 => kernel_rfl
        case h4Mx7 => rfl
        case hqMx7 => exact fun _ _ _ h => h
        case hyMx7 => (intro w hSw; (try dsimp only at hSw); go_simp <;> with_reducible rfl)
        (try simp only [Act.put, List.setIfInBounds_toArray, List.set_cons_zero, List.set_cons_succ])
        refine wpAnyH_take (i := 8) (oi := ?oiMx8) (v := ?vMx8) ?hoMx8 ?h1Mx8 ?h2Mx8 ?h3Mx8 ?hqMx8 (Or.inl ⟨?h4Mx8, ?hyMx8⟩) (by assumption) ?restMx8
        case hoMx8 => (simp only [List.getElem?_toArray, List.getElem?_cons_zero, List.getElem?_cons_succ]; rfl)
        case h1Mx8 => kernel_rfl
        case h2Mx8 => kernel_rfl
        case h3Mx8 => kernel_rfl
        case h4Mx8 => rfl
        case hqMx8 => exact fun _ _ _ h => h
        case hyMx8 => (intro w hSw; (try dsimp only at hSw); go_simp <;> with_reducible rfl)
        (try simp only [Act.put, List.setIfInBounds_toArray, List.set_cons_zero, List.set_cons_succ])
        refine wpAnyH_take (i := 9) (oi := ?oiMx9) (v := ?vMx9) ?hoMx9 ?h1Mx9 ?h2Mx9 ?h3Mx9 ?hqMx9 (Or.inl ⟨?h4Mx9, ?hyMx9⟩) (by assumption) ?restMx9
        case hoMx9 => (simp only [List.getElem?_toArray, List.getElem?_cons_zero, List.getElem?_cons_succ]; rfl)
        case h1Mx9 => kernel_rfl
        case h2Mx9 => kernel_rfl
        case h3Mx9 => kernel_rfl
        case h4Mx9 => rfl
        case hqMx9 => exact fun _ _ _ h => h
        case hyMx9 => (intro w hSw; (try dsimp only at hSw); go_simp <;> with_reducible rfl)
        (try simp only [Act.put, List.setIfInBounds_toArray, List.set_cons_zero, List.set_cons_succ])
        refine wpAnyH_take (i := 10) (oi := ?oiMx10) (v := ?vMx10) ?hoMx10 ?h1Mx10 ?h2Mx10 ?h3Mx10 ?hqMx10 (Or.inl ⟨?h4Mx10, ?hyMx10⟩) (by assumption) ?restMx10
        case hoMx10 => (simp only [List.getElem?_toArray, List.getElem?_cons_zero, List.getElem?_cons_succ]; rfl)
        case h1Mx10 => kernel_rfl
        case h2Mx10 => kernel_rfl
        case h3Mx10 => kernel_rfl
        case h4Mx10 => rfl
        case hqMx10 => exact fun _ _ _ h => h
        case hyMx10 => (intro w hSw; (try dsimp only at hSw); go_simp <;> with_reducible rfl)
        (try simp only [Act.put, List.setIfInBounds_toArray, List.set_cons_zero, List.set_cons_succ])
        refine wpAnyH_take (i := 11) (oi := ?oiMx11) (v := ?vMx11) ?hoMx11 ?h1Mx11 ?h2Mx11 ?h3Mx11 ?hqMx11 (Or.inl ⟨?h4Mx11, ?hyMx11⟩) (by assumption) ?restMx11
        case hoMx11 => (simp only [List.getElem?_toArray, List.getElem?_cons_zero, List.getElem?_cons_succ]; rfl)
        case h1Mx11 => kernel_rfl
        case h2Mx11 => kernel_rfl
        case h3Mx11 => kernel_rfl
        case h4Mx11 => rfl
        case hqMx11 => exact fun _ _ _ h => h
        case hyMx11 => (intro w hSw; (try dsimp only at hSw); go_simp <;> with_reducible rfl)
        (try simp only [Act.put, List.setIfInBounds_toArray, List.set_cons_zero, List.set_cons_succ])
        refine wpAnyH_take (i := 12) (oi := ?oiMx12) (v := ?vMx12) ?hoMx12 ?h1Mx12 ?h2Mx12 ?h3Mx12 ?hqMx12 (Or.inl ⟨?h4Mx12, ?hyMx12⟩) (by assumption) ?restMx12
        case hoMx12 => (simp only [List.getElem?_toArray, List.getElem?_cons_zero, List.getElem?_cons_succ]; rfl)
        case h1Mx12 => kernel_rfl
        case h2Mx12 => kernel_rfl
        case h3Mx12 => kernel_rfl
        case h4Mx12 => rfl
        case hqMx12 => exact fun _ _ _ h => h
        case hyMx12 => (intro w hSw; (try dsimp only at hSw); go_simp <;> with_reducible rfl)
        (try simp only [Act.put, List.setIfInBounds_toArray, List.set_cons_zero, List.set_cons_succ])
        refine wpAnyH_take (i := 13) (oi := ?oiMx13) (v := ?vMx13) ?hoMx13 ?h1Mx13 ?h2Mx13 ?h3Mx13 ?hqMx13 (Or.inl ⟨?h4Mx13, ?hyMx13⟩) (by assumption) ?restMx13
        case hoMx13 => (simp only [List.getElem?_toArray, List.getElem?_cons_zero, List.getElem?_cons_succ]; rfl)
        case h1Mx13 => kernel_rfl
        case h2Mx13 => kernel_rfl
        case h3Mx13 => kernel_rfl
        case h4Mx13 => rfl
        case hqMx13 => exact fun _ _ _ h => h
        case hyMx13 => (intro w hSw; (try dsimp only at hSw); go_simp <;> with_reducible rfl)
        (try simp only [Act.put, List.setIfInBounds_toArray, List.set_cons_zero, List.set_cons_succ])
        refine wpAnyH_ready (rs := [14]) (by kernel_rfl) (by simp) ?_
        refine AllReadyH.cons (o := ?oiMx14) ?hoMx14 (fun K hK => ?restMx14) ?moreMx14
        case moreMx14 => exact AllReadyH.nil
        case hoMx14 => (simp only [List.getElem?_toArray, List.getElem?_cons_zero, List.getElem?_cons_succ]; rfl)
        go_simp
        refine hK.out _ _ ?hSnewMy14 (fun hHeld => ?restMy14)
        case hSnewMy14 => ((try dsimp only); exact HZ.out _ (hBd.alloc (Nat.le_refl _) _))
        clear hK K
        (try simp only [Act.put, List.setIfInBounds_toArray, List.set_cons_zero, List.set_cons_succ])
        refine wpAnyH_ready (rs := [15]) (by kernel_rfl) (by simp) ?_
        refine AllReadyH.cons (o := ?oiMx15) ?hoMx15 (fun K hK => ?restMx15) ?moreMx15
        case moreMx15 => exact AllReadyH.nil
        case hoMx15 => (simp only [List.getElem?_toArray, List.getElem?_cons_zero, List.getElem?_cons_succ]; rfl)
        go_simp
        refine hK.out _ _ ?hSnewMy15 (fun hHeld => ?restMy15)
        case hSnewMy15 => ((try dsimp only); exact HZ.out _ hBa)
        clear hK K
        (try simp only [Act.put, List.setIfInBounds_toArray, List.set_cons_zero, List.set_cons_succ])
        refine wpAnyH_done (by kernel_rfl) ?_ _
        clear q1 q2 q2' q3 q1' q3' v1 v2 v3 v4 v5 hcz
        go_upto_region 8 with (fail)
        obtain ⟨gx, hgx⟩ : ∃ g, wr.heap.size = g := ⟨_, rfl⟩
        obtain ⟨w3, hw3⟩ : ∃ W, (wr.alloc (.cells #[.int .i64 (B : Int), .int .i64 (P : Int)] 28)).drewN 1 = W := ⟨_, rfl⟩
        have hgoal : (wr.alloc (.cells #[.int .i64 (B : Int), .int .i64 (P : Int)] 28)).drew = w3 := hw3
        have hx3 : Blk w3 gx #[.int .i64 (B : Int), .int .i64 (P : Int)] 28 := by rw [← hw3, ← hgx]; exact (Blk.new _ _ _).drewN 1
        have hA3 : Below wr.heap.size wr w3 := by rw [← hw3]; exact ((Below.refl _ _).alloc (Nat.le_refl _) _).drewB 1
        rw [hgoal, hgx]
        have hsz3 := hA3.size
        have hp3 := hp.later hA3
        have hB3 := hB.trans (hA3.mono hB.size)
        have hgxa : gx ≠ ga := by omega
        have hgxh : gx ≠ gh := by omega
        have hgxc : gx ≠ gc := by omega
        have la3 : ga < w3.heap.size := by omega
        have lh3 : gh < w3.heap.size := by omega
        have lc3 : gc < w3.heap.size := by omega
        clear hgoal hw3 hgx hA3 hBd HZ hBa hp hB la lh lc hsz3
        obtain ⟨⟨d0, d1⟩, -⟩ := hx3.two
        have hset := set_in b ga gh gc 5 64 (mAt o) (mHas o) (mCnt o) 3 B P w3 hp3 (by decide) hBl hPl (m_hw o (fun p h => (ho p h).1)) (by rw [m_dcnt o (fun p h => (ho p h).1), (rep_get B hBl).1]; decide) la3 lh3 lc3
        obtain ⟨m1, m2, m3⟩ := m_set o B P hBl (fun p h => (ho p h).1)
        rw [m1, m2, m3] at hset
        clear m1 m2 m3 hp3
        go_wp2_with fail
        refine hset.mono ?_
        rintro e w4 ⟨rfl, hp4, hF4⟩
        have hs4 := hF4.size
        have hx4 : Blk w4 gx #[.int .i64 (B : Int), .int .i64 (P : Int)] 28 := (hF4.block gx hx3.lt hgxa hgxh hgxc).trans hx3
        have hB4 := hB3.trans (hF4.below hB3.size hga' hgh' hgc')
        clear hset hx3 hF4 hB3 d0 d1
        have hget := get_any b ga gh gc 5 64 _ _ _ 3 w4 hp4
        have g1 : getOk (mHas (some (B, P))) 5 3 = true := rfl
        have g2 : getV (mAt (some (B, P))) (mHas (some (B, P))) 5 3 = ((B : Int), (P : Int)) := rfl
        rw [g1, g2] at hget
        clear g1 g2
        go_wp2_with fail
        refine hget.mono ?_
        rintro e w5 ⟨rfl, hB5⟩
        clear hget
        go_upto_region 10 with (fail)
        obtain ⟨gy, hgy⟩ : ∃ g, w5.heap.size = g := ⟨_, rfl⟩
        obtain ⟨w6, hw6⟩ : ∃ W, W = w5.alloc (.cells #[.int .i64 (B : Int), .int .i64 (P : Int)] 28) := ⟨_, rfl⟩
        have hy6 : Blk w6 gy #[.int .i64 (B : Int), .int .i64 (P : Int)] 28 := by rw [hw6, ← hgy]; exact Blk.new _ _ _
        have hA6 : Below w4.heap.size w4 w6 := by rw [hw6]; exact hB5.alloc hB5.size _
        rw [← hw6, hgy]
        have hp6 := hp4.later hA6
        have hx6 := hx4.later hA6
        have hs6 := hA6.size
        have hB6 := hB4.trans (hA6.mono hB4.size)
        clear hw6 hgy hA6 hB5 hp4 hx4 hB4
        obtain ⟨⟨d0, d1⟩, -⟩ := hx6.two
        have hon := on_any b ga gh gc 5 64 _ _ _ B w6 hp6 hBl (by show ((List.replicate 64 (0 : Int)).set B 1).getD B 0 ≠ 0; rw [(rep_get B hBl).2.1]; decide) (fun a ha hh => by
          have : a = 0 ∨ a = 1 ∨ a = 2 ∨ a = 3 ∨ a = 4 := by omega
          rcases this with rfl | rfl | rfl | rfl | rfl
          · cases hh
          · cases hh
          · cases hh
          · show 0 ≤ (P : Int) ∧ (P : Int) < 32
            omega
          · cases hh)
        rw [m_by, outs_one P hPl] at hon
        go_wp2_with fail
        refine hon.mono ?_
        rintro e w7 ⟨v7, rfl, ho7, hB7⟩
        obtain ⟨A7, c7, rfl, hc7, hz7⟩ := own_nums ho7 (by decide)
        obtain ⟨b7, o7, rfl, hcell⟩ := hz7.cell 0 (by decide)
        have h0 : w7.cell? ⟨b7, o7, none⟩ = some (.int .i64 3) := hcell 0 (by decide)
        have hc1 : 1 ≤ c7 := hc7
        have hp7 := hp6.later hB7
        have hx7 := hx6.later hB7
        have hy7 := hy6.later hB7
        have hs7 := hB7.size
        have hB8 := hB6.trans (hB7.mono hB6.size)
        clear d0 d1 hon ho7 hz7 hcell hB7 hp6 hx6 hy6 hB6
        obtain ⟨⟨d0, d1⟩, -⟩ := hx7.two
        obtain ⟨⟨y0, y1⟩, -⟩ := hy7.two
        have Hp7 := hid hp7
        have hlen := len_any b ga gh gc 5 64 _ _ _ w7 hp7 (rep_get B hBl).2.2.2
        have hcnt := count_any b ga gh gc 5 64 _ _ _ (B : Int) w7 hp7
        have e1 : isum (mCnt (some (B, P))) = 1 := (rep_get B hBl).2.2.1
        have e2 : (if (0 : Int) ≤ (B : Int) ∧ (B : Int) < ((64 : Nat) : Int) then (mCnt (some (B, P))).getD ((B : Int)).toNat 0 else 0) = 1 := by
          rw [if_pos ⟨by omega, by omega⟩, Int.toNat_natCast]
          exact (rep_get B hBl).2.1
        rw [e1] at hlen
        rw [e2] at hcnt
        clear e1 e2 hp7 hx7 hy7
        go_wp2_with fail
        refine hlen.mono ?_
        rintro e w8 ⟨rfl, rfl⟩
        go_wp2_with fail
        refine hcnt.mono ?_
        rintro e w9 ⟨rfl, rfl⟩
        clear hlen hcnt
        go_wp2
        go_roundw
        case rel => exact ⟨i + 1, some (B, P), by omega, by go_num, (fun p h => by injection h with h; subst h; exact ⟨hBl, hPl⟩), Hp7.out, hB8, by omega, by omega, by omega⟩
        case measure => simp [intOf]; omega
      · obtain rfl : i = n := by omega
        have hdr := drop_in b ga gh gc 5 64 _ _ _ 3 wr hp (by decide) (m_hw o (fun p h => (ho p h).1))
        obtain ⟨m1, m2, m3⟩ := m_drop o (fun p h => (ho p h).1)
        rw [m1, m2, m3] at hdr
        clear m1 m2 m3
        go_wp2_with fail
        refine hdr.mono ?_
        rintro e w4 ⟨rfl, hp4, hF4⟩
        have hB4 := hB.trans (hF4.below hB.size hga' hgh' hgc')
        clear hdr hF4 hB hp
        have hget := get_any b ga gh gc 5 64 _ _ _ 3 w4 hp4
        have g1 : getOk (mHas none) 5 3 = false := rfl
        have g2 : getV (mAt none) (mHas none) 5 3 = (0, 0) := rfl
        rw [g1, g2] at hget
        clear g1 g2
        go_wp2_with fail
        refine hget.mono ?_
        rintro e w5 ⟨rfl, hB5⟩
        clear hget
        go_upto_region 15 with (fail)
        obtain ⟨w6, hw6⟩ : ∃ W, W = w5.alloc (.cells #[.int .i64 0, .int .i64 0] 28) := ⟨_, rfl⟩
        have hA6 : Below w4.heap.size w4 w6 := by rw [hw6]; exact hB5.alloc hB5.size _
        rw [← hw6]
        have hp6 := hp4.later hA6
        have hB6 := hB4.trans (hA6.mono hB4.size)
        clear hw6 hA6 hB5 hp4 hB4
        have hlen := len_any b ga gh gc 5 64 _ _ _ w6 hp6 (by decide)
        have e1 : isum (mCnt none) = 0 := by decide +kernel
        rw [e1] at hlen
        go_wp2_with fail
        refine hlen.mono ?_
        rintro e w8 ⟨rfl, rfl⟩
        clear hlen hp6
        go_wp2
        go_ret
        exact ⟨rfl, hB6⟩
end Go.Proofs.Ytnlidokfmpfepaa.Pmap
