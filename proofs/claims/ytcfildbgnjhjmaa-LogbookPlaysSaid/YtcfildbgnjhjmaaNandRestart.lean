import Derived.Test.YtcfildbgnjhjmaaNandProgC
import Derived.Deep.DeepCutAuto
set_option linter.unusedVariables false
set_option linter.unusedSimpArgs false
namespace Go.Proofs.Ytcfildbgnjhjmaa.Nand
open Go.RowKit Go.Proofs.Ytcfildbgnjhjmaa.Kit

theorem eraseC_no (cut : Int) (c1 c2 c3 : Nat) (w : World) (hcut : ¬ 0 < cut) :
    Calls Try.prog 55 #[.int .i64 cut, .pointer (some ⟨c2, 0, none⟩), .pointer (some ⟨c3, 0, none⟩), .pointer (some ⟨c1, 0, none⟩)] w fun e w' => e = .returned (.tuple #[]) ∧ w' = w := by
  have h96 : ¬ (96 : Int) ≤ cut := by omega
  have hd96 : decide ((96 : Int) ≤ cut) = false := decide_eq_false h96
  go_enter Try.func55, Try.ntmps55
  go_wp2
  go_end0
  exact ⟨rfl, rfl⟩
theorem eraseC_done (F : Nat → Prop) (b gb : Nat) (pv : Nat → Value) (wv : Value) (N : NA) (i c1 c2 c3 : Nat) (cut : Int) (w : World) (h : AQ w F b gb pv wv N) (hi : i < N.bs.length) (hway : N.way = none)
    (hc1 : Blk w c1 #[.pointer (some ⟨gb, i * 6, none⟩)] 103) (hc2 : Blk w c2 #[.bool false] 4) (hc3 : Blk w c3 #[.func (.func 54) #[] #[.pointer (some ⟨c1, 0, none⟩)]] 1) (hcut : 96 ≤ cut) :
    Calls Try.prog 55 #[.int .i64 cut, .pointer (some ⟨c2, 0, none⟩), .pointer (some ⟨c3, 0, none⟩), .pointer (some ⟨c1, 0, none⟩)] w fun e w' => e = .returned (.tuple #[]) ∧ AQ w' F b gb (updV pv i (.slice none 0 0)) wv (N.setB i (N.blk i).clean) ∧ Fr (fun g => g = gb) w w' := by
  have hdone := done_any F b gb pv wv N i c1 w h hi hway hc1
  have k2 : w.cell? ⟨c2, 0, none⟩ = some (.bool false) := hc2.cell 0
  have k3 : w.cell? ⟨c3, 0, none⟩ = some (.func (.func 54) #[] #[.pointer (some ⟨c1, 0, none⟩)]) := hc3.cell 0
  have hd96 : decide ((96 : Int) ≤ cut) = true := decide_eq_true hcut
  clear h hc1 hc2 hc3
  go_enter Try.func55, Try.ntmps55
  go_wp2_with fail
  refine hdone.mono ?_
  rintro e w7 ⟨rfl, h7, hF7⟩
  clear hdone
  replace h7 := hid h7
  replace hF7 := hid hF7
  go_wp2
  go_end0
  exact ⟨rfl, h7.out, hF7.out⟩
set_option maxHeartbeats 2000000 in
theorem eraseC_half (F : Nat → Prop) (b gb : Nat) (pv : Nat → Value) (wv : Value) (N : NA) (i c1 c2 c3 : Nat) (dead : Bool) (cut : Int) (w : World) (h : AQ w F b gb pv wv N) (hi : i < N.bs.length) (hway : N.way = none)
    (hc1 : Blk w c1 #[.pointer (some ⟨gb, i * 6, none⟩)] 103) (hc2 : Blk w c2 #[.bool dead] 4) (hcut : 0 < cut) (hno : ¬ (96 ≤ cut ∧ dead = false)) :
    Calls Try.prog 55 #[.int .i64 cut, .pointer (some ⟨c2, 0, none⟩), .pointer (some ⟨c3, 0, none⟩), .pointer (some ⟨c1, 0, none⟩)] w fun e w' => e = .returned (.tuple #[]) ∧ AQ w' F b gb pv wv (N.setB i { N.blk i with half := decide (0 < (N.blk i).pages.length) }) ∧ Fr (fun g => g = gb) w w' := by
  have hne := AQ.bne h hc1 (by decide) (by decide)
  have hcg : c1 ≠ gb := fun e => hne (.inr e)
  obtain ⟨⟨Ap, cp, hpe, d0⟩, -, d2, -, -, -⟩ := h.recs i hi
  have f2 := h.row.free (i * 6 + 2)
  have k1 : w.cell? ⟨c1, 0, none⟩ = some (.pointer (some ⟨gb, i * 6, none⟩)) := hc1.cell 0
  have k2 : w.cell? ⟨c2, 0, none⟩ = some (.bool dead) := hc2.cell 0
  obtain ⟨np, hnp⟩ : ∃ n, (N.blk i).pages.length = n := ⟨_, rfl⟩
  obtain ⟨hh, hhh⟩ : ∃ n, (N.blk i).half = n := ⟨_, rfl⟩
  rw [hnp] at d0
  rw [hhh] at d2
  have hnp32 : np ≤ 32 := by have h1 := h.wf.len i hi; have h2 := h.wf.np; omega
  have H1 := hid (h.setRec i 2 (.bool (decide (0 < np))) { N.blk i with half := decide (0 < np) } hi (by decide) rfl rfl (h.wf.setB i _ hi rfl (h.wf.doom i hi)))
  have F1 := hid (fr_set (F := fun g => g = gb) w gb (i * 6 + 2) (.bool (decide (0 < np))) rfl)
  have HS := hid (by
    have e1 := Below.heap_setCell w ⟨gb, i * 6 + 2, none⟩ (.bool (decide (0 < np))) c1 hcg
    have h1 := k1
    refine ⟨?_, ?_⟩
    · simp only [World.cell?] at h1 ⊢
      rw [e1]
      exact h1
    · have := (h.setRec i 2 (.bool (decide (0 < np))) { N.blk i with half := decide (0 < np) } hi (by decide) rfl rfl (h.wf.setB i _ hi rfl (h.wf.doom i hi))).row.cell i (by rw [len_set]; exact hi) 0 (.slice Ap np cp) (by
        show (recOf (pv i) ((N.setB i _).blk i))[0]? = _
        rw [hpe, hnp]
        rfl)
      exact this : (w.setCell ⟨gb, i * 6 + 2, none⟩ (.bool (decide (0 < np)))).cell? ⟨c1, 0, none⟩ = some (.pointer (some ⟨gb, i * 6, none⟩)) ∧ (w.setCell ⟨gb, i * 6 + 2, none⟩ (.bool (decide (0 < np)))).cell? ⟨gb, i * 6, none⟩ = some (.slice Ap np cp))
  rw [hnp]
  clear h hpe hc1 hc2 hne hnp hhh
  by_cases h96 : 96 ≤ cut
  · obtain rfl : dead = true := by
      cases dead
      · exact absurd ⟨h96, rfl⟩ hno
      · rfl
    have hd96 : decide ((96 : Int) ≤ cut) = true := decide_eq_true h96
    clear hno
    go_enter Try.func55, Try.ntmps55
    go_upto_region 3 with (fail)
    refine wp_region_held_drew (S := (fun w' => w'.cell? ⟨c1, 0, none⟩ = some (.pointer (some ⟨gb, i * 6, none⟩)) ∧ w'.cell? ⟨gb, i * 6, none⟩ = some (.slice Ap np cp))) (by kernel_rfl) ?hSnewHz (fun hHeld => ?restHz)
    case hSnewHz => ((try dsimp only); exact ⟨k1, d0⟩)
    refine wpAnyH_take (i := 0) (oi := ?oiHt52x0) (v := ?vHt52x0) ?hoHt52x0 ?h1Ht52x0 ?h2Ht52x0 ?h3Ht52x0 ?hqHt52x0 (Or.inl ⟨?h4Ht52x0, ?hyHt52x0⟩) (by assumption) ?restHt52x0
    case hoHt52x0 => (simp only [List.getElem?_toArray, List.getElem?_cons_zero, List.getElem?_cons_succ]; rfl)
    case h1Ht52x0 => kernel_rfl
    case h2Ht52x0 => kernel_rfl
    case h3Ht52x0 => kernel_rfl
    case h4Ht52x0 => rfl
    case hqHt52x0 => exact fun _ _ _ h => h
    case hyHt52x0 => (intro w hSw; (try dsimp only at hSw); go_simp <;> with_reducible rfl)
    (try simp only [Act.put, List.setIfInBounds_toArray, List.set_cons_zero, List.set_cons_succ])
    refine wpAnyH_take (i := 1) (oi := ?oiHt54x1) (v := ?vHt54x1) ?hoHt54x1 ?h1Ht54x1 ?h2Ht54x1 ?h3Ht54x1 ?hqHt54x1 (Or.inl ⟨?h4Ht54x1, ?hyHt54x1⟩) (by assumption) ?restHt54x1
    case hoHt54x1 => (simp only [List.getElem?_toArray, List.getElem?_cons_zero, List.getElem?_cons_succ]; rfl)
    case h1Ht54x1 => kernel_rfl
    case h2Ht54x1 => kernel_rfl
    case h3Ht54x1 => kernel_rfl
    case h4Ht54x1 => rfl
    case hqHt54x1 => exact fun _ _ _ h => h
    case hyHt54x1 => (intro w hSw; (try dsimp only at hSw); go_simp <;> with_reducible rfl)
    (try simp only [Act.put, List.setIfInBounds_toArray, List.set_cons_zero, List.set_cons_succ])
    refine wpAnyH_take (i := 2) (oi := ?oiHt56x2) (v := ?vHt56x2) ?hoHt56x2 ?h1Ht56x2 ?h2Ht56x2 ?h3Ht56x2 ?hqHt56x2 (Or.inl ⟨?h4Ht56x2, ?hyHt56x2⟩) (by assumption) ?restHt56x2
    case hoHt56x2 => (simp only [List.getElem?_toArray, List.getElem?_cons_zero, List.getElem?_cons_succ]; rfl)
    case h1Ht56x2 => kernel_rfl
    case h2Ht56x2 => kernel_rfl
    case h3Ht56x2 => kernel_rfl
    case h4Ht56x2 => rfl
    case hqHt56x2 => exact fun _ _ _ h => h
    case hyHt56x2 => (intro w hSw; (try dsimp only at hSw); go_simp <;> with_reducible rfl)
    (try simp only [Act.put, List.setIfInBounds_toArray, List.set_cons_zero, List.set_cons_succ])
    refine wpAnyH_take (i := 3) (oi := ?oiHt58x3) (v := ?vHt58x3) ?hoHt58x3 ?h1Ht58x3 ?h2Ht58x3 ?h3Ht58x3 ?hqHt58x3 (Or.inl ⟨?h4Ht58x3, ?hyHt58x3⟩) (by assumption) ?restHt58x3
    case hoHt58x3 => (simp only [List.getElem?_toArray, List.getElem?_cons_zero, List.getElem?_cons_succ]; rfl)
    case h1Ht58x3 => kernel_rfl
    case h2Ht58x3 => kernel_rfl
    case h3Ht58x3 => kernel_rfl
    case h4Ht58x3 => rfl
    case hqHt58x3 => exact fun _ _ _ h => h
    case hyHt58x3 => (intro w hSw; (try dsimp only at hSw); go_simp <;> with_reducible rfl)
    (try simp only [Act.put, List.setIfInBounds_toArray, List.set_cons_zero, List.set_cons_succ])
    refine wpAnyH_take (i := 4) (oi := ?oiHt60x4) (v := ?vHt60x4) ?hoHt60x4 ?h1Ht60x4 ?h2Ht60x4 ?h3Ht60x4 ?hqHt60x4 (Or.inl ⟨?h4Ht60x4, ?hyHt60x4⟩) (by assumption) ?restHt60x4
    case hoHt60x4 => (simp only [List.getElem?_toArray, List.getElem?_cons_zero, List.getElem?_cons_succ]; rfl)
    case h1Ht60x4 => kernel_rfl
    case h2Ht60x4 => kernel_rfl
    case h3Ht60x4 => kernel_rfl
    case h4Ht60x4 => rfl
    case hqHt60x4 => exact fun _ _ _ h => h
    case hyHt60x4 => (intro w hSw; (try dsimp only at hSw); go_simp <;> with_reducible rfl)
    (try simp only [Act.put, List.setIfInBounds_toArray, List.set_cons_zero, List.set_cons_succ])
    refine wpAnyH_take (i := 5) (oi := ?oiHt62x5) (v := ?vHt62x5) ?hoHt62x5 ?h1Ht62x5 ?h2Ht62x5 ?h3Ht62x5 ?hqHt62x5 (Or.inl ⟨?h4Ht62x5, ?hyHt62x5⟩) (by assumption) ?restHt62x5
    case hoHt62x5 => (simp only [List.getElem?_toArray, List.getElem?_cons_zero, List.getElem?_cons_succ]; rfl)
    case h1Ht62x5 => kernel_rfl
    case h2Ht62x5 => kernel_rfl
    case h3Ht62x5 => kernel_rfl
    case h4Ht62x5 => rfl
    case hqHt62x5 => exact fun _ _ _ h => h
    case hyHt62x5 => (intro w hSw; (try dsimp only at hSw); go_simp <;> with_reducible rfl)
    (try simp only [Act.put, List.setIfInBounds_toArray, List.set_cons_zero, List.set_cons_succ])
    refine wpAnyH_take (i := 6) (oi := ?oiHt64x6) (v := ?vHt64x6) ?hoHt64x6 ?h1Ht64x6 ?h2Ht64x6 ?h3Ht64x6 ?hqHt64x6 (Or.inl ⟨?h4Ht64x6, ?hyHt64x6⟩) (by assumption) ?restHt64x6
    case hoHt64x6 => (simp only [List.getElem?_toArray, List.getElem?_cons_zero, List.getElem?_cons_succ]; rfl)
    case h1Ht64x6 => kernel_rfl
    case h2Ht64x6 => kernel_rfl
    case h3Ht64x6 => kernel_rfl
    case h4Ht64x6 => rfl
    case hqHt64x6 => exact fun _ _ _ h => h
    case hyHt64x6 => (intro w hSw; (try dsimp only at hSw); go_simp <;> with_reducible rfl)
    (try simp only [Act.put, List.setIfInBounds_toArray, List.set_cons_zero, List.set_cons_succ])
    refine wpAnyH_take (i := 7) (oi := ?oiHt66x7) (v := ?vHt66x7) ?hoHt66x7 ?h1Ht66x7 ?h2Ht66x7 ?h3Ht66x7 ?hqHt66x7 (Or.inl ⟨?h4Ht66x7, ?hyHt66x7⟩) (by assumption) ?restHt66x7
    case hoHt66x7 => (simp only [List.getElem?_toArray, List.getElem?_cons_zero, List.getElem?_cons_succ]; rfl)
    case h1Ht66x7 => kernel_rfl
    case h2Ht66x7 => kernel_rfl
    case h3Ht66x7 => kernel_rfl
    case h4Ht66x7 => rfl
    case hqHt66x7 => exact fun _ _ _ h => h
    case hyHt66x7 => (intro w hSw; (try dsimp only at hSw); go_simp <;> with_reducible rfl)
    (try simp only [Act.put, List.setIfInBounds_toArray, List.set_cons_zero, List.set_cons_succ])
    refine wpAnyH_take (i := 8) (oi := ?oiHt68x8) (v := ?vHt68x8) ?hoHt68x8 ?h1Ht68x8 ?h2Ht68x8 ?h3Ht68x8 ?hqHt68x8 (Or.inl ⟨?h4Ht68x8, ?hyHt68x8⟩) (by assumption) ?restHt68x8
    case hoHt68x8 => (simp only [List.getElem?_toArray, List.getElem?_cons_zero, List.getElem?_cons_succ]; rfl)
    case h1Ht68x8 => kernel_rfl
    case h2Ht68x8 => kernel_rfl
    case h3Ht68x8 => kernel_rfl
    case h4Ht68x8 => rfl
    case hqHt68x8 => exact fun _ _ _ h => h
    case hyHt68x8 => (intro w hSw; (try dsimp only at hSw); go_simp <;> with_reducible rfl)
    (try simp only [Act.put, List.setIfInBounds_toArray, List.set_cons_zero, List.set_cons_succ])
    refine wpAnyH_ready (rs := [9]) (by kernel_rfl) (by simp) ?_
    refine AllReadyH.cons (o := ?oiHq69) ?hoHq69 (fun K hK => ?restHq69) ?moreHq69
    case moreHq69 => exact AllReadyH.nil
    case hoHq69 => (simp only [List.getElem?_toArray, List.getElem?_cons_zero, List.getElem?_cons_succ]; rfl)
    go_simp
    refine hK.out _ _ ?hSnewHhq69 (fun hHeld => ?restHhq69)
    case hSnewHhq69 => ((try dsimp only); exact HS.out)
    clear hK K
    (try simp only [Act.put, List.setIfInBounds_toArray, List.set_cons_zero, List.set_cons_succ])
    refine wpAnyH_done (by kernel_rfl) ?_ _
    replace H1 := hid (H1.out.drewN 1)
    replace F1 := hid (F1.out.drewN 1)
    clear HS d0 d2 k1 k2 f2
    go_wp2
    go_end0
    exact ⟨rfl, H1.out, F1.out⟩
  · have hd96 : decide ((96 : Int) ≤ cut) = false := decide_eq_false h96
    clear hno
    go_enter Try.func55, Try.ntmps55
    go_upto_region 3 with (fail)
    refine wp_region_held_drew (S := (fun w' => w'.cell? ⟨c1, 0, none⟩ = some (.pointer (some ⟨gb, i * 6, none⟩)) ∧ w'.cell? ⟨gb, i * 6, none⟩ = some (.slice Ap np cp))) (by kernel_rfl) ?hSnewIz (fun hHeld => ?restIz)
    case hSnewIz => ((try dsimp only); exact ⟨k1, d0⟩)
    refine wpAnyH_take (i := 0) (oi := ?oiIt71x0) (v := ?vIt71x0) ?hoIt71x0 ?h1It71x0 ?h2It71x0 ?h3It71x0 ?hqIt71x0 (Or.inl ⟨?h4It71x0, ?hyIt71x0⟩) (by assumption) ?restIt71x0
    case hoIt71x0 => (simp only [List.getElem?_toArray, List.getElem?_cons_zero, List.getElem?_cons_succ]; rfl)
    case h1It71x0 => kernel_rfl
    case h2It71x0 => kernel_rfl
    case h3It71x0 => kernel_rfl
    case h4It71x0 => rfl
    case hqIt71x0 => exact fun _ _ _ h => h
    case hyIt71x0 => (intro w hSw; (try dsimp only at hSw); go_simp <;> with_reducible rfl)
    (try simp only [Act.put, List.setIfInBounds_toArray, List.set_cons_zero, List.set_cons_succ])
    refine wpAnyH_take (i := 1) (oi := ?oiIt73x1) (v := ?vIt73x1) ?hoIt73x1 ?h1It73x1 ?h2It73x1 ?h3It73x1 ?hqIt73x1 (Or.inl ⟨?h4It73x1, ?hyIt73x1⟩) (by assumption) ?restIt73x1
    case hoIt73x1 => (simp only [List.getElem?_toArray, List.getElem?_cons_zero, List.getElem?_cons_succ]; rfl)
    case h1It73x1 => kernel_rfl
    case h2It73x1 => kernel_rfl
    case h3It73x1 => kernel_rfl
    case h4It73x1 => rfl
    case hqIt73x1 => exact fun _ _ _ h => h
    case hyIt73x1 => (intro w hSw; (try dsimp only at hSw); go_simp <;> with_reducible rfl)
    (try simp only [Act.put, List.setIfInBounds_toArray, List.set_cons_zero, List.set_cons_succ])
    refine wpAnyH_take (i := 2) (oi := ?oiIt75x2) (v := ?vIt75x2) ?hoIt75x2 ?h1It75x2 ?h2It75x2 ?h3It75x2 ?hqIt75x2 (Or.inl ⟨?h4It75x2, ?hyIt75x2⟩) (by assumption) ?restIt75x2
    case hoIt75x2 => (simp only [List.getElem?_toArray, List.getElem?_cons_zero, List.getElem?_cons_succ]; rfl)
    case h1It75x2 => kernel_rfl
    case h2It75x2 => kernel_rfl
    case h3It75x2 => kernel_rfl
    case h4It75x2 => rfl
    case hqIt75x2 => exact fun _ _ _ h => h
    case hyIt75x2 => (intro w hSw; (try dsimp only at hSw); go_simp <;> with_reducible rfl)
    (try simp only [Act.put, List.setIfInBounds_toArray, List.set_cons_zero, List.set_cons_succ])
    refine wpAnyH_take (i := 3) (oi := ?oiIt77x3) (v := ?vIt77x3) ?hoIt77x3 ?h1It77x3 ?h2It77x3 ?h3It77x3 ?hqIt77x3 (Or.inl ⟨?h4It77x3, ?hyIt77x3⟩) (by assumption) ?restIt77x3
    case hoIt77x3 => (simp only [List.getElem?_toArray, List.getElem?_cons_zero, List.getElem?_cons_succ]; rfl)
    case h1It77x3 => kernel_rfl
    case h2It77x3 => kernel_rfl
    case h3It77x3 => kernel_rfl
    case h4It77x3 => rfl
    case hqIt77x3 => exact fun _ _ _ h => h
    case hyIt77x3 => (intro w hSw; (try dsimp only at hSw); go_simp <;> with_reducible rfl)
    (try simp only [Act.put, List.setIfInBounds_toArray, List.set_cons_zero, List.set_cons_succ])
    refine wpAnyH_take (i := 4) (oi := ?oiIt79x4) (v := ?vIt79x4) ?hoIt79x4 ?h1It79x4 ?h2It79x4 ?h3It79x4 ?hqIt79x4 (Or.inl ⟨?h4It79x4, ?hyIt79x4⟩) (by assumption) ?restIt79x4
    case hoIt79x4 => (simp only [List.getElem?_toArray, List.getElem?_cons_zero, List.getElem?_cons_succ]; rfl)
    case h1It79x4 => kernel_rfl
    case h2It79x4 => kernel_rfl
    case h3It79x4 => kernel_rfl
    case h4It79x4 => rfl
    case hqIt79x4 => exact fun _ _ _ h => h
    case hyIt79x4 => (intro w hSw; (try dsimp only at hSw); go_simp <;> with_reducible rfl)
    (try simp only [Act.put, List.setIfInBounds_toArray, List.set_cons_zero, List.set_cons_succ])
    refine wpAnyH_take (i := 5) (oi := ?oiIt81x5) (v := ?vIt81x5) ?hoIt81x5 ?h1It81x5 ?h2It81x5 ?h3It81x5 ?hqIt81x5 (Or.inl ⟨?h4It81x5, ?hyIt81x5⟩) (by assumption) ?restIt81x5
    case hoIt81x5 => (simp only [List.getElem?_toArray, List.getElem?_cons_zero, List.getElem?_cons_succ]; rfl)
    case h1It81x5 => kernel_rfl
    case h2It81x5 => kernel_rfl
    case h3It81x5 => kernel_rfl
    case h4It81x5 => rfl
    case hqIt81x5 => exact fun _ _ _ h => h
    case hyIt81x5 => (intro w hSw; (try dsimp only at hSw); go_simp <;> with_reducible rfl)
    (try simp only [Act.put, List.setIfInBounds_toArray, List.set_cons_zero, List.set_cons_succ])
    refine wpAnyH_take (i := 6) (oi := ?oiIt83x6) (v := ?vIt83x6) ?hoIt83x6 ?h1It83x6 ?h2It83x6 ?h3It83x6 ?hqIt83x6 (Or.inl ⟨?h4It83x6, ?hyIt83x6⟩) (by assumption) ?restIt83x6
    case hoIt83x6 => (simp only [List.getElem?_toArray, List.getElem?_cons_zero, List.getElem?_cons_succ]; rfl)
    case h1It83x6 => kernel_rfl
    case h2It83x6 => kernel_rfl
    case h3It83x6 => kernel_rfl
    case h4It83x6 => rfl
    case hqIt83x6 => exact fun _ _ _ h => h
    case hyIt83x6 => (intro w hSw; (try dsimp only at hSw); go_simp <;> with_reducible rfl)
    (try simp only [Act.put, List.setIfInBounds_toArray, List.set_cons_zero, List.set_cons_succ])
    refine wpAnyH_take (i := 7) (oi := ?oiIt85x7) (v := ?vIt85x7) ?hoIt85x7 ?h1It85x7 ?h2It85x7 ?h3It85x7 ?hqIt85x7 (Or.inl ⟨?h4It85x7, ?hyIt85x7⟩) (by assumption) ?restIt85x7
    case hoIt85x7 => (simp only [List.getElem?_toArray, List.getElem?_cons_zero, List.getElem?_cons_succ]; rfl)
    case h1It85x7 => kernel_rfl
    case h2It85x7 => kernel_rfl
    case h3It85x7 => kernel_rfl
    case h4It85x7 => rfl
    case hqIt85x7 => exact fun _ _ _ h => h
    case hyIt85x7 => (intro w hSw; (try dsimp only at hSw); go_simp <;> with_reducible rfl)
    (try simp only [Act.put, List.setIfInBounds_toArray, List.set_cons_zero, List.set_cons_succ])
    refine wpAnyH_take (i := 8) (oi := ?oiIt87x8) (v := ?vIt87x8) ?hoIt87x8 ?h1It87x8 ?h2It87x8 ?h3It87x8 ?hqIt87x8 (Or.inl ⟨?h4It87x8, ?hyIt87x8⟩) (by assumption) ?restIt87x8
    case hoIt87x8 => (simp only [List.getElem?_toArray, List.getElem?_cons_zero, List.getElem?_cons_succ]; rfl)
    case h1It87x8 => kernel_rfl
    case h2It87x8 => kernel_rfl
    case h3It87x8 => kernel_rfl
    case h4It87x8 => rfl
    case hqIt87x8 => exact fun _ _ _ h => h
    case hyIt87x8 => (intro w hSw; (try dsimp only at hSw); go_simp <;> with_reducible rfl)
    (try simp only [Act.put, List.setIfInBounds_toArray, List.set_cons_zero, List.set_cons_succ])
    refine wpAnyH_ready (rs := [9]) (by kernel_rfl) (by simp) ?_
    refine AllReadyH.cons (o := ?oiIq88) ?hoIq88 (fun K hK => ?restIq88) ?moreIq88
    case moreIq88 => exact AllReadyH.nil
    case hoIq88 => (simp only [List.getElem?_toArray, List.getElem?_cons_zero, List.getElem?_cons_succ]; rfl)
    go_simp
    refine hK.out _ _ ?hSnewIhq88 (fun hHeld => ?restIhq88)
    case hSnewIhq88 => ((try dsimp only); exact HS.out)
    clear hK K
    (try simp only [Act.put, List.setIfInBounds_toArray, List.set_cons_zero, List.set_cons_succ])
    refine wpAnyH_done (by kernel_rfl) ?_ _
    replace H1 := hid (H1.out.drewN 1)
    replace F1 := hid (F1.out.drewN 1)
    clear HS d0 d2 k1 k2 f2
    go_wp2
    go_end0
    exact ⟨rfl, H1.out, F1.out⟩

theorem AQ.grown {w' : World} {F : Nat → Prop} {b gb : Nat} {pv : Nat → Value} {wv : Value} {N : NA} (h : AQ w' F b gb pv wv N) (w : World) : AQ w' (grow F w w') b gb pv wv N :=
  h.mono (fun g hg => .inl hg) (fun g hg => by rcases hg with hg | hg; exact h.low g hg; exact hg.2)
def woke (N : NA) : NA := { N with way := none, off := false, armed := 0, fence := 0, boots := wrap64 (N.boots + 1) }
theorem neq_func (f : Fn) (a c : Array Value) (w : World) : (binOp .neq 94 (.func f a c) .nilFunc).run Try.prog w = .ok (.bool true) w := by kernel_rfl
theorem neq_nil (w : World) : (binOp .neq 94 .nilFunc .nilFunc).run Try.prog w = .ok (.bool false) w := by kernel_rfl
theorem fall_boots (N : NA) (cut : Int) : (N.fall cut).boots = N.boots := by
  unfold NA.fall
  split
  · rfl
  · split
    · split <;> rfl
    · split
      · rfl
      · split <;> rfl
theorem restart_eq (N M : NA) (cut : Int) (h : { N.fall cut with way := none } = M) : N.restart cut = woke M := by
  rw [← h]
  unfold woke NA.restart
  simp only
  rw [fall_boots]
theorem woke_wf {M : NA} (h : M.Wf) : (woke M).Wf := ⟨h.nb, h.np, h.len, (fun u hu => nomatch hu), Nat.zero_le _, h.doom⟩
set_option maxRecDepth 100000 in
set_option maxHeartbeats 8000000 in
theorem restart_any (F : Nat → Prop) (b : Nat) (N : NA) (cut : Int) (w : World) (h : Arr w F b N) :
    Calls Try.prog 61 #[.pointer (some ⟨b, 0, none⟩), .int .i64 cut] w fun e w' => e = .returned (.int .i64 0) ∧ Arr w' (grow F w w') b (N.restart cut) ∧ Fr F w w' := by
  obtain ⟨gb, pv, wv, h⟩ := h
  have h0 := h.toAQ.unway
  have hw := h.way
  have hwf := h.wf
  have k7 : w.cell? ⟨b, 7, none⟩ = some wv := h.hd.cell 7
  have Hinb := hid h.inb
  have Hing := hid h.ing
  have Hlow := hid h.low
  clear h
  have H0 := hid h0
  clear h0
  obtain ⟨R, hR⟩ : ∃ R, N.restart cut = R := ⟨_, rfl⟩
  have HR := hid hR
  rw [hR]
  clear hR
  cases hway : N.way with
  | none =>
    rw [hway] at hw
    obtain rfl : wv = .nilFunc := hw
    have Hq := hid (H0.out.grown w)
    have HF := hid (Fr.refl F w)
    have HM := hid (show R = woke { N with way := none } from by
      rw [← HR.out]
      refine restart_eq N _ cut ?_
      unfold NA.fall
      rw [hway])
    have Hwy := hid (show ({ N with way := none } : NA).way = none from rfl)
    clear hway hwf H0
    generalize ({ N with way := none } : NA) = M at *
    have hnf := neq_func
    have hnn := neq_nil
    go_enter Try.func61, Try.ntmps61
    go_upto_region 5 with (fail)
    clear k7
    have e7 := Hq.out.hd.cell 7
    have e2 : w.cell? ⟨b, 2, none⟩ = some (.int .u64 M.fence) := Hq.out.hd.cell 2
    have e3 : w.cell? ⟨b, 3, none⟩ = some (.int .i64 M.boots) := Hq.out.hd.cell 3
    have e4 : w.cell? ⟨b, 4, none⟩ = some (.int .i64 (M.armed : Int)) := Hq.out.hd.cell 4
    have e5 : w.cell? ⟨b, 5, none⟩ = some (.bool M.off) := Hq.out.hd.cell 5
    replace e7 := show w.cell? ⟨b, 7, none⟩ = some _ from e7
    have f7 := Hq.out.hd.free 7
    have f5 := Hq.out.hd.free 5
    have f4 := Hq.out.hd.free 4
    have f3 := Hq.out.hd.free 3
    have f2 := Hq.out.hd.free 2
    have wfx : ∀ M' : NA, M'.bs = M.bs → M'.pages = M.pages → M'.way = none → M'.armed ≤ M.armed → M'.Wf := fun M' h1 h2 h3 h4 => ⟨by rw [h1]; exact Hq.out.wf.nb, by rw [h2]; exact Hq.out.wf.np, fun j hj => by unfold NA.blk; rw [h1, h2]; rw [h1] at hj; exact Hq.out.wf.len j hj, (fun u hu => by rw [h3] at hu; cases hu), Nat.le_trans h4 Hq.out.wf.armed, fun j hj => by unfold NA.blk; rw [h1]; rw [h1] at hj; exact Hq.out.wf.doom j hj⟩
    have Hq5 := hid (((((Hq.out.setHd 7 .nilFunc M .nilFunc rfl rfl Hq.out.wf).setHd 5 (.bool false) { M with off := false } .nilFunc rfl rfl (wfx _ rfl rfl Hwy.out (Nat.le_refl _))).setHd 4 (.int .i64 0) { M with off := false, armed := 0 } .nilFunc rfl rfl (wfx _ rfl rfl Hwy.out (Nat.zero_le _))).setHd 2 (.int .u64 0) { M with off := false, armed := 0, fence := 0 } .nilFunc rfl rfl (wfx _ rfl rfl Hwy.out (Nat.zero_le _))).setHd 3 (.int .i64 (wrap64 (M.boots + 1))) (woke M) .nilFunc (by unfold hdOf woke; rfl) rfl (woke_wf Hq.out.wf))
    have HF5 := hid (((((HF.out.set b 7 .nilFunc (.inl Hinb.out)).set b 5 (.bool false) (.inl Hinb.out)).set b 4 (.int .i64 0) (.inl Hinb.out)).set b 2 (.int .u64 0) (.inl Hinb.out)).set b 3 (.int .i64 (wrap64 (M.boots + 1))) (.inl Hinb.out))
    clear wfx
    go_wp2
    go_ret
    refine ⟨rfl, ?_, HF5.out⟩
    rw [HM.out]
    refine ⟨gb, pv, .nilFunc, AQ.toAR ?_ rfl⟩
    rw [grow_size (size_set ..), grow_size (size_set ..), grow_size (size_set ..), grow_size (size_set ..), grow_size (size_set ..)]
    exact Hq5.out
  | some u =>
    obtain ⟨hoff, hui, hlen⟩ := hwf.way u hway
    have hnot : wv ≠ .nilFunc := by
      rw [hway] at hw
      unfold WayR at hw
      simp only at hw
      split at hw
      · obtain ⟨_, _, _, rfl, _⟩ := hw
        exact fun h => nomatch h
      · obtain ⟨_, _, _, rfl, _⟩ := hw
        exact fun h => nomatch h
    obtain ⟨i, uq, ud⟩ := u
    cases uq with
    | some q =>
      rw [hway] at hw
      obtain ⟨c1, c2, v, rfl, b1, b2, f1, f2, hq, hb⟩ := hw
      have hlen' := hlen q rfl
      by_cases hcut : 0 < cut
      · have hcall := progC_yes F b gb pv _ { N with way := none } i c1 c2 v q cut w H0.out hui rfl hlen' b1 b2 hq hb hcut
        have HM := hid (show R = woke (({ N with way := none } : NA).setB i ((({ N with way := none } : NA).blk i).add (tornL q cut))) from by
          rw [← HR.out]
          refine restart_eq N _ cut ?_
          unfold NA.fall
          rw [hway]
          simp only
          rw [if_pos hcut]
          rfl)
        clear hway hwf H0 hnot b1 b2 hb hlen hlen'
        have hnf := neq_func
        have hnn := neq_nil
        go_enter Try.func61, Try.ntmps61
        go_wp2_with fail
        refine hcall.mono ?_
        rintro e w1 ⟨rfl, ⟨v5, hq1⟩, hf1⟩
        clear hcall k7
        have Hq := hid hq1
        have HF := hid hf1
        have Hwy := hid (show (({ N with way := none } : NA).setB i ((({ N with way := none } : NA).blk i).add (tornL q cut))).way = none from rfl)
        clear hq1 hf1
        generalize (({ N with way := none } : NA).setB i ((({ N with way := none } : NA).blk i).add (tornL q cut))) = M at *
        go_upto_region 5 with (fail)
        have e7 := Hq.out.hd.cell 7
        have e2 : w1.cell? ⟨b, 2, none⟩ = some (.int .u64 M.fence) := Hq.out.hd.cell 2
        have e3 : w1.cell? ⟨b, 3, none⟩ = some (.int .i64 M.boots) := Hq.out.hd.cell 3
        have e4 : w1.cell? ⟨b, 4, none⟩ = some (.int .i64 (M.armed : Int)) := Hq.out.hd.cell 4
        have e5 : w1.cell? ⟨b, 5, none⟩ = some (.bool M.off) := Hq.out.hd.cell 5
        replace e7 := show w1.cell? ⟨b, 7, none⟩ = some _ from e7
        have f7 := Hq.out.hd.free 7
        have f5 := Hq.out.hd.free 5
        have f4 := Hq.out.hd.free 4
        have f3 := Hq.out.hd.free 3
        have f2 := Hq.out.hd.free 2
        have wfx : ∀ M' : NA, M'.bs = M.bs → M'.pages = M.pages → M'.way = none → M'.armed ≤ M.armed → M'.Wf := fun M' h1 h2 h3 h4 => ⟨by rw [h1]; exact Hq.out.wf.nb, by rw [h2]; exact Hq.out.wf.np, fun j hj => by unfold NA.blk; rw [h1, h2]; rw [h1] at hj; exact Hq.out.wf.len j hj, (fun u hu => by rw [h3] at hu; cases hu), Nat.le_trans h4 Hq.out.wf.armed, fun j hj => by unfold NA.blk; rw [h1]; rw [h1] at hj; exact Hq.out.wf.doom j hj⟩
        have Hq5 := hid (((((Hq.out.setHd 7 .nilFunc M .nilFunc rfl rfl Hq.out.wf).setHd 5 (.bool false) { M with off := false } .nilFunc rfl rfl (wfx _ rfl rfl Hwy.out (Nat.le_refl _))).setHd 4 (.int .i64 0) { M with off := false, armed := 0 } .nilFunc rfl rfl (wfx _ rfl rfl Hwy.out (Nat.zero_le _))).setHd 2 (.int .u64 0) { M with off := false, armed := 0, fence := 0 } .nilFunc rfl rfl (wfx _ rfl rfl Hwy.out (Nat.zero_le _))).setHd 3 (.int .i64 (wrap64 (M.boots + 1))) (woke M) .nilFunc (by unfold hdOf woke; rfl) rfl (woke_wf Hq.out.wf))
        have HF5 := hid (((((HF.out.set b 7 .nilFunc (.inl Hinb.out)).set b 5 (.bool false) (.inl Hinb.out)).set b 4 (.int .i64 0) (.inl Hinb.out)).set b 2 (.int .u64 0) (.inl Hinb.out)).set b 3 (.int .i64 (wrap64 (M.boots + 1))) (.inl Hinb.out))
        clear wfx
        go_wp2
        go_ret
        refine ⟨rfl, ?_, HF5.out⟩
        rw [HM.out]
        refine ⟨gb, (updV pv i v5), .nilFunc, AQ.toAR ?_ rfl⟩
        rw [grow_size (size_set ..), grow_size (size_set ..), grow_size (size_set ..), grow_size (size_set ..), grow_size (size_set ..)]
        exact Hq5.out
      · have hcall := progC_no cut c1 c2 w hcut
        have HM := hid (show R = woke { N with way := none } from by
          rw [← HR.out]
          refine restart_eq N _ cut ?_
          unfold NA.fall
          rw [hway]
          simp only
          rw [if_neg hcut])
        have Hq := hid (H0.out.grown w)
        have HF := hid (Fr.refl F w)
        have Hwy := hid (show ({ N with way := none } : NA).way = none from rfl)
        clear hway hwf H0 hnot b1 b2 hb hlen hlen'
        generalize ({ N with way := none } : NA) = M at *
        have hnf := neq_func
        have hnn := neq_nil
        go_enter Try.func61, Try.ntmps61
        go_wp2_with fail
        refine hcall.mono ?_
        rintro e w ⟨rfl, rfl⟩
        clear hcall k7
        go_upto_region 5 with (fail)
        have e7 := Hq.out.hd.cell 7
        have e2 : w.cell? ⟨b, 2, none⟩ = some (.int .u64 M.fence) := Hq.out.hd.cell 2
        have e3 : w.cell? ⟨b, 3, none⟩ = some (.int .i64 M.boots) := Hq.out.hd.cell 3
        have e4 : w.cell? ⟨b, 4, none⟩ = some (.int .i64 (M.armed : Int)) := Hq.out.hd.cell 4
        have e5 : w.cell? ⟨b, 5, none⟩ = some (.bool M.off) := Hq.out.hd.cell 5
        replace e7 := show w.cell? ⟨b, 7, none⟩ = some _ from e7
        have f7 := Hq.out.hd.free 7
        have f5 := Hq.out.hd.free 5
        have f4 := Hq.out.hd.free 4
        have f3 := Hq.out.hd.free 3
        have f2 := Hq.out.hd.free 2
        have wfx : ∀ M' : NA, M'.bs = M.bs → M'.pages = M.pages → M'.way = none → M'.armed ≤ M.armed → M'.Wf := fun M' h1 h2 h3 h4 => ⟨by rw [h1]; exact Hq.out.wf.nb, by rw [h2]; exact Hq.out.wf.np, fun j hj => by unfold NA.blk; rw [h1, h2]; rw [h1] at hj; exact Hq.out.wf.len j hj, (fun u hu => by rw [h3] at hu; cases hu), Nat.le_trans h4 Hq.out.wf.armed, fun j hj => by unfold NA.blk; rw [h1]; rw [h1] at hj; exact Hq.out.wf.doom j hj⟩
        have Hq5 := hid (((((Hq.out.setHd 7 .nilFunc M .nilFunc rfl rfl Hq.out.wf).setHd 5 (.bool false) { M with off := false } .nilFunc rfl rfl (wfx _ rfl rfl Hwy.out (Nat.le_refl _))).setHd 4 (.int .i64 0) { M with off := false, armed := 0 } .nilFunc rfl rfl (wfx _ rfl rfl Hwy.out (Nat.zero_le _))).setHd 2 (.int .u64 0) { M with off := false, armed := 0, fence := 0 } .nilFunc rfl rfl (wfx _ rfl rfl Hwy.out (Nat.zero_le _))).setHd 3 (.int .i64 (wrap64 (M.boots + 1))) (woke M) .nilFunc (by unfold hdOf woke; rfl) rfl (woke_wf Hq.out.wf))
        have HF5 := hid (((((HF.out.set b 7 .nilFunc (.inl Hinb.out)).set b 5 (.bool false) (.inl Hinb.out)).set b 4 (.int .i64 0) (.inl Hinb.out)).set b 2 (.int .u64 0) (.inl Hinb.out)).set b 3 (.int .i64 (wrap64 (M.boots + 1))) (.inl Hinb.out))
        clear wfx
        go_wp2
        go_ret
        refine ⟨rfl, ?_, HF5.out⟩
        rw [HM.out]
        refine ⟨gb, pv, .nilFunc, AQ.toAR ?_ rfl⟩
        rw [grow_size (size_set ..), grow_size (size_set ..), grow_size (size_set ..), grow_size (size_set ..), grow_size (size_set ..)]
        exact Hq5.out
    | none =>
      rw [hway] at hw
      obtain ⟨c1, c2, c3, rfl, b1, b2, b3, f1, f2, f3⟩ := hw
      by_cases hcut : 0 < cut
      · by_cases hdone : 96 ≤ cut ∧ ud = false
        · obtain ⟨h96, rfl⟩ := hdone
          have hcall := eraseC_done F b gb pv _ { N with way := none } i c1 c2 c3 cut w H0.out hui rfl b1 b2 b3 h96
          have HM := hid (show R = woke (({ N with way := none } : NA).setB i (({ N with way := none } : NA).blk i).clean) from by
            rw [← HR.out]
            refine restart_eq N _ cut ?_
            unfold NA.fall
            rw [hway]
            simp only
            rw [if_pos ⟨h96, trivial⟩]
            rfl)
          clear hway hwf H0 hnot b1 b2 b3 hlen
          have hnf := neq_func
          have hnn := neq_nil
          go_enter Try.func61, Try.ntmps61
          go_wp2_with fail
          refine hcall.mono ?_
          rintro e w1 ⟨rfl, hq1, hf1⟩
          clear hcall k7
          have Hq := hid (hq1.grown w)
          have HF := hid (hf1.mono (fun g _ hg => (show F g from by rw [hg]; exact Hing.out)))
          have Hwy := hid (show (({ N with way := none } : NA).setB i (({ N with way := none } : NA).blk i).clean).way = none from rfl)
          clear hq1 hf1
          generalize (({ N with way := none } : NA).setB i (({ N with way := none } : NA).blk i).clean) = M at *
          go_upto_region 5 with (fail)
          have e7 := Hq.out.hd.cell 7
          have e2 : w1.cell? ⟨b, 2, none⟩ = some (.int .u64 M.fence) := Hq.out.hd.cell 2
          have e3 : w1.cell? ⟨b, 3, none⟩ = some (.int .i64 M.boots) := Hq.out.hd.cell 3
          have e4 : w1.cell? ⟨b, 4, none⟩ = some (.int .i64 (M.armed : Int)) := Hq.out.hd.cell 4
          have e5 : w1.cell? ⟨b, 5, none⟩ = some (.bool M.off) := Hq.out.hd.cell 5
          replace e7 := show w1.cell? ⟨b, 7, none⟩ = some _ from e7
          have f7 := Hq.out.hd.free 7
          have f5 := Hq.out.hd.free 5
          have f4 := Hq.out.hd.free 4
          have f3 := Hq.out.hd.free 3
          have f2 := Hq.out.hd.free 2
          have wfx : ∀ M' : NA, M'.bs = M.bs → M'.pages = M.pages → M'.way = none → M'.armed ≤ M.armed → M'.Wf := fun M' h1 h2 h3 h4 => ⟨by rw [h1]; exact Hq.out.wf.nb, by rw [h2]; exact Hq.out.wf.np, fun j hj => by unfold NA.blk; rw [h1, h2]; rw [h1] at hj; exact Hq.out.wf.len j hj, (fun u hu => by rw [h3] at hu; cases hu), Nat.le_trans h4 Hq.out.wf.armed, fun j hj => by unfold NA.blk; rw [h1]; rw [h1] at hj; exact Hq.out.wf.doom j hj⟩
          have Hq5 := hid (((((Hq.out.setHd 7 .nilFunc M .nilFunc rfl rfl Hq.out.wf).setHd 5 (.bool false) { M with off := false } .nilFunc rfl rfl (wfx _ rfl rfl Hwy.out (Nat.le_refl _))).setHd 4 (.int .i64 0) { M with off := false, armed := 0 } .nilFunc rfl rfl (wfx _ rfl rfl Hwy.out (Nat.zero_le _))).setHd 2 (.int .u64 0) { M with off := false, armed := 0, fence := 0 } .nilFunc rfl rfl (wfx _ rfl rfl Hwy.out (Nat.zero_le _))).setHd 3 (.int .i64 (wrap64 (M.boots + 1))) (woke M) .nilFunc (by unfold hdOf woke; rfl) rfl (woke_wf Hq.out.wf))
          have HF5 := hid (((((HF.out.set b 7 .nilFunc (.inl Hinb.out)).set b 5 (.bool false) (.inl Hinb.out)).set b 4 (.int .i64 0) (.inl Hinb.out)).set b 2 (.int .u64 0) (.inl Hinb.out)).set b 3 (.int .i64 (wrap64 (M.boots + 1))) (.inl Hinb.out))
          clear wfx
          go_wp2
          go_ret
          refine ⟨rfl, ?_, HF5.out⟩
          rw [HM.out]
          refine ⟨gb, (updV pv i (.slice none 0 0)), .nilFunc, AQ.toAR ?_ rfl⟩
          rw [grow_size (size_set ..), grow_size (size_set ..), grow_size (size_set ..), grow_size (size_set ..), grow_size (size_set ..)]
          exact Hq5.out
        · have hcall := eraseC_half F b gb pv _ { N with way := none } i c1 c2 c3 ud cut w H0.out hui rfl b1 b2 hcut hdone
          have HM := hid (show R = woke (({ N with way := none } : NA).setB i { ({ N with way := none } : NA).blk i with half := decide (0 < (({ N with way := none } : NA).blk i).pages.length) }) from by
            rw [← HR.out]
            refine restart_eq N _ cut ?_
            unfold NA.fall
            rw [hway]
            simp only
            rw [if_neg hdone, if_pos hcut]
            rfl)
          clear hway hwf H0 hnot b1 b2 b3 hlen
          have hnf := neq_func
          have hnn := neq_nil
          go_enter Try.func61, Try.ntmps61
          go_wp2_with fail
          refine hcall.mono ?_
          rintro e w1 ⟨rfl, hq1, hf1⟩
          clear hcall k7
          have Hq := hid (hq1.grown w)
          have HF := hid (hf1.mono (fun g _ hg => (show F g from by rw [hg]; exact Hing.out)))
          have Hwy := hid (show (({ N with way := none } : NA).setB i { ({ N with way := none } : NA).blk i with half := decide (0 < (({ N with way := none } : NA).blk i).pages.length) }).way = none from rfl)
          clear hq1 hf1
          generalize (({ N with way := none } : NA).setB i { ({ N with way := none } : NA).blk i with half := decide (0 < (({ N with way := none } : NA).blk i).pages.length) }) = M at *
          go_upto_region 5 with (fail)
          have e7 := Hq.out.hd.cell 7
          have e2 : w1.cell? ⟨b, 2, none⟩ = some (.int .u64 M.fence) := Hq.out.hd.cell 2
          have e3 : w1.cell? ⟨b, 3, none⟩ = some (.int .i64 M.boots) := Hq.out.hd.cell 3
          have e4 : w1.cell? ⟨b, 4, none⟩ = some (.int .i64 (M.armed : Int)) := Hq.out.hd.cell 4
          have e5 : w1.cell? ⟨b, 5, none⟩ = some (.bool M.off) := Hq.out.hd.cell 5
          replace e7 := show w1.cell? ⟨b, 7, none⟩ = some _ from e7
          have f7 := Hq.out.hd.free 7
          have f5 := Hq.out.hd.free 5
          have f4 := Hq.out.hd.free 4
          have f3 := Hq.out.hd.free 3
          have f2 := Hq.out.hd.free 2
          have wfx : ∀ M' : NA, M'.bs = M.bs → M'.pages = M.pages → M'.way = none → M'.armed ≤ M.armed → M'.Wf := fun M' h1 h2 h3 h4 => ⟨by rw [h1]; exact Hq.out.wf.nb, by rw [h2]; exact Hq.out.wf.np, fun j hj => by unfold NA.blk; rw [h1, h2]; rw [h1] at hj; exact Hq.out.wf.len j hj, (fun u hu => by rw [h3] at hu; cases hu), Nat.le_trans h4 Hq.out.wf.armed, fun j hj => by unfold NA.blk; rw [h1]; rw [h1] at hj; exact Hq.out.wf.doom j hj⟩
          have Hq5 := hid (((((Hq.out.setHd 7 .nilFunc M .nilFunc rfl rfl Hq.out.wf).setHd 5 (.bool false) { M with off := false } .nilFunc rfl rfl (wfx _ rfl rfl Hwy.out (Nat.le_refl _))).setHd 4 (.int .i64 0) { M with off := false, armed := 0 } .nilFunc rfl rfl (wfx _ rfl rfl Hwy.out (Nat.zero_le _))).setHd 2 (.int .u64 0) { M with off := false, armed := 0, fence := 0 } .nilFunc rfl rfl (wfx _ rfl rfl Hwy.out (Nat.zero_le _))).setHd 3 (.int .i64 (wrap64 (M.boots + 1))) (woke M) .nilFunc (by unfold hdOf woke; rfl) rfl (woke_wf Hq.out.wf))
          have HF5 := hid (((((HF.out.set b 7 .nilFunc (.inl Hinb.out)).set b 5 (.bool false) (.inl Hinb.out)).set b 4 (.int .i64 0) (.inl Hinb.out)).set b 2 (.int .u64 0) (.inl Hinb.out)).set b 3 (.int .i64 (wrap64 (M.boots + 1))) (.inl Hinb.out))
          clear wfx
          go_wp2
          go_ret
          refine ⟨rfl, ?_, HF5.out⟩
          rw [HM.out]
          refine ⟨gb, pv, .nilFunc, AQ.toAR ?_ rfl⟩
          rw [grow_size (size_set ..), grow_size (size_set ..), grow_size (size_set ..), grow_size (size_set ..), grow_size (size_set ..)]
          exact Hq5.out
      · have hcall := eraseC_no cut c1 c2 c3 w hcut
        have HM := hid (show R = woke { N with way := none } from by
          rw [← HR.out]
          refine restart_eq N _ cut ?_
          unfold NA.fall
          rw [hway]
          simp only
          rw [if_neg (by omega), if_neg hcut])
        have Hq := hid (H0.out.grown w)
        have HF := hid (Fr.refl F w)
        have Hwy := hid (show ({ N with way := none } : NA).way = none from rfl)
        clear hway hwf H0 hnot b1 b2 b3 hlen
        generalize ({ N with way := none } : NA) = M at *
        have hnf := neq_func
        have hnn := neq_nil
        go_enter Try.func61, Try.ntmps61
        go_wp2_with fail
        refine hcall.mono ?_
        rintro e w ⟨rfl, rfl⟩
        clear hcall k7
        go_upto_region 5 with (fail)
        have e7 := Hq.out.hd.cell 7
        have e2 : w.cell? ⟨b, 2, none⟩ = some (.int .u64 M.fence) := Hq.out.hd.cell 2
        have e3 : w.cell? ⟨b, 3, none⟩ = some (.int .i64 M.boots) := Hq.out.hd.cell 3
        have e4 : w.cell? ⟨b, 4, none⟩ = some (.int .i64 (M.armed : Int)) := Hq.out.hd.cell 4
        have e5 : w.cell? ⟨b, 5, none⟩ = some (.bool M.off) := Hq.out.hd.cell 5
        replace e7 := show w.cell? ⟨b, 7, none⟩ = some _ from e7
        have f7 := Hq.out.hd.free 7
        have f5 := Hq.out.hd.free 5
        have f4 := Hq.out.hd.free 4
        have f3 := Hq.out.hd.free 3
        have f2 := Hq.out.hd.free 2
        have wfx : ∀ M' : NA, M'.bs = M.bs → M'.pages = M.pages → M'.way = none → M'.armed ≤ M.armed → M'.Wf := fun M' h1 h2 h3 h4 => ⟨by rw [h1]; exact Hq.out.wf.nb, by rw [h2]; exact Hq.out.wf.np, fun j hj => by unfold NA.blk; rw [h1, h2]; rw [h1] at hj; exact Hq.out.wf.len j hj, (fun u hu => by rw [h3] at hu; cases hu), Nat.le_trans h4 Hq.out.wf.armed, fun j hj => by unfold NA.blk; rw [h1]; rw [h1] at hj; exact Hq.out.wf.doom j hj⟩
        have Hq5 := hid (((((Hq.out.setHd 7 .nilFunc M .nilFunc rfl rfl Hq.out.wf).setHd 5 (.bool false) { M with off := false } .nilFunc rfl rfl (wfx _ rfl rfl Hwy.out (Nat.le_refl _))).setHd 4 (.int .i64 0) { M with off := false, armed := 0 } .nilFunc rfl rfl (wfx _ rfl rfl Hwy.out (Nat.zero_le _))).setHd 2 (.int .u64 0) { M with off := false, armed := 0, fence := 0 } .nilFunc rfl rfl (wfx _ rfl rfl Hwy.out (Nat.zero_le _))).setHd 3 (.int .i64 (wrap64 (M.boots + 1))) (woke M) .nilFunc (by unfold hdOf woke; rfl) rfl (woke_wf Hq.out.wf))
        have HF5 := hid (((((HF.out.set b 7 .nilFunc (.inl Hinb.out)).set b 5 (.bool false) (.inl Hinb.out)).set b 4 (.int .i64 0) (.inl Hinb.out)).set b 2 (.int .u64 0) (.inl Hinb.out)).set b 3 (.int .i64 (wrap64 (M.boots + 1))) (.inl Hinb.out))
        clear wfx
        go_wp2
        go_ret
        refine ⟨rfl, ?_, HF5.out⟩
        rw [HM.out]
        refine ⟨gb, pv, .nilFunc, AQ.toAR ?_ rfl⟩
        rw [grow_size (size_set ..), grow_size (size_set ..), grow_size (size_set ..), grow_size (size_set ..), grow_size (size_set ..)]
        exact Hq5.out
end Go.Proofs.Ytcfildbgnjhjmaa.Nand
