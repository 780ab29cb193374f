import Derived.Test.YtcfildbgnjhjmaaNandErase
set_option linter.unusedVariables false
set_option linter.unusedSimpArgs false
namespace Go.Proofs.Ytcfildbgnjhjmaa.Nand
open Go.RowKit Go.Proofs.Ytcfildbgnjhjmaa.Kit

set_option maxRecDepth 100000 in
set_option maxHeartbeats 8000000 in
theorem progC_yes (F : Nat → Prop) (b gb : Nat) (pv : Nat → Value) (wv : Value) (N : NA) (i c1 c2 : Nat) (u : Value) (q : List Int) (cut : Int) (w : World) (h : AQ w F b gb pv wv N) (hi : i < N.bs.length) (hway : N.way = none) (hlen : (N.blk i).pages.length < N.pages)
    (hc1 : Blk w c1 #[.pointer (some ⟨gb, i * 6, none⟩)] 103) (hc2 : Blk w c2 #[u] 39) (hq : q.length = 96) (hu : ByteR w F u q) (hcut : 0 < cut) :
    Calls Try.prog 43 #[.int .i64 cut, .pointer (some ⟨c1, 0, none⟩), .pointer (some ⟨c2, 0, none⟩)] w fun e w' => e = .returned (.tuple #[]) ∧ (∃ v5, AQ w' (grow F w w') b gb (updV pv i v5) wv (N.setB i ((N.blk i).add (tornL q cut)))) ∧ Fr F w w' := by
  obtain ⟨⟨Ap, cp, hpe, hcp⟩, -, -, -, -, -⟩ := h.recs i hi
  obtain ⟨xs, ho1, hf1, hp1⟩ := h.pgs i hi
  obtain ⟨np, hnpl⟩ : ∃ n, (N.blk i).pages.length = n := ⟨_, rfl⟩
  rw [hnpl] at hpe hcp ho1 hlen
  have hnp := h.wf.np
  have hnp1 : np ≤ 1000 := by omega
  rw [hpe] at ho1 hf1
  have Ho := hid ho1
  have hne := AQ.bne h hc1 (by decide) (by decide)
  have hcg : c1 ≠ gb := fun e => hne (.inr e)
  have hinb := h.inb
  have hing := h.ing
  have hlow := h.low
  obtain ⟨Au, cu, hue⟩ := own_slice hu.1
  rw [hq] at hue
  subst hue
  have hu0 := hu.1
  rw [hq] at hu0
  have Hz4 := hid (own_reads (k := .u8) hu0 hu.2.1)
  have hrowlt : ∀ g, (Value.slice Ap np cp).ownBlock = some g → g < w.heap.size ∧ g ≠ c1 ∧ g ≠ gb := by
    intro g hg
    obtain ⟨cur, hc, hlt⟩ := own_block ho1 g hg
    refine ⟨hlt, fun e => ?_, fun e => ?_⟩
    · subst e
      unfold Blk at hc1
      rw [hc1] at hc
      injection hc with hc
      injection hc with _ hc
      revert hc
      decide
    · subst e
      exact AQ.bne h (show Blk w g cur 39 from hc) (by decide) (by decide) (.inr rfl)
  have HC := hid (fun (W : World) (hW : Fr (fun g => (Value.slice Ap np cp).ownBlock = some g) w W) => (by
    have hg := hW.block gb (h.low gb hing) (fun e => (hrowlt gb e).2.2 rfl)
    have hr := h.row.keep hg
    refine ⟨?_, hr.free _⟩
    simp only [World.cell?, hg]
    exact hcp : W.cell? ⟨gb, i * 6, none⟩ = some (.slice Ap np cp) ∧ W.frozen? ⟨gb, i * 6, none⟩ = false))
  have HS := hid (fun (W : World) (hW : Fr (fun g => (Value.slice Ap np cp).ownBlock = some g) w W) => (by
    have h1 : Blk W c1 _ _ := (hW.block c1 hc1.lt (fun e => (hrowlt c1 e).2.1 rfl)).trans hc1
    exact h1.cell 0 : W.cell? ⟨c1, 0, none⟩ = some (.pointer (some ⟨gb, i * 6, none⟩))))
  have HS2 := hid (fun (W : World) (v : Value) (o : Nat) (hW : W.cell? ⟨c1, 0, none⟩ = some (.pointer (some ⟨gb, i * 6, none⟩))) => (by
    have e1 := Below.heap_setCell W ⟨gb, o, none⟩ v c1 hcg
    have h1 := hW
    simp only [World.cell?] at h1 ⊢
    rw [e1]
    exact h1 : (W.setCell ⟨gb, o, none⟩ v).cell? ⟨c1, 0, none⟩ = some (.pointer (some ⟨gb, i * 6, none⟩))))
  have HK2 := hid (fun (W : World) (hW : Below w.heap.size w W) => ((hc2.later hW).cell 0 : W.cell? ⟨c2, 0, none⟩ = some (.slice Au 96 cu)))
  have hd0 : Fr (fun g => (Value.slice Ap np cp).ownBlock = some g) w w.drew := ⟨rfl, rfl, rfl, Nat.le_refl _, fun _ _ _ => rfl⟩
  have hB0 : Below w.heap.size w w.drew := below_drewN (Below.refl _ _) 1
  have HQ := hid (show ∀ (At : Option Addr) (ct : Nat) (W1 : World), Below w.heap.size w W1 → W1.ownsRow w.heap.size 5 1 (.slice At 96 ct) 96 ((tornL q cut).map (Value.int .u8)) → ∀ (g6 cap6 : Nat) (w6 : World), w6.ownsRow 0 39 1 (.slice (some ⟨g6, 0, none⟩) (np + 1) cap6) (np + 1) (xs ++ [.slice At 96 ct]) → (W1.alloc (.cells #[.slice At 96 ct] 39)).grownBy w6 (Value.slice Ap np cp).ownBlock → ((Value.slice Ap np cp).ownBlock = some g6 ∨ g6 = (W1.alloc (.cells #[.slice At 96 ct] 39)).heap.size) →
      (∃ v5, AQ (w6.setCell ⟨gb, i * 6, none⟩ (.slice (some ⟨g6, 0, none⟩) (np + 1) cap6)) (grow F w (w6.setCell ⟨gb, i * 6, none⟩ (.slice (some ⟨g6, 0, none⟩) (np + 1) cap6))) b gb (updV pv i v5) wv (N.setB i ((N.blk i).add (tornL q cut)))) ∧ Fr F w (w6.setCell ⟨gb, i * 6, none⟩ (.slice (some ⟨g6, 0, none⟩) (np + 1) cap6)) from by
    intro At ct W1 hB1 hoT g6 cap6 w6 hown hgr hat
    have hFa : Fr (fun g => (Value.slice Ap np cp).ownBlock = some g) w w6 := (Fr.of_below (hB1.alloc hB1.size (.cells #[.slice At 96 ct] 39))).trans (Fr.of_grown hgr (fun g hg => hg)) (fun _ _ h => h)
    have hg6 : g6 < w6.heap.size := (own_block hown g6 rfl).choose_spec.2
    have hs1 := hB1.size
    rw [grow_size (size_set ..)]
    have htl : (tornL q cut).length = 96 := by rw [tornL_len]; exact hq
    have hP : PagesR w6 (grow F w w6) (.slice (some ⟨g6, 0, none⟩) (np + 1) cap6) ((N.blk i).add (tornL q cut)).pages := by
      show PagesR _ _ _ ((N.blk i).pages ++ [tornL q cut])
      refine PagesR.push (S := fun _ => True) (by rw [hnpl]; exact ho1) hp1 hFa (fun g hg => .inl hg) (by rw [hnpl]; exact hown) (fun g hg => ?_) htl ?_
      · have e : g6 = g := by simpa [Value.ownBlock] using hg
        subst e
        rcases hat with hat | hat
        · exact .inl (hf1 g6 hat)
        · exact .inr ⟨by rw [hat]; exact Nat.le_trans hs1 (by simp), hg6⟩
      · have hbt := byteR_new (F := F) (w := w) hoT htl (tornL_wf q cut hu.2.1) (Nat.le_refl _)
        refine hbt.keep (fun g hg _ => ?_) (fun g hg hFg => ?_)
        · obtain ⟨cur, hc, hlt⟩ := own_block hbt.1 g hg
          have hge := own_low hoT g hg
          refine (hgr.block g (by simp; omega) (fun e => ?_)).trans (heap_alloc_old W1 _ hlt)
          have := (own_block ho1 g e.symm).choose_spec.2
          omega
        · rcases hFg with hFg | hFg
          · exact .inl hFg
          · refine .inr ⟨hFg.1, Nat.lt_of_lt_of_le hFg.2 (Nat.le_trans ?_ hgr.size)⟩
            simp
    refine ⟨⟨_, h.push i hi ((N.blk i).add (tornL q cut)) (by rw [hpe]; rfl) (by rw [hpe]; exact hFa) (fun g hg => .inl hg) (fun g hg => by rcases hg with hg | hg; exact Nat.lt_of_lt_of_le (h.low g hg) hFa.size; exact hg.2) hP (fun g hg => ?_) (wf_push h.wf i _ hi hway ?_ rfl)⟩, ?_⟩
    · have e : g6 = g := by simpa [Value.ownBlock] using hg
      subst e
      rw [hpe]
      rcases hat with hat | hat
      · exact .inl hat
      · exact .inr (by rw [hat]; exact Nat.le_trans hs1 (by simp))
    · show ((N.blk i).pages ++ [tornL q cut]).length ≤ N.pages
      rw [List.length_append, hnpl]
      simp
      omega
    · exact (hFa.mono (fun g _ hg => (show F g from hf1 g hg))).set gb _ _ (.inl hing))
  have HC1 := hid (fun (W : World) (hW : Below w.heap.size w W) => (HC.out W (Fr.of_below hW)).1)
  have Hrow := hid hrowlt
  have hcpd := HC1.out _ hB0
  have k2 := HK2.out _ hB0
  clear hpe hcp ho1 hf1 hp1 hrowlt hu hu0 h hlen hc1 hc2
  go_enter Try.func43, Try.ntmps43
  go_upto_region 1 with (fail)
  refine wp_region_held_drew (S := (fun w' => w'.cell? ⟨c1, 0, none⟩ = some (.pointer (some ⟨gb, i * 6, none⟩)))) (by kernel_rfl) ?hSnewPz (fun hHeld => ?restPz)
  case hSnewPz => ((try dsimp only); exact HS.out _ hd0)
  refine wpAnyH_take (i := 0) (oi := ?oiPt2x0) (v := ?vPt2x0) ?hoPt2x0 ?h1Pt2x0 ?h2Pt2x0 ?h3Pt2x0 ?hqPt2x0 (Or.inl ⟨?h4Pt2x0, ?hyPt2x0⟩) (by assumption) ?restPt2x0
  case hoPt2x0 => (simp only [List.getElem?_toArray, List.getElem?_cons_zero, List.getElem?_cons_succ]; rfl)
  case h1Pt2x0 => kernel_rfl
  case h2Pt2x0 => kernel_rfl
  case h3Pt2x0 => kernel_rfl
  case h4Pt2x0 => rfl
  case hqPt2x0 => exact fun _ _ _ h => h
  case hyPt2x0 => (intro w hSw; (try dsimp only at hSw); go_simp <;> with_reducible rfl)
  (try simp only [Act.put, List.setIfInBounds_toArray, List.set_cons_zero, List.set_cons_succ])
  refine wpAnyH_take (i := 1) (oi := ?oiPt4x1) (v := ?vPt4x1) ?hoPt4x1 ?h1Pt4x1 ?h2Pt4x1 ?h3Pt4x1 ?hqPt4x1 (Or.inl ⟨?h4Pt4x1, ?hyPt4x1⟩) (by assumption) ?restPt4x1
  case hoPt4x1 => (simp only [List.getElem?_toArray, List.getElem?_cons_zero, List.getElem?_cons_succ]; rfl)
  case h1Pt4x1 => kernel_rfl
  case h2Pt4x1 => kernel_rfl
  case h3Pt4x1 => kernel_rfl
  case h4Pt4x1 => rfl
  case hqPt4x1 => exact fun _ _ _ h => h
  case hyPt4x1 => (intro w hSw; (try dsimp only at hSw); go_simp <;> with_reducible rfl)
  (try simp only [Act.put, List.setIfInBounds_toArray, List.set_cons_zero, List.set_cons_succ])
  refine wpAnyH_take (i := 2) (oi := ?oiPt6x2) (v := ?vPt6x2) ?hoPt6x2 ?h1Pt6x2 ?h2Pt6x2 ?h3Pt6x2 ?hqPt6x2 (Or.inl ⟨?h4Pt6x2, ?hyPt6x2⟩) (by assumption) ?restPt6x2
  case hoPt6x2 => (simp only [List.getElem?_toArray, List.getElem?_cons_zero, List.getElem?_cons_succ]; rfl)
  case h1Pt6x2 => kernel_rfl
  case h2Pt6x2 => kernel_rfl
  case h3Pt6x2 => kernel_rfl
  case h4Pt6x2 => rfl
  case hqPt6x2 => exact fun _ _ _ h => h
  case hyPt6x2 => (intro w hSw; (try dsimp only at hSw); go_simp <;> with_reducible rfl)
  (try simp only [Act.put, List.setIfInBounds_toArray, List.set_cons_zero, List.set_cons_succ])
  refine wpAnyH_take (i := 3) (oi := ?oiPt8x3) (v := ?vPt8x3) ?hoPt8x3 ?h1Pt8x3 ?h2Pt8x3 ?h3Pt8x3 ?hqPt8x3 (Or.inl ⟨?h4Pt8x3, ?hyPt8x3⟩) (by assumption) ?restPt8x3
  case hoPt8x3 => (simp only [List.getElem?_toArray, List.getElem?_cons_zero, List.getElem?_cons_succ]; rfl)
  case h1Pt8x3 => kernel_rfl
  case h2Pt8x3 => kernel_rfl
  case h3Pt8x3 => kernel_rfl
  case h4Pt8x3 => rfl
  case hqPt8x3 => exact fun _ _ _ h => h
  case hyPt8x3 => (intro w hSw; (try dsimp only at hSw); go_simp <;> with_reducible rfl)
  (try simp only [Act.put, List.setIfInBounds_toArray, List.set_cons_zero, List.set_cons_succ])
  refine wpAnyH_take (i := 6) (oi := ?oiPt10x6) (v := ?vPt10x6) ?hoPt10x6 ?h1Pt10x6 ?h2Pt10x6 ?h3Pt10x6 ?hqPt10x6 (Or.inl ⟨?h4Pt10x6, ?hyPt10x6⟩) (by assumption) ?restPt10x6
  case hoPt10x6 => (simp only [List.getElem?_toArray, List.getElem?_cons_zero, List.getElem?_cons_succ]; rfl)
  case h1Pt10x6 => kernel_rfl
  case h2Pt10x6 => kernel_rfl
  case h3Pt10x6 => kernel_rfl
  case h4Pt10x6 => rfl
  case hqPt10x6 => exact fun _ _ _ h => h
  case hyPt10x6 => (intro w hSw; (try dsimp only at hSw); go_simp <;> with_reducible rfl)
  (try simp only [Act.put, List.setIfInBounds_toArray, List.set_cons_zero, List.set_cons_succ])
  refine wpAnyH_ready (rs := [4, 5]) (by kernel_rfl) (by simp) ?_
  refine (AllReadyH.cons (o := ?oiPf110) ?hoPf110 (fun K hK => ?riPf110) (AllReadyH.cons (o := ?oiPf111) ?hoPf111 (fun K hK => ?riPf111) AllReadyH.nil))
  case hoPf110 => (simp only [List.getElem?_toArray, List.getElem?_cons_zero, List.getElem?_cons_succ]; rfl)
  case hoPf111 => (simp only [List.getElem?_toArray, List.getElem?_cons_zero, List.getElem?_cons_succ]; rfl)
  case riPf110 =>
    go_simp
    refine hK.out _ _ ?hSnewPg12 (fun hHeld => ?restPg12)
    case hSnewPg12 => ((try dsimp only); exact HS.out _ hd0)
    clear hK K
    (try simp only [Act.put, List.setIfInBounds_toArray, List.set_cons_zero, List.set_cons_succ])
    refine wpAnyH_ready (rs := [5]) (by kernel_rfl) (by simp) ?_
    refine AllReadyH.cons (o := ?oiPq13) ?hoPq13 (fun K hK => ?restPq13) ?morePq13
    case morePq13 => exact AllReadyH.nil
    case hoPq13 => (simp only [List.getElem?_toArray, List.getElem?_cons_zero, List.getElem?_cons_succ]; rfl)
    go_simp
    refine hK.out _ _ ?hSnewPhq13 (fun hHeld => ?restPhq13)
    case hSnewPhq13 => ((try dsimp only); exact HS.out _ hd0)
    clear hK K
    (try simp only [Act.put, List.setIfInBounds_toArray, List.set_cons_zero, List.set_cons_succ])
    refine wpAnyH_ready (rs := [7]) (by kernel_rfl) (by simp) ?_
    refine AllReadyH.cons (o := ?oiPq14) ?hoPq14 (fun K hK => ?restPq14) ?morePq14
    case morePq14 => exact AllReadyH.nil
    case hoPq14 => (simp only [List.getElem?_toArray, List.getElem?_cons_zero, List.getElem?_cons_succ]; rfl)
    go_simp
    refine (torn_any Au cu q cut _ (Hz4.out.2.drewN 1) Hz4.out.1).mono ?_
    rintro e wt ⟨At, ct, rfl, hoT, hBT⟩
    have hBt : Below w.heap.size w wt := hB0.trans hBT
    have hBta := hBt.alloc hBt.size (.cells #[.slice At 96 ct] 39)
    have hct := HC1.out _ hBt
    have hcta := HC1.out _ hBta
    try go_wp2_with fail
    refine hK.out _ _ ?hSnewPhq14 (fun hHeld => ?restPhq14)
    case hSnewPhq14 => ((try dsimp only); exact HS.out _ (Fr.of_below hBt))
    clear hK K
    (try simp only [Act.put, List.setIfInBounds_toArray, List.set_cons_zero, List.set_cons_succ])
    refine wpAnyH_ready (rs := [8]) (by kernel_rfl) (by simp) ?_
    refine AllReadyH.cons (o := ?oiPq15) ?hoPq15 (fun K hK => ?restPq15) ?morePq15
    case morePq15 => exact AllReadyH.nil
    case hoPq15 => (simp only [List.getElem?_toArray, List.getElem?_cons_zero, List.getElem?_cons_succ]; rfl)
    go_simp
    refine hK.out _ _ ?hSnewPhq15 (fun hHeld => ?restPhq15)
    case hSnewPhq15 => ((try dsimp only); exact HS.out _ (Fr.of_below hBta))
    clear hK K
    (try simp only [Act.put, List.setIfInBounds_toArray, List.set_cons_zero, List.set_cons_succ])
    refine wpAnyH_ready (rs := [9]) (by kernel_rfl) (by simp) ?_
    refine AllReadyH.cons (o := ?oiPq16) ?hoPq16 (fun K hK => ?restPq16) ?morePq16
    case morePq16 => exact AllReadyH.nil
    case hoPq16 => (simp only [List.getElem?_toArray, List.getElem?_cons_zero, List.getElem?_cons_succ]; rfl)
    refine step_append_page (by rfl) (.tmp 10) (.tmp 14) (by rfl) _ np xs (.slice At 96 ct) _ (by rfl) (by rfl) ?c1d1 ?c2d1 rfl hnp1 ?_
    case c1d1 => exact own_keep Ho.out (fun g hg => hBta.block g (Hrow.out g hg).1)
    case c2d1 => exact heap_alloc_new wt _
    intro g6 cap6 w6 hown hgrow hat
    replace hgrow : (wt.alloc (.cells #[.slice At 96 ct] 39)).grownBy w6 (Value.slice Ap np cp).ownBlock := hgrow
    replace hat : (Value.slice Ap np cp).ownBlock = some g6 ∨ g6 = (wt.alloc (.cells #[.slice At 96 ct] 39)).heap.size := hat
    have hFa : Fr (fun g => (Value.slice Ap np cp).ownBlock = some g) w w6 := (Fr.of_below hBta).trans (Fr.of_grown hgrow (fun g hg => hg)) (fun _ _ h => h)
    obtain ⟨hca, hfa⟩ := HC.out _ hFa
    refine hK.out _ _ ?hSnewPhq16 (fun hHeld => ?restPhq16)
    case hSnewPhq16 => ((try dsimp only); exact HS.out _ hFa)
    clear hK K
    (try simp only [Act.put, List.setIfInBounds_toArray, List.set_cons_zero, List.set_cons_succ])
    refine wpAnyH_take (i := 10) (oi := ?oiPt18x10) (v := ?vPt18x10) ?hoPt18x10 ?h1Pt18x10 ?h2Pt18x10 ?h3Pt18x10 ?hqPt18x10 (Or.inl ⟨?h4Pt18x10, ?hyPt18x10⟩) (by assumption) ?restPt18x10
    case hoPt18x10 => (simp only [List.getElem?_toArray, List.getElem?_cons_zero, List.getElem?_cons_succ]; rfl)
    case h1Pt18x10 => kernel_rfl
    case h2Pt18x10 => kernel_rfl
    case h3Pt18x10 => kernel_rfl
    case h4Pt18x10 => rfl
    case hqPt18x10 => exact fun _ _ _ h => h
    case hyPt18x10 => (intro w hSw; (try dsimp only at hSw); go_simp <;> with_reducible rfl)
    (try simp only [Act.put, List.setIfInBounds_toArray, List.set_cons_zero, List.set_cons_succ])
    refine wpAnyH_take (i := 11) (oi := ?oiPt20x11) (v := ?vPt20x11) ?hoPt20x11 ?h1Pt20x11 ?h2Pt20x11 ?h3Pt20x11 ?hqPt20x11 (Or.inl ⟨?h4Pt20x11, ?hyPt20x11⟩) (by assumption) ?restPt20x11
    case hoPt20x11 => (simp only [List.getElem?_toArray, List.getElem?_cons_zero, List.getElem?_cons_succ]; rfl)
    case h1Pt20x11 => kernel_rfl
    case h2Pt20x11 => kernel_rfl
    case h3Pt20x11 => kernel_rfl
    case h4Pt20x11 => rfl
    case hqPt20x11 => exact fun _ _ _ h => h
    case hyPt20x11 => (intro w hSw; (try dsimp only at hSw); go_simp <;> with_reducible rfl)
    (try simp only [Act.put, List.setIfInBounds_toArray, List.set_cons_zero, List.set_cons_succ])
    refine wpAnyH_ready (rs := [12]) (by kernel_rfl) (by simp) ?_
    refine AllReadyH.cons (o := ?oiPq21) ?hoPq21 (fun K hK => ?restPq21) ?morePq21
    case morePq21 => exact AllReadyH.nil
    case hoPq21 => (simp only [List.getElem?_toArray, List.getElem?_cons_zero, List.getElem?_cons_succ]; rfl)
    go_simp
    refine hK.out _ _ ?hSnewPhq21 (fun hHeld => ?restPhq21)
    case hSnewPhq21 => ((try dsimp only); exact HS2.out _ _ _ (HS.out _ hFa))
    clear hK K
    (try simp only [Act.put, List.setIfInBounds_toArray, List.set_cons_zero, List.set_cons_succ])
    refine wpAnyH_done (by kernel_rfl) ?_ _
    have HW := HQ.out _ _ _ hBt hoT _ _ _ hown hgrow hat
    clear hown hgrow hat hca hfa
    rw [show (w6.setCell ⟨gb, i * 6, none⟩ (.slice (some ⟨g6, 0, none⟩) (np + 1) cap6)) = w6.setCell ⟨gb, i * 6, none⟩ (.slice (some ⟨g6, 0, none⟩) (np + 1) cap6) from rfl]
    generalize w6.setCell ⟨gb, i * 6, none⟩ (.slice (some ⟨g6, 0, none⟩) (np + 1) cap6) = w7 at *
    replace HW := hid HW
    go_wp2
    go_end0
    exact ⟨rfl, HW.out⟩
  case riPf111 =>
    go_simp
    refine hK.out _ _ ?hSnewPg22 (fun hHeld => ?restPg22)
    case hSnewPg22 => ((try dsimp only); exact HS.out _ hd0)
    clear hK K
    (try simp only [Act.put, List.setIfInBounds_toArray, List.set_cons_zero, List.set_cons_succ])
    refine wpAnyH_ready (rs := [4, 7]) (by kernel_rfl) (by simp) ?_
    refine (AllReadyH.cons (o := ?oiPf230) ?hoPf230 (fun K hK => ?riPf230) (AllReadyH.cons (o := ?oiPf231) ?hoPf231 (fun K hK => ?riPf231) AllReadyH.nil))
    case hoPf230 => (simp only [List.getElem?_toArray, List.getElem?_cons_zero, List.getElem?_cons_succ]; rfl)
    case hoPf231 => (simp only [List.getElem?_toArray, List.getElem?_cons_zero, List.getElem?_cons_succ]; rfl)
    case riPf230 =>
      go_simp
      refine hK.out _ _ ?hSnewPg24 (fun hHeld => ?restPg24)
      case hSnewPg24 => ((try dsimp only); exact HS.out _ hd0)
      clear hK K
      (try simp only [Act.put, List.setIfInBounds_toArray, List.set_cons_zero, List.set_cons_succ])
      refine wpAnyH_ready (rs := [7]) (by kernel_rfl) (by simp) ?_
      refine AllReadyH.cons (o := ?oiPq25) ?hoPq25 (fun K hK => ?restPq25) ?morePq25
      case morePq25 => exact AllReadyH.nil
      case hoPq25 => (simp only [List.getElem?_toArray, List.getElem?_cons_zero, List.getElem?_cons_succ]; rfl)
      go_simp
      refine (torn_any Au cu q cut _ (Hz4.out.2.drewN 1) Hz4.out.1).mono ?_
      rintro e wt ⟨At, ct, rfl, hoT, hBT⟩
      have hBt : Below w.heap.size w wt := hB0.trans hBT
      have hBta := hBt.alloc hBt.size (.cells #[.slice At 96 ct] 39)
      have hct := HC1.out _ hBt
      have hcta := HC1.out _ hBta
      try go_wp2_with fail
      refine hK.out _ _ ?hSnewPhq25 (fun hHeld => ?restPhq25)
      case hSnewPhq25 => ((try dsimp only); exact HS.out _ (Fr.of_below hBt))
      clear hK K
      (try simp only [Act.put, List.setIfInBounds_toArray, List.set_cons_zero, List.set_cons_succ])
      refine wpAnyH_ready (rs := [8]) (by kernel_rfl) (by simp) ?_
      refine AllReadyH.cons (o := ?oiPq26) ?hoPq26 (fun K hK => ?restPq26) ?morePq26
      case morePq26 => exact AllReadyH.nil
      case hoPq26 => (simp only [List.getElem?_toArray, List.getElem?_cons_zero, List.getElem?_cons_succ]; rfl)
      go_simp
      refine hK.out _ _ ?hSnewPhq26 (fun hHeld => ?restPhq26)
      case hSnewPhq26 => ((try dsimp only); exact HS.out _ (Fr.of_below hBta))
      clear hK K
      (try simp only [Act.put, List.setIfInBounds_toArray, List.set_cons_zero, List.set_cons_succ])
      refine wpAnyH_ready (rs := [9]) (by kernel_rfl) (by simp) ?_
      refine AllReadyH.cons (o := ?oiPq27) ?hoPq27 (fun K hK => ?restPq27) ?morePq27
      case morePq27 => exact AllReadyH.nil
      case hoPq27 => (simp only [List.getElem?_toArray, List.getElem?_cons_zero, List.getElem?_cons_succ]; rfl)
      refine step_append_page (by rfl) (.tmp 10) (.tmp 14) (by rfl) _ np xs (.slice At 96 ct) _ (by rfl) (by rfl) ?c1d2 ?c2d2 rfl hnp1 ?_
      case c1d2 => exact own_keep Ho.out (fun g hg => hBta.block g (Hrow.out g hg).1)
      case c2d2 => exact heap_alloc_new wt _
      intro g6 cap6 w6 hown hgrow hat
      replace hgrow : (wt.alloc (.cells #[.slice At 96 ct] 39)).grownBy w6 (Value.slice Ap np cp).ownBlock := hgrow
      replace hat : (Value.slice Ap np cp).ownBlock = some g6 ∨ g6 = (wt.alloc (.cells #[.slice At 96 ct] 39)).heap.size := hat
      have hFa : Fr (fun g => (Value.slice Ap np cp).ownBlock = some g) w w6 := (Fr.of_below hBta).trans (Fr.of_grown hgrow (fun g hg => hg)) (fun _ _ h => h)
      obtain ⟨hca, hfa⟩ := HC.out _ hFa
      refine hK.out _ _ ?hSnewPhq27 (fun hHeld => ?restPhq27)
      case hSnewPhq27 => ((try dsimp only); exact HS.out _ hFa)
      clear hK K
      (try simp only [Act.put, List.setIfInBounds_toArray, List.set_cons_zero, List.set_cons_succ])
      refine wpAnyH_take (i := 10) (oi := ?oiPt29x10) (v := ?vPt29x10) ?hoPt29x10 ?h1Pt29x10 ?h2Pt29x10 ?h3Pt29x10 ?hqPt29x10 (Or.inl ⟨?h4Pt29x10, ?hyPt29x10⟩) (by assumption) ?restPt29x10
      case hoPt29x10 => (simp only [List.getElem?_toArray, List.getElem?_cons_zero, List.getElem?_cons_succ]; rfl)
      case h1Pt29x10 => kernel_rfl
      case h2Pt29x10 => kernel_rfl
      case h3Pt29x10 => kernel_rfl
      case h4Pt29x10 => rfl
      case hqPt29x10 => exact fun _ _ _ h => h
      case hyPt29x10 => (intro w hSw; (try dsimp only at hSw); go_simp <;> with_reducible rfl)
      (try simp only [Act.put, List.setIfInBounds_toArray, List.set_cons_zero, List.set_cons_succ])
      refine wpAnyH_take (i := 11) (oi := ?oiPt31x11) (v := ?vPt31x11) ?hoPt31x11 ?h1Pt31x11 ?h2Pt31x11 ?h3Pt31x11 ?hqPt31x11 (Or.inl ⟨?h4Pt31x11, ?hyPt31x11⟩) (by assumption) ?restPt31x11
      case hoPt31x11 => (simp only [List.getElem?_toArray, List.getElem?_cons_zero, List.getElem?_cons_succ]; rfl)
      case h1Pt31x11 => kernel_rfl
      case h2Pt31x11 => kernel_rfl
      case h3Pt31x11 => kernel_rfl
      case h4Pt31x11 => rfl
      case hqPt31x11 => exact fun _ _ _ h => h
      case hyPt31x11 => (intro w hSw; (try dsimp only at hSw); go_simp <;> with_reducible rfl)
      (try simp only [Act.put, List.setIfInBounds_toArray, List.set_cons_zero, List.set_cons_succ])
      refine wpAnyH_ready (rs := [12]) (by kernel_rfl) (by simp) ?_
      refine AllReadyH.cons (o := ?oiPq32) ?hoPq32 (fun K hK => ?restPq32) ?morePq32
      case morePq32 => exact AllReadyH.nil
      case hoPq32 => (simp only [List.getElem?_toArray, List.getElem?_cons_zero, List.getElem?_cons_succ]; rfl)
      go_simp
      refine hK.out _ _ ?hSnewPhq32 (fun hHeld => ?restPhq32)
      case hSnewPhq32 => ((try dsimp only); exact HS2.out _ _ _ (HS.out _ hFa))
      clear hK K
      (try simp only [Act.put, List.setIfInBounds_toArray, List.set_cons_zero, List.set_cons_succ])
      refine wpAnyH_done (by kernel_rfl) ?_ _
      have HW := HQ.out _ _ _ hBt hoT _ _ _ hown hgrow hat
      clear hown hgrow hat hca hfa
      rw [show (w6.setCell ⟨gb, i * 6, none⟩ (.slice (some ⟨g6, 0, none⟩) (np + 1) cap6)) = w6.setCell ⟨gb, i * 6, none⟩ (.slice (some ⟨g6, 0, none⟩) (np + 1) cap6) from rfl]
      generalize w6.setCell ⟨gb, i * 6, none⟩ (.slice (some ⟨g6, 0, none⟩) (np + 1) cap6) = w7 at *
      replace HW := hid HW
      go_wp2
      go_end0
      exact ⟨rfl, HW.out⟩
    case riPf231 =>
      go_simp
      refine (torn_any Au cu q cut _ (Hz4.out.2.drewN 1) Hz4.out.1).mono ?_
      rintro e wt ⟨At, ct, rfl, hoT, hBT⟩
      have hBt : Below w.heap.size w wt := hB0.trans hBT
      have hBta := hBt.alloc hBt.size (.cells #[.slice At 96 ct] 39)
      have hct := HC1.out _ hBt
      have hcta := HC1.out _ hBta
      try go_wp2_with fail
      refine hK.out _ _ ?hSnewPg33 (fun hHeld => ?restPg33)
      case hSnewPg33 => ((try dsimp only); exact HS.out _ (Fr.of_below hBt))
      clear hK K
      (try simp only [Act.put, List.setIfInBounds_toArray, List.set_cons_zero, List.set_cons_succ])
      refine wpAnyH_ready (rs := [4, 8]) (by kernel_rfl) (by simp) ?_
      refine (AllReadyH.cons (o := ?oiPf340) ?hoPf340 (fun K hK => ?riPf340) (AllReadyH.cons (o := ?oiPf341) ?hoPf341 (fun K hK => ?riPf341) AllReadyH.nil))
      case hoPf340 => (simp only [List.getElem?_toArray, List.getElem?_cons_zero, List.getElem?_cons_succ]; rfl)
      case hoPf341 => (simp only [List.getElem?_toArray, List.getElem?_cons_zero, List.getElem?_cons_succ]; rfl)
      case riPf340 =>
        go_simp
        refine hK.out _ _ ?hSnewPg35 (fun hHeld => ?restPg35)
        case hSnewPg35 => ((try dsimp only); exact HS.out _ (Fr.of_below hBt))
        clear hK K
        (try simp only [Act.put, List.setIfInBounds_toArray, List.set_cons_zero, List.set_cons_succ])
        refine wpAnyH_ready (rs := [8]) (by kernel_rfl) (by simp) ?_
        refine AllReadyH.cons (o := ?oiPq36) ?hoPq36 (fun K hK => ?restPq36) ?morePq36
        case morePq36 => exact AllReadyH.nil
        case hoPq36 => (simp only [List.getElem?_toArray, List.getElem?_cons_zero, List.getElem?_cons_succ]; rfl)
        go_simp
        refine hK.out _ _ ?hSnewPhq36 (fun hHeld => ?restPhq36)
        case hSnewPhq36 => ((try dsimp only); exact HS.out _ (Fr.of_below hBta))
        clear hK K
        (try simp only [Act.put, List.setIfInBounds_toArray, List.set_cons_zero, List.set_cons_succ])
        refine wpAnyH_ready (rs := [9]) (by kernel_rfl) (by simp) ?_
        refine AllReadyH.cons (o := ?oiPq37) ?hoPq37 (fun K hK => ?restPq37) ?morePq37
        case morePq37 => exact AllReadyH.nil
        case hoPq37 => (simp only [List.getElem?_toArray, List.getElem?_cons_zero, List.getElem?_cons_succ]; rfl)
        refine step_append_page (by rfl) (.tmp 10) (.tmp 14) (by rfl) _ np xs (.slice At 96 ct) _ (by rfl) (by rfl) ?c1d3 ?c2d3 rfl hnp1 ?_
        case c1d3 => exact own_keep Ho.out (fun g hg => hBta.block g (Hrow.out g hg).1)
        case c2d3 => exact heap_alloc_new wt _
        intro g6 cap6 w6 hown hgrow hat
        replace hgrow : (wt.alloc (.cells #[.slice At 96 ct] 39)).grownBy w6 (Value.slice Ap np cp).ownBlock := hgrow
        replace hat : (Value.slice Ap np cp).ownBlock = some g6 ∨ g6 = (wt.alloc (.cells #[.slice At 96 ct] 39)).heap.size := hat
        have hFa : Fr (fun g => (Value.slice Ap np cp).ownBlock = some g) w w6 := (Fr.of_below hBta).trans (Fr.of_grown hgrow (fun g hg => hg)) (fun _ _ h => h)
        obtain ⟨hca, hfa⟩ := HC.out _ hFa
        refine hK.out _ _ ?hSnewPhq37 (fun hHeld => ?restPhq37)
        case hSnewPhq37 => ((try dsimp only); exact HS.out _ hFa)
        clear hK K
        (try simp only [Act.put, List.setIfInBounds_toArray, List.set_cons_zero, List.set_cons_succ])
        refine wpAnyH_take (i := 10) (oi := ?oiPt39x10) (v := ?vPt39x10) ?hoPt39x10 ?h1Pt39x10 ?h2Pt39x10 ?h3Pt39x10 ?hqPt39x10 (Or.inl ⟨?h4Pt39x10, ?hyPt39x10⟩) (by assumption) ?restPt39x10
        case hoPt39x10 => (simp only [List.getElem?_toArray, List.getElem?_cons_zero, List.getElem?_cons_succ]; rfl)
        case h1Pt39x10 => kernel_rfl
        case h2Pt39x10 => kernel_rfl
        case h3Pt39x10 => kernel_rfl
        case h4Pt39x10 => rfl
        case hqPt39x10 => exact fun _ _ _ h => h
        case hyPt39x10 => (intro w hSw; (try dsimp only at hSw); go_simp <;> with_reducible rfl)
        (try simp only [Act.put, List.setIfInBounds_toArray, List.set_cons_zero, List.set_cons_succ])
        refine wpAnyH_take (i := 11) (oi := ?oiPt41x11) (v := ?vPt41x11) ?hoPt41x11 ?h1Pt41x11 ?h2Pt41x11 ?h3Pt41x11 ?hqPt41x11 (Or.inl ⟨?h4Pt41x11, ?hyPt41x11⟩) (by assumption) ?restPt41x11
        case hoPt41x11 => (simp only [List.getElem?_toArray, List.getElem?_cons_zero, List.getElem?_cons_succ]; rfl)
        case h1Pt41x11 => kernel_rfl
        case h2Pt41x11 => kernel_rfl
        case h3Pt41x11 => kernel_rfl
        case h4Pt41x11 => rfl
        case hqPt41x11 => exact fun _ _ _ h => h
        case hyPt41x11 => (intro w hSw; (try dsimp only at hSw); go_simp <;> with_reducible rfl)
        (try simp only [Act.put, List.setIfInBounds_toArray, List.set_cons_zero, List.set_cons_succ])
        refine wpAnyH_ready (rs := [12]) (by kernel_rfl) (by simp) ?_
        refine AllReadyH.cons (o := ?oiPq42) ?hoPq42 (fun K hK => ?restPq42) ?morePq42
        case morePq42 => exact AllReadyH.nil
        case hoPq42 => (simp only [List.getElem?_toArray, List.getElem?_cons_zero, List.getElem?_cons_succ]; rfl)
        go_simp
        refine hK.out _ _ ?hSnewPhq42 (fun hHeld => ?restPhq42)
        case hSnewPhq42 => ((try dsimp only); exact HS2.out _ _ _ (HS.out _ hFa))
        clear hK K
        (try simp only [Act.put, List.setIfInBounds_toArray, List.set_cons_zero, List.set_cons_succ])
        refine wpAnyH_done (by kernel_rfl) ?_ _
        have HW := HQ.out _ _ _ hBt hoT _ _ _ hown hgrow hat
        clear hown hgrow hat hca hfa
        rw [show (w6.setCell ⟨gb, i * 6, none⟩ (.slice (some ⟨g6, 0, none⟩) (np + 1) cap6)) = w6.setCell ⟨gb, i * 6, none⟩ (.slice (some ⟨g6, 0, none⟩) (np + 1) cap6) from rfl]
        generalize w6.setCell ⟨gb, i * 6, none⟩ (.slice (some ⟨g6, 0, none⟩) (np + 1) cap6) = w7 at *
        replace HW := hid HW
        go_wp2
        go_end0
        exact ⟨rfl, HW.out⟩
      case riPf341 =>
        go_simp
        refine hK.out _ _ ?hSnewPg43 (fun hHeld => ?restPg43)
        case hSnewPg43 => ((try dsimp only); exact HS.out _ (Fr.of_below hBta))
        clear hK K
        (try simp only [Act.put, List.setIfInBounds_toArray, List.set_cons_zero, List.set_cons_succ])
        refine wpAnyH_ready (rs := [4]) (by kernel_rfl) (by simp) ?_
        refine AllReadyH.cons (o := ?oiPq44) ?hoPq44 (fun K hK => ?restPq44) ?morePq44
        case morePq44 => exact AllReadyH.nil
        case hoPq44 => (simp only [List.getElem?_toArray, List.getElem?_cons_zero, List.getElem?_cons_succ]; rfl)
        go_simp
        refine hK.out _ _ ?hSnewPhq44 (fun hHeld => ?restPhq44)
        case hSnewPhq44 => ((try dsimp only); exact HS.out _ (Fr.of_below hBta))
        clear hK K
        (try simp only [Act.put, List.setIfInBounds_toArray, List.set_cons_zero, List.set_cons_succ])
        refine wpAnyH_ready (rs := [9]) (by kernel_rfl) (by simp) ?_
        refine AllReadyH.cons (o := ?oiPq45) ?hoPq45 (fun K hK => ?restPq45) ?morePq45
        case morePq45 => exact AllReadyH.nil
        case hoPq45 => (simp only [List.getElem?_toArray, List.getElem?_cons_zero, List.getElem?_cons_succ]; rfl)
        refine step_append_page (by rfl) (.tmp 10) (.tmp 14) (by rfl) _ np xs (.slice At 96 ct) _ (by rfl) (by rfl) ?c1d4 ?c2d4 rfl hnp1 ?_
        case c1d4 => exact own_keep Ho.out (fun g hg => hBta.block g (Hrow.out g hg).1)
        case c2d4 => exact heap_alloc_new wt _
        intro g6 cap6 w6 hown hgrow hat
        replace hgrow : (wt.alloc (.cells #[.slice At 96 ct] 39)).grownBy w6 (Value.slice Ap np cp).ownBlock := hgrow
        replace hat : (Value.slice Ap np cp).ownBlock = some g6 ∨ g6 = (wt.alloc (.cells #[.slice At 96 ct] 39)).heap.size := hat
        have hFa : Fr (fun g => (Value.slice Ap np cp).ownBlock = some g) w w6 := (Fr.of_below hBta).trans (Fr.of_grown hgrow (fun g hg => hg)) (fun _ _ h => h)
        obtain ⟨hca, hfa⟩ := HC.out _ hFa
        refine hK.out _ _ ?hSnewPhq45 (fun hHeld => ?restPhq45)
        case hSnewPhq45 => ((try dsimp only); exact HS.out _ hFa)
        clear hK K
        (try simp only [Act.put, List.setIfInBounds_toArray, List.set_cons_zero, List.set_cons_succ])
        refine wpAnyH_take (i := 10) (oi := ?oiPt47x10) (v := ?vPt47x10) ?hoPt47x10 ?h1Pt47x10 ?h2Pt47x10 ?h3Pt47x10 ?hqPt47x10 (Or.inl ⟨?h4Pt47x10, ?hyPt47x10⟩) (by assumption) ?restPt47x10
        case hoPt47x10 => (simp only [List.getElem?_toArray, List.getElem?_cons_zero, List.getElem?_cons_succ]; rfl)
        case h1Pt47x10 => kernel_rfl
        case h2Pt47x10 => kernel_rfl
        case h3Pt47x10 => kernel_rfl
        case h4Pt47x10 => rfl
        case hqPt47x10 => exact fun _ _ _ h => h
        case hyPt47x10 => (intro w hSw; (try dsimp only at hSw); go_simp <;> with_reducible rfl)
        (try simp only [Act.put, List.setIfInBounds_toArray, List.set_cons_zero, List.set_cons_succ])
        refine wpAnyH_take (i := 11) (oi := ?oiPt49x11) (v := ?vPt49x11) ?hoPt49x11 ?h1Pt49x11 ?h2Pt49x11 ?h3Pt49x11 ?hqPt49x11 (Or.inl ⟨?h4Pt49x11, ?hyPt49x11⟩) (by assumption) ?restPt49x11
        case hoPt49x11 => (simp only [List.getElem?_toArray, List.getElem?_cons_zero, List.getElem?_cons_succ]; rfl)
        case h1Pt49x11 => kernel_rfl
        case h2Pt49x11 => kernel_rfl
        case h3Pt49x11 => kernel_rfl
        case h4Pt49x11 => rfl
        case hqPt49x11 => exact fun _ _ _ h => h
        case hyPt49x11 => (intro w hSw; (try dsimp only at hSw); go_simp <;> with_reducible rfl)
        (try simp only [Act.put, List.setIfInBounds_toArray, List.set_cons_zero, List.set_cons_succ])
        refine wpAnyH_ready (rs := [12]) (by kernel_rfl) (by simp) ?_
        refine AllReadyH.cons (o := ?oiPq50) ?hoPq50 (fun K hK => ?restPq50) ?morePq50
        case morePq50 => exact AllReadyH.nil
        case hoPq50 => (simp only [List.getElem?_toArray, List.getElem?_cons_zero, List.getElem?_cons_succ]; rfl)
        go_simp
        refine hK.out _ _ ?hSnewPhq50 (fun hHeld => ?restPhq50)
        case hSnewPhq50 => ((try dsimp only); exact HS2.out _ _ _ (HS.out _ hFa))
        clear hK K
        (try simp only [Act.put, List.setIfInBounds_toArray, List.set_cons_zero, List.set_cons_succ])
        refine wpAnyH_done (by kernel_rfl) ?_ _
        have HW := HQ.out _ _ _ hBt hoT _ _ _ hown hgrow hat
        clear hown hgrow hat hca hfa
        rw [show (w6.setCell ⟨gb, i * 6, none⟩ (.slice (some ⟨g6, 0, none⟩) (np + 1) cap6)) = w6.setCell ⟨gb, i * 6, none⟩ (.slice (some ⟨g6, 0, none⟩) (np + 1) cap6) from rfl]
        generalize w6.setCell ⟨gb, i * 6, none⟩ (.slice (some ⟨g6, 0, none⟩) (np + 1) cap6) = w7 at *
        replace HW := hid HW
        go_wp2
        go_end0
        exact ⟨rfl, HW.out⟩

theorem progC_no (cut : Int) (c1 c2 : Nat) (w : World) (hcut : ¬ 0 < cut) :
    Calls Try.prog 43 #[.int .i64 cut, .pointer (some ⟨c1, 0, none⟩), .pointer (some ⟨c2, 0, none⟩)] w fun e w' => e = .returned (.tuple #[]) ∧ w' = w := by
  go_enter Try.func43, Try.ntmps43
  go_wp2
  go_end0
  exact ⟨rfl, rfl⟩
end Go.Proofs.Ytcfildbgnjhjmaa.Nand
