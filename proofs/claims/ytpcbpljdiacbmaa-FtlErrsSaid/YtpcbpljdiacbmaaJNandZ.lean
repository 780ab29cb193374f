import Derived.Test.YtpcbpljdiacbmaaJNandA
import Derived.Deep.DeepCutAuto
import Derived.Laws.MakeOwn
set_option linter.unusedVariables false
set_option linter.unusedSimpArgs false
namespace Go.Proofs.Ytpcbpljdiacbmaa.Nand
open Go.RowKit Go.Proofs.Ytpcbpljdiacbmaa.Kit

set_option maxRecDepth 100000 in
set_option maxHeartbeats 8000000 in
theorem progC_yes (F : Nat → Prop) (b gb : Nat) (pv : Nat → Value) (wv : Value) (N : NA) (i c1 c2 : Nat) (u : Value) (q : List Int) (cut : Int) (w : World) (h : AQ w F b gb pv wv N) (hi : i < N.bs.length) (hway : N.way = none) (hlen : (N.blk i).pages.length < N.pages)
  (hc1 : Blk w c1 #[.pointer (some ⟨gb, i * 6, none⟩)] 96) (hc2 : Blk w c2 #[u] 22) (hq : q.length = 96) (hu : ByteR w F u q) (hcut : 0 < cut) :
  Calls Try.prog 90 #[.int .i64 cut, .pointer (some ⟨c1, 0, none⟩), .pointer (some ⟨c2, 0, none⟩)] w fun e w' => e = .returned (.tuple #[]) ∧ (∃ v5, AQ w' (grow F w w') b gb (updV pv i v5) wv (N.setB i ((N.blk i).add (tornL q cut)))) ∧ Fr F w w' := by
 obtain ⟨⟨Ap, cp, hpe, hcp⟩, -, -, -, -, -⟩ := h.recs i hi
 obtain ⟨xs, ho1, hf1, hp1⟩ := h.pgs i hi
 obtain ⟨np, hnpl⟩ : ∃ n, (N.blk i).pages.length = n := ⟨_, rfl⟩
 rw [hnpl] at hpe hcp ho1 hlen
 have hnp := h.wf.np
 have hnp1 : np ≤ 1000 := by omega
 rw [hpe] at ho1 hf1
 have Ho := hid ho1
 have hne := AQ.bne h hc1 (by decide) (by decide)
 have hcg : c1 ≠ gb := fun e => hne (.inr e)
 have hinb := h.inb
 have hing := h.ing
 have hlow := h.low
 obtain ⟨Au, cu, hue⟩ := own_slice hu.1
 rw [hq] at hue
 subst hue
 have hu0 := hu.1
 rw [hq] at hu0
 have Hz4 := hid (own_reads (k := .u8) hu0 hu.2.1)
 have hrowlt : ∀ g, (Value.slice Ap np cp).ownBlock = some g → g < w.heap.size ∧ g ≠ c1 ∧ g ≠ gb := by
  intro g hg
  obtain ⟨cur, hc, hlt⟩ := own_block ho1 g hg
  refine ⟨hlt, fun e => ?_, fun e => ?_⟩
  ·subst e
   unfold Blk at hc1
   rw [hc1] at hc
   injection hc with hc
   injection hc with _ hc
   revert hc
   decide
  ·subst e
   exact AQ.bne h (show Blk w g cur 22 from hc) (by decide) (by decide) (.inr rfl)
 have HC := hid (fun (W : World) (hW : Fr (fun g => (Value.slice Ap np cp).ownBlock = some g) w W) => (by
  have hg := hW.block gb (h.low gb hing) (fun e => (hrowlt gb e).2.2 rfl)
  have hr := h.row.keep hg
  refine ⟨?_, hr.free _⟩
  simp only [World.cell?, hg]
  exact hcp : W.cell? ⟨gb, i * 6, none⟩ = some (.slice Ap np cp) ∧ W.frozen? ⟨gb, i * 6, none⟩ = false))
 have HS := hid (fun (W : World) (hW : Fr (fun g => (Value.slice Ap np cp).ownBlock = some g) w W) => (by
  have h1 : Blk W c1 _ _ := (hW.block c1 hc1.lt (fun e => (hrowlt c1 e).2.1 rfl)).trans hc1
  exact h1.cell 0 : W.cell? ⟨c1, 0, none⟩ = some (.pointer (some ⟨gb, i * 6, none⟩))))
 have HS2 := hid (fun (W : World) (v : Value) (o : Nat) (hW : W.cell? ⟨c1, 0, none⟩ = some (.pointer (some ⟨gb, i * 6, none⟩))) => (by
  have e1 := Below.heap_setCell W ⟨gb, o, none⟩ v c1 hcg
  have h1 := hW
  simp only [World.cell?] at h1 ⊢
  rw [e1]
  exact h1 : (W.setCell ⟨gb, o, none⟩ v).cell? ⟨c1, 0, none⟩ = some (.pointer (some ⟨gb, i * 6, none⟩))))
 have HK2 := hid (fun (W : World) (hW : Below w.heap.size w W) => ((hc2.later hW).cell 0 : W.cell? ⟨c2, 0, none⟩ = some (.slice Au 96 cu)))
 have hd0 : Fr (fun g => (Value.slice Ap np cp).ownBlock = some g) w w.drew := ⟨rfl, rfl, rfl, Nat.le_refl _, fun _ _ _ => rfl⟩
 have hB0 : Below w.heap.size w w.drew := below_drewN (Below.refl _ _) 1
 have HQ := hid (show ∀ (At : Option Addr) (ct : Nat) (W1 : World), Below w.heap.size w W1 → W1.ownsRow w.heap.size 5 1 (.slice At 96 ct) 96 ((tornL q cut).map (Value.int .u8)) → ∀ (g6 cap6 : Nat) (w6 : World), w6.ownsRow 0 22 1 (.slice (some ⟨g6, 0, none⟩) (np + 1) cap6) (np + 1) (xs ++ [.slice At 96 ct]) → (W1.alloc (.cells #[.slice At 96 ct] 22)).grownBy w6 (Value.slice Ap np cp).ownBlock → ((Value.slice Ap np cp).ownBlock = some g6 ∨ g6 = (W1.alloc (.cells #[.slice At 96 ct] 22)).heap.size) →
   (∃ v5, AQ (w6.setCell ⟨gb, i * 6, none⟩ (.slice (some ⟨g6, 0, none⟩) (np + 1) cap6)) (grow F w (w6.setCell ⟨gb, i * 6, none⟩ (.slice (some ⟨g6, 0, none⟩) (np + 1) cap6))) b gb (updV pv i v5) wv (N.setB i ((N.blk i).add (tornL q cut)))) ∧ Fr F w (w6.setCell ⟨gb, i * 6, none⟩ (.slice (some ⟨g6, 0, none⟩) (np + 1) cap6)) from by
  intro At ct W1 hB1 hoT g6 cap6 w6 hown hgr hat
  have hFa : Fr (fun g => (Value.slice Ap np cp).ownBlock = some g) w w6 := (Fr.of_below (hB1.alloc hB1.size (.cells #[.slice At 96 ct] 22))).trans (Fr.of_grown hgr (fun g hg => hg)) (fun _ _ h => h)
  have hg6 : g6 < w6.heap.size := (own_block hown g6 rfl).choose_spec.2
  have hs1 := hB1.size
  rw [grow_size (size_set ..)]
  have htl : (tornL q cut).length = 96 := by rw [tornL_len]; exact hq
  have hP : PagesR w6 (grow F w w6) (.slice (some ⟨g6, 0, none⟩) (np + 1) cap6) ((N.blk i).add (tornL q cut)).pages := by
   show PagesR _ _ _ ((N.blk i).pages ++ [tornL q cut])
   refine PagesR.push (S := fun _ => True) (by rw [hnpl]; exact ho1) hp1 hFa (fun g hg => .inl hg) (by rw [hnpl]; exact hown) (fun g hg => ?_) htl ?_
   ·have e : g6 = g := by simpa [Value.ownBlock] using hg
    subst e
    rcases hat with hat | hat
    ·exact .inl (hf1 g6 hat)
    ·exact .inr ⟨by rw [hat]; exact Nat.le_trans hs1 (by simp), hg6⟩
   ·have hbt := byteR_new (F := F) (w := w) hoT htl (tornL_wf q cut hu.2.1) (Nat.le_refl _)
    refine hbt.keep (fun g hg _ => ?_) (fun g hg hFg => ?_)
    ·obtain ⟨cur, hc, hlt⟩ := own_block hbt.1 g hg
     have hge := own_low hoT g hg
     refine (hgr.block g (by simp; omega) (fun e => ?_)).trans (heap_alloc_old W1 _ hlt)
     have := (own_block ho1 g e.symm).choose_spec.2
     omega
    ·rcases hFg with hFg | hFg
     ·exact .inl hFg
     ·refine .inr ⟨hFg.1, Nat.lt_of_lt_of_le hFg.2 (Nat.le_trans ?_ hgr.size)⟩
      simp
  refine ⟨⟨_, h.push i hi ((N.blk i).add (tornL q cut)) (by rw [hpe]; rfl) (by rw [hpe]; exact hFa) (fun g hg => .inl hg) (fun g hg => by rcases hg with hg | hg; exact Nat.lt_of_lt_of_le (h.low g hg) hFa.size; exact hg.2) hP (fun g hg => ?_) (wf_push h.wf i _ hi hway ?_ rfl)⟩, ?_⟩
  ·have e : g6 = g := by simpa [Value.ownBlock] using hg
   subst e
   rw [hpe]
   rcases hat with hat | hat
   ·exact .inl hat
   ·exact .inr (by rw [hat]; exact Nat.le_trans hs1 (by simp))
  ·show ((N.blk i).pages ++ [tornL q cut]).length ≤ N.pages
   rw [List.length_append, hnpl]
   simp
   omega
  ·exact (hFa.mono (fun g _ hg => (show F g from hf1 g hg))).set gb _ _ (.inl hing))
 have HC1 := hid (fun (W : World) (hW : Below w.heap.size w W) => (HC.out W (Fr.of_below hW)).1)
 have Hrow := hid hrowlt
 have hcpd := HC1.out _ hB0
 have k2 := HK2.out _ hB0
 clear hpe hcp ho1 hf1 hp1 hrowlt hu hu0 h hlen hc1 hc2
 go_enter Try.func90, Try.ntmps90
 go_upto_region 1 with (fail)
 refine wp_region_held_drew (S := (fun w' => w'.cell? ⟨c1, 0, none⟩ = some (.pointer (some ⟨gb, i * 6, none⟩)))) (by kernel_rfl) ?hSnewPz (fun hHeld => ?restPz)
 case hSnewPz => ((try dsimp only); exact HS.out _ hd0)
 refine wpAnyH_take (i := 0) (oi := ?oiPt2x0) (v := ?vPt2x0) ?hoPt2x0 ?h1Pt2x0 ?h2Pt2x0 ?h3Pt2x0 ?hqPt2x0 (Or.inl ⟨?h4Pt2x0, ?hyPt2x0⟩) (by assumption) ?restPt2x0
 case hoPt2x0 => (simp only [qa, qb, qc]; rfl)
 case h1Pt2x0 => kernel_rfl
 case h2Pt2x0 => kernel_rfl
 case h3Pt2x0 => kernel_rfl
 case h4Pt2x0 => rfl
 case hqPt2x0 => exact fun _ _ _ h => h
 case hyPt2x0 => (intro w hSw; (try dsimp only at hSw); go_simp <;> with_reducible rfl)
 (try simp only [Act.put, qd, qe, qf])
 refine wpAnyH_take (i := 1) (oi := ?oiPt4x1) (v := ?vPt4x1) ?hoPt4x1 ?h1Pt4x1 ?h2Pt4x1 ?h3Pt4x1 ?hqPt4x1 (Or.inl ⟨?h4Pt4x1, ?hyPt4x1⟩) (by assumption) ?restPt4x1
 case hoPt4x1 => (simp only [qa, qb, qc]; rfl)
 case h1Pt4x1 => kernel_rfl
 case h2Pt4x1 => kernel_rfl
 case h3Pt4x1 => kernel_rfl
 case h4Pt4x1 => rfl
 case hqPt4x1 => exact fun _ _ _ h => h
 case hyPt4x1 => (intro w hSw; (try dsimp only at hSw); go_simp <;> with_reducible rfl)
 (try simp only [Act.put, qd, qe, qf])
 refine wpAnyH_take (i := 2) (oi := ?oiPt6x2) (v := ?vPt6x2) ?hoPt6x2 ?h1Pt6x2 ?h2Pt6x2 ?h3Pt6x2 ?hqPt6x2 (Or.inl ⟨?h4Pt6x2, ?hyPt6x2⟩) (by assumption) ?restPt6x2
 case hoPt6x2 => (simp only [qa, qb, qc]; rfl)
 case h1Pt6x2 => kernel_rfl
 case h2Pt6x2 => kernel_rfl
 case h3Pt6x2 => kernel_rfl
 case h4Pt6x2 => rfl
 case hqPt6x2 => exact fun _ _ _ h => h
 case hyPt6x2 => (intro w hSw; (try dsimp only at hSw); go_simp <;> with_reducible rfl)
 (try simp only [Act.put, qd, qe, qf])
 refine wpAnyH_take (i := 3) (oi := ?oiPt8x3) (v := ?vPt8x3) ?hoPt8x3 ?h1Pt8x3 ?h2Pt8x3 ?h3Pt8x3 ?hqPt8x3 (Or.inl ⟨?h4Pt8x3, ?hyPt8x3⟩) (by assumption) ?restPt8x3
 case hoPt8x3 => (simp only [qa, qb, qc]; rfl)
 case h1Pt8x3 => kernel_rfl
 case h2Pt8x3 => kernel_rfl
 case h3Pt8x3 => kernel_rfl
 case h4Pt8x3 => rfl
 case hqPt8x3 => exact fun _ _ _ h => h
 case hyPt8x3 => (intro w hSw; (try dsimp only at hSw); go_simp <;> with_reducible rfl)
 (try simp only [Act.put, qd, qe, qf])
 refine wpAnyH_take (i := 6) (oi := ?oiPt10x6) (v := ?vPt10x6) ?hoPt10x6 ?h1Pt10x6 ?h2Pt10x6 ?h3Pt10x6 ?hqPt10x6 (Or.inl ⟨?h4Pt10x6, ?hyPt10x6⟩) (by assumption) ?restPt10x6
 case hoPt10x6 => (simp only [qa, qb, qc]; rfl)
 case h1Pt10x6 => kernel_rfl
 case h2Pt10x6 => kernel_rfl
 case h3Pt10x6 => kernel_rfl
 case h4Pt10x6 => rfl
 case hqPt10x6 => exact fun _ _ _ h => h
 case hyPt10x6 => (intro w hSw; (try dsimp only at hSw); go_simp <;> with_reducible rfl)
 (try simp only [Act.put, qd, qe, qf])
 refine wpAnyH_ready (rs := [4, 5]) (by kernel_rfl) (by simp) ?_
 refine (AllReadyH.cons (o := ?oiPf110) ?hoPf110 (fun K hK => ?riPf110) (AllReadyH.cons (o := ?oiPf111) ?hoPf111 (fun K hK => ?riPf111) AllReadyH.nil))
 case hoPf110 => (simp only [qa, qb, qc]; rfl)
 case hoPf111 => (simp only [qa, qb, qc]; rfl)
 case riPf110 =>
  go_simp
  refine hK.out _ _ ?hSnewPg12 (fun hHeld => ?restPg12)
  case hSnewPg12 => ((try dsimp only); exact HS.out _ hd0)
  clear hK K
  (try simp only [Act.put, qd, qe, qf])
  refine wpAnyH_ready (rs := [5]) (by kernel_rfl) (by simp) ?_
  refine AllReadyH.cons (o := ?oiPq13) ?hoPq13 (fun K hK => ?restPq13) ?morePq13
  case morePq13 => exact AllReadyH.nil
  case hoPq13 => (simp only [qa, qb, qc]; rfl)
  go_simp
  refine hK.out _ _ ?hSnewPhq13 (fun hHeld => ?restPhq13)
  case hSnewPhq13 => ((try dsimp only); exact HS.out _ hd0)
  clear hK K
  (try simp only [Act.put, qd, qe, qf])
  refine wpAnyH_ready (rs := [7]) (by kernel_rfl) (by simp) ?_
  refine AllReadyH.cons (o := ?oiPq14) ?hoPq14 (fun K hK => ?restPq14) ?morePq14
  case morePq14 => exact AllReadyH.nil
  case hoPq14 => (simp only [qa, qb, qc]; rfl)
  go_simp
  refine (torn_any Au cu q cut _ (Hz4.out.2.drewN 1) Hz4.out.1).mono ?_
  rintro e wt ⟨At, ct, rfl, hoT, hBT⟩
  have hBt : Below w.heap.size w wt := hB0.trans hBT
  have hBta := hBt.alloc hBt.size (.cells #[.slice At 96 ct] 22)
  have hct := HC1.out _ hBt
  have hcta := HC1.out _ hBta
  try go_wp2_with fail
  refine hK.out _ _ ?hSnewPhq14 (fun hHeld => ?restPhq14)
  case hSnewPhq14 => ((try dsimp only); exact HS.out _ (Fr.of_below hBt))
  clear hK K
  (try simp only [Act.put, qd, qe, qf])
  refine wpAnyH_ready (rs := [8]) (by kernel_rfl) (by simp) ?_
  refine AllReadyH.cons (o := ?oiPq15) ?hoPq15 (fun K hK => ?restPq15) ?morePq15
  case morePq15 => exact AllReadyH.nil
  case hoPq15 => (simp only [qa, qb, qc]; rfl)
  go_simp
  refine hK.out _ _ ?hSnewPhq15 (fun hHeld => ?restPhq15)
  case hSnewPhq15 => ((try dsimp only); exact HS.out _ (Fr.of_below hBta))
  clear hK K
  (try simp only [Act.put, qd, qe, qf])
  refine wpAnyH_ready (rs := [9]) (by kernel_rfl) (by simp) ?_
  refine AllReadyH.cons (o := ?oiPq16) ?hoPq16 (fun K hK => ?restPq16) ?morePq16
  case morePq16 => exact AllReadyH.nil
  case hoPq16 => (simp only [qa, qb, qc]; rfl)
  refine step_append_page (by rfl) (.tmp 10) (.tmp 14) (by rfl) _ np xs (.slice At 96 ct) _ (by rfl) (by rfl) ?c1d1 ?c2d1 rfl hnp1 ?_
  case c1d1 => exact own_keep Ho.out (fun g hg => hBta.block g (Hrow.out g hg).1)
  case c2d1 => exact heap_alloc_new wt _
  intro g6 cap6 w6 hown hgrow hat
  replace hgrow : (wt.alloc (.cells #[.slice At 96 ct] 22)).grownBy w6 (Value.slice Ap np cp).ownBlock := hgrow
  replace hat : (Value.slice Ap np cp).ownBlock = some g6 ∨ g6 = (wt.alloc (.cells #[.slice At 96 ct] 22)).heap.size := hat
  have hFa : Fr (fun g => (Value.slice Ap np cp).ownBlock = some g) w w6 := (Fr.of_below hBta).trans (Fr.of_grown hgrow (fun g hg => hg)) (fun _ _ h => h)
  obtain ⟨hca, hfa⟩ := HC.out _ hFa
  refine hK.out _ _ ?hSnewPhq16 (fun hHeld => ?restPhq16)
  case hSnewPhq16 => ((try dsimp only); exact HS.out _ hFa)
  clear hK K
  (try simp only [Act.put, qd, qe, qf])
  refine wpAnyH_take (i := 10) (oi := ?oiPt18x10) (v := ?vPt18x10) ?hoPt18x10 ?h1Pt18x10 ?h2Pt18x10 ?h3Pt18x10 ?hqPt18x10 (Or.inl ⟨?h4Pt18x10, ?hyPt18x10⟩) (by assumption) ?restPt18x10
  case hoPt18x10 => (simp only [qa, qb, qc]; rfl)
  case h1Pt18x10 => kernel_rfl
  case h2Pt18x10 => kernel_rfl
  case h3Pt18x10 => kernel_rfl
  case h4Pt18x10 => rfl
  case hqPt18x10 => exact fun _ _ _ h => h
  case hyPt18x10 => (intro w hSw; (try dsimp only at hSw); go_simp <;> with_reducible rfl)
  (try simp only [Act.put, qd, qe, qf])
  refine wpAnyH_take (i := 11) (oi := ?oiPt20x11) (v := ?vPt20x11) ?hoPt20x11 ?h1Pt20x11 ?h2Pt20x11 ?h3Pt20x11 ?hqPt20x11 (Or.inl ⟨?h4Pt20x11, ?hyPt20x11⟩) (by assumption) ?restPt20x11
  case hoPt20x11 => (simp only [qa, qb, qc]; rfl)
  case h1Pt20x11 => kernel_rfl
  case h2Pt20x11 => kernel_rfl
  case h3Pt20x11 => kernel_rfl
  case h4Pt20x11 => rfl
  case hqPt20x11 => exact fun _ _ _ h => h
  case hyPt20x11 => (intro w hSw; (try dsimp only at hSw); go_simp <;> with_reducible rfl)
  (try simp only [Act.put, qd, qe, qf])
  refine wpAnyH_ready (rs := [12]) (by kernel_rfl) (by simp) ?_
  refine AllReadyH.cons (o := ?oiPq21) ?hoPq21 (fun K hK => ?restPq21) ?morePq21
  case morePq21 => exact AllReadyH.nil
  case hoPq21 => (simp only [qa, qb, qc]; rfl)
  go_simp
  refine hK.out _ _ ?hSnewPhq21 (fun hHeld => ?restPhq21)
  case hSnewPhq21 => ((try dsimp only); exact HS2.out _ _ _ (HS.out _ hFa))
  clear hK K
  (try simp only [Act.put, qd, qe, qf])
  refine wpAnyH_done (by kernel_rfl) ?_ _
  have HW := HQ.out _ _ _ hBt hoT _ _ _ hown hgrow hat
  clear hown hgrow hat hca hfa
  rw [show (w6.setCell ⟨gb, i * 6, none⟩ (.slice (some ⟨g6, 0, none⟩) (np + 1) cap6)) = w6.setCell ⟨gb, i * 6, none⟩ (.slice (some ⟨g6, 0, none⟩) (np + 1) cap6) from rfl]
  generalize w6.setCell ⟨gb, i * 6, none⟩ (.slice (some ⟨g6, 0, none⟩) (np + 1) cap6) = w7 at *
  replace HW := hid HW
  go_wp2
  go_end0
  exact ⟨rfl, HW.out⟩
 case riPf111 =>
  go_simp
  refine hK.out _ _ ?hSnewPg22 (fun hHeld => ?restPg22)
  case hSnewPg22 => ((try dsimp only); exact HS.out _ hd0)
  clear hK K
  (try simp only [Act.put, qd, qe, qf])
  refine wpAnyH_ready (rs := [4, 7]) (by kernel_rfl) (by simp) ?_
  refine (AllReadyH.cons (o := ?oiPf230) ?hoPf230 (fun K hK => ?riPf230) (AllReadyH.cons (o := ?oiPf231) ?hoPf231 (fun K hK => ?riPf231) AllReadyH.nil))
  case hoPf230 => (simp only [qa, qb, qc]; rfl)
  case hoPf231 => (simp only [qa, qb, qc]; rfl)
  case riPf230 =>
   go_simp
   refine hK.out _ _ ?hSnewPg24 (fun hHeld => ?restPg24)
   case hSnewPg24 => ((try dsimp only); exact HS.out _ hd0)
   clear hK K
   (try simp only [Act.put, qd, qe, qf])
   refine wpAnyH_ready (rs := [7]) (by kernel_rfl) (by simp) ?_
   refine AllReadyH.cons (o := ?oiPq25) ?hoPq25 (fun K hK => ?restPq25) ?morePq25
   case morePq25 => exact AllReadyH.nil
   case hoPq25 => (simp only [qa, qb, qc]; rfl)
   go_simp
   refine (torn_any Au cu q cut _ (Hz4.out.2.drewN 1) Hz4.out.1).mono ?_
   rintro e wt ⟨At, ct, rfl, hoT, hBT⟩
   have hBt : Below w.heap.size w wt := hB0.trans hBT
   have hBta := hBt.alloc hBt.size (.cells #[.slice At 96 ct] 22)
   have hct := HC1.out _ hBt
   have hcta := HC1.out _ hBta
   try go_wp2_with fail
   refine hK.out _ _ ?hSnewPhq25 (fun hHeld => ?restPhq25)
   case hSnewPhq25 => ((try dsimp only); exact HS.out _ (Fr.of_below hBt))
   clear hK K
   (try simp only [Act.put, qd, qe, qf])
   refine wpAnyH_ready (rs := [8]) (by kernel_rfl) (by simp) ?_
   refine AllReadyH.cons (o := ?oiPq26) ?hoPq26 (fun K hK => ?restPq26) ?morePq26
   case morePq26 => exact AllReadyH.nil
   case hoPq26 => (simp only [qa, qb, qc]; rfl)
   go_simp
   refine hK.out _ _ ?hSnewPhq26 (fun hHeld => ?restPhq26)
   case hSnewPhq26 => ((try dsimp only); exact HS.out _ (Fr.of_below hBta))
   clear hK K
   (try simp only [Act.put, qd, qe, qf])
   refine wpAnyH_ready (rs := [9]) (by kernel_rfl) (by simp) ?_
   refine AllReadyH.cons (o := ?oiPq27) ?hoPq27 (fun K hK => ?restPq27) ?morePq27
   case morePq27 => exact AllReadyH.nil
   case hoPq27 => (simp only [qa, qb, qc]; rfl)
   refine step_append_page (by rfl) (.tmp 10) (.tmp 14) (by rfl) _ np xs (.slice At 96 ct) _ (by rfl) (by rfl) ?c1d2 ?c2d2 rfl hnp1 ?_
   case c1d2 => exact own_keep Ho.out (fun g hg => hBta.block g (Hrow.out g hg).1)
   case c2d2 => exact heap_alloc_new wt _
   intro g6 cap6 w6 hown hgrow hat
   replace hgrow : (wt.alloc (.cells #[.slice At 96 ct] 22)).grownBy w6 (Value.slice Ap np cp).ownBlock := hgrow
   replace hat : (Value.slice Ap np cp).ownBlock = some g6 ∨ g6 = (wt.alloc (.cells #[.slice At 96 ct] 22)).heap.size := hat
   have hFa : Fr (fun g => (Value.slice Ap np cp).ownBlock = some g) w w6 := (Fr.of_below hBta).trans (Fr.of_grown hgrow (fun g hg => hg)) (fun _ _ h => h)
   obtain ⟨hca, hfa⟩ := HC.out _ hFa
   refine hK.out _ _ ?hSnewPhq27 (fun hHeld => ?restPhq27)
   case hSnewPhq27 => ((try dsimp only); exact HS.out _ hFa)
   clear hK K
   (try simp only [Act.put, qd, qe, qf])
   refine wpAnyH_take (i := 10) (oi := ?oiPt29x10) (v := ?vPt29x10) ?hoPt29x10 ?h1Pt29x10 ?h2Pt29x10 ?h3Pt29x10 ?hqPt29x10 (Or.inl ⟨?h4Pt29x10, ?hyPt29x10⟩) (by assumption) ?restPt29x10
   case hoPt29x10 => (simp only [qa, qb, qc]; rfl)
   case h1Pt29x10 => kernel_rfl
   case h2Pt29x10 => kernel_rfl
   case h3Pt29x10 => kernel_rfl
   case h4Pt29x10 => rfl
   case hqPt29x10 => exact fun _ _ _ h => h
   case hyPt29x10 => (intro w hSw; (try dsimp only at hSw); go_simp <;> with_reducible rfl)
   (try simp only [Act.put, qd, qe, qf])
   refine wpAnyH_take (i := 11) (oi := ?oiPt31x11) (v := ?vPt31x11) ?hoPt31x11 ?h1Pt31x11 ?h2Pt31x11 ?h3Pt31x11 ?hqPt31x11 (Or.inl ⟨?h4Pt31x11, ?hyPt31x11⟩) (by assumption) ?restPt31x11
   case hoPt31x11 => (simp only [qa, qb, qc]; rfl)
   case h1Pt31x11 => kernel_rfl
   case h2Pt31x11 => kernel_rfl
   case h3Pt31x11 => kernel_rfl
   case h4Pt31x11 => rfl
   case hqPt31x11 => exact fun _ _ _ h => h
   case hyPt31x11 => (intro w hSw; (try dsimp only at hSw); go_simp <;> with_reducible rfl)
   (try simp only [Act.put, qd, qe, qf])
   refine wpAnyH_ready (rs := [12]) (by kernel_rfl) (by simp) ?_
   refine AllReadyH.cons (o := ?oiPq32) ?hoPq32 (fun K hK => ?restPq32) ?morePq32
   case morePq32 => exact AllReadyH.nil
   case hoPq32 => (simp only [qa, qb, qc]; rfl)
   go_simp
   refine hK.out _ _ ?hSnewPhq32 (fun hHeld => ?restPhq32)
   case hSnewPhq32 => ((try dsimp only); exact HS2.out _ _ _ (HS.out _ hFa))
   clear hK K
   (try simp only [Act.put, qd, qe, qf])
   refine wpAnyH_done (by kernel_rfl) ?_ _
   have HW := HQ.out _ _ _ hBt hoT _ _ _ hown hgrow hat
   clear hown hgrow hat hca hfa
   rw [show (w6.setCell ⟨gb, i * 6, none⟩ (.slice (some ⟨g6, 0, none⟩) (np + 1) cap6)) = w6.setCell ⟨gb, i * 6, none⟩ (.slice (some ⟨g6, 0, none⟩) (np + 1) cap6) from rfl]
   generalize w6.setCell ⟨gb, i * 6, none⟩ (.slice (some ⟨g6, 0, none⟩) (np + 1) cap6) = w7 at *
   replace HW := hid HW
   go_wp2
   go_end0
   exact ⟨rfl, HW.out⟩
  case riPf231 =>
   go_simp
   refine (torn_any Au cu q cut _ (Hz4.out.2.drewN 1) Hz4.out.1).mono ?_
   rintro e wt ⟨At, ct, rfl, hoT, hBT⟩
   have hBt : Below w.heap.size w wt := hB0.trans hBT
   have hBta := hBt.alloc hBt.size (.cells #[.slice At 96 ct] 22)
   have hct := HC1.out _ hBt
   have hcta := HC1.out _ hBta
   try go_wp2_with fail
   refine hK.out _ _ ?hSnewPg33 (fun hHeld => ?restPg33)
   case hSnewPg33 => ((try dsimp only); exact HS.out _ (Fr.of_below hBt))
   clear hK K
   (try simp only [Act.put, qd, qe, qf])
   refine wpAnyH_ready (rs := [4, 8]) (by kernel_rfl) (by simp) ?_
   refine (AllReadyH.cons (o := ?oiPf340) ?hoPf340 (fun K hK => ?riPf340) (AllReadyH.cons (o := ?oiPf341) ?hoPf341 (fun K hK => ?riPf341) AllReadyH.nil))
   case hoPf340 => (simp only [qa, qb, qc]; rfl)
   case hoPf341 => (simp only [qa, qb, qc]; rfl)
   case riPf340 =>
    go_simp
    refine hK.out _ _ ?hSnewPg35 (fun hHeld => ?restPg35)
    case hSnewPg35 => ((try dsimp only); exact HS.out _ (Fr.of_below hBt))
    clear hK K
    (try simp only [Act.put, qd, qe, qf])
    refine wpAnyH_ready (rs := [8]) (by kernel_rfl) (by simp) ?_
    refine AllReadyH.cons (o := ?oiPq36) ?hoPq36 (fun K hK => ?restPq36) ?morePq36
    case morePq36 => exact AllReadyH.nil
    case hoPq36 => (simp only [qa, qb, qc]; rfl)
    go_simp
    refine hK.out _ _ ?hSnewPhq36 (fun hHeld => ?restPhq36)
    case hSnewPhq36 => ((try dsimp only); exact HS.out _ (Fr.of_below hBta))
    clear hK K
    (try simp only [Act.put, qd, qe, qf])
    refine wpAnyH_ready (rs := [9]) (by kernel_rfl) (by simp) ?_
    refine AllReadyH.cons (o := ?oiPq37) ?hoPq37 (fun K hK => ?restPq37) ?morePq37
    case morePq37 => exact AllReadyH.nil
    case hoPq37 => (simp only [qa, qb, qc]; rfl)
    refine step_append_page (by rfl) (.tmp 10) (.tmp 14) (by rfl) _ np xs (.slice At 96 ct) _ (by rfl) (by rfl) ?c1d3 ?c2d3 rfl hnp1 ?_
    case c1d3 => exact own_keep Ho.out (fun g hg => hBta.block g (Hrow.out g hg).1)
    case c2d3 => exact heap_alloc_new wt _
    intro g6 cap6 w6 hown hgrow hat
    replace hgrow : (wt.alloc (.cells #[.slice At 96 ct] 22)).grownBy w6 (Value.slice Ap np cp).ownBlock := hgrow
    replace hat : (Value.slice Ap np cp).ownBlock = some g6 ∨ g6 = (wt.alloc (.cells #[.slice At 96 ct] 22)).heap.size := hat
    have hFa : Fr (fun g => (Value.slice Ap np cp).ownBlock = some g) w w6 := (Fr.of_below hBta).trans (Fr.of_grown hgrow (fun g hg => hg)) (fun _ _ h => h)
    obtain ⟨hca, hfa⟩ := HC.out _ hFa
    refine hK.out _ _ ?hSnewPhq37 (fun hHeld => ?restPhq37)
    case hSnewPhq37 => ((try dsimp only); exact HS.out _ hFa)
    clear hK K
    (try simp only [Act.put, qd, qe, qf])
    refine wpAnyH_take (i := 10) (oi := ?oiPt39x10) (v := ?vPt39x10) ?hoPt39x10 ?h1Pt39x10 ?h2Pt39x10 ?h3Pt39x10 ?hqPt39x10 (Or.inl ⟨?h4Pt39x10, ?hyPt39x10⟩) (by assumption) ?restPt39x10
    case hoPt39x10 => (simp only [qa, qb, qc]; rfl)
    case h1Pt39x10 => kernel_rfl
    case h2Pt39x10 => kernel_rfl
    case h3Pt39x10 => kernel_rfl
    case h4Pt39x10 => rfl
    case hqPt39x10 => exact fun _ _ _ h => h
    case hyPt39x10 => (intro w hSw; (try dsimp only at hSw); go_simp <;> with_reducible rfl)
    (try simp only [Act.put, qd, qe, qf])
    refine wpAnyH_take (i := 11) (oi := ?oiPt41x11) (v := ?vPt41x11) ?hoPt41x11 ?h1Pt41x11 ?h2Pt41x11 ?h3Pt41x11 ?hqPt41x11 (Or.inl ⟨?h4Pt41x11, ?hyPt41x11⟩) (by assumption) ?restPt41x11
    case hoPt41x11 => (simp only [qa, qb, qc]; rfl)
    case h1Pt41x11 => kernel_rfl
    case h2Pt41x11 => kernel_rfl
    case h3Pt41x11 => kernel_rfl
    case h4Pt41x11 => rfl
    case hqPt41x11 => exact fun _ _ _ h => h
    case hyPt41x11 => (intro w hSw; (try dsimp only at hSw); go_simp <;> with_reducible rfl)
    (try simp only [Act.put, qd, qe, qf])
    refine wpAnyH_ready (rs := [12]) (by kernel_rfl) (by simp) ?_
    refine AllReadyH.cons (o := ?oiPq42) ?hoPq42 (fun K hK => ?restPq42) ?morePq42
    case morePq42 => exact AllReadyH.nil
    case hoPq42 => (simp only [qa, qb, qc]; rfl)
    go_simp
    refine hK.out _ _ ?hSnewPhq42 (fun hHeld => ?restPhq42)
    case hSnewPhq42 => ((try dsimp only); exact HS2.out _ _ _ (HS.out _ hFa))
    clear hK K
    (try simp only [Act.put, qd, qe, qf])
    refine wpAnyH_done (by kernel_rfl) ?_ _
    have HW := HQ.out _ _ _ hBt hoT _ _ _ hown hgrow hat
    clear hown hgrow hat hca hfa
    rw [show (w6.setCell ⟨gb, i * 6, none⟩ (.slice (some ⟨g6, 0, none⟩) (np + 1) cap6)) = w6.setCell ⟨gb, i * 6, none⟩ (.slice (some ⟨g6, 0, none⟩) (np + 1) cap6) from rfl]
    generalize w6.setCell ⟨gb, i * 6, none⟩ (.slice (some ⟨g6, 0, none⟩) (np + 1) cap6) = w7 at *
    replace HW := hid HW
    go_wp2
    go_end0
    exact ⟨rfl, HW.out⟩
   case riPf341 =>
    go_simp
    refine hK.out _ _ ?hSnewPg43 (fun hHeld => ?restPg43)
    case hSnewPg43 => ((try dsimp only); exact HS.out _ (Fr.of_below hBta))
    clear hK K
    (try simp only [Act.put, qd, qe, qf])
    refine wpAnyH_ready (rs := [4]) (by kernel_rfl) (by simp) ?_
    refine AllReadyH.cons (o := ?oiPq44) ?hoPq44 (fun K hK => ?restPq44) ?morePq44
    case morePq44 => exact AllReadyH.nil
    case hoPq44 => (simp only [qa, qb, qc]; rfl)
    go_simp
    refine hK.out _ _ ?hSnewPhq44 (fun hHeld => ?restPhq44)
    case hSnewPhq44 => ((try dsimp only); exact HS.out _ (Fr.of_below hBta))
    clear hK K
    (try simp only [Act.put, qd, qe, qf])
    refine wpAnyH_ready (rs := [9]) (by kernel_rfl) (by simp) ?_
    refine AllReadyH.cons (o := ?oiPq45) ?hoPq45 (fun K hK => ?restPq45) ?morePq45
    case morePq45 => exact AllReadyH.nil
    case hoPq45 => (simp only [qa, qb, qc]; rfl)
    refine step_append_page (by rfl) (.tmp 10) (.tmp 14) (by rfl) _ np xs (.slice At 96 ct) _ (by rfl) (by rfl) ?c1d4 ?c2d4 rfl hnp1 ?_
    case c1d4 => exact own_keep Ho.out (fun g hg => hBta.block g (Hrow.out g hg).1)
    case c2d4 => exact heap_alloc_new wt _
    intro g6 cap6 w6 hown hgrow hat
    replace hgrow : (wt.alloc (.cells #[.slice At 96 ct] 22)).grownBy w6 (Value.slice Ap np cp).ownBlock := hgrow
    replace hat : (Value.slice Ap np cp).ownBlock = some g6 ∨ g6 = (wt.alloc (.cells #[.slice At 96 ct] 22)).heap.size := hat
    have hFa : Fr (fun g => (Value.slice Ap np cp).ownBlock = some g) w w6 := (Fr.of_below hBta).trans (Fr.of_grown hgrow (fun g hg => hg)) (fun _ _ h => h)
    obtain ⟨hca, hfa⟩ := HC.out _ hFa
    refine hK.out _ _ ?hSnewPhq45 (fun hHeld => ?restPhq45)
    case hSnewPhq45 => ((try dsimp only); exact HS.out _ hFa)
    clear hK K
    (try simp only [Act.put, qd, qe, qf])
    refine wpAnyH_take (i := 10) (oi := ?oiPt47x10) (v := ?vPt47x10) ?hoPt47x10 ?h1Pt47x10 ?h2Pt47x10 ?h3Pt47x10 ?hqPt47x10 (Or.inl ⟨?h4Pt47x10, ?hyPt47x10⟩) (by assumption) ?restPt47x10
    case hoPt47x10 => (simp only [qa, qb, qc]; rfl)
    case h1Pt47x10 => kernel_rfl
    case h2Pt47x10 => kernel_rfl
    case h3Pt47x10 => kernel_rfl
    case h4Pt47x10 => rfl
    case hqPt47x10 => exact fun _ _ _ h => h
    case hyPt47x10 => (intro w hSw; (try dsimp only at hSw); go_simp <;> with_reducible rfl)
    (try simp only [Act.put, qd, qe, qf])
    refine wpAnyH_take (i := 11) (oi := ?oiPt49x11) (v := ?vPt49x11) ?hoPt49x11 ?h1Pt49x11 ?h2Pt49x11 ?h3Pt49x11 ?hqPt49x11 (Or.inl ⟨?h4Pt49x11, ?hyPt49x11⟩) (by assumption) ?restPt49x11
    case hoPt49x11 => (simp only [qa, qb, qc]; rfl)
    case h1Pt49x11 => kernel_rfl
    case h2Pt49x11 => kernel_rfl
    case h3Pt49x11 => kernel_rfl
    case h4Pt49x11 => rfl
    case hqPt49x11 => exact fun _ _ _ h => h
    case hyPt49x11 => (intro w hSw; (try dsimp only at hSw); go_simp <;> with_reducible rfl)
    (try simp only [Act.put, qd, qe, qf])
    refine wpAnyH_ready (rs := [12]) (by kernel_rfl) (by simp) ?_
    refine AllReadyH.cons (o := ?oiPq50) ?hoPq50 (fun K hK => ?restPq50) ?morePq50
    case morePq50 => exact AllReadyH.nil
    case hoPq50 => (simp only [qa, qb, qc]; rfl)
    go_simp
    refine hK.out _ _ ?hSnewPhq50 (fun hHeld => ?restPhq50)
    case hSnewPhq50 => ((try dsimp only); exact HS2.out _ _ _ (HS.out _ hFa))
    clear hK K
    (try simp only [Act.put, qd, qe, qf])
    refine wpAnyH_done (by kernel_rfl) ?_ _
    have HW := HQ.out _ _ _ hBt hoT _ _ _ hown hgrow hat
    clear hown hgrow hat hca hfa
    rw [show (w6.setCell ⟨gb, i * 6, none⟩ (.slice (some ⟨g6, 0, none⟩) (np + 1) cap6)) = w6.setCell ⟨gb, i * 6, none⟩ (.slice (some ⟨g6, 0, none⟩) (np + 1) cap6) from rfl]
    generalize w6.setCell ⟨gb, i * 6, none⟩ (.slice (some ⟨g6, 0, none⟩) (np + 1) cap6) = w7 at *
    replace HW := hid HW
    go_wp2
    go_end0
    exact ⟨rfl, HW.out⟩

theorem progC_no (cut : Int) (c1 c2 : Nat) (w : World) (hcut : ¬ 0 < cut) :
  Calls Try.prog 90 #[.int .i64 cut, .pointer (some ⟨c1, 0, none⟩), .pointer (some ⟨c2, 0, none⟩)] w fun e w' => e = .returned (.tuple #[]) ∧ w' = w := by
 go_enter Try.func90, Try.ntmps90
 go_wp2
 go_end0
 exact ⟨rfl, rfl⟩
end Go.Proofs.Ytpcbpljdiacbmaa.Nand

set_option linter.unusedVariables false
set_option linter.unusedSimpArgs false
namespace Go.Proofs.Ytpcbpljdiacbmaa.Nand
open Go.RowKit Go.Proofs.Ytpcbpljdiacbmaa.Kit

theorem eraseC_no (cut : Int) (c1 c2 c3 : Nat) (w : World) (hcut : ¬ 0 < cut) :
  Calls Try.prog 75 #[.int .i64 cut, .pointer (some ⟨c2, 0, none⟩), .pointer (some ⟨c3, 0, none⟩), .pointer (some ⟨c1, 0, none⟩)] w fun e w' => e = .returned (.tuple #[]) ∧ w' = w := by
 have h96 : ¬ (96 : Int) ≤ cut := by omega
 have hd96 : decide ((96 : Int) ≤ cut) = false := decide_eq_false h96
 go_enter Try.func75, Try.ntmps75
 go_wp2
 go_end0
 exact ⟨rfl, rfl⟩
theorem eraseC_done (F : Nat → Prop) (b gb : Nat) (pv : Nat → Value) (wv : Value) (N : NA) (i c1 c2 c3 : Nat) (cut : Int) (w : World) (h : AQ w F b gb pv wv N) (hi : i < N.bs.length) (hway : N.way = none)
  (hc1 : Blk w c1 #[.pointer (some ⟨gb, i * 6, none⟩)] 96) (hc2 : Blk w c2 #[.bool false] 4) (hc3 : Blk w c3 #[.func (.func 74) #[] #[.pointer (some ⟨c1, 0, none⟩)]] 1) (hcut : 96 ≤ cut) :
  Calls Try.prog 75 #[.int .i64 cut, .pointer (some ⟨c2, 0, none⟩), .pointer (some ⟨c3, 0, none⟩), .pointer (some ⟨c1, 0, none⟩)] w fun e w' => e = .returned (.tuple #[]) ∧ AQ w' F b gb (updV pv i (.slice none 0 0)) wv (N.setB i (N.blk i).clean) ∧ Fr (fun g => g = gb) w w' := by
 have hdone := done_any F b gb pv wv N i c1 w h hi hway hc1
 have k2 : w.cell? ⟨c2, 0, none⟩ = some (.bool false) := hc2.cell 0
 have k3 : w.cell? ⟨c3, 0, none⟩ = some (.func (.func 74) #[] #[.pointer (some ⟨c1, 0, none⟩)]) := hc3.cell 0
 have hd96 : decide ((96 : Int) ≤ cut) = true := decide_eq_true hcut
 clear h hc1 hc2 hc3
 go_enter Try.func75, Try.ntmps75
 go_wp2_with fail
 refine hdone.mono ?_
 rintro e w7 ⟨rfl, h7, hF7⟩
 clear hdone
 replace h7 := hid h7
 replace hF7 := hid hF7
 go_wp2
 go_end0
 exact ⟨rfl, h7.out, hF7.out⟩
set_option maxHeartbeats 2000000 in
theorem eraseC_half (F : Nat → Prop) (b gb : Nat) (pv : Nat → Value) (wv : Value) (N : NA) (i c1 c2 c3 : Nat) (dead : Bool) (cut : Int) (w : World) (h : AQ w F b gb pv wv N) (hi : i < N.bs.length) (hway : N.way = none)
  (hc1 : Blk w c1 #[.pointer (some ⟨gb, i * 6, none⟩)] 96) (hc2 : Blk w c2 #[.bool dead] 4) (hcut : 0 < cut) (hno : ¬ (96 ≤ cut ∧ dead = false)) :
  Calls Try.prog 75 #[.int .i64 cut, .pointer (some ⟨c2, 0, none⟩), .pointer (some ⟨c3, 0, none⟩), .pointer (some ⟨c1, 0, none⟩)] w fun e w' => e = .returned (.tuple #[]) ∧ AQ w' F b gb pv wv (N.setB i { N.blk i with half := decide (0 < (N.blk i).pages.length) }) ∧ Fr (fun g => g = gb) w w' := by
 have hne := AQ.bne h hc1 (by decide) (by decide)
 have hcg : c1 ≠ gb := fun e => hne (.inr e)
 obtain ⟨⟨Ap, cp, hpe, d0⟩, -, d2, -, -, -⟩ := h.recs i hi
 have f2 := h.row.free (i * 6 + 2)
 have k1 : w.cell? ⟨c1, 0, none⟩ = some (.pointer (some ⟨gb, i * 6, none⟩)) := hc1.cell 0
 have k2 : w.cell? ⟨c2, 0, none⟩ = some (.bool dead) := hc2.cell 0
 obtain ⟨np, hnp⟩ : ∃ n, (N.blk i).pages.length = n := ⟨_, rfl⟩
 obtain ⟨hh, hhh⟩ : ∃ n, (N.blk i).half = n := ⟨_, rfl⟩
 rw [hnp] at d0
 rw [hhh] at d2
 have hnp32 : np ≤ 32 := by have h1 := h.wf.len i hi; have h2 := h.wf.np; omega
 have H1 := hid (h.setRec i 2 (.bool (decide (0 < np))) { N.blk i with half := decide (0 < np) } hi (by decide) rfl rfl (h.wf.setB i _ hi rfl (h.wf.doom i hi)))
 have F1 := hid (fr_set (F := fun g => g = gb) w gb (i * 6 + 2) (.bool (decide (0 < np))) rfl)
 have HS := hid (by
  have e1 := Below.heap_setCell w ⟨gb, i * 6 + 2, none⟩ (.bool (decide (0 < np))) c1 hcg
  have h1 := k1
  refine ⟨?_, ?_⟩
  ·simp only [World.cell?] at h1 ⊢
   rw [e1]
   exact h1
  ·have := (h.setRec i 2 (.bool (decide (0 < np))) { N.blk i with half := decide (0 < np) } hi (by decide) rfl rfl (h.wf.setB i _ hi rfl (h.wf.doom i hi))).row.cell i (by rw [len_set]; exact hi) 0 (.slice Ap np cp) (by
    show (recOf (pv i) ((N.setB i _).blk i))[0]? = _
    rw [hpe, hnp]
    rfl)
   exact this : (w.setCell ⟨gb, i * 6 + 2, none⟩ (.bool (decide (0 < np)))).cell? ⟨c1, 0, none⟩ = some (.pointer (some ⟨gb, i * 6, none⟩)) ∧ (w.setCell ⟨gb, i * 6 + 2, none⟩ (.bool (decide (0 < np)))).cell? ⟨gb, i * 6, none⟩ = some (.slice Ap np cp))
 rw [hnp]
 clear h hpe hc1 hc2 hne hnp hhh
 by_cases h96 : 96 ≤ cut
 ·obtain rfl : dead = true := by
   cases dead
   ·exact absurd ⟨h96, rfl⟩ hno
   ·rfl
  have hd96 : decide ((96 : Int) ≤ cut) = true := decide_eq_true h96
  clear hno
  go_enter Try.func75, Try.ntmps75
  go_upto_region 3 with (fail)
  refine wp_region_held_drew (S := (fun w' => w'.cell? ⟨c1, 0, none⟩ = some (.pointer (some ⟨gb, i * 6, none⟩)) ∧ w'.cell? ⟨gb, i * 6, none⟩ = some (.slice Ap np cp))) (by kernel_rfl) ?hSnewHz (fun hHeld => ?restHz)
  case hSnewHz => ((try dsimp only); exact ⟨k1, d0⟩)
  refine wpAnyH_take (i := 0) (oi := ?oiHt52x0) (v := ?vHt52x0) ?hoHt52x0 ?h1Ht52x0 ?h2Ht52x0 ?h3Ht52x0 ?hqHt52x0 (Or.inl ⟨?h4Ht52x0, ?hyHt52x0⟩) (by assumption) ?restHt52x0
  case hoHt52x0 => (simp only [qa, qb, qc]; rfl)
  case h1Ht52x0 => kernel_rfl
  case h2Ht52x0 => kernel_rfl
  case h3Ht52x0 => kernel_rfl
  case h4Ht52x0 => rfl
  case hqHt52x0 => exact fun _ _ _ h => h
  case hyHt52x0 => (intro w hSw; (try dsimp only at hSw); go_simp <;> with_reducible rfl)
  (try simp only [Act.put, qd, qe, qf])
  refine wpAnyH_take (i := 1) (oi := ?oiHt54x1) (v := ?vHt54x1) ?hoHt54x1 ?h1Ht54x1 ?h2Ht54x1 ?h3Ht54x1 ?hqHt54x1 (Or.inl ⟨?h4Ht54x1, ?hyHt54x1⟩) (by assumption) ?restHt54x1
  case hoHt54x1 => (simp only [qa, qb, qc]; rfl)
  case h1Ht54x1 => kernel_rfl
  case h2Ht54x1 => kernel_rfl
  case h3Ht54x1 => kernel_rfl
  case h4Ht54x1 => rfl
  case hqHt54x1 => exact fun _ _ _ h => h
  case hyHt54x1 => (intro w hSw; (try dsimp only at hSw); go_simp <;> with_reducible rfl)
  (try simp only [Act.put, qd, qe, qf])
  refine wpAnyH_take (i := 2) (oi := ?oiHt56x2) (v := ?vHt56x2) ?hoHt56x2 ?h1Ht56x2 ?h2Ht56x2 ?h3Ht56x2 ?hqHt56x2 (Or.inl ⟨?h4Ht56x2, ?hyHt56x2⟩) (by assumption) ?restHt56x2
  case hoHt56x2 => (simp only [qa, qb, qc]; rfl)
  case h1Ht56x2 => kernel_rfl
  case h2Ht56x2 => kernel_rfl
  case h3Ht56x2 => kernel_rfl
  case h4Ht56x2 => rfl
  case hqHt56x2 => exact fun _ _ _ h => h
  case hyHt56x2 => (intro w hSw; (try dsimp only at hSw); go_simp <;> with_reducible rfl)
  (try simp only [Act.put, qd, qe, qf])
  refine wpAnyH_take (i := 3) (oi := ?oiHt58x3) (v := ?vHt58x3) ?hoHt58x3 ?h1Ht58x3 ?h2Ht58x3 ?h3Ht58x3 ?hqHt58x3 (Or.inl ⟨?h4Ht58x3, ?hyHt58x3⟩) (by assumption) ?restHt58x3
  case hoHt58x3 => (simp only [qa, qb, qc]; rfl)
  case h1Ht58x3 => kernel_rfl
  case h2Ht58x3 => kernel_rfl
  case h3Ht58x3 => kernel_rfl
  case h4Ht58x3 => rfl
  case hqHt58x3 => exact fun _ _ _ h => h
  case hyHt58x3 => (intro w hSw; (try dsimp only at hSw); go_simp <;> with_reducible rfl)
  (try simp only [Act.put, qd, qe, qf])
  refine wpAnyH_take (i := 4) (oi := ?oiHt60x4) (v := ?vHt60x4) ?hoHt60x4 ?h1Ht60x4 ?h2Ht60x4 ?h3Ht60x4 ?hqHt60x4 (Or.inl ⟨?h4Ht60x4, ?hyHt60x4⟩) (by assumption) ?restHt60x4
  case hoHt60x4 => (simp only [qa, qb, qc]; rfl)
  case h1Ht60x4 => kernel_rfl
  case h2Ht60x4 => kernel_rfl
  case h3Ht60x4 => kernel_rfl
  case h4Ht60x4 => rfl
  case hqHt60x4 => exact fun _ _ _ h => h
  case hyHt60x4 => (intro w hSw; (try dsimp only at hSw); go_simp <;> with_reducible rfl)
  (try simp only [Act.put, qd, qe, qf])
  refine wpAnyH_take (i := 5) (oi := ?oiHt62x5) (v := ?vHt62x5) ?hoHt62x5 ?h1Ht62x5 ?h2Ht62x5 ?h3Ht62x5 ?hqHt62x5 (Or.inl ⟨?h4Ht62x5, ?hyHt62x5⟩) (by assumption) ?restHt62x5
  case hoHt62x5 => (simp only [qa, qb, qc]; rfl)
  case h1Ht62x5 => kernel_rfl
  case h2Ht62x5 => kernel_rfl
  case h3Ht62x5 => kernel_rfl
  case h4Ht62x5 => rfl
  case hqHt62x5 => exact fun _ _ _ h => h
  case hyHt62x5 => (intro w hSw; (try dsimp only at hSw); go_simp <;> with_reducible rfl)
  (try simp only [Act.put, qd, qe, qf])
  refine wpAnyH_take (i := 6) (oi := ?oiHt64x6) (v := ?vHt64x6) ?hoHt64x6 ?h1Ht64x6 ?h2Ht64x6 ?h3Ht64x6 ?hqHt64x6 (Or.inl ⟨?h4Ht64x6, ?hyHt64x6⟩) (by assumption) ?restHt64x6
  case hoHt64x6 => (simp only [qa, qb, qc]; rfl)
  case h1Ht64x6 => kernel_rfl
  case h2Ht64x6 => kernel_rfl
  case h3Ht64x6 => kernel_rfl
  case h4Ht64x6 => rfl
  case hqHt64x6 => exact fun _ _ _ h => h
  case hyHt64x6 => (intro w hSw; (try dsimp only at hSw); go_simp <;> with_reducible rfl)
  (try simp only [Act.put, qd, qe, qf])
  refine wpAnyH_take (i := 7) (oi := ?oiHt66x7) (v := ?vHt66x7) ?hoHt66x7 ?h1Ht66x7 ?h2Ht66x7 ?h3Ht66x7 ?hqHt66x7 (Or.inl ⟨?h4Ht66x7, ?hyHt66x7⟩) (by assumption) ?restHt66x7
  case hoHt66x7 => (simp only [qa, qb, qc]; rfl)
  case h1Ht66x7 => kernel_rfl
  case h2Ht66x7 => kernel_rfl
  case h3Ht66x7 => kernel_rfl
  case h4Ht66x7 => rfl
  case hqHt66x7 => exact fun _ _ _ h => h
  case hyHt66x7 => (intro w hSw; (try dsimp only at hSw); go_simp <;> with_reducible rfl)
  (try simp only [Act.put, qd, qe, qf])
  refine wpAnyH_take (i := 8) (oi := ?oiHt68x8) (v := ?vHt68x8) ?hoHt68x8 ?h1Ht68x8 ?h2Ht68x8 ?h3Ht68x8 ?hqHt68x8 (Or.inl ⟨?h4Ht68x8, ?hyHt68x8⟩) (by assumption) ?restHt68x8
  case hoHt68x8 => (simp only [qa, qb, qc]; rfl)
  case h1Ht68x8 => kernel_rfl
  case h2Ht68x8 => kernel_rfl
  case h3Ht68x8 => kernel_rfl
  case h4Ht68x8 => rfl
  case hqHt68x8 => exact fun _ _ _ h => h
  case hyHt68x8 => (intro w hSw; (try dsimp only at hSw); go_simp <;> with_reducible rfl)
  (try simp only [Act.put, qd, qe, qf])
  refine wpAnyH_ready (rs := [9]) (by kernel_rfl) (by simp) ?_
  refine AllReadyH.cons (o := ?oiHq69) ?hoHq69 (fun K hK => ?restHq69) ?moreHq69
  case moreHq69 => exact AllReadyH.nil
  case hoHq69 => (simp only [qa, qb, qc]; rfl)
  go_simp
  refine hK.out _ _ ?hSnewHhq69 (fun hHeld => ?restHhq69)
  case hSnewHhq69 => ((try dsimp only); exact HS.out)
  clear hK K
  (try simp only [Act.put, qd, qe, qf])
  refine wpAnyH_done (by kernel_rfl) ?_ _
  replace H1 := hid (H1.out.drewN 1)
  replace F1 := hid (F1.out.drewN 1)
  clear HS d0 d2 k1 k2 f2
  go_wp2
  go_end0
  exact ⟨rfl, H1.out, F1.out⟩
 ·have hd96 : decide ((96 : Int) ≤ cut) = false := decide_eq_false h96
  clear hno
  go_enter Try.func75, Try.ntmps75
  go_upto_region 3 with (fail)
  refine wp_region_held_drew (S := (fun w' => w'.cell? ⟨c1, 0, none⟩ = some (.pointer (some ⟨gb, i * 6, none⟩)) ∧ w'.cell? ⟨gb, i * 6, none⟩ = some (.slice Ap np cp))) (by kernel_rfl) ?hSnewIz (fun hHeld => ?restIz)
  case hSnewIz => ((try dsimp only); exact ⟨k1, d0⟩)
  refine wpAnyH_take (i := 0) (oi := ?oiIt71x0) (v := ?vIt71x0) ?hoIt71x0 ?h1It71x0 ?h2It71x0 ?h3It71x0 ?hqIt71x0 (Or.inl ⟨?h4It71x0, ?hyIt71x0⟩) (by assumption) ?restIt71x0
  case hoIt71x0 => (simp only [qa, qb, qc]; rfl)
  case h1It71x0 => kernel_rfl
  case h2It71x0 => kernel_rfl
  case h3It71x0 => kernel_rfl
  case h4It71x0 => rfl
  case hqIt71x0 => exact fun _ _ _ h => h
  case hyIt71x0 => (intro w hSw; (try dsimp only at hSw); go_simp <;> with_reducible rfl)
  (try simp only [Act.put, qd, qe, qf])
  refine wpAnyH_take (i := 1) (oi := ?oiIt73x1) (v := ?vIt73x1) ?hoIt73x1 ?h1It73x1 ?h2It73x1 ?h3It73x1 ?hqIt73x1 (Or.inl ⟨?h4It73x1, ?hyIt73x1⟩) (by assumption) ?restIt73x1
  case hoIt73x1 => (simp only [qa, qb, qc]; rfl)
  case h1It73x1 => kernel_rfl
  case h2It73x1 => kernel_rfl
  case h3It73x1 => kernel_rfl
  case h4It73x1 => rfl
  case hqIt73x1 => exact fun _ _ _ h => h
  case hyIt73x1 => (intro w hSw; (try dsimp only at hSw); go_simp <;> with_reducible rfl)
  (try simp only [Act.put, qd, qe, qf])
  refine wpAnyH_take (i := 2) (oi := ?oiIt75x2) (v := ?vIt75x2) ?hoIt75x2 ?h1It75x2 ?h2It75x2 ?h3It75x2 ?hqIt75x2 (Or.inl ⟨?h4It75x2, ?hyIt75x2⟩) (by assumption) ?restIt75x2
  case hoIt75x2 => (simp only [qa, qb, qc]; rfl)
  case h1It75x2 => kernel_rfl
  case h2It75x2 => kernel_rfl
  case h3It75x2 => kernel_rfl
  case h4It75x2 => rfl
  case hqIt75x2 => exact fun _ _ _ h => h
  case hyIt75x2 => (intro w hSw; (try dsimp only at hSw); go_simp <;> with_reducible rfl)
  (try simp only [Act.put, qd, qe, qf])
  refine wpAnyH_take (i := 3) (oi := ?oiIt77x3) (v := ?vIt77x3) ?hoIt77x3 ?h1It77x3 ?h2It77x3 ?h3It77x3 ?hqIt77x3 (Or.inl ⟨?h4It77x3, ?hyIt77x3⟩) (by assumption) ?restIt77x3
  case hoIt77x3 => (simp only [qa, qb, qc]; rfl)
  case h1It77x3 => kernel_rfl
  case h2It77x3 => kernel_rfl
  case h3It77x3 => kernel_rfl
  case h4It77x3 => rfl
  case hqIt77x3 => exact fun _ _ _ h => h
  case hyIt77x3 => (intro w hSw; (try dsimp only at hSw); go_simp <;> with_reducible rfl)
  (try simp only [Act.put, qd, qe, qf])
  refine wpAnyH_take (i := 4) (oi := ?oiIt79x4) (v := ?vIt79x4) ?hoIt79x4 ?h1It79x4 ?h2It79x4 ?h3It79x4 ?hqIt79x4 (Or.inl ⟨?h4It79x4, ?hyIt79x4⟩) (by assumption) ?restIt79x4
  case hoIt79x4 => (simp only [qa, qb, qc]; rfl)
  case h1It79x4 => kernel_rfl
  case h2It79x4 => kernel_rfl
  case h3It79x4 => kernel_rfl
  case h4It79x4 => rfl
  case hqIt79x4 => exact fun _ _ _ h => h
  case hyIt79x4 => (intro w hSw; (try dsimp only at hSw); go_simp <;> with_reducible rfl)
  (try simp only [Act.put, qd, qe, qf])
  refine wpAnyH_take (i := 5) (oi := ?oiIt81x5) (v := ?vIt81x5) ?hoIt81x5 ?h1It81x5 ?h2It81x5 ?h3It81x5 ?hqIt81x5 (Or.inl ⟨?h4It81x5, ?hyIt81x5⟩) (by assumption) ?restIt81x5
  case hoIt81x5 => (simp only [qa, qb, qc]; rfl)
  case h1It81x5 => kernel_rfl
  case h2It81x5 => kernel_rfl
  case h3It81x5 => kernel_rfl
  case h4It81x5 => rfl
  case hqIt81x5 => exact fun _ _ _ h => h
  case hyIt81x5 => (intro w hSw; (try dsimp only at hSw); go_simp <;> with_reducible rfl)
  (try simp only [Act.put, qd, qe, qf])
  refine wpAnyH_take (i := 6) (oi := ?oiIt83x6) (v := ?vIt83x6) ?hoIt83x6 ?h1It83x6 ?h2It83x6 ?h3It83x6 ?hqIt83x6 (Or.inl ⟨?h4It83x6, ?hyIt83x6⟩) (by assumption) ?restIt83x6
  case hoIt83x6 => (simp only [qa, qb, qc]; rfl)
  case h1It83x6 => kernel_rfl
  case h2It83x6 => kernel_rfl
  case h3It83x6 => kernel_rfl
  case h4It83x6 => rfl
  case hqIt83x6 => exact fun _ _ _ h => h
  case hyIt83x6 => (intro w hSw; (try dsimp only at hSw); go_simp <;> with_reducible rfl)
  (try simp only [Act.put, qd, qe, qf])
  refine wpAnyH_take (i := 7) (oi := ?oiIt85x7) (v := ?vIt85x7) ?hoIt85x7 ?h1It85x7 ?h2It85x7 ?h3It85x7 ?hqIt85x7 (Or.inl ⟨?h4It85x7, ?hyIt85x7⟩) (by assumption) ?restIt85x7
  case hoIt85x7 => (simp only [qa, qb, qc]; rfl)
  case h1It85x7 => kernel_rfl
  case h2It85x7 => kernel_rfl
  case h3It85x7 => kernel_rfl
  case h4It85x7 => rfl
  case hqIt85x7 => exact fun _ _ _ h => h
  case hyIt85x7 => (intro w hSw; (try dsimp only at hSw); go_simp <;> with_reducible rfl)
  (try simp only [Act.put, qd, qe, qf])
  refine wpAnyH_take (i := 8) (oi := ?oiIt87x8) (v := ?vIt87x8) ?hoIt87x8 ?h1It87x8 ?h2It87x8 ?h3It87x8 ?hqIt87x8 (Or.inl ⟨?h4It87x8, ?hyIt87x8⟩) (by assumption) ?restIt87x8
  case hoIt87x8 => (simp only [qa, qb, qc]; rfl)
  case h1It87x8 => kernel_rfl
  case h2It87x8 => kernel_rfl
  case h3It87x8 => kernel_rfl
  case h4It87x8 => rfl
  case hqIt87x8 => exact fun _ _ _ h => h
  case hyIt87x8 => (intro w hSw; (try dsimp only at hSw); go_simp <;> with_reducible rfl)
  (try simp only [Act.put, qd, qe, qf])
  refine wpAnyH_ready (rs := [9]) (by kernel_rfl) (by simp) ?_
  refine AllReadyH.cons (o := ?oiIq88) ?hoIq88 (fun K hK => ?restIq88) ?moreIq88
  case moreIq88 => exact AllReadyH.nil
  case hoIq88 => (simp only [qa, qb, qc]; rfl)
  go_simp
  refine hK.out _ _ ?hSnewIhq88 (fun hHeld => ?restIhq88)
  case hSnewIhq88 => ((try dsimp only); exact HS.out)
  clear hK K
  (try simp only [Act.put, qd, qe, qf])
  refine wpAnyH_done (by kernel_rfl) ?_ _
  replace H1 := hid (H1.out.drewN 1)
  replace F1 := hid (F1.out.drewN 1)
  clear HS d0 d2 k1 k2 f2
  go_wp2
  go_end0
  exact ⟨rfl, H1.out, F1.out⟩

theorem AQ.grown {w' : World} {F : Nat → Prop} {b gb : Nat} {pv : Nat → Value} {wv : Value} {N : NA} (h : AQ w' F b gb pv wv N) (w : World) : AQ w' (grow F w w') b gb pv wv N :=
 h.mono (fun g hg => .inl hg) (fun g hg => by rcases hg with hg | hg; exact h.low g hg; exact hg.2)
def woke (N : NA) : NA := { N with way := none, off := false, armed := 0, fence := 0, boots := wrap64 (N.boots + 1) }
theorem neq_func (f : Fn) (a c : Array Value) (w : World) : (binOp .neq 65 (.func f a c) .nilFunc).run Try.prog w = .ok (.bool true) w := by kernel_rfl
theorem neq_nil (w : World) : (binOp .neq 65 .nilFunc .nilFunc).run Try.prog w = .ok (.bool false) w := by kernel_rfl
theorem fall_boots (N : NA) (cut : Int) : (N.fall cut).boots = N.boots := by
 unfold NA.fall
 split
 ·rfl
 ·split
  ·split <;> rfl
  ·split
   ·rfl
   ·split <;> rfl
theorem restart_eq (N M : NA) (cut : Int) (h : { N.fall cut with way := none } = M) : N.restart cut = woke M := by
 rw [← h]
 unfold woke NA.restart
 simp only
 rw [fall_boots]
theorem woke_wf {M : NA} (h : M.Wf) : (woke M).Wf := ⟨h.nb, h.np, h.len, (fun u hu => nomatch hu), Nat.zero_le _, h.doom⟩
set_option maxRecDepth 100000 in
set_option maxHeartbeats 8000000 in
theorem restart_any (F : Nat → Prop) (b : Nat) (N : NA) (cut : Int) (w : World) (h : Arr w F b N) :
  Calls Try.prog 35 #[.pointer (some ⟨b, 0, none⟩), .int .i64 cut] w fun e w' => e = .returned (.int .i64 0) ∧ Arr w' (grow F w w') b (N.restart cut) ∧ Fr F w w' := by
 obtain ⟨gb, pv, wv, h⟩ := h
 have h0 := h.toAQ.unway
 have hw := h.way
 have hwf := h.wf
 have k7 : w.cell? ⟨b, 7, none⟩ = some wv := h.hd.cell 7
 have Hinb := hid h.inb
 have Hing := hid h.ing
 have Hlow := hid h.low
 clear h
 have H0 := hid h0
 clear h0
 obtain ⟨R, hR⟩ : ∃ R, N.restart cut = R := ⟨_, rfl⟩
 have HR := hid hR
 rw [hR]
 clear hR
 cases hway : N.way with
 | none =>
  rw [hway] at hw
  obtain rfl : wv = .nilFunc := hw
  have Hq := hid (H0.out.grown w)
  have HF := hid (Fr.refl F w)
  have HM := hid (show R = woke { N with way := none } from by
   rw [← HR.out]
   refine restart_eq N _ cut ?_
   unfold NA.fall
   rw [hway])
  have Hwy := hid (show ({ N with way := none } : NA).way = none from rfl)
  clear hway hwf H0
  generalize ({ N with way := none } : NA) = M at *
  have hnf := neq_func
  have hnn := neq_nil
  go_enter Try.func35, Try.ntmps35
  go_upto_region 5 with (fail)
  clear k7
  have e7 := Hq.out.hd.cell 7
  have e2 : w.cell? ⟨b, 2, none⟩ = some (.int .u64 M.fence) := Hq.out.hd.cell 2
  have e3 : w.cell? ⟨b, 3, none⟩ = some (.int .i64 M.boots) := Hq.out.hd.cell 3
  have e4 : w.cell? ⟨b, 4, none⟩ = some (.int .i64 (M.armed : Int)) := Hq.out.hd.cell 4
  have e5 : w.cell? ⟨b, 5, none⟩ = some (.bool M.off) := Hq.out.hd.cell 5
  replace e7 := show w.cell? ⟨b, 7, none⟩ = some _ from e7
  have f7 := Hq.out.hd.free 7
  have f5 := Hq.out.hd.free 5
  have f4 := Hq.out.hd.free 4
  have f3 := Hq.out.hd.free 3
  have f2 := Hq.out.hd.free 2
  have wfx : ∀ M' : NA, M'.bs = M.bs → M'.pages = M.pages → M'.way = none → M'.armed ≤ M.armed → M'.Wf := fun M' h1 h2 h3 h4 => ⟨by rw [h1]; exact Hq.out.wf.nb, by rw [h2]; exact Hq.out.wf.np, fun j hj => by unfold NA.blk; rw [h1, h2]; rw [h1] at hj; exact Hq.out.wf.len j hj, (fun u hu => by rw [h3] at hu; cases hu), Nat.le_trans h4 Hq.out.wf.armed, fun j hj => by unfold NA.blk; rw [h1]; rw [h1] at hj; exact Hq.out.wf.doom j hj⟩
  have Hq5 := hid (((((Hq.out.setHd 7 .nilFunc M .nilFunc rfl rfl Hq.out.wf).setHd 5 (.bool false) { M with off := false } .nilFunc rfl rfl (wfx _ rfl rfl Hwy.out (Nat.le_refl _))).setHd 4 (.int .i64 0) { M with off := false, armed := 0 } .nilFunc rfl rfl (wfx _ rfl rfl Hwy.out (Nat.zero_le _))).setHd 2 (.int .u64 0) { M with off := false, armed := 0, fence := 0 } .nilFunc rfl rfl (wfx _ rfl rfl Hwy.out (Nat.zero_le _))).setHd 3 (.int .i64 (wrap64 (M.boots + 1))) (woke M) .nilFunc (by unfold hdOf woke; rfl) rfl (woke_wf Hq.out.wf))
  have HF5 := hid (((((HF.out.set b 7 .nilFunc (.inl Hinb.out)).set b 5 (.bool false) (.inl Hinb.out)).set b 4 (.int .i64 0) (.inl Hinb.out)).set b 2 (.int .u64 0) (.inl Hinb.out)).set b 3 (.int .i64 (wrap64 (M.boots + 1))) (.inl Hinb.out))
  clear wfx
  go_wp2
  go_ret
  refine ⟨rfl, ?_, HF5.out⟩
  rw [HM.out]
  refine ⟨gb, pv, .nilFunc, AQ.toAR ?_ rfl⟩
  rw [grow_size (size_set ..), grow_size (size_set ..), grow_size (size_set ..), grow_size (size_set ..), grow_size (size_set ..)]
  exact Hq5.out
 | some u =>
  obtain ⟨hoff, hui, hlen⟩ := hwf.way u hway
  have hnot : wv ≠ .nilFunc := by
   rw [hway] at hw
   unfold WayR at hw
   simp only at hw
   split at hw
   ·obtain ⟨_, _, _, rfl, _⟩ := hw
    exact fun h => nomatch h
   ·obtain ⟨_, _, _, rfl, _⟩ := hw
    exact fun h => nomatch h
  obtain ⟨i, uq, ud⟩ := u
  cases uq with
  | some q =>
   rw [hway] at hw
   obtain ⟨c1, c2, v, rfl, b1, b2, f1, f2, hq, hb⟩ := hw
   have hlen' := hlen q rfl
   by_cases hcut : 0 < cut
   ·have hcall := progC_yes F b gb pv _ { N with way := none } i c1 c2 v q cut w H0.out hui rfl hlen' b1 b2 hq hb hcut
    have HM := hid (show R = woke (({ N with way := none } : NA).setB i ((({ N with way := none } : NA).blk i).add (tornL q cut))) from by
     rw [← HR.out]
     refine restart_eq N _ cut ?_
     unfold NA.fall
     rw [hway]
     simp only
     rw [if_pos hcut]
     rfl)
    clear hway hwf H0 hnot b1 b2 hb hlen hlen'
    have hnf := neq_func
    have hnn := neq_nil
    go_enter Try.func35, Try.ntmps35
    go_wp2_with fail
    refine hcall.mono ?_
    rintro e w1 ⟨rfl, ⟨v5, hq1⟩, hf1⟩
    clear hcall k7
    have Hq := hid hq1
    have HF := hid hf1
    have Hwy := hid (show (({ N with way := none } : NA).setB i ((({ N with way := none } : NA).blk i).add (tornL q cut))).way = none from rfl)
    clear hq1 hf1
    generalize (({ N with way := none } : NA).setB i ((({ N with way := none } : NA).blk i).add (tornL q cut))) = M at *
    go_upto_region 5 with (fail)
    have e7 := Hq.out.hd.cell 7
    have e2 : w1.cell? ⟨b, 2, none⟩ = some (.int .u64 M.fence) := Hq.out.hd.cell 2
    have e3 : w1.cell? ⟨b, 3, none⟩ = some (.int .i64 M.boots) := Hq.out.hd.cell 3
    have e4 : w1.cell? ⟨b, 4, none⟩ = some (.int .i64 (M.armed : Int)) := Hq.out.hd.cell 4
    have e5 : w1.cell? ⟨b, 5, none⟩ = some (.bool M.off) := Hq.out.hd.cell 5
    replace e7 := show w1.cell? ⟨b, 7, none⟩ = some _ from e7
    have f7 := Hq.out.hd.free 7
    have f5 := Hq.out.hd.free 5
    have f4 := Hq.out.hd.free 4
    have f3 := Hq.out.hd.free 3
    have f2 := Hq.out.hd.free 2
    have wfx : ∀ M' : NA, M'.bs = M.bs → M'.pages = M.pages → M'.way = none → M'.armed ≤ M.armed → M'.Wf := fun M' h1 h2 h3 h4 => ⟨by rw [h1]; exact Hq.out.wf.nb, by rw [h2]; exact Hq.out.wf.np, fun j hj => by unfold NA.blk; rw [h1, h2]; rw [h1] at hj; exact Hq.out.wf.len j hj, (fun u hu => by rw [h3] at hu; cases hu), Nat.le_trans h4 Hq.out.wf.armed, fun j hj => by unfold NA.blk; rw [h1]; rw [h1] at hj; exact Hq.out.wf.doom j hj⟩
    have Hq5 := hid (((((Hq.out.setHd 7 .nilFunc M .nilFunc rfl rfl Hq.out.wf).setHd 5 (.bool false) { M with off := false } .nilFunc rfl rfl (wfx _ rfl rfl Hwy.out (Nat.le_refl _))).setHd 4 (.int .i64 0) { M with off := false, armed := 0 } .nilFunc rfl rfl (wfx _ rfl rfl Hwy.out (Nat.zero_le _))).setHd 2 (.int .u64 0) { M with off := false, armed := 0, fence := 0 } .nilFunc rfl rfl (wfx _ rfl rfl Hwy.out (Nat.zero_le _))).setHd 3 (.int .i64 (wrap64 (M.boots + 1))) (woke M) .nilFunc (by unfold hdOf woke; rfl) rfl (woke_wf Hq.out.wf))
    have HF5 := hid (((((HF.out.set b 7 .nilFunc (.inl Hinb.out)).set b 5 (.bool false) (.inl Hinb.out)).set b 4 (.int .i64 0) (.inl Hinb.out)).set b 2 (.int .u64 0) (.inl Hinb.out)).set b 3 (.int .i64 (wrap64 (M.boots + 1))) (.inl Hinb.out))
    clear wfx
    go_wp2
    go_ret
    refine ⟨rfl, ?_, HF5.out⟩
    rw [HM.out]
    refine ⟨gb, (updV pv i v5), .nilFunc, AQ.toAR ?_ rfl⟩
    rw [grow_size (size_set ..), grow_size (size_set ..), grow_size (size_set ..), grow_size (size_set ..), grow_size (size_set ..)]
    exact Hq5.out
   ·have hcall := progC_no cut c1 c2 w hcut
    have HM := hid (show R = woke { N with way := none } from by
     rw [← HR.out]
     refine restart_eq N _ cut ?_
     unfold NA.fall
     rw [hway]
     simp only
     rw [if_neg hcut])
    have Hq := hid (H0.out.grown w)
    have HF := hid (Fr.refl F w)
    have Hwy := hid (show ({ N with way := none } : NA).way = none from rfl)
    clear hway hwf H0 hnot b1 b2 hb hlen hlen'
    generalize ({ N with way := none } : NA) = M at *
    have hnf := neq_func
    have hnn := neq_nil
    go_enter Try.func35, Try.ntmps35
    go_wp2_with fail
    refine hcall.mono ?_
    rintro e w ⟨rfl, rfl⟩
    clear hcall k7
    go_upto_region 5 with (fail)
    have e7 := Hq.out.hd.cell 7
    have e2 : w.cell? ⟨b, 2, none⟩ = some (.int .u64 M.fence) := Hq.out.hd.cell 2
    have e3 : w.cell? ⟨b, 3, none⟩ = some (.int .i64 M.boots) := Hq.out.hd.cell 3
    have e4 : w.cell? ⟨b, 4, none⟩ = some (.int .i64 (M.armed : Int)) := Hq.out.hd.cell 4
    have e5 : w.cell? ⟨b, 5, none⟩ = some (.bool M.off) := Hq.out.hd.cell 5
    replace e7 := show w.cell? ⟨b, 7, none⟩ = some _ from e7
    have f7 := Hq.out.hd.free 7
    have f5 := Hq.out.hd.free 5
    have f4 := Hq.out.hd.free 4
    have f3 := Hq.out.hd.free 3
    have f2 := Hq.out.hd.free 2
    have wfx : ∀ M' : NA, M'.bs = M.bs → M'.pages = M.pages → M'.way = none → M'.armed ≤ M.armed → M'.Wf := fun M' h1 h2 h3 h4 => ⟨by rw [h1]; exact Hq.out.wf.nb, by rw [h2]; exact Hq.out.wf.np, fun j hj => by unfold NA.blk; rw [h1, h2]; rw [h1] at hj; exact Hq.out.wf.len j hj, (fun u hu => by rw [h3] at hu; cases hu), Nat.le_trans h4 Hq.out.wf.armed, fun j hj => by unfold NA.blk; rw [h1]; rw [h1] at hj; exact Hq.out.wf.doom j hj⟩
    have Hq5 := hid (((((Hq.out.setHd 7 .nilFunc M .nilFunc rfl rfl Hq.out.wf).setHd 5 (.bool false) { M with off := false } .nilFunc rfl rfl (wfx _ rfl rfl Hwy.out (Nat.le_refl _))).setHd 4 (.int .i64 0) { M with off := false, armed := 0 } .nilFunc rfl rfl (wfx _ rfl rfl Hwy.out (Nat.zero_le _))).setHd 2 (.int .u64 0) { M with off := false, armed := 0, fence := 0 } .nilFunc rfl rfl (wfx _ rfl rfl Hwy.out (Nat.zero_le _))).setHd 3 (.int .i64 (wrap64 (M.boots + 1))) (woke M) .nilFunc (by unfold hdOf woke; rfl) rfl (woke_wf Hq.out.wf))
    have HF5 := hid (((((HF.out.set b 7 .nilFunc (.inl Hinb.out)).set b 5 (.bool false) (.inl Hinb.out)).set b 4 (.int .i64 0) (.inl Hinb.out)).set b 2 (.int .u64 0) (.inl Hinb.out)).set b 3 (.int .i64 (wrap64 (M.boots + 1))) (.inl Hinb.out))
    clear wfx
    go_wp2
    go_ret
    refine ⟨rfl, ?_, HF5.out⟩
    rw [HM.out]
    refine ⟨gb, pv, .nilFunc, AQ.toAR ?_ rfl⟩
    rw [grow_size (size_set ..), grow_size (size_set ..), grow_size (size_set ..), grow_size (size_set ..), grow_size (size_set ..)]
    exact Hq5.out
  | none =>
   rw [hway] at hw
   obtain ⟨c1, c2, c3, rfl, b1, b2, b3, f1, f2, f3⟩ := hw
   by_cases hcut : 0 < cut
   ·by_cases hdone : 96 ≤ cut ∧ ud = false
    ·obtain ⟨h96, rfl⟩ := hdone
     have hcall := eraseC_done F b gb pv _ { N with way := none } i c1 c2 c3 cut w H0.out hui rfl b1 b2 b3 h96
     have HM := hid (show R = woke (({ N with way := none } : NA).setB i (({ N with way := none } : NA).blk i).clean) from by
      rw [← HR.out]
      refine restart_eq N _ cut ?_
      unfold NA.fall
      rw [hway]
      simp only
      rw [if_pos ⟨h96, trivial⟩]
      rfl)
     clear hway hwf H0 hnot b1 b2 b3 hlen
     have hnf := neq_func
     have hnn := neq_nil
     go_enter Try.func35, Try.ntmps35
     go_wp2_with fail
     refine hcall.mono ?_
     rintro e w1 ⟨rfl, hq1, hf1⟩
     clear hcall k7
     have Hq := hid (hq1.grown w)
     have HF := hid (hf1.mono (fun g _ hg => (show F g from by rw [hg]; exact Hing.out)))
     have Hwy := hid (show (({ N with way := none } : NA).setB i (({ N with way := none } : NA).blk i).clean).way = none from rfl)
     clear hq1 hf1
     generalize (({ N with way := none } : NA).setB i (({ N with way := none } : NA).blk i).clean) = M at *
     go_upto_region 5 with (fail)
     have e7 := Hq.out.hd.cell 7
     have e2 : w1.cell? ⟨b, 2, none⟩ = some (.int .u64 M.fence) := Hq.out.hd.cell 2
     have e3 : w1.cell? ⟨b, 3, none⟩ = some (.int .i64 M.boots) := Hq.out.hd.cell 3
     have e4 : w1.cell? ⟨b, 4, none⟩ = some (.int .i64 (M.armed : Int)) := Hq.out.hd.cell 4
     have e5 : w1.cell? ⟨b, 5, none⟩ = some (.bool M.off) := Hq.out.hd.cell 5
     replace e7 := show w1.cell? ⟨b, 7, none⟩ = some _ from e7
     have f7 := Hq.out.hd.free 7
     have f5 := Hq.out.hd.free 5
     have f4 := Hq.out.hd.free 4
     have f3 := Hq.out.hd.free 3
     have f2 := Hq.out.hd.free 2
     have wfx : ∀ M' : NA, M'.bs = M.bs → M'.pages = M.pages → M'.way = none → M'.armed ≤ M.armed → M'.Wf := fun M' h1 h2 h3 h4 => ⟨by rw [h1]; exact Hq.out.wf.nb, by rw [h2]; exact Hq.out.wf.np, fun j hj => by unfold NA.blk; rw [h1, h2]; rw [h1] at hj; exact Hq.out.wf.len j hj, (fun u hu => by rw [h3] at hu; cases hu), Nat.le_trans h4 Hq.out.wf.armed, fun j hj => by unfold NA.blk; rw [h1]; rw [h1] at hj; exact Hq.out.wf.doom j hj⟩
     have Hq5 := hid (((((Hq.out.setHd 7 .nilFunc M .nilFunc rfl rfl Hq.out.wf).setHd 5 (.bool false) { M with off := false } .nilFunc rfl rfl (wfx _ rfl rfl Hwy.out (Nat.le_refl _))).setHd 4 (.int .i64 0) { M with off := false, armed := 0 } .nilFunc rfl rfl (wfx _ rfl rfl Hwy.out (Nat.zero_le _))).setHd 2 (.int .u64 0) { M with off := false, armed := 0, fence := 0 } .nilFunc rfl rfl (wfx _ rfl rfl Hwy.out (Nat.zero_le _))).setHd 3 (.int .i64 (wrap64 (M.boots + 1))) (woke M) .nilFunc (by unfold hdOf woke; rfl) rfl (woke_wf Hq.out.wf))
     have HF5 := hid (((((HF.out.set b 7 .nilFunc (.inl Hinb.out)).set b 5 (.bool false) (.inl Hinb.out)).set b 4 (.int .i64 0) (.inl Hinb.out)).set b 2 (.int .u64 0) (.inl Hinb.out)).set b 3 (.int .i64 (wrap64 (M.boots + 1))) (.inl Hinb.out))
     clear wfx
     go_wp2
     go_ret
     refine ⟨rfl, ?_, HF5.out⟩
     rw [HM.out]
     refine ⟨gb, (updV pv i (.slice none 0 0)), .nilFunc, AQ.toAR ?_ rfl⟩
     rw [grow_size (size_set ..), grow_size (size_set ..), grow_size (size_set ..), grow_size (size_set ..), grow_size (size_set ..)]
     exact Hq5.out
    ·have hcall := eraseC_half F b gb pv _ { N with way := none } i c1 c2 c3 ud cut w H0.out hui rfl b1 b2 hcut hdone
     have HM := hid (show R = woke (({ N with way := none } : NA).setB i { ({ N with way := none } : NA).blk i with half := decide (0 < (({ N with way := none } : NA).blk i).pages.length) }) from by
      rw [← HR.out]
      refine restart_eq N _ cut ?_
      unfold NA.fall
      rw [hway]
      simp only
      rw [if_neg hdone, if_pos hcut]
      rfl)
     clear hway hwf H0 hnot b1 b2 b3 hlen
     have hnf := neq_func
     have hnn := neq_nil
     go_enter Try.func35, Try.ntmps35
     go_wp2_with fail
     refine hcall.mono ?_
     rintro e w1 ⟨rfl, hq1, hf1⟩
     clear hcall k7
     have Hq := hid (hq1.grown w)
     have HF := hid (hf1.mono (fun g _ hg => (show F g from by rw [hg]; exact Hing.out)))
     have Hwy := hid (show (({ N with way := none } : NA).setB i { ({ N with way := none } : NA).blk i with half := decide (0 < (({ N with way := none } : NA).blk i).pages.length) }).way = none from rfl)
     clear hq1 hf1
     generalize (({ N with way := none } : NA).setB i { ({ N with way := none } : NA).blk i with half := decide (0 < (({ N with way := none } : NA).blk i).pages.length) }) = M at *
     go_upto_region 5 with (fail)
     have e7 := Hq.out.hd.cell 7
     have e2 : w1.cell? ⟨b, 2, none⟩ = some (.int .u64 M.fence) := Hq.out.hd.cell 2
     have e3 : w1.cell? ⟨b, 3, none⟩ = some (.int .i64 M.boots) := Hq.out.hd.cell 3
     have e4 : w1.cell? ⟨b, 4, none⟩ = some (.int .i64 (M.armed : Int)) := Hq.out.hd.cell 4
     have e5 : w1.cell? ⟨b, 5, none⟩ = some (.bool M.off) := Hq.out.hd.cell 5
     replace e7 := show w1.cell? ⟨b, 7, none⟩ = some _ from e7
     have f7 := Hq.out.hd.free 7
     have f5 := Hq.out.hd.free 5
     have f4 := Hq.out.hd.free 4
     have f3 := Hq.out.hd.free 3
     have f2 := Hq.out.hd.free 2
     have wfx : ∀ M' : NA, M'.bs = M.bs → M'.pages = M.pages → M'.way = none → M'.armed ≤ M.armed → M'.Wf := fun M' h1 h2 h3 h4 => ⟨by rw [h1]; exact Hq.out.wf.nb, by rw [h2]; exact Hq.out.wf.np, fun j hj => by unfold NA.blk; rw [h1, h2]; rw [h1] at hj; exact Hq.out.wf.len j hj, (fun u hu => by rw [h3] at hu; cases hu), Nat.le_trans h4 Hq.out.wf.armed, fun j hj => by unfold NA.blk; rw [h1]; rw [h1] at hj; exact Hq.out.wf.doom j hj⟩
     have Hq5 := hid (((((Hq.out.setHd 7 .nilFunc M .nilFunc rfl rfl Hq.out.wf).setHd 5 (.bool false) { M with off := false } .nilFunc rfl rfl (wfx _ rfl rfl Hwy.out (Nat.le_refl _))).setHd 4 (.int .i64 0) { M with off := false, armed := 0 } .nilFunc rfl rfl (wfx _ rfl rfl Hwy.out (Nat.zero_le _))).setHd 2 (.int .u64 0) { M with off := false, armed := 0, fence := 0 } .nilFunc rfl rfl (wfx _ rfl rfl Hwy.out (Nat.zero_le _))).setHd 3 (.int .i64 (wrap64 (M.boots + 1))) (woke M) .nilFunc (by unfold hdOf woke; rfl) rfl (woke_wf Hq.out.wf))
     have HF5 := hid (((((HF.out.set b 7 .nilFunc (.inl Hinb.out)).set b 5 (.bool false) (.inl Hinb.out)).set b 4 (.int .i64 0) (.inl Hinb.out)).set b 2 (.int .u64 0) (.inl Hinb.out)).set b 3 (.int .i64 (wrap64 (M.boots + 1))) (.inl Hinb.out))
     clear wfx
     go_wp2
     go_ret
     refine ⟨rfl, ?_, HF5.out⟩
     rw [HM.out]
     refine ⟨gb, pv, .nilFunc, AQ.toAR ?_ rfl⟩
     rw [grow_size (size_set ..), grow_size (size_set ..), grow_size (size_set ..), grow_size (size_set ..), grow_size (size_set ..)]
     exact Hq5.out
   ·have hcall := eraseC_no cut c1 c2 c3 w hcut
    have HM := hid (show R = woke { N with way := none } from by
     rw [← HR.out]
     refine restart_eq N _ cut ?_
     unfold NA.fall
     rw [hway]
     simp only
     rw [if_neg (by omega), if_neg hcut])
    have Hq := hid (H0.out.grown w)
    have HF := hid (Fr.refl F w)
    have Hwy := hid (show ({ N with way := none } : NA).way = none from rfl)
    clear hway hwf H0 hnot b1 b2 b3 hlen
    generalize ({ N with way := none } : NA) = M at *
    have hnf := neq_func
    have hnn := neq_nil
    go_enter Try.func35, Try.ntmps35
    go_wp2_with fail
    refine hcall.mono ?_
    rintro e w ⟨rfl, rfl⟩
    clear hcall k7
    go_upto_region 5 with (fail)
    have e7 := Hq.out.hd.cell 7
    have e2 : w.cell? ⟨b, 2, none⟩ = some (.int .u64 M.fence) := Hq.out.hd.cell 2
    have e3 : w.cell? ⟨b, 3, none⟩ = some (.int .i64 M.boots) := Hq.out.hd.cell 3
    have e4 : w.cell? ⟨b, 4, none⟩ = some (.int .i64 (M.armed : Int)) := Hq.out.hd.cell 4
    have e5 : w.cell? ⟨b, 5, none⟩ = some (.bool M.off) := Hq.out.hd.cell 5
    replace e7 := show w.cell? ⟨b, 7, none⟩ = some _ from e7
    have f7 := Hq.out.hd.free 7
    have f5 := Hq.out.hd.free 5
    have f4 := Hq.out.hd.free 4
    have f3 := Hq.out.hd.free 3
    have f2 := Hq.out.hd.free 2
    have wfx : ∀ M' : NA, M'.bs = M.bs → M'.pages = M.pages → M'.way = none → M'.armed ≤ M.armed → M'.Wf := fun M' h1 h2 h3 h4 => ⟨by rw [h1]; exact Hq.out.wf.nb, by rw [h2]; exact Hq.out.wf.np, fun j hj => by unfold NA.blk; rw [h1, h2]; rw [h1] at hj; exact Hq.out.wf.len j hj, (fun u hu => by rw [h3] at hu; cases hu), Nat.le_trans h4 Hq.out.wf.armed, fun j hj => by unfold NA.blk; rw [h1]; rw [h1] at hj; exact Hq.out.wf.doom j hj⟩
    have Hq5 := hid (((((Hq.out.setHd 7 .nilFunc M .nilFunc rfl rfl Hq.out.wf).setHd 5 (.bool false) { M with off := false } .nilFunc rfl rfl (wfx _ rfl rfl Hwy.out (Nat.le_refl _))).setHd 4 (.int .i64 0) { M with off := false, armed := 0 } .nilFunc rfl rfl (wfx _ rfl rfl Hwy.out (Nat.zero_le _))).setHd 2 (.int .u64 0) { M with off := false, armed := 0, fence := 0 } .nilFunc rfl rfl (wfx _ rfl rfl Hwy.out (Nat.zero_le _))).setHd 3 (.int .i64 (wrap64 (M.boots + 1))) (woke M) .nilFunc (by unfold hdOf woke; rfl) rfl (woke_wf Hq.out.wf))
    have HF5 := hid (((((HF.out.set b 7 .nilFunc (.inl Hinb.out)).set b 5 (.bool false) (.inl Hinb.out)).set b 4 (.int .i64 0) (.inl Hinb.out)).set b 2 (.int .u64 0) (.inl Hinb.out)).set b 3 (.int .i64 (wrap64 (M.boots + 1))) (.inl Hinb.out))
    clear wfx
    go_wp2
    go_ret
    refine ⟨rfl, ?_, HF5.out⟩
    rw [HM.out]
    refine ⟨gb, pv, .nilFunc, AQ.toAR ?_ rfl⟩
    rw [grow_size (size_set ..), grow_size (size_set ..), grow_size (size_set ..), grow_size (size_set ..), grow_size (size_set ..)]
    exact Hq5.out
end Go.Proofs.Ytpcbpljdiacbmaa.Nand

set_option linter.unusedVariables false
set_option linter.unusedSimpArgs false
namespace Go.Proofs.Ytpcbpljdiacbmaa.Nand
open Go.RowKit Go.Proofs.Ytpcbpljdiacbmaa.Kit

def NA.page (N : NA) (i p : Int) : List Int := (N.blk i.toNat).pages.getD p.toNat []
theorem Arr.grown {w w' : World} {F : Nat → Prop} {b : Nat} {N : NA} (h : Arr w' F b N) (w : World) : Arr w' (grow F w w') b N := by
 obtain ⟨gb, pv, wv, h⟩ := h
 exact ⟨gb, pv, wv, h.grown w⟩
/-- Why nothing is read at an address that is known to be one of a block. -/
def NA.readE2 (N : NA) (i : Nat) (p : Int) : Int := if p < 0 ∨ N.pages ≤ p then 1 else if (N.blk i).pages.length ≤ p then 5 else if (N.blk i).half then 4 else 0
theorem readE_eq {N : NA} {i : Nat} {p : Int} (h : N.atE (i : Int) = 0) : N.readE (i : Int) p = N.readE2 i p := by
 unfold NA.readE NA.readE2
 rw [if_neg (by rw [h]; simp)]
 rfl
theorem readE_no {N : NA} {i p : Int} (h : N.atE i ≠ 0) : N.readE i p = N.atE i := by
 unfold NA.readE
 rw [if_pos h]
theorem readE_ok {N : NA} {i p : Int} (h : N.readE i p = 0) : N.atE i = 0 ∧ 0 ≤ p ∧ p < N.pages ∧ p < (N.blk i.toNat).pages.length ∧ (N.blk i.toNat).half = false := by
 unfold NA.readE at h
 by_cases h0 : N.atE i = 0
 ·rw [if_neg (by rw [h0]; simp)] at h
  by_cases h1 : p < 0 ∨ N.pages ≤ p
  ·rw [if_pos h1] at h
   cases h
  ·rw [if_neg h1] at h
   by_cases h2 : ((N.blk i.toNat).pages.length : Int) ≤ p
   ·rw [if_pos h2] at h
    cases h
   ·rw [if_neg h2] at h
    cases hh : (N.blk i.toNat).half
    ·exact ⟨h0, by omega, by omega, by omega, rfl⟩
    ·rw [hh] at h
     cases h
 ·rw [if_pos h0] at h
  exact absurd h h0

set_option maxHeartbeats 4000000 in
theorem read_no (F : Nat → Prop) (b : Nat) (N : NA) (i p : Int) (w : World) (h : Arr w F b N) (he : N.readE i p ≠ 0) :
  Calls Try.prog 32 #[.pointer (some ⟨b, 0, none⟩), .int .i64 i, .int .i64 p] w fun e w' => e = .returned (.tuple #[.slice none 0 0, .int .i64 (N.readE i p)]) ∧ w' = w := by
 obtain ⟨gb, pv, wv, h⟩ := h
 by_cases ha : N.atE i = 0
 ·obtain ⟨hi0, hi1, ho⟩ := atE_zero ha
  obtain ⟨i, rfl⟩ := Int.eq_ofNat_of_zero_le hi0
  have hi : i < N.bs.length := by omega
  have hat := at_ok F b gb pv wv N i w h hi ho
  rw [readE_eq ha] at he ⊢
  obtain ⟨r, hr⟩ : ∃ r, N.readE2 i p = r := ⟨_, rfl⟩
  rw [hr] at he ⊢
  unfold NA.readE2 at hr
  have hnp := h.wf.np
  have hlen := h.wf.len i hi
  obtain ⟨-, c1, -, -, -, -, -, -⟩ := h.cells
  obtain ⟨⟨A', c', -, d0⟩, -, d2, -, -, -⟩ := h.recs i hi
  clear h ha hi0 hi1
  have hpg : (N.pages : Int) ≤ 32 := by omega
  by_cases hp0 : p < 0
  ·have Hr := hid (show (1 : Int) = r by rw [← hr, if_pos (.inl hp0)])
   clear hr
   generalize N.pages = pgs at *
   generalize (N.blk i).pages.length = len at *
   go_enter Try.func32, Try.ntmps32
   go_wp2_with fail
   refine hat.mono ?_
   rintro e w ⟨rfl, rfl⟩
   clear hat
   go_wp2
   go_ret2
   exact ⟨by (rw [← Hr.out]) <;> rfl, rfl⟩
  ·obtain ⟨p, rfl⟩ := Int.eq_ofNat_of_zero_le (show 0 ≤ p by omega)
   by_cases hp1 : N.pages ≤ p
   ·have Hr := hid (show (1 : Int) = r by rw [← hr, if_pos (.inr (by omega))])
    have hp1' : (N.pages : Int) ≤ (p : Int) := by omega
    clear hr
    generalize N.pages = pgs at *
    generalize (N.blk i).pages.length = len at *
    go_enter Try.func32, Try.ntmps32
    go_wp2_with fail
    refine hat.mono ?_
    rintro e w ⟨rfl, rfl⟩
    clear hat
    go_wp2
    go_ret2
    exact ⟨by (rw [← Hr.out]) <;> rfl, rfl⟩
   ·have hp1' : ¬ (N.pages : Int) ≤ (p : Int) := by omega
    rw [if_neg (show ¬ ((p : Int) < 0 ∨ (N.pages : Int) ≤ p) by omega)] at hr
    by_cases hpl : (N.blk i).pages.length ≤ p
    ·have Hr := hid (show (5 : Int) = r by rw [← hr, if_pos (by omega)])
     have hpl' : ((N.blk i).pages.length : Int) ≤ (p : Int) := by omega
     clear hr
     generalize N.pages = pgs at *
     generalize (N.blk i).pages.length = len at *
     go_enter Try.func32, Try.ntmps32
     go_wp2_with fail
     refine hat.mono ?_
     rintro e w ⟨rfl, rfl⟩
     clear hat
     go_wp2
     go_ret2
     exact ⟨by (rw [← Hr.out]) <;> rfl, rfl⟩
    ·have hpl' : ¬ ((N.blk i).pages.length : Int) ≤ (p : Int) := by omega
     rw [if_neg (by omega)] at hr
     cases hh : (N.blk i).half
     ·rw [hh] at hr
      exact absurd hr.symm he
     ·rw [hh] at hr d2
      have Hr := hid (show (4 : Int) = r from hr)
      clear hr hh
      generalize N.pages = pgs at *
      generalize (N.blk i).pages.length = len at *
      go_enter Try.func32, Try.ntmps32
      go_wp2_with fail
      refine hat.mono ?_
      rintro e w ⟨rfl, rfl⟩
      clear hat
      go_wp2
      go_ret2
      exact ⟨by (rw [← Hr.out]) <;> rfl, rfl⟩
 ·have hat := at_no F b gb pv wv N i w h ha
  rw [readE_no ha] at he ⊢
  obtain ⟨r, hr⟩ : ∃ r, N.atE i = r := ⟨_, rfl⟩
  rw [hr] at hat ha ⊢
  have hb : (r != 0) = true := by rw [bne_iff_ne]; exact ha
  clear hr h he
  go_enter Try.func32, Try.ntmps32
  go_wp2_with fail
  refine hat.mono ?_
  rintro e w ⟨rfl, rfl⟩
  clear hat
  go_wp2
  go_ret2
  exact ⟨rfl, rfl⟩
set_option maxHeartbeats 4000000 in
theorem read_yes (F : Nat → Prop) (b : Nat) (N : NA) (i p : Int) (w : World) (h : Arr w F b N) (he : N.readE i p = 0) :
  Calls Try.prog 32 #[.pointer (some ⟨b, 0, none⟩), .int .i64 i, .int .i64 p] w fun e w' => ∃ A c, e = .returned (.tuple #[.slice A 96 c, .int .i64 0]) ∧ w'.ownsRow w.heap.size 5 1 (.slice A 96 c) 96 ((N.page i p).map (Value.int .u8)) ∧ Below w.heap.size w w' := by
 obtain ⟨gb, pv, wv, h⟩ := h
 obtain ⟨ha, hp0, hp1, hp2, hh⟩ := readE_ok he
 obtain ⟨hi0, hi1, ho⟩ := atE_zero ha
 obtain ⟨i, rfl⟩ := Int.eq_ofNat_of_zero_le hi0
 obtain ⟨p, rfl⟩ := Int.eq_ofNat_of_zero_le hp0
 rw [show ((i : Int)).toNat = i by omega] at hp2 hh
 unfold NA.page
 rw [show ((i : Int)).toNat = i by omega, show ((p : Int)).toNat = p by omega]
 have hi : i < N.bs.length := by omega
 have hp2' : p < (N.blk i).pages.length := by omega
 have hat := at_ok F b gb pv wv N i w h hi ho
 obtain ⟨-, c1, -, -, -, -, -, -⟩ := h.cells
 obtain ⟨⟨A', c', hpe, d0⟩, -, d2, -, -, -⟩ := h.recs i hi
 rw [hh] at d2
 obtain ⟨xs, ho1, hf1, hpg⟩ := h.pgs i hi
 obtain ⟨u, hu, hul, hub⟩ := hpg p hp2'
 obtain ⟨Au, cu, hue⟩ := own_slice hub.1
 rw [hul] at hue
 subst hue
 rw [hpe] at ho1
 obtain ⟨g, cap, hge, -, -⟩ := World.ownsRow.form ho1 (by omega)
 injection hge with hA _ hc
 subst hA hc
 have hcell : w.cell? ⟨g, p, none⟩ = some (.slice Au 96 cu) := by
  have := ho1.cells (g := g) rfl p (.slice Au 96 cu) hu
  rwa [WideShapes.add_plain, Nat.zero_add] at this
 have hn96 := own_reads (k := .u8) (by have := hub.1; rw [hul] at this; exact this) hub.2.1
 have hcl := clone_own Au 96 cu _ w hn96.2 (by decide) (by decide)
 have hnp := h.wf.np
 have hlen := h.wf.len i hi
 have hle32 : (N.blk i).pages.length ≤ 32 := by omega
 have hpI : (p : Int) < ((N.blk i).pages.length : Int) := hp2
 clear h hpg hub ho1 hu hul hn96 hf1 hh ha hi0 hp0
 generalize (N.blk i).pages.getD p [] = pg at *
 generalize (N.blk i).pages.length = len at *
 generalize N.pages = pgs at *
 go_enter Try.func32, Try.ntmps32
 go_wp2_with fail
 refine hat.mono ?_
 rintro e w ⟨rfl, rfl⟩
 clear hat
 go_wp2_with fail
 refine hcl.mono ?_
 rintro e w' ⟨A2, c2, rfl, ho2, hB2⟩
 replace ho2 := hid ho2
 replace hB2 := hid hB2
 clear hcl
 go_wp2
 go_ret2
 exact ⟨A2, c2, rfl, ho2.out, hB2.out⟩

theorem prog_eq {N : NA} {i p : Nat} {q : List Int} {ep : Int} (h : N.progE (i : Int) (p : Int) q.length ep = 0) : N.prog (i : Int) (p : Int) q ep =
  if (N.begun i).off then ({ N.begun i with way := some ⟨i, some q, ((N.begun i).blk i).dead⟩ }, 9)
  else if ((N.begun i).blk i).dead then ((N.begun i).setB i { ((N.begun i).blk i).add (tornL q 0) with failed := true }, 8)
  else ((N.begun i).setB i (((N.begun i).blk i).add q), 0) := by
 unfold NA.prog
 rw [if_neg (by rw [h]; simp)]
 rfl
theorem progE_ok {N : NA} {i p : Int} {n : Nat} {ep : Int} (h : N.progE i p n ep = 0) : N.atE i = 0 ∧ 0 ≤ p ∧ p < N.pages ∧ n = 96 ∧ p = (N.blk i.toNat).pages.length ∧ (N.blk i.toNat).half = false ∧ N.fence ≤ ep := by
 unfold NA.progE at h
 by_cases h0 : N.atE i = 0
 ·rw [if_neg (by rw [h0]; simp)] at h
  by_cases h1 : p < 0 ∨ N.pages ≤ p
  ·rw [if_pos h1] at h
   cases h
  ·rw [if_neg h1] at h
   by_cases h2 : n ≠ 96
   ·rw [if_pos h2] at h
    cases h
   ·rw [if_neg h2] at h
    by_cases h3 : p ≠ (N.blk i.toNat).pages.length ∨ (N.blk i.toNat).half = true
    ·rw [if_pos h3] at h
     cases h
    ·rw [if_neg h3] at h
     by_cases h4 : ep < N.fence
     ·rw [if_pos h4] at h
      cases h
     ·refine ⟨h0, by omega, by omega, by omega, ?_, ?_, by omega⟩
      ·exact Classical.byContradiction fun e => h3 (.inl e)
      ·cases hh : (N.blk i.toNat).half
       ·rfl
       ·exact absurd (.inr hh) h3
 ·rw [if_pos h0] at h
  exact absurd h h0
theorem program_any (F : Nat → Prop) (b : Nat) (N : NA) (i p : Int) (A : Option Addr) (n c : Nat) (q : List Int) (ep : Int) (w : World) (h : Arr w F b N) (hz : Nums w .u8 A n q) (hn : n ≤ 140737488355328) :
  Calls Try.prog 79 #[.pointer (some ⟨b, 0, none⟩), .int .i64 i, .int .i64 p, .slice A n c, .int .u64 ep] w fun e w' => e = .returned (.int .i64 (N.prog i p q ep).2) ∧ Arr w' (grow F w w') b (N.prog i p q ep).1 ∧ Fr F w w' := by
 obtain ⟨gb, pv, wv, h⟩ := h
 by_cases he : N.progE i p n ep = 0
 ·obtain ⟨ha, hp0, hp1, rfl, hpl, hh, hf⟩ := progE_ok he
  obtain ⟨hi0, hi1, ho⟩ := atE_zero ha
  obtain ⟨i, rfl⟩ := Int.eq_ofNat_of_zero_le hi0
  obtain ⟨p, rfl⟩ := Int.eq_ofNat_of_zero_le hp0
  rw [show ((i : Int)).toNat = i by omega] at hpl hh
  rw [prog_eq (by rw [hz.len]; exact he)]
  have hyp : N.atE (i : Int) = 0 ∧ (p = (N.blk i).pages.length ∧ p < N.pages) ∧ (N.blk i).half = false ∧ N.fence ≤ ep := ⟨ha, ⟨by omega, by omega⟩, hh, hf⟩
  cases ho2 : (N.begun i).off
  ·cases hd : ((N.begun i).blk i).dead
   ·rw [if_neg (by simp), if_neg (by simp)]
    exact prog_on F b gb pv wv N i p A c q ep w h hz hyp ho2 hd
   ·rw [if_neg (by simp), if_pos rfl]
    exact prog_dead F b gb pv wv N i p A c q ep w h hz hyp ho2 hd
  ·rw [if_pos rfl]
   exact prog_off F b gb pv wv N i p A c q ep w h hz hyp ho2
 ·have e1 : N.prog i p q ep = (N, N.progE i p n ep) := by
   unfold NA.prog
   rw [hz.len, if_pos he]
  rw [e1]
  refine (prog_no F b gb pv wv N i p A n c ep w h hn he).mono fun e w' hw => ?_
  exact ⟨hw.1, ⟨gb, pv, wv, (h.later hw.2).grown w⟩, Fr.of_below hw.2⟩
theorem erase_any (F : Nat → Prop) (b : Nat) (N : NA) (i ep : Int) (w : World) (h : Arr w F b N) :
  Calls Try.prog 64 #[.pointer (some ⟨b, 0, none⟩), .int .i64 i, .int .u64 ep] w fun e w' => e = .returned (.int .i64 (N.erase i ep).2) ∧ Arr w' (grow F w w') b (N.erase i ep).1 ∧ Fr F w w' := by
 obtain ⟨gb, pv, wv, h⟩ := h
 by_cases he : N.eraseE i ep = 0
 ·have ha : N.atE i = 0 ∧ N.fence ≤ ep := by
   unfold NA.eraseE at he
   by_cases h0 : N.atE i = 0
   ·rw [if_neg (by rw [h0]; simp)] at he
    by_cases h1 : ep < N.fence
    ·rw [if_pos h1] at he
     cases he
    ·exact ⟨h0, by omega⟩
   ·rw [if_pos h0] at he
    exact absurd he h0
  obtain ⟨hi0, hi1, ho⟩ := atE_zero ha.1
  obtain ⟨i, rfl⟩ := Int.eq_ofNat_of_zero_le hi0
  exact erase_go F b gb pv wv N i ep w h (by omega) ho ha.2
 ·have e1 : N.erase i ep = (N, N.eraseE i ep) := by
   unfold NA.erase
   rw [if_pos he]
  rw [e1]
  refine (erase_no F b gb pv wv N i ep w h he).mono fun e w' hw => ?_
  exact ⟨hw.1, ⟨gb, pv, wv, (h.later hw.2).grown w⟩, Fr.of_below hw.2⟩
end Go.Proofs.Ytpcbpljdiacbmaa.Nand

set_option linter.unusedVariables false
set_option linter.unusedSimpArgs false
namespace Go.Proofs.Ytpcbpljdiacbmaa.Nand
open Go.RowKit Go.Proofs.Ytpcbpljdiacbmaa.Kit

theorem newA_len (n p : Nat) (bad : List Int) : (newA n p bad).bs.length = n := by simp [newA]
theorem newA_blk (n p : Nat) (bad : List Int) (i : Nat) (h : i < n) : (newA n p bad).blk i = newB (decide ((i : Int) ∈ bad)) := by
 unfold NA.blk newA
 simp only
 rw [List.getD_eq_getElem?_getD, List.getElem?_map, List.getElem?_range h]
 rfl
theorem newA_snoc (n p : Nat) (bad : List Int) (x : Nat) (h : x < n) : (newA n p bad).setB x { (newA n p bad).blk x with dead := true, failed := true } = newA n p (bad ++ [(x : Int)]) := by
 unfold NA.setB
 rw [newA_blk n p bad x h]
 unfold newA
 simp only
 congr 1
 refine List.ext_getElem (by simp) (fun j h1 h2 => ?_)
 have hj : j < n := by simpa using h2
 rw [List.getElem_set]
 simp only [List.getElem_map, List.getElem_range]
 by_cases e : x = j
 ·subst e
  rw [if_pos rfl]
  unfold newB
  simp
 ·rw [if_neg e]
  congr 1
  have e2 : ((j : Int) ∈ bad ++ [(x : Int)]) ↔ ((j : Int) ∈ bad) := by
   rw [List.mem_append, List.mem_singleton]
   constructor
   ·rintro (h | h)
    ·exact h
    ·omega
   ·exact .inl
  simp only [e2]
theorem newA_wf (n p : Nat) (bad : List Int) (hn : 1 ≤ n ∧ n ≤ 64) (hp : 1 ≤ p ∧ p ≤ 32) : (newA n p bad).Wf := by
 refine ⟨by rw [newA_len]; exact hn, hp, fun i hi => ?_, (fun u hu => nomatch hu), Nat.zero_le _, fun i hi => ?_⟩
 ·rw [newA_len] at hi
  rw [newA_blk n p bad i hi]
  exact Nat.zero_le _
 ·rw [newA_len] at hi
  rw [newA_blk n p bad i hi]
  exact Nat.zero_le _
def zB : Array Value := #[.slice none 0 0, .int .i64 0, .bool false, .bool false, .bool false, .int .i64 0]
def newF (w w' : World) : Nat → Prop := fun g => w.heap.size ≤ g ∧ g < w'.heap.size
theorem newAR (w W : World) (n p : Nat) (hn : 1 ≤ n ∧ n ≤ 64) (hp : 1 ≤ p ∧ p ≤ 32) (hg : Blk W w.heap.size (madeCells zB (n * 6)) 70) (hb : Blk W (w.heap.size + 1) (hdOf w.heap.size (newA n p []) .nilFunc) 67) : AR W (newF w W) (w.heap.size + 1) w.heap.size (fun _ => .slice none 0 0) .nilFunc (newA n p []) := by
 have h1 := hg.lt
 have h2 := hb.lt
 refine ⟨hb, ⟨_, hg, by rw [newA_len]; simp [size_madeCells], fun i hi k v hv => ?_⟩, fun i hi => ?_, fun i j _ _ _ g hg => (nomatch hg), rfl, ⟨by omega, h2⟩, ⟨Nat.le_refl _, h1⟩, fun g hg => hg.2, newA_wf n p [] hn hp⟩
 ·rw [newA_len] at hi
  have hk := recOf_lt hv
  rw [show (newA n p []).bs.getD i default = (newA n p []).blk i from rfl, newA_blk n p [] i hi] at hv
  have hsz : i * 6 + k < n * 6 := by omega
  have : (madeCells zB (n * 6))[i * 6 + k]? = some ((recOf (.slice none 0 0) (newB false))[k]'(by exact hk)) := by
   rw [Array.getElem?_eq_getElem (by simp [size_madeCells]; exact hsz)]
   congr 1
   have hm : (i * 6 + k) % 6 = k := by omega
   have hz6 : zB.size = 6 := rfl
   have : k = 0 ∨ k = 1 ∨ k = 2 ∨ k = 3 ∨ k = 4 ∨ k = 5 := by omega
   rcases this with rfl | rfl | rfl | rfl | rfl | rfl <;> simp [madeCells, hz6, hm, zB, recOf, newB]
  rw [this]
  rw [← hv]
  simp only [List.not_mem_nil, decide_false]
  exact (List.getElem?_eq_getElem hk).symm
 ·rw [newA_len] at hi
  rw [newA_blk n p [] i hi]
  exact nilPages _ _

set_option maxRecDepth 100000 in
set_option maxHeartbeats 8000000 in
theorem new_any (nb pg : Nat) (A : Option Addr) (m c : Nat) (bad : List Int) (w : World) (hn : 1 ≤ nb ∧ nb ≤ 64) (hp : 1 ≤ pg ∧ pg ≤ 32) (hz : Nums w .i64 A m bad) (hbad : ∀ x ∈ bad, 0 ≤ x ∧ x < (nb : Int)) :
  Calls Try.prog 15 #[.int .i64 (nb : Int), .int .i64 (pg : Int), .slice A m c] w fun e w' => ∃ b, e = .returned (.tuple #[.pointer (some ⟨b, 0, none⟩), .int .i64 0]) ∧ Arr w' (newF w w') b (newA nb pg bad) ∧ Below w.heap.size w w' := by
 obtain ⟨i0, hi0, hz0⟩ : ∃ i : TypeInfo, Try.prog.info? 70 = some i ∧ i.zero = some (.agg zB) ∧ i.size = 6 ∧ i.bytes ≤ 64 := ⟨_, rfl, rfl, rfl, by decide⟩
 have m0 : ∀ W : World, (Instr.makeSlice 64 (.int .i64 (nb : Int)) (.int .i64 (nb : Int))).run Try.prog W = .ok (.slice (some ⟨W.heap.size, 0, none⟩) nb nb) (W.alloc (.cells (madeCells zB (nb * 6)) 70)) := fun W => by
  have := run_make (P := Try.prog) W 64 70 i0 _ Try.underlying64 hi0 hz0.1 .i64 .i64 (nb : Int) (nb : Int) (by omega) (Int.le_refl _) (by have := hz0.2.2; have h2 : (i0.bytes : Int) * (nb : Int) ≤ 64 * 64 := Int.mul_le_mul (by omega) (by omega) (by omega) (by omega); omega) (by omega)
  rw [hz0.2.1, Int.toNat_natCast] at this
  exact this
 clear hi0 hz0
 have h1 : (1 : Int) ≤ (nb : Int) := by omega
 have h2 : (nb : Int) ≤ 64 := by omega
 have h3 : (1 : Int) ≤ (pg : Int) := by omega
 have h4 : (pg : Int) ≤ 32 := by omega
 have hm := hz.most
 have Hl := hid hz.len
 have Hz := hid hz
 have HAR := hid (newAR w)
 have Hbad := hid hbad
 clear hz hbad
 go_enter Try.func15, Try.ntmps15
 go_upto_region 4 with (fail)
 obtain ⟨gb, hgb⟩ : ∃ g, w.heap.size = g := ⟨_, rfl⟩
 obtain ⟨zz, hzz⟩ : ∃ z, madeCells zB (nb * 6) = z := ⟨_, rfl⟩
 obtain ⟨w2, hw2⟩ : ∃ W, (w.alloc (.cells (madeCells zB (nb * 6)) 70)).alloc (.cells (hdOf w.heap.size (newA nb pg []) .nilFunc) 67) = W := ⟨_, rfl⟩
 have hA2 : AR w2 (newF w w2) (w.heap.size + 1) w.heap.size (fun _ => .slice none 0 0) .nilFunc (newA nb pg []) := by
  rw [← hw2]
  refine HAR.out _ nb pg hn hp ((Blk.new w _ _).alloc _) ?_
  have := Blk.new (w.alloc (.cells (madeCells zB (nb * 6)) 70)) (hdOf w.heap.size (newA nb pg []) .nilFunc) 67
  simpa using this
 have hB2 : Below w.heap.size w w2 := by rw [← hw2]; exact ((Below.refl _ _).alloc (Nat.le_refl _) _).alloc (by simp) _
 have hgoal : (w.alloc (.cells (madeCells zB (nb * 6)) 70)).alloc (.cells #[.slice (some ⟨w.heap.size, 0, none⟩) nb nb, .int .i64 (pg : Int), .int .u64 0, .int .i64 0, .int .i64 0, .bool false, .int .i64 0, .nilFunc] 67) = w2 := by
  rw [← hw2]
  unfold hdOf
  rw [newA_len]
  rfl
 rw [hgoal]
 clear hgoal hw2 hzz m0
 rw [hgb] at hA2 ⊢
 have Hgb := hid hgb
 clear hgb
 obtain ⟨b, hb⟩ : ∃ b, gb + 1 = b := ⟨_, rfl⟩
 rw [hb] at hA2 ⊢
 clear hb
 go_wp2
 go_loopw [32] (fun i w' => ∃ k : Nat, k ≤ m ∧ i = .int .i64 (k : Int) ∧ AR w' (newF w w') b gb (fun _ => .slice none 0 0) .nilFunc (newA nb pg (bad.take k)) ∧ Below w.heap.size w w') (fun i _ => m - (intOf i).toNat)
 case atStart => exact ⟨0, by omega, rfl, hA2, hB2⟩
 case round =>
  clear hA2 hB2
  obtain ⟨k, hk, rfl, hA, hB⟩ := hrel
  by_cases hlt : k < m
  ·obtain ⟨bz, oz, rfl, hcz⟩ := (Hz.out.below hB).at_ k hlt
   have hmem : bad.getD k 0 ∈ bad := by
    rw [List.getD_eq_getElem?_getD, List.getElem?_eq_getElem (by rw [Hl.out]; exact hlt)]
    exact List.getElem_mem _
   obtain ⟨hx0, hx1⟩ := Hbad.out _ hmem
   obtain ⟨x, hx⟩ := Int.eq_ofNat_of_zero_le hx0
   have htk : bad.take (k + 1) = bad.take k ++ [(x : Int)] := by
    rw [List.take_succ_eq_append_getElem (by rw [Hl.out]; exact hlt), ← hx, List.getD_eq_getElem?_getD, List.getElem?_eq_getElem (by rw [Hl.out]; exact hlt)]
    rfl
   rw [hx] at hcz hx1
   have hxn : x < nb := by omega
   have hxl : x < (newA nb pg (bad.take k)).bs.length := by rw [newA_len]; exact hxn
   have k0 : wr.cell? ⟨b, 0, none⟩ = some (.slice (some ⟨gb, 0, none⟩) nb nb) := by
    have := hA.hd.cell 0
    rw [show (hdOf gb (newA nb pg (bad.take k)) Value.nilFunc)[0]? = some (.slice (some ⟨gb, 0, none⟩) (newA nb pg (bad.take k)).bs.length (newA nb pg (bad.take k)).bs.length) from rfl, newA_len] at this
    exact this
   obtain ⟨-, -, -, d3, d4, -⟩ := hA.recs x hxl
   rw [newA_blk nb pg _ x hxn] at d3 d4
   have f3 := hA.row.free (x * 6 + 3)
   have f4 := hA.row.free (x * 6 + 4)
   generalize hdv : decide ((x : Int) ∈ bad.take k) = dv at d3 d4
   have d3 : wr.cell? ⟨gb, x * 6 + 3, none⟩ = some (.bool dv) := d3
   have d4 : wr.cell? ⟨gb, x * 6 + 4, none⟩ = some (.bool dv) := d4
   have wfx : ∀ y : NB, y.pages = [] → y.doom = 0 → ((newA nb pg (bad.take k)).setB x y).Wf := fun y h1 h2 => hA.wf.setB x y hxl (by rw [h1, newA_blk nb pg _ x hxn]; rfl) (by rw [h2]; exact Nat.zero_le _)
   have hA1 := hA.setRec x 3 (.bool true) { (newA nb pg (bad.take k)).blk x with dead := true } hxl (by decide) rfl rfl (wfx _ (by rw [newA_blk nb pg _ x hxn]; rfl) (by rw [newA_blk nb pg _ x hxn]; rfl))
   have hA2 := hA1.setRec x 4 (.bool true) { (newA nb pg (bad.take k)).blk x with dead := true, failed := true } (by rw [len_set]; exact hxl) (by decide) (by rw [blk_set _ _ _ hxl, if_pos rfl]; rfl) (by rw [blk_set _ _ _ hxl, if_pos rfl]) (by rw [setB_setB]; exact wfx _ (by rw [newA_blk nb pg _ x hxn]; rfl) (by rw [newA_blk nb pg _ x hxn]; rfl))
   rw [setB_setB, newA_snoc nb pg _ x hxn, ← htk] at hA2
   have HS1 := hid (show (wr.setCell ⟨gb, x * 6 + 3, none⟩ (.bool true)).cell? ⟨b, 0, none⟩ = some (.slice (some ⟨gb, 0, none⟩) nb nb) from by
    have := hA1.hd.cell 0
    rw [show (hdOf gb ((newA nb pg (bad.take k)).setB x { (newA nb pg (bad.take k)).blk x with dead := true }) Value.nilFunc)[0]? = some (.slice (some ⟨gb, 0, none⟩) ((newA nb pg (bad.take k)).setB x { (newA nb pg (bad.take k)).blk x with dead := true }).bs.length ((newA nb pg (bad.take k)).setB x { (newA nb pg (bad.take k)).blk x with dead := true }).bs.length) from rfl, len_set, newA_len] at this
    exact this)
   have HS2 := hid (show ((wr.setCell ⟨gb, x * 6 + 3, none⟩ (.bool true)).setCell ⟨gb, x * 6 + 4, none⟩ (.bool true)).cell? ⟨b, 0, none⟩ = some (.slice (some ⟨gb, 0, none⟩) nb nb) from by
    have := hA2.hd.cell 0
    rw [show (hdOf gb (newA nb pg (bad.take (k + 1))) Value.nilFunc)[0]? = some (.slice (some ⟨gb, 0, none⟩) (newA nb pg (bad.take (k + 1))).bs.length (newA nb pg (bad.take (k + 1))).bs.length) from rfl, newA_len] at this
    exact this)
   have hgb0 : w.heap.size ≤ gb := by rw [Hgb.out]; exact Nat.le_refl _
   have HB2 := hid (((hB.setCell (p := (⟨gb, x * 6 + 3, none⟩ : Addr)) hgb0 (.bool true)).setCell (p := (⟨gb, x * 6 + 4, none⟩ : Addr)) hgb0 (.bool true)).drewB 1)
   have HA2 := hid (show AR (((wr.setCell ⟨gb, x * 6 + 3, none⟩ (.bool true)).setCell ⟨gb, x * 6 + 4, none⟩ (.bool true)).drewN 1) (newF w (((wr.setCell ⟨gb, x * 6 + 3, none⟩ (.bool true)).setCell ⟨gb, x * 6 + 4, none⟩ (.bool true)).drewN 1)) b gb (fun _ => .slice none 0 0) .nilFunc (newA nb pg (bad.take (k + 1))) from by
    have e : newF w (((wr.setCell ⟨gb, x * 6 + 3, none⟩ (.bool true)).setCell ⟨gb, x * 6 + 4, none⟩ (.bool true)).drewN 1) = newF w wr := by
     unfold newF
     rw [show (((wr.setCell ⟨gb, x * 6 + 3, none⟩ (.bool true)).setCell ⟨gb, x * 6 + 4, none⟩ (.bool true)).drewN 1).heap.size = wr.heap.size from by rw [show ∀ W : World, (W.drewN 1).heap.size = W.heap.size from fun _ => rfl, size_set, size_set]]
    rw [e]
    exact hA2.drewN 1)
   have hxI : (x : Int) < (nb : Int) := by omega
   clear hA hA1 hA2 hB wfx hdv hmem hx hx0 htk hxl
   go_wp2_with fail
   refine wp_region_held_drew (S := (fun w' => w'.cell? ⟨b, 0, none⟩ = some (.slice (some ⟨gb, 0, none⟩) nb nb))) (by kernel_rfl) ?hSnewNz (fun hHeld => ?restNz)
   case hSnewNz => ((try dsimp only); exact k0)
   refine wpAnyH_take (i := 0) (oi := ?oiNt2x0) (v := ?vNt2x0) ?hoNt2x0 ?h1Nt2x0 ?h2Nt2x0 ?h3Nt2x0 ?hqNt2x0 (Or.inl ⟨?h4Nt2x0, ?hyNt2x0⟩) (by assumption) ?restNt2x0
   case hoNt2x0 => (simp only [qa, qb, qc]; rfl)
   case h1Nt2x0 => kernel_rfl
   case h2Nt2x0 => kernel_rfl
   case h3Nt2x0 => kernel_rfl
   case h4Nt2x0 => rfl
   case hqNt2x0 => exact fun _ _ _ h => h
   case hyNt2x0 => (intro w hSw; (try dsimp only at hSw); go_simp <;> with_reducible rfl)
   (try simp only [Act.put, qd, qe, qf])
   refine wpAnyH_take (i := 1) (oi := ?oiNt4x1) (v := ?vNt4x1) ?hoNt4x1 ?h1Nt4x1 ?h2Nt4x1 ?h3Nt4x1 ?hqNt4x1 (Or.inl ⟨?h4Nt4x1, ?hyNt4x1⟩) (by assumption) ?restNt4x1
   case hoNt4x1 => (simp only [qa, qb, qc]; rfl)
   case h1Nt4x1 => kernel_rfl
   case h2Nt4x1 => kernel_rfl
   case h3Nt4x1 => kernel_rfl
   case h4Nt4x1 => rfl
   case hqNt4x1 => exact fun _ _ _ h => h
   case hyNt4x1 => (intro w hSw; (try dsimp only at hSw); go_simp <;> with_reducible rfl)
   (try simp only [Act.put, qd, qe, qf])
   refine wpAnyH_take (i := 2) (oi := ?oiNt6x2) (v := ?vNt6x2) ?hoNt6x2 ?h1Nt6x2 ?h2Nt6x2 ?h3Nt6x2 ?hqNt6x2 (Or.inl ⟨?h4Nt6x2, ?hyNt6x2⟩) (by assumption) ?restNt6x2
   case hoNt6x2 => (simp only [qa, qb, qc]; rfl)
   case h1Nt6x2 => kernel_rfl
   case h2Nt6x2 => kernel_rfl
   case h3Nt6x2 => kernel_rfl
   case h4Nt6x2 => rfl
   case hqNt6x2 => exact fun _ _ _ h => h
   case hyNt6x2 => (intro w hSw; (try dsimp only at hSw); go_simp <;> with_reducible rfl)
   (try simp only [Act.put, qd, qe, qf])
   refine wpAnyH_take (i := 3) (oi := ?oiNt8x3) (v := ?vNt8x3) ?hoNt8x3 ?h1Nt8x3 ?h2Nt8x3 ?h3Nt8x3 ?hqNt8x3 (Or.inl ⟨?h4Nt8x3, ?hyNt8x3⟩) (by assumption) ?restNt8x3
   case hoNt8x3 => (simp only [qa, qb, qc]; rfl)
   case h1Nt8x3 => kernel_rfl
   case h2Nt8x3 => kernel_rfl
   case h3Nt8x3 => kernel_rfl
   case h4Nt8x3 => rfl
   case hqNt8x3 => exact fun _ _ _ h => h
   case hyNt8x3 => (intro w hSw; (try dsimp only at hSw); go_simp <;> with_reducible rfl)
   (try simp only [Act.put, qd, qe, qf])
   refine wpAnyH_take (i := 4) (oi := ?oiNt10x4) (v := ?vNt10x4) ?hoNt10x4 ?h1Nt10x4 ?h2Nt10x4 ?h3Nt10x4 ?hqNt10x4 (Or.inl ⟨?h4Nt10x4, ?hyNt10x4⟩) (by assumption) ?restNt10x4
   case hoNt10x4 => (simp only [qa, qb, qc]; rfl)
   case h1Nt10x4 => kernel_rfl
   case h2Nt10x4 => kernel_rfl
   case h3Nt10x4 => kernel_rfl
   case h4Nt10x4 => rfl
   case hqNt10x4 => exact fun _ _ _ h => h
   case hyNt10x4 => (intro w hSw; (try dsimp only at hSw); go_simp <;> with_reducible rfl)
   (try simp only [Act.put, qd, qe, qf])
   refine wpAnyH_take (i := 5) (oi := ?oiNt12x5) (v := ?vNt12x5) ?hoNt12x5 ?h1Nt12x5 ?h2Nt12x5 ?h3Nt12x5 ?hqNt12x5 (Or.inl ⟨?h4Nt12x5, ?hyNt12x5⟩) (by assumption) ?restNt12x5
   case hoNt12x5 => (simp only [qa, qb, qc]; rfl)
   case h1Nt12x5 => kernel_rfl
   case h2Nt12x5 => kernel_rfl
   case h3Nt12x5 => kernel_rfl
   case h4Nt12x5 => rfl
   case hqNt12x5 => exact fun _ _ _ h => h
   case hyNt12x5 => (intro w hSw; (try dsimp only at hSw); go_simp <;> with_reducible rfl)
   (try simp only [Act.put, qd, qe, qf])
   refine wpAnyH_take (i := 6) (oi := ?oiNt14x6) (v := ?vNt14x6) ?hoNt14x6 ?h1Nt14x6 ?h2Nt14x6 ?h3Nt14x6 ?hqNt14x6 (Or.inl ⟨?h4Nt14x6, ?hyNt14x6⟩) (by assumption) ?restNt14x6
   case hoNt14x6 => (simp only [qa, qb, qc]; rfl)
   case h1Nt14x6 => kernel_rfl
   case h2Nt14x6 => kernel_rfl
   case h3Nt14x6 => kernel_rfl
   case h4Nt14x6 => rfl
   case hqNt14x6 => exact fun _ _ _ h => h
   case hyNt14x6 => (intro w hSw; (try dsimp only at hSw); go_simp <;> with_reducible rfl)
   (try simp only [Act.put, qd, qe, qf])
   refine wpAnyH_take (i := 7) (oi := ?oiNt16x7) (v := ?vNt16x7) ?hoNt16x7 ?h1Nt16x7 ?h2Nt16x7 ?h3Nt16x7 ?hqNt16x7 (Or.inl ⟨?h4Nt16x7, ?hyNt16x7⟩) (by assumption) ?restNt16x7
   case hoNt16x7 => (simp only [qa, qb, qc]; rfl)
   case h1Nt16x7 => kernel_rfl
   case h2Nt16x7 => kernel_rfl
   case h3Nt16x7 => kernel_rfl
   case h4Nt16x7 => rfl
   case hqNt16x7 => exact fun _ _ _ h => h
   case hyNt16x7 => (intro w hSw; (try dsimp only at hSw); go_simp <;> with_reducible rfl)
   (try simp only [Act.put, qd, qe, qf])
   refine wpAnyH_take (i := 8) (oi := ?oiNt18x8) (v := ?vNt18x8) ?hoNt18x8 ?h1Nt18x8 ?h2Nt18x8 ?h3Nt18x8 ?hqNt18x8 (Or.inl ⟨?h4Nt18x8, ?hyNt18x8⟩) (by assumption) ?restNt18x8
   case hoNt18x8 => (simp only [qa, qb, qc]; rfl)
   case h1Nt18x8 => kernel_rfl
   case h2Nt18x8 => kernel_rfl
   case h3Nt18x8 => kernel_rfl
   case h4Nt18x8 => rfl
   case hqNt18x8 => exact fun _ _ _ h => h
   case hyNt18x8 => (intro w hSw; (try dsimp only at hSw); go_simp <;> with_reducible rfl)
   (try simp only [Act.put, qd, qe, qf])
   refine wpAnyH_take (i := 9) (oi := ?oiNt20x9) (v := ?vNt20x9) ?hoNt20x9 ?h1Nt20x9 ?h2Nt20x9 ?h3Nt20x9 ?hqNt20x9 (Or.inl ⟨?h4Nt20x9, ?hyNt20x9⟩) (by assumption) ?restNt20x9
   case hoNt20x9 => (simp only [qa, qb, qc]; rfl)
   case h1Nt20x9 => kernel_rfl
   case h2Nt20x9 => kernel_rfl
   case h3Nt20x9 => kernel_rfl
   case h4Nt20x9 => rfl
   case hqNt20x9 => exact fun _ _ _ h => h
   case hyNt20x9 => (intro w hSw; (try dsimp only at hSw); go_simp <;> with_reducible rfl)
   (try simp only [Act.put, qd, qe, qf])
   refine wpAnyH_take (i := 10) (oi := ?oiNt22x10) (v := ?vNt22x10) ?hoNt22x10 ?h1Nt22x10 ?h2Nt22x10 ?h3Nt22x10 ?hqNt22x10 (Or.inl ⟨?h4Nt22x10, ?hyNt22x10⟩) (by assumption) ?restNt22x10
   case hoNt22x10 => (simp only [qa, qb, qc]; rfl)
   case h1Nt22x10 => kernel_rfl
   case h2Nt22x10 => kernel_rfl
   case h3Nt22x10 => kernel_rfl
   case h4Nt22x10 => rfl
   case hqNt22x10 => exact fun _ _ _ h => h
   case hyNt22x10 => (intro w hSw; (try dsimp only at hSw); go_simp <;> with_reducible rfl)
   (try simp only [Act.put, qd, qe, qf])
   refine wpAnyH_take (i := 11) (oi := ?oiNt24x11) (v := ?vNt24x11) ?hoNt24x11 ?h1Nt24x11 ?h2Nt24x11 ?h3Nt24x11 ?hqNt24x11 (Or.inl ⟨?h4Nt24x11, ?hyNt24x11⟩) (by assumption) ?restNt24x11
   case hoNt24x11 => (simp only [qa, qb, qc]; rfl)
   case h1Nt24x11 => kernel_rfl
   case h2Nt24x11 => kernel_rfl
   case h3Nt24x11 => kernel_rfl
   case h4Nt24x11 => rfl
   case hqNt24x11 => exact fun _ _ _ h => h
   case hyNt24x11 => (intro w hSw; (try dsimp only at hSw); go_simp <;> with_reducible rfl)
   (try simp only [Act.put, qd, qe, qf])
   refine wpAnyH_ready (rs := [12]) (by kernel_rfl) (by simp) ?_
   refine AllReadyH.cons (o := ?oiNq25) ?hoNq25 (fun K hK => ?restNq25) ?moreNq25
   case moreNq25 => exact AllReadyH.nil
   case hoNq25 => (simp only [qa, qb, qc]; rfl)
   go_simp
   refine hK.out _ _ ?hSnewNhq25 (fun hHeld => ?restNhq25)
   case hSnewNhq25 => ((try dsimp only); exact HS1.out)
   clear hK K
   (try simp only [Act.put, qd, qe, qf])
   refine wpAnyH_take (i := 13) (oi := ?oiNt27x13) (v := ?vNt27x13) ?hoNt27x13 ?h1Nt27x13 ?h2Nt27x13 ?h3Nt27x13 ?hqNt27x13 (Or.inl ⟨?h4Nt27x13, ?hyNt27x13⟩) (by assumption) ?restNt27x13
   case hoNt27x13 => (simp only [qa, qb, qc]; rfl)
   case h1Nt27x13 => kernel_rfl
   case h2Nt27x13 => kernel_rfl
   case h3Nt27x13 => kernel_rfl
   case h4Nt27x13 => rfl
   case hqNt27x13 => exact fun _ _ _ h => h
   case hyNt27x13 => (intro w hSw; (try dsimp only at hSw); go_simp <;> with_reducible rfl)
   (try simp only [Act.put, qd, qe, qf])
   refine wpAnyH_take (i := 14) (oi := ?oiNt29x14) (v := ?vNt29x14) ?hoNt29x14 ?h1Nt29x14 ?h2Nt29x14 ?h3Nt29x14 ?hqNt29x14 (Or.inl ⟨?h4Nt29x14, ?hyNt29x14⟩) (by assumption) ?restNt29x14
   case hoNt29x14 => (simp only [qa, qb, qc]; rfl)
   case h1Nt29x14 => kernel_rfl
   case h2Nt29x14 => kernel_rfl
   case h3Nt29x14 => kernel_rfl
   case h4Nt29x14 => rfl
   case hqNt29x14 => exact fun _ _ _ h => h
   case hyNt29x14 => (intro w hSw; (try dsimp only at hSw); go_simp <;> with_reducible rfl)
   (try simp only [Act.put, qd, qe, qf])
   refine wpAnyH_ready (rs := [15]) (by kernel_rfl) (by simp) ?_
   refine AllReadyH.cons (o := ?oiNq30) ?hoNq30 (fun K hK => ?restNq30) ?moreNq30
   case moreNq30 => exact AllReadyH.nil
   case hoNq30 => (simp only [qa, qb, qc]; rfl)
   go_simp
   refine hK.out _ _ ?hSnewNhq30 (fun hHeld => ?restNhq30)
   case hSnewNhq30 => ((try dsimp only); exact HS2.out)
   clear hK K
   (try simp only [Act.put, qd, qe, qf])
   refine wpAnyH_done (by kernel_rfl) ?_ _
   clear k0 d3 d4 f3 f4 HS1 HS2
   go_wp2
   go_roundw
   case rel => exact ⟨k + 1, by omega, by go_num, HA2.out, HB2.out⟩
   case measure => simp [intOf]; omega
  ·have hkm : bad.take k = bad := List.take_of_length_le (by rw [Hl.out]; omega)
   rw [hkm] at hA
   replace hA := hid hA
   clear hkm
   go_wp2
   go_ret2
   exact ⟨b, rfl, ⟨gb, _, _, hA.out⟩, hB⟩
end Go.Proofs.Ytpcbpljdiacbmaa.Nand

set_option linter.unusedVariables false
set_option linter.unusedSimpArgs false
namespace Go.Proofs.Ytpcbpljdiacbmaa.Nand
open Go.RowKit Go.Proofs.Ytpcbpljdiacbmaa.Kit

/-- One array, all of it above what there was at w0. -/
def ArrB (w0 w : World) (b : Nat) (N : NA) : Prop := ∃ F, Arr w F b N ∧ (∀ g, F g → w0.heap.size ≤ g) ∧ Below w0.heap.size w0 w
theorem ArrB.bel {w0 w : World} {b : Nat} {N : NA} (h : ArrB w0 w b N) : Below w0.heap.size w0 w := by
 obtain ⟨F, h1, h2, h3⟩ := h
 exact h3
theorem ArrB.wf {w0 w : World} {b : Nat} {N : NA} (h : ArrB w0 w b N) : N.Wf := by
 obtain ⟨F, h1, h2, h3⟩ := h
 exact h1.wf
theorem ArrB.later {w0 w w' : World} {b : Nat} {N : NA} (h : ArrB w0 w b N) (hB : Below w.heap.size w w') : ArrB w0 w' b N := by
 obtain ⟨F, h1, h2, h3⟩ := h
 exact ⟨F, h1.later hB, h2, h3.trans (hB.mono h3.size)⟩
theorem ArrB.step {w0 w w' : World} {b : Nat} {N : NA} {F : Nat → Prop} (h2 : ∀ g, F g → w0.heap.size ≤ g) (h3 : Below w0.heap.size w0 w) (h : Arr w' (grow F w w') b N) (hf : Fr F w w') : ArrB w0 w' b N :=
 ⟨_, h, fun g hg => by rcases hg with hg | hg; exact h2 g hg; exact Nat.le_trans h3.size hg.1, h3.trans (hf.below h3.size h2)⟩
theorem ArrB.same {w0 w w' : World} {b : Nat} {N : NA} {F : Nat → Prop} (h2 : ∀ g, F g → w0.heap.size ≤ g) (h3 : Below w0.heap.size w0 w) (h : Arr w' F b N) (hf : Fr F w w') : ArrB w0 w' b N :=
 ⟨_, h, h2, h3.trans (hf.below h3.size h2)⟩
end Go.Proofs.Ytpcbpljdiacbmaa.Nand

set_option linter.unusedVariables false
set_option linter.unusedSimpArgs false
namespace Go.Proofs.Ytpcbpljdiacbmaa.Nand
open Go.RowKit Go.Proofs.Ytpcbpljdiacbmaa.Kit

/-! What the operations come to where nothing is armed. -/
def NA.opd (N : NA) : NA := { N with ops := wrap64 (N.ops + 1) }
theorem tick_calm (x : NB) (h : x.doom = 0) : x.tick = x := by
 unfold NB.tick
 rw [h]
 cases x
 simp at h
 subst h
 simp
theorem setB_self (N : NA) (i : Nat) (hi : i < N.bs.length) : N.setB i (N.blk i) = N := by
 unfold NA.setB NA.blk
 rw [List.getD_eq_getElem?_getD, List.getElem?_eq_getElem hi]
 simp
theorem begun_calm {N : NA} (i : Nat) (hi : i < N.bs.length) (ha : N.armed = 0) (ho : N.off = false) (hd : (N.blk i).doom = 0) : N.begun i = N.opd := by
 unfold NA.begun
 rw [tick_calm _ hd]
 have e : N.tick = N.opd := by
  unfold NA.tick NA.opd
  rw [ha, ho]
  rfl
 rw [e]
 exact setB_self N.opd i hi
theorem atE_in {N : NA} (i : Nat) (hi : i < N.bs.length) (ho : N.off = false) : N.atE (i : Int) = 0 := by
 unfold NA.atE
 rw [if_neg (by omega), ho]
 rfl
theorem progE_in {N : NA} (i p : Nat) (n : Nat) (ep : Int) (hi : i < N.bs.length) (ho : N.off = false) (hp : p = (N.blk i).pages.length) (hp2 : p < N.pages) (hn : n = 96) (hh : (N.blk i).half = false) (hf : N.fence ≤ ep) : N.progE (i : Int) (p : Int) n ep = 0 := by
 unfold NA.progE
 rw [if_neg (by rw [atE_in i hi ho]; simp), if_neg (by omega), if_neg (by rw [hn]; simp), if_neg (by rw [show ((i : Int)).toNat = i by omega, hh]; simp; omega), if_neg (by omega)]
theorem prog_calm {N : NA} (i p : Nat) (q : List Int) (ep : Int) (hi : i < N.bs.length) (ha : N.armed = 0) (ho : N.off = false) (hd : (N.blk i).doom = 0) (hdd : (N.blk i).dead = false) (hp : p = (N.blk i).pages.length) (hp2 : p < N.pages) (hn : q.length = 96) (hh : (N.blk i).half = false) (hf : N.fence ≤ ep) :
  N.prog (i : Int) (p : Int) q ep = (N.opd.setB i ((N.blk i).add q), 0) := by
 rw [prog_eq (progE_in i p q.length ep hi ho hp hp2 hn hh hf), begun_calm i hi ha ho hd]
 rw [if_neg (by rw [show N.opd.off = N.off from rfl, ho]; simp), if_neg (by rw [show (N.opd.blk i).dead = (N.blk i).dead from rfl, hdd]; simp)]
 rfl
theorem prog_fall {N : NA} (i p : Nat) (q : List Int) (ep : Int) (hi : i < N.bs.length) (ha : N.armed = 0) (ho : N.off = false) (hd : (N.blk i).doom = 0) (hdd : (N.blk i).dead = true) (hp : p = (N.blk i).pages.length) (hp2 : p < N.pages) (hn : q.length = 96) (hh : (N.blk i).half = false) (hf : N.fence ≤ ep) :
  N.prog (i : Int) (p : Int) q ep = (N.opd.setB i { (N.blk i).add (tornL q 0) with failed := true }, 8) := by
 rw [prog_eq (progE_in i p q.length ep hi ho hp hp2 hn hh hf), begun_calm i hi ha ho hd]
 rw [if_neg (by rw [show N.opd.off = N.off from rfl, ho]; simp), if_pos (by rw [show (N.opd.blk i).dead = (N.blk i).dead from rfl, hdd])]
 rfl
theorem prog_err {N : NA} (i p : Int) (q : List Int) (ep : Int) (h : N.progE i p q.length ep ≠ 0) : N.prog i p q ep = (N, N.progE i p q.length ep) := by
 unfold NA.prog
 rw [if_pos h]
theorem erase_eq {N : NA} {i : Nat} {ep : Int} (hi : i < N.bs.length) (ho : N.off = false) (hf : N.fence ≤ ep) : N.erase (i : Int) ep = if (N.begun i).off then ({ N.begun i with way := some ⟨i, none, ((N.begun i).blk i).dead⟩ }, 9) else if ((N.begun i).blk i).dead then ((N.begun i).setB i { ((N.begun i).blk i) with failed := true }, 8) else ((N.begun i).setB i ((N.begun i).blk i).clean, 0) := by
 have h1 : N.eraseE (i : Int) ep = 0 := by
  unfold NA.eraseE
  rw [if_neg (by rw [atE_in i hi ho]; simp), if_neg (by omega)]
 unfold NA.erase
 rw [if_neg (by rw [h1]; simp)]
 rfl
theorem erase_calm {N : NA} (i : Nat) (ep : Int) (hi : i < N.bs.length) (ha : N.armed = 0) (ho : N.off = false) (hd : (N.blk i).doom = 0) (hdd : (N.blk i).dead = false) (hf : N.fence ≤ ep) :
  N.erase (i : Int) ep = (N.opd.setB i (N.blk i).clean, 0) := by
 rw [erase_eq hi ho hf, begun_calm i hi ha ho hd]
 rw [if_neg (by rw [show N.opd.off = N.off from rfl, ho]; simp), if_neg (by rw [show (N.opd.blk i).dead = (N.blk i).dead from rfl, hdd]; simp)]
 rfl
theorem erase_fall {N : NA} (i : Nat) (ep : Int) (hi : i < N.bs.length) (ha : N.armed = 0) (ho : N.off = false) (hd : (N.blk i).doom = 0) (hdd : (N.blk i).dead = true) (hf : N.fence ≤ ep) :
  N.erase (i : Int) ep = (N.opd.setB i { N.blk i with failed := true }, 8) := by
 rw [erase_eq hi ho hf, begun_calm i hi ha ho hd]
 rw [if_neg (by rw [show N.opd.off = N.off from rfl, ho]; simp), if_pos (by rw [show (N.opd.blk i).dead = (N.blk i).dead from rfl, hdd])]
 rfl
end Go.Proofs.Ytpcbpljdiacbmaa.Nand

set_option linter.unusedVariables false
set_option linter.unusedSimpArgs false
namespace Go.Proofs.Ytpcbpljdiacbmaa.Nand
open Go.RowKit Go.Proofs.Ytpcbpljdiacbmaa.Kit

/-- Since w (of which but F may have changed): the array stands as M; the blocks K, which are the caller's own, are as they are in W. -/
def Run (F : Nat → Prop) (w w' : World) (b : Nat) (M : NA) (K : Nat → Prop) (W : World) : Prop :=
 ∃ F', Arr w' F' b M ∧ (∀ g, F' g → F g ∨ w.heap.size ≤ g) ∧ Fr F w w' ∧ ∀ g, K g → ¬ F' g ∧ w.heap.size ≤ g ∧ g < w'.heap.size ∧ w'.heap[g]? = W.heap[g]?
theorem heap_lt {w : World} {g : Nat} {x : Obj} (h : w.heap[g]? = some x) : g < w.heap.size := (Array.getElem?_eq_some_iff.1 h).1
theorem Run.start {F : Nat → Prop} {w : World} {b : Nat} {M : NA} (h : Arr w F b M) (W : World) : Run F w w b M (fun _ => False) W :=
 ⟨F, h, fun g hg => .inl hg, Fr.refl _ _, fun _ hg => hg.elim⟩
/-- A new array: none of what there was has changed. -/
theorem Run.new {w w1 w2 : World} {b : Nat} {M : NA} {F1 : Nat → Prop} (hB : Below w.heap.size w w1) (h : Arr w2 F1 b M) (hF : ∀ g, F1 g → w1.heap.size ≤ g) (hB2 : Below w1.heap.size w1 w2) (W : World) : Run (fun _ => False) w w2 b M (fun _ => False) W :=
 ⟨F1, h, fun g hg => .inr (Nat.le_trans hB.size (hF g hg)), Fr.of_below (hB.trans (hB2.mono hB.size)), fun _ hg => hg.elim⟩
theorem Run.arr {F : Nat → Prop} {w w' W : World} {b : Nat} {M : NA} {K : Nat → Prop} (h : Run F w w' b M K W) : ∃ F', Arr w' F' b M := by
 obtain ⟨F', h1, -⟩ := h
 exact ⟨F', h1⟩
theorem Run.wf {F : Nat → Prop} {w w' W : World} {b : Nat} {M : NA} {K : Nat → Prop} (h : Run F w w' b M K W) : M.Wf := by
 obtain ⟨F', h1, -⟩ := h
 exact h1.wf
theorem Run.size {F : Nat → Prop} {w w' W : World} {b : Nat} {M : NA} {K : Nat → Prop} (h : Run F w w' b M K W) : w.heap.size ≤ w'.heap.size := by
 obtain ⟨F', -, -, h1, -⟩ := h
 exact h1.size
theorem Run.fin {F : Nat → Prop} {w w' W : World} {b : Nat} {M : NA} {K : Nat → Prop} (h : Run F w w' b M K W) (hl : ∀ g, F g → g < w.heap.size) : Arr w' (grow F w w') b M ∧ Fr F w w' := by
 obtain ⟨F', ⟨gb, pv, wv, h1⟩, h2, h3, -⟩ := h
 refine ⟨⟨gb, pv, wv, h1.mono (fun g hg => ?_) (fun g hg => ?_)⟩, h3⟩
 ·rcases h2 g hg with h | h
  ·exact .inl h
  ·exact .inr ⟨h, h1.low g hg⟩
 ·rcases hg with hg | hg
  ·exact Nat.lt_of_lt_of_le (hl g hg) h3.size
  ·exact hg.2
theorem Run.below {w w' W : World} {b : Nat} {M : NA} {K : Nat → Prop} (h : Run (fun _ => False) w w' b M K W) : Below w.heap.size w w' := by
 obtain ⟨F', -, -, h1, -⟩ := h
 exact h1.below (Nat.le_refl _) (fun _ hg => hg.elim)
theorem Run.later {F : Nat → Prop} {w w1 w2 W : World} {b : Nat} {M : NA} {K : Nat → Prop} (h : Run F w w1 b M K W) (hB : Below w1.heap.size w1 w2) : Run F w w2 b M K W := by
 obtain ⟨F', h1, h2, h3, h4⟩ := h
 exact ⟨F', h1.later hB, h2, h3.trans (Fr.of_below (F := fun _ => False) hB) (fun _ _ x => x.elim), fun g hg => ⟨(h4 g hg).1, (h4 g hg).2.1, Nat.lt_of_lt_of_le (h4 g hg).2.2.1 hB.size, (hB.block g (h4 g hg).2.2.1).trans (h4 g hg).2.2.2⟩⟩
/-- What was made since is the caller's own as well. -/
theorem Run.own {F : Nat → Prop} {w w1 w2 W : World} {b : Nat} {M : NA} {K : Nat → Prop} (h : Run F w w1 b M K W) (hB : Below w1.heap.size w1 w2) : Run F w w2 b M (fun g => K g ∨ (w1.heap.size ≤ g ∧ g < w2.heap.size)) w2 := by
 have hl := h.later hB
 obtain ⟨F', h1, h2, h3, h4⟩ := h
 obtain ⟨-, -, -, h3', -⟩ := hl
 refine ⟨F', h1.later hB, h2, h3', fun g hg => ?_⟩
 rcases hg with hg | ⟨hg1, hg2⟩
 ·exact ⟨(h4 g hg).1, (h4 g hg).2.1, Nat.lt_of_lt_of_le (h4 g hg).2.2.1 hB.size, rfl⟩
 ·exact ⟨fun x => absurd (h1.low g x) (by omega), Nat.le_trans h3.size hg1, hg2, rfl⟩
theorem Run.less {F : Nat → Prop} {w w' W : World} {b : Nat} {M : NA} {K K' : Nat → Prop} (h : Run F w w' b M K W) (hK : ∀ g, K' g → K g) : Run F w w' b M K' W := by
 obtain ⟨F', h1, h2, h3, h4⟩ := h
 exact ⟨F', h1, h2, h3, fun g hg => h4 g (hK g hg)⟩
theorem Run.now {F : Nat → Prop} {w w' W : World} {b : Nat} {M : NA} {K : Nat → Prop} (h : Run F w w' b M K W) : Run F w w' b M K w' := by
 obtain ⟨F', h1, h2, h3, h4⟩ := h
 exact ⟨F', h1, h2, h3, fun g hg => ⟨(h4 g hg).1, (h4 g hg).2.1, (h4 g hg).2.2.1, rfl⟩⟩
/-- The caller stores to a block of his own. -/
theorem Run.store {F : Nat → Prop} {w w' W : World} {b : Nat} {M : NA} {K : Nat → Prop} (h : Run F w w' b M K W) (g i : Nat) (v : Value) (hg : K g) : Run F w (w'.setCell ⟨g, i, none⟩ v) b M K (w'.setCell ⟨g, i, none⟩ v) := by
 obtain ⟨F', h1, h2, h3, h4⟩ := h
 refine ⟨F', h1.keep (fun k hk => Below.heap_setCell w' ⟨g, i, none⟩ v k (fun e => (h4 g hg).1 (by rw [← show k = g from e]; exact hk))) (by rw [size_set]; exact Nat.le_refl _), h2, h3.set g i v (.inr (h4 g hg).2.1), fun k hk => ⟨(h4 k hk).1, (h4 k hk).2.1, by rw [size_set]; exact (h4 k hk).2.2.1, rfl⟩⟩
/-- An operation with the array. -/
theorem Run.step {F F' : Nat → Prop} {w w1 w2 W : World} {b : Nat} {M' : NA} {K : Nat → Prop} (h2 : ∀ g, F' g → F g ∨ w.heap.size ≤ g) (h3 : Fr F w w1) (h4 : ∀ g, K g → ¬ F' g ∧ w.heap.size ≤ g ∧ g < w1.heap.size ∧ w1.heap[g]? = W.heap[g]?) (hA : Arr w2 (grow F' w1 w2) b M') (hf : Fr F' w1 w2) : Run F w w2 b M' K W :=
 ⟨_, hA, fun g hg => by
   rcases hg with hg | hg
   ·exact h2 g hg
   ·exact .inr (Nat.le_trans h3.size hg.1), h3.trans hf (fun g hg x => by
   rcases h2 g x with h | h
   ·exact h
   ·omega), fun g hg => ⟨fun x => by
   rcases x with x | x
   ·exact (h4 g hg).1 x
   ·exact absurd (h4 g hg).2.2.1 (by omega), (h4 g hg).2.1, Nat.lt_of_lt_of_le (h4 g hg).2.2.1 hf.size, (hf.block g (h4 g hg).2.2.1 (h4 g hg).1).trans (h4 g hg).2.2.2⟩⟩
theorem Run.calls {P : Program} {fn : FuncId} {args : Array Value} {F : Nat → Prop} {w w1 W : World} {b : Nat} {M M' : NA} {K : Nat → Prop} {R : Ending → Prop} (h : Run F w w1 b M K W)
  (hc : ∀ F', Arr w1 F' b M → Calls P fn args w1 fun e w' => R e ∧ Arr w' (grow F' w1 w') b M' ∧ Fr F' w1 w') : Calls P fn args w1 fun e w' => R e ∧ Run F w w' b M' K W := by
 obtain ⟨F', h1, h2, h3, h4⟩ := h
 refine (hc F' h1).mono ?_
 rintro e w' ⟨he, hA, hf⟩
 exact ⟨he, Run.step h2 h3 h4 hA hf⟩
theorem Run.reads {P : Program} {fn : FuncId} {args : Array Value} {F : Nat → Prop} {w w1 W : World} {b : Nat} {M : NA} {K : Nat → Prop} {R : Ending → World → Prop} (h : Run F w w1 b M K W)
  (hc : ∀ F', Arr w1 F' b M → Calls P fn args w1 fun e w' => R e w' ∧ Below w1.heap.size w1 w') : Calls P fn args w1 fun e w' => R e w' ∧ Below w1.heap.size w1 w' := by
 obtain ⟨F', h1, h2, h3, h4⟩ := h
 exact hc F' h1
theorem Run.blk {F : Nat → Prop} {w w' W : World} {b g : Nat} {M : NA} {K : Nat → Prop} {cs : Array Value} {T : TypeId} (h : Run F w w' b M K W) (hg : K g) (hb : Blk W g cs T) : Blk w' g cs T := by
 obtain ⟨F', h1, h2, h3, h4⟩ := h
 unfold Blk at *
 rw [(h4 g hg).2.2.2]
 exact hb
theorem Run.row {F : Nat → Prop} {w w' W : World} {b base n size : Nat} {M : NA} {K : Nat → Prop} {e : TypeId} {v : Value} {xs : List Value} (h : Run F w w' b M K W) (hg : ∀ g, v.ownBlock = some g → K g) (hb : W.ownsRow base e size v n xs) : w'.ownsRow base e size v n xs := by
 obtain ⟨F', h1, h2, h3, h4⟩ := h
 exact own_keep hb (fun g e => (h4 g (hg g e)).2.2.2)
end Go.Proofs.Ytpcbpljdiacbmaa.Nand
