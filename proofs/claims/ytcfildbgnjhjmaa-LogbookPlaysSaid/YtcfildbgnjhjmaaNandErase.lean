import Derived.Test.YtcfildbgnjhjmaaNandAQ
import Derived.Deep.RegionHeld3
import Derived.Laws.EntriesVeiled
set_option linter.unusedVariables false
set_option linter.unusedSimpArgs false
namespace Go.Proofs.Ytcfildbgnjhjmaa.Nand
open Go.RowKit Go.Proofs.Ytcfildbgnjhjmaa.Kit

theorem AQ.drewN {w : World} {F : Nat → Prop} {b gb : Nat} {pv : Nat → Value} {wv : Value} {N : NA} (h : AQ w F b gb pv wv N) (n : Nat) : AQ (w.drewN n) F b gb pv wv N := h.keep (fun _ _ => rfl) (Nat.le_refl _)
theorem nilPages (w : World) (F : Nat → Prop) : PagesR w F (.slice none 0 0) [] := ⟨[], ⟨rfl, .inl ⟨rfl, rfl⟩⟩, (fun g hg => by cases hg), fun j hj => absurd hj (by simp)⟩
set_option maxRecDepth 100000 in
set_option maxHeartbeats 4000000 in
theorem done_any (F : Nat → Prop) (b gb : Nat) (pv : Nat → Value) (wv : Value) (N : NA) (i c1 : Nat) (w : World) (h : AQ w F b gb pv wv N) (hi : i < N.bs.length) (hw : N.way = none) (hc : Blk w c1 #[.pointer (some ⟨gb, i * 6, none⟩)] 103) :
    Calls Try.prog 54 #[.pointer (some ⟨c1, 0, none⟩)] w fun e w' => e = .returned (.tuple #[]) ∧ AQ w' F b gb (updV pv i (.slice none 0 0)) wv (N.setB i (N.blk i).clean) ∧ Fr (fun g => g = gb) w w' := by
  have hne := AQ.bne h hc (by decide) (by decide)
  have hcg : c1 ≠ gb := fun e => hne (.inr e)
  obtain ⟨⟨Ap, cp, hpe, d0⟩, d1, d2, -, -, -⟩ := h.recs i hi
  have f0 := h.row.free (i * 6)
  have f1 := h.row.free (i * 6 + 1)
  have f2 := h.row.free (i * 6 + 2)
  have hc0 : w.cell? ⟨c1, 0, none⟩ = some (.pointer (some ⟨gb, i * 6, none⟩)) := hc.cell 0
  obtain ⟨x, hx⟩ : ∃ x, N.blk i = x := ⟨_, rfl⟩
  rw [hx] at hpe d0 d1 d2
  have hl1 : i < (N.setB i { x with pages := [] }).bs.length := by rw [len_set]; exact hi
  have hl2 : i < (N.setB i { x with pages := [], half := false }).bs.length := by rw [len_set]; exact hi
  have wf1 : ∀ y : NB, y.pages = [] → y.doom = x.doom → (N.setB i y).Wf := fun y hy hd => wf_push h.wf i y hi hw (by rw [hy]; exact Nat.zero_le _) (by rw [hd, hx])
  have H1 := h.push (v5 := .slice none 0 0) i hi { x with pages := [] } (by rw [hx]; rfl) (Fr.refl _ w) (fun _ hg => hg) (fun g hg => h.low g hg) (nilPages _ _) (fun g hg => nomatch hg) (wf1 _ rfl rfl)
  have H2 := H1.setRec i 2 (.bool false) { x with pages := [], half := false } hl1 (by decide) (by rw [blk_set _ _ _ hi, if_pos rfl]; rfl) (by rw [blk_set _ _ _ hi, if_pos rfl]) (by rw [setB_setB]; exact wf1 _ rfl rfl)
  rw [setB_setB] at H2
  have d1x := H2.row.cell i (by rw [len_set]; exact hi) 1 (.int .i64 x.erases) (by rw [show (N.setB i { x with pages := [], half := false }).bs.getD i default = (N.setB i { x with pages := [], half := false }).blk i from rfl, blk_set _ _ _ hi, if_pos rfl]; rfl)
  have f1x := H2.row.free (i * 6 + 1)
  replace d1x := hid d1x
  replace f1x := hid f1x
  have H3 := H2.setRec i 1 (.int .i64 (wrap64 (x.erases + 1))) x.clean hl2 (by decide) (by rw [blk_set _ _ _ hi, if_pos rfl]; rfl) (by rw [blk_set _ _ _ hi, if_pos rfl]; rfl) (by rw [setB_setB]; exact wf1 _ rfl rfl)
  rw [setB_setB] at H3
  have F3 := ((fr_set (F := fun g => g = gb) w gb (i * 6) (.slice none 0 0) rfl).set gb (i * 6 + 2) (.bool false) (.inl rfl)).set gb (i * 6 + 1) (.int .i64 (wrap64 (x.erases + 1))) (.inl rfl)
  replace H3 := hid H3
  replace F3 := hid F3
  have Hx := hid hx
  have HS := hid (fun (o : Nat) (v : Value) => (by
    have e1 := Below.heap_setCell w ⟨gb, o, none⟩ v c1 hcg
    have := hc0
    simp only [World.cell?] at this ⊢
    rw [e1]
    exact this : (w.setCell ⟨gb, o, none⟩ v).cell? ⟨c1, 0, none⟩ = some (.pointer (some ⟨gb, i * 6, none⟩))))
  have HS3 := hid (by
    have e1 := Below.heap_setCell (w.setCell ⟨gb, i * 6, none⟩ (.slice none 0 0)) ⟨gb, i * 6 + 2, none⟩ (.bool false) c1 hcg
    have := HS.out (i * 6) (.slice none 0 0)
    simp only [World.cell?] at this ⊢
    rw [e1]
    exact this : ((w.setCell ⟨gb, i * 6, none⟩ (.slice none 0 0)).setCell ⟨gb, i * 6 + 2, none⟩ (.bool false)).cell? ⟨c1, 0, none⟩ = some (.pointer (some ⟨gb, i * 6, none⟩)))
  have HS3c := HS3.out
  clear H1 H2 wf1 hl1 hl2 h hx hpe hc hne
  obtain ⟨er, her⟩ : ∃ z, x.erases = z := ⟨_, rfl⟩
  obtain ⟨hf, hhf⟩ : ∃ z, x.half = z := ⟨_, rfl⟩
  rw [her] at d1 H3 F3 d1x
  rw [hhf] at d2
  clear her hhf
  rw [Hx.out]
  go_enter Try.func54, Try.ntmps54
  go_wp2_with fail
  refine wp_region_held_drew (S := (fun w' => w'.cell? ⟨c1, 0, none⟩ = some (.pointer (some ⟨gb, i * 6, none⟩)))) (by kernel_rfl) ?hSnewEz (fun hHeld => ?restEz)
  case hSnewEz => ((try dsimp only); exact hc0)
  refine wpAnyH_take (i := 0) (oi := ?oiEt2x0) (v := ?vEt2x0) ?hoEt2x0 ?h1Et2x0 ?h2Et2x0 ?h3Et2x0 ?hqEt2x0 (Or.inl ⟨?h4Et2x0, ?hyEt2x0⟩) (by assumption) ?restEt2x0
  case hoEt2x0 => (simp only [List.getElem?_toArray, List.getElem?_cons_zero, List.getElem?_cons_succ]; rfl)
  case h1Et2x0 => kernel_rfl
  case h2Et2x0 => kernel_rfl
  case h3Et2x0 => kernel_rfl
  case h4Et2x0 => rfl
  case hqEt2x0 => exact fun _ _ _ h => h
  case hyEt2x0 => (intro w hSw; (try dsimp only at hSw); go_simp <;> with_reducible rfl)
  (try simp only [Act.put, List.setIfInBounds_toArray, List.set_cons_zero, List.set_cons_succ])
  refine wpAnyH_take (i := 1) (oi := ?oiEt4x1) (v := ?vEt4x1) ?hoEt4x1 ?h1Et4x1 ?h2Et4x1 ?h3Et4x1 ?hqEt4x1 (Or.inl ⟨?h4Et4x1, ?hyEt4x1⟩) (by assumption) ?restEt4x1
  case hoEt4x1 => (simp only [List.getElem?_toArray, List.getElem?_cons_zero, List.getElem?_cons_succ]; rfl)
  case h1Et4x1 => kernel_rfl
  case h2Et4x1 => kernel_rfl
  case h3Et4x1 => kernel_rfl
  case h4Et4x1 => rfl
  case hqEt4x1 => exact fun _ _ _ h => h
  case hyEt4x1 => (intro w hSw; (try dsimp only at hSw); go_simp <;> with_reducible rfl)
  (try simp only [Act.put, List.setIfInBounds_toArray, List.set_cons_zero, List.set_cons_succ])
  refine wpAnyH_take (i := 2) (oi := ?oiEt6x2) (v := ?vEt6x2) ?hoEt6x2 ?h1Et6x2 ?h2Et6x2 ?h3Et6x2 ?hqEt6x2 (Or.inl ⟨?h4Et6x2, ?hyEt6x2⟩) (by assumption) ?restEt6x2
  case hoEt6x2 => (simp only [List.getElem?_toArray, List.getElem?_cons_zero, List.getElem?_cons_succ]; rfl)
  case h1Et6x2 => kernel_rfl
  case h2Et6x2 => kernel_rfl
  case h3Et6x2 => kernel_rfl
  case h4Et6x2 => rfl
  case hqEt6x2 => exact fun _ _ _ h => h
  case hyEt6x2 => (intro w hSw; (try dsimp only at hSw); go_simp <;> with_reducible rfl)
  (try simp only [Act.put, List.setIfInBounds_toArray, List.set_cons_zero, List.set_cons_succ])
  refine wpAnyH_take (i := 3) (oi := ?oiEt8x3) (v := ?vEt8x3) ?hoEt8x3 ?h1Et8x3 ?h2Et8x3 ?h3Et8x3 ?hqEt8x3 (Or.inl ⟨?h4Et8x3, ?hyEt8x3⟩) (by assumption) ?restEt8x3
  case hoEt8x3 => (simp only [List.getElem?_toArray, List.getElem?_cons_zero, List.getElem?_cons_succ]; rfl)
  case h1Et8x3 => kernel_rfl
  case h2Et8x3 => kernel_rfl
  case h3Et8x3 => kernel_rfl
  case h4Et8x3 => rfl
  case hqEt8x3 => exact fun _ _ _ h => h
  case hyEt8x3 => (intro w hSw; (try dsimp only at hSw); go_simp <;> with_reducible rfl)
  (try simp only [Act.put, List.setIfInBounds_toArray, List.set_cons_zero, List.set_cons_succ])
  refine wpAnyH_ready (rs := [4]) (by kernel_rfl) (by simp) ?_
  refine AllReadyH.cons (o := ?oiEq9) ?hoEq9 (fun K hK => ?restEq9) ?moreEq9
  case moreEq9 => exact AllReadyH.nil
  case hoEq9 => (simp only [List.getElem?_toArray, List.getElem?_cons_zero, List.getElem?_cons_succ]; rfl)
  go_simp
  refine hK.out _ _ ?hSnewEhq9 (fun hHeld => ?restEhq9)
  case hSnewEhq9 => ((try dsimp only); exact HS.out _ _)
  clear hK K
  (try simp only [Act.put, List.setIfInBounds_toArray, List.set_cons_zero, List.set_cons_succ])
  refine wpAnyH_take (i := 5) (oi := ?oiEt11x5) (v := ?vEt11x5) ?hoEt11x5 ?h1Et11x5 ?h2Et11x5 ?h3Et11x5 ?hqEt11x5 (Or.inl ⟨?h4Et11x5, ?hyEt11x5⟩) (by assumption) ?restEt11x5
  case hoEt11x5 => (simp only [List.getElem?_toArray, List.getElem?_cons_zero, List.getElem?_cons_succ]; rfl)
  case h1Et11x5 => kernel_rfl
  case h2Et11x5 => kernel_rfl
  case h3Et11x5 => kernel_rfl
  case h4Et11x5 => rfl
  case hqEt11x5 => exact fun _ _ _ h => h
  case hyEt11x5 => (intro w hSw; (try dsimp only at hSw); go_simp <;> with_reducible rfl)
  (try simp only [Act.put, List.setIfInBounds_toArray, List.set_cons_zero, List.set_cons_succ])
  refine wpAnyH_take (i := 6) (oi := ?oiEt13x6) (v := ?vEt13x6) ?hoEt13x6 ?h1Et13x6 ?h2Et13x6 ?h3Et13x6 ?hqEt13x6 (Or.inl ⟨?h4Et13x6, ?hyEt13x6⟩) (by assumption) ?restEt13x6
  case hoEt13x6 => (simp only [List.getElem?_toArray, List.getElem?_cons_zero, List.getElem?_cons_succ]; rfl)
  case h1Et13x6 => kernel_rfl
  case h2Et13x6 => kernel_rfl
  case h3Et13x6 => kernel_rfl
  case h4Et13x6 => rfl
  case hqEt13x6 => exact fun _ _ _ h => h
  case hyEt13x6 => (intro w hSw; (try dsimp only at hSw); go_simp <;> with_reducible rfl)
  (try simp only [Act.put, List.setIfInBounds_toArray, List.set_cons_zero, List.set_cons_succ])
  refine wpAnyH_ready (rs := [7]) (by kernel_rfl) (by simp) ?_
  refine AllReadyH.cons (o := ?oiEq14) ?hoEq14 (fun K hK => ?restEq14) ?moreEq14
  case moreEq14 => exact AllReadyH.nil
  case hoEq14 => (simp only [List.getElem?_toArray, List.getElem?_cons_zero, List.getElem?_cons_succ]; rfl)
  go_simp
  refine hK.out _ _ ?hSnewEhq14 (fun hHeld => ?restEhq14)
  case hSnewEhq14 => ((try dsimp only); exact HS3.out)
  clear hK K
  (try simp only [Act.put, List.setIfInBounds_toArray, List.set_cons_zero, List.set_cons_succ])
  refine wpAnyH_done (by kernel_rfl) ?_ _
  generalize hX : World.setCell _ ⟨gb, i * 6 + 2, none⟩ (.bool false) = X at *
  have d1y := d1x.out
  have f1y := f1x.out
  clear d0 d1 d2 f0 f1 f2 hX
  go_wp2
  go_end0
  exact ⟨rfl, H3.out.drewN 1, F3.out.drewN 1⟩

set_option maxHeartbeats 2000000 in
theorem erase_no (F : Nat → Prop) (b gb : Nat) (pv : Nat → Value) (wv : Value) (N : NA) (i : Int) (ep : Int) (w : World) (h : AR w F b gb pv wv N) (he : N.eraseE i ep ≠ 0) :
    Calls Try.prog 29 #[.pointer (some ⟨b, 0, none⟩), .int .i64 i, .int .u64 ep] w fun e w' => e = .returned (.int .i64 (N.eraseE i ep)) ∧ Below w.heap.size w w' := by
  by_cases ha : N.atE i = 0
  · obtain ⟨hi0, hi1, ho⟩ := atE_zero ha
    obtain ⟨i, rfl⟩ := Int.eq_ofNat_of_zero_le hi0
    have hi : i < N.bs.length := by omega
    have he' : N.eraseE (i : Int) ep = if ep < N.fence then 7 else 0 := by
      unfold NA.eraseE
      rw [ha, if_neg (by simp)]
    rw [he'] at he ⊢
    by_cases hf : ep < N.fence
    · rw [if_pos hf]
      clear he he' ha hi0 hi1
      have hat := at_ok F b gb pv wv N i w h hi ho
      have hnb := h.wf.nb
      have HB := hid ((Below.refl w.heap.size w).alloc (Nat.le_refl _) (.cells #[.pointer (some ⟨gb, i * 6, none⟩)] 103))
      have H0 := hid h
      clear h
      go_enter Try.func29, Try.ntmps29
      go_wp2_with fail
      refine hat.mono ?_
      rintro e w ⟨rfl, rfl⟩
      clear hat
      go_upto_region 2 with (fail)
      obtain ⟨w1, hw1⟩ : ∃ W, W = w.alloc (.cells #[.pointer (some ⟨gb, i * 6, none⟩)] 103) := ⟨_, rfl⟩
      have hb1 : Blk w1 w.heap.size #[.pointer (some ⟨gb, i * 6, none⟩)] 103 := by rw [hw1]; exact Blk.new _ _ _
      rw [← hw1] at HB ⊢
      clear hw1
      obtain ⟨g1, hg1⟩ : ∃ g, w.heap.size = g := ⟨_, rfl⟩
      rw [hg1] at hb1 ⊢
      have Hg1 := hid hg1
      have H1 := hid (H0.out.later HB.out)
      have Hb1 := hid hb1
      clear hg1 hb1
      have c2 : w1.cell? ⟨b, 2, none⟩ = some (.int .u64 N.fence) := H1.out.hd.cell 2
      have hfd : decide (ep < N.fence) = true := decide_eq_true hf
      generalize N.fence = fe at *
      go_wp2
      go_ret
      exact ⟨rfl, HB.out⟩
    · rw [if_neg hf] at he
      exact absurd rfl he
  · have hat := at_no F b gb pv wv N i w h ha
    have he' : N.eraseE i ep = N.atE i := by
      unfold NA.eraseE
      rw [if_pos ha]
    rw [he'] at he ⊢
    clear he' he
    obtain ⟨r, hr⟩ : ∃ r, N.atE i = r := ⟨_, rfl⟩
    rw [hr] at hat ha ⊢
    have hb : (r != 0) = true := by rw [bne_iff_ne]; exact ha
    have HB := hid ((Below.refl w.heap.size w).alloc (Nat.le_refl _) (.cells #[.pointer none] 103))
    clear hr h
    go_enter Try.func29, Try.ntmps29
    go_wp2_with fail
    refine hat.mono ?_
    rintro e w ⟨rfl, rfl⟩
    clear hat
    go_wp2
    go_ret
    exact ⟨rfl, HB.out⟩

set_option maxRecDepth 100000 in
set_option maxHeartbeats 8000000 in
theorem erase_go (F : Nat → Prop) (b gb : Nat) (pv : Nat → Value) (wv : Value) (N : NA) (i : Nat) (ep : Int) (w : World) (h : AR w F b gb pv wv N) (hi : i < N.bs.length) (ho : N.off = false) (hf : N.fence ≤ ep) :
    Calls Try.prog 29 #[.pointer (some ⟨b, 0, none⟩), .int .i64 (i : Int), .int .u64 ep] w fun e w' => e = .returned (.int .i64 (N.erase (i : Int) ep).2) ∧ Arr w' (grow F w w') b (N.erase (i : Int) ep).1 ∧ Fr F w w' := by
  have her : N.erase (i : Int) ep = if (N.begun i).off then ({ N.begun i with way := some ⟨i, none, ((N.begun i).blk i).dead⟩ }, 9) else if ((N.begun i).blk i).dead then ((N.begun i).setB i { ((N.begun i).blk i) with failed := true }, 8) else ((N.begun i).setB i ((N.begun i).blk i).clean, 0) := by
    have h0 : N.atE (i : Int) = 0 := by
      unfold NA.atE
      rw [if_neg (by omega), ho]
      rfl
    have h1 : N.eraseE (i : Int) ep = 0 := by
      unfold NA.eraseE
      rw [if_neg (by rw [h0]; simp), if_neg (by omega)]
    unfold NA.erase
    rw [if_neg (by rw [h1]; simp)]
    rfl
  obtain ⟨R, hR⟩ : ∃ R, N.erase (i : Int) ep = R := ⟨_, rfl⟩
  rw [hR] at her ⊢
  have HR := hid her
  clear her hR
  have Hwf := hid h.wf
  have Hinb := hid h.inb
  have Hing := hid h.ing
  have Hlow := hid h.low
  have hat := at_ok F b gb pv wv N i w h hi ho
  have hnb := h.wf.nb
  have HB := hid ((Below.refl w.heap.size w).alloc (Nat.le_refl _) (.cells #[.pointer (some ⟨gb, i * 6, none⟩)] 103))
  have H0 := hid h
  clear h
  go_enter Try.func29, Try.ntmps29
  go_wp2_with fail
  refine hat.mono ?_
  rintro e w ⟨rfl, rfl⟩
  clear hat
  go_upto_region 2 with (fail)
  obtain ⟨w1, hw1⟩ : ∃ W, W = w.alloc (.cells #[.pointer (some ⟨gb, i * 6, none⟩)] 103) := ⟨_, rfl⟩
  have hb1 : Blk w1 w.heap.size #[.pointer (some ⟨gb, i * 6, none⟩)] 103 := by rw [hw1]; exact Blk.new _ _ _
  rw [← hw1] at HB ⊢
  clear hw1
  obtain ⟨g1, hg1⟩ : ∃ g, w.heap.size = g := ⟨_, rfl⟩
  rw [hg1] at hb1 ⊢
  have Hg1 := hid hg1
  have H1 := hid (H0.out.later HB.out)
  have Hb1 := hid hb1
  clear hg1 hb1
  have c2 : w1.cell? ⟨b, 2, none⟩ = some (.int .u64 N.fence) := H1.out.hd.cell 2
  have hfd : decide (ep < N.fence) = false := decide_eq_false (Int.not_lt.2 hf)
  have hff := Int.not_lt.2 hf
  have hbeg := begin_any F b gb pv wv N i w1 H1.out hi ho
  have k1 : w1.cell? ⟨g1, 0, none⟩ = some (.pointer (some ⟨gb, i * 6, none⟩)) := Hb1.out.cell 0
  go_wp2_with fail
  refine hbeg.mono ?_
  rintro e w4 ⟨rfl, h4, hF4⟩
  clear hbeg k1 c2 hfd hff
  have hne1 := blk_ne2 H1.out Hb1.out (by decide) (by decide)
  have hb4 : Blk w4 g1 #[.pointer (some ⟨gb, i * 6, none⟩)] 103 := (hF4.block g1 Hb1.out.lt hne1).trans Hb1.out
  have HF4 := hid (show Fr F w w4 from (Fr.of_below HB.out).trans (hF4.mono (fun g _ hg => (show F g from by rcases hg with rfl | rfl; exact Hinb.out; exact Hing.out))) (fun g _ hg => hg))
  have H4 := hid h4
  have Hb4 := hid hb4
  clear hF4 h4 hb4 H1 Hb1
  go_upto_region 8 with (fail)
  have hwn : N.way = none := wf_tick Hwf.out ho
  obtain ⟨dd, hdd⟩ : ∃ d, ((N.begun i).blk i).dead = d := ⟨_, rfl⟩
  obtain ⟨of, hof⟩ : ∃ d, (N.begun i).off = d := ⟨_, rfl⟩
  obtain ⟨w6, hw6⟩ : ∃ W, W = (w4.alloc (.cells #[.bool ((N.begun i).blk i).dead] 4)).alloc (.cells #[.func (.func 54) #[] #[.pointer (some ⟨g1, 0, none⟩)]] 1) := ⟨_, rfl⟩
  have hB6 : Below w4.heap.size w4 w6 := by rw [hw6]; exact ((Below.refl _ _).alloc (Nat.le_refl _) _).alloc (by simp) _
  have hbd : Blk w6 w4.heap.size #[.bool dd] 4 := by rw [hw6, ← hdd]; exact (Blk.new w4 _ _).alloc _
  have hbf : Blk w6 (w4.heap.size + 1) #[.func (.func 54) #[] #[.pointer (some ⟨g1, 0, none⟩)]] 1 := by
    rw [hw6]
    have := Blk.new (w4.alloc (.cells #[.bool ((N.begun i).blk i).dead] 4)) #[.func (.func 54) #[] #[.pointer (some ⟨g1, 0, none⟩)]] 1
    simpa using this
  rw [← hw6]
  have Hb6 := hid (Hb4.out.later hB6)
  have H6 := hid (H4.out.later hB6)
  have HF6 := hid (HF4.out.trans (Fr.of_below (F := F) hB6) (fun g _ hg => hg))
  obtain ⟨g4, hg4⟩ : ∃ g, w4.heap.size = g := ⟨_, rfl⟩
  rw [hg4] at hbd hbf ⊢
  have Hg4 := hid (show w.heap.size ≤ g4 from by rw [← hg4]; exact HF4.out.size)
  have Hbd := hid hbd
  have Hbf := hid hbf
  have kd : w6.cell? ⟨g4, 0, none⟩ = some (.bool dd) := hbd.cell 0
  have kf : w6.cell? ⟨g4 + 1, 0, none⟩ = some (.func (.func 54) #[] #[.pointer (some ⟨g1, 0, none⟩)]) := hbf.cell 0
  have kb : w6.cell? ⟨g1, 0, none⟩ = some (.pointer (some ⟨gb, i * 6, none⟩)) := Hb6.out.cell 0
  clear hw6 hg4 hB6 hbd hbf H4 Hb4 HF4
  cases of
  · have hfr : (!(N.begun i).off) = true := by rw [hof]; rfl
    rw [hfr]
    have Hof := hid hof
    have Hdd := hid hdd
    have hib : i < (N.begun i).bs.length := by rw [len_begun]; exact hi
    cases dd
    · rw [hdd]
      have hdone := done_any F b gb pv wv (N.begun i) i g1 w6 H6.out.toAQ hib hwn Hb6.out
      have HW := hid H6.out.way
      clear hfr hof hdd
      go_wp2_with fail
      refine hdone.mono ?_
      rintro e w7 ⟨rfl, h7, hF7⟩
      clear hdone
      have Hfin := hid (h7.toAR (show WayR w7 F gb (N.begun i).way wv from by
        have hw := HW.out
        have e : (N.begun i).way = none := hwn
        rw [e] at hw ⊢
        exact hw))
      have HFin := hid (HF6.out.trans (hF7.mono (fun g _ hg => (show F g from by rw [hg]; exact Hing.out))) (fun g _ hg => hg))
      clear h7 hF7
      go_wp2
      go_ret
      rw [show R = _ from HR.out, if_neg (by rw [Hof.out]; simp), if_neg (by rw [Hdd.out]; simp)]
      exact ⟨rfl, ⟨gb, _, wv, Hfin.out.grown w⟩, HFin.out⟩
    · rw [hdd]
      have d4 := (H6.out.recs i hib).2.2.2.2.1
      have f4 := H6.out.row.free (i * 6 + 4)
      have Hfin := hid (H6.out.setRec i 4 (.bool true) { ((N.begun i).blk i) with failed := true } hib (by decide) rfl rfl (H6.out.wf.setB i _ hib rfl (H6.out.wf.doom i hib)))
      have HFin := hid (HF6.out.set gb (i * 6 + 4) (.bool true) (.inl Hing.out))
      generalize ((N.begun i).blk i).failed = fl at d4
      clear hfr hof hdd
      go_wp2
      go_ret
      rw [show R = _ from HR.out, if_neg (by rw [Hof.out]; simp), if_pos Hdd.out]
      exact ⟨rfl, ⟨gb, _, wv, Hfin.out.grown w⟩, HFin.out⟩
  · have hfr : (!(N.begun i).off) = false := by rw [hof]; rfl
    rw [hfr]
    have e7 : w6.cell? ⟨b, 7, none⟩ = some wv := H6.out.hd.cell 7
    have f7 := H6.out.hd.free 7
    have Hof := hid hof
    have Hdd := hid hdd
    clear hfr hof hdd
    go_upto_region 10 with (fail)
    obtain ⟨fv, hfv⟩ : ∃ fv, Value.func (.func 55) #[] #[.pointer (some ⟨g4, 0, none⟩), .pointer (some ⟨g4 + 1, 0, none⟩), .pointer (some ⟨g1, 0, none⟩)] = fv := ⟨_, rfl⟩
    rw [hfv]
    have Hfin := hid (show AR (w6.setCell ⟨b, 7, none⟩ fv) (grow F w (w6.setCell ⟨b, 7, none⟩ fv)) b gb pv fv { N.begun i with way := some ⟨i, none, ((N.begun i).blk i).dead⟩ } from by
      rw [grow_size (size_set ..)]
      have hg := H6.out.grown w
      have hf : Fr (fun g => g = b) w6 (w6.setCell ⟨b, 7, none⟩ fv) := fr_set w6 b 7 fv rfl
      have hother : ∀ g cs T, Blk w6 g cs T → T ≠ 96 → T ≠ 99 → Blk (w6.setCell ⟨b, 7, none⟩ fv) g cs T := fun g cs T hb h1 h2 => hb.setOther ⟨b, 7, none⟩ (fun e => blk_ne2 H6.out hb h1 h2 (.inl e)) fv
      refine hg.upd hf (fun g hg => .inl hg) _ fv (by have := H6.out.hd.set 7 fv; exact this) (H6.out.row.keep (Below.heap_setCell w6 ⟨b, 7, none⟩ fv gb (fun e => H6.out.ne e.symm))) rfl (fun _ _ => rfl) ?_ ?_
      · refine ⟨g1, g4, g4 + 1, hfv.symm, hother _ _ _ Hb6.out (by decide) (by decide), ?_, hother _ _ _ Hbf.out (by decide) (by decide), .inr ⟨by have := Hg1.out; omega, Hb6.out.lt⟩, .inr ⟨Hg4.out, Hbd.out.lt⟩, .inr ⟨by have := Hg4.out; omega, Hbf.out.lt⟩⟩
        show Blk _ g4 #[.bool ((N.begun i).blk i).dead] _
        rw [Hdd.out]
        exact hother _ _ _ Hbd.out (by decide) (by decide)
      · refine ⟨H6.out.wf.nb, H6.out.wf.np, H6.out.wf.len, fun u hu => ?_, H6.out.wf.armed, H6.out.wf.doom⟩
        injection hu with hu
        subst hu
        exact ⟨Hof.out, by show i < (N.begun i).bs.length; rw [len_begun]; exact hi, fun q' hq => by cases hq⟩)
    have HFin := hid (HF6.out.set b 7 fv (.inl Hinb.out))
    clear e7 f7 hfv
    go_wp2
    go_ret
    rw [show R = _ from HR.out, if_pos Hof.out]
    exact ⟨rfl, ⟨gb, pv, fv, Hfin.out⟩, HFin.out⟩
end Go.Proofs.Ytcfildbgnjhjmaa.Nand
