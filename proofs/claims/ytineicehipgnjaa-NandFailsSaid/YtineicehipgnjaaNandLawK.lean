import Derived.Test.YtineicehipgnjaaNandStr
import Derived.Test.YtineicehipgnjaaNandCalm
import Derived.Deep.RegionHeld3
set_option linter.unusedVariables false
set_option linter.unusedSimpArgs false
namespace Go.Proofs.Ytineicehipgnjaa.Nand
open Go.RowKit Go.Proofs.Ytineicehipgnjaa.Kit

theorem arr_store {w : World} {F : Nat → Prop} {b : Nat} {N : NA} (h : Arr w F b N) (g i : Nat) (v : Value) (hg : ¬ F g) : Arr (w.setCell ⟨g, i, none⟩ v) F b N :=
  h.keep (fun k hk => Below.heap_setCell w ⟨g, i, none⟩ v k (fun e => hg (by rw [← show k = g from e]; exact hk))) (by rw [size_set]; exact Nat.le_refl _)
theorem keep_prog (q : List Int) (hq : q.length = 96) : ((newA 1 2 []).prog 0 0 q 1).2 = 0 ∧ ((newA 1 2 []).prog 0 0 q 1).1.readE 0 0 = 0 ∧ ((newA 1 2 []).prog 0 0 q 1).1.page 0 0 = q := by
  have hd : 0 < (newA 1 2 []).bs.length ∧ (newA 1 2 []).armed = 0 ∧ (newA 1 2 []).off = false ∧ ((newA 1 2 []).blk 0).doom = 0 ∧ ((newA 1 2 []).blk 0).dead = false ∧ ((newA 1 2 []).blk 0).pages = [] ∧ ((newA 1 2 []).blk 0).half = false ∧ (newA 1 2 []).fence = 0 ∧ (newA 1 2 []).pages = 2 := by decide
  obtain ⟨h1, h2, h3, h4, h5, h6, h7, h8, h9⟩ := hd
  have e := prog_calm (N := newA 1 2 []) 0 0 q 1 h1 h2 h3 h4 h5 (by rw [h6]; rfl) (by rw [h9]; omega) hq h7 (by rw [h8]; omega)
  rw [show ((0 : Nat) : Int) = 0 from rfl] at e
  rw [e]
  have eb : ((newA 1 2 []).opd.setB 0 (((newA 1 2 []).blk 0).add q)).blk 0 = ((newA 1 2 []).blk 0).add q := by rw [blk_set (N := (newA 1 2 []).opd) 0 0 _ h1, if_pos rfl]
  have ep : (((newA 1 2 []).blk 0).add q).pages = [q] := by show ((newA 1 2 []).blk 0).pages ++ [q] = [q]; rw [h6]; rfl
  refine ⟨rfl, ?_, ?_⟩
  · show ((newA 1 2 []).opd.setB 0 (((newA 1 2 []).blk 0).add q)).readE ((0 : Nat) : Int) 0 = 0
    have ha := atE_in (N := (newA 1 2 []).opd.setB 0 (((newA 1 2 []).blk 0).add q)) 0 (by rw [len_set]; exact h1) h3
    rw [readE_eq ha]
    unfold NA.readE2
    rw [if_neg (by rw [show ((newA 1 2 []).opd.setB 0 (((newA 1 2 []).blk 0).add q)).pages = 2 from h9]; omega), eb, ep, if_neg (by simp), if_neg (by rw [show (((newA 1 2 []).blk 0).add q).half = ((newA 1 2 []).blk 0).half from rfl, h7]; simp)]
  · unfold NA.page
    rw [show (0 : Int).toNat = 0 from rfl, eb, ep]
    rfl

set_option maxRecDepth 100000 in
set_option maxHeartbeats 8000000 in
theorem law_keeps (n : Int) (hn : 0 ≤ n ∧ n ≤ 255) (w : World) :
    Calls Try.prog 3 #[.int .u8 n] w fun e w' => e = .returned (.bool true) ∧ Below w.heap.size w w' := by
  obtain ⟨f1, f2, f3⟩ := keep_prog (pgL n) (pgL_len n)
  go_enter Try.func3, Try.ntmps3
  go_wp2_with fail
  refine (awake_any w).mono ?_
  rintro e w1 ⟨rfl, hB1⟩
  go_wp2_with fail
  refine (new_any 1 2 none 0 0 [] w1 (by omega) (by omega) (Nums.none _ _ _) (by simp)).mono ?_
  rintro e w2 ⟨b, rfl, hA2, hB2⟩
  replace hA2 := hid hA2
  go_wp2_with fail
  refine (page_any n w2 hn).mono ?_
  rintro e w3 ⟨g, rfl, hb3, hg3, hB3⟩
  have hA3 := hid (hA2.out.later hB3)
  have hB13 := hid (hB1.trans ((hB2.trans (hB3.mono hB2.size)).mono hB1.size))
  have hs1 := hB1.size
  have hs2 := hB2.size
  have hs3 := hB3.size
  have hgl := hb3.lt
  have hpr := program_any _ b _ 0 0 (some ⟨g, 0, none⟩) 96 96 (pgL n) 1 w3 hA3.out (nums_lit hb3 (pgL_len n) (pgL_wf n)) (by decide)
  rw [f1] at hpr
  have Hb3 := hid hb3
  clear hA2 hB1 hB2 hB3 hb3
  go_wp2_with fail
  refine hpr.mono ?_
  rintro e w4 ⟨rfl, hA4, hF4⟩
  clear hpr
  have hs4 := hF4.size
  have hgF : ¬ newF w1 w2 g := fun h => by have := h.2; omega
  have hb4 : Blk w4 g ((pgL n).map (Value.int .u8)).toArray 5 := (hF4.block g hgl hgF).trans Hb3.out
  have hgF4 : ¬ grow (newF w1 w2) w3 w4 g := fun h => by
    rcases h with h | h
    · exact hgF h
    · omega
  have hB4 : Below w.heap.size w w4 := hB13.out.trans (hF4.below hB13.out.size (fun g hg => Nat.le_trans hs1 hg.1))
  have hc0 : w4.cell? ⟨g, 0, none⟩ = some (.int .u8 (pgI n 0)) := hb4.cell 0
  have hf0 := hb4.free 0
  have hlow4 : ∀ k, grow (newF w1 w2) w3 w4 k → k < w4.heap.size := hA4.low
  have hA5 := hid (fun v => arr_store hA4 g 0 v hgF4)
  have hB5 := hid (fun v => hB4.setCell (p := (⟨g, 0, none⟩ : Addr)) (by show w.heap.size ≤ g; omega) v)
  generalize hN : ((newA 1 2 []).prog 0 0 (pgL n) 1).1 = N at *
  generalize hF : grow (newF w1 w2) w3 w4 = F at *
  clear hN hF hB4 hF4 hb4 Hb3 hA4 hA3 hgF hgF4
  go_upto_region 7 with (fail)
  generalize hw5 : World.setCell w4 _ _ = w5
  have hA5' : Arr w5 F b N := by rw [← hw5]; exact hA5.out _
  have hB5' : Below w.heap.size w w5 := by rw [← hw5]; exact hB5.out _
  have hs5 : w5.heap.size = w4.heap.size := by rw [← hw5]; exact size_set ..
  replace hA5' := hid hA5'
  clear hw5 hA5 hB5 hc0 hf0
  go_wp2_with fail
  refine (read_yes F b N 0 0 w5 hA5'.out f2).mono ?_
  rintro e w6 ⟨A6, c6, rfl, ho6, hB6⟩
  have hA6 := hid (hA5'.out.later hB6)
  obtain ⟨g6, cc, hge, hg6, hgl6, -, hfr6⟩ := own_some ho6 (by omega)
  injection hge with hA _ hcc
  subst hA hcc
  have hwfL : ∀ x ∈ N.page 0 0, (Lit.int .u8 x).wf = true := by rw [f3]; exact pgL_wf n
  have hc1 := own_at ho6 hwfL 1 (by omega)
  have hf1 := hfr6 1
  generalize (N.page 0 0).getD 1 0 = y at hc1
  rw [Nat.zero_add] at hc1
  have hnF : ¬ F g6 := fun h => by have := hlow4 g6 h; omega
  have hA7 := hid (fun v => arr_store hA6.out g6 1 v hnF)
  have hBx : Below w.heap.size w w6 := hB5'.trans (hB6.mono hB5'.size)
  have hB7 := hid (fun v => hBx.setCell (p := (⟨g6, 1, none⟩ : Addr)) (by show w.heap.size ≤ g6; have := hB5'.size; omega) v)
  clear ho6 hB6 hA6 hfr6 hBx hB5' hA5' hs5
  go_upto_region 9 with (fail)
  generalize hw7 : World.setCell w6 _ _ = w7
  have hA7' : Arr w7 F b N := by rw [← hw7]; exact hA7.out _
  have hB7' : Below w.heap.size w w7 := by rw [← hw7]; exact hB7.out _
  replace hA7' := hid hA7'
  clear hw7 hA7 hB7 hc1 hf1
  go_wp2_with fail
  refine (read_yes F b N 0 0 w7 hA7'.out f2).mono ?_
  rintro e w8 ⟨A8, c8, rfl, ho8, hB8⟩
  rw [f3] at ho8
  have hz8 := (own_reads ho8 (pgL_wf n)).2
  have hBf := hid (hB7'.trans (hB8.mono hB7'.size))
  have HC8 := hid (fun (W : World) (hW : Below w8.heap.size w8 W) => conv_str (c := c8) (hz8.below hW))
  have hBd : Below w8.heap.size w8 w8.drew := below_drewN (Below.refl _ _) 1
  have hse := str_eq_true (show pgL n = pgL n from rfl)
  clear ho8 hB8 hB7' hA7' hz8
  go_upto_region 10 with (fail)
  refine wp_region_held_drew (S := (fun w' => (convert 27 9 (.slice A8 96 c8)).run Try.prog w' = .ok (.string (strOfNums (pgL n))) w')) (by kernel_rfl) ?hSnewKz (fun hHeld => ?restKz)
  case hSnewKz => ((try dsimp only); exact HC8.out _ hBd)
  refine wpAnyH_take (i := 0) (oi := ?oiKt2x0) (v := ?vKt2x0) ?hoKt2x0 ?h1Kt2x0 ?h2Kt2x0 ?h3Kt2x0 ?hqKt2x0 (Or.inl ⟨?h4Kt2x0, ?hyKt2x0⟩) (by assumption) ?restKt2x0
  case hoKt2x0 => (simp only [List.getElem?_toArray, List.getElem?_cons_zero, List.getElem?_cons_succ]; rfl)
  case h1Kt2x0 => kernel_rfl
  case h2Kt2x0 => kernel_rfl
  case h3Kt2x0 => kernel_rfl
  case h4Kt2x0 => rfl
  case hqKt2x0 => exact fun _ _ _ h => h
  case hyKt2x0 => (intro w hSw; (try dsimp only at hSw); go_simp <;> with_reducible rfl)
  (try simp only [Act.put, List.setIfInBounds_toArray, List.set_cons_zero, List.set_cons_succ])
  refine wpAnyH_take (i := 1) (oi := ?oiKt4x1) (v := ?vKt4x1) ?hoKt4x1 ?h1Kt4x1 ?h2Kt4x1 ?h3Kt4x1 ?hqKt4x1 (Or.inl ⟨?h4Kt4x1, ?hyKt4x1⟩) (by assumption) ?restKt4x1
  case hoKt4x1 => (simp only [List.getElem?_toArray, List.getElem?_cons_zero, List.getElem?_cons_succ]; rfl)
  case h1Kt4x1 => kernel_rfl
  case h2Kt4x1 => kernel_rfl
  case h3Kt4x1 => kernel_rfl
  case h4Kt4x1 => rfl
  case hqKt4x1 => exact fun _ _ _ h => h
  case hyKt4x1 => (intro w hSw; (try dsimp only at hSw); go_simp <;> with_reducible rfl)
  (try simp only [Act.put, List.setIfInBounds_toArray, List.set_cons_zero, List.set_cons_succ])
  refine wpAnyH_take (i := 2) (oi := ?oiKt6x2) (v := ?vKt6x2) ?hoKt6x2 ?h1Kt6x2 ?h2Kt6x2 ?h3Kt6x2 ?hqKt6x2 (Or.inl ⟨?h4Kt6x2, ?hyKt6x2⟩) (by assumption) ?restKt6x2
  case hoKt6x2 => (simp only [List.getElem?_toArray, List.getElem?_cons_zero, List.getElem?_cons_succ]; rfl)
  case h1Kt6x2 => kernel_rfl
  case h2Kt6x2 => kernel_rfl
  case h3Kt6x2 => kernel_rfl
  case h4Kt6x2 => rfl
  case hqKt6x2 => exact fun _ _ _ h => h
  case hyKt6x2 => (intro w hSw; (try dsimp only at hSw); go_simp <;> with_reducible rfl)
  (try simp only [Act.put, List.setIfInBounds_toArray, List.set_cons_zero, List.set_cons_succ])
  refine wpAnyH_take (i := 3) (oi := ?oiKt8x3) (v := ?vKt8x3) ?hoKt8x3 ?h1Kt8x3 ?h2Kt8x3 ?h3Kt8x3 ?hqKt8x3 (Or.inl ⟨?h4Kt8x3, ?hyKt8x3⟩) (by assumption) ?restKt8x3
  case hoKt8x3 => (simp only [List.getElem?_toArray, List.getElem?_cons_zero, List.getElem?_cons_succ]; rfl)
  case h1Kt8x3 => kernel_rfl
  case h2Kt8x3 => kernel_rfl
  case h3Kt8x3 => kernel_rfl
  case h4Kt8x3 => rfl
  case hqKt8x3 => exact fun _ _ _ h => h
  case hyKt8x3 => (intro w hSw; (try dsimp only at hSw); go_simp <;> with_reducible rfl)
  (try simp only [Act.put, List.setIfInBounds_toArray, List.set_cons_zero, List.set_cons_succ])
  refine wpAnyH_take (i := 4) (oi := ?oiKt10x4) (v := ?vKt10x4) ?hoKt10x4 ?h1Kt10x4 ?h2Kt10x4 ?h3Kt10x4 ?hqKt10x4 (Or.inl ⟨?h4Kt10x4, ?hyKt10x4⟩) (by assumption) ?restKt10x4
  case hoKt10x4 => (simp only [List.getElem?_toArray, List.getElem?_cons_zero, List.getElem?_cons_succ]; rfl)
  case h1Kt10x4 => kernel_rfl
  case h2Kt10x4 => kernel_rfl
  case h3Kt10x4 => kernel_rfl
  case h4Kt10x4 => rfl
  case hqKt10x4 => exact fun _ _ _ h => h
  case hyKt10x4 => (intro w hSw; (try dsimp only at hSw); go_simp <;> with_reducible rfl)
  (try simp only [Act.put, List.setIfInBounds_toArray, List.set_cons_zero, List.set_cons_succ])
  refine wpAnyH_take (i := 5) (oi := ?oiKt12x5) (v := ?vKt12x5) ?hoKt12x5 ?h1Kt12x5 ?h2Kt12x5 ?h3Kt12x5 ?hqKt12x5 (Or.inl ⟨?h4Kt12x5, ?hyKt12x5⟩) (by assumption) ?restKt12x5
  case hoKt12x5 => (simp only [List.getElem?_toArray, List.getElem?_cons_zero, List.getElem?_cons_succ]; rfl)
  case h1Kt12x5 => kernel_rfl
  case h2Kt12x5 => kernel_rfl
  case h3Kt12x5 => kernel_rfl
  case h4Kt12x5 => rfl
  case hqKt12x5 => exact fun _ _ _ h => h
  case hyKt12x5 => (intro w hSw; (try dsimp only at hSw); go_simp <;> with_reducible rfl)
  (try simp only [Act.put, List.setIfInBounds_toArray, List.set_cons_zero, List.set_cons_succ])
  refine wpAnyH_ready (rs := [6]) (by kernel_rfl) (by simp) ?_
  refine AllReadyH.cons (o := ?oiKq13) ?hoKq13 (fun K hK => ?restKq13) ?moreKq13
  case moreKq13 => exact AllReadyH.nil
  case hoKq13 => (simp only [List.getElem?_toArray, List.getElem?_cons_zero, List.getElem?_cons_succ]; rfl)
  go_simp
  refine (page_any n _ hn).mono ?_
  rintro e w9 ⟨g9, rfl, hb9, hg9, hB9⟩
  have hB9' : Below w8.heap.size w8 w9 := hBd.trans hB9
  have hcv9 := conv_str (c := 96) (nums_lit hb9 (pgL_len n) (pgL_wf n))
  try go_wp2_with fail
  refine hK.out _ _ ?hSnewKhq13 (fun hHeld => ?restKhq13)
  case hSnewKhq13 => ((try dsimp only); exact HC8.out _ hB9')
  clear hK K
  (try simp only [Act.put, List.setIfInBounds_toArray, List.set_cons_zero, List.set_cons_succ])
  refine held_switch (fun w' => (convert 27 9 (.slice A8 96 c8)).run Try.prog w' = .ok (.string (strOfNums (pgL n))) w' ∧ (convert 27 9 (.slice (some ⟨g9, 0, none⟩) 96 96)).run Try.prog w' = .ok (.string (strOfNums (pgL n))) w') (fun w h => h.1) ?hSnewKsa14 (fun hHeld => ?restKsa14)
  case hSnewKsa14 => ((try dsimp only); exact ⟨HC8.out _ hB9', hcv9⟩)
  refine wpAnyH_take (i := 7) (oi := ?oiKt16x7) (v := ?vKt16x7) ?hoKt16x7 ?h1Kt16x7 ?h2Kt16x7 ?h3Kt16x7 ?hqKt16x7 (Or.inl ⟨?h4Kt16x7, ?hyKt16x7⟩) (by assumption) ?restKt16x7
  case hoKt16x7 => (simp only [List.getElem?_toArray, List.getElem?_cons_zero, List.getElem?_cons_succ]; rfl)
  case h1Kt16x7 => kernel_rfl
  case h2Kt16x7 => kernel_rfl
  case h3Kt16x7 => kernel_rfl
  case h4Kt16x7 => rfl
  case hqKt16x7 => exact fun _ _ _ h => h
  case hyKt16x7 => (intro w hSw; (try dsimp only at hSw); go_simp <;> with_reducible rfl)
  (try simp only [Act.put, List.setIfInBounds_toArray, List.set_cons_zero, List.set_cons_succ])
  refine wpAnyH_take (i := 8) (oi := ?oiKt18x8) (v := ?vKt18x8) ?hoKt18x8 ?h1Kt18x8 ?h2Kt18x8 ?h3Kt18x8 ?hqKt18x8 (Or.inl ⟨?h4Kt18x8, ?hyKt18x8⟩) (by assumption) ?restKt18x8
  case hoKt18x8 => (simp only [List.getElem?_toArray, List.getElem?_cons_zero, List.getElem?_cons_succ]; rfl)
  case h1Kt18x8 => kernel_rfl
  case h2Kt18x8 => kernel_rfl
  case h3Kt18x8 => kernel_rfl
  case h4Kt18x8 => rfl
  case hqKt18x8 => exact fun _ _ _ h => h
  case hyKt18x8 => (intro w hSw; (try dsimp only at hSw); go_simp <;> with_reducible rfl)
  (try simp only [Act.put, List.setIfInBounds_toArray, List.set_cons_zero, List.set_cons_succ])
  refine wpAnyH_take (i := 9) (oi := ?oiKt20x9) (v := ?vKt20x9) ?hoKt20x9 ?h1Kt20x9 ?h2Kt20x9 ?h3Kt20x9 ?hqKt20x9 (Or.inl ⟨?h4Kt20x9, ?hyKt20x9⟩) (by assumption) ?restKt20x9
  case hoKt20x9 => (simp only [List.getElem?_toArray, List.getElem?_cons_zero, List.getElem?_cons_succ]; rfl)
  case h1Kt20x9 => kernel_rfl
  case h2Kt20x9 => kernel_rfl
  case h3Kt20x9 => kernel_rfl
  case h4Kt20x9 => rfl
  case hqKt20x9 => exact fun _ _ _ h => h
  case hyKt20x9 => (intro w hSw; (try dsimp only at hSw); go_simp <;> with_reducible rfl)
  (try simp only [Act.put, List.setIfInBounds_toArray, List.set_cons_zero, List.set_cons_succ])
  refine wpAnyH_take (i := 10) (oi := ?oiKt22x10) (v := ?vKt22x10) ?hoKt22x10 ?h1Kt22x10 ?h2Kt22x10 ?h3Kt22x10 ?hqKt22x10 (Or.inl ⟨?h4Kt22x10, ?hyKt22x10⟩) (by assumption) ?restKt22x10
  case hoKt22x10 => (simp only [List.getElem?_toArray, List.getElem?_cons_zero, List.getElem?_cons_succ]; rfl)
  case h1Kt22x10 => kernel_rfl
  case h2Kt22x10 => kernel_rfl
  case h3Kt22x10 => kernel_rfl
  case h4Kt22x10 => rfl
  case hqKt22x10 => exact fun _ _ _ h => h
  case hyKt22x10 => (intro w hSw; (try dsimp only at hSw); go_simp <;> with_reducible rfl)
  (try simp only [Act.put, List.setIfInBounds_toArray, List.set_cons_zero, List.set_cons_succ])
  refine wpAnyH_done (by kernel_rfl) ?_ _
  have hfin := hid (hBf.out.trans (hB9'.mono hBf.out.size))
  clear hcv9 hB9' HC8
  go_wp2
  go_ret
  exact ⟨rfl, hfin.out⟩
end Go.Proofs.Ytineicehipgnjaa.Nand
