import Derived.Test.YtineicehipgnjaaNandLawK
set_option linter.unusedVariables false
set_option linter.unusedSimpArgs false
namespace Go.Proofs.Ytineicehipgnjaa.Nand
open Go.RowKit Go.Proofs.Ytineicehipgnjaa.Kit

/-- A block that stands well, with such pages. -/
def gB (ps : List (List Int)) : NB := ⟨ps, 0, false, false, false, 0⟩
def cN1 : NA := ⟨[gB [pgL 1]], 4, 0, 0, 0, false, 1, none⟩
def cN2 : NA := ⟨[gB [pgL 1]], 4, 0, 0, 1, false, 1, none⟩
def cN3 (q : List Int) : NA := ⟨[gB [pgL 1]], 4, 0, 0, 0, true, 2, some ⟨0, some q, false⟩⟩
def cN4 (q : List Int) (cut : Int) : NA := ⟨[gB (if 0 < cut then [pgL 1, tornL q cut] else [pgL 1])], 4, 0, 1, 0, false, 2, none⟩
theorem cuts1 : (newA 1 4 []).prog 0 0 (pgL 1) 1 = (cN1, 0) := by
  have e := prog_calm (N := newA 1 4 []) 0 0 (pgL 1) 1 (by decide) rfl rfl rfl rfl rfl (by decide) (pgL_len 1) rfl (by decide)
  exact e.trans (by kernel_rfl)
theorem cuts2 : cN1.arm 1 = (cN2, 0) := rfl
theorem cuts3 (q : List Int) (hq : q.length = 96) : cN2.prog 0 1 q 1 = (cN3 q, 9) := by
  have h := progE_in (N := cN2) 0 1 q.length 1 (by decide) rfl rfl (by decide) hq rfl (by decide)
  have e := prog_eq (N := cN2) (i := 0) (p := 1) (q := q) (ep := 1) h
  exact e.trans (by kernel_rfl)
theorem cuts4 (q : List Int) (cut : Int) : (cN3 q).restart cut = cN4 q cut := by
  unfold NA.restart NA.fall cN4
  simp only [cN3]
  by_cases h : 0 < cut
  · rw [if_pos h, if_pos h]
    kernel_rfl
  · rw [if_neg h, if_neg h]
    kernel_rfl
theorem cuts5 (q : List Int) (cut : Int) : (cN4 q cut).readE 0 0 = 0 ∧ (cN4 q cut).page 0 0 = pgL 1 ∧ (cN4 q cut).readE 0 1 = (if 0 < cut then 0 else 5) ∧ (0 < cut → (cN4 q cut).page 0 1 = tornL q cut) ∧ (if (cN4 q cut).inI 0 then (((cN4 q cut).blk (0 : Int).toNat).pages.length : Int) else 0) = (if 0 < cut then 2 else 1) := by
  by_cases h : 0 < cut
  · have e : cN4 q cut = ⟨[gB [pgL 1, tornL q cut]], 4, 0, 1, 0, false, 2, none⟩ := by unfold cN4; rw [if_pos h]
    rw [e, if_pos h, if_pos h]
    exact ⟨rfl, rfl, rfl, fun _ => rfl, rfl⟩
  · have e : cN4 q cut = ⟨[gB [pgL 1]], 4, 0, 1, 0, false, 2, none⟩ := by unfold cN4; rw [if_neg h]
    rw [e, if_neg h, if_neg h]
    exact ⟨rfl, rfl, rfl, fun h' => absurd h' h, rfl⟩
theorem boots_b {w0 w : World} {b : Nat} {N : NA} (h : ArrB w0 w b N) : Calls Try.prog 22 #[.pointer (some ⟨b, 0, none⟩)] w fun e w' => e = .returned (.int .i64 N.boots) ∧ w' = w := by
  obtain ⟨F, h1, h2, h3⟩ := h
  exact boots_any F b N w h1
theorem on_b {w0 w : World} {b : Nat} {N : NA} (h : ArrB w0 w b N) : Calls Try.prog 20 #[.pointer (some ⟨b, 0, none⟩)] w fun e w' => e = .returned (.bool (!N.off)) ∧ w' = w := by
  obtain ⟨F, h1, h2, h3⟩ := h
  exact on_any F b N w h1
/-- What the law makes of its page: ff from cut on. -/
def wantL (n cut : Int) (k : Nat) : List Int := (List.range 96).map (fun j => if j < k ∧ cut ≤ (j : Int) then 255 else pgI n j)
theorem wantL_zero (n cut : Int) : wantL n cut 0 = pgL n := by
  unfold wantL pgL
  refine List.map_congr_left fun j _ => ?_
  rw [if_neg (by omega)]
theorem wantL_len (n cut : Int) (k : Nat) : (wantL n cut k).length = 96 := by simp [wantL]
theorem wantL_keep (n cut : Int) (k : Nat) (h : ¬ cut ≤ (k : Int)) : wantL n cut (k + 1) = wantL n cut k := by
  unfold wantL
  refine List.map_congr_left fun j _ => ?_
  by_cases e : j < k ∧ cut ≤ (j : Int)
  · rw [if_pos e, if_pos ⟨by omega, e.2⟩]
  · rw [if_neg e, if_neg (by omega)]
theorem wantL_set (n cut : Int) (k : Nat) (hk : k < 96) (h : cut ≤ (k : Int)) : wantL n cut (k + 1) = (wantL n cut k).set k 255 := by
  unfold wantL
  refine List.ext_getElem (by simp) (fun j h1 h2 => ?_)
  rw [List.getElem_set]
  simp only [List.getElem_map, List.getElem_range]
  by_cases e : k = j
  · subst e
    rw [if_pos rfl, if_pos ⟨by omega, h⟩]
  · rw [if_neg e]
    by_cases e2 : j < k ∧ cut ≤ (j : Int)
    · rw [if_pos e2, if_pos ⟨by omega, e2.2⟩]
    · rw [if_neg e2, if_neg (by omega)]
theorem wantL_all (n cut : Int) (hc : 0 < cut) : wantL n cut 96 = tornL (pgL n) cut := by
  refine List.ext_getElem? (fun j => ?_)
  by_cases hj : j < 96
  · unfold wantL tornL pgL
    rw [List.getElem?_map, List.getElem?_range hj, List.getElem?_append, List.length_take, List.length_map, List.length_range]
    by_cases e : cut ≤ (j : Int)
    · rw [if_neg (by omega), List.getElem?_replicate, if_pos (by omega)]
      simp only [Option.map_some]
      rw [if_pos ⟨hj, e⟩]
    · rw [if_pos (by omega), List.getElem?_take, if_pos (by omega), List.getElem?_map, List.getElem?_range hj]
      simp only [Option.map_some]
      rw [if_neg (fun x => e x.2)]
  · rw [List.getElem?_eq_none (by rw [wantL_len]; omega), List.getElem?_eq_none (by rw [tornL_len, pgL_len]; omega)]

set_option maxRecDepth 100000 in
set_option maxHeartbeats 16000000 in
theorem law_cuts (n : Int) (hn : 0 ≤ n ∧ n ≤ 255) (cut : Int) (hcut : -9223372036854775808 ≤ cut ∧ cut ≤ 9223372036854775807) (w : World) :
    Calls Try.prog 5 #[.int .u8 n, .int .i64 cut] w fun e w' => e = .returned (.bool true) ∧ Below w.heap.size w w' := by
  obtain ⟨r1, r2, r3, r4, r5⟩ := cuts5 (pgL n) cut
  have hc3 := cuts3 (pgL n) (pgL_len n)
  have hc4 := cuts4 (pgL n) cut
  have hbo1 : (cN4 (pgL n) cut).boots = 1 := rfl
  generalize hwk : cN4 (pgL n) cut = wake at *
  clear hwk
  go_enter Try.func5, Try.ntmps5
  go_wp2_with fail
  refine (awake_any w).mono ?_
  rintro e w1 ⟨rfl, hB1⟩
  go_wp2_with fail
  refine (new_b w 1 4 none 0 0 [] w1 hB1 (by omega) (by omega) (Nums.none _ _ _) (by simp)).mono ?_
  rintro e w2 ⟨b, rfl, h2⟩
  replace h2 := hid h2
  clear hB1
  go_wp2_with fail
  refine (page_b h2.out 1 (by omega)).mono ?_
  rintro e w3 ⟨g3, rfl, hz3, h3, -, -, -⟩
  have hp := program_b h3 0 0 _ 96 96 _ 1 hz3 (by decide)
  rw [cuts1] at hp
  clear h2 h3 hz3
  go_wp2_with fail
  refine hp.mono ?_
  rintro e w4 ⟨rfl, h4⟩
  have ha := arm_b h4 1 (by decide)
  rw [show ((cN1, (0 : Int)).1.arm 1) = (cN2, 0) from cuts2] at ha
  clear hp h4
  go_wp2_with fail
  refine ha.mono ?_
  rintro e w5 ⟨rfl, h5⟩
  clear ha
  replace h5 := hid (show ArrB w w5 b cN2 from h5)
  go_wp2_with fail
  refine (page_b h5.out n hn).mono ?_
  rintro e w3 ⟨g3, rfl, hz3, h3, -, -, -⟩
  have hp := program_b h3 0 1 _ 96 96 _ 1 hz3 (by decide)
  rw [hc3] at hp
  clear h5 h3 hz3
  go_wp2_with fail
  refine hp.mono ?_
  rintro e w4 ⟨rfl, h4⟩
  clear hp
  replace h4 : ArrB w w4 b (cN3 (pgL n)) := h4
  have hon := on_b h4
  have hrd := read_no_b h4 0 0 (show (cN3 (pgL n)).readE 0 0 ≠ 0 by rw [show (cN3 (pgL n)).readE 0 0 = 9 from rfl]; decide)
  have hre := restart_b h4 cut
  rw [hc4] at hre
  rw [show (!(cN3 (pgL n)).off) = false from rfl] at hon
  rw [show (cN3 (pgL n)).readE 0 0 = 9 from rfl] at hrd
  clear h4 hc3 hc4
  go_wp2_with fail
  refine hon.mono ?_
  rintro e w4 ⟨rfl, rfl⟩
  clear hon
  go_wp2_with fail
  refine hrd.mono ?_
  rintro e w4 ⟨rfl, rfl⟩
  clear hrd
  go_wp2_with fail
  refine hre.mono ?_
  rintro e w5 ⟨rfl, h5⟩
  clear hre
  have hrd := read_yes_b h5 0 0 r1
  clear h5
  go_wp2_with fail
  refine hrd.mono ?_
  rintro e w6 ⟨A6, c6, rfl, ho6, h6, -⟩
  clear hrd
  rw [r2] at ho6
  have hz6 := (own_reads ho6 (pgL_wf 1)).2
  have HC6 := hid (fun (W : World) (hW : Below w6.heap.size w6 W) => conv_str (c := c6) (hz6.below hW))
  have hse := str_eq_true (show pgL 1 = pgL 1 from rfl)
  clear ho6 hz6
  have hBd0 : Below w6.heap.size w6 w6.drew := below_drewN (Below.refl _ _) 1
  by_cases h0 : 0 < cut
  · rw [if_pos h0] at r3 r5
    have hrd := read_yes_b h6 0 1 r3
    have hc0 : ¬ cut ≤ 0 := by omega
    clear h6
    go_wp2_with fail
    refine hrd.mono ?_
    rintro e w7 ⟨A7, c7, rfl, ho7, h7, hB67⟩
    clear hrd
    rw [r4 h0] at ho7
    have hz7 := (own_reads ho7 (tornL_wf _ _ (pgL_wf n))).2
    have HC7 := hid (fun (W : World) (hW : Below w7.heap.size w7 W) => conv_str (c := c7) (hz7.below hW))
    have HA := hid h7
    have hBd : Below w7.heap.size w7 w7.drew := below_drewN (Below.refl _ _) 1
    have hBd0 : Below w6.heap.size w6 w7.drew := hB67.trans (hBd.mono hB67.size)
    clear ho7 hz7 h7
    go_upto_region 12 with (fail)
    refine wp_region_held_drew (S := (fun w' => (convert 27 9 (.slice A6 96 c6)).run Try.prog w' = .ok (.string (strOfNums (pgL 1))) w')) (by kernel_rfl) ?hSnewDz (fun hHeld => ?restDz)
    case hSnewDz => ((try dsimp only); exact HC6.out _ hBd0)
    refine wpAnyH_take (i := 0) (oi := ?oiDt2x0) (v := ?vDt2x0) ?hoDt2x0 ?h1Dt2x0 ?h2Dt2x0 ?h3Dt2x0 ?hqDt2x0 (Or.inl ⟨?h4Dt2x0, ?hyDt2x0⟩) (by assumption) ?restDt2x0
    case hoDt2x0 => (simp only [List.getElem?_toArray, List.getElem?_cons_zero, List.getElem?_cons_succ]; rfl)
    case h1Dt2x0 => kernel_rfl
    case h2Dt2x0 => kernel_rfl
    case h3Dt2x0 => kernel_rfl
    case h4Dt2x0 => rfl
    case hqDt2x0 => exact fun _ _ _ h => h
    case hyDt2x0 => (intro w hSw; (try dsimp only at hSw); go_simp <;> with_reducible rfl)
    (try simp only [Act.put, List.setIfInBounds_toArray, List.set_cons_zero, List.set_cons_succ])
    refine wpAnyH_take (i := 1) (oi := ?oiDt4x1) (v := ?vDt4x1) ?hoDt4x1 ?h1Dt4x1 ?h2Dt4x1 ?h3Dt4x1 ?hqDt4x1 (Or.inl ⟨?h4Dt4x1, ?hyDt4x1⟩) (by assumption) ?restDt4x1
    case hoDt4x1 => (simp only [List.getElem?_toArray, List.getElem?_cons_zero, List.getElem?_cons_succ]; rfl)
    case h1Dt4x1 => kernel_rfl
    case h2Dt4x1 => kernel_rfl
    case h3Dt4x1 => kernel_rfl
    case h4Dt4x1 => rfl
    case hqDt4x1 => exact fun _ _ _ h => h
    case hyDt4x1 => (intro w hSw; (try dsimp only at hSw); go_simp <;> with_reducible rfl)
    (try simp only [Act.put, List.setIfInBounds_toArray, List.set_cons_zero, List.set_cons_succ])
    refine wpAnyH_take (i := 2) (oi := ?oiDt6x2) (v := ?vDt6x2) ?hoDt6x2 ?h1Dt6x2 ?h2Dt6x2 ?h3Dt6x2 ?hqDt6x2 (Or.inl ⟨?h4Dt6x2, ?hyDt6x2⟩) (by assumption) ?restDt6x2
    case hoDt6x2 => (simp only [List.getElem?_toArray, List.getElem?_cons_zero, List.getElem?_cons_succ]; rfl)
    case h1Dt6x2 => kernel_rfl
    case h2Dt6x2 => kernel_rfl
    case h3Dt6x2 => kernel_rfl
    case h4Dt6x2 => rfl
    case hqDt6x2 => exact fun _ _ _ h => h
    case hyDt6x2 => (intro w hSw; (try dsimp only at hSw); go_simp <;> with_reducible rfl)
    (try simp only [Act.put, List.setIfInBounds_toArray, List.set_cons_zero, List.set_cons_succ])
    refine wpAnyH_take (i := 3) (oi := ?oiDt8x3) (v := ?vDt8x3) ?hoDt8x3 ?h1Dt8x3 ?h2Dt8x3 ?h3Dt8x3 ?hqDt8x3 (Or.inl ⟨?h4Dt8x3, ?hyDt8x3⟩) (by assumption) ?restDt8x3
    case hoDt8x3 => (simp only [List.getElem?_toArray, List.getElem?_cons_zero, List.getElem?_cons_succ]; rfl)
    case h1Dt8x3 => kernel_rfl
    case h2Dt8x3 => kernel_rfl
    case h3Dt8x3 => kernel_rfl
    case h4Dt8x3 => rfl
    case hqDt8x3 => exact fun _ _ _ h => h
    case hyDt8x3 => (intro w hSw; (try dsimp only at hSw); go_simp <;> with_reducible rfl)
    (try simp only [Act.put, List.setIfInBounds_toArray, List.set_cons_zero, List.set_cons_succ])
    refine wpAnyH_take (i := 4) (oi := ?oiDt10x4) (v := ?vDt10x4) ?hoDt10x4 ?h1Dt10x4 ?h2Dt10x4 ?h3Dt10x4 ?hqDt10x4 (Or.inl ⟨?h4Dt10x4, ?hyDt10x4⟩) (by assumption) ?restDt10x4
    case hoDt10x4 => (simp only [List.getElem?_toArray, List.getElem?_cons_zero, List.getElem?_cons_succ]; rfl)
    case h1Dt10x4 => kernel_rfl
    case h2Dt10x4 => kernel_rfl
    case h3Dt10x4 => kernel_rfl
    case h4Dt10x4 => rfl
    case hqDt10x4 => exact fun _ _ _ h => h
    case hyDt10x4 => (intro w hSw; (try dsimp only at hSw); go_simp <;> with_reducible rfl)
    (try simp only [Act.put, List.setIfInBounds_toArray, List.set_cons_zero, List.set_cons_succ])
    refine wpAnyH_take (i := 5) (oi := ?oiDt12x5) (v := ?vDt12x5) ?hoDt12x5 ?h1Dt12x5 ?h2Dt12x5 ?h3Dt12x5 ?hqDt12x5 (Or.inl ⟨?h4Dt12x5, ?hyDt12x5⟩) (by assumption) ?restDt12x5
    case hoDt12x5 => (simp only [List.getElem?_toArray, List.getElem?_cons_zero, List.getElem?_cons_succ]; rfl)
    case h1Dt12x5 => kernel_rfl
    case h2Dt12x5 => kernel_rfl
    case h3Dt12x5 => kernel_rfl
    case h4Dt12x5 => rfl
    case hqDt12x5 => exact fun _ _ _ h => h
    case hyDt12x5 => (intro w hSw; (try dsimp only at hSw); go_simp <;> with_reducible rfl)
    (try simp only [Act.put, List.setIfInBounds_toArray, List.set_cons_zero, List.set_cons_succ])
    refine wpAnyH_take (i := 6) (oi := ?oiDt14x6) (v := ?vDt14x6) ?hoDt14x6 ?h1Dt14x6 ?h2Dt14x6 ?h3Dt14x6 ?hqDt14x6 (Or.inl ⟨?h4Dt14x6, ?hyDt14x6⟩) (by assumption) ?restDt14x6
    case hoDt14x6 => (simp only [List.getElem?_toArray, List.getElem?_cons_zero, List.getElem?_cons_succ]; rfl)
    case h1Dt14x6 => kernel_rfl
    case h2Dt14x6 => kernel_rfl
    case h3Dt14x6 => kernel_rfl
    case h4Dt14x6 => rfl
    case hqDt14x6 => exact fun _ _ _ h => h
    case hyDt14x6 => (intro w hSw; (try dsimp only at hSw); go_simp <;> with_reducible rfl)
    (try simp only [Act.put, List.setIfInBounds_toArray, List.set_cons_zero, List.set_cons_succ])
    refine wpAnyH_take (i := 7) (oi := ?oiDt16x7) (v := ?vDt16x7) ?hoDt16x7 ?h1Dt16x7 ?h2Dt16x7 ?h3Dt16x7 ?hqDt16x7 (Or.inl ⟨?h4Dt16x7, ?hyDt16x7⟩) (by assumption) ?restDt16x7
    case hoDt16x7 => (simp only [List.getElem?_toArray, List.getElem?_cons_zero, List.getElem?_cons_succ]; rfl)
    case h1Dt16x7 => kernel_rfl
    case h2Dt16x7 => kernel_rfl
    case h3Dt16x7 => kernel_rfl
    case h4Dt16x7 => rfl
    case hqDt16x7 => exact fun _ _ _ h => h
    case hyDt16x7 => (intro w hSw; (try dsimp only at hSw); go_simp <;> with_reducible rfl)
    (try simp only [Act.put, List.setIfInBounds_toArray, List.set_cons_zero, List.set_cons_succ])
    refine wpAnyH_take (i := 8) (oi := ?oiDt18x8) (v := ?vDt18x8) ?hoDt18x8 ?h1Dt18x8 ?h2Dt18x8 ?h3Dt18x8 ?hqDt18x8 (Or.inl ⟨?h4Dt18x8, ?hyDt18x8⟩) (by assumption) ?restDt18x8
    case hoDt18x8 => (simp only [List.getElem?_toArray, List.getElem?_cons_zero, List.getElem?_cons_succ]; rfl)
    case h1Dt18x8 => kernel_rfl
    case h2Dt18x8 => kernel_rfl
    case h3Dt18x8 => kernel_rfl
    case h4Dt18x8 => rfl
    case hqDt18x8 => exact fun _ _ _ h => h
    case hyDt18x8 => (intro w hSw; (try dsimp only at hSw); go_simp <;> with_reducible rfl)
    (try simp only [Act.put, List.setIfInBounds_toArray, List.set_cons_zero, List.set_cons_succ])
    refine wpAnyH_ready (rs := [9]) (by kernel_rfl) (by simp) ?_
    refine AllReadyH.cons (o := ?oiDq19) ?hoDq19 (fun K hK => ?restDq19) ?moreDq19
    case moreDq19 => exact AllReadyH.nil
    case hoDq19 => (simp only [List.getElem?_toArray, List.getElem?_cons_zero, List.getElem?_cons_succ]; rfl)
    go_simp
    refine (page_any 1 _ (by omega)).mono ?_
    rintro e w9 ⟨g9, rfl, hb9, hg9, hB9⟩
    have hB9'' : Below w7.heap.size w7 w9 := hBd.trans hB9
    have hB9' : Below w6.heap.size w6 w9 := hB67.trans (hB9''.mono hB67.size)
    have hcv9 := conv_str (c := 96) (nums_lit hb9 (pgL_len 1) (pgL_wf 1))
    have h9 := HA.out.later hB9''
    have hbo := boots_b h9
    have e9 : wake.boots = 1 := hbo1
    rw [e9] at hbo
    try go_wp2_with fail
    refine hK.out _ _ ?hSnewDhq19 (fun hHeld => ?restDhq19)
    case hSnewDhq19 => ((try dsimp only); exact HC6.out _ hB9')
    clear hK K
    (try simp only [Act.put, List.setIfInBounds_toArray, List.set_cons_zero, List.set_cons_succ])
    refine held_switch (fun w' => (convert 27 9 (.slice A6 96 c6)).run Try.prog w' = .ok (.string (strOfNums (pgL 1))) w' ∧ (convert 27 9 (.slice (some ⟨g9, 0, none⟩) 96 96)).run Try.prog w' = .ok (.string (strOfNums (pgL 1))) w') (fun w h => h.1) ?hSnewDsa20 (fun hHeld => ?restDsa20)
    case hSnewDsa20 => ((try dsimp only); exact ⟨HC6.out _ hB9', hcv9⟩)
    refine wpAnyH_take (i := 10) (oi := ?oiDt22x10) (v := ?vDt22x10) ?hoDt22x10 ?h1Dt22x10 ?h2Dt22x10 ?h3Dt22x10 ?hqDt22x10 (Or.inl ⟨?h4Dt22x10, ?hyDt22x10⟩) (by assumption) ?restDt22x10
    case hoDt22x10 => (simp only [List.getElem?_toArray, List.getElem?_cons_zero, List.getElem?_cons_succ]; rfl)
    case h1Dt22x10 => kernel_rfl
    case h2Dt22x10 => kernel_rfl
    case h3Dt22x10 => kernel_rfl
    case h4Dt22x10 => rfl
    case hqDt22x10 => exact fun _ _ _ h => h
    case hyDt22x10 => (intro w hSw; (try dsimp only at hSw); go_simp <;> with_reducible rfl)
    (try simp only [Act.put, List.setIfInBounds_toArray, List.set_cons_zero, List.set_cons_succ])
    refine wpAnyH_take (i := 11) (oi := ?oiDt24x11) (v := ?vDt24x11) ?hoDt24x11 ?h1Dt24x11 ?h2Dt24x11 ?h3Dt24x11 ?hqDt24x11 (Or.inl ⟨?h4Dt24x11, ?hyDt24x11⟩) (by assumption) ?restDt24x11
    case hoDt24x11 => (simp only [List.getElem?_toArray, List.getElem?_cons_zero, List.getElem?_cons_succ]; rfl)
    case h1Dt24x11 => kernel_rfl
    case h2Dt24x11 => kernel_rfl
    case h3Dt24x11 => kernel_rfl
    case h4Dt24x11 => rfl
    case hqDt24x11 => exact fun _ _ _ h => h
    case hyDt24x11 => (intro w hSw; (try dsimp only at hSw); go_simp <;> with_reducible rfl)
    (try simp only [Act.put, List.setIfInBounds_toArray, List.set_cons_zero, List.set_cons_succ])
    refine wpAnyH_take (i := 12) (oi := ?oiDt26x12) (v := ?vDt26x12) ?hoDt26x12 ?h1Dt26x12 ?h2Dt26x12 ?h3Dt26x12 ?hqDt26x12 (Or.inl ⟨?h4Dt26x12, ?hyDt26x12⟩) (by assumption) ?restDt26x12
    case hoDt26x12 => (simp only [List.getElem?_toArray, List.getElem?_cons_zero, List.getElem?_cons_succ]; rfl)
    case h1Dt26x12 => kernel_rfl
    case h2Dt26x12 => kernel_rfl
    case h3Dt26x12 => kernel_rfl
    case h4Dt26x12 => rfl
    case hqDt26x12 => exact fun _ _ _ h => h
    case hyDt26x12 => (intro w hSw; (try dsimp only at hSw); go_simp <;> with_reducible rfl)
    (try simp only [Act.put, List.setIfInBounds_toArray, List.set_cons_zero, List.set_cons_succ])
    refine wpAnyH_take (i := 13) (oi := ?oiDt28x13) (v := ?vDt28x13) ?hoDt28x13 ?h1Dt28x13 ?h2Dt28x13 ?h3Dt28x13 ?hqDt28x13 (Or.inl ⟨?h4Dt28x13, ?hyDt28x13⟩) (by assumption) ?restDt28x13
    case hoDt28x13 => (simp only [List.getElem?_toArray, List.getElem?_cons_zero, List.getElem?_cons_succ]; rfl)
    case h1Dt28x13 => kernel_rfl
    case h2Dt28x13 => kernel_rfl
    case h3Dt28x13 => kernel_rfl
    case h4Dt28x13 => rfl
    case hqDt28x13 => exact fun _ _ _ h => h
    case hyDt28x13 => (intro w hSw; (try dsimp only at hSw); go_simp <;> with_reducible rfl)
    (try simp only [Act.put, List.setIfInBounds_toArray, List.set_cons_zero, List.set_cons_succ])
    refine wpAnyH_take (i := 14) (oi := ?oiDt30x14) (v := ?vDt30x14) ?hoDt30x14 ?h1Dt30x14 ?h2Dt30x14 ?h3Dt30x14 ?hqDt30x14 (Or.inl ⟨?h4Dt30x14, ?hyDt30x14⟩) (by assumption) ?restDt30x14
    case hoDt30x14 => (simp only [List.getElem?_toArray, List.getElem?_cons_zero, List.getElem?_cons_succ]; rfl)
    case h1Dt30x14 => kernel_rfl
    case h2Dt30x14 => kernel_rfl
    case h3Dt30x14 => kernel_rfl
    case h4Dt30x14 => rfl
    case hqDt30x14 => exact fun _ _ _ h => h
    case hyDt30x14 => (intro w hSw; (try dsimp only at hSw); go_simp <;> with_reducible rfl)
    (try simp only [Act.put, List.setIfInBounds_toArray, List.set_cons_zero, List.set_cons_succ])
    refine wpAnyH_ready (rs := [15]) (by kernel_rfl) (by simp) ?_
    refine AllReadyH.cons (o := ?oiDq31) ?hoDq31 (fun K hK => ?restDq31) ?moreDq31
    case moreDq31 => exact AllReadyH.nil
    case hoDq31 => (simp only [List.getElem?_toArray, List.getElem?_cons_zero, List.getElem?_cons_succ]; rfl)
    go_simp
    refine hbo.mono ?_
    rintro e w9 ⟨rfl, rfl⟩
    try go_wp2_with fail
    refine hK.out _ _ ?hSnewDhq31 (fun hHeld => ?restDhq31)
    case hSnewDhq31 => ((try dsimp only); exact ⟨HC6.out _ hB9', hcv9⟩)
    clear hK K
    (try simp only [Act.put, List.setIfInBounds_toArray, List.set_cons_zero, List.set_cons_succ])
    refine wpAnyH_take (i := 16) (oi := ?oiDt33x16) (v := ?vDt33x16) ?hoDt33x16 ?h1Dt33x16 ?h2Dt33x16 ?h3Dt33x16 ?hqDt33x16 (Or.inl ⟨?h4Dt33x16, ?hyDt33x16⟩) (by assumption) ?restDt33x16
    case hoDt33x16 => (simp only [List.getElem?_toArray, List.getElem?_cons_zero, List.getElem?_cons_succ]; rfl)
    case h1Dt33x16 => kernel_rfl
    case h2Dt33x16 => kernel_rfl
    case h3Dt33x16 => kernel_rfl
    case h4Dt33x16 => rfl
    case hqDt33x16 => exact fun _ _ _ h => h
    case hyDt33x16 => (intro w hSw; (try dsimp only at hSw); go_simp <;> with_reducible rfl)
    (try simp only [Act.put, List.setIfInBounds_toArray, List.set_cons_zero, List.set_cons_succ])
    refine wpAnyH_take (i := 17) (oi := ?oiDt35x17) (v := ?vDt35x17) ?hoDt35x17 ?h1Dt35x17 ?h2Dt35x17 ?h3Dt35x17 ?hqDt35x17 (Or.inl ⟨?h4Dt35x17, ?hyDt35x17⟩) (by assumption) ?restDt35x17
    case hoDt35x17 => (simp only [List.getElem?_toArray, List.getElem?_cons_zero, List.getElem?_cons_succ]; rfl)
    case h1Dt35x17 => kernel_rfl
    case h2Dt35x17 => kernel_rfl
    case h3Dt35x17 => kernel_rfl
    case h4Dt35x17 => rfl
    case hqDt35x17 => exact fun _ _ _ h => h
    case hyDt35x17 => (intro w hSw; (try dsimp only at hSw); go_simp <;> with_reducible rfl)
    (try simp only [Act.put, List.setIfInBounds_toArray, List.set_cons_zero, List.set_cons_succ])
    refine wpAnyH_done (by kernel_rfl) ?_ _
    have hB79 := hBd.trans hB9
    have HC7' := hid (fun (W : World) (hW : Below w9.heap.size w9 W) => HC7.out W (hB79.trans (hW.mono hB79.size)))
    clear hcv9 hB9' hB9'' hbo HC6 hse
    obtain ⟨F, hA9, hF9, hBel9⟩ := h9
    replace hA9 := hid hA9
    clear hb9 hg9 hB9 HA HC7 hBd hBd0 hB67
    go_wp2_with fail
    refine (page_any n w9 hn).mono ?_
    rintro e w10 ⟨g, rfl, hb10, hg10, hB10⟩
    have hA10 := hid (hA9.out.later hB10)
    have hBel10 := hBel9.trans (hB10.mono hBel9.size)
    have hgF : ¬ F g := fun h => by have := hA9.out.low g h; omega
    rw [← wantL_zero n cut] at hb10
    have hs9 := hBel9.size
    go_wp2
    go_loopw [14] (fun i w' => ∃ k : Nat, k ≤ 96 ∧ i = .int .i64 (k : Int) ∧ Arr w' F b wake ∧ Blk w' g ((wantL n cut k).map (Value.int .u8)).toArray 5 ∧ Below w.heap.size w w' ∧ Below w9.heap.size w9 w') (fun i _ => 96 - (intOf i).toNat)
    case atStart => exact ⟨0, by omega, rfl, hA10.out, hb10, hBel10, hB10⟩
    case round =>
      clear hA10 hb10 hBel10 hB10 hBel9 hA9
      obtain ⟨k, hk, rfl, hA, hb, hB, hB2⟩ := hrel
      by_cases hlt : k < 96
      · have hkI : (k : Int) < 96 := by omega
        by_cases hck : cut ≤ (k : Int)
        · have hcd : decide (cut ≤ (k : Int)) = true := decide_eq_true hck
          have hc0 : wr.cell? ⟨g, k, none⟩ = some (.int .u8 ((wantL n cut k).getD k 0)) := by
            rw [hb.cell]
            simp [List.getD_eq_getElem?_getD, List.getElem?_eq_getElem (show k < (wantL n cut k).length by rw [wantL_len]; exact hlt)]
          have hf0 := hb.free k
          have H1 := hid (arr_store hA g k (.int .u8 255) hgF)
          have H2 := hid (show Blk (wr.setCell ⟨g, k, none⟩ (.int .u8 255)) g ((wantL n cut (k + 1)).map (Value.int .u8)).toArray 5 from by
            rw [wantL_set n cut k hlt hck, List.map_set]
            simpa using hb.set k (.int .u8 255))
          have H3 := hid (hB.setCell (p := (⟨g, k, none⟩ : Addr)) (by show w.heap.size ≤ g; omega) (.int .u8 255))
          have H4 := hid (hB2.setCell (p := (⟨g, k, none⟩ : Addr)) (by show w9.heap.size ≤ g; omega) (.int .u8 255))
          generalize (wantL n cut k).getD k 0 = ov at hc0
          clear hA hb hB hB2
          go_wp2
          go_roundw
          case rel => exact ⟨k + 1, by omega, by go_num, H1.out, H2.out, H3.out, H4.out⟩
          case measure => simp [intOf]; omega
        · have hcd : decide (cut ≤ (k : Int)) = false := decide_eq_false hck
          have H2 := hid (show Blk wr g ((wantL n cut (k + 1)).map (Value.int .u8)).toArray 5 from by
            rw [wantL_keep n cut k hck]
            exact hb)
          replace hA := hid hA
          clear hb
          go_wp2
          go_roundw
          case rel => exact ⟨k + 1, by omega, by go_num, hA.out, H2.out, hB, hB2⟩
          case measure => simp [intOf]; omega
      · obtain rfl : k = 96 := by omega
        rw [wantL_all n cut h0] at hb
        have hq1 := HC7'.out wr hB2
        have hq2 := conv_str (c := 96) (nums_lit hb (by rw [tornL_len, pgL_len]) (tornL_wf _ cut (pgL_wf n)))
        have hsq := str_eq_true (show tornL (pgL n) cut = tornL (pgL n) cut from rfl)
        have hnx := next_any F b wake 0 wr hA
        rw [r5] at hnx
        replace hB := hid hB
        clear hA hb hB2 HC7'
        go_wp2_with fail
        refine hnx.mono ?_
        rintro e wr ⟨rfl, rfl⟩
        go_wp2
        go_ret
        exact ⟨rfl, hB.out⟩
  · rw [if_neg h0] at r3 r5
    have hrd := read_no_b h6 0 1 (by rw [r3]; decide)
    rw [r3] at hrd
    have hc0 : cut ≤ 0 := by omega
    have HA := hid h6
    clear h6
    go_wp2_with fail
    refine hrd.mono ?_
    rintro e w6 ⟨rfl, rfl⟩
    clear hrd
    have hBd := hBd0
    go_upto_region 12 with (fail)
    refine wp_region_held_drew (S := (fun w' => (convert 27 9 (.slice A6 96 c6)).run Try.prog w' = .ok (.string (strOfNums (pgL 1))) w')) (by kernel_rfl) ?hSnewFz (fun hHeld => ?restFz)
    case hSnewFz => ((try dsimp only); exact HC6.out _ hBd0)
    refine wpAnyH_take (i := 0) (oi := ?oiFt37x0) (v := ?vFt37x0) ?hoFt37x0 ?h1Ft37x0 ?h2Ft37x0 ?h3Ft37x0 ?hqFt37x0 (Or.inl ⟨?h4Ft37x0, ?hyFt37x0⟩) (by assumption) ?restFt37x0
    case hoFt37x0 => (simp only [List.getElem?_toArray, List.getElem?_cons_zero, List.getElem?_cons_succ]; rfl)
    case h1Ft37x0 => kernel_rfl
    case h2Ft37x0 => kernel_rfl
    case h3Ft37x0 => kernel_rfl
    case h4Ft37x0 => rfl
    case hqFt37x0 => exact fun _ _ _ h => h
    case hyFt37x0 => (intro w hSw; (try dsimp only at hSw); go_simp <;> with_reducible rfl)
    (try simp only [Act.put, List.setIfInBounds_toArray, List.set_cons_zero, List.set_cons_succ])
    refine wpAnyH_take (i := 1) (oi := ?oiFt39x1) (v := ?vFt39x1) ?hoFt39x1 ?h1Ft39x1 ?h2Ft39x1 ?h3Ft39x1 ?hqFt39x1 (Or.inl ⟨?h4Ft39x1, ?hyFt39x1⟩) (by assumption) ?restFt39x1
    case hoFt39x1 => (simp only [List.getElem?_toArray, List.getElem?_cons_zero, List.getElem?_cons_succ]; rfl)
    case h1Ft39x1 => kernel_rfl
    case h2Ft39x1 => kernel_rfl
    case h3Ft39x1 => kernel_rfl
    case h4Ft39x1 => rfl
    case hqFt39x1 => exact fun _ _ _ h => h
    case hyFt39x1 => (intro w hSw; (try dsimp only at hSw); go_simp <;> with_reducible rfl)
    (try simp only [Act.put, List.setIfInBounds_toArray, List.set_cons_zero, List.set_cons_succ])
    refine wpAnyH_take (i := 2) (oi := ?oiFt41x2) (v := ?vFt41x2) ?hoFt41x2 ?h1Ft41x2 ?h2Ft41x2 ?h3Ft41x2 ?hqFt41x2 (Or.inl ⟨?h4Ft41x2, ?hyFt41x2⟩) (by assumption) ?restFt41x2
    case hoFt41x2 => (simp only [List.getElem?_toArray, List.getElem?_cons_zero, List.getElem?_cons_succ]; rfl)
    case h1Ft41x2 => kernel_rfl
    case h2Ft41x2 => kernel_rfl
    case h3Ft41x2 => kernel_rfl
    case h4Ft41x2 => rfl
    case hqFt41x2 => exact fun _ _ _ h => h
    case hyFt41x2 => (intro w hSw; (try dsimp only at hSw); go_simp <;> with_reducible rfl)
    (try simp only [Act.put, List.setIfInBounds_toArray, List.set_cons_zero, List.set_cons_succ])
    refine wpAnyH_take (i := 3) (oi := ?oiFt43x3) (v := ?vFt43x3) ?hoFt43x3 ?h1Ft43x3 ?h2Ft43x3 ?h3Ft43x3 ?hqFt43x3 (Or.inl ⟨?h4Ft43x3, ?hyFt43x3⟩) (by assumption) ?restFt43x3
    case hoFt43x3 => (simp only [List.getElem?_toArray, List.getElem?_cons_zero, List.getElem?_cons_succ]; rfl)
    case h1Ft43x3 => kernel_rfl
    case h2Ft43x3 => kernel_rfl
    case h3Ft43x3 => kernel_rfl
    case h4Ft43x3 => rfl
    case hqFt43x3 => exact fun _ _ _ h => h
    case hyFt43x3 => (intro w hSw; (try dsimp only at hSw); go_simp <;> with_reducible rfl)
    (try simp only [Act.put, List.setIfInBounds_toArray, List.set_cons_zero, List.set_cons_succ])
    refine wpAnyH_take (i := 4) (oi := ?oiFt45x4) (v := ?vFt45x4) ?hoFt45x4 ?h1Ft45x4 ?h2Ft45x4 ?h3Ft45x4 ?hqFt45x4 (Or.inl ⟨?h4Ft45x4, ?hyFt45x4⟩) (by assumption) ?restFt45x4
    case hoFt45x4 => (simp only [List.getElem?_toArray, List.getElem?_cons_zero, List.getElem?_cons_succ]; rfl)
    case h1Ft45x4 => kernel_rfl
    case h2Ft45x4 => kernel_rfl
    case h3Ft45x4 => kernel_rfl
    case h4Ft45x4 => rfl
    case hqFt45x4 => exact fun _ _ _ h => h
    case hyFt45x4 => (intro w hSw; (try dsimp only at hSw); go_simp <;> with_reducible rfl)
    (try simp only [Act.put, List.setIfInBounds_toArray, List.set_cons_zero, List.set_cons_succ])
    refine wpAnyH_take (i := 5) (oi := ?oiFt47x5) (v := ?vFt47x5) ?hoFt47x5 ?h1Ft47x5 ?h2Ft47x5 ?h3Ft47x5 ?hqFt47x5 (Or.inl ⟨?h4Ft47x5, ?hyFt47x5⟩) (by assumption) ?restFt47x5
    case hoFt47x5 => (simp only [List.getElem?_toArray, List.getElem?_cons_zero, List.getElem?_cons_succ]; rfl)
    case h1Ft47x5 => kernel_rfl
    case h2Ft47x5 => kernel_rfl
    case h3Ft47x5 => kernel_rfl
    case h4Ft47x5 => rfl
    case hqFt47x5 => exact fun _ _ _ h => h
    case hyFt47x5 => (intro w hSw; (try dsimp only at hSw); go_simp <;> with_reducible rfl)
    (try simp only [Act.put, List.setIfInBounds_toArray, List.set_cons_zero, List.set_cons_succ])
    refine wpAnyH_take (i := 6) (oi := ?oiFt49x6) (v := ?vFt49x6) ?hoFt49x6 ?h1Ft49x6 ?h2Ft49x6 ?h3Ft49x6 ?hqFt49x6 (Or.inl ⟨?h4Ft49x6, ?hyFt49x6⟩) (by assumption) ?restFt49x6
    case hoFt49x6 => (simp only [List.getElem?_toArray, List.getElem?_cons_zero, List.getElem?_cons_succ]; rfl)
    case h1Ft49x6 => kernel_rfl
    case h2Ft49x6 => kernel_rfl
    case h3Ft49x6 => kernel_rfl
    case h4Ft49x6 => rfl
    case hqFt49x6 => exact fun _ _ _ h => h
    case hyFt49x6 => (intro w hSw; (try dsimp only at hSw); go_simp <;> with_reducible rfl)
    (try simp only [Act.put, List.setIfInBounds_toArray, List.set_cons_zero, List.set_cons_succ])
    refine wpAnyH_take (i := 7) (oi := ?oiFt51x7) (v := ?vFt51x7) ?hoFt51x7 ?h1Ft51x7 ?h2Ft51x7 ?h3Ft51x7 ?hqFt51x7 (Or.inl ⟨?h4Ft51x7, ?hyFt51x7⟩) (by assumption) ?restFt51x7
    case hoFt51x7 => (simp only [List.getElem?_toArray, List.getElem?_cons_zero, List.getElem?_cons_succ]; rfl)
    case h1Ft51x7 => kernel_rfl
    case h2Ft51x7 => kernel_rfl
    case h3Ft51x7 => kernel_rfl
    case h4Ft51x7 => rfl
    case hqFt51x7 => exact fun _ _ _ h => h
    case hyFt51x7 => (intro w hSw; (try dsimp only at hSw); go_simp <;> with_reducible rfl)
    (try simp only [Act.put, List.setIfInBounds_toArray, List.set_cons_zero, List.set_cons_succ])
    refine wpAnyH_take (i := 8) (oi := ?oiFt53x8) (v := ?vFt53x8) ?hoFt53x8 ?h1Ft53x8 ?h2Ft53x8 ?h3Ft53x8 ?hqFt53x8 (Or.inl ⟨?h4Ft53x8, ?hyFt53x8⟩) (by assumption) ?restFt53x8
    case hoFt53x8 => (simp only [List.getElem?_toArray, List.getElem?_cons_zero, List.getElem?_cons_succ]; rfl)
    case h1Ft53x8 => kernel_rfl
    case h2Ft53x8 => kernel_rfl
    case h3Ft53x8 => kernel_rfl
    case h4Ft53x8 => rfl
    case hqFt53x8 => exact fun _ _ _ h => h
    case hyFt53x8 => (intro w hSw; (try dsimp only at hSw); go_simp <;> with_reducible rfl)
    (try simp only [Act.put, List.setIfInBounds_toArray, List.set_cons_zero, List.set_cons_succ])
    refine wpAnyH_ready (rs := [9]) (by kernel_rfl) (by simp) ?_
    refine AllReadyH.cons (o := ?oiFq54) ?hoFq54 (fun K hK => ?restFq54) ?moreFq54
    case moreFq54 => exact AllReadyH.nil
    case hoFq54 => (simp only [List.getElem?_toArray, List.getElem?_cons_zero, List.getElem?_cons_succ]; rfl)
    go_simp
    refine (page_any 1 _ (by omega)).mono ?_
    rintro e w9 ⟨g9, rfl, hb9, hg9, hB9⟩
    have hB9' : Below w6.heap.size w6 w9 := hBd.trans hB9
    have hcv9 := conv_str (c := 96) (nums_lit hb9 (pgL_len 1) (pgL_wf 1))
    have h9 := HA.out.later hB9'
    have hbo := boots_b h9
    have e9 : wake.boots = 1 := hbo1
    rw [e9] at hbo
    try go_wp2_with fail
    refine hK.out _ _ ?hSnewFhq54 (fun hHeld => ?restFhq54)
    case hSnewFhq54 => ((try dsimp only); exact HC6.out _ hB9')
    clear hK K
    (try simp only [Act.put, List.setIfInBounds_toArray, List.set_cons_zero, List.set_cons_succ])
    refine held_switch (fun w' => (convert 27 9 (.slice A6 96 c6)).run Try.prog w' = .ok (.string (strOfNums (pgL 1))) w' ∧ (convert 27 9 (.slice (some ⟨g9, 0, none⟩) 96 96)).run Try.prog w' = .ok (.string (strOfNums (pgL 1))) w') (fun w h => h.1) ?hSnewFsa55 (fun hHeld => ?restFsa55)
    case hSnewFsa55 => ((try dsimp only); exact ⟨HC6.out _ hB9', hcv9⟩)
    refine wpAnyH_take (i := 10) (oi := ?oiFt57x10) (v := ?vFt57x10) ?hoFt57x10 ?h1Ft57x10 ?h2Ft57x10 ?h3Ft57x10 ?hqFt57x10 (Or.inl ⟨?h4Ft57x10, ?hyFt57x10⟩) (by assumption) ?restFt57x10
    case hoFt57x10 => (simp only [List.getElem?_toArray, List.getElem?_cons_zero, List.getElem?_cons_succ]; rfl)
    case h1Ft57x10 => kernel_rfl
    case h2Ft57x10 => kernel_rfl
    case h3Ft57x10 => kernel_rfl
    case h4Ft57x10 => rfl
    case hqFt57x10 => exact fun _ _ _ h => h
    case hyFt57x10 => (intro w hSw; (try dsimp only at hSw); go_simp <;> with_reducible rfl)
    (try simp only [Act.put, List.setIfInBounds_toArray, List.set_cons_zero, List.set_cons_succ])
    refine wpAnyH_take (i := 11) (oi := ?oiFt59x11) (v := ?vFt59x11) ?hoFt59x11 ?h1Ft59x11 ?h2Ft59x11 ?h3Ft59x11 ?hqFt59x11 (Or.inl ⟨?h4Ft59x11, ?hyFt59x11⟩) (by assumption) ?restFt59x11
    case hoFt59x11 => (simp only [List.getElem?_toArray, List.getElem?_cons_zero, List.getElem?_cons_succ]; rfl)
    case h1Ft59x11 => kernel_rfl
    case h2Ft59x11 => kernel_rfl
    case h3Ft59x11 => kernel_rfl
    case h4Ft59x11 => rfl
    case hqFt59x11 => exact fun _ _ _ h => h
    case hyFt59x11 => (intro w hSw; (try dsimp only at hSw); go_simp <;> with_reducible rfl)
    (try simp only [Act.put, List.setIfInBounds_toArray, List.set_cons_zero, List.set_cons_succ])
    refine wpAnyH_take (i := 12) (oi := ?oiFt61x12) (v := ?vFt61x12) ?hoFt61x12 ?h1Ft61x12 ?h2Ft61x12 ?h3Ft61x12 ?hqFt61x12 (Or.inl ⟨?h4Ft61x12, ?hyFt61x12⟩) (by assumption) ?restFt61x12
    case hoFt61x12 => (simp only [List.getElem?_toArray, List.getElem?_cons_zero, List.getElem?_cons_succ]; rfl)
    case h1Ft61x12 => kernel_rfl
    case h2Ft61x12 => kernel_rfl
    case h3Ft61x12 => kernel_rfl
    case h4Ft61x12 => rfl
    case hqFt61x12 => exact fun _ _ _ h => h
    case hyFt61x12 => (intro w hSw; (try dsimp only at hSw); go_simp <;> with_reducible rfl)
    (try simp only [Act.put, List.setIfInBounds_toArray, List.set_cons_zero, List.set_cons_succ])
    refine wpAnyH_take (i := 13) (oi := ?oiFt63x13) (v := ?vFt63x13) ?hoFt63x13 ?h1Ft63x13 ?h2Ft63x13 ?h3Ft63x13 ?hqFt63x13 (Or.inl ⟨?h4Ft63x13, ?hyFt63x13⟩) (by assumption) ?restFt63x13
    case hoFt63x13 => (simp only [List.getElem?_toArray, List.getElem?_cons_zero, List.getElem?_cons_succ]; rfl)
    case h1Ft63x13 => kernel_rfl
    case h2Ft63x13 => kernel_rfl
    case h3Ft63x13 => kernel_rfl
    case h4Ft63x13 => rfl
    case hqFt63x13 => exact fun _ _ _ h => h
    case hyFt63x13 => (intro w hSw; (try dsimp only at hSw); go_simp <;> with_reducible rfl)
    (try simp only [Act.put, List.setIfInBounds_toArray, List.set_cons_zero, List.set_cons_succ])
    refine wpAnyH_take (i := 14) (oi := ?oiFt65x14) (v := ?vFt65x14) ?hoFt65x14 ?h1Ft65x14 ?h2Ft65x14 ?h3Ft65x14 ?hqFt65x14 (Or.inl ⟨?h4Ft65x14, ?hyFt65x14⟩) (by assumption) ?restFt65x14
    case hoFt65x14 => (simp only [List.getElem?_toArray, List.getElem?_cons_zero, List.getElem?_cons_succ]; rfl)
    case h1Ft65x14 => kernel_rfl
    case h2Ft65x14 => kernel_rfl
    case h3Ft65x14 => kernel_rfl
    case h4Ft65x14 => rfl
    case hqFt65x14 => exact fun _ _ _ h => h
    case hyFt65x14 => (intro w hSw; (try dsimp only at hSw); go_simp <;> with_reducible rfl)
    (try simp only [Act.put, List.setIfInBounds_toArray, List.set_cons_zero, List.set_cons_succ])
    refine wpAnyH_ready (rs := [15]) (by kernel_rfl) (by simp) ?_
    refine AllReadyH.cons (o := ?oiFq66) ?hoFq66 (fun K hK => ?restFq66) ?moreFq66
    case moreFq66 => exact AllReadyH.nil
    case hoFq66 => (simp only [List.getElem?_toArray, List.getElem?_cons_zero, List.getElem?_cons_succ]; rfl)
    go_simp
    refine hbo.mono ?_
    rintro e w9 ⟨rfl, rfl⟩
    try go_wp2_with fail
    refine hK.out _ _ ?hSnewFhq66 (fun hHeld => ?restFhq66)
    case hSnewFhq66 => ((try dsimp only); exact ⟨HC6.out _ hB9', hcv9⟩)
    clear hK K
    (try simp only [Act.put, List.setIfInBounds_toArray, List.set_cons_zero, List.set_cons_succ])
    refine wpAnyH_take (i := 16) (oi := ?oiFt68x16) (v := ?vFt68x16) ?hoFt68x16 ?h1Ft68x16 ?h2Ft68x16 ?h3Ft68x16 ?hqFt68x16 (Or.inl ⟨?h4Ft68x16, ?hyFt68x16⟩) (by assumption) ?restFt68x16
    case hoFt68x16 => (simp only [List.getElem?_toArray, List.getElem?_cons_zero, List.getElem?_cons_succ]; rfl)
    case h1Ft68x16 => kernel_rfl
    case h2Ft68x16 => kernel_rfl
    case h3Ft68x16 => kernel_rfl
    case h4Ft68x16 => rfl
    case hqFt68x16 => exact fun _ _ _ h => h
    case hyFt68x16 => (intro w hSw; (try dsimp only at hSw); go_simp <;> with_reducible rfl)
    (try simp only [Act.put, List.setIfInBounds_toArray, List.set_cons_zero, List.set_cons_succ])
    refine wpAnyH_take (i := 17) (oi := ?oiFt70x17) (v := ?vFt70x17) ?hoFt70x17 ?h1Ft70x17 ?h2Ft70x17 ?h3Ft70x17 ?hqFt70x17 (Or.inl ⟨?h4Ft70x17, ?hyFt70x17⟩) (by assumption) ?restFt70x17
    case hoFt70x17 => (simp only [List.getElem?_toArray, List.getElem?_cons_zero, List.getElem?_cons_succ]; rfl)
    case h1Ft70x17 => kernel_rfl
    case h2Ft70x17 => kernel_rfl
    case h3Ft70x17 => kernel_rfl
    case h4Ft70x17 => rfl
    case hqFt70x17 => exact fun _ _ _ h => h
    case hyFt70x17 => (intro w hSw; (try dsimp only at hSw); go_simp <;> with_reducible rfl)
    (try simp only [Act.put, List.setIfInBounds_toArray, List.set_cons_zero, List.set_cons_succ])
    refine wpAnyH_done (by kernel_rfl) ?_ _
    have hnx := next_b h9 0
    rw [r5] at hnx
    have hBf := hid h9.bel
    clear hcv9 hB9' hbo HC6 hse h9 HA
    go_wp2_with fail
    refine hnx.mono ?_
    rintro e w9 ⟨rfl, rfl⟩
    go_wp2
    go_ret
    exact ⟨rfl, hBf.out⟩
end Go.Proofs.Ytineicehipgnjaa.Nand
