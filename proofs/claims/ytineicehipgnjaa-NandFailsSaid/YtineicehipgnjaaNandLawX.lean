import Derived.Test.YtineicehipgnjaaNandLawH
set_option linter.unusedVariables false
set_option linter.unusedSimpArgs false
namespace Go.Proofs.Ytineicehipgnjaa.Nand
open Go.RowKit Go.Proofs.Ytineicehipgnjaa.Kit

/-- The array behind j + 1 pages of block 0, which is to fail at the K-th operation. -/
structure FI (N : NA) (j K : Nat) : Prop where
  len : N.bs.length = 2
  pages : N.pages = 32
  off : N.off = false
  armed : N.armed = 0
  fence : N.fence = 0
  plen : (N.blk 0).pages.length = j + 1
  first : (N.blk 0).pages.getD 0 [] = pgL 3
  half : (N.blk 0).half = false
  dead : (N.blk 0).dead = decide (K ≤ j)
  failed : (N.blk 0).failed = decide (K ≤ j)
  doom : (N.blk 0).doom = K - j
theorem FI.begun {N : NA} {j K : Nat} (h : FI N j K) : (N.begun 0).bs.length = 2 ∧ (N.begun 0).pages = 32 ∧ (N.begun 0).off = false ∧ (N.begun 0).armed = 0 ∧ (N.begun 0).fence = 0 ∧ (N.begun 0).blk 0 = (N.blk 0).tick := by
  refine ⟨by rw [len_begun]; exact h.len, h.pages, ?_, ?_, h.fence, ?_⟩
  · rw [begun_off, h.armed]; rfl
  · show N.armed - 1 = 0
    rw [h.armed]
  · rw [blk_begun 0 0 (by rw [h.len]; omega), if_pos rfl]
theorem FI.tick_dead {N : NA} {j K : Nat} (h : FI N j K) : (N.blk 0).tick.dead = decide (K ≤ j + 1) := by
  show ((N.blk 0).dead || (N.blk 0).doom == 1) = _
  rw [h.dead, h.doom]
  by_cases h1 : K ≤ j
  · rw [decide_eq_true h1, decide_eq_true (by omega : K ≤ j + 1)]; rfl
  · rw [decide_eq_false h1]
    by_cases h2 : K ≤ j + 1
    · rw [decide_eq_true h2, show K - j = 1 by omega]; rfl
    · rw [decide_eq_false h2, Bool.false_or, beq_eq_false_iff_ne]; omega
theorem getD_app {l : List (List Int)} {x : List Int} (h : 0 < l.length) : (l ++ [x]).getD 0 [] = l.getD 0 [] := by
  cases l with
  | nil => cases h
  | cons a l => rfl
theorem FI.prog {N : NA} {j K : Nat} (h : FI N j K) (hj : j + 1 < 32) : FI (N.prog 0 ((j : Int) + 1) (pgL 4) 1).1 (j + 1) K ∧ (N.prog 0 ((j : Int) + 1) (pgL 4) 1).2 = if K ≤ j + 1 then 8 else 0 := by
  obtain ⟨b1, b2, b3, b4, b5, b6⟩ := h.begun
  have hp := progE_in (N := N) 0 (j + 1) (pgL 4).length 1 (by rw [h.len]; omega) h.off h.plen.symm (by rw [h.pages]; omega) (pgL_len 4) h.half (by rw [h.fence]; omega)
  have e := prog_eq (N := N) (i := 0) (p := j + 1) (q := pgL 4) (ep := 1) hp
  rw [show (((j + 1 : Nat)) : Int) = (j : Int) + 1 by omega] at e
  replace e := (show N.prog 0 ((j : Int) + 1) (pgL 4) 1 = _ from e)
  have htd := h.tick_dead
  have hb0 : (N.begun 0).blk 0 = (N.blk 0).tick := b6
  rw [if_neg (by rw [b3]; simp)] at e
  by_cases hk : K ≤ j + 1
  · rw [if_pos (by rw [b6, htd]; exact decide_eq_true hk)] at e
    rw [e, if_pos hk]
    refine ⟨⟨by rw [len_set]; exact b1, b2, b3, b4, b5, ?_, ?_, ?_, ?_, ?_, ?_⟩, rfl⟩ <;> rw [blk_set 0 0 _ (by rw [b1]; omega), if_pos rfl, hb0]
    · show ((N.blk 0).pages ++ [_]).length = _
      rw [List.length_append, h.plen]; rfl
    · show ((N.blk 0).pages ++ [_]).getD 0 [] = _
      rw [getD_app (by rw [h.plen]; omega)]; exact h.first
    · exact h.half
    · exact htd
    · exact (decide_eq_true hk).symm
    · show (N.blk 0).doom - 1 = _
      rw [h.doom]; omega
  · rw [if_neg (by rw [b6, htd, decide_eq_false hk]; simp)] at e
    rw [e, if_neg hk]
    refine ⟨⟨by rw [len_set]; exact b1, b2, b3, b4, b5, ?_, ?_, ?_, ?_, ?_, ?_⟩, rfl⟩ <;> rw [blk_set 0 0 _ (by rw [b1]; omega), if_pos rfl, hb0]
    · show ((N.blk 0).pages ++ [_]).length = _
      rw [List.length_append, h.plen]; rfl
    · show ((N.blk 0).pages ++ [_]).getD 0 [] = _
      rw [getD_app (by rw [h.plen]; omega)]; exact h.first
    · exact h.half
    · exact htd
    · show (N.blk 0).failed = _
      rw [h.failed, decide_eq_false hk, decide_eq_false (by omega)]
    · show (N.blk 0).doom - 1 = _
      rw [h.doom]; omega
theorem FI.erase {N : NA} {j K : Nat} (h : FI N j K) (hk : K ≤ j) : FI (N.erase 0 1).1 j K ∧ (N.erase 0 1).2 = 8 := by
  obtain ⟨b1, b2, b3, b4, b5, b6⟩ := h.begun
  have e := erase_eq (N := N) (i := 0) (ep := 1) (by rw [h.len]; omega) h.off (by rw [h.fence]; omega)
  replace e := (show N.erase 0 1 = _ from e)
  have htd := h.tick_dead
  rw [if_neg (by rw [b3]; simp), if_pos (by rw [b6, htd]; exact decide_eq_true (by omega))] at e
  rw [e]
  refine ⟨⟨by rw [len_set]; exact b1, b2, b3, b4, b5, ?_, ?_, ?_, ?_, ?_, ?_⟩, rfl⟩ <;> rw [blk_set 0 0 _ (by rw [b1]; omega), if_pos rfl, b6]
  · exact h.plen
  · exact h.first
  · exact h.half
  · show (N.blk 0).tick.dead = _
    rw [htd, decide_eq_true hk, decide_eq_true (by omega)]
  · exact (decide_eq_true hk).symm
  · show (N.blk 0).doom - 1 = _
    rw [h.doom]; omega
theorem FI.next {N : NA} {j K : Nat} (h : FI N j K) : (if N.inI 0 then ((N.blk (0 : Int).toNat).pages.length : Int) else 0) = (j : Int) + 1 := by
  have hi : N.inI ((0 : Nat) : Int) = true := NA.inI_nat N 0 (by rw [h.len]; omega)
  have hi2 : N.inI 0 = true := hi
  rw [if_pos hi2, show (N.blk (0 : Int).toNat).pages.length = j + 1 from h.plen]
  omega
theorem FI.end_ {N : NA} {j K : Nat} (h : FI N j K) (hk : K ≤ j) : N.readE 0 0 = 0 ∧ N.page 0 0 = pgL 3 ∧ (if N.inI 0 then (N.blk (0 : Int).toNat).failed else false) = true := by
  have hi : N.inI ((0 : Nat) : Int) = true := NA.inI_nat N 0 (by rw [h.len]; omega)
  have hi2 : N.inI 0 = true := hi
  rw [if_pos hi2]
  refine ⟨?_, h.first, h.failed.trans (decide_eq_true hk)⟩
  unfold NA.readE
  have ha : N.atE 0 = 0 := atE_in (N := N) 0 (by rw [h.len]; omega) h.off
  rw [if_neg (by rw [ha]; simp), if_neg (by rw [h.pages]; omega), if_neg (by rw [show (N.blk (0 : Int).toNat).pages.length = j + 1 from h.plen]; omega), if_neg (by rw [show (N.blk (0 : Int).toNat).half = false from h.half]; simp)]
def fD0 : NA := ⟨[gB [pgL 3], ⟨[], 0, false, true, true, 0⟩], 32, 0, 0, 0, false, 1, none⟩
def fD1 (K : Nat) : NA := ⟨[⟨[pgL 3], 0, false, false, false, K⟩, ⟨[], 0, false, true, true, 0⟩], 32, 0, 0, 0, false, 1, none⟩
def fD2 (K : Nat) : NA := ⟨[⟨[pgL 3], 0, false, false, false, K⟩, ⟨[], 0, false, true, true, 0⟩], 32, 0, 0, 0, false, 2, none⟩
theorem fd_new : newA 2 32 [1] = ⟨[gB [], ⟨[], 0, false, true, true, 0⟩], 32, 0, 0, 0, false, 0, none⟩ := by kernel_rfl
theorem fd_prog : (newA 2 32 [1]).prog 0 0 (pgL 3) 1 = (fD0, 0) := by
  rw [fd_new]
  have e := prog_calm (N := ⟨[gB [], ⟨[], 0, false, true, true, 0⟩], 32, 0, 0, 0, false, 0, none⟩) 0 0 (pgL 3) 1 (by decide) rfl rfl rfl rfl rfl (by decide) (pgL_len 3) rfl (by decide)
  exact e.trans (by kernel_rfl)
theorem fd_doom (K : Nat) : fD0.doomed 0 (K : Int) = (fD1 K, 0) := by
  unfold NA.doomed
  rw [if_neg (show ¬ ((0 : Int) < 0 ∨ (fD0.bs.length : Int) ≤ 0 ∨ (K : Int) < 0) from (show ¬ ((0 : Int) < 0 ∨ ((2 : Nat) : Int) ≤ 0 ∨ (K : Int) < 0) by omega))]
  rfl
theorem fd_erase (K : Nat) : (fD1 K).erase 1 1 = (fD2 K, 8) := by
  have e := erase_fall (N := fD1 K) 1 1 (show 1 < 2 by decide) rfl rfl rfl rfl (show (0 : Int) ≤ 1 by decide)
  exact e.trans (by kernel_rfl)
theorem fd_start (K : Nat) (h : 1 ≤ K) : FI (fD2 K) 0 K := by
  refine ⟨rfl, rfl, rfl, rfl, rfl, rfl, rfl, rfl, ?_, ?_, rfl⟩
  · exact (decide_eq_false (by omega)).symm
  · exact (decide_eq_false (by omega)).symm

set_option maxRecDepth 100000 in
set_option maxHeartbeats 16000000 in
theorem law_fails (m : Int) (hm : 0 ≤ m ∧ m ≤ 255) (A : Option Addr) (n c : Nat) (zs : List Int) (w : World) (hz0 : Nums w .u8 A n zs) :
    Calls Try.prog 7 #[.int .u8 m, .slice A n c] w fun e w' => e = .returned (.bool true) ∧ Below w.heap.size w w' := by
  have Hz := hid hz0
  clear hz0
  go_enter Try.func7, Try.ntmps7
  go_wp2_with fail
  refine (awake_any w).mono ?_
  rintro e w1 ⟨rfl, hB1⟩
  have hba := Blk.new w1 (([1] : List Int).map (Value.int .i64)).toArray 3
  have hBa : Below w.heap.size w (w1.alloc (Obj.cells #[Value.int IntKind.i64 1] 3)) := hB1.alloc hB1.size _
  have hnw := new_b w 2 32 (some ⟨w1.heap.size, 0, none⟩) 1 1 [1] _ hBa (by omega) (by omega) (nums_lit hba rfl (by simp; rfl)) (by simp)
  rw [fd_new] at hnw
  clear hba hBa
  go_wp2_with fail
  refine hnw.mono ?_
  rintro e w2 ⟨b, rfl, h2⟩
  replace h2 := hid (show ArrB w w2 b (newA 2 32 [1]) by rw [fd_new]; exact h2)
  clear hB1 hnw
  go_wp2_with fail
  refine (page_b h2.out 3 (by omega)).mono ?_
  rintro e w3 ⟨g3, rfl, hz3, h3, -, -, -⟩
  have hp := program_b h3 0 0 _ 96 96 _ 1 hz3 (by decide)
  rw [fd_prog] at hp
  clear h2 h3 hz3
  obtain ⟨q, hq, hq8⟩ : ∃ q : Nat, m.tmod 20 = (q : Int) ∧ q < 20 := ⟨(m.tmod 20).toNat, by rw [Int.tmod_eq_emod_of_nonneg hm.1]; omega, by rw [Int.tmod_eq_emod_of_nonneg hm.1]; omega⟩
  obtain ⟨K, hKq⟩ : ∃ K : Nat, K = q + 1 := ⟨_, rfl⟩
  have hw1 : IntKind.i64.wrap m = m := IntWalk.i64_in _ (by omega)
  have hw2 : IntKind.i64.wrap (1 + (q : Int)) = (K : Int) := by rw [IntWalk.i64_in _ (by omega)]; omega
  have hK1 : 1 ≤ K := by omega
  have hK8 : K ≤ 20 := by omega
  clear hKq
  go_wp2_with fail
  refine hp.mono ?_
  rintro e w4 ⟨rfl, h4⟩
  have hdm := doom_b h4 0 (K : Int) (by omega)
  rw [show ((fD0, (0 : Int)).1.doomed 0 (K : Int)) = (fD1 K, 0) from fd_doom K] at hdm
  clear hp h4
  go_wp2_with fail
  refine hdm.mono ?_
  rintro e w5 ⟨rfl, h5⟩
  have her := erase_b h5 1 1
  rw [show ((fD1 K, (0 : Int)).1.erase 1 1) = (fD2 K, 8) from fd_erase K] at her
  clear hdm h5
  go_wp2_with fail
  refine her.mono ?_
  rintro e w6 ⟨rfl, h6⟩
  replace h6 : ArrB w w6 b (fD2 K) := h6
  have hf1 := failed_b h6 1
  rw [show (if (fD2 K).inI 1 then ((fD2 K).blk (1 : Int).toNat).failed else false) = true from rfl] at hf1
  have hf0 := failed_b h6 0
  rw [show (if (fD2 K).inI 0 then ((fD2 K).blk (0 : Int).toNat).failed else false) = false from rfl] at hf0
  replace h6 := hid h6
  clear her
  go_wp2_with fail
  refine hf1.mono ?_
  rintro e w6 ⟨rfl, rfl⟩
  go_wp2_with fail
  refine hf0.mono ?_
  rintro e w6 ⟨rfl, rfl⟩
  clear hf1 hf0
  go_wp2
  go_loopw [8] (fun i w' => ∃ (j : Nat) (N : NA), j ≤ K + 2 ∧ i = .int .i64 ((j : Int) + 1) ∧ FI N j K ∧ ArrB w w' b N) (fun i _ => 30 - (intOf i).toNat)
  case atStart => exact ⟨0, _, by omega, rfl, fd_start K hK1, h6.out⟩
  case round =>
    clear h6
    obtain ⟨j, N, hj, rfl, hI, hA⟩ := hrel
    by_cases hlt : j < K + 2
    · have hnx := next_b hA 0
      rw [hI.next] at hnx
      obtain ⟨hI8, he8⟩ := hI.prog (by omega)
      replace hI8 := hid hI8
      replace hA := hid hA
      clear hI
      go_wp2_with fail
      refine hnx.mono ?_
      rintro e wn ⟨rfl, rfl⟩
      go_wp2_with fail
      refine hnx.mono ?_
      rintro e wn ⟨rfl, rfl⟩
      clear hnx
      go_wp2_with fail
      refine (page_b hA.out 4 (by omega)).mono ?_
      rintro e w7 ⟨g7, rfl, hz7, h7, -, -, -⟩
      have hpn := program_b h7 0 ((j : Int) + 1) _ 96 96 _ 1 hz7 (by decide)
      rw [he8] at hpn
      clear h7 hz7 hA he8
      by_cases hk : K ≤ j + 1
      · rw [if_pos hk] at hpn
        go_wp2_with fail
        refine hpn.mono ?_
        rintro e w8 ⟨rfl, h8⟩
        have hz := Hz.out.below h8.bel
        replace h8 := hid h8
        clear hpn
        by_cases hn : j < n
        · obtain ⟨bs, os, rfl, hcj⟩ := hz.at_ j hn
          have hx := wf_u8 (hz.wf_at j hn)
          have hzm := hz.most
          have hx2 : (zs.getD j 0).tmod 2 = 0 ∨ (zs.getD j 0).tmod 2 = 1 := by rw [Int.tmod_eq_emod_of_nonneg hx.1]; omega
          generalize zs.getD j 0 = y at *
          clear hz
          rcases hx2 with hx2 | hx2
          · go_wp2
            go_roundw
            case rel => exact ⟨j + 1, _, by omega, by go_num, hI8.out, h8.out⟩
            case measure => simp [intOf]; omega
          · have her := erase_b h8.out 0 1
            obtain ⟨hI9, he9⟩ := hI8.out.erase (by omega)
            rw [he9] at her
            have hI9 := hid hI9
            clear he9 h8 hI8
            go_wp2_with fail
            refine her.mono ?_
            rintro e w9 ⟨rfl, h9⟩
            replace h9 := hid h9
            clear her
            go_wp2
            go_roundw
            case rel => exact ⟨j + 1, _, by omega, by go_num, hI9.out, h9.out⟩
            case measure => simp [intOf]; omega
        · have hzm := hz.most
          clear hz
          go_wp2
          go_roundw
          case rel => exact ⟨j + 1, _, by omega, by go_num, hI8.out, h8.out⟩
          case measure => simp [intOf]; omega
      · rw [if_neg hk] at hpn
        go_wp2_with fail
        refine hpn.mono ?_
        rintro e w8 ⟨rfl, h8⟩
        have hzm := Hz.out.most
        replace h8 := hid h8
        clear hpn
        go_wp2
        go_roundw
        case rel => exact ⟨j + 1, _, by omega, by go_num, hI8.out, h8.out⟩
        case measure => simp [intOf]; omega
    · obtain rfl : j = K + 2 := by omega
      replace hA := hid hA
      obtain ⟨x0, x1, x4⟩ := hI.end_ (by omega)
      have hrd := read_yes_b hA.out 0 0 x0
      rw [x1] at hrd
      have Hx4 := hid x4
      clear x0 x1 x4 hI hj
      go_wp2_with fail
      refine hrd.mono ?_
      rintro e w6 ⟨A6, c6, rfl, ho6, h6, hB6⟩
      have hz6 := (own_reads ho6 (pgL_wf 3)).2
      have HA := hid h6
      have HC6 := hid (fun (W : World) (hW : Below w6.heap.size w6 W) => conv_str (c := c6) (hz6.below hW))
      have hBd : Below w6.heap.size w6 w6.drew := below_drewN (Below.refl _ _) 1
      have hse := str_eq_true (show pgL 3 = pgL 3 from rfl)
      clear ho6 hB6 hA h6 hz6 hrd
      go_upto_region 18 with (fail)
      refine wp_region_held_drew (S := (fun w' => (convert 27 9 (.slice A6 96 c6)).run Try.prog w' = .ok (.string (strOfNums (pgL 3))) w')) (by kernel_rfl) ?hSnewFxz (fun hHeld => ?restFxz)
      case hSnewFxz => ((try dsimp only); exact HC6.out _ hBd)
      refine wpAnyH_take (i := 0) (oi := ?oiFxt2x0) (v := ?vFxt2x0) ?hoFxt2x0 ?h1Fxt2x0 ?h2Fxt2x0 ?h3Fxt2x0 ?hqFxt2x0 (Or.inl ⟨?h4Fxt2x0, ?hyFxt2x0⟩) (by assumption) ?restFxt2x0
      case hoFxt2x0 => (simp only [List.getElem?_toArray, List.getElem?_cons_zero, List.getElem?_cons_succ]; rfl)
      case h1Fxt2x0 => kernel_rfl
      case h2Fxt2x0 => kernel_rfl
      case h3Fxt2x0 => kernel_rfl
      case h4Fxt2x0 => rfl
      case hqFxt2x0 => exact fun _ _ _ h => h
      case hyFxt2x0 => (intro w hSw; (try dsimp only at hSw); go_simp <;> with_reducible rfl)
      (try simp only [Act.put, List.setIfInBounds_toArray, List.set_cons_zero, List.set_cons_succ])
      refine wpAnyH_take (i := 1) (oi := ?oiFxt4x1) (v := ?vFxt4x1) ?hoFxt4x1 ?h1Fxt4x1 ?h2Fxt4x1 ?h3Fxt4x1 ?hqFxt4x1 (Or.inl ⟨?h4Fxt4x1, ?hyFxt4x1⟩) (by assumption) ?restFxt4x1
      case hoFxt4x1 => (simp only [List.getElem?_toArray, List.getElem?_cons_zero, List.getElem?_cons_succ]; rfl)
      case h1Fxt4x1 => kernel_rfl
      case h2Fxt4x1 => kernel_rfl
      case h3Fxt4x1 => kernel_rfl
      case h4Fxt4x1 => rfl
      case hqFxt4x1 => exact fun _ _ _ h => h
      case hyFxt4x1 => (intro w hSw; (try dsimp only at hSw); go_simp <;> with_reducible rfl)
      (try simp only [Act.put, List.setIfInBounds_toArray, List.set_cons_zero, List.set_cons_succ])
      refine wpAnyH_take (i := 2) (oi := ?oiFxt6x2) (v := ?vFxt6x2) ?hoFxt6x2 ?h1Fxt6x2 ?h2Fxt6x2 ?h3Fxt6x2 ?hqFxt6x2 (Or.inl ⟨?h4Fxt6x2, ?hyFxt6x2⟩) (by assumption) ?restFxt6x2
      case hoFxt6x2 => (simp only [List.getElem?_toArray, List.getElem?_cons_zero, List.getElem?_cons_succ]; rfl)
      case h1Fxt6x2 => kernel_rfl
      case h2Fxt6x2 => kernel_rfl
      case h3Fxt6x2 => kernel_rfl
      case h4Fxt6x2 => rfl
      case hqFxt6x2 => exact fun _ _ _ h => h
      case hyFxt6x2 => (intro w hSw; (try dsimp only at hSw); go_simp <;> with_reducible rfl)
      (try simp only [Act.put, List.setIfInBounds_toArray, List.set_cons_zero, List.set_cons_succ])
      refine wpAnyH_take (i := 3) (oi := ?oiFxt8x3) (v := ?vFxt8x3) ?hoFxt8x3 ?h1Fxt8x3 ?h2Fxt8x3 ?h3Fxt8x3 ?hqFxt8x3 (Or.inl ⟨?h4Fxt8x3, ?hyFxt8x3⟩) (by assumption) ?restFxt8x3
      case hoFxt8x3 => (simp only [List.getElem?_toArray, List.getElem?_cons_zero, List.getElem?_cons_succ]; rfl)
      case h1Fxt8x3 => kernel_rfl
      case h2Fxt8x3 => kernel_rfl
      case h3Fxt8x3 => kernel_rfl
      case h4Fxt8x3 => rfl
      case hqFxt8x3 => exact fun _ _ _ h => h
      case hyFxt8x3 => (intro w hSw; (try dsimp only at hSw); go_simp <;> with_reducible rfl)
      (try simp only [Act.put, List.setIfInBounds_toArray, List.set_cons_zero, List.set_cons_succ])
      refine wpAnyH_take (i := 4) (oi := ?oiFxt10x4) (v := ?vFxt10x4) ?hoFxt10x4 ?h1Fxt10x4 ?h2Fxt10x4 ?h3Fxt10x4 ?hqFxt10x4 (Or.inl ⟨?h4Fxt10x4, ?hyFxt10x4⟩) (by assumption) ?restFxt10x4
      case hoFxt10x4 => (simp only [List.getElem?_toArray, List.getElem?_cons_zero, List.getElem?_cons_succ]; rfl)
      case h1Fxt10x4 => kernel_rfl
      case h2Fxt10x4 => kernel_rfl
      case h3Fxt10x4 => kernel_rfl
      case h4Fxt10x4 => rfl
      case hqFxt10x4 => exact fun _ _ _ h => h
      case hyFxt10x4 => (intro w hSw; (try dsimp only at hSw); go_simp <;> with_reducible rfl)
      (try simp only [Act.put, List.setIfInBounds_toArray, List.set_cons_zero, List.set_cons_succ])
      refine wpAnyH_ready (rs := [5]) (by kernel_rfl) (by simp) ?_
      refine AllReadyH.cons (o := ?oiFxq11) ?hoFxq11 (fun K hK => ?restFxq11) ?moreFxq11
      case moreFxq11 => exact AllReadyH.nil
      case hoFxq11 => (simp only [List.getElem?_toArray, List.getElem?_cons_zero, List.getElem?_cons_succ]; rfl)
      go_simp
      refine (page_any 3 _ (by omega)).mono ?_
      rintro e w9 ⟨g9, rfl, hb9, hg9, hB9⟩
      have hB9' : Below w6.heap.size w6 w9 := hBd.trans hB9
      have hcv9 := conv_str (c := 96) (nums_lit hb9 (pgL_len 3) (pgL_wf 3))
      have h9 := HA.out.later hB9'
      have hfl := failed_b h9 0
      rw [Hx4.out] at hfl
      try go_wp2_with fail
      refine hK.out _ _ ?hSnewFxhq11 (fun hHeld => ?restFxhq11)
      case hSnewFxhq11 => ((try dsimp only); exact HC6.out _ hB9')
      clear hK K
      (try simp only [Act.put, List.setIfInBounds_toArray, List.set_cons_zero, List.set_cons_succ])
      refine held_switch (fun w' => (convert 27 9 (.slice A6 96 c6)).run Try.prog w' = .ok (.string (strOfNums (pgL 3))) w' ∧ (convert 27 9 (.slice (some ⟨g9, 0, none⟩) 96 96)).run Try.prog w' = .ok (.string (strOfNums (pgL 3))) w') (fun w h => h.1) ?hSnewFxsa12 (fun hHeld => ?restFxsa12)
      case hSnewFxsa12 => ((try dsimp only); exact ⟨HC6.out _ hB9', hcv9⟩)
      refine wpAnyH_take (i := 6) (oi := ?oiFxt14x6) (v := ?vFxt14x6) ?hoFxt14x6 ?h1Fxt14x6 ?h2Fxt14x6 ?h3Fxt14x6 ?hqFxt14x6 (Or.inl ⟨?h4Fxt14x6, ?hyFxt14x6⟩) (by assumption) ?restFxt14x6
      case hoFxt14x6 => (simp only [List.getElem?_toArray, List.getElem?_cons_zero, List.getElem?_cons_succ]; rfl)
      case h1Fxt14x6 => kernel_rfl
      case h2Fxt14x6 => kernel_rfl
      case h3Fxt14x6 => kernel_rfl
      case h4Fxt14x6 => rfl
      case hqFxt14x6 => exact fun _ _ _ h => h
      case hyFxt14x6 => (intro w hSw; (try dsimp only at hSw); go_simp <;> with_reducible rfl)
      (try simp only [Act.put, List.setIfInBounds_toArray, List.set_cons_zero, List.set_cons_succ])
      refine wpAnyH_take (i := 7) (oi := ?oiFxt16x7) (v := ?vFxt16x7) ?hoFxt16x7 ?h1Fxt16x7 ?h2Fxt16x7 ?h3Fxt16x7 ?hqFxt16x7 (Or.inl ⟨?h4Fxt16x7, ?hyFxt16x7⟩) (by assumption) ?restFxt16x7
      case hoFxt16x7 => (simp only [List.getElem?_toArray, List.getElem?_cons_zero, List.getElem?_cons_succ]; rfl)
      case h1Fxt16x7 => kernel_rfl
      case h2Fxt16x7 => kernel_rfl
      case h3Fxt16x7 => kernel_rfl
      case h4Fxt16x7 => rfl
      case hqFxt16x7 => exact fun _ _ _ h => h
      case hyFxt16x7 => (intro w hSw; (try dsimp only at hSw); go_simp <;> with_reducible rfl)
      (try simp only [Act.put, List.setIfInBounds_toArray, List.set_cons_zero, List.set_cons_succ])
      refine wpAnyH_take (i := 8) (oi := ?oiFxt18x8) (v := ?vFxt18x8) ?hoFxt18x8 ?h1Fxt18x8 ?h2Fxt18x8 ?h3Fxt18x8 ?hqFxt18x8 (Or.inl ⟨?h4Fxt18x8, ?hyFxt18x8⟩) (by assumption) ?restFxt18x8
      case hoFxt18x8 => (simp only [List.getElem?_toArray, List.getElem?_cons_zero, List.getElem?_cons_succ]; rfl)
      case h1Fxt18x8 => kernel_rfl
      case h2Fxt18x8 => kernel_rfl
      case h3Fxt18x8 => kernel_rfl
      case h4Fxt18x8 => rfl
      case hqFxt18x8 => exact fun _ _ _ h => h
      case hyFxt18x8 => (intro w hSw; (try dsimp only at hSw); go_simp <;> with_reducible rfl)
      (try simp only [Act.put, List.setIfInBounds_toArray, List.set_cons_zero, List.set_cons_succ])
      refine wpAnyH_take (i := 9) (oi := ?oiFxt20x9) (v := ?vFxt20x9) ?hoFxt20x9 ?h1Fxt20x9 ?h2Fxt20x9 ?h3Fxt20x9 ?hqFxt20x9 (Or.inl ⟨?h4Fxt20x9, ?hyFxt20x9⟩) (by assumption) ?restFxt20x9
      case hoFxt20x9 => (simp only [List.getElem?_toArray, List.getElem?_cons_zero, List.getElem?_cons_succ]; rfl)
      case h1Fxt20x9 => kernel_rfl
      case h2Fxt20x9 => kernel_rfl
      case h3Fxt20x9 => kernel_rfl
      case h4Fxt20x9 => rfl
      case hqFxt20x9 => exact fun _ _ _ h => h
      case hyFxt20x9 => (intro w hSw; (try dsimp only at hSw); go_simp <;> with_reducible rfl)
      (try simp only [Act.put, List.setIfInBounds_toArray, List.set_cons_zero, List.set_cons_succ])
      refine wpAnyH_take (i := 10) (oi := ?oiFxt22x10) (v := ?vFxt22x10) ?hoFxt22x10 ?h1Fxt22x10 ?h2Fxt22x10 ?h3Fxt22x10 ?hqFxt22x10 (Or.inl ⟨?h4Fxt22x10, ?hyFxt22x10⟩) (by assumption) ?restFxt22x10
      case hoFxt22x10 => (simp only [List.getElem?_toArray, List.getElem?_cons_zero, List.getElem?_cons_succ]; rfl)
      case h1Fxt22x10 => kernel_rfl
      case h2Fxt22x10 => kernel_rfl
      case h3Fxt22x10 => kernel_rfl
      case h4Fxt22x10 => rfl
      case hqFxt22x10 => exact fun _ _ _ h => h
      case hyFxt22x10 => (intro w hSw; (try dsimp only at hSw); go_simp <;> with_reducible rfl)
      (try simp only [Act.put, List.setIfInBounds_toArray, List.set_cons_zero, List.set_cons_succ])
      refine wpAnyH_ready (rs := [11]) (by kernel_rfl) (by simp) ?_
      refine AllReadyH.cons (o := ?oiFxq23) ?hoFxq23 (fun K hK => ?restFxq23) ?moreFxq23
      case moreFxq23 => exact AllReadyH.nil
      case hoFxq23 => (simp only [List.getElem?_toArray, List.getElem?_cons_zero, List.getElem?_cons_succ]; rfl)
      go_simp
      refine hfl.mono ?_
      rintro e w9 ⟨rfl, rfl⟩
      try go_wp2_with fail
      refine hK.out _ _ ?hSnewFxhq23 (fun hHeld => ?restFxhq23)
      case hSnewFxhq23 => ((try dsimp only); exact ⟨HC6.out _ hB9', hcv9⟩)
      clear hK K
      (try simp only [Act.put, List.setIfInBounds_toArray, List.set_cons_zero, List.set_cons_succ])
      refine wpAnyH_take (i := 12) (oi := ?oiFxt25x12) (v := ?vFxt25x12) ?hoFxt25x12 ?h1Fxt25x12 ?h2Fxt25x12 ?h3Fxt25x12 ?hqFxt25x12 (Or.inl ⟨?h4Fxt25x12, ?hyFxt25x12⟩) (by assumption) ?restFxt25x12
      case hoFxt25x12 => (simp only [List.getElem?_toArray, List.getElem?_cons_zero, List.getElem?_cons_succ]; rfl)
      case h1Fxt25x12 => kernel_rfl
      case h2Fxt25x12 => kernel_rfl
      case h3Fxt25x12 => kernel_rfl
      case h4Fxt25x12 => rfl
      case hqFxt25x12 => exact fun _ _ _ h => h
      case hyFxt25x12 => (intro w hSw; (try dsimp only at hSw); go_simp <;> with_reducible rfl)
      (try simp only [Act.put, List.setIfInBounds_toArray, List.set_cons_zero, List.set_cons_succ])
      refine wpAnyH_take (i := 13) (oi := ?oiFxt27x13) (v := ?vFxt27x13) ?hoFxt27x13 ?h1Fxt27x13 ?h2Fxt27x13 ?h3Fxt27x13 ?hqFxt27x13 (Or.inl ⟨?h4Fxt27x13, ?hyFxt27x13⟩) (by assumption) ?restFxt27x13
      case hoFxt27x13 => (simp only [List.getElem?_toArray, List.getElem?_cons_zero, List.getElem?_cons_succ]; rfl)
      case h1Fxt27x13 => kernel_rfl
      case h2Fxt27x13 => kernel_rfl
      case h3Fxt27x13 => kernel_rfl
      case h4Fxt27x13 => rfl
      case hqFxt27x13 => exact fun _ _ _ h => h
      case hyFxt27x13 => (intro w hSw; (try dsimp only at hSw); go_simp <;> with_reducible rfl)
      (try simp only [Act.put, List.setIfInBounds_toArray, List.set_cons_zero, List.set_cons_succ])
      refine wpAnyH_done (by kernel_rfl) ?_ _
      have hfin := hid (h9.bel)
      clear hcv9 hB9' HC6 HA h9 hfl
      go_wp2
      go_ret
      exact ⟨rfl, hfin.out⟩
end Go.Proofs.Ytineicehipgnjaa.Nand
