import Derived.Test.YtineicehipgnjaaNandLawA
set_option linter.unusedVariables false
set_option linter.unusedSimpArgs false
namespace Go.Proofs.Ytineicehipgnjaa.Nand
open Go.RowKit Go.Proofs.Ytineicehipgnjaa.Kit

theorem own_blk {w : World} {base c : Nat} {e : TypeId} {A : Option Addr} {xs : List Value} (h : w.ownsRow base e 1 (.slice A 96 c) 96 xs) : ∃ g cs, A = some ⟨g, 0, none⟩ ∧ Blk w g cs e ∧ base ≤ g := by
  obtain ⟨hl, hv⟩ := h
  rcases hv with ⟨-, h0⟩ | ⟨g, cap, cur, he, hg, hh, -, -, -, -⟩
  · cases h0
  · injection he with e1 e2 e3
    exact ⟨g, cur, e1, hh, hg⟩
theorem own_same {w w' : World} {base g c : Nat} {e e2 : TypeId} {cs : Array Value} {xs : List Value} (h : w.ownsRow base e 1 (.slice (some ⟨g, 0, none⟩) 96 c) 96 xs) (h1 : Blk w g cs e2) (h2 : Blk w' g cs e2) : w'.ownsRow base e 1 (.slice (some ⟨g, 0, none⟩) 96 c) 96 xs :=
  own_keep h (fun k hk => by
    injection hk with hk
    subst hk
    exact (show w'.heap[g]? = some _ from h2).trans (show w.heap[g]? = some _ from h1).symm)

def pgsL (n : Nat) : List (List Int) := (List.range n).map (fun i : Nat => pgL (i : Int))
theorem pgsL_len (n : Nat) : (pgsL n).length = n := by simp [pgsL]
theorem pgsL_succ (n : Nat) : pgsL (n + 1) = pgsL n ++ [pgL (n : Int)] := by unfold pgsL; rw [List.range_succ, List.map_append]; rfl
theorem pgsL_zero (n : Nat) (h : 0 < n) : (pgsL n).getD 0 [] = pgL 0 := by
  rw [List.getD_eq_getElem?_getD]
  unfold pgsL
  rw [List.getElem?_map, List.getElem?_range h]
  rfl
def hN (i : Nat) : NA := ⟨[gB (pgsL i)], 8, 0, 0, 0, false, (i : Int), none⟩
def hArm (i : Nat) : NA := ⟨[gB (pgsL i)], 8, 0, 0, 1, false, (i : Int), none⟩
def hE (i : Nat) : NA := ⟨[gB (pgsL i)], 8, 0, 0, 0, true, wrap64 ((i : Int) + 1), some ⟨0, none, false⟩⟩
def hR0 (i : Nat) : NA := ⟨[gB (pgsL i)], 8, 0, 1, 0, false, wrap64 ((i : Int) + 1), none⟩
def hR1 (i : Nat) : NA := ⟨[⟨pgsL i, 0, true, false, false, 0⟩], 8, 0, 1, 0, false, wrap64 ((i : Int) + 1), none⟩
def hR2 (i : Nat) : NA := ⟨[⟨[], 1, false, false, false, 0⟩], 8, 0, 1, 0, false, wrap64 ((i : Int) + 1), none⟩
def hR2b (i : Nat) : NA := ⟨[⟨[pgL 9], 1, false, false, false, 0⟩], 8, 0, 1, 0, false, wrap64 (wrap64 ((i : Int) + 1) + 1), none⟩
def hR1b (i : Nat) : NA := ⟨[⟨[], 1, false, false, false, 0⟩], 8, 0, 1, 0, false, wrap64 (wrap64 ((i : Int) + 1) + 1), none⟩
def hR1c (i : Nat) : NA := ⟨[⟨[pgL 9], 1, false, false, false, 0⟩], 8, 0, 1, 0, false, wrap64 (wrap64 (wrap64 ((i : Int) + 1) + 1) + 1), none⟩
theorem hlv_step (i : Nat) (h : i < 8) : (hN i).prog 0 (i : Int) (pgL (i : Int)) 0 = (hN (i + 1), 0) := by
  have e := prog_calm (N := hN i) 0 i (pgL (i : Int)) 0 (show 0 < 1 by decide) rfl rfl rfl rfl (pgsL_len i).symm h (pgL_len _) rfl (show (0 : Int) ≤ 0 by decide)
  refine e.trans ?_
  unfold hN
  rw [pgsL_succ, show (((i + 1 : Nat)) : Int) = wrap64 ((i : Int) + 1) by rw [IntWalk.wrap64_in _ (by omega)]; omega]
  rfl
theorem hlv_arm (i : Nat) : (hN i).arm 1 = (hArm i, 0) := rfl
theorem hlv_erase (i : Nat) : (hArm i).erase 0 0 = (hE i, 9) := by
  have e := erase_eq (N := hArm i) (i := 0) (ep := 0) (show 0 < 1 by decide) rfl (show (0 : Int) ≤ 0 by decide)
  exact e.trans rfl
theorem hlv_re0 (i : Nat) (cut : Int) (h : cut ≤ 0) : (hE i).restart cut = hR0 i := by
  unfold NA.restart NA.fall
  simp only [hE]
  rw [if_neg (by omega), if_neg (by omega)]
  kernel_rfl
theorem hlv_re2 (i : Nat) (cut : Int) (h : 96 ≤ cut) : (hE i).restart cut = hR2 i := by
  unfold NA.restart NA.fall
  simp only [hE]
  rw [if_pos ⟨h, trivial⟩]
  kernel_rfl
theorem hlv_re1 (i : Nat) (cut : Int) (h : ¬ cut ≤ 0) (h2 : ¬ 96 ≤ cut) (hi : 0 < i) : (hE i).restart cut = hR1 i := by
  unfold NA.restart NA.fall
  simp only [hE]
  rw [if_neg (by omega), if_pos (by omega)]
  have e : decide (0 < (pgsL i).length) = true := by rw [pgsL_len]; exact decide_eq_true hi
  refine Eq.trans (b := (⟨[⟨pgsL i, 0, decide (0 < (pgsL i).length), false, false, 0⟩], 8, 0, 1, 0, false, wrap64 ((i : Int) + 1), none⟩ : NA)) (by kernel_rfl) ?_
  rw [e]
  rfl
theorem hlv_at0 (i : Nat) : (hR0 i).atE 0 = 0 := rfl
theorem hlv_at1 (i : Nat) : (hR1 i).atE 0 = 0 := rfl
theorem hlv_rd0 (i : Nat) (h : 0 < i) : (hR0 i).readE 0 0 = 0 := by
  unfold NA.readE
  rw [if_neg (by rw [hlv_at0]; simp), if_neg (by show ¬ ((0 : Int) < 0 ∨ ((8 : Nat) : Int) ≤ 0); omega), if_neg (by show ¬ (((pgsL i).length : Int) ≤ 0); rw [pgsL_len]; omega), if_neg (by show ¬ (false = true); simp)]
theorem hlv_rd1 (i : Nat) (h : 0 < i) : (hR1 i).readE 0 0 = 4 := by
  unfold NA.readE
  rw [if_neg (by rw [hlv_at1]; simp), if_neg (by show ¬ ((0 : Int) < 0 ∨ ((8 : Nat) : Int) ≤ 0); omega), if_neg (by show ¬ (((pgsL i).length : Int) ≤ 0); rw [pgsL_len]; omega), if_pos (show ((hR1 i).blk (Int.toNat 0)).half = true from rfl)]
theorem hlv_rd2 (i : Nat) : (hR2 i).readE 0 0 = 5 := rfl
theorem hlv_pg0 (i : Nat) (h : 0 < i) : (hR0 i).page 0 0 = pgL 0 := pgsL_zero i h
theorem hlv_nx0 (i : Nat) : (if (hR0 i).inI 0 then (((hR0 i).blk (0 : Int).toNat).pages.length : Int) else 0) = (i : Int) := by
  show ((pgsL i).length : Int) = _
  rw [pgsL_len]
theorem hlv_nx1 (i : Nat) : (if (hR1 i).inI 0 then (((hR1 i).blk (0 : Int).toNat).pages.length : Int) else 0) = (i : Int) := by
  show ((pgsL i).length : Int) = _
  rw [pgsL_len]
theorem hlv_full (i : Nat) (h : i = 8) : ((hR0 i).prog 0 (i : Int) (pgL 9) 0).2 = 1 := by
  have e : (hR0 i).progE 0 (i : Int) (pgL 9).length 0 = 1 := by
    unfold NA.progE
    rw [if_neg (by rw [hlv_at0]; simp), if_pos (show (i : Int) < 0 ∨ ((hR0 i).pages : Int) ≤ (i : Int) from Or.inr (show ((8 : Nat) : Int) ≤ (i : Int) by omega))]
  rw [prog_err _ _ _ _ (by rw [e]; decide), e]
theorem hlv_room (i : Nat) (h : i < 8) : ((hR0 i).prog 0 (i : Int) (pgL 9) 0).2 = 0 := by
  have e := prog_calm (N := hR0 i) 0 i (pgL 9) 0 (show 0 < 1 by decide) rfl rfl rfl rfl (pgsL_len i).symm h (pgL_len _) rfl (show (0 : Int) ≤ 0 by decide)
  exact congrArg Prod.snd e
theorem hlv_two (i : Nat) : (hR2 i).prog 0 0 (pgL 9) 0 = (hR2b i, 0) := by
  have e := prog_calm (N := hR2 i) 0 0 (pgL 9) 0 (show 0 < 1 by decide) rfl rfl rfl rfl rfl (show 0 < 8 by decide) (pgL_len 9) rfl (show (0 : Int) ≤ 0 by decide)
  exact e.trans rfl
theorem hlv_half8 (i : Nat) (h : i = 8) : (hR1 i).prog 0 (i : Int) (pgL 9) 0 = (hR1 i, 1) := by
  have e : (hR1 i).progE 0 (i : Int) (pgL 9).length 0 = 1 := by
    unfold NA.progE
    rw [if_neg (by rw [hlv_at1]; simp), if_pos (show (i : Int) < 0 ∨ ((hR1 i).pages : Int) ≤ (i : Int) from Or.inr (show ((8 : Nat) : Int) ≤ (i : Int) by omega))]
  rw [prog_err _ _ _ _ (by rw [e]; decide), e]
theorem hlv_half (i : Nat) (h : i < 8) : (hR1 i).prog 0 (i : Int) (pgL 9) 0 = (hR1 i, 6) := by
  have e : (hR1 i).progE 0 (i : Int) (pgL 9).length 0 = 6 := by
    unfold NA.progE
    rw [if_neg (by rw [hlv_at1]; simp), if_neg (show ¬ ((i : Int) < 0 ∨ ((hR1 i).pages : Int) ≤ (i : Int)) from (show ¬ ((i : Int) < 0 ∨ ((8 : Nat) : Int) ≤ (i : Int)) by omega)), if_neg (by rw [pgL_len]; simp), if_pos (show (i : Int) ≠ ((hR1 i).blk (Int.toNat 0)).pages.length ∨ ((hR1 i).blk (Int.toNat 0)).half = true from Or.inr rfl)]
  rw [prog_err _ _ _ _ (by rw [e]; decide), e]
theorem hlv_er (i : Nat) : (hR1 i).erase 0 0 = (hR1b i, 0) := by
  have e := erase_calm (N := hR1 i) 0 0 (show 0 < 1 by decide) rfl rfl rfl rfl (show (0 : Int) ≤ 0 by decide)
  exact e.trans (by kernel_rfl)
theorem hlv_last (i : Nat) : (hR1b i).prog 0 0 (pgL 9) 0 = (hR1c i, 0) := by
  have e := prog_calm (N := hR1b i) 0 0 (pgL 9) 0 (show 0 < 1 by decide) rfl rfl rfl rfl rfl (show 0 < 8 by decide) (pgL_len 9) rfl (show (0 : Int) ≤ 0 by decide)
  exact e.trans rfl

set_option maxRecDepth 100000 in
set_option maxHeartbeats 16000000 in
theorem law_halves (m : Int) (hm : 0 ≤ m ∧ m ≤ 255) (cut : Int) (hcut : -9223372036854775808 ≤ cut ∧ cut ≤ 9223372036854775807) (w : World) :
    Calls Try.prog 9 #[.int .u8 m, .int .i64 cut] w fun e w' => e = .returned (.bool true) ∧ Below w.heap.size w w' := by
  go_enter Try.func9, Try.ntmps9
  go_wp2_with fail
  refine (awake_any w).mono ?_
  rintro e w1 ⟨rfl, hB1⟩
  go_wp2_with fail
  refine (new_b w 1 8 none 0 0 [] w1 hB1 (by omega) (by omega) (Nums.none _ _ _) (by simp)).mono ?_
  rintro e w2 ⟨b, rfl, h2⟩
  replace h2 : ArrB w w2 b (hN 0) := h2
  replace h2 := hid h2
  clear hB1
  obtain ⟨q, hq, hq8⟩ : ∃ q : Nat, m.tmod 8 = (q : Int) ∧ q < 8 := ⟨(m.tmod 8).toNat, by rw [Int.tmod_eq_emod_of_nonneg hm.1]; omega, by rw [Int.tmod_eq_emod_of_nonneg hm.1]; omega⟩
  obtain ⟨K, hKq⟩ : ∃ K : Nat, K = q + 1 := ⟨_, rfl⟩
  have hw1 : IntKind.i64.wrap m = m := IntWalk.i64_in _ (by omega)
  have hw2 : IntKind.i64.wrap (1 + (q : Int)) = (K : Int) := by rw [IntWalk.i64_in _ (by omega)]; omega
  have hK1 : 1 ≤ K := by omega
  have hK8 : K ≤ 8 := by omega
  clear hKq
  go_wp2
  go_loopw [8] (fun i w' => ∃ k : Nat, k ≤ K ∧ i = .int .i64 (k : Int) ∧ ArrB w w' b (hN k)) (fun i _ => K - (intOf i).toNat)
  case atStart => exact ⟨0, by omega, rfl, h2.out⟩
  case round =>
    clear h2
    obtain ⟨k, hk, rfl, hA⟩ := hrel
    by_cases hlt : k < K
    · replace hA := hid hA
      have hku : IntKind.u8.wrap (k : Int) = (k : Int) := IntWalk.u8_in _ (by omega)
      go_wp2_with fail
      refine (page_b hA.out (k : Int) (by omega)).mono ?_
      rintro e w3 ⟨g3, rfl, hz3, h3, -, -, -⟩
      have hp := program_b h3 0 (k : Int) _ 96 96 _ 0 hz3 (by decide)
      rw [hlv_step k (by omega)] at hp
      clear hA h3 hz3
      go_wp2_with fail
      refine hp.mono ?_
      rintro e w4 ⟨rfl, h4⟩
      replace h4 := hid h4
      clear hp
      go_wp2
      go_roundw
      case rel => exact ⟨k + 1, by omega, by go_num, h4.out⟩
      case measure => simp [intOf]; omega
    · obtain rfl : K = k := by omega
      have har := arm_b hA 1 (by omega)
      rw [hlv_arm] at har
      clear hA hk hlt
      go_wp2_with fail
      refine har.mono ?_
      rintro e w3 ⟨rfl, h3⟩
      have her := erase_b h3 0 0
      replace her := show Calls _ _ _ _ _ from her
      rw [show ((hArm K, (0 : Int)).1.erase 0 0) = (hE K, 9) from hlv_erase K] at her
      clear har h3
      go_wp2_with fail
      refine her.mono ?_
      rintro e w4 ⟨rfl, h4⟩
      replace h4 := hid h4
      clear her
      have h4 : Hid (ArrB w w4 b (hE K)) := h4
      by_cases hc : cut ≤ 0
      · have hrs := restart_b h4.out cut
        rw [hlv_re0 K cut hc] at hrs
        clear h4
        go_wp2_with fail
        refine hrs.mono ?_
        rintro e w5 ⟨rfl, h5⟩
        replace h5 := hid h5
        clear hrs
        have hrd := read_yes_b h5.out 0 0 (hlv_rd0 K (by omega))
        rw [hlv_pg0 K (by omega)] at hrd
        have Hnx := hid (hlv_nx0 K)
        by_cases h8 : K = 8
        · have hk8 : ((K : Int) == 8) = true := by rw [beq_iff_eq]; omega
          have hpq := hlv_full K h8
          have Hk8 := hid hk8
          clear hk8 h8
          obtain ⟨N2, hN2⟩ : ∃ N2, N2 = ((hR0 K).prog 0 (K : Int) (pgL 9) 0).1 := ⟨_, rfl⟩
          go_wp2_with fail
          refine hrd.mono ?_
          rintro e w6 ⟨A6, c6, rfl, ho6, h6, hB6⟩
          obtain ⟨g6, cs6, rfl, hb6, hg6⟩ := own_blk ho6
          have hnx := next_b h6 0
          rw [Hnx.out] at hnx
          have hX6 := hid (ArrX.of h5.out hB6 hg6 hb6)
          clear h6 hB6 hrd h5
          go_wp2_with fail
          refine hnx.mono ?_
          rintro e w6 ⟨rfl, rfl⟩
          go_wp2_with fail
          refine (page_any 9 _ (by omega)).mono ?_
          rintro e w7 ⟨g7, rfl, hb7, hg7, hB7⟩
          have hpn := program_x (hX6.out.later hB7) 0 (K : Int) (some ⟨g7, 0, none⟩) 96 96 _ 0 (nums_lit hb7 (pgL_len _) (pgL_wf 9)) (by decide)
          rw [hpq, ← hN2] at hpn
          clear hb7 hg7 hB7 hnx hpq hN2
          go_wp2_with fail
          refine hpn.mono ?_
          rintro e w8 ⟨rfl, hX8⟩
          have hz8 := (own_reads (own_same ho6 hb6 hX8.blk) (pgL_wf 0)).2
          have HA := hid hX8.arrB
          have HC8 := hid (fun (W : World) (hW : Below w8.heap.size w8 W) => conv_str (c := c6) (hz8.below hW))
          have hBd : Below w8.heap.size w8 w8.drew := below_drewN (Below.refl _ _) 1
          have hse := str_eq_true (show pgL 0 = pgL 0 from rfl)
          have hk8 := Hk8.out
          clear hX8 ho6 hb6 hz8 hX6 hpn hg6 Hk8
          go_upto_region 16 with (fail)
          refine wp_region_held_drew (S := (fun w' => (convert 27 9 (.slice (some ⟨g6, 0, none⟩) 96 c6)).run Try.prog w' = .ok (.string (strOfNums (pgL 0))) w')) (by kernel_rfl) ?hSnewHaz (fun hHeld => ?restHaz)
          case hSnewHaz => ((try dsimp only); exact HC8.out _ hBd)
          refine wpAnyH_take (i := 0) (oi := ?oiHat2x0) (v := ?vHat2x0) ?hoHat2x0 ?h1Hat2x0 ?h2Hat2x0 ?h3Hat2x0 ?hqHat2x0 (Or.inl ⟨?h4Hat2x0, ?hyHat2x0⟩) (by assumption) ?restHat2x0
          case hoHat2x0 => (simp only [List.getElem?_toArray, List.getElem?_cons_zero, List.getElem?_cons_succ]; rfl)
          case h1Hat2x0 => kernel_rfl
          case h2Hat2x0 => kernel_rfl
          case h3Hat2x0 => kernel_rfl
          case h4Hat2x0 => rfl
          case hqHat2x0 => exact fun _ _ _ h => h
          case hyHat2x0 => (intro w hSw; (try dsimp only at hSw); go_simp <;> with_reducible rfl)
          (try simp only [Act.put, List.setIfInBounds_toArray, List.set_cons_zero, List.set_cons_succ])
          refine wpAnyH_take (i := 1) (oi := ?oiHat4x1) (v := ?vHat4x1) ?hoHat4x1 ?h1Hat4x1 ?h2Hat4x1 ?h3Hat4x1 ?hqHat4x1 (Or.inl ⟨?h4Hat4x1, ?hyHat4x1⟩) (by assumption) ?restHat4x1
          case hoHat4x1 => (simp only [List.getElem?_toArray, List.getElem?_cons_zero, List.getElem?_cons_succ]; rfl)
          case h1Hat4x1 => kernel_rfl
          case h2Hat4x1 => kernel_rfl
          case h3Hat4x1 => kernel_rfl
          case h4Hat4x1 => rfl
          case hqHat4x1 => exact fun _ _ _ h => h
          case hyHat4x1 => (intro w hSw; (try dsimp only at hSw); go_simp <;> with_reducible rfl)
          (try simp only [Act.put, List.setIfInBounds_toArray, List.set_cons_zero, List.set_cons_succ])
          refine wpAnyH_take (i := 2) (oi := ?oiHat6x2) (v := ?vHat6x2) ?hoHat6x2 ?h1Hat6x2 ?h2Hat6x2 ?h3Hat6x2 ?hqHat6x2 (Or.inl ⟨?h4Hat6x2, ?hyHat6x2⟩) (by assumption) ?restHat6x2
          case hoHat6x2 => (simp only [List.getElem?_toArray, List.getElem?_cons_zero, List.getElem?_cons_succ]; rfl)
          case h1Hat6x2 => kernel_rfl
          case h2Hat6x2 => kernel_rfl
          case h3Hat6x2 => kernel_rfl
          case h4Hat6x2 => rfl
          case hqHat6x2 => exact fun _ _ _ h => h
          case hyHat6x2 => (intro w hSw; (try dsimp only at hSw); go_simp <;> with_reducible rfl)
          (try simp only [Act.put, List.setIfInBounds_toArray, List.set_cons_zero, List.set_cons_succ])
          refine wpAnyH_take (i := 3) (oi := ?oiHat8x3) (v := ?vHat8x3) ?hoHat8x3 ?h1Hat8x3 ?h2Hat8x3 ?h3Hat8x3 ?hqHat8x3 (Or.inl ⟨?h4Hat8x3, ?hyHat8x3⟩) (by assumption) ?restHat8x3
          case hoHat8x3 => (simp only [List.getElem?_toArray, List.getElem?_cons_zero, List.getElem?_cons_succ]; rfl)
          case h1Hat8x3 => kernel_rfl
          case h2Hat8x3 => kernel_rfl
          case h3Hat8x3 => kernel_rfl
          case h4Hat8x3 => rfl
          case hqHat8x3 => exact fun _ _ _ h => h
          case hyHat8x3 => (intro w hSw; (try dsimp only at hSw); go_simp <;> with_reducible rfl)
          (try simp only [Act.put, List.setIfInBounds_toArray, List.set_cons_zero, List.set_cons_succ])
          refine wpAnyH_take (i := 4) (oi := ?oiHat10x4) (v := ?vHat10x4) ?hoHat10x4 ?h1Hat10x4 ?h2Hat10x4 ?h3Hat10x4 ?hqHat10x4 (Or.inl ⟨?h4Hat10x4, ?hyHat10x4⟩) (by assumption) ?restHat10x4
          case hoHat10x4 => (simp only [List.getElem?_toArray, List.getElem?_cons_zero, List.getElem?_cons_succ]; rfl)
          case h1Hat10x4 => kernel_rfl
          case h2Hat10x4 => kernel_rfl
          case h3Hat10x4 => kernel_rfl
          case h4Hat10x4 => rfl
          case hqHat10x4 => exact fun _ _ _ h => h
          case hyHat10x4 => (intro w hSw; (try dsimp only at hSw); go_simp <;> with_reducible rfl)
          (try simp only [Act.put, List.setIfInBounds_toArray, List.set_cons_zero, List.set_cons_succ])
          refine wpAnyH_ready (rs := [5]) (by kernel_rfl) (by simp) ?_
          refine AllReadyH.cons (o := ?oiHaq11) ?hoHaq11 (fun K hK => ?restHaq11) ?moreHaq11
          case moreHaq11 => exact AllReadyH.nil
          case hoHaq11 => (simp only [List.getElem?_toArray, List.getElem?_cons_zero, List.getElem?_cons_succ]; rfl)
          go_simp
          refine (page_any 0 _ (by omega)).mono ?_
          rintro e w9 ⟨g9, rfl, hb9, hg9, hB9⟩
          have hB9' : Below w8.heap.size w8 w9 := hBd.trans hB9
          have hcv9 := conv_str (c := 96) (nums_lit hb9 (pgL_len 0) (pgL_wf 0))
          have h9 := HA.out.later hB9'
          try go_wp2_with fail
          refine hK.out _ _ ?hSnewHahq11 (fun hHeld => ?restHahq11)
          case hSnewHahq11 => ((try dsimp only); exact HC8.out _ hB9')
          clear hK K
          (try simp only [Act.put, List.setIfInBounds_toArray, List.set_cons_zero, List.set_cons_succ])
          refine held_switch (fun w' => (convert 27 9 (.slice (some ⟨g6, 0, none⟩) 96 c6)).run Try.prog w' = .ok (.string (strOfNums (pgL 0))) w' ∧ (convert 27 9 (.slice (some ⟨g9, 0, none⟩) 96 96)).run Try.prog w' = .ok (.string (strOfNums (pgL 0))) w') (fun w h => h.1) ?hSnewHasa12 (fun hHeld => ?restHasa12)
          case hSnewHasa12 => ((try dsimp only); exact ⟨HC8.out _ hB9', hcv9⟩)
          refine wpAnyH_take (i := 6) (oi := ?oiHat14x6) (v := ?vHat14x6) ?hoHat14x6 ?h1Hat14x6 ?h2Hat14x6 ?h3Hat14x6 ?hqHat14x6 (Or.inl ⟨?h4Hat14x6, ?hyHat14x6⟩) (by assumption) ?restHat14x6
          case hoHat14x6 => (simp only [List.getElem?_toArray, List.getElem?_cons_zero, List.getElem?_cons_succ]; rfl)
          case h1Hat14x6 => kernel_rfl
          case h2Hat14x6 => kernel_rfl
          case h3Hat14x6 => kernel_rfl
          case h4Hat14x6 => rfl
          case hqHat14x6 => exact fun _ _ _ h => h
          case hyHat14x6 => (intro w hSw; (try dsimp only at hSw); go_simp <;> with_reducible rfl)
          (try simp only [Act.put, List.setIfInBounds_toArray, List.set_cons_zero, List.set_cons_succ])
          refine wpAnyH_take (i := 7) (oi := ?oiHat16x7) (v := ?vHat16x7) ?hoHat16x7 ?h1Hat16x7 ?h2Hat16x7 ?h3Hat16x7 ?hqHat16x7 (Or.inl ⟨?h4Hat16x7, ?hyHat16x7⟩) (by assumption) ?restHat16x7
          case hoHat16x7 => (simp only [List.getElem?_toArray, List.getElem?_cons_zero, List.getElem?_cons_succ]; rfl)
          case h1Hat16x7 => kernel_rfl
          case h2Hat16x7 => kernel_rfl
          case h3Hat16x7 => kernel_rfl
          case h4Hat16x7 => rfl
          case hqHat16x7 => exact fun _ _ _ h => h
          case hyHat16x7 => (intro w hSw; (try dsimp only at hSw); go_simp <;> with_reducible rfl)
          (try simp only [Act.put, List.setIfInBounds_toArray, List.set_cons_zero, List.set_cons_succ])
          refine wpAnyH_take (i := 8) (oi := ?oiHat18x8) (v := ?vHat18x8) ?hoHat18x8 ?h1Hat18x8 ?h2Hat18x8 ?h3Hat18x8 ?hqHat18x8 (Or.inl ⟨?h4Hat18x8, ?hyHat18x8⟩) (by assumption) ?restHat18x8
          case hoHat18x8 => (simp only [List.getElem?_toArray, List.getElem?_cons_zero, List.getElem?_cons_succ]; rfl)
          case h1Hat18x8 => kernel_rfl
          case h2Hat18x8 => kernel_rfl
          case h3Hat18x8 => kernel_rfl
          case h4Hat18x8 => rfl
          case hqHat18x8 => exact fun _ _ _ h => h
          case hyHat18x8 => (intro w hSw; (try dsimp only at hSw); go_simp <;> with_reducible rfl)
          (try simp only [Act.put, List.setIfInBounds_toArray, List.set_cons_zero, List.set_cons_succ])
          refine wpAnyH_take (i := 9) (oi := ?oiHat20x9) (v := ?vHat20x9) ?hoHat20x9 ?h1Hat20x9 ?h2Hat20x9 ?h3Hat20x9 ?hqHat20x9 (Or.inl ⟨?h4Hat20x9, ?hyHat20x9⟩) (by assumption) ?restHat20x9
          case hoHat20x9 => (simp only [List.getElem?_toArray, List.getElem?_cons_zero, List.getElem?_cons_succ]; rfl)
          case h1Hat20x9 => kernel_rfl
          case h2Hat20x9 => kernel_rfl
          case h3Hat20x9 => kernel_rfl
          case h4Hat20x9 => rfl
          case hqHat20x9 => exact fun _ _ _ h => h
          case hyHat20x9 => (intro w hSw; (try dsimp only at hSw); go_simp <;> with_reducible rfl)
          (try simp only [Act.put, List.setIfInBounds_toArray, List.set_cons_zero, List.set_cons_succ])
          refine wpAnyH_take (i := 10) (oi := ?oiHat22x10) (v := ?vHat22x10) ?hoHat22x10 ?h1Hat22x10 ?h2Hat22x10 ?h3Hat22x10 ?hqHat22x10 (Or.inl ⟨?h4Hat22x10, ?hyHat22x10⟩) (by assumption) ?restHat22x10
          case hoHat22x10 => (simp only [List.getElem?_toArray, List.getElem?_cons_zero, List.getElem?_cons_succ]; rfl)
          case h1Hat22x10 => kernel_rfl
          case h2Hat22x10 => kernel_rfl
          case h3Hat22x10 => kernel_rfl
          case h4Hat22x10 => rfl
          case hqHat22x10 => exact fun _ _ _ h => h
          case hyHat22x10 => (intro w hSw; (try dsimp only at hSw); go_simp <;> with_reducible rfl)
          (try simp only [Act.put, List.setIfInBounds_toArray, List.set_cons_zero, List.set_cons_succ])
          refine wpAnyH_take (i := 11) (oi := ?oiHat24x11) (v := ?vHat24x11) ?hoHat24x11 ?h1Hat24x11 ?h2Hat24x11 ?h3Hat24x11 ?hqHat24x11 (Or.inl ⟨?h4Hat24x11, ?hyHat24x11⟩) (by assumption) ?restHat24x11
          case hoHat24x11 => (simp only [List.getElem?_toArray, List.getElem?_cons_zero, List.getElem?_cons_succ]; rfl)
          case h1Hat24x11 => kernel_rfl
          case h2Hat24x11 => kernel_rfl
          case h3Hat24x11 => kernel_rfl
          case h4Hat24x11 => rfl
          case hqHat24x11 => exact fun _ _ _ h => h
          case hyHat24x11 => (intro w hSw; (try dsimp only at hSw); go_simp <;> with_reducible rfl)
          (try simp only [Act.put, List.setIfInBounds_toArray, List.set_cons_zero, List.set_cons_succ])
          refine wpAnyH_take (i := 12) (oi := ?oiHat26x12) (v := ?vHat26x12) ?hoHat26x12 ?h1Hat26x12 ?h2Hat26x12 ?h3Hat26x12 ?hqHat26x12 (Or.inl ⟨?h4Hat26x12, ?hyHat26x12⟩) (by assumption) ?restHat26x12
          case hoHat26x12 => (simp only [List.getElem?_toArray, List.getElem?_cons_zero, List.getElem?_cons_succ]; rfl)
          case h1Hat26x12 => kernel_rfl
          case h2Hat26x12 => kernel_rfl
          case h3Hat26x12 => kernel_rfl
          case h4Hat26x12 => rfl
          case hqHat26x12 => exact fun _ _ _ h => h
          case hyHat26x12 => (intro w hSw; (try dsimp only at hSw); go_simp <;> with_reducible rfl)
          (try simp only [Act.put, List.setIfInBounds_toArray, List.set_cons_zero, List.set_cons_succ])
          refine wpAnyH_take (i := 13) (oi := ?oiHat28x13) (v := ?vHat28x13) ?hoHat28x13 ?h1Hat28x13 ?h2Hat28x13 ?h3Hat28x13 ?hqHat28x13 (Or.inl ⟨?h4Hat28x13, ?hyHat28x13⟩) (by assumption) ?restHat28x13
          case hoHat28x13 => (simp only [List.getElem?_toArray, List.getElem?_cons_zero, List.getElem?_cons_succ]; rfl)
          case h1Hat28x13 => kernel_rfl
          case h2Hat28x13 => kernel_rfl
          case h3Hat28x13 => kernel_rfl
          case h4Hat28x13 => rfl
          case hqHat28x13 => exact fun _ _ _ h => h
          case hyHat28x13 => (intro w hSw; (try dsimp only at hSw); go_simp <;> with_reducible rfl)
          (try simp only [Act.put, List.setIfInBounds_toArray, List.set_cons_zero, List.set_cons_succ])
          refine wpAnyH_take (i := 14) (oi := ?oiHat30x14) (v := ?vHat30x14) ?hoHat30x14 ?h1Hat30x14 ?h2Hat30x14 ?h3Hat30x14 ?hqHat30x14 (Or.inl ⟨?h4Hat30x14, ?hyHat30x14⟩) (by assumption) ?restHat30x14
          case hoHat30x14 => (simp only [List.getElem?_toArray, List.getElem?_cons_zero, List.getElem?_cons_succ]; rfl)
          case h1Hat30x14 => kernel_rfl
          case h2Hat30x14 => kernel_rfl
          case h3Hat30x14 => kernel_rfl
          case h4Hat30x14 => rfl
          case hqHat30x14 => exact fun _ _ _ h => h
          case hyHat30x14 => (intro w hSw; (try dsimp only at hSw); go_simp <;> with_reducible rfl)
          (try simp only [Act.put, List.setIfInBounds_toArray, List.set_cons_zero, List.set_cons_succ])
          refine wpAnyH_take (i := 15) (oi := ?oiHat32x15) (v := ?vHat32x15) ?hoHat32x15 ?h1Hat32x15 ?h2Hat32x15 ?h3Hat32x15 ?hqHat32x15 (Or.inl ⟨?h4Hat32x15, ?hyHat32x15⟩) (by assumption) ?restHat32x15
          case hoHat32x15 => (simp only [List.getElem?_toArray, List.getElem?_cons_zero, List.getElem?_cons_succ]; rfl)
          case h1Hat32x15 => kernel_rfl
          case h2Hat32x15 => kernel_rfl
          case h3Hat32x15 => kernel_rfl
          case h4Hat32x15 => rfl
          case hqHat32x15 => exact fun _ _ _ h => h
          case hyHat32x15 => (intro w hSw; (try dsimp only at hSw); go_simp <;> with_reducible rfl)
          (try simp only [Act.put, List.setIfInBounds_toArray, List.set_cons_zero, List.set_cons_succ])
          refine wpAnyH_take (i := 16) (oi := ?oiHat34x16) (v := ?vHat34x16) ?hoHat34x16 ?h1Hat34x16 ?h2Hat34x16 ?h3Hat34x16 ?hqHat34x16 (Or.inl ⟨?h4Hat34x16, ?hyHat34x16⟩) (by assumption) ?restHat34x16
          case hoHat34x16 => (simp only [List.getElem?_toArray, List.getElem?_cons_zero, List.getElem?_cons_succ]; rfl)
          case h1Hat34x16 => kernel_rfl
          case h2Hat34x16 => kernel_rfl
          case h3Hat34x16 => kernel_rfl
          case h4Hat34x16 => rfl
          case hqHat34x16 => exact fun _ _ _ h => h
          case hyHat34x16 => (intro w hSw; (try dsimp only at hSw); go_simp <;> with_reducible rfl)
          (try simp only [Act.put, List.setIfInBounds_toArray, List.set_cons_zero, List.set_cons_succ])
          refine wpAnyH_take (i := 17) (oi := ?oiHat36x17) (v := ?vHat36x17) ?hoHat36x17 ?h1Hat36x17 ?h2Hat36x17 ?h3Hat36x17 ?hqHat36x17 (Or.inl ⟨?h4Hat36x17, ?hyHat36x17⟩) (by assumption) ?restHat36x17
          case hoHat36x17 => (simp only [List.getElem?_toArray, List.getElem?_cons_zero, List.getElem?_cons_succ]; rfl)
          case h1Hat36x17 => kernel_rfl
          case h2Hat36x17 => kernel_rfl
          case h3Hat36x17 => kernel_rfl
          case h4Hat36x17 => rfl
          case hqHat36x17 => exact fun _ _ _ h => h
          case hyHat36x17 => (intro w hSw; (try dsimp only at hSw); go_simp <;> with_reducible rfl)
          (try simp only [Act.put, List.setIfInBounds_toArray, List.set_cons_zero, List.set_cons_succ])
          refine wpAnyH_take (i := 18) (oi := ?oiHat38x18) (v := ?vHat38x18) ?hoHat38x18 ?h1Hat38x18 ?h2Hat38x18 ?h3Hat38x18 ?hqHat38x18 (Or.inl ⟨?h4Hat38x18, ?hyHat38x18⟩) (by assumption) ?restHat38x18
          case hoHat38x18 => (simp only [List.getElem?_toArray, List.getElem?_cons_zero, List.getElem?_cons_succ]; rfl)
          case h1Hat38x18 => kernel_rfl
          case h2Hat38x18 => kernel_rfl
          case h3Hat38x18 => kernel_rfl
          case h4Hat38x18 => rfl
          case hqHat38x18 => exact fun _ _ _ h => h
          case hyHat38x18 => (intro w hSw; (try dsimp only at hSw); go_simp <;> with_reducible rfl)
          (try simp only [Act.put, List.setIfInBounds_toArray, List.set_cons_zero, List.set_cons_succ])
          refine wpAnyH_take (i := 19) (oi := ?oiHat40x19) (v := ?vHat40x19) ?hoHat40x19 ?h1Hat40x19 ?h2Hat40x19 ?h3Hat40x19 ?hqHat40x19 (Or.inl ⟨?h4Hat40x19, ?hyHat40x19⟩) (by assumption) ?restHat40x19
          case hoHat40x19 => (simp only [List.getElem?_toArray, List.getElem?_cons_zero, List.getElem?_cons_succ]; rfl)
          case h1Hat40x19 => kernel_rfl
          case h2Hat40x19 => kernel_rfl
          case h3Hat40x19 => kernel_rfl
          case h4Hat40x19 => rfl
          case hqHat40x19 => exact fun _ _ _ h => h
          case hyHat40x19 => (intro w hSw; (try dsimp only at hSw); go_simp <;> with_reducible rfl)
          (try simp only [Act.put, List.setIfInBounds_toArray, List.set_cons_zero, List.set_cons_succ])
          refine wpAnyH_take (i := 20) (oi := ?oiHat41k20) (v := undef) ?hoHat41k20 ?h1Hat41k20 ?h2Hat41k20 ?h3Hat41k20 ?hqHat41k20 (Or.inr ⟨?h4Hat41k20, rfl⟩) (by assumption) ?restHat41k20
          case hoHat41k20 => (simp only [List.getElem?_toArray, List.getElem?_cons_zero, List.getElem?_cons_succ]; rfl)
          case h1Hat41k20 => kernel_rfl
          case h2Hat41k20 => kernel_rfl
          case h3Hat41k20 => kernel_rfl
          case h4Hat41k20 => rfl
          case hqHat41k20 => exact fun _ _ _ h => h
          (try simp only [Act.put, List.setIfInBounds_toArray, List.set_cons_zero, List.set_cons_succ])
          refine wpAnyH_take (i := 21) (oi := ?oiHat42k21) (v := undef) ?hoHat42k21 ?h1Hat42k21 ?h2Hat42k21 ?h3Hat42k21 ?hqHat42k21 (Or.inr ⟨?h4Hat42k21, rfl⟩) (by assumption) ?restHat42k21
          case hoHat42k21 => (simp only [List.getElem?_toArray, List.getElem?_cons_zero, List.getElem?_cons_succ]; rfl)
          case h1Hat42k21 => kernel_rfl
          case h2Hat42k21 => kernel_rfl
          case h3Hat42k21 => kernel_rfl
          case h4Hat42k21 => rfl
          case hqHat42k21 => exact fun _ _ _ h => h
          (try simp only [Act.put, List.setIfInBounds_toArray, List.set_cons_zero, List.set_cons_succ])
          refine wpAnyH_take (i := 22) (oi := ?oiHat44x22) (v := ?vHat44x22) ?hoHat44x22 ?h1Hat44x22 ?h2Hat44x22 ?h3Hat44x22 ?hqHat44x22 (Or.inl ⟨?h4Hat44x22, ?hyHat44x22⟩) (by assumption) ?restHat44x22
          case hoHat44x22 => (simp only [List.getElem?_toArray, List.getElem?_cons_zero, List.getElem?_cons_succ]; rfl)
          case h1Hat44x22 => kernel_rfl
          case h2Hat44x22 => kernel_rfl
          case h3Hat44x22 => kernel_rfl
          case h4Hat44x22 => rfl
          case hqHat44x22 => exact fun _ _ _ h => h
          case hyHat44x22 => (intro w hSw; (try dsimp only at hSw); go_simp <;> with_reducible rfl)
          (try simp only [Act.put, List.setIfInBounds_toArray, List.set_cons_zero, List.set_cons_succ])
          refine wpAnyH_take (i := 23) (oi := ?oiHat46x23) (v := ?vHat46x23) ?hoHat46x23 ?h1Hat46x23 ?h2Hat46x23 ?h3Hat46x23 ?hqHat46x23 (Or.inl ⟨?h4Hat46x23, ?hyHat46x23⟩) (by assumption) ?restHat46x23
          case hoHat46x23 => (simp only [List.getElem?_toArray, List.getElem?_cons_zero, List.getElem?_cons_succ]; rfl)
          case h1Hat46x23 => kernel_rfl
          case h2Hat46x23 => kernel_rfl
          case h3Hat46x23 => kernel_rfl
          case h4Hat46x23 => rfl
          case hqHat46x23 => exact fun _ _ _ h => h
          case hyHat46x23 => (intro w hSw; (try dsimp only at hSw); go_simp <;> with_reducible rfl)
          (try simp only [Act.put, List.setIfInBounds_toArray, List.set_cons_zero, List.set_cons_succ])
          refine wpAnyH_take (i := 24) (oi := ?oiHat48x24) (v := ?vHat48x24) ?hoHat48x24 ?h1Hat48x24 ?h2Hat48x24 ?h3Hat48x24 ?hqHat48x24 (Or.inl ⟨?h4Hat48x24, ?hyHat48x24⟩) (by assumption) ?restHat48x24
          case hoHat48x24 => (simp only [List.getElem?_toArray, List.getElem?_cons_zero, List.getElem?_cons_succ]; rfl)
          case h1Hat48x24 => kernel_rfl
          case h2Hat48x24 => kernel_rfl
          case h3Hat48x24 => kernel_rfl
          case h4Hat48x24 => rfl
          case hqHat48x24 => exact fun _ _ _ h => h
          case hyHat48x24 => (intro w hSw; (try dsimp only at hSw); go_simp <;> with_reducible rfl)
          (try simp only [Act.put, List.setIfInBounds_toArray, List.set_cons_zero, List.set_cons_succ])
          refine wpAnyH_done (by kernel_rfl) ?_ _
          have hfin := hid (h9.bel)
          clear hcv9 hB9' HC8 HA h9
          go_wp2
          go_ret
          exact ⟨rfl, hfin.out⟩
        · have hk8 : ((K : Int) == 8) = false := by rw [beq_eq_false_iff_ne]; omega
          have hpq := hlv_room K (by omega)
          have Hk8 := hid hk8
          clear hk8 h8
          obtain ⟨N2, hN2⟩ : ∃ N2, N2 = ((hR0 K).prog 0 (K : Int) (pgL 9) 0).1 := ⟨_, rfl⟩
          go_wp2_with fail
          refine hrd.mono ?_
          rintro e w6 ⟨A6, c6, rfl, ho6, h6, hB6⟩
          obtain ⟨g6, cs6, rfl, hb6, hg6⟩ := own_blk ho6
          have hnx := next_b h6 0
          rw [Hnx.out] at hnx
          have hX6 := hid (ArrX.of h5.out hB6 hg6 hb6)
          clear h6 hB6 hrd h5
          go_wp2_with fail
          refine hnx.mono ?_
          rintro e w6 ⟨rfl, rfl⟩
          go_wp2_with fail
          refine (page_any 9 _ (by omega)).mono ?_
          rintro e w7 ⟨g7, rfl, hb7, hg7, hB7⟩
          have hpn := program_x (hX6.out.later hB7) 0 (K : Int) (some ⟨g7, 0, none⟩) 96 96 _ 0 (nums_lit hb7 (pgL_len _) (pgL_wf 9)) (by decide)
          rw [hpq, ← hN2] at hpn
          clear hb7 hg7 hB7 hnx hpq hN2
          go_wp2_with fail
          refine hpn.mono ?_
          rintro e w8 ⟨rfl, hX8⟩
          have hz8 := (own_reads (own_same ho6 hb6 hX8.blk) (pgL_wf 0)).2
          have HA := hid hX8.arrB
          have HC8 := hid (fun (W : World) (hW : Below w8.heap.size w8 W) => conv_str (c := c6) (hz8.below hW))
          have hBd : Below w8.heap.size w8 w8.drew := below_drewN (Below.refl _ _) 1
          have hse := str_eq_true (show pgL 0 = pgL 0 from rfl)
          have hk8 := Hk8.out
          clear hX8 ho6 hb6 hz8 hX6 hpn hg6 Hk8
          go_upto_region 16 with (fail)
          refine wp_region_held_drew (S := (fun w' => (convert 27 9 (.slice (some ⟨g6, 0, none⟩) 96 c6)).run Try.prog w' = .ok (.string (strOfNums (pgL 0))) w')) (by kernel_rfl) ?hSnewHbz (fun hHeld => ?restHbz)
          case hSnewHbz => ((try dsimp only); exact HC8.out _ hBd)
          refine wpAnyH_take (i := 0) (oi := ?oiHbt50x0) (v := ?vHbt50x0) ?hoHbt50x0 ?h1Hbt50x0 ?h2Hbt50x0 ?h3Hbt50x0 ?hqHbt50x0 (Or.inl ⟨?h4Hbt50x0, ?hyHbt50x0⟩) (by assumption) ?restHbt50x0
          case hoHbt50x0 => (simp only [List.getElem?_toArray, List.getElem?_cons_zero, List.getElem?_cons_succ]; rfl)
          case h1Hbt50x0 => kernel_rfl
          case h2Hbt50x0 => kernel_rfl
          case h3Hbt50x0 => kernel_rfl
          case h4Hbt50x0 => rfl
          case hqHbt50x0 => exact fun _ _ _ h => h
          case hyHbt50x0 => (intro w hSw; (try dsimp only at hSw); go_simp <;> with_reducible rfl)
          (try simp only [Act.put, List.setIfInBounds_toArray, List.set_cons_zero, List.set_cons_succ])
          refine wpAnyH_take (i := 1) (oi := ?oiHbt52x1) (v := ?vHbt52x1) ?hoHbt52x1 ?h1Hbt52x1 ?h2Hbt52x1 ?h3Hbt52x1 ?hqHbt52x1 (Or.inl ⟨?h4Hbt52x1, ?hyHbt52x1⟩) (by assumption) ?restHbt52x1
          case hoHbt52x1 => (simp only [List.getElem?_toArray, List.getElem?_cons_zero, List.getElem?_cons_succ]; rfl)
          case h1Hbt52x1 => kernel_rfl
          case h2Hbt52x1 => kernel_rfl
          case h3Hbt52x1 => kernel_rfl
          case h4Hbt52x1 => rfl
          case hqHbt52x1 => exact fun _ _ _ h => h
          case hyHbt52x1 => (intro w hSw; (try dsimp only at hSw); go_simp <;> with_reducible rfl)
          (try simp only [Act.put, List.setIfInBounds_toArray, List.set_cons_zero, List.set_cons_succ])
          refine wpAnyH_take (i := 2) (oi := ?oiHbt54x2) (v := ?vHbt54x2) ?hoHbt54x2 ?h1Hbt54x2 ?h2Hbt54x2 ?h3Hbt54x2 ?hqHbt54x2 (Or.inl ⟨?h4Hbt54x2, ?hyHbt54x2⟩) (by assumption) ?restHbt54x2
          case hoHbt54x2 => (simp only [List.getElem?_toArray, List.getElem?_cons_zero, List.getElem?_cons_succ]; rfl)
          case h1Hbt54x2 => kernel_rfl
          case h2Hbt54x2 => kernel_rfl
          case h3Hbt54x2 => kernel_rfl
          case h4Hbt54x2 => rfl
          case hqHbt54x2 => exact fun _ _ _ h => h
          case hyHbt54x2 => (intro w hSw; (try dsimp only at hSw); go_simp <;> with_reducible rfl)
          (try simp only [Act.put, List.setIfInBounds_toArray, List.set_cons_zero, List.set_cons_succ])
          refine wpAnyH_take (i := 3) (oi := ?oiHbt56x3) (v := ?vHbt56x3) ?hoHbt56x3 ?h1Hbt56x3 ?h2Hbt56x3 ?h3Hbt56x3 ?hqHbt56x3 (Or.inl ⟨?h4Hbt56x3, ?hyHbt56x3⟩) (by assumption) ?restHbt56x3
          case hoHbt56x3 => (simp only [List.getElem?_toArray, List.getElem?_cons_zero, List.getElem?_cons_succ]; rfl)
          case h1Hbt56x3 => kernel_rfl
          case h2Hbt56x3 => kernel_rfl
          case h3Hbt56x3 => kernel_rfl
          case h4Hbt56x3 => rfl
          case hqHbt56x3 => exact fun _ _ _ h => h
          case hyHbt56x3 => (intro w hSw; (try dsimp only at hSw); go_simp <;> with_reducible rfl)
          (try simp only [Act.put, List.setIfInBounds_toArray, List.set_cons_zero, List.set_cons_succ])
          refine wpAnyH_take (i := 4) (oi := ?oiHbt58x4) (v := ?vHbt58x4) ?hoHbt58x4 ?h1Hbt58x4 ?h2Hbt58x4 ?h3Hbt58x4 ?hqHbt58x4 (Or.inl ⟨?h4Hbt58x4, ?hyHbt58x4⟩) (by assumption) ?restHbt58x4
          case hoHbt58x4 => (simp only [List.getElem?_toArray, List.getElem?_cons_zero, List.getElem?_cons_succ]; rfl)
          case h1Hbt58x4 => kernel_rfl
          case h2Hbt58x4 => kernel_rfl
          case h3Hbt58x4 => kernel_rfl
          case h4Hbt58x4 => rfl
          case hqHbt58x4 => exact fun _ _ _ h => h
          case hyHbt58x4 => (intro w hSw; (try dsimp only at hSw); go_simp <;> with_reducible rfl)
          (try simp only [Act.put, List.setIfInBounds_toArray, List.set_cons_zero, List.set_cons_succ])
          refine wpAnyH_ready (rs := [5]) (by kernel_rfl) (by simp) ?_
          refine AllReadyH.cons (o := ?oiHbq59) ?hoHbq59 (fun K hK => ?restHbq59) ?moreHbq59
          case moreHbq59 => exact AllReadyH.nil
          case hoHbq59 => (simp only [List.getElem?_toArray, List.getElem?_cons_zero, List.getElem?_cons_succ]; rfl)
          go_simp
          refine (page_any 0 _ (by omega)).mono ?_
          rintro e w9 ⟨g9, rfl, hb9, hg9, hB9⟩
          have hB9' : Below w8.heap.size w8 w9 := hBd.trans hB9
          have hcv9 := conv_str (c := 96) (nums_lit hb9 (pgL_len 0) (pgL_wf 0))
          have h9 := HA.out.later hB9'
          try go_wp2_with fail
          refine hK.out _ _ ?hSnewHbhq59 (fun hHeld => ?restHbhq59)
          case hSnewHbhq59 => ((try dsimp only); exact HC8.out _ hB9')
          clear hK K
          (try simp only [Act.put, List.setIfInBounds_toArray, List.set_cons_zero, List.set_cons_succ])
          refine held_switch (fun w' => (convert 27 9 (.slice (some ⟨g6, 0, none⟩) 96 c6)).run Try.prog w' = .ok (.string (strOfNums (pgL 0))) w' ∧ (convert 27 9 (.slice (some ⟨g9, 0, none⟩) 96 96)).run Try.prog w' = .ok (.string (strOfNums (pgL 0))) w') (fun w h => h.1) ?hSnewHbsa60 (fun hHeld => ?restHbsa60)
          case hSnewHbsa60 => ((try dsimp only); exact ⟨HC8.out _ hB9', hcv9⟩)
          refine wpAnyH_take (i := 6) (oi := ?oiHbt62x6) (v := ?vHbt62x6) ?hoHbt62x6 ?h1Hbt62x6 ?h2Hbt62x6 ?h3Hbt62x6 ?hqHbt62x6 (Or.inl ⟨?h4Hbt62x6, ?hyHbt62x6⟩) (by assumption) ?restHbt62x6
          case hoHbt62x6 => (simp only [List.getElem?_toArray, List.getElem?_cons_zero, List.getElem?_cons_succ]; rfl)
          case h1Hbt62x6 => kernel_rfl
          case h2Hbt62x6 => kernel_rfl
          case h3Hbt62x6 => kernel_rfl
          case h4Hbt62x6 => rfl
          case hqHbt62x6 => exact fun _ _ _ h => h
          case hyHbt62x6 => (intro w hSw; (try dsimp only at hSw); go_simp <;> with_reducible rfl)
          (try simp only [Act.put, List.setIfInBounds_toArray, List.set_cons_zero, List.set_cons_succ])
          refine wpAnyH_take (i := 7) (oi := ?oiHbt64x7) (v := ?vHbt64x7) ?hoHbt64x7 ?h1Hbt64x7 ?h2Hbt64x7 ?h3Hbt64x7 ?hqHbt64x7 (Or.inl ⟨?h4Hbt64x7, ?hyHbt64x7⟩) (by assumption) ?restHbt64x7
          case hoHbt64x7 => (simp only [List.getElem?_toArray, List.getElem?_cons_zero, List.getElem?_cons_succ]; rfl)
          case h1Hbt64x7 => kernel_rfl
          case h2Hbt64x7 => kernel_rfl
          case h3Hbt64x7 => kernel_rfl
          case h4Hbt64x7 => rfl
          case hqHbt64x7 => exact fun _ _ _ h => h
          case hyHbt64x7 => (intro w hSw; (try dsimp only at hSw); go_simp <;> with_reducible rfl)
          (try simp only [Act.put, List.setIfInBounds_toArray, List.set_cons_zero, List.set_cons_succ])
          refine wpAnyH_take (i := 8) (oi := ?oiHbt66x8) (v := ?vHbt66x8) ?hoHbt66x8 ?h1Hbt66x8 ?h2Hbt66x8 ?h3Hbt66x8 ?hqHbt66x8 (Or.inl ⟨?h4Hbt66x8, ?hyHbt66x8⟩) (by assumption) ?restHbt66x8
          case hoHbt66x8 => (simp only [List.getElem?_toArray, List.getElem?_cons_zero, List.getElem?_cons_succ]; rfl)
          case h1Hbt66x8 => kernel_rfl
          case h2Hbt66x8 => kernel_rfl
          case h3Hbt66x8 => kernel_rfl
          case h4Hbt66x8 => rfl
          case hqHbt66x8 => exact fun _ _ _ h => h
          case hyHbt66x8 => (intro w hSw; (try dsimp only at hSw); go_simp <;> with_reducible rfl)
          (try simp only [Act.put, List.setIfInBounds_toArray, List.set_cons_zero, List.set_cons_succ])
          refine wpAnyH_take (i := 9) (oi := ?oiHbt68x9) (v := ?vHbt68x9) ?hoHbt68x9 ?h1Hbt68x9 ?h2Hbt68x9 ?h3Hbt68x9 ?hqHbt68x9 (Or.inl ⟨?h4Hbt68x9, ?hyHbt68x9⟩) (by assumption) ?restHbt68x9
          case hoHbt68x9 => (simp only [List.getElem?_toArray, List.getElem?_cons_zero, List.getElem?_cons_succ]; rfl)
          case h1Hbt68x9 => kernel_rfl
          case h2Hbt68x9 => kernel_rfl
          case h3Hbt68x9 => kernel_rfl
          case h4Hbt68x9 => rfl
          case hqHbt68x9 => exact fun _ _ _ h => h
          case hyHbt68x9 => (intro w hSw; (try dsimp only at hSw); go_simp <;> with_reducible rfl)
          (try simp only [Act.put, List.setIfInBounds_toArray, List.set_cons_zero, List.set_cons_succ])
          refine wpAnyH_take (i := 10) (oi := ?oiHbt70x10) (v := ?vHbt70x10) ?hoHbt70x10 ?h1Hbt70x10 ?h2Hbt70x10 ?h3Hbt70x10 ?hqHbt70x10 (Or.inl ⟨?h4Hbt70x10, ?hyHbt70x10⟩) (by assumption) ?restHbt70x10
          case hoHbt70x10 => (simp only [List.getElem?_toArray, List.getElem?_cons_zero, List.getElem?_cons_succ]; rfl)
          case h1Hbt70x10 => kernel_rfl
          case h2Hbt70x10 => kernel_rfl
          case h3Hbt70x10 => kernel_rfl
          case h4Hbt70x10 => rfl
          case hqHbt70x10 => exact fun _ _ _ h => h
          case hyHbt70x10 => (intro w hSw; (try dsimp only at hSw); go_simp <;> with_reducible rfl)
          (try simp only [Act.put, List.setIfInBounds_toArray, List.set_cons_zero, List.set_cons_succ])
          refine wpAnyH_take (i := 11) (oi := ?oiHbt72x11) (v := ?vHbt72x11) ?hoHbt72x11 ?h1Hbt72x11 ?h2Hbt72x11 ?h3Hbt72x11 ?hqHbt72x11 (Or.inl ⟨?h4Hbt72x11, ?hyHbt72x11⟩) (by assumption) ?restHbt72x11
          case hoHbt72x11 => (simp only [List.getElem?_toArray, List.getElem?_cons_zero, List.getElem?_cons_succ]; rfl)
          case h1Hbt72x11 => kernel_rfl
          case h2Hbt72x11 => kernel_rfl
          case h3Hbt72x11 => kernel_rfl
          case h4Hbt72x11 => rfl
          case hqHbt72x11 => exact fun _ _ _ h => h
          case hyHbt72x11 => (intro w hSw; (try dsimp only at hSw); go_simp <;> with_reducible rfl)
          (try simp only [Act.put, List.setIfInBounds_toArray, List.set_cons_zero, List.set_cons_succ])
          refine wpAnyH_take (i := 12) (oi := ?oiHbt74x12) (v := ?vHbt74x12) ?hoHbt74x12 ?h1Hbt74x12 ?h2Hbt74x12 ?h3Hbt74x12 ?hqHbt74x12 (Or.inl ⟨?h4Hbt74x12, ?hyHbt74x12⟩) (by assumption) ?restHbt74x12
          case hoHbt74x12 => (simp only [List.getElem?_toArray, List.getElem?_cons_zero, List.getElem?_cons_succ]; rfl)
          case h1Hbt74x12 => kernel_rfl
          case h2Hbt74x12 => kernel_rfl
          case h3Hbt74x12 => kernel_rfl
          case h4Hbt74x12 => rfl
          case hqHbt74x12 => exact fun _ _ _ h => h
          case hyHbt74x12 => (intro w hSw; (try dsimp only at hSw); go_simp <;> with_reducible rfl)
          (try simp only [Act.put, List.setIfInBounds_toArray, List.set_cons_zero, List.set_cons_succ])
          refine wpAnyH_take (i := 13) (oi := ?oiHbt76x13) (v := ?vHbt76x13) ?hoHbt76x13 ?h1Hbt76x13 ?h2Hbt76x13 ?h3Hbt76x13 ?hqHbt76x13 (Or.inl ⟨?h4Hbt76x13, ?hyHbt76x13⟩) (by assumption) ?restHbt76x13
          case hoHbt76x13 => (simp only [List.getElem?_toArray, List.getElem?_cons_zero, List.getElem?_cons_succ]; rfl)
          case h1Hbt76x13 => kernel_rfl
          case h2Hbt76x13 => kernel_rfl
          case h3Hbt76x13 => kernel_rfl
          case h4Hbt76x13 => rfl
          case hqHbt76x13 => exact fun _ _ _ h => h
          case hyHbt76x13 => (intro w hSw; (try dsimp only at hSw); go_simp <;> with_reducible rfl)
          (try simp only [Act.put, List.setIfInBounds_toArray, List.set_cons_zero, List.set_cons_succ])
          refine wpAnyH_take (i := 14) (oi := ?oiHbt78x14) (v := ?vHbt78x14) ?hoHbt78x14 ?h1Hbt78x14 ?h2Hbt78x14 ?h3Hbt78x14 ?hqHbt78x14 (Or.inl ⟨?h4Hbt78x14, ?hyHbt78x14⟩) (by assumption) ?restHbt78x14
          case hoHbt78x14 => (simp only [List.getElem?_toArray, List.getElem?_cons_zero, List.getElem?_cons_succ]; rfl)
          case h1Hbt78x14 => kernel_rfl
          case h2Hbt78x14 => kernel_rfl
          case h3Hbt78x14 => kernel_rfl
          case h4Hbt78x14 => rfl
          case hqHbt78x14 => exact fun _ _ _ h => h
          case hyHbt78x14 => (intro w hSw; (try dsimp only at hSw); go_simp <;> with_reducible rfl)
          (try simp only [Act.put, List.setIfInBounds_toArray, List.set_cons_zero, List.set_cons_succ])
          refine wpAnyH_take (i := 15) (oi := ?oiHbt80x15) (v := ?vHbt80x15) ?hoHbt80x15 ?h1Hbt80x15 ?h2Hbt80x15 ?h3Hbt80x15 ?hqHbt80x15 (Or.inl ⟨?h4Hbt80x15, ?hyHbt80x15⟩) (by assumption) ?restHbt80x15
          case hoHbt80x15 => (simp only [List.getElem?_toArray, List.getElem?_cons_zero, List.getElem?_cons_succ]; rfl)
          case h1Hbt80x15 => kernel_rfl
          case h2Hbt80x15 => kernel_rfl
          case h3Hbt80x15 => kernel_rfl
          case h4Hbt80x15 => rfl
          case hqHbt80x15 => exact fun _ _ _ h => h
          case hyHbt80x15 => (intro w hSw; (try dsimp only at hSw); go_simp <;> with_reducible rfl)
          (try simp only [Act.put, List.setIfInBounds_toArray, List.set_cons_zero, List.set_cons_succ])
          refine wpAnyH_take (i := 16) (oi := ?oiHbt82x16) (v := ?vHbt82x16) ?hoHbt82x16 ?h1Hbt82x16 ?h2Hbt82x16 ?h3Hbt82x16 ?hqHbt82x16 (Or.inl ⟨?h4Hbt82x16, ?hyHbt82x16⟩) (by assumption) ?restHbt82x16
          case hoHbt82x16 => (simp only [List.getElem?_toArray, List.getElem?_cons_zero, List.getElem?_cons_succ]; rfl)
          case h1Hbt82x16 => kernel_rfl
          case h2Hbt82x16 => kernel_rfl
          case h3Hbt82x16 => kernel_rfl
          case h4Hbt82x16 => rfl
          case hqHbt82x16 => exact fun _ _ _ h => h
          case hyHbt82x16 => (intro w hSw; (try dsimp only at hSw); go_simp <;> with_reducible rfl)
          (try simp only [Act.put, List.setIfInBounds_toArray, List.set_cons_zero, List.set_cons_succ])
          refine wpAnyH_take (i := 17) (oi := ?oiHbt84x17) (v := ?vHbt84x17) ?hoHbt84x17 ?h1Hbt84x17 ?h2Hbt84x17 ?h3Hbt84x17 ?hqHbt84x17 (Or.inl ⟨?h4Hbt84x17, ?hyHbt84x17⟩) (by assumption) ?restHbt84x17
          case hoHbt84x17 => (simp only [List.getElem?_toArray, List.getElem?_cons_zero, List.getElem?_cons_succ]; rfl)
          case h1Hbt84x17 => kernel_rfl
          case h2Hbt84x17 => kernel_rfl
          case h3Hbt84x17 => kernel_rfl
          case h4Hbt84x17 => rfl
          case hqHbt84x17 => exact fun _ _ _ h => h
          case hyHbt84x17 => (intro w hSw; (try dsimp only at hSw); go_simp <;> with_reducible rfl)
          (try simp only [Act.put, List.setIfInBounds_toArray, List.set_cons_zero, List.set_cons_succ])
          refine wpAnyH_take (i := 18) (oi := ?oiHbt86x18) (v := ?vHbt86x18) ?hoHbt86x18 ?h1Hbt86x18 ?h2Hbt86x18 ?h3Hbt86x18 ?hqHbt86x18 (Or.inl ⟨?h4Hbt86x18, ?hyHbt86x18⟩) (by assumption) ?restHbt86x18
          case hoHbt86x18 => (simp only [List.getElem?_toArray, List.getElem?_cons_zero, List.getElem?_cons_succ]; rfl)
          case h1Hbt86x18 => kernel_rfl
          case h2Hbt86x18 => kernel_rfl
          case h3Hbt86x18 => kernel_rfl
          case h4Hbt86x18 => rfl
          case hqHbt86x18 => exact fun _ _ _ h => h
          case hyHbt86x18 => (intro w hSw; (try dsimp only at hSw); go_simp <;> with_reducible rfl)
          (try simp only [Act.put, List.setIfInBounds_toArray, List.set_cons_zero, List.set_cons_succ])
          refine wpAnyH_take (i := 19) (oi := ?oiHbt88x19) (v := ?vHbt88x19) ?hoHbt88x19 ?h1Hbt88x19 ?h2Hbt88x19 ?h3Hbt88x19 ?hqHbt88x19 (Or.inl ⟨?h4Hbt88x19, ?hyHbt88x19⟩) (by assumption) ?restHbt88x19
          case hoHbt88x19 => (simp only [List.getElem?_toArray, List.getElem?_cons_zero, List.getElem?_cons_succ]; rfl)
          case h1Hbt88x19 => kernel_rfl
          case h2Hbt88x19 => kernel_rfl
          case h3Hbt88x19 => kernel_rfl
          case h4Hbt88x19 => rfl
          case hqHbt88x19 => exact fun _ _ _ h => h
          case hyHbt88x19 => (intro w hSw; (try dsimp only at hSw); go_simp <;> with_reducible rfl)
          (try simp only [Act.put, List.setIfInBounds_toArray, List.set_cons_zero, List.set_cons_succ])
          refine wpAnyH_take (i := 20) (oi := ?oiHbt90x20) (v := ?vHbt90x20) ?hoHbt90x20 ?h1Hbt90x20 ?h2Hbt90x20 ?h3Hbt90x20 ?hqHbt90x20 (Or.inl ⟨?h4Hbt90x20, ?hyHbt90x20⟩) (by assumption) ?restHbt90x20
          case hoHbt90x20 => (simp only [List.getElem?_toArray, List.getElem?_cons_zero, List.getElem?_cons_succ]; rfl)
          case h1Hbt90x20 => kernel_rfl
          case h2Hbt90x20 => kernel_rfl
          case h3Hbt90x20 => kernel_rfl
          case h4Hbt90x20 => rfl
          case hqHbt90x20 => exact fun _ _ _ h => h
          case hyHbt90x20 => (intro w hSw; (try dsimp only at hSw); go_simp <;> with_reducible rfl)
          (try simp only [Act.put, List.setIfInBounds_toArray, List.set_cons_zero, List.set_cons_succ])
          refine wpAnyH_take (i := 21) (oi := ?oiHbt92x21) (v := ?vHbt92x21) ?hoHbt92x21 ?h1Hbt92x21 ?h2Hbt92x21 ?h3Hbt92x21 ?hqHbt92x21 (Or.inl ⟨?h4Hbt92x21, ?hyHbt92x21⟩) (by assumption) ?restHbt92x21
          case hoHbt92x21 => (simp only [List.getElem?_toArray, List.getElem?_cons_zero, List.getElem?_cons_succ]; rfl)
          case h1Hbt92x21 => kernel_rfl
          case h2Hbt92x21 => kernel_rfl
          case h3Hbt92x21 => kernel_rfl
          case h4Hbt92x21 => rfl
          case hqHbt92x21 => exact fun _ _ _ h => h
          case hyHbt92x21 => (intro w hSw; (try dsimp only at hSw); go_simp <;> with_reducible rfl)
          (try simp only [Act.put, List.setIfInBounds_toArray, List.set_cons_zero, List.set_cons_succ])
          refine wpAnyH_take (i := 22) (oi := ?oiHbt94x22) (v := ?vHbt94x22) ?hoHbt94x22 ?h1Hbt94x22 ?h2Hbt94x22 ?h3Hbt94x22 ?hqHbt94x22 (Or.inl ⟨?h4Hbt94x22, ?hyHbt94x22⟩) (by assumption) ?restHbt94x22
          case hoHbt94x22 => (simp only [List.getElem?_toArray, List.getElem?_cons_zero, List.getElem?_cons_succ]; rfl)
          case h1Hbt94x22 => kernel_rfl
          case h2Hbt94x22 => kernel_rfl
          case h3Hbt94x22 => kernel_rfl
          case h4Hbt94x22 => rfl
          case hqHbt94x22 => exact fun _ _ _ h => h
          case hyHbt94x22 => (intro w hSw; (try dsimp only at hSw); go_simp <;> with_reducible rfl)
          (try simp only [Act.put, List.setIfInBounds_toArray, List.set_cons_zero, List.set_cons_succ])
          refine wpAnyH_take (i := 23) (oi := ?oiHbt96x23) (v := ?vHbt96x23) ?hoHbt96x23 ?h1Hbt96x23 ?h2Hbt96x23 ?h3Hbt96x23 ?hqHbt96x23 (Or.inl ⟨?h4Hbt96x23, ?hyHbt96x23⟩) (by assumption) ?restHbt96x23
          case hoHbt96x23 => (simp only [List.getElem?_toArray, List.getElem?_cons_zero, List.getElem?_cons_succ]; rfl)
          case h1Hbt96x23 => kernel_rfl
          case h2Hbt96x23 => kernel_rfl
          case h3Hbt96x23 => kernel_rfl
          case h4Hbt96x23 => rfl
          case hqHbt96x23 => exact fun _ _ _ h => h
          case hyHbt96x23 => (intro w hSw; (try dsimp only at hSw); go_simp <;> with_reducible rfl)
          (try simp only [Act.put, List.setIfInBounds_toArray, List.set_cons_zero, List.set_cons_succ])
          refine wpAnyH_take (i := 24) (oi := ?oiHbt98x24) (v := ?vHbt98x24) ?hoHbt98x24 ?h1Hbt98x24 ?h2Hbt98x24 ?h3Hbt98x24 ?hqHbt98x24 (Or.inl ⟨?h4Hbt98x24, ?hyHbt98x24⟩) (by assumption) ?restHbt98x24
          case hoHbt98x24 => (simp only [List.getElem?_toArray, List.getElem?_cons_zero, List.getElem?_cons_succ]; rfl)
          case h1Hbt98x24 => kernel_rfl
          case h2Hbt98x24 => kernel_rfl
          case h3Hbt98x24 => kernel_rfl
          case h4Hbt98x24 => rfl
          case hqHbt98x24 => exact fun _ _ _ h => h
          case hyHbt98x24 => (intro w hSw; (try dsimp only at hSw); go_simp <;> with_reducible rfl)
          (try simp only [Act.put, List.setIfInBounds_toArray, List.set_cons_zero, List.set_cons_succ])
          refine wpAnyH_done (by kernel_rfl) ?_ _
          have hfin := hid (h9.bel)
          clear hcv9 hB9' HC8 HA h9
          go_wp2
          go_ret
          exact ⟨rfl, hfin.out⟩
      · by_cases hc2 : 96 ≤ cut
        · have hrs := restart_b h4.out cut
          rw [hlv_re2 K cut hc2] at hrs
          clear h4
          go_wp2_with fail
          refine hrs.mono ?_
          rintro e w5 ⟨rfl, h5⟩
          replace h5 := hid h5
          clear hrs
          have hrd := read_no_b h5.out 0 0 (by rw [hlv_rd2]; decide)
          rw [hlv_rd2] at hrd
          have Hnx := hid (show (if (hR2 K).inI 0 then (((hR2 K).blk (0 : Int).toNat).pages.length : Int) else 0) = 0 from rfl)
          go_wp2_with fail
          refine hrd.mono ?_
          rintro e w6 ⟨rfl, rfl⟩
          have hnx := next_b h5.out 0
          rw [Hnx.out] at hnx
          go_wp2_with fail
          refine hnx.mono ?_
          rintro e w6 ⟨rfl, rfl⟩
          go_wp2_with fail
          refine (page_b h5.out 9 (by omega)).mono ?_
          rintro e w7 ⟨g7, rfl, hz7, h7, -, -, -⟩
          have hpn := program_b h7 0 0 _ 96 96 _ 0 hz7 (by decide)
          rw [hlv_two] at hpn
          clear h7 hz7 hnx h5
          go_wp2_with fail
          refine hpn.mono ?_
          rintro e w8 ⟨rfl, h8⟩
          have hnx := next_b h8 0
          rw [show (if (hR2b K).inI 0 then (((hR2b K).blk (0 : Int).toNat).pages.length : Int) else 0) = 1 from rfl] at hnx
          have her := erases_b h8 0
          rw [show (if (hR2b K).inI 0 then ((hR2b K).blk (0 : Int).toNat).erases else 0) = 1 from rfl] at her
          have hf8 := hid h8.bel
          clear h8 hpn
          go_wp2_with fail
          refine hnx.mono ?_
          rintro e w8 ⟨rfl, rfl⟩
          go_wp2_with fail
          refine her.mono ?_
          rintro e w8 ⟨rfl, rfl⟩
          go_wp2
          go_ret
          exact ⟨rfl, hf8.out⟩
        · have hrs := restart_b h4.out cut
          rw [hlv_re1 K cut hc hc2 (by omega)] at hrs
          clear h4
          go_wp2_with fail
          refine hrs.mono ?_
          rintro e w5 ⟨rfl, h5⟩
          replace h5 := hid h5
          clear hrs
          have hrd := read_no_b h5.out 0 0 (by rw [hlv_rd1 K (by omega)]; decide)
          rw [hlv_rd1 K (by omega)] at hrd
          have Hnx := hid (hlv_nx1 K)
          by_cases h8 : K = 8
          · have hpq := hlv_half8 K h8
            clear h8
            go_wp2_with fail
            refine hrd.mono ?_
            rintro e w6 ⟨rfl, rfl⟩
            have hnx := next_b h5.out 0
            rw [Hnx.out] at hnx
            go_wp2_with fail
            refine hnx.mono ?_
            rintro e w6 ⟨rfl, rfl⟩
            go_wp2_with fail
            refine (page_b h5.out 9 (by omega)).mono ?_
            rintro e w7 ⟨g7, rfl, hz7, h7, -, -, -⟩
            have hpn := program_b h7 0 (K : Int) _ 96 96 _ 0 hz7 (by decide)
            rw [hpq] at hpn
            clear h7 hz7 hnx h5 hpq
            go_wp2_with fail
            refine hpn.mono ?_
            rintro e w8 ⟨rfl, h8⟩
            replace h8 : ArrB w w8 b (hR1 K) := h8
            have hnx := next_b h8 0
            rw [Hnx.out] at hnx
            have her := erase_b h8 0 0
            rw [hlv_er] at her
            clear h8 hpn
            go_wp2_with fail
            refine hnx.mono ?_
            rintro e w8 ⟨rfl, rfl⟩
            go_wp2_with fail
            refine her.mono ?_
            rintro e w9 ⟨rfl, h9⟩
            replace h9 := hid h9
            clear her hnx
            go_wp2_with fail
            refine (page_b h9.out 9 (by omega)).mono ?_
            rintro e w10 ⟨g10, rfl, hz10, h10, -, -, -⟩
            have hpn := program_b h10 0 0 _ 96 96 _ 0 hz10 (by decide)
            rw [hlv_last] at hpn
            clear h10 hz10 h9
            go_wp2_with fail
            refine hpn.mono ?_
            rintro e w11 ⟨rfl, h11⟩
            have her := erases_b h11 0
            rw [show (if (hR1c K).inI 0 then ((hR1c K).blk (0 : Int).toNat).erases else 0) = 1 from rfl] at her
            have hf8 := hid h11.bel
            clear h11 hpn
            go_wp2_with fail
            refine her.mono ?_
            rintro e w11 ⟨rfl, rfl⟩
            go_wp2
            go_ret
            exact ⟨rfl, hf8.out⟩
          · have hpq := hlv_half K (by omega)
            clear h8
            go_wp2_with fail
            refine hrd.mono ?_
            rintro e w6 ⟨rfl, rfl⟩
            have hnx := next_b h5.out 0
            rw [Hnx.out] at hnx
            go_wp2_with fail
            refine hnx.mono ?_
            rintro e w6 ⟨rfl, rfl⟩
            go_wp2_with fail
            refine (page_b h5.out 9 (by omega)).mono ?_
            rintro e w7 ⟨g7, rfl, hz7, h7, -, -, -⟩
            have hpn := program_b h7 0 (K : Int) _ 96 96 _ 0 hz7 (by decide)
            rw [hpq] at hpn
            clear h7 hz7 hnx h5 hpq
            go_wp2_with fail
            refine hpn.mono ?_
            rintro e w8 ⟨rfl, h8⟩
            replace h8 : ArrB w w8 b (hR1 K) := h8
            have hnx := next_b h8 0
            rw [Hnx.out] at hnx
            have her := erase_b h8 0 0
            rw [hlv_er] at her
            clear h8 hpn
            go_wp2_with fail
            refine hnx.mono ?_
            rintro e w8 ⟨rfl, rfl⟩
            go_wp2_with fail
            refine her.mono ?_
            rintro e w9 ⟨rfl, h9⟩
            replace h9 := hid h9
            clear her hnx
            go_wp2_with fail
            refine (page_b h9.out 9 (by omega)).mono ?_
            rintro e w10 ⟨g10, rfl, hz10, h10, -, -, -⟩
            have hpn := program_b h10 0 0 _ 96 96 _ 0 hz10 (by decide)
            rw [hlv_last] at hpn
            clear h10 hz10 h9
            go_wp2_with fail
            refine hpn.mono ?_
            rintro e w11 ⟨rfl, h11⟩
            have her := erases_b h11 0
            rw [show (if (hR1c K).inI 0 then ((hR1c K).blk (0 : Int).toNat).erases else 0) = 1 from rfl] at her
            have hf8 := hid h11.bel
            clear h11 hpn
            go_wp2_with fail
            refine her.mono ?_
            rintro e w11 ⟨rfl, rfl⟩
            go_wp2
            go_ret
            exact ⟨rfl, hf8.out⟩
end Go.Proofs.Ytineicehipgnjaa.Nand
