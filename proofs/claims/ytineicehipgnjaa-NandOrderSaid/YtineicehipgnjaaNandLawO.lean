import Derived.Test.YtineicehipgnjaaNandAwake
import Derived.Test.YtineicehipgnjaaNandCalm
set_option linter.unusedVariables false
set_option linter.unusedSimpArgs false
namespace Go.Proofs.Ytineicehipgnjaa.Nand
open Go.RowKit Go.Proofs.Ytineicehipgnjaa.Kit

/-- One block, so many pages programmed, so often erased. -/
structure Ord (N : NA) (k er : Nat) : Prop where
  nb : N.bs.length = 1
  np : N.pages = 8
  fe : N.fence = 0
  ar : N.armed = 0
  of : N.off = false
  len : (N.blk 0).pages.length = k
  half : (N.blk 0).half = false
  dead : (N.blk 0).dead = false
  doom : (N.blk 0).doom = 0
  er : (N.blk 0).erases = (er : Int)
theorem ord_new : Ord (newA 1 8 []) 0 0 := by
  constructor <;> decide
theorem ord_erase {N : NA} {k er : Nat} (h : Ord N k er) (he : er ≤ 1000) : (N.erase 0 0).2 = 0 ∧ Ord (N.erase 0 0).1 0 (er + 1) := by
  have hi : 0 < N.bs.length := by rw [h.nb]; omega
  have e := erase_calm 0 0 hi h.ar h.of h.doom h.dead (by rw [h.fe]; omega)
  rw [show ((0 : Nat) : Int) = 0 from rfl] at e
  rw [e]
  have hi2 : 0 < N.opd.bs.length := hi
  have eb : (N.opd.setB 0 (N.blk 0).clean).blk 0 = (N.blk 0).clean := by rw [blk_set _ _ _ hi2, if_pos rfl]
  refine ⟨rfl, by rw [len_set]; exact h.nb, h.np, h.fe, h.ar, h.of, by rw [eb]; rfl, by rw [eb]; rfl, by rw [eb]; exact h.dead, by rw [eb]; exact h.doom, ?_⟩
  rw [eb]
  show wrap64 ((N.blk 0).erases + 1) = _
  rw [h.er, IntWalk.wrap64_in _ (by omega)]
  omega
theorem ord_prog {N : NA} {k er : Nat} (h : Ord N k er) (p : Nat) (q : List Int) (hq : q.length = 96) (hk : k ≤ 8) : (8 ≤ p → N.prog 0 (p : Int) q 0 = (N, 1)) ∧ (p < 8 → p ≠ k → N.prog 0 (p : Int) q 0 = (N, 6)) ∧ (p < 8 → p = k → (N.prog 0 (p : Int) q 0).2 = 0 ∧ Ord (N.prog 0 (p : Int) q 0).1 (k + 1) er) := by
  have hi : 0 < N.bs.length := by rw [h.nb]; omega
  have ha : N.atE 0 = 0 := atE_in 0 hi h.of
  refine ⟨fun hp => ?_, fun hp hpk => ?_, fun hp hpk => ?_⟩
  · have e : N.progE 0 (p : Int) q.length 0 = 1 := by
      unfold NA.progE
      rw [if_neg (by rw [ha]; simp), if_pos (by rw [h.np]; omega)]
    rw [prog_err _ _ _ _ (by rw [e]; decide), e]
  · have e : N.progE 0 (p : Int) q.length 0 = 6 := by
      unfold NA.progE
      rw [if_neg (by rw [ha]; simp), if_neg (by rw [h.np]; omega), if_neg (by rw [hq]; simp), if_pos (by left; rw [show (0 : Int).toNat = 0 from rfl, h.len]; omega)]
    rw [prog_err _ _ _ _ (by rw [e]; decide), e]
  · have e := prog_calm 0 p q 0 hi h.ar h.of h.doom h.dead (by rw [h.len]; exact hpk) (by rw [h.np]; omega) hq h.half (by rw [h.fe]; omega)
    rw [show ((0 : Nat) : Int) = 0 from rfl] at e
    rw [e]
    have hi2 : 0 < N.opd.bs.length := hi
    have eb : (N.opd.setB 0 ((N.blk 0).add q)).blk 0 = (N.blk 0).add q := by rw [blk_set _ _ _ hi2, if_pos rfl]
    refine ⟨rfl, by rw [len_set]; exact h.nb, h.np, h.fe, h.ar, h.of, ?_, by rw [eb]; exact h.half, by rw [eb]; exact h.dead, by rw [eb]; exact h.doom, by rw [eb]; exact h.er⟩
    rw [eb]
    show ((N.blk 0).pages ++ [q]).length = _
    rw [List.length_append, h.len]
    rfl
theorem ord_next {N : NA} {k er : Nat} (h : Ord N k er) : (if N.inI 0 then ((N.blk (0 : Int).toNat).pages.length : Int) else 0) = (k : Int) ∧ (if N.inI 0 then (N.blk (0 : Int).toNat).erases else 0) = (er : Int) := by
  have : N.inI 0 = true := N.inI_nat 0 (by rw [h.nb]; omega)
  rw [if_pos this, if_pos this]
  exact ⟨by rw [show (0 : Int).toNat = 0 from rfl, h.len], h.er⟩

set_option maxRecDepth 100000 in
set_option maxHeartbeats 8000000 in
theorem law_order (A : Option Addr) (n c : Nat) (xs : List Int) (w : World) (hz : Nums w .u8 A n xs) :
    Calls Try.prog 4 #[.slice A n c] w fun e w' => e = .returned (.bool true) ∧ Below w.heap.size w w' := by
  have hn := hz.most
  have Hz := hid hz
  clear hz
  go_enter Try.func4, Try.ntmps4
  go_wp2_with fail
  refine (awake_any w).mono ?_
  rintro e w1 ⟨rfl, hB1⟩
  go_wp2_with fail
  refine (new_b w 1 8 none 0 0 [] w1 hB1 (by omega) (by omega) (Nums.none _ _ _) (by simp)).mono ?_
  rintro e w2 ⟨b, rfl, h2⟩
  replace h2 := hid h2
  clear hB1
  go_wp2
  go_loopw [5, 6, 7] (fun k er i w' => ∃ (kn en j : Nat) (N : NA), j ≤ n ∧ j ≤ 80 ∧ kn ≤ 8 ∧ en ≤ j ∧ k = .int .i64 (kn : Int) ∧ er = .int .i64 (en : Int) ∧ i = .int .i64 (j : Int) ∧ ArrB w w' b N ∧ Ord N kn en) (fun _ _ i _ => 80 - (intOf i).toNat)
  case atStart => exact ⟨0, 0, 0, _, by omega, by omega, by omega, by omega, rfl, rfl, rfl, h2.out, ord_new⟩
  case round =>
    clear h2
    obtain ⟨kn, en, j, N, hj, hj80, hkn, hen, rfl, rfl, rfl, hA, hO⟩ := hrel
    by_cases hlt : j < n
    · by_cases hlt80 : j < 80
      · obtain ⟨bz, oz, rfl, hcz⟩ := (Hz.out.below hA.bel).at_ j hlt
        obtain ⟨hx0, hx1⟩ := wf_u8 ((Hz.out.below hA.bel).wf_at j hlt)
        generalize xs.getD j 0 = x at *
        obtain ⟨x, rfl⟩ := Int.eq_ofNat_of_zero_le hx0
        obtain ⟨m, hm⟩ : ∃ m, m = x % 16 := ⟨_, rfl⟩
        obtain ⟨p, hp⟩ : ∃ p, p = x % 10 := ⟨_, rfl⟩
        have q1 : (x : Int).tmod 16 = (m : Int) := by rw [Int.tmod_eq_emod_of_nonneg (by omega)]; omega
        have q2 : (x : Int).tmod 10 = (p : Int) := by rw [Int.tmod_eq_emod_of_nonneg (by omega)]; omega
        have q3 : (x : Int) % 16 = (m : Int) := by omega
        have q4 : (x : Int) % 10 = (p : Int) := by omega
        have hp10 : p < 10 := by omega
        have hm16 : m < 16 := by omega
        clear hm hp
        by_cases hm15 : m = 15
        · subst hm15
          obtain ⟨e1, e2⟩ := ord_erase hO (by omega)
          have her := erase_b hA 0 0
          rw [e1] at her
          clear hA e1 hO
          go_wp2_with fail
          refine her.mono ?_
          rintro e w5 ⟨rfl, h5⟩
          clear her
          have h5 := hid h5
          have e2 := hid e2
          go_wp2
          go_roundw
          case rel => exact ⟨0, en + 1, j + 1, _, by omega, by omega, by omega, by omega, rfl, by go_num, by go_num, h5.out, e2.out⟩
          case measure => simp [intOf]; omega
        · have hm15' : (m : Int) ≠ 15 := by omega
          have hm15b : ((m : Int) == 15) = false := by rw [beq_eq_false_iff_ne]; exact hm15'
          obtain ⟨o1, o2, o3⟩ := ord_prog hO p (pgL (x : Int)) (pgL_len _) hkn
          have hO := hid hO
          have o1 := hid o1
          have o2 := hid o2
          have o3 := hid o3
          have hA := hid hA
          have hpI : (p : Int) < 10 := by omega
          clear hm15
          go_wp2_with fail
          refine (page_b hA.out (x : Int) (by omega)).mono ?_
          rintro e w3 ⟨g3, rfl, hz3, h3, -, -, -⟩
          clear hcz
          by_cases hp8 : 8 ≤ p
          · have hp8' : (8 : Int) ≤ (p : Int) := by omega
            have hpr := program_b h3 0 (p : Int) _ 96 96 _ 0 hz3 (by decide)
            have hO5 : Ord (N.prog 0 (p : Int) (pgL (x : Int)) 0).1 (kn) en := by rw [o1.out hp8]; exact hO.out
            have hres : (N.prog 0 (p : Int) (pgL (x : Int)) 0).2 = 1 := by rw [o1.out hp8]
            rw [hres] at hpr
            clear hres h3 hz3
            go_wp2_with fail
            refine hpr.mono ?_
            rintro e w5 ⟨rfl, h5⟩
            clear hpr
            have hnx := next_b h5 0
            have hex := erases_b h5 0
            rw [(ord_next hO5).1] at hnx
            rw [(ord_next hO5).2] at hex
            have hB5 := hid h5
            have hO5 := hid hO5
            clear h5
            go_wp2_with fail
            refine hnx.mono ?_
            rintro e w5 ⟨rfl, rfl⟩
            clear hnx
            go_wp2_with fail
            refine hex.mono ?_
            rintro e w5 ⟨rfl, rfl⟩
            clear hex
            go_wp2
            go_roundw
            case rel => exact ⟨kn, en, j + 1, _, by omega, by omega, by omega, by omega, by first | rfl | go_num, rfl, by go_num, hB5.out, hO5.out⟩
            case measure => simp [intOf]; omega
          · have hp8' : ¬ (8 : Int) ≤ (p : Int) := by omega
            by_cases hpk : p = kn
            · have hpk' : (p : Int) = (kn : Int) := by omega
              have hpkb : ((p : Int) != (kn : Int)) = false := by rw [bne_eq_false_iff_eq]; omega
              have hk8 : kn + 1 ≤ 8 := by omega
              have hpr := program_b h3 0 (p : Int) _ 96 96 _ 0 hz3 (by decide)
              have hO5 : Ord (N.prog 0 (p : Int) (pgL (x : Int)) 0).1 (kn + 1) en := (o3.out (by omega) hpk).2
              have hres : (N.prog 0 (p : Int) (pgL (x : Int)) 0).2 = 0 := (o3.out (by omega) hpk).1
              rw [hres] at hpr
              clear hres h3 hz3 hpk hpk'
              go_wp2_with fail
              refine hpr.mono ?_
              rintro e w5 ⟨rfl, h5⟩
              clear hpr
              have hnx := next_b h5 0
              have hex := erases_b h5 0
              rw [(ord_next hO5).1] at hnx
              rw [(ord_next hO5).2] at hex
              have hB5 := hid h5
              have hO5 := hid hO5
              clear h5
              go_wp2_with fail
              refine hnx.mono ?_
              rintro e w5 ⟨rfl, rfl⟩
              clear hnx
              go_wp2_with fail
              refine hex.mono ?_
              rintro e w5 ⟨rfl, rfl⟩
              clear hex
              go_wp2
              go_roundw
              case rel => exact ⟨kn + 1, en, j + 1, _, by omega, by omega, by omega, by omega, by first | rfl | go_num, rfl, by go_num, hB5.out, hO5.out⟩
              case measure => simp [intOf]; omega
            · have hpk' : (p : Int) ≠ (kn : Int) := by omega
              have hpkb : ((p : Int) != (kn : Int)) = true := by rw [bne_iff_ne]; omega
              have hpr := program_b h3 0 (p : Int) _ 96 96 _ 0 hz3 (by decide)
              have hO5 : Ord (N.prog 0 (p : Int) (pgL (x : Int)) 0).1 (kn) en := by rw [o2.out (by omega) hpk]; exact hO.out
              have hres : (N.prog 0 (p : Int) (pgL (x : Int)) 0).2 = 6 := by rw [o2.out (by omega) hpk]
              rw [hres] at hpr
              clear hres h3 hz3
              go_wp2_with fail
              refine hpr.mono ?_
              rintro e w5 ⟨rfl, h5⟩
              clear hpr
              have hnx := next_b h5 0
              have hex := erases_b h5 0
              rw [(ord_next hO5).1] at hnx
              rw [(ord_next hO5).2] at hex
              have hB5 := hid h5
              have hO5 := hid hO5
              clear h5
              go_wp2_with fail
              refine hnx.mono ?_
              rintro e w5 ⟨rfl, rfl⟩
              clear hnx
              go_wp2_with fail
              refine hex.mono ?_
              rintro e w5 ⟨rfl, rfl⟩
              clear hex
              go_wp2
              go_roundw
              case rel => exact ⟨kn, en, j + 1, _, by omega, by omega, by omega, by omega, by first | rfl | go_num, rfl, by go_num, hB5.out, hO5.out⟩
              case measure => simp [intOf]; omega
      · have hB := hid hA.bel
        have hj : ¬ (j : Int) < 80 := by omega
        clear hA
        go_wp2
        go_ret
        exact ⟨rfl, hB.out⟩
    · have hB := hid hA.bel
      have hj : ¬ (j : Int) < (n : Int) := by omega
      clear hA
      go_wp2
      go_ret
      exact ⟨rfl, hB.out⟩
end Go.Proofs.Ytineicehipgnjaa.Nand
