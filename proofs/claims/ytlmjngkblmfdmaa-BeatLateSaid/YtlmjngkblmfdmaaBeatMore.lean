import Derived.Test.YtlmjngkblmfdmaaBeatLaws
import Derived.Test.YtlmjngkblmfdmaaKit
set_option linter.unusedVariables false
set_option linter.unusedSimpArgs false
namespace Go.Proofs.Ytlmjngkblmfdmaa.Beat
open Go.RowKit Go.Proofs.Ytlmjngkblmfdmaa.Kit

set_option maxHeartbeats 2000000 in
set_option maxRecDepth 100000 in
theorem law_plays (li : Int) (hli : -9223372036854775808 ≤ li ∧ li ≤ 9223372036854775807) (A : Option Addr) (len cap : Nat) (zs : List Int) (w : World) (hz : Nums w .u8 A len zs) :
    Calls Try.prog 5 #[.int .i64 li, .slice A len cap] w fun e w' => e = .returned (.bool true) ∧ Below w.heap.size w w' := by
  obtain ⟨hl0, hl1⟩ := hli
  by_cases hok : 1 ≤ li ∧ li ≤ 1000
  · obtain ⟨h1, h2⟩ := hok
    go_enter Try.func5, Try.ntmps5
    go_wp2_with fail
    refine (awake_any _).mono ?_
    rintro e w1 ⟨rfl, hB1⟩
    go_wp2_with fail
    refine (new_ok _ _ (by omega) (by omega)).mono ?_
    rintro e w2 ⟨b, rfl, hb, hw2, hB2⟩
    have hbb : w.heap.size ≤ b := Nat.le_trans hB1.size hb
    have hB := hB1.trans (hB2.mono hB1.size)
    clear hB1 hB2
    go_wp2_with fail
    go_loopw [7, 8] (fun v i w' => ∃ (k : Nat) (q : Int), k ≤ 1200 ∧ i = .int .i64 k ∧ v = .int .i64 (li - q) ∧ 0 ≤ q ∧ q ≤ li ∧ Wt w' b li q ∧ Below w.heap.size w w') (fun _ i _ => 1200 - (intOf i).toNat)
    case atStart => exact ⟨0, 0, by omega, rfl, by go_num, by omega, by omega, hw2, hB⟩
    case round =>
      clear hw2 hB
      obtain ⟨k, q, hk, rfl, rfl, hq0, hq1, hw, hB⟩ := hrel
      have hlen := hz.most
      by_cases hlt : k < len
      · by_cases hlt2 : (k : Int) < 1200
        · obtain ⟨bz, oz, rfl, hc⟩ := hz.at_ k hlt
          obtain ⟨hx0, hx1⟩ := wf_u8 (hz.wf_at k hlt)
          have hcell : wr.cell? ⟨bz, oz + k, none⟩ = some (.int .u8 (zs.getD k 0)) := (hB.cell (World.block_lt_of_cell? w _ hc)).trans hc
          clear hc
          generalize zs.getD k 0 = x at *
          clear hz
          by_cases hx : x % 8 = 0
          · have hxb : (x % 8 == 0) = true := beq_iff_eq.2 hx
            clear hx
            go_wp2_with fail
            refine (heard_any b li q _ hw).mono ?_
            rintro e w3 ⟨rfl, hw3, hB3⟩
            have hne : ((li - (0)) != (li)) = false := by simp only [bne_eq_false_iff_eq] <;> omega
            have hdu : decide (li ≤ 0) = ((li) == 0) := by
              by_cases e : (li) = 0
              · have e2 : li ≤ 0 := by omega
                simp [e, e2]
              · have e2 : ¬ li ≤ 0 := by omega
                simp [e, e2]
            have hn2 : (li == 0) = ((li) == 0) := rfl
            go_wp2_with fail
            refine (left_any b li (0) _ hw3 (by omega) (by omega) h2).mono ?_
            rintro e w4 ⟨rfl, m, rfl⟩
            have Hdu := hid hdu; clear hdu
            have Hne := hid hne
            go_wp2_with fail
            refine (due_any b li (0) _ (hw3.drewN m)).mono ?_
            rintro e w4 ⟨rfl, m2, rfl⟩
            rw [Hdu.out]
            go_wp2
            go_roundw
            case rel => exact ⟨k + 1, 0, by omega, by go_num, by go_num, by omega, by omega, hw3.drewN (m + m2), (hB.trans (hB3.mono hbb)).drewB _⟩
            case measure => simp [intOf]; omega
          · have hxb : (x % 8 == 0) = false := beq_eq_false_iff_ne.2 hx
            clear hx
            by_cases hx : x % 8 = 1
            · have hxb1 : (x % 8 == 1) = true := beq_iff_eq.2 hx
              clear hx
              go_wp2_with fail
              refine (force_any b li q _ hw).mono ?_
              rintro e w3 ⟨rfl, hw3, hB3⟩
              have hne : ((li - (li)) != (0)) = false := by simp only [bne_eq_false_iff_eq] <;> omega
              have hdu : decide (li ≤ li) = ((0) == 0) := by
                by_cases e : (0) = 0
                · have e2 : li ≤ li := by omega
                  simp [e, e2]
                · have e2 : ¬ li ≤ li := by omega
                  simp [e, e2]
              have hn2 : (0 == 0) = ((0) == 0) := rfl
              go_wp2_with fail
              refine (left_any b li (li) _ hw3 (by omega) (by omega) h2).mono ?_
              rintro e w4 ⟨rfl, m, rfl⟩
              have Hdu := hid hdu; clear hdu
              have Hne := hid hne
              go_wp2_with fail
              refine (due_any b li (li) _ (hw3.drewN m)).mono ?_
              rintro e w4 ⟨rfl, m2, rfl⟩
              rw [Hdu.out]
              go_wp2
              go_roundw
              case rel => exact ⟨k + 1, li, by omega, by go_num, by go_num, by omega, by omega, hw3.drewN (m + m2), (hB.trans (hB3.mono hbb)).drewB _⟩
              case measure => simp [intOf]; omega
            · have hxb1 : (x % 8 == 1) = false := beq_eq_false_iff_ne.2 hx
              clear hx
              by_cases hlq : q < li
              · have hlq' : 0 < li - q := by omega
                go_wp2_with fail
                refine (tick_lt b li q _ hw hq0 hlq h2).mono ?_
                rintro e w3 ⟨rfl, hw3, hB3⟩
                have hne : ((li - (q + 1)) != (li - q - 1)) = false := by simp only [bne_eq_false_iff_eq] <;> omega
                have hdu : decide (li ≤ q + 1) = ((li - q - 1) == 0) := by
                  by_cases e : (li - q - 1) = 0
                  · have e2 : li ≤ q + 1 := by omega
                    simp [e, e2]
                  · have e2 : ¬ li ≤ q + 1 := by omega
                    simp [e, e2]
                have hn2 : (li - q - 1 == 0) = ((li - q - 1) == 0) := rfl
                go_wp2_with fail
                refine (left_any b li (q + 1) _ hw3 (by omega) (by omega) h2).mono ?_
                rintro e w4 ⟨rfl, m, rfl⟩
                have Hdu := hid hdu; clear hdu
                have Hne := hid hne
                go_wp2_with fail
                refine (due_any b li (q + 1) _ (hw3.drewN m)).mono ?_
                rintro e w4 ⟨rfl, m2, rfl⟩
                rw [Hdu.out]
                go_wp2
                go_roundw
                case rel => exact ⟨k + 1, q + 1, by omega, by go_num, by go_num, by omega, by omega, hw3.drewN (m + m2), (hB.trans (hB3.mono hbb)).drewB _⟩
                case measure => simp [intOf]; omega
              · obtain rfl : q = li := by omega
                have hz0 : ¬ (0 < q - q) := by omega
                go_wp2_with fail
                refine (tick_ge b q q _ hw (by omega)).mono ?_
                rintro e w3 ⟨rfl, hw3, hB3⟩
                have hne : ((q - (q)) != (q - q)) = false := by simp only [bne_eq_false_iff_eq] <;> omega
                have hdu : decide (q ≤ q) = ((q - q) == 0) := by
                  by_cases e : (q - q) = 0
                  · have e2 : q ≤ q := by omega
                    simp [e, e2]
                  · have e2 : ¬ q ≤ q := by omega
                    simp [e, e2]
                have hn2 : (q - q == 0) = ((q - q) == 0) := rfl
                go_wp2_with fail
                refine (left_any b q (q) _ hw3 (by omega) (by omega) h2).mono ?_
                rintro e w4 ⟨rfl, m, rfl⟩
                have Hdu := hid hdu; clear hdu
                have Hne := hid hne
                go_wp2_with fail
                refine (due_any b q (q) _ (hw3.drewN m)).mono ?_
                rintro e w4 ⟨rfl, m2, rfl⟩
                rw [Hdu.out]
                go_wp2
                go_roundw
                case rel => exact ⟨k + 1, q, by omega, by go_num, by go_num, by omega, by omega, hw3.drewN (m + m2), (hB.trans (hB3.mono hbb)).drewB _⟩
                case measure => simp [intOf]; omega
        · go_wp2
          go_ret
          exact ⟨rfl, hB⟩
      · go_wp2
        go_ret
        exact ⟨rfl, hB⟩
  · have hor : li < 1 ∨ 1000 < li := by omega
    rcases hor with h | h
    · clear hok
      go_enter Try.func5, Try.ntmps5
      go_wp2_with fail
      refine (awake_any _).mono ?_
      rintro e w1 ⟨rfl, hB1⟩
      go_wp2_with fail
      refine (new_arg _ _ (.inl h)).mono ?_
      rintro e w2 ⟨rfl, rfl⟩
      go_wp2
      go_ret
      exact ⟨rfl, hB1⟩
    · have h' : ¬ li < 1 := by omega
      clear hok
      go_enter Try.func5, Try.ntmps5
      go_wp2_with fail
      refine (awake_any _).mono ?_
      rintro e w1 ⟨rfl, hB1⟩
      go_wp2_with fail
      refine (new_arg _ _ (.inr h)).mono ?_
      rintro e w2 ⟨rfl, rfl⟩
      go_wp2
      go_ret
      exact ⟨rfl, hB1⟩

set_option maxHeartbeats 2000000 in
set_option maxRecDepth 100000 in
theorem law_late_few (li : Int) (hli : 0 ≤ li ∧ li ≤ 255) (A : Option Addr) (len cap : Nat) (zs : List Int) (w : World) (hz : Nums w .u8 A len zs) (hle : len ≤ 40) :
    Calls Try.prog 4 #[.int .u8 li, .slice A len cap] w fun e w' => e = .returned (.bool true) ∧ Below w.heap.size w w' := by
  obtain ⟨hl0, hl1⟩ := hli
  go_enter Try.func4, Try.ntmps4
  go_wp2_with fail
  refine (awake_any _).mono ?_
  rintro e w1 ⟨rfl, hB1⟩
  go_wp2_with fail
  refine (new_ok _ _ (by omega) (by omega)).mono ?_
  rintro e w2 ⟨b, rfl, hb, hw2, hB2⟩
  have hbb : w.heap.size ≤ b := Nat.le_trans hB1.size hb
  have hB := hB1.trans (hB2.mono hB1.size)
  clear hB1 hB2
  go_wp2_with fail
  go_loopw [8, 9] (fun i _ w' => ∃ k : Nat, k ≤ len ∧ i = .int .i64 k ∧ Wt w' b (1 + li) 0 ∧ Below w.heap.size w w') (fun i _ _ => len - (intOf i).toNat)
  case atStart => exact ⟨0, by omega, rfl, hw2, hB⟩
  case round =>
    clear hw2 hB
    obtain ⟨k, hk, rfl, hw, hB⟩ := hrel
    by_cases hlt : k < len
    · obtain ⟨bz, oz, rfl, hc⟩ := hz.at_ k hlt
      obtain ⟨hx0, hx1⟩ := wf_u8 (hz.wf_at k hlt)
      generalize zs.getD k 0 = x at *
      clear hz
      obtain ⟨wo, rfl⟩ : ∃ wo : World, wo = wr := ⟨_, rfl⟩
      go_wp2_with fail
      go_loopw [9] (fun i w' => ∃ j : Nat, j ≤ x % (1 + li) ∧ i = .int .i64 j ∧ Wt w' b (1 + li) j ∧ Below w.heap.size w w') (fun i _ => (x % (1 + li) - intOf i).toNat)
      case atStart => exact ⟨0, Int.emod_nonneg _ (by omega), rfl, hw, hB⟩
      case round =>
        clear hw hB
        obtain ⟨j, hj, rfl, hw, hB⟩ := hrel
        have hcell : wr.cell? ⟨bz, oz + k, none⟩ = some (.int .u8 x) := (hB.cell (World.block_lt_of_cell? w _ hc)).trans hc
        have hlt0 : x % (1 + li) < 1 + li := Int.emod_lt_of_pos _ (by omega)
        by_cases hjx : (j : Int) < x % (1 + li)
        · go_wp2_with fail
          refine (tick_lt b _ _ _ hw (by omega) (by omega) (by omega)).mono ?_
          rintro e w3 ⟨rfl, hw3, hB3⟩
          go_wp2
          go_roundw
          case rel => exact ⟨j + 1, by omega, by go_num, hw3, hB.trans (hB3.mono hbb)⟩
          case measure => simp [intOf]; omega
        · go_wp2_with fail
          refine (due_any b _ _ _ hw).mono ?_
          rintro e w3 ⟨rfl, n, rfl⟩
          have hd : decide (1 + li ≤ (j : Int)) = false := decide_eq_false (by omega)
          go_wp2_with fail
          refine (heard_any b _ _ _ (hw.drewN n)).mono ?_
          rintro e w4 ⟨rfl, hw4, hB4⟩
          go_wp2
          go_roundw
          case rel => exact ⟨k + 1, by omega, by go_num, hw4, (hB.drewB n).trans (hB4.mono hbb)⟩
          case measure => simp [intOf]; omega
    · go_wp2_with fail
      go_loopw [10] (fun i w' => ∃ j : Nat, j ≤ 2 * (1 + li) ∧ i = .int .i64 j ∧ Wt w' b (1 + li) (if (j : Int) ≤ 1 + li then j else 1 + li) ∧ Below w.heap.size w w') (fun i _ => (2 * (1 + li) - intOf i).toNat)
      case atStart => exact ⟨0, by omega, rfl, by simpa [show (0 : Int) ≤ 1 + li by omega] using hw, hB⟩
      case round =>
        clear hw hB
        obtain ⟨j, hj, rfl, hw, hB⟩ := hrel
        by_cases hjx : (j : Int) < 2 * (1 + li)
        · by_cases hjl : (j : Int) < 1 + li
          · rw [if_pos (by omega)] at hw
            go_wp2_with fail
            refine (tick_lt b _ _ _ hw (by omega) (by omega) (by omega)).mono ?_
            rintro e w3 ⟨rfl, hw3, hB3⟩
            go_wp2
            go_roundw
            case rel => exact ⟨j + 1, by omega, by go_num, by rw [if_pos (by omega)]; exact hw3, hB.trans (hB3.mono hbb)⟩
            case measure => simp [intOf]; omega
          · have hw' : Wt wr b (1 + li) (1 + li) := by
              by_cases e : (j : Int) ≤ 1 + li
              · rw [if_pos e] at hw
                have : (j : Int) = 1 + li := by omega
                rwa [this] at hw
              · rwa [if_neg e] at hw
            clear hw
            go_wp2_with fail
            refine (tick_ge b _ _ _ hw' (by omega)).mono ?_
            rintro e w3 ⟨rfl, hw3, hB3⟩
            go_wp2
            go_roundw
            case rel => exact ⟨j + 1, by omega, by go_num, by rw [if_neg (by omega)]; exact hw3, hB.trans (hB3.mono hbb)⟩
            case measure => simp [intOf]; omega
        · have hw' : Wt wr b (1 + li) (1 + li) := by rwa [if_neg (by omega)] at hw
          clear hw
          go_wp2_with fail
          refine (due_any b _ _ _ hw').mono ?_
          rintro e w3 ⟨rfl, n, rfl⟩
          go_wp2_with fail
          refine (left_any b _ _ _ (hw'.drewN n) (by omega) (by omega) (by omega)).mono ?_
          rintro e w4 ⟨rfl, m, rfl⟩
          have h0 : ((1 + li - (1 + li)) == 0) = true := by simp
          go_wp2
          go_ret
          exact ⟨by simp, hB.drewB _⟩

set_option maxHeartbeats 2000000 in
set_option maxRecDepth 100000 in
theorem law_late (li : Int) (hli : 0 ≤ li ∧ li ≤ 255) (A : Option Addr) (len cap : Nat) (zs : List Int) (w : World) (hz : Nums w .u8 A len zs) :
    Calls Try.prog 4 #[.int .u8 li, .slice A len cap] w fun e w' => e = .returned (.bool true) ∧ Below w.heap.size w w' := by
  by_cases hle : len ≤ 40
  · exact law_late_few li hli A len cap zs w hz hle
  · have hlen := hz.most
    go_enter Try.func4, Try.ntmps4
    go_wp2_with fail
    refine (awake_any _).mono ?_
    rintro e w1 ⟨rfl, hB1⟩
    go_wp2_with fail
    refine (awake_any _).mono ?_
    rintro e w2 ⟨rfl, hB2⟩
    go_wp2
    go_ret
    exact ⟨rfl, hB1.trans (hB2.mono hB1.size)⟩
end Go.Proofs.Ytlmjngkblmfdmaa.Beat
