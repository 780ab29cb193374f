import Derived.Test.YtlmjngkblmfdmaaBeatWalks
namespace Go.Proofs.Ytlmjngkblmfdmaa.Beat
open Go.RowKit

theorem _root_.Go.RowKit.Below.drewB {B : Nat} {w W : World} (h : Below B w W) (n : Nat) : Below B w (W.drewN n) := ⟨h.os, h.tape, h.output, h.size, h.block⟩
theorem Wt.lt {w : World} {b : Nat} {l q : Int} (h : Wt w b l q) : b < w.heap.size := World.block_lt_of_cell? w _ h.c0

set_option maxHeartbeats 400000 in
theorem awake_any (w : World) :
    Calls Try.prog 12 #[] w fun e w' => e = .returned (.bool true) ∧ Below w.heap.size w w' := by
  go_enter Try.func12, Try.ntmps12
  go_wp2_with fail
  refine (new_ok 2 _ (by omega) (by omega)).mono ?_
  rintro e w1 ⟨b, rfl, hb, hw, hB⟩
  go_wp2_with fail
  refine (due_any b 2 0 _ hw).mono ?_
  rintro e w2 ⟨rfl, n, rfl⟩
  go_wp2_with fail
  refine (tick_lt b 2 0 _ (hw.drewN n) (by omega) (by omega) (by omega)).mono ?_
  rintro e w2 ⟨rfl, hw2, hB2⟩
  go_wp2_with fail
  refine (tick_lt b 2 (0 + 1) _ hw2 (by omega) (by omega) (by omega)).mono ?_
  rintro e w3 ⟨rfl, hw3, hB3⟩
  go_wp2_with fail
  refine (due_any b 2 _ _ hw3).mono ?_
  rintro e w4 ⟨rfl, m, rfl⟩
  go_wp2
  go_ret
  exact ⟨rfl, (((hB.drewB n).trans (hB2.mono hb)).trans (hB3.mono hb)).drewB m⟩

set_option maxHeartbeats 1000000 in
theorem law_nil (n : Int) (hn : 0 ≤ n ∧ n ≤ 255) (w : World) :
    Calls Try.prog 6 #[.int .u8 n] w fun e w' => e = .returned (.bool true) ∧ Below w.heap.size w w' := by
  obtain ⟨h0, h1⟩ := hn
  go_enter Try.func6, Try.ntmps6
  go_wp2
  go_loopw [4] (fun i w' => ∃ k : Nat, k ≤ n ∧ i = .int .i64 k ∧ Below w.heap.size w w') (fun i _ => (n - intOf i).toNat)
  case atStart => exact ⟨0, by omega, rfl, Below.refl _ _⟩
  case round =>
    obtain ⟨k, hk, rfl, hB⟩ := hrel
    by_cases hlt : (k : Int) < n
    · go_wp2_with fail
      refine (tick_nil _).mono ?_
      rintro e w1 ⟨rfl, m, rfl⟩
      go_wp2
      go_roundw
      case rel => exact ⟨k + 1, by omega, by go_num, hB.drewB m⟩
      case measure => simp [intOf]; omega
    · go_wp2_with fail
      refine (force_nil _).mono ?_
      rintro e w1 ⟨rfl, m, rfl⟩
      go_wp2_with fail
      refine (heard_nil _).mono ?_
      rintro e w1 ⟨rfl, m2, rfl⟩
      go_wp2_with fail
      refine (awake_any _).mono ?_
      rintro e w1 ⟨rfl, hB1⟩
      go_wp2_with fail
      refine (due_nil _).mono ?_
      rintro e w2 ⟨rfl, m3, rfl⟩
      go_wp2_with fail
      refine (left_nil _).mono ?_
      rintro e w2 ⟨rfl, m4, rfl⟩
      go_wp2
      go_ret
      refine ⟨rfl, ?_⟩
      have hB' := hB.drewB (m + m2)
      exact (hB'.trans (hB1.mono (by simpa using hB.size))).drewB (m3 + m4)

/-- A watch of limit l that lies above base. -/
def Here (base : Nat) (w0 w : World) (v : Value) (l q : Int) : Prop := ∃ b, v = .pointer (some ⟨b, 0, none⟩) ∧ base ≤ b ∧ Wt w b l q ∧ Below base w0 w

set_option maxHeartbeats 1000000 in
theorem law_due (li : Int) (hli : 0 ≤ li ∧ li ≤ 65535) (he : Int) (hhe : 0 ≤ he ∧ he ≤ 65535) (w : World) :
    Calls Try.prog 3 #[.int .u16 li, .int .u16 he] w fun e w' => e = .returned (.bool true) ∧ Below w.heap.size w w' := by
  obtain ⟨h0, h2⟩ := hli
  obtain ⟨h1, h3⟩ := hhe
  have hm0 : 0 ≤ li % 1000 := by omega
  have hm1 : li % 1000 < 1000 := by omega
  go_enter Try.func3, Try.ntmps3
  go_wp2_with fail
  refine (awake_any _).mono ?_
  rintro e w1 ⟨rfl, hB1⟩
  go_wp2_with fail
  generalize li % 1000 = lm at *
  refine (new_ok _ _ (by omega) (by omega)).mono ?_
  rintro e w2 ⟨b, rfl, hb, hw2, hB2⟩
  have hbb : w.heap.size ≤ b := Nat.le_trans hB1.size hb
  have hB := hB1.trans (hB2.mono hB1.size)
  clear hB1 hB2
  go_wp2
  go_loopw [8] (fun i w' => ∃ k : Nat, k ≤ he % (1 + lm) ∧ i = .int .i64 k ∧ Wt w' b (1 + lm) k ∧ Below w.heap.size w w') (fun i _ => (he % (1 + lm) - intOf i).toNat)
  case atStart => exact ⟨0, Int.emod_nonneg _ (by omega), rfl, hw2, hB⟩
  case round =>
    clear hw2 hB
    obtain ⟨k, hk, rfl, hw, hB⟩ := hrel
    have hlt0 : he % (1 + lm) < 1 + lm := Int.emod_lt_of_pos _ (by omega)
    have htm : he.tmod (1 + lm) = he % (1 + lm) := Int.tmod_eq_emod_of_nonneg (by omega)
    by_cases hlt : (k : Int) < he % (1 + lm)
    · go_wp2_with fail
      refine (tick_lt b _ _ _ hw (by omega) (by omega) (by omega)).mono ?_
      rintro e w3 ⟨rfl, hw3, hB3⟩
      go_wp2
      go_roundw
      case rel => exact ⟨k + 1, by omega, by go_num, hw3, hB.trans (hB3.mono hbb)⟩
      case measure => simp [intOf]; omega
    · go_wp2_with fail
      refine (due_any b _ _ _ hw).mono ?_
      rintro e w3 ⟨rfl, n, rfl⟩
      have hd : decide (1 + lm ≤ (k : Int)) = false := decide_eq_false (by omega)
      go_wp2_with fail
      refine (heard_any b _ _ _ (hw.drewN n)).mono ?_
      rintro e w4 ⟨rfl, hw4, hB4⟩
      have hB5 := (hB.drewB n).trans (hB4.mono hbb)
      clear hB hB4 hw
      go_wp2
      go_loopw [9] (fun i w' => ∃ k : Nat, 1 ≤ k ∧ k ≤ 2 + lm ∧ i = .int .i64 k ∧ Wt w' b (1 + lm) (k - 1) ∧ Below w.heap.size w w') (fun i _ => (2 + lm - intOf i).toNat)
      case atStart => exact ⟨1, by omega, by omega, rfl, hw4, hB5⟩
      case round =>
        clear hw4 hB5
        obtain ⟨k, hk1, hk2, rfl, hw, hB⟩ := hrel
        by_cases hlt : (k : Int) ≤ 1 + lm
        · go_wp2_with fail
          refine (tick_lt b _ _ _ hw (by omega) (by omega) (by omega)).mono ?_
          rintro e w3 ⟨rfl, hw3, hB3⟩
          go_wp2_with fail
          refine (due_any b _ _ _ hw3).mono ?_
          rintro e w4 ⟨rfl, n, rfl⟩
          have hd : decide (1 + lm ≤ (k : Int)) = ((k : Int) == 1 + lm) := by
            by_cases e : (k : Int) = 1 + lm
            · simp [e]
            · have : ¬ (1 + lm ≤ (k : Int)) := by omega
              simp [e, this]
          go_wp2
          go_roundw
          case rel =>
            refine ⟨k + 1, by omega, by omega, by go_num, ?_, (hB.trans (hB3.mono hbb)).drewB n⟩
            have e : ((k + 1 : Nat) : Int) - 1 = k - 1 + 1 := by omega
            rw [e]; exact hw3.drewN n
          case measure => simp [intOf]; omega
        · go_wp2
          go_ret
          exact ⟨rfl, hB⟩

end Go.Proofs.Ytlmjngkblmfdmaa.Beat
