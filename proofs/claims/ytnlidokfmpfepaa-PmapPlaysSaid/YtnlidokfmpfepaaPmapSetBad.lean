import Derived.Test.YtnlidokfmpfepaaPmapNil
import Derived.Test.YtnlidokfmpfepaaPmapSet
import Derived.Test.YtnlidokfmpfepaaPmapPlaysPlain
set_option linter.unusedVariables false
set_option linter.unusedSimpArgs false
namespace Go.Proofs.Ytnlidokfmpfepaa.Pmap
open Go.RowKit Go.Proofs.Ytnlidokfmpfepaa.Kit

set_option maxRecDepth 100000 in
set_option maxHeartbeats 4000000 in
theorem set_bad (b ga gh gc N M : Nat) (at' : List (Int × Int)) (has : List Bool) (cnt : List Int) (k B P : Int) (w : World) (h : PM w b ga gh gc N M at' has cnt)
    (hbad : ¬ ((0 ≤ k ∧ k < N) ∧ (0 ≤ B ∧ B < M) ∧ 0 ≤ P ∧ P < 32)) :
    Calls Try.prog 14 #[.pointer (some ⟨b, 0, none⟩), .int .i64 k, .agg #[.int .i64 B, .int .i64 P]] w fun e w' => e = .returned (.int .i64 1) ∧ Below w.heap.size w w' := by
  have hN := h.nM.1
  have hM := h.nM.2
  have hc : ((k < 0)) ∨ (¬ (k < 0) ∧ ((N : Int) ≤ k)) ∨ (¬ (k < 0) ∧ ¬ ((N : Int) ≤ k) ∧ (B < 0)) ∨ (¬ (k < 0) ∧ ¬ ((N : Int) ≤ k) ∧ ¬ (B < 0) ∧ ((M : Int) ≤ B)) ∨ (¬ (k < 0) ∧ ¬ ((N : Int) ≤ k) ∧ ¬ (B < 0) ∧ ¬ ((M : Int) ≤ B) ∧ (P < 0)) ∨ (¬ (k < 0) ∧ ¬ ((N : Int) ≤ k) ∧ ¬ (B < 0) ∧ ¬ ((M : Int) ≤ B) ∧ ¬ (P < 0) ∧ ((32 : Int) ≤ P)) := by omega
  clear hbad
  go_enter Try.func14, Try.ntmps14
  go_upto_region 1 with (fail)
  obtain ⟨bx, hbx⟩ : ∃ g, w.heap.size = g := ⟨_, rfl⟩
  obtain ⟨w2, hw⟩ : ∃ W, W = w.alloc (.cells #[.int .i64 B, .int .i64 P] 28) := ⟨_, rfl⟩
  have hb2 : Blk w2 bx #[.int .i64 B, .int .i64 P] 28 := by rw [hw, ← hbx]; exact Blk.new _ _ _
  have hB2 : Below w.heap.size w w2 := by rw [hw]; exact (Below.refl _ _).alloc (Nat.le_refl _) _
  rw [← hw, hbx]
  clear hw
  have h2 := h.later hB2
  clear hbx h
  obtain ⟨c0, c1, c2⟩ := h2.cells
  obtain ⟨⟨d0, d1⟩, -⟩ := hb2.two
  have HB2 := hid hB2
  clear h2 hb2 hB2
  go_upto_region 3 with (fail)
  rcases hc with h0 | ⟨h0, h1⟩ | ⟨h0, h1, h2⟩ | ⟨h0, h1, h2, h3⟩ | ⟨h0, h1, h2, h3, h4⟩ | ⟨h0, h1, h2, h3, h4, h5⟩
  · have e0 : decide (k < 0) = true := decide_eq_true h0
    clear h0
    go_quiet (fail)
    clear e0
    go_wp2
    go_ret
    exact ⟨rfl, below_drewN HB2.out _⟩
  · have e0 : decide (k < 0) = false := decide_eq_false h0
    have e1 : decide ((N : Int) ≤ k) = true := decide_eq_true h1
    clear h0 h1
    go_quiet (fail)
    clear e0 e1
    go_wp2
    go_ret
    exact ⟨rfl, below_drewN HB2.out _⟩
  · have e0 : decide (k < 0) = false := decide_eq_false h0
    have e1 : decide ((N : Int) ≤ k) = false := decide_eq_false h1
    have e2 : decide (B < 0) = true := decide_eq_true h2
    clear h0 h1 h2
    go_quiet (fail)
    clear e0 e1 e2
    go_wp2
    go_ret
    exact ⟨rfl, below_drewN HB2.out _⟩
  · have e0 : decide (k < 0) = false := decide_eq_false h0
    have e1 : decide ((N : Int) ≤ k) = false := decide_eq_false h1
    have e2 : decide (B < 0) = false := decide_eq_false h2
    have e3 : decide ((M : Int) ≤ B) = true := decide_eq_true h3
    clear h0 h1 h2 h3
    go_quiet (fail)
    clear e0 e1 e2 e3
    go_wp2
    go_ret
    exact ⟨rfl, below_drewN HB2.out _⟩
  · have e0 : decide (k < 0) = false := decide_eq_false h0
    have e1 : decide ((N : Int) ≤ k) = false := decide_eq_false h1
    have e2 : decide (B < 0) = false := decide_eq_false h2
    have e3 : decide ((M : Int) ≤ B) = false := decide_eq_false h3
    have e4 : decide (P < 0) = true := decide_eq_true h4
    clear h0 h1 h2 h3 h4
    go_quiet (fail)
    clear e0 e1 e2 e3 e4
    go_wp2
    go_ret
    exact ⟨rfl, below_drewN HB2.out _⟩
  · have e0 : decide (k < 0) = false := decide_eq_false h0
    have e1 : decide ((N : Int) ≤ k) = false := decide_eq_false h1
    have e2 : decide (B < 0) = false := decide_eq_false h2
    have e3 : decide ((M : Int) ≤ B) = false := decide_eq_false h3
    have e4 : decide (P < 0) = false := decide_eq_false h4
    have e5 : decide ((32 : Int) ≤ P) = true := decide_eq_true h5
    clear h0 h1 h2 h3 h4 h5
    go_quiet (fail)
    clear e0 e1 e2 e3 e4 e5
    go_wp2
    go_ret
    exact ⟨rfl, below_drewN HB2.out _⟩
end Go.Proofs.Ytnlidokfmpfepaa.Pmap
