import Derived.Test.YtpncgfdnilmhhaaSheetLay
import Derived.Deep.Cut
set_option linter.unusedVariables false
set_option linter.unusedSimpArgs false
namespace Go.Proofs.Ytpncgfdnilmhhaa.Sheet
open Go.RowKit Go.Proofs.Ytpncgfdnilmhhaa.Kit Go.Proofs.Ytpncgfdnilmhhaa.Oct

def formP (K E S a F : Int) (n : Nat) : Prop := 1 ≤ K ∧ K ≤ 3 ∧ E < 281474976710656 ∧ S < 281474976710656 ∧ 0 ≤ a ∧ a < 65536 ∧ -1 ≤ F ∧ F < 64 ∧ n ≤ 64 ∧ (K = 1 ∨ n = 0)
instance (K E S a F : Int) (n : Nat) : Decidable (formP K E S a F n) := by unfold formP; exact inferInstance

set_option maxRecDepth 100000 in
set_option maxHeartbeats 4000000 in
theorem form_any (K E S a F : Int) (A : Option Addr) (n c : Nat) (w : World) (hn : n ≤ 9223372036854775807) :
    Calls Try.prog 15 #[.agg #[.int .u8 K, .int .u64 E, .int .u64 S, .int .i64 a, .int .i64 F, .slice A n c]] w fun e w' => e = .returned (.bool (decide (formP K E S a F n))) ∧ Below w.heap.size w w' := by
  go_enter Try.func15, Try.ntmps15
  go_wp2
  all_goals
    go_ret
    refine ⟨?_, (Below.refl _ _).alloc (Nat.le_refl _) _⟩
    show Ending.returned (Value.bool _) = Ending.returned (Value.bool _)
    congr 2
    first
      | exact (decide_eq_true (by unfold formP; omega)).symm
      | exact (decide_eq_false (by unfold formP; omega)).symm
      | (rw [Bool.eq_iff_iff, decide_eq_true_iff]; simp only [Bool.or_eq_true, beq_iff_eq, decide_eq_true_eq]; unfold formP; omega)
      | (rw [Bool.eq_iff_iff, decide_eq_true_iff]; simp only [decide_eq_true_eq]; unfold formP; omega)

set_option maxRecDepth 100000 in
set_option maxHeartbeats 4000000 in
theorem rform_any (K E S a F : Int) (A : Option Addr) (n c : Nat) (w : World) (hn : n ≤ 9223372036854775807) :
    Calls Try.prog 16 #[.agg #[.int .u8 K, .int .u64 E, .int .u64 S, .int .i64 a, .int .i64 F, .slice A n c]] w fun e w' => e = .returned (.bool (decide (formP K E S a F n))) ∧ Below w.heap.size w w' := by
  go_enter Try.func16, Try.ntmps16
  go_wp2
  all_goals
    go_ret
    refine ⟨?_, (Below.refl _ _).alloc (Nat.le_refl _) _⟩
    show Ending.returned (Value.bool _) = Ending.returned (Value.bool _)
    congr 2
    first
      | exact (decide_eq_true (by unfold formP; omega)).symm
      | exact (decide_eq_false (by unfold formP; omega)).symm
      | (rw [Bool.eq_iff_iff, decide_eq_true_iff]; simp only [Bool.or_eq_true, beq_iff_eq, decide_eq_true_eq]; unfold formP; omega)
      | (rw [Bool.eq_iff_iff, decide_eq_true_iff]; simp only [decide_eq_true_eq]; unfold formP; omega)

set_option maxRecDepth 100000 in
set_option maxHeartbeats 1000000 in
theorem of_any (K E S a F : Int) (A : Option Addr) (n c : Nat) (w : World) :
    Calls Try.prog 14 #[.agg #[.int .u8 K, .int .u64 E, .int .u64 S, .int .i64 a, .int .i64 F, .slice A n c]] w fun e w' => e = .returned (.agg #[.int .u8 K, .int .u64 E, .int .u64 S, .int .i64 a, .int .i64 F, .slice A n c]) ∧ Below w.heap.size w w' := by
  go_enter Try.func14, Try.ntmps14
  go_upto_region 1 with (fail)
  obtain ⟨w2, hw2⟩ : ∃ w2, w2 = ((w.alloc (.cells #[.int .u8 K, .int .u64 E, .int .u64 S, .int .i64 a, .int .i64 F, .slice A n c] 25)).alloc (.cells #[.int .u8 0, .int .u64 0, .int .u64 0, .int .i64 0, .int .i64 0, .slice none 0 0] 30)) := ⟨_, rfl⟩
  have hb1 : Blk w2 w.heap.size #[.int .u8 K, .int .u64 E, .int .u64 S, .int .i64 a, .int .i64 F, .slice A n c] 25 := by rw [hw2]; exact (Blk.new _ _ _).alloc _
  have hb2 : Blk w2 (w.heap.size + 1) #[.int .u8 0, .int .u64 0, .int .u64 0, .int .i64 0, .int .i64 0, .slice none 0 0] 30 := by
    rw [hw2]
    have := Blk.new (w.alloc (.cells #[.int .u8 K, .int .u64 E, .int .u64 S, .int .i64 a, .int .i64 F, .slice A n c] 25)) #[.int .u8 0, .int .u64 0, .int .u64 0, .int .i64 0, .int .i64 0, .slice none 0 0] 30
    simpa using this
  have hB : Below w.heap.size w w2 := by rw [hw2]; exact ((Below.refl _ _).alloc (Nat.le_refl _) _).alloc (by simp) _
  rw [← hw2]
  clear hw2
  have c0 := hb1.cell 0
  have c1 := hb1.cell 1
  have c2 := hb1.cell 2
  have c3 := hb1.cell 3
  have c4 := hb1.cell 4
  have c5 := hb1.cell 5
  have d0 := hb2.cell 0
  have d1 := hb2.cell 1
  have d2 := hb2.cell 2
  have d3 := hb2.cell 3
  have d4 := hb2.cell 4
  have d5 := hb2.cell 5
  have f0 := hb2.free 0
  have f1 := hb2.free 1
  have f2 := hb2.free 2
  have f3 := hb2.free 3
  have f4 := hb2.free 4
  have f5 := hb2.free 5
  simp only [List.getElem?_toArray, List.getElem?_cons_zero, List.getElem?_cons_succ] at c0 c1 c2 c3 c4 c5 d0 d1 d2 d3 d4 d5
  have Hb2 := hid hb2
  clear hb1 hb2
  go_wp2
  have hb := (((((Hb2.out.set 0 (.int .u8 K)).set 1 (.int .u64 E)).set 2 (.int .u64 S)).set 3 (.int .i64 a)).set 4 (.int .i64 F)).set 5 (.slice A n c)
  simp at hb
  have hlt : w.heap.size ≤ w.heap.size + 1 := by omega
  refine bodyPost_ret (results_cell_row (P := Try.prog) rfl _ _ (w.heap.size + 1) _ _ (0, 0) _ rfl hb Try.underlying30 rfl (by kernel_rfl)) rfl ?_
  exact ⟨rfl, ((((((hB.setCell hlt _).setCell hlt _).setCell hlt _).setCell hlt _).setCell hlt _).setCell hlt _)⟩
end Go.Proofs.Ytpncgfdnilmhhaa.Sheet
