import Derived.Test.YtpcbpljdiacbmaaJSheetLay
import Derived.Deep.Cut
set_option linter.unusedVariables false
set_option linter.unusedSimpArgs false
namespace Go.Proofs.Ytpcbpljdiacbmaa.Sheet
open Go.RowKit Go.Proofs.Ytpcbpljdiacbmaa.Kit Go.Proofs.Ytpcbpljdiacbmaa.Oct

def formP (K E S a F : Int) (n : Nat) : Prop := 1 ≤ K ∧ K ≤ 3 ∧ E < 281474976710656 ∧ S < 281474976710656 ∧ 0 ≤ a ∧ a < 65536 ∧ -1 ≤ F ∧ F < 64 ∧ n ≤ 64 ∧ (K = 1 ∨ n = 0)
instance (K E S a F : Int) (n : Nat) : Decidable (formP K E S a F n) := by unfold formP; exact inferInstance

set_option maxRecDepth 100000 in
set_option maxHeartbeats 4000000 in
theorem form_any (K E S a F : Int) (A : Option Addr) (n c : Nat) (w : World) (hn : n ≤ 9223372036854775807) :
  Calls Try.prog 86 #[.agg #[.int .u8 K, .int .u64 E, .int .u64 S, .int .i64 a, .int .i64 F, .slice A n c]] w fun e w' => e = .returned (.bool (decide (formP K E S a F n))) ∧ Below w.heap.size w w' := by
 go_enter Try.func86, Try.ntmps86
 go_wp2
 all_goals
  go_ret
  refine ⟨?_, (Below.refl _ _).alloc (Nat.le_refl _) _⟩
  show Ending.returned (Value.bool _) = Ending.returned (Value.bool _)
  congr 2
  first
   | exact (decide_eq_true (by unfold formP; omega)).symm
   | exact (decide_eq_false (by unfold formP; omega)).symm
   | (rw [Bool.eq_iff_iff, decide_eq_true_iff]; simp only [Bool.or_eq_true, beq_iff_eq, decide_eq_true_eq]; unfold formP; omega)
   | (rw [Bool.eq_iff_iff, decide_eq_true_iff]; simp only [decide_eq_true_eq]; unfold formP; omega)

end Go.Proofs.Ytpcbpljdiacbmaa.Sheet
