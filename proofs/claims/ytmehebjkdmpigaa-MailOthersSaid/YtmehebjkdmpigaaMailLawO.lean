import Derived.Test.YtmehebjkdmpigaaMailDec
import Derived.Test.YtmehebjkdmpigaaOctTurn
set_option linter.unusedVariables false
set_option linter.unusedSimpArgs false
namespace Go.Proofs.Ytmehebjkdmpigaa.Mail
open Go.RowKit Go.Proofs.Ytmehebjkdmpigaa.Kit Go.Proofs.Ytmehebjkdmpigaa.Oct

set_option maxRecDepth 100000 in
set_option maxHeartbeats 4000000 in
theorem law_others (n : Int) (hn : -9223372036854775808 ≤ n ∧ n ≤ 9223372036854775807) (s : ByteArray) {p : Prop} (hs : p) (w : World) :
    Calls Try.prog 4 #[.int .i64 n, .string s] w fun e w' => e = .returned (.bool true) ∧ Below w.heap.size w w' := by
  clear hn
  go_enter Try.func4, Try.ntmps4
  go_wp2_with fail
  refine (encode_none _ _ (no_int _)).mono ?_
  rintro e w1 ⟨rfl, rfl⟩
  go_wp2_with fail
  refine (encode_none _ _ (no_str _)).mono ?_
  rintro e w2 ⟨rfl, rfl⟩
  go_wp2_with fail
  refine (encode_none _ _ (no_ptr _)).mono ?_
  rintro e w3 ⟨rfl, rfl⟩
  generalize hw4 : w2.alloc (.cells #[.int .i64 1] 33) = w4
  have hB4 : Below w2.heap.size w2 w4 := by rw [← hw4]; exact (Below.refl _ _).alloc (Nat.le_refl _) _
  clear hw4
  go_wp2_with fail
  refine (encode_none _ _ no_nil).mono ?_
  rintro e w5 ⟨rfl, rfl⟩
  go_wp2_with fail
  refine (awake_any _).mono ?_
  rintro e w6 ⟨rfl, hB6⟩
  have hB := hB4.trans (hB6.mono hB4.size)
  clear hB4 hB6
  go_wp2_with fail
  refine (is_none _ _ (no_int _)).mono ?_
  rintro e w7 ⟨rfl, rfl⟩
  go_wp2_with fail
  refine (is_none _ _ (no_str _)).mono ?_
  rintro e w8 ⟨rfl, rfl⟩
  go_wp2_with fail
  refine (is_none _ _ no_nil).mono ?_
  rintro e w9 ⟨rfl, rfl⟩
  go_wp2
  go_ret
  exact ⟨rfl, hB⟩
end Go.Proofs.Ytmehebjkdmpigaa.Mail
