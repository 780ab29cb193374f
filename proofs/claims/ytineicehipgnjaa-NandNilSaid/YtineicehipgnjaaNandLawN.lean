import Derived.Test.YtineicehipgnjaaNandAwake
set_option linter.unusedVariables false
set_option linter.unusedSimpArgs false
namespace Go.Proofs.Ytineicehipgnjaa.Nand
open Go.RowKit Go.Proofs.Ytineicehipgnjaa.Kit

set_option maxRecDepth 100000 in
set_option maxHeartbeats 4000000 in
theorem law_nil (i : Int) (hi : -9223372036854775808 ≤ i ∧ i ≤ 9223372036854775807) (n : Int) (hn : -9223372036854775808 ≤ n ∧ n ≤ 9223372036854775807) (ep : Int) (he : 0 ≤ ep ∧ ep ≤ 18446744073709551615) (w : World) :
    Calls Try.prog 10 #[.int .i64 i, .int .i64 n, .int .u64 ep] w fun e w' => e = .returned (.bool true) ∧ Below w.heap.size w w' := by
  clear hi hn he
  go_enter Try.func10, Try.ntmps10
  go_wp2_with fail
  refine (read_nil i n w).mono ?_
  rintro e w0 ⟨rfl, rfl⟩
  go_wp2_with fail
  refine (awake_any w0).mono ?_
  rintro e w1 ⟨rfl, hB1⟩
  go_wp2_with fail
  refine (page_any 1 w1 (by omega)).mono ?_
  rintro e w2 ⟨g, rfl, -, -, hB2⟩
  replace hB2 := hid (hB1.trans (hB2.mono hB1.size))
  clear hB1
  go_wp2_with fail
  refine (program_nil i n _ 96 96 ep w2).mono ?_
  rintro e w3 ⟨rfl, hB3⟩
  replace hB3 := hid (hB2.out.trans (hB3.mono hB2.out.size))
  clear hB2
  go_wp2_with fail
  refine (erase_nil i ep w3).mono ?_
  rintro e w4 ⟨rfl, hB4⟩
  replace hB4 := hid (hB3.out.trans (hB4.mono hB3.out.size))
  clear hB3
  go_wp2_with fail
  refine (raise_nil ep w4).mono ?_
  rintro e w4 ⟨rfl, rfl⟩
  go_wp2_with fail
  refine (arm_nil n w4).mono ?_
  rintro e w4 ⟨rfl, rfl⟩
  go_wp2_with fail
  refine (doom_nil i n w4).mono ?_
  rintro e w4 ⟨rfl, rfl⟩
  go_wp2_with fail
  refine (restart_nil n w4).mono ?_
  rintro e w4 ⟨rfl, rfl⟩
  go_wp2_with fail
  refine (on_nil w4).mono ?_
  rintro e w4 ⟨rfl, rfl⟩
  go_wp2_with fail
  refine (failed_nil i w4).mono ?_
  rintro e w4 ⟨rfl, rfl⟩
  go_wp2_with fail
  refine (blocks_nil w4).mono ?_
  rintro e w4 ⟨rfl, rfl⟩
  go_wp2_with fail
  refine (pages_nil w4).mono ?_
  rintro e w4 ⟨rfl, rfl⟩
  go_wp2_with fail
  refine (next_nil i w4).mono ?_
  rintro e w4 ⟨rfl, rfl⟩
  go_wp2_with fail
  refine (erases_nil i w4).mono ?_
  rintro e w4 ⟨rfl, rfl⟩
  go_wp2_with fail
  refine (boots_nil w4).mono ?_
  rintro e w4 ⟨rfl, rfl⟩
  go_wp2_with fail
  refine (ops_nil w4).mono ?_
  rintro e w4 ⟨rfl, rfl⟩
  go_wp2_with fail
  refine (fence_nil w4).mono ?_
  rintro e w4 ⟨rfl, rfl⟩
  go_wp2
  go_ret
  exact ⟨rfl, hB4.out⟩
end Go.Proofs.Ytineicehipgnjaa.Nand
