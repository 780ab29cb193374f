import Derived.Test.YtpncgfdnilmhhaaSheetForm
set_option linter.unusedVariables false
set_option linter.unusedSimpArgs false
namespace Go.Proofs.Ytpncgfdnilmhhaa.Sheet
open Go.RowKit Go.Proofs.Ytpncgfdnilmhhaa.Kit Go.Proofs.Ytpncgfdnilmhhaa.Oct

/-- A sheet as a value. -/
def sv (K E S a F : Int) (A : Option Addr) (n c : Nat) : Value := .agg #[.int .u8 K, .int .u64 E, .int .u64 S, .int .i64 a, .int .i64 F, .slice A n c]

set_option maxRecDepth 100000 in
set_option maxHeartbeats 4000000 in
theorem same_any (K E S a F : Int) (A : Option Addr) (n c : Nat) (xs : List Int) (K' E' S' a' F' : Int) (A' : Option Addr) (n' c' : Nat) (ys : List Int) (w : World) (hz : Nums w .u8 A n xs) (hz' : Nums w .u8 A' n' ys) :
    Calls Try.prog 13 #[.agg #[.int .u8 K, .int .u64 E, .int .u64 S, .int .i64 a, .int .i64 F, .slice A n c], .agg #[.int .u8 K', .int .u64 E', .int .u64 S', .int .i64 a', .int .i64 F', .slice A' n' c']] w fun e w' => e = .returned (.bool (decide (K = K' ∧ E = E' ∧ S = S' ∧ a = a' ∧ F = F' ∧ xs = ys))) ∧ Below w.heap.size w w' := by
  have hse := str_eq (isB_of hz) (isB_of hz')
  go_enter Try.func13, Try.ntmps13
  go_upto_region 1 with (fail)
  obtain ⟨w2, hw2⟩ : ∃ w2, w2 = ((w.alloc (.cells #[.int .u8 K, .int .u64 E, .int .u64 S, .int .i64 a, .int .i64 F, .slice A n c] 30)).alloc (.cells #[.int .u8 K', .int .u64 E', .int .u64 S', .int .i64 a', .int .i64 F', .slice A' n' c'] 30)) := ⟨_, rfl⟩
  have hb1 : Blk w2 w.heap.size #[.int .u8 K, .int .u64 E, .int .u64 S, .int .i64 a, .int .i64 F, .slice A n c] 30 := by rw [hw2]; exact (Blk.new _ _ _).alloc _
  have hb2 : Blk w2 (w.heap.size + 1) #[.int .u8 K', .int .u64 E', .int .u64 S', .int .i64 a', .int .i64 F', .slice A' n' c'] 30 := by
    rw [hw2]
    have := Blk.new (w.alloc (.cells #[.int .u8 K, .int .u64 E, .int .u64 S, .int .i64 a, .int .i64 F, .slice A n c] 30)) #[.int .u8 K', .int .u64 E', .int .u64 S', .int .i64 a', .int .i64 F', .slice A' n' c'] 30
    simpa using this
  have hB : Below w.heap.size w w2 := by rw [hw2]; exact ((Below.refl _ _).alloc (Nat.le_refl _) _).alloc (by simp) _
  rw [← hw2]
  clear hw2
  have c0 := hb1.cell 0
  have c1 := hb1.cell 1
  have c2 := hb1.cell 2
  have c3 := hb1.cell 3
  have c4 := hb1.cell 4
  have c5 := hb1.cell 5
  have d0 := hb2.cell 0
  have d1 := hb2.cell 1
  have d2 := hb2.cell 2
  have d3 := hb2.cell 3
  have d4 := hb2.cell 4
  have d5 := hb2.cell 5
  simp only [List.getElem?_toArray, List.getElem?_cons_zero, List.getElem?_cons_succ] at c0 c1 c2 c3 c4 c5 d0 d1 d2 d3 d4 d5
  clear hb1 hb2
  have k1 := conv_str (c := c) (hz.below hB)
  have k2 := conv_str (c := c') (hz'.below hB)
  clear hz hz'
  go_wp2
  all_goals
    go_ret
    refine ⟨?_, hB⟩
    show Ending.returned (Value.bool _) = Ending.returned (Value.bool _)
    congr 2
    first
      | exact (decide_eq_false (by rintro ⟨h1, h2, h3, h4, h5, h6⟩; contradiction)).symm
      | (simp only [*, true_and])
end Go.Proofs.Ytpncgfdnilmhhaa.Sheet
