import Derived.Test.YtineicehipgnjaaNandPage
set_option linter.unusedVariables false
set_option linter.unusedSimpArgs false
namespace Go.Proofs.Ytineicehipgnjaa.Nand
open Go.RowKit Go.Proofs.Ytineicehipgnjaa.Kit

theorem page_b {w0 w : World} {b : Nat} {N : NA} (h : ArrB w0 w b N) (n : Int) (hn : 0 ≤ n ∧ n ≤ 255) :
    Calls Try.prog 13 #[.int .u8 n] w fun e w' => ∃ g, e = .returned (.slice (some ⟨g, 0, none⟩) 96 96) ∧ Nums w' .u8 (some ⟨g, 0, none⟩) 96 (pgL n) ∧ ArrB w0 w' b N ∧ Blk w' g ((pgL n).map (Value.int .u8)).toArray 5 ∧ w.heap.size ≤ g ∧ Below w.heap.size w w' := by
  refine (page_any n w hn).mono ?_
  rintro e w' ⟨g, he, hb, hg, hB⟩
  exact ⟨g, he, nums_lit hb (pgL_len n) (pgL_wf n), h.later hB, hb, hg, hB⟩

def aw0 : NA := newA 2 3 []
def aw1 : NA := (aw0.prog 0 0 (pgL 1) 5).1
def aw2 : NA := (aw1.raise 6).1
def aw3 : NA := (aw2.prog 0 1 (pgL 2) 5).1
theorem aw_facts : (aw0.prog 0 0 (pgL 1) 5).2 = 0 ∧ (aw1.raise 6).2 = 0 ∧ (aw2.prog 0 1 (pgL 2) 5).2 = 7 ∧ (if aw3.inI 0 then ((aw3.blk 0).pages.length : Int) else 0) = 1 := by decide +kernel
set_option maxRecDepth 100000 in
set_option maxHeartbeats 2000000 in
theorem awake_any (w : World) : Calls Try.prog 11 #[] w fun e w' => e = .returned (.bool true) ∧ Below w.heap.size w w' := by
  obtain ⟨f1, f2, f3, f4⟩ := aw_facts
  have hnew := new_b w 2 3 none 0 0 [] w (Below.refl _ _) (by omega) (by omega) (Nums.none _ _ _) (by simp)
  go_enter Try.func11, Try.ntmps11
  go_wp2_with fail
  refine hnew.mono ?_
  rintro e w1 ⟨b, rfl, h1⟩
  clear hnew
  replace h1 := hid h1
  go_wp2_with fail
  refine (page_b h1.out 1 (by omega)).mono ?_
  rintro e w2 ⟨g, rfl, hz, h2, -, -, -⟩
  have hp := program_b h2 0 0 _ 96 96 _ 5 hz (by decide)
  rw [show ((newA 2 3 []).prog 0 0 (pgL 1) 5).2 = 0 from f1] at hp
  clear h1 h2 hz
  go_wp2_with fail
  refine hp.mono ?_
  rintro e w3 ⟨rfl, h3⟩
  have hp2 := raise_b h3 6
  rw [show (((newA 2 3 []).prog 0 0 (pgL 1) 5).1.raise 6).2 = 0 from f2] at hp2
  clear hp h3
  go_wp2_with fail
  refine hp2.mono ?_
  rintro e w4 ⟨rfl, h4⟩
  clear hp2
  have h4 : ArrB w w4 b aw2 := h4
  have h4 := hid h4
  go_wp2_with fail
  refine (page_b h4.out 2 (by omega)).mono ?_
  rintro e w5 ⟨g2, rfl, hz, h5, -, -, -⟩
  have hp := program_b h5 0 1 _ 96 96 _ 5 hz (by decide)
  rw [f3] at hp
  clear h4 h5 hz
  go_wp2_with fail
  refine hp.mono ?_
  rintro e w6 ⟨rfl, h6⟩
  have hp2 := next_b h6 0
  rw [show (if (aw2.prog 0 1 (pgL 2) 5).1.inI 0 = true then (((aw2.prog 0 1 (pgL 2) 5).1.blk (0 : Int).toNat).pages.length : Int) else 0) = 1 from f4] at hp2
  have hB := hid h6.bel
  clear hp h6
  go_wp2_with fail
  refine hp2.mono ?_
  rintro e w6 ⟨rfl, rfl⟩
  clear hp2
  go_wp2
  go_ret
  exact ⟨rfl, hB.out⟩
end Go.Proofs.Ytineicehipgnjaa.Nand
