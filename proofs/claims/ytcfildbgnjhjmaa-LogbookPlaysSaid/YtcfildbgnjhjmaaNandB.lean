import Derived.Test.YtcfildbgnjhjmaaNandNew
set_option linter.unusedVariables false
set_option linter.unusedSimpArgs false
namespace Go.Proofs.Ytcfildbgnjhjmaa.Nand
open Go.RowKit Go.Proofs.Ytcfildbgnjhjmaa.Kit

/-- One array, all of it above what there was at w0. -/
def ArrB (w0 w : World) (b : Nat) (N : NA) : Prop := ∃ F, Arr w F b N ∧ (∀ g, F g → w0.heap.size ≤ g) ∧ Below w0.heap.size w0 w
theorem ArrB.bel {w0 w : World} {b : Nat} {N : NA} (h : ArrB w0 w b N) : Below w0.heap.size w0 w := by
  obtain ⟨F, h1, h2, h3⟩ := h
  exact h3
theorem ArrB.wf {w0 w : World} {b : Nat} {N : NA} (h : ArrB w0 w b N) : N.Wf := by
  obtain ⟨F, h1, h2, h3⟩ := h
  exact h1.wf
theorem ArrB.later {w0 w w' : World} {b : Nat} {N : NA} (h : ArrB w0 w b N) (hB : Below w.heap.size w w') : ArrB w0 w' b N := by
  obtain ⟨F, h1, h2, h3⟩ := h
  exact ⟨F, h1.later hB, h2, h3.trans (hB.mono h3.size)⟩
theorem ArrB.step {w0 w w' : World} {b : Nat} {N : NA} {F : Nat → Prop} (h2 : ∀ g, F g → w0.heap.size ≤ g) (h3 : Below w0.heap.size w0 w) (h : Arr w' (grow F w w') b N) (hf : Fr F w w') : ArrB w0 w' b N :=
  ⟨_, h, fun g hg => by rcases hg with hg | hg; exact h2 g hg; exact Nat.le_trans h3.size hg.1, h3.trans (hf.below h3.size h2)⟩
theorem ArrB.same {w0 w w' : World} {b : Nat} {N : NA} {F : Nat → Prop} (h2 : ∀ g, F g → w0.heap.size ≤ g) (h3 : Below w0.heap.size w0 w) (h : Arr w' F b N) (hf : Fr F w w') : ArrB w0 w' b N :=
  ⟨_, h, h2, h3.trans (hf.below h3.size h2)⟩
theorem new_b (w0 : World) (nb pg : Nat) (A : Option Addr) (m c : Nat) (bad : List Int) (w : World) (hB : Below w0.heap.size w0 w) (hn : 1 ≤ nb ∧ nb ≤ 64) (hp : 1 ≤ pg ∧ pg ≤ 32) (hz : Nums w .i64 A m bad) (hbad : ∀ x ∈ bad, 0 ≤ x ∧ x < (nb : Int)) :
    Calls Try.prog 14 #[.int .i64 (nb : Int), .int .i64 (pg : Int), .slice A m c] w fun e w' => ∃ b, e = .returned (.tuple #[.pointer (some ⟨b, 0, none⟩), .int .i64 0]) ∧ ArrB w0 w' b (newA nb pg bad) := by
  refine (new_any nb pg A m c bad w hn hp hz hbad).mono ?_
  rintro e w' ⟨b, he, h1, h2⟩
  exact ⟨b, he, _, h1, fun g hg => Nat.le_trans hB.size hg.1, hB.trans (h2.mono hB.size)⟩
theorem program_b {w0 w : World} {b : Nat} {N : NA} (h : ArrB w0 w b N) (i p : Int) (A : Option Addr) (n c : Nat) (q : List Int) (ep : Int) (hz : Nums w .u8 A n q) (hn : n ≤ 140737488355328) :
    Calls Try.prog 25 #[.pointer (some ⟨b, 0, none⟩), .int .i64 i, .int .i64 p, .slice A n c, .int .u64 ep] w fun e w' => e = .returned (.int .i64 (N.prog i p q ep).2) ∧ ArrB w0 w' b (N.prog i p q ep).1 := by
  obtain ⟨F, h1, h2, h3⟩ := h
  refine (program_any F b N i p A n c q ep w h1 hz hn).mono ?_
  rintro e w' ⟨he, ha, hf⟩
  exact ⟨he, ArrB.step h2 h3 ha hf⟩
theorem erase_b {w0 w : World} {b : Nat} {N : NA} (h : ArrB w0 w b N) (i ep : Int) :
    Calls Try.prog 29 #[.pointer (some ⟨b, 0, none⟩), .int .i64 i, .int .u64 ep] w fun e w' => e = .returned (.int .i64 (N.erase i ep).2) ∧ ArrB w0 w' b (N.erase i ep).1 := by
  obtain ⟨F, h1, h2, h3⟩ := h
  refine (erase_any F b N i ep w h1).mono ?_
  rintro e w' ⟨he, ha, hf⟩
  exact ⟨he, ArrB.step h2 h3 ha hf⟩
theorem restart_b {w0 w : World} {b : Nat} {N : NA} (h : ArrB w0 w b N) (cut : Int) :
    Calls Try.prog 61 #[.pointer (some ⟨b, 0, none⟩), .int .i64 cut] w fun e w' => e = .returned (.int .i64 0) ∧ ArrB w0 w' b (N.restart cut) := by
  obtain ⟨F, h1, h2, h3⟩ := h
  refine (restart_any F b N cut w h1).mono ?_
  rintro e w' ⟨he, ha, hf⟩
  exact ⟨he, ArrB.step h2 h3 ha hf⟩
theorem raise_b {w0 w : World} {b : Nat} {N : NA} (h : ArrB w0 w b N) (ep : Int) :
    Calls Try.prog 19 #[.pointer (some ⟨b, 0, none⟩), .int .u64 ep] w fun e w' => e = .returned (.int .i64 (N.raise ep).2) ∧ ArrB w0 w' b (N.raise ep).1 := by
  obtain ⟨F, h1, h2, h3⟩ := h
  refine (raise_any F b N ep w h1).mono ?_
  rintro e w' ⟨he, ha, hf⟩
  exact ⟨he, ArrB.same h2 h3 ha hf⟩
theorem arm_b {w0 w : World} {b : Nat} {N : NA} (h : ArrB w0 w b N) (n : Int) (hn : n ≤ 9223372036854775807) :
    Calls Try.prog 60 #[.pointer (some ⟨b, 0, none⟩), .int .i64 n] w fun e w' => e = .returned (.int .i64 (N.arm n).2) ∧ ArrB w0 w' b (N.arm n).1 := by
  obtain ⟨F, h1, h2, h3⟩ := h
  refine (arm_any F b N n w h1 hn).mono ?_
  rintro e w' ⟨he, ha, hf⟩
  exact ⟨he, ArrB.same h2 h3 ha hf⟩
theorem doom_b {w0 w : World} {b : Nat} {N : NA} (h : ArrB w0 w b N) (i n : Int) (hn : n ≤ 9223372036854775807) :
    Calls Try.prog 20 #[.pointer (some ⟨b, 0, none⟩), .int .i64 i, .int .i64 n] w fun e w' => e = .returned (.int .i64 (N.doomed i n).2) ∧ ArrB w0 w' b (N.doomed i n).1 := by
  obtain ⟨F, h1, h2, h3⟩ := h
  refine (doom_any F b N i n w h1 hn).mono ?_
  rintro e w' ⟨he, ha, hf⟩
  exact ⟨he, ArrB.same h2 h3 ha hf⟩
theorem next_b {w0 w : World} {b : Nat} {N : NA} (h : ArrB w0 w b N) (i : Int) :
    Calls Try.prog 17 #[.pointer (some ⟨b, 0, none⟩), .int .i64 i] w fun e w' => e = .returned (.int .i64 (if N.inI i then ((N.blk i.toNat).pages.length : Int) else 0)) ∧ w' = w := by
  obtain ⟨F, h1, h2, h3⟩ := h
  exact next_any F b N i w h1
theorem erases_b {w0 w : World} {b : Nat} {N : NA} (h : ArrB w0 w b N) (i : Int) :
    Calls Try.prog 18 #[.pointer (some ⟨b, 0, none⟩), .int .i64 i] w fun e w' => e = .returned (.int .i64 (if N.inI i then (N.blk i.toNat).erases else 0)) ∧ w' = w := by
  obtain ⟨F, h1, h2, h3⟩ := h
  exact erases_any F b N i w h1
theorem failed_b {w0 w : World} {b : Nat} {N : NA} (h : ArrB w0 w b N) (i : Int) :
    Calls Try.prog 21 #[.pointer (some ⟨b, 0, none⟩), .int .i64 i] w fun e w' => e = .returned (.bool (if N.inI i then (N.blk i.toNat).failed else false)) ∧ w' = w := by
  obtain ⟨F, h1, h2, h3⟩ := h
  exact failed_any F b N i w h1
theorem read_no_b {w0 w : World} {b : Nat} {N : NA} (h : ArrB w0 w b N) (i p : Int) (he : N.readE i p ≠ 0) :
    Calls Try.prog 65 #[.pointer (some ⟨b, 0, none⟩), .int .i64 i, .int .i64 p] w fun e w' => e = .returned (.tuple #[.slice none 0 0, .int .i64 (N.readE i p)]) ∧ w' = w := by
  obtain ⟨F, h1, h2, h3⟩ := h
  exact read_no F b N i p w h1 he
theorem read_yes_b {w0 w : World} {b : Nat} {N : NA} (h : ArrB w0 w b N) (i p : Int) (he : N.readE i p = 0) :
    Calls Try.prog 65 #[.pointer (some ⟨b, 0, none⟩), .int .i64 i, .int .i64 p] w fun e w' => ∃ A c, e = .returned (.tuple #[.slice A 96 c, .int .i64 0]) ∧ w'.ownsRow w.heap.size 5 1 (.slice A 96 c) 96 ((N.page i p).map (Value.int .u8)) ∧ ArrB w0 w' b N ∧ Below w.heap.size w w' := by
  have h' := h
  obtain ⟨F, h1, h2, h3⟩ := h
  refine (read_yes F b N i p w h1 he).mono ?_
  rintro e w' ⟨A, c, he, ho, hB⟩
  exact ⟨A, c, he, ho, h'.later hB, hB⟩
end Go.Proofs.Ytcfildbgnjhjmaa.Nand
