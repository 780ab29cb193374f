import Derived.Test.YtcfildbgnjhjmaaNand
import Derived.StillTailTactics
set_option linter.unusedVariables false
set_option linter.unusedSimpArgs false
namespace Go.Proofs.Ytcfildbgnjhjmaa.Nand
open Go.RowKit Go.Proofs.Ytcfildbgnjhjmaa.Kit

theorem AR.cells {w : World} {F : Nat → Prop} {b gb : Nat} {pv : Nat → Value} {wv : Value} {N : NA} (h : AR w F b gb pv wv N) :
    w.cell? ⟨b, 0, none⟩ = some (.slice (some ⟨gb, 0, none⟩) N.bs.length N.bs.length) ∧ w.cell? ⟨b, 1, none⟩ = some (.int .i64 (N.pages : Int)) ∧ w.cell? ⟨b, 2, none⟩ = some (.int .u64 N.fence) ∧ w.cell? ⟨b, 3, none⟩ = some (.int .i64 N.boots) ∧
    w.cell? ⟨b, 4, none⟩ = some (.int .i64 (N.armed : Int)) ∧ w.cell? ⟨b, 5, none⟩ = some (.bool N.off) ∧ w.cell? ⟨b, 6, none⟩ = some (.int .i64 N.ops) ∧ w.cell? ⟨b, 7, none⟩ = some wv :=
  ⟨h.hd.cell 0, h.hd.cell 1, h.hd.cell 2, h.hd.cell 3, h.hd.cell 4, h.hd.cell 5, h.hd.cell 6, h.hd.cell 7⟩
/-- The cells of one block. -/
theorem AR.recs {w : World} {F : Nat → Prop} {b gb : Nat} {pv : Nat → Value} {wv : Value} {N : NA} (h : AR w F b gb pv wv N) (i : Nat) (hi : i < N.bs.length) :
    (∃ A c, pv i = .slice A (N.blk i).pages.length c ∧ w.cell? ⟨gb, i * 6, none⟩ = some (.slice A (N.blk i).pages.length c)) ∧ w.cell? ⟨gb, i * 6 + 1, none⟩ = some (.int .i64 (N.blk i).erases) ∧ w.cell? ⟨gb, i * 6 + 2, none⟩ = some (.bool (N.blk i).half) ∧
    w.cell? ⟨gb, i * 6 + 3, none⟩ = some (.bool (N.blk i).dead) ∧ w.cell? ⟨gb, i * 6 + 4, none⟩ = some (.bool (N.blk i).failed) ∧ w.cell? ⟨gb, i * 6 + 5, none⟩ = some (.int .i64 ((N.blk i).doom : Int)) := by
  refine ⟨?_, h.row.cell i hi 1 _ rfl, h.row.cell i hi 2 _ rfl, h.row.cell i hi 3 _ rfl, h.row.cell i hi 4 _ rfl, h.row.cell i hi 5 _ rfl⟩
  obtain ⟨xs, ho, _⟩ := h.pgs i hi
  obtain ⟨A, c, e⟩ := own_slice ho
  refine ⟨A, c, e, ?_⟩
  rw [← e]
  exact h.row.cell i hi 0 _ rfl
theorem blocks_nil (w : World) : Calls Try.prog 37 #[.pointer none] w fun e w' => e = .returned (.int .i64 0) ∧ w' = w := by
  go_enter Try.func37, Try.ntmps37
  go_wp2
  go_ret
  exact ⟨rfl, rfl⟩
theorem pages_nil (w : World) : Calls Try.prog 39 #[.pointer none] w fun e w' => e = .returned (.int .i64 0) ∧ w' = w := by
  go_enter Try.func39, Try.ntmps39
  go_wp2
  go_ret
  exact ⟨rfl, rfl⟩
theorem next_nil (i : Int) (w : World) : Calls Try.prog 17 #[.pointer none, .int .i64 i] w fun e w' => e = .returned (.int .i64 0) ∧ w' = w := by
  go_enter Try.func17, Try.ntmps17
  go_wp2
  go_ret
  exact ⟨rfl, rfl⟩
theorem erases_nil (i : Int) (w : World) : Calls Try.prog 18 #[.pointer none, .int .i64 i] w fun e w' => e = .returned (.int .i64 0) ∧ w' = w := by
  go_enter Try.func18, Try.ntmps18
  go_wp2
  go_ret
  exact ⟨rfl, rfl⟩
theorem failed_nil (i : Int) (w : World) : Calls Try.prog 21 #[.pointer none, .int .i64 i] w fun e w' => e = .returned (.bool false) ∧ w' = w := by
  go_enter Try.func21, Try.ntmps21
  go_wp2
  go_ret
  exact ⟨rfl, rfl⟩
theorem raise_nil (i : Int) (w : World) : Calls Try.prog 19 #[.pointer none, .int .u64 i] w fun e w' => e = .returned (.int .i64 5) ∧ w' = w := by
  go_enter Try.func19, Try.ntmps19
  go_wp2
  go_ret
  exact ⟨rfl, rfl⟩
theorem arm_nil (i : Int) (w : World) : Calls Try.prog 60 #[.pointer none, .int .i64 i] w fun e w' => e = .returned (.int .i64 5) ∧ w' = w := by
  go_enter Try.func60, Try.ntmps60
  go_wp2
  go_ret
  exact ⟨rfl, rfl⟩
theorem doom_nil (i n : Int) (w : World) : Calls Try.prog 20 #[.pointer none, .int .i64 i, .int .i64 n] w fun e w' => e = .returned (.int .i64 5) ∧ w' = w := by
  go_enter Try.func20, Try.ntmps20
  go_wp2
  go_ret
  exact ⟨rfl, rfl⟩
theorem restart_nil (i : Int) (w : World) : Calls Try.prog 61 #[.pointer none, .int .i64 i] w fun e w' => e = .returned (.int .i64 5) ∧ w' = w := by
  go_enter Try.func61, Try.ntmps61
  go_wp2
  go_ret
  exact ⟨rfl, rfl⟩
theorem at_nil (i : Int) (w : World) : Calls Try.prog 40 #[.pointer none, .int .i64 i] w fun e w' => e = .returned (.tuple #[.pointer none, .int .i64 5]) ∧ w' = w := by
  go_enter Try.func40, Try.ntmps40
  go_wp2
  go_ret2
  exact ⟨rfl, rfl⟩
theorem blocks_any (F : Nat → Prop) (b : Nat) (N : NA) (w : World) (h : Arr w F b N) : Calls Try.prog 37 #[.pointer (some ⟨b, 0, none⟩)] w fun e w' => e = .returned (.int .i64 (N.bs.length : Int)) ∧ w' = w := by
  obtain ⟨gb, pv, wv, h⟩ := h
  obtain ⟨c0, c1, c2, c3, c4, c5, c6, c7⟩ := h.cells
  have hb := h.wf.nb
  clear h
  generalize N.bs.length = n at *
  go_enter Try.func37, Try.ntmps37
  go_wp2
  go_ret
  exact ⟨rfl, rfl⟩
theorem pages_any (F : Nat → Prop) (b : Nat) (N : NA) (w : World) (h : Arr w F b N) : Calls Try.prog 39 #[.pointer (some ⟨b, 0, none⟩)] w fun e w' => e = .returned (.int .i64 (N.pages : Int)) ∧ w' = w := by
  obtain ⟨gb, pv, wv, h⟩ := h
  obtain ⟨c0, c1, c2, c3, c4, c5, c6, c7⟩ := h.cells
  have hb := h.wf.nb
  clear h
  skip
  go_enter Try.func39, Try.ntmps39
  go_wp2
  go_ret
  exact ⟨rfl, rfl⟩
def NA.inI (N : NA) (i : Int) : Bool := decide (0 ≤ i ∧ i < N.bs.length)
theorem NA.inI_nat (N : NA) (i : Nat) (h : i < N.bs.length) : N.inI (i : Int) = true := decide_eq_true ⟨by omega, by omega⟩
theorem next_any (F : Nat → Prop) (b : Nat) (N : NA) (i : Int) (w : World) (h : Arr w F b N) : Calls Try.prog 17 #[.pointer (some ⟨b, 0, none⟩), .int .i64 i] w fun e w' => e = .returned (.int .i64 (if N.inI i then ((N.blk i.toNat).pages.length : Int) else 0)) ∧ w' = w := by
  obtain ⟨gb, pv, wv, h⟩ := h
  obtain ⟨c0, -, -, -, -, -, -, -⟩ := h.cells
  have hb := h.wf.nb
  by_cases hi : 0 ≤ i ∧ i < N.bs.length
  · rw [show N.inI i = true from decide_eq_true hi, if_pos rfl]
    obtain ⟨h0, h1⟩ := hi
    obtain ⟨i, rfl⟩ := Int.eq_ofNat_of_zero_le h0
    rw [show ((i : Int)).toNat = i by omega]
    obtain ⟨⟨A, c, -, d0⟩, d1, d2, d3, d4, d5⟩ := h.recs i (by omega)
    clear h
    generalize N.bs.length = n at *
    generalize (N.blk i).pages.length = m at *
    generalize (N.blk i).erases = x at *
    generalize (N.blk i).failed = y at *
    go_enter Try.func17, Try.ntmps17
    go_wp2
    go_ret
    exact ⟨rfl, rfl⟩
  · rw [show N.inI i = false from decide_eq_false hi]
    clear h
    show Calls _ _ _ _ fun e w' => e = .returned (.int .i64 0) ∧ w' = w
    generalize N.bs.length = n at *
    by_cases h0 : i < 0
    · clear hi
      go_enter Try.func17, Try.ntmps17
      go_wp2
      go_ret
      exact ⟨rfl, rfl⟩
    · have h1 : (n : Int) ≤ i := by omega
      clear hi
      go_enter Try.func17, Try.ntmps17
      go_wp2
      go_ret
      exact ⟨rfl, rfl⟩
theorem erases_any (F : Nat → Prop) (b : Nat) (N : NA) (i : Int) (w : World) (h : Arr w F b N) : Calls Try.prog 18 #[.pointer (some ⟨b, 0, none⟩), .int .i64 i] w fun e w' => e = .returned (.int .i64 (if N.inI i then (N.blk i.toNat).erases else 0)) ∧ w' = w := by
  obtain ⟨gb, pv, wv, h⟩ := h
  obtain ⟨c0, -, -, -, -, -, -, -⟩ := h.cells
  have hb := h.wf.nb
  by_cases hi : 0 ≤ i ∧ i < N.bs.length
  · rw [show N.inI i = true from decide_eq_true hi, if_pos rfl]
    obtain ⟨h0, h1⟩ := hi
    obtain ⟨i, rfl⟩ := Int.eq_ofNat_of_zero_le h0
    rw [show ((i : Int)).toNat = i by omega]
    obtain ⟨⟨A, c, -, d0⟩, d1, d2, d3, d4, d5⟩ := h.recs i (by omega)
    clear h
    generalize N.bs.length = n at *
    generalize (N.blk i).pages.length = m at *
    generalize (N.blk i).erases = x at *
    generalize (N.blk i).failed = y at *
    go_enter Try.func18, Try.ntmps18
    go_wp2
    go_ret
    exact ⟨rfl, rfl⟩
  · rw [show N.inI i = false from decide_eq_false hi]
    clear h
    show Calls _ _ _ _ fun e w' => e = .returned (.int .i64 0) ∧ w' = w
    generalize N.bs.length = n at *
    by_cases h0 : i < 0
    · clear hi
      go_enter Try.func18, Try.ntmps18
      go_wp2
      go_ret
      exact ⟨rfl, rfl⟩
    · have h1 : (n : Int) ≤ i := by omega
      clear hi
      go_enter Try.func18, Try.ntmps18
      go_wp2
      go_ret
      exact ⟨rfl, rfl⟩
theorem failed_any (F : Nat → Prop) (b : Nat) (N : NA) (i : Int) (w : World) (h : Arr w F b N) : Calls Try.prog 21 #[.pointer (some ⟨b, 0, none⟩), .int .i64 i] w fun e w' => e = .returned (.bool (if N.inI i then (N.blk i.toNat).failed else false)) ∧ w' = w := by
  obtain ⟨gb, pv, wv, h⟩ := h
  obtain ⟨c0, -, -, -, -, -, -, -⟩ := h.cells
  have hb := h.wf.nb
  by_cases hi : 0 ≤ i ∧ i < N.bs.length
  · rw [show N.inI i = true from decide_eq_true hi, if_pos rfl]
    obtain ⟨h0, h1⟩ := hi
    obtain ⟨i, rfl⟩ := Int.eq_ofNat_of_zero_le h0
    rw [show ((i : Int)).toNat = i by omega]
    obtain ⟨⟨A, c, -, d0⟩, d1, d2, d3, d4, d5⟩ := h.recs i (by omega)
    clear h
    generalize N.bs.length = n at *
    generalize (N.blk i).pages.length = m at *
    generalize (N.blk i).erases = x at *
    generalize (N.blk i).failed = y at *
    go_enter Try.func21, Try.ntmps21
    go_wp2
    go_ret
    exact ⟨rfl, rfl⟩
  · rw [show N.inI i = false from decide_eq_false hi]
    clear h
    show Calls _ _ _ _ fun e w' => e = .returned (.bool false) ∧ w' = w
    generalize N.bs.length = n at *
    by_cases h0 : i < 0
    · clear hi
      go_enter Try.func21, Try.ntmps21
      go_wp2
      go_ret
      exact ⟨rfl, rfl⟩
    · have h1 : (n : Int) ≤ i := by omega
      clear hi
      go_enter Try.func21, Try.ntmps21
      go_wp2
      go_ret
      exact ⟨rfl, rfl⟩
theorem at_ok (F : Nat → Prop) (b gb : Nat) (pv : Nat → Value) (wv : Value) (N : NA) (i : Nat) (w : World) (h : AR w F b gb pv wv N) (hi : i < N.bs.length) (ho : N.off = false) :
    Calls Try.prog 40 #[.pointer (some ⟨b, 0, none⟩), .int .i64 (i : Int)] w fun e w' => e = .returned (.tuple #[.pointer (some ⟨gb, i * 6, none⟩), .int .i64 0]) ∧ w' = w := by
  obtain ⟨c0, -, -, -, -, c5, -, -⟩ := h.cells
  have hb := h.wf.nb
  clear h
  rw [ho] at c5
  clear ho
  generalize N.bs.length = n at *
  go_enter Try.func40, Try.ntmps40
  go_wp2
  go_ret2
  exact ⟨rfl, rfl⟩
theorem at_no (F : Nat → Prop) (b gb : Nat) (pv : Nat → Value) (wv : Value) (N : NA) (i : Int) (w : World) (h : AR w F b gb pv wv N) (hi : N.atE i ≠ 0) :
    Calls Try.prog 40 #[.pointer (some ⟨b, 0, none⟩), .int .i64 i] w fun e w' => e = .returned (.tuple #[.pointer none, .int .i64 (N.atE i)]) ∧ w' = w := by
  obtain ⟨c0, -, -, -, -, c5, -, -⟩ := h.cells
  have hb := h.wf.nb
  clear h
  unfold NA.atE at *
  generalize N.bs.length = n at *
  by_cases h0 : i < 0
  · rw [if_pos (.inl h0)]
    clear hi
    go_enter Try.func40, Try.ntmps40
    go_wp2
    go_ret2
    exact ⟨rfl, rfl⟩
  · by_cases h1 : (n : Int) ≤ i
    · rw [if_pos (.inr h1)]
      clear hi
      go_enter Try.func40, Try.ntmps40
      go_wp2
      go_ret2
      exact ⟨rfl, rfl⟩
    · rw [if_neg (by omega)] at hi ⊢
      cases ho : N.off
      · rw [ho] at hi
        exact absurd rfl hi
      · rw [ho] at c5
        clear ho hi
        show Calls _ _ _ _ fun e w' => e = .returned (.tuple #[.pointer none, .int .i64 9]) ∧ w' = w
        go_enter Try.func40, Try.ntmps40
        go_wp2
        go_ret2
        exact ⟨rfl, rfl⟩
end Go.Proofs.Ytcfildbgnjhjmaa.Nand
