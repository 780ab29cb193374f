import Derived.Test.YtnlidokfmpfepaaPoolCount
set_option linter.unusedVariables false
set_option linter.unusedSimpArgs false
namespace Go.Proofs.Ytnlidokfmpfepaa.Pool
open Go.RowKit Go.Proofs.Ytnlidokfmpfepaa.Kit Go.Maps

theorem nums_of_blk {w : World} {g : Nat} {T : TypeId} (xs : List Int) (h : Blk w g (xs.map (Value.int .i64)).toArray T) (hw : ∀ x ∈ xs, (Lit.int .i64 x).wf = true) (hl : xs.length ≤ 9223372036854775807) : Nums w .i64 (some ⟨g, 0, none⟩) xs.length xs :=
  ⟨rfl, hl, fun j hj => ⟨g, 0, rfl, fun i hi => by
    rw [Nat.zero_add, h.cell]
    simp [List.getD_eq_getElem?_getD, List.getElem?_eq_getElem hi]⟩, hw⟩
theorem rise_dec (xs : List Int) (h : (List.range xs.length).all (fun i => decide (0 ≤ xs.getD i 0 ∧ xs.getD i 0 < 64 ∧ (0 < i → xs.getD (i - 1) 0 < xs.getD i 0))) = true) : Rise xs := by
  intro i hi
  have h1 : decide (0 ≤ xs.getD i 0 ∧ xs.getD i 0 < 64 ∧ (0 < i → xs.getD (i - 1) 0 < xs.getD i 0)) = true := List.all_eq_true.1 h i (by simpa using hi)
  have h2 : 0 ≤ xs.getD i 0 ∧ xs.getD i 0 < 64 ∧ (0 < i → xs.getD (i - 1) 0 < xs.getD i 0) := of_decide_eq_true h1
  exact h2
theorem new_lit (xs : List Int) (g0 : Nat) (T : TypeId) (w : World) (hb : Blk w g0 (xs.map (Value.int .i64)).toArray T) (hr : Rise xs) (hw : ∀ x ∈ xs, (Lit.int .i64 x).wf = true) (hl : xs.length ≤ 1000) :
    Calls Try.prog 18 #[.slice (some ⟨g0, 0, none⟩) xs.length xs.length] w fun e w' => Below w.heap.size w w' ∧ ∃ b g A' c', e = .returned (.tuple #[.pointer (some ⟨b, 0, none⟩), .int .i64 0]) ∧ PS w' b g xs.length A' xs.length c' xs (newH xs) ∧ w.heap.size ≤ g := by
  refine (new_any _ _ _ xs w (nums_of_blk xs hb hw (by omega)) (Nat.le_refl _) hl).mono ?_
  rintro e w' ⟨hB, ⟨-, h⟩ | ⟨h, -⟩⟩
  · exact ⟨hB, h⟩
  · exact absurd hr h

set_option maxRecDepth 100000 in
set_option maxHeartbeats 4000000 in
theorem awake_any (w : World) : Calls Try.prog 17 #[] w fun e w' => e = .returned (.bool true) ∧ Below w.heap.size w w' := by
  go_enter Try.func17, Try.ntmps17
  go_wp2_with fail
  have hb1 : Blk (w.alloc (.cells #[.int .i64 2, .int .i64 3] 3)) w.heap.size (([2, 3] : List Int).map (Value.int .i64)).toArray 3 := Blk.new _ _ _
  have hB1 : Below w.heap.size w (w.alloc (.cells #[.int .i64 2, .int .i64 3] 3)) := (Below.refl _ _).alloc (Nat.le_refl _) _
  refine (new_lit [2, 3] w.heap.size 3 _ hb1 (rise_dec _ (by decide)) (by decide) (by decide)).mono ?_
  rintro e w2 ⟨hB2, b, g, A', c', rfl, hp2, hg2⟩
  have hg : w.heap.size ≤ g := Nat.le_trans hB1.size hg2
  have hB3 := hB1.trans (hB2.mono hB1.size)
  clear hb1 hB1 hB2 hg2
  have hs1 := set_ok b g _ A' _ c' _ _ 2 0 2 w2 hp2 (by decide) (by decide) (by decide) (by decide) (by decide)
  go_wp2_with fail
  refine hs1.mono ?_
  rintro e w4 ⟨rfl, ⟨n4, hn4, hp4⟩, hG4⟩
  have hB4 := hB3.grown hG4 hB3.size (by intro k hk; cases hk; exact hg)
  have hn4' : n4 ≤ 4 := hn4
  clear hs1 hp2 hG4 hB3 hn4
  have hs2 := set_ok b g n4 A' _ c' _ _ 3 0 2 w4 hp4 (by decide) (by decide) (by decide) (by decide) (by omega)
  go_wp2_with fail
  refine hs2.mono ?_
  rintro e w5 ⟨rfl, ⟨n5, hn5, hp5⟩, hG5⟩
  have hB5 := hB4.grown hG5 hB4.size (by intro k hk; cases hk; exact hg)
  clear hs2 hp4 hG5 hB4 hn5
  have hh := how_any b g n5 A' _ c' _ _ 2 w5 hp5 (i64wf_of (by decide))
  have e1 : (((hAt (setH [2, 3] (setH [2, 3] (newH [2, 3]) 2 2) 3 2) 2).getD 3 : Nat) : Int) = 1 := by decide +kernel
  rw [e1] at hh
  clear e1 hp5
  go_wp2_with fail
  refine hh.mono ?_
  rintro e w6 ⟨rfl, rfl⟩
  go_wp2
  go_ret
  exact ⟨rfl, hB5⟩

set_option maxHeartbeats 4000000 in
theorem law_nil (k : Int) (hk : -9223372036854775808 ≤ k ∧ k ≤ 9223372036854775807) (h : Int) (hh : 0 ≤ h ∧ h ≤ 255) (A : Option Addr) (n c : Nat) (xs : List Int) (w : World) (hz : Nums w .i64 A n xs) :
    Calls Try.prog 10 #[.int .i64 k, .int .u8 h, .slice A n c] w fun e w' => e = .returned (.bool true) ∧ Below w.heap.size w w' := by
  clear hk hh hz
  go_enter Try.func10, Try.ntmps10
  go_wp2_with fail
  refine (open_nil w).mono ?_
  rintro e w1 ⟨rfl, rfl⟩
  go_wp2_with fail
  refine (least_nil h A n c w1).mono ?_
  rintro e w2 ⟨rfl, rfl⟩
  go_wp2_with fail
  refine (awake_any w2).mono ?_
  rintro e w3 ⟨rfl, hB3⟩
  go_wp2_with fail
  refine (set_nil k h w3).mono ?_
  rintro e w4 ⟨rfl, rfl⟩
  go_wp2_with fail
  refine (how_nil k w4).mono ?_
  rintro e w5 ⟨rfl, rfl⟩
  go_wp2_with fail
  refine (count_nil h w5).mono ?_
  rintro e w6 ⟨rfl, rfl⟩
  go_wp2
  go_ret
  exact ⟨rfl, hB3⟩
end Go.Proofs.Ytnlidokfmpfepaa.Pool
