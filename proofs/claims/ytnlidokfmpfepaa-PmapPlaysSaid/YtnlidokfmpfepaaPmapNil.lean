import Derived.Test.YtnlidokfmpfepaaPmapOn
set_option linter.unusedVariables false
set_option linter.unusedSimpArgs false
namespace Go.Proofs.Ytnlidokfmpfepaa.Pmap
open Go.RowKit Go.Proofs.Ytnlidokfmpfepaa.Kit

set_option maxHeartbeats 2000000 in
theorem on_none (b ga gh gc N M : Nat) (at' : List (Int × Int)) (has : List Bool) (cnt : List Int) (k : Int) (w : World) (h : PM w b ga gh gc N M at' has cnt) (hk : ¬ (0 ≤ k ∧ k < M ∧ cnt.getD k.toNat 0 ≠ 0)) :
    Calls Try.prog 15 #[.pointer (some ⟨b, 0, none⟩), .int .i64 k] w fun e w' => e = .returned (.slice none 0 0) ∧ w' = w := by
  have hM := h.nM.2
  obtain ⟨c0, c1, c2⟩ := h.cells
  by_cases hk0 : k < 0
  · clear hk h
    go_enter Try.func15, Try.ntmps15
    go_wp2
    go_ret
    exact ⟨rfl, rfl⟩
  · obtain ⟨q, rfl⟩ := Int.eq_ofNat_of_zero_le (show 0 ≤ k by omega)
    rw [show ((q : Int)).toNat = q by omega] at hk
    by_cases hk1 : q < M
    · have hx : cnt.getD q 0 = 0 := by
        by_cases hx : cnt.getD q 0 = 0
        · exact hx
        · exact absurd ⟨by omega, by omega, hx⟩ hk
      have hcn := h.cnt_at q hk1
      rw [hx] at hcn
      have hkM : (q : Int) < (M : Int) := by omega
      have hq64 : (q : Int) < 64 := by omega
      clear hk h hx
      go_enter Try.func15, Try.ntmps15
      go_wp2
      go_ret
      exact ⟨rfl, rfl⟩
    · have hkM : (M : Int) ≤ (q : Int) := by omega
      clear hk h
      go_enter Try.func15, Try.ntmps15
      go_wp2
      go_ret
      exact ⟨rfl, rfl⟩

def z9 : List (Int × Int) := List.replicate 9 (0, 0)
def f9 : List Bool := List.replicate 9 false
def c4 : List Int := List.replicate 4 0

set_option maxRecDepth 100000 in
set_option maxHeartbeats 4000000 in
theorem awake_any (w : World) : Calls Try.prog 11 #[] w fun e w' => e = .returned (.bool true) ∧ Below w.heap.size w w' := by
  go_enter Try.func11, Try.ntmps11
  go_wp2_with fail
  refine (new_any 9 4 w (by decide) (by decide) (by decide) (by decide)).mono ?_
  rintro e w1 ⟨b, ga, gh, gc, rfl, hp1, hB1, hga, hgh, hgc, -, la, lh, lc⟩
  go_wp2_with fail
  refine (set_in b ga gh gc 9 4 _ _ _ 3 1 0 w1 hp1 (by decide) (by decide) (by decide) (fun h => absurd h (by decide)) (by decide) la lh lc).mono ?_
  rintro e w2 ⟨rfl, hp2, hF2⟩
  have hs2 := hF2.size
  have hB2 := hB1.trans (hF2.below hB1.size hga hgh hgc)
  go_wp2_with fail
  refine (set_in b ga gh gc 9 4 _ _ _ 3 2 5 w2 hp2 (by decide) (by decide) (by decide) (fun _ => by decide) (by decide) (by omega) (by omega) (by omega)).mono ?_
  rintro e w3 ⟨rfl, hp3, hF3⟩
  have hB3 := hB2.trans (hF3.below hB2.size hga hgh hgc)
  clear hp1 hp2 hF2 hF3 hB1 hB2
  go_wp2_with fail
  refine (on_any b ga gh gc 9 4 _ _ _ 2 w3 hp3 (by decide) (by decide) (by decide)).mono ?_
  rintro e w4 ⟨v, rfl, ho4, hB4⟩
  have hp4 := hp3.later hB4
  have ho : outs (byL (((List.replicate 9 ((0 : Int), (0 : Int))).set 3 (((1 : Nat) : Int), ((0 : Nat) : Int))).set 3 (((2 : Nat) : Int), ((5 : Nat) : Int))) (((List.replicate 9 false).set 3 true).set 3 true) 2 9) = [3] := by decide +kernel
  rw [ho] at ho4
  obtain ⟨A, c, rfl, hc, hz⟩ := own_nums ho4 (by decide)
  obtain ⟨bz, oz, rfl, hcell⟩ := hz.cell 0 (by decide)
  have h0 : w4.cell? ⟨bz, oz, none⟩ = some (.int .i64 3) := hcell 0 (by decide)
  have hc1 : 1 ≤ c := hc
  have hB5 := hB3.trans (hB4.mono hB3.size)
  clear ho4 hp3 hB4 hB3 hz hcell ho
  go_wp2_with fail
  have hct := count_any b ga gh gc 9 4 _ _ _ 1 w4 hp4
  have hv : (if (0 : Int) ≤ 1 ∧ (1 : Int) < ((4 : Nat) : Int) then (scnt ((List.replicate 9 ((0 : Int), (0 : Int))).set 3 (((1 : Nat) : Int), ((0 : Nat) : Int))) ((List.replicate 9 false).set 3 true) (scnt (List.replicate 9 ((0 : Int), (0 : Int))) (List.replicate 9 false) (List.replicate 4 (0 : Int)) 3 1) 3 2).getD (Int.toNat 1) 0 else 0) = 0 := by decide +kernel
  rw [hv] at hct
  clear hv hp4
  refine hct.mono ?_
  rintro e w5 ⟨rfl, rfl⟩
  clear hct
  go_wp2
  go_ret
  exact ⟨rfl, hB5⟩

set_option maxHeartbeats 4000000 in
theorem law_nil (a : Int) (ha : -9223372036854775808 ≤ a ∧ a ≤ 9223372036854775807) (B P : Int) (w : World) :
    Calls Try.prog 7 #[.int .i64 a, .agg #[.int .i64 B, .int .i64 P]] w fun e w' => e = .returned (.bool true) ∧ Below w.heap.size w w' := by
  clear ha
  go_enter Try.func7, Try.ntmps7
  go_upto_region 1 with (fail)
  obtain ⟨w1, hw⟩ : ∃ W, W = w.alloc (.cells #[.int .i64 B, .int .i64 P] 28) := ⟨_, rfl⟩
  have hb1 : Blk w1 w.heap.size #[.int .i64 B, .int .i64 P] 28 := by rw [hw]; exact Blk.new _ _ _
  have hB1 : Below w.heap.size w w1 := by rw [hw]; exact (Below.refl _ _).alloc (Nat.le_refl _) _
  rw [← hw]
  clear hw
  go_wp2_with fail
  refine (get_nil a w1).mono ?_
  rintro e w2 ⟨rfl, hB2⟩
  go_upto_region 3 with (fail)
  obtain ⟨w3, hw⟩ : ∃ W, W = w2.alloc (.cells #[.int .i64 0, .int .i64 0] 28) := ⟨_, rfl⟩
  have hB3 : Below w1.heap.size w1 w3 := by rw [hw]; exact hB2.alloc hB2.size _
  rw [← hw]
  clear hw hB2
  go_wp2_with fail
  refine (awake_any w3).mono ?_
  rintro e w4 ⟨rfl, hB4⟩
  have hB14 := hB3.trans (hB4.mono hB3.size)
  have hb4 := hb1.later hB14
  obtain ⟨⟨c0, c1⟩, -⟩ := hb4.two
  have hB05 := hB1.trans (hB14.mono hB1.size)
  clear hb4 hB3 hB4
  go_wp2_with fail
  refine (set_nil a B P w4).mono ?_
  rintro e w5 ⟨rfl, hB5⟩
  clear c0 c1
  have hB06 := hB05.trans (hB5.mono hB05.size)
  go_wp2_with fail
  refine (drop_nil a w5).mono ?_
  rintro e w6 ⟨rfl, rfl⟩
  go_wp2_with fail
  refine (count_nil a w6).mono ?_
  rintro e w7 ⟨rfl, rfl⟩
  go_wp2_with fail
  refine (len_nil w7).mono ?_
  rintro e w8 ⟨rfl, rfl⟩
  go_wp2_with fail
  refine (on_nil a w8).mono ?_
  rintro e w9 ⟨rfl, rfl⟩
  go_wp2
  go_ret
  exact ⟨rfl, hB06⟩
end Go.Proofs.Ytnlidokfmpfepaa.Pmap
