import Derived.Test.YtnlidokfmpfepaaPoolNil
set_option linter.unusedVariables false
set_option linter.unusedSimpArgs false
namespace Go.Proofs.Ytnlidokfmpfepaa.Pool
open Go.RowKit Go.Proofs.Ytnlidokfmpfepaa.Kit Go.Maps

def st (u : Nat) : List (Option Nat) := ((newH [1, 4, 6]).set 4 (some 3)).set 1 (some u)
theorem st_facts : ∀ u, u < 3 → hAt (st u) 4 = some 3 ∧ hAt (st u) 1 = some u ∧ hAt (st u) 6 = some 0 ∧ setH [1, 4, 6] (st u) 4 3 = st u ∧ cntH (st u) 3 = 1 := by decide +kernel
theorem st_set : ∀ u, u < 3 → ∀ v, v < 3 → setH [1, 4, 6] (st u) 1 v = st v := by decide +kernel
theorem st_start : setH [1, 4, 6] (newH [1, 4, 6]) 4 3 = st 0 ∧ hAt (newH [1, 4, 6]) 4 = some 0 := by decide +kernel

set_option maxRecDepth 100000 in
set_option maxHeartbeats 8000000 in
theorem law_dead (A : Option Addr) (n c : Nat) (xs : List Int) (w : World) (hz : Nums w .u8 A n xs) :
    Calls Try.prog 5 #[.slice A n c] w fun e w' => e = .returned (.bool true) ∧ Below w.heap.size w w' := by
  have hn := hz.most
  have Hz := hid hz
  clear hz
  go_enter Try.func5, Try.ntmps5
  go_wp2_with fail
  refine (awake_any w).mono ?_
  rintro e w1 ⟨rfl, hB1⟩
  by_cases h60 : 60 < n
  · go_wp2_with fail
    refine (awake_any w1).mono ?_
    rintro e w2 ⟨rfl, hB2⟩
    go_wp2
    go_ret
    exact ⟨rfl, hB1.trans (hB2.mono hB1.size)⟩
  · go_wp2_with fail
    have hb1 : Blk (w1.alloc (.cells #[.int .i64 1, .int .i64 4, .int .i64 6] 3)) w1.heap.size (([1, 4, 6] : List Int).map (Value.int .i64)).toArray 3 := Blk.new _ _ _
    have hBa : Below w.heap.size w (w1.alloc (.cells #[.int .i64 1, .int .i64 4, .int .i64 6] 3)) := hB1.alloc hB1.size _
    refine (new_lit [1, 4, 6] w1.heap.size 3 _ hb1 (rise_dec _ (by decide)) (by decide) (by decide)).mono ?_
    rintro e w2 ⟨hB2, b, g, A', c', rfl, hp2, hg2⟩
    have hg : w.heap.size ≤ g := Nat.le_trans hBa.size hg2
    have hB3 := hBa.trans (hB2.mono hBa.size)
    clear hb1 hBa hB2 hg2 hB1
    have hs1 := set_ok b g _ A' _ c' _ _ 4 0 3 w2 hp2 (by decide) st_start.2 (by decide) (by decide) (by decide)
    rw [st_start.1] at hs1
    go_wp2_with fail
    refine hs1.mono ?_
    rintro e w4 ⟨rfl, ⟨n4, hn4, hp4⟩, hG4⟩
    have hB4 := hB3.grown hG4 hB3.size (by intro k hk; cases hk; exact hg)
    have hn4' : n4 ≤ 5 := hn4
    clear hs1 hp2 hG4 hB3 hn4
    have Hp4 := hid hp4
    clear hp4
    go_wp2
    go_loopw [5] (fun x w' => ∃ i nn u : Nat, i ≤ n ∧ x = .int .i64 (i : Int) ∧ u < 3 ∧ nn ≤ 5 + 4 * i ∧ PS w' b g nn A' 3 c' [1, 4, 6] (st u) ∧ Below w.heap.size w w') (fun x _ => n - (intOf x).toNat)
    case atStart => exact ⟨0, n4, 0, by omega, rfl, by decide, hn4', Hp4.out, hB4⟩
    case round =>
      clear hB4 hn4' Hp4
      obtain ⟨i, nn, u, hi, rfl, hu, hnn, hp, hB⟩ := hrel
      obtain ⟨f4, f1, f6, fs, fc⟩ := st_facts u hu
      by_cases hlt : i < n
      · obtain ⟨bz, oz, rfl, hcz⟩ := (Hz.out.below hB).at_ i hlt
        obtain ⟨hx0, hx1⟩ := wf_u8 ((Hz.out.below hB).wf_at i hlt)
        generalize xs.getD i 0 = x at *
        obtain ⟨x, rfl⟩ := Int.eq_ofNat_of_zero_le hx0
        obtain ⟨h, hh⟩ : ∃ h, h = x % 4 := ⟨_, rfl⟩
        have q1 : (x : Int).tmod 4 = (h : Int) := by rw [Int.tmod_eq_emod_of_nonneg (by omega)]; omega
        have hh4 : h < 4 := by omega
        clear hx0 hx1 hh
        by_cases h3 : h = 3
        · subst h3
          have hset := set_ok b g nn A' _ c' _ _ 4 3 3 wr hp (by decide) f4 (by decide) (by decide) (by omega)
          rw [fs] at hset
          go_wp2_with fail
          refine hset.mono ?_
          rintro e w4 ⟨rfl, ⟨n5, hn5, hp5⟩, hG5⟩
          have hB5 := hB.grown hG5 hB.size (by intro k hk; cases hk; exact hg)
          have hhow := how_any b g n5 A' _ c' _ _ 4 w4 hp5 (i64wf_of (by decide))
          rw [f4] at hhow
          clear hset hp hB hG5 f4 f1 f6 fs fc
          have Hp5 := hid hp5
          clear hp5
          go_wp2_with fail
          refine hhow.mono ?_
          rintro e w6 ⟨rfl, rfl⟩
          clear hhow
          go_wp2
          go_roundw
          case rel => exact ⟨i + 1, n5, u, by omega, by go_num, hu, by omega, Hp5.out, hB5⟩
          case measure => simp [intOf]; omega
        · have h3' : (h : Int) ≠ 3 := by omega
          have hs1 := set_dead b g nn A' _ c' _ _ 4 h wr hp (i64wf_of (by decide)) f4 (by omega)
          have hhow := how_any b g nn A' _ c' _ _ 4 wr hp (i64wf_of (by decide))
          have hs2 := set_ok b g nn A' _ c' _ _ 1 u h wr hp (by decide) f1 (by omega) (by omega) (by omega)
          rw [f4] at hhow
          rw [st_set u hu h (by omega)] at hs2
          have Hp := hid hp
          clear hp f4 f1 f6 fs fc
          go_wp2_with fail
          refine hs1.mono ?_
          rintro e w6 ⟨rfl, rfl⟩
          go_wp2_with fail
          refine hhow.mono ?_
          rintro e w6 ⟨rfl, rfl⟩
          go_wp2_with fail
          refine hs2.mono ?_
          rintro e w7 ⟨rfl, ⟨n5, hn5, hp5⟩, hG5⟩
          have hB5 := hB.grown hG5 hB.size (by intro k hk; cases hk; exact hg)
          have hhow2 := how_any b g n5 A' _ c' _ _ 1 w7 hp5 (i64wf_of (by decide))
          rw [(st_facts h (by omega)).2.1] at hhow2
          have Hp5 := hid hp5
          clear hp5 hG5 hs1 hs2 hhow hB hcz
          go_wp2_with fail
          refine hhow2.mono ?_
          rintro e w8 ⟨rfl, rfl⟩
          clear hhow2
          go_wp2
          go_roundw
          case rel => exact ⟨i + 1, n5, h, by omega, by go_num, by omega, by omega, Hp5.out, hB5⟩
          case measure => simp [intOf]; omega
      · obtain rfl : i = n := by omega
        have hct := count_any b g nn A' _ c' _ _ 3 wr hp (by decide)
        rw [fc] at hct
        go_wp2_with fail
        refine hct.mono ?_
        rintro e w6 ⟨rfl, hB6⟩
        have hhow := how_any b g nn A' _ c' _ _ 6 w6 (hp.later hB6) (i64wf_of (by decide))
        rw [f6] at hhow
        have hB7 := hB.trans (hB6.mono hB.size)
        clear hct hp hB hB6 f4 f1 f6 fs fc
        go_wp2_with fail
        refine hhow.mono ?_
        rintro e w8 ⟨rfl, rfl⟩
        go_wp2
        go_ret
        exact ⟨rfl, hB7⟩
end Go.Proofs.Ytnlidokfmpfepaa.Pool
