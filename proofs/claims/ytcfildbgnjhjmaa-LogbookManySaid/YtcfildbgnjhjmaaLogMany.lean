import Derived.Test.YtcfildbgnjhjmaaLogB
set_option linter.unusedVariables false
set_option linter.unusedSimpArgs false
namespace Go.Proofs.Ytcfildbgnjhjmaa.Log
open Go.RowKit Go.Proofs.Ytcfildbgnjhjmaa.Kit Go.Proofs.Ytcfildbgnjhjmaa.Oct Go.Proofs.Ytcfildbgnjhjmaa.Sheet Go.Proofs.Ytcfildbgnjhjmaa.Nand

theorem erases_run {F : Nat → Prop} {w w1 W : World} {b : Nat} {N : NA} {K : Nat → Prop} (h : Run F w w1 b N K W) (i : Int) :
    Calls Try.prog 18 #[.pointer (some ⟨b, 0, none⟩), .int .i64 i] w1 fun e w' => e = .returned (.int .i64 (if N.inI i then (N.blk i.toNat).erases else 0)) ∧ w' = w1 := by
  obtain ⟨F', hA⟩ := h.arr
  exact erases_any F' b N i w1 hA

set_option maxRecDepth 100000 in
set_option maxHeartbeats 4000000 in
theorem law_many (p : Int) (hp : 0 ≤ p ∧ p ≤ 255) (n : Int) (hn : 0 ≤ n ∧ n ≤ 255) (w : World) :
    Calls Try.prog 5 #[.int .u8 p, .int .u8 n] w fun e w' => e = .returned (.bool true) ∧ Below w.heap.size w w' := by
  obtain ⟨p, rfl⟩ := Int.eq_ofNat_of_zero_le hp.1
  obtain ⟨n, rfl⟩ := Int.eq_ofNat_of_zero_le hn.1
  have hn255 : n ≤ 255 := by omega
  have hnew : ∀ W, Below w.heap.size w W → Calls Try.prog 14 #[.int .i64 3, .int .i64 (1 + (p : Int) % 4), .slice none 0 0] W fun e w' => ∃ b, e = .returned (.tuple #[.pointer (some ⟨b, 0, none⟩), .int .i64 0]) ∧ Run (fun _ => False) w w' b (newA 3 (1 + p % 4) []) (fun _ => False) w' := fun W hW => by
    have := new_run 3 (1 + p % 4) w W hW (by omega) (by omega)
    rw [show ((1 + p % 4 : Nat) : Int) = 1 + (p : Int) % 4 by omega] at this
    exact this
  have w1 : IntKind.i64.wrap (p : Int) = (p : Int) := IntWalk.i64_in _ (by omega)
  have w2 : IntKind.i64.wrap (n : Int) = (n : Int) := IntWalk.i64_in _ (by omega)
  have w3 : IntKind.i64.wrap (1 + (p : Int) % 4) = 1 + (p : Int) % 4 := IntWalk.i64_in _ (by omega)
  go_enter Try.func5, Try.ntmps5
  go_wp2_with fail
  refine (awake_any w).mono ?_
  rintro e w4 ⟨rfl, hB4⟩
  have hnew' := hnew w4 hB4
  clear hnew hB4
  go_wp2_with fail
  refine hnew'.mono ?_
  rintro e w5 ⟨b, rfl, hR5⟩
  clear hnew' w1 w3
  obtain ⟨N0, hN0⟩ : ∃ N, newA 3 (1 + p % 4) [] = N := ⟨_, rfl⟩
  have hst0 := st_new 3 (1 + p % 4) (by omega)
  have hpg : 1 ≤ N0.pages ∧ N0.pages ≤ 32 := by rw [← hN0]; exact ⟨show 1 ≤ 1 + p % 4 by omega, show 1 + p % 4 ≤ 32 by omega⟩
  have hfe : N0.fence = 0 := by rw [← hN0]; rfl
  have hb2 : N0.blk 2 = newB false := by rw [← hN0, newA_blk 3 _ [] 2 (by omega)]; rfl
  have hln : N0.bs.length = 3 := by rw [← hN0, newA_len]
  rw [hN0] at hR5 hst0
  have HR5 := hid hR5
  clear hN0 hR5
  have Hst0 := hid hst0
  have Hfe := hid hfe
  have Hb2 := hid hb2
  have Hln := hid hln
  have Hpg := hid hpg
  clear hst0 hfe hb2 hln hpg
  go_wp2
  go_loopw [7] (fun v w' => ∃ (j : Nat) (N : NA) (c : Nat → List (Option (Nat × Nat))), 1 ≤ j ∧ j ≤ n + 1 ∧ v = .int .i64 (j : Int) ∧ Run (fun _ => False) w w' b N (fun _ => False) w' ∧ St 2 N c ∧ Fx N0 N (fun j => j < 2) ∧ top (c 0) (c 1) = (j - 1, (j - 1) % 2)) (fun v _ => 300 - (intOf v).toNat)
  case atStart => exact ⟨1, N0, fun _ => [], by omega, by omega, rfl, HR5.out, Hst0.out, Fx.refl _ _, rfl⟩
  case round =>
    clear HR5 Hst0
    obtain ⟨j, N, c, hj1, hjn, rfl, hR, hs, hx, ht⟩ := hrel
    by_cases hlt : j ≤ n
    · have hltI : (j : Int) ≤ (n : Int) := by omega
      have w3 : IntKind.u64.wrap (j : Int) = (j : Int) := IntWalk.u64_in _ (by omega)
      have hc1 := claim_ok hR hs j (j % 2) hj1 (by omega) (by omega) (by rw [hx.pages]; exact Hpg.out) (by rw [hx.fence, Hfe.out]; omega) (by rw [ht]; show j - 1 < j; omega)
      rw [show ((j % 2 : Nat) : Int) = (j : Int) % 2 by omega] at hc1
      have Hx := hid hx
      clear hR hs hx ht
      go_wp2_with fail
      refine hc1.mono ?_
      rintro e w6 ⟨rfl, N', c', hR6, hs6, hx6, ht6⟩
      clear hc1
      have hl := last_run hR6 hs6
      rw [ht6] at hl
      have hl : Calls Try.prog 16 #[.pointer (some ⟨b, 0, none⟩)] w6 fun e w' => e = .returned (.tuple #[.agg #[.int .u64 (j : Int), .int .i64 ((j % 2 : Nat) : Int)], .int .i64 0]) ∧ Below w6.heap.size w6 w' := hl
      rw [show ((j % 2 : Nat) : Int) = (j : Int) % 2 by omega] at hl
      have HR6 := hid hR6
      have Hs6 := hid hs6
      have Hx6 := hid (Hx.out.trans hx6)
      have Ht6 := hid ht6
      clear hR6 hs6 hx6 ht6
      go_wp2_with fail
      refine hl.mono ?_
      rintro e w7 ⟨rfl, hB7⟩
      clear hl
      go_upto_region 10 with (fail)
      generalize hw8 : World.alloc w7 _ = w8
      obtain ⟨gy, hgy⟩ : ∃ g, w7.heap.size = g := ⟨_, rfl⟩
      have hB8 : Below w7.heap.size w7 w8 := by rw [← hw8]; exact (Below.refl _ _).alloc (Nat.le_refl _) _
      have hby : Blk w8 gy #[.int .u64 (j : Int), .int .i64 ((j : Int) % 2)] 30 := by rw [← hw8, ← hgy]; exact Blk.new _ _ _
      have HR8 := hid (HR6.out.later (hB7.trans (hB8.mono hB7.size))).now
      obtain ⟨⟨y0, y1⟩, -⟩ := blk_two hby
      rw [hgy]
      clear hw8 hgy hB7 hB8 hby HR6
      go_wp2
      go_roundw
      case rel => exact ⟨j + 1, N', c', by omega, by omega, by go_num, HR8.out, Hs6.out, Hx6.out, Ht6.out⟩
      case measure => simp [intOf]; omega
    · have hgtI : (n : Int) < (j : Int) := by omega
      have hbk : N.blk 2 = newB false := by rw [hx.there 2 (by omega)]; exact Hb2.out
      have hin : N.inI 2 = true := by unfold NA.inI; rw [hx.len, Hln.out]; rfl
      have hn2 := next_run hR 2
      rw [hin, if_pos rfl, show (2 : Int).toNat = 2 from rfl, hbk] at hn2
      have he2 := erases_run hR 2
      rw [hin, if_pos rfl, show (2 : Int).toNat = 2 from rfl, hbk] at he2
      have HB := hid hR.below
      clear hR hs hx ht hlt hbk hin
      go_wp2_with fail
      refine hn2.mono ?_
      rintro e w6 ⟨rfl, rfl⟩
      clear hn2
      go_wp2_with fail
      refine he2.mono ?_
      rintro e w7 ⟨rfl, rfl⟩
      clear he2
      go_wp2
      go_ret
      exact ⟨rfl, HB.out⟩
end Go.Proofs.Ytcfildbgnjhjmaa.Log
