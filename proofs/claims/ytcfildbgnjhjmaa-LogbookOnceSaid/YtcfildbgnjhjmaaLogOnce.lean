import Derived.Test.YtcfildbgnjhjmaaLogB
import Derived.Deep.DeepCutAuto
set_option linter.unusedVariables false
set_option linter.unusedSimpArgs false
namespace Go.Proofs.Ytcfildbgnjhjmaa.Log
open Go.RowKit Go.Proofs.Ytcfildbgnjhjmaa.Kit Go.Proofs.Ytcfildbgnjhjmaa.Oct Go.Proofs.Ytcfildbgnjhjmaa.Sheet Go.Proofs.Ytcfildbgnjhjmaa.Nand

set_option maxRecDepth 100000 in
set_option maxHeartbeats 4000000 in
theorem once_who (x : Int) (hx : 0 ≤ x ∧ x ≤ 4294967295) (who : Bool) (v : Nat) (hv : v = if who then 1 else 0) (A : Option Addr) (n cp : Nat) (xs : List Int) (w : World) (hz : Nums w .u8 A n xs) :
    Calls Try.prog 4 #[.int .u32 x, .bool who, .slice A n cp] w fun e w' => e = .returned (.bool true) ∧ Below w.heap.size w w' := by
  have w1 : IntKind.u64.wrap x = x := IntWalk.u64_in _ (by omega)
  have w3 : IntKind.u64.wrap (1 + x) = 1 + x := IntWalk.u64_in _ (by omega)
  have hmost := hz.most
  have hnew : ∀ W, Below w.heap.size w W → _ := fun W hW => new_run 2 3 w W hW (by omega) (by omega)
  have Hz := hid hz
  clear hz
  have hv1 : v ≤ 1 := by rw [hv]; split <;> omega
  have hE1 : ((1 + x).toNat : Int) = 1 + x := by omega
  go_enter Try.func4, Try.ntmps4
  go_wp2_with fail
  refine (awake_any w).mono ?_
  rintro e w6 ⟨rfl, hB6⟩
  have hnew' := hnew w6 hB6
  clear hnew hB6
  go_wp2_with fail
  refine hnew'.mono ?_
  rintro e w7 ⟨b, rfl, hR7⟩
  clear hnew'
  have hc1 := claim_ok hR7 (st_new 2 3 (by omega)) (1 + x).toNat v (by omega) (by omega) hv1 ⟨by decide, by decide⟩ (by show (0 : Int) ≤ _; omega) (show 0 < _ by omega)
  have hff : (newA 2 3 []).fence = 0 := rfl
  have hpp : (newA 2 3 []).pages = 3 := rfl
  generalize newA 2 3 [] = N0 at *
  rw [hE1] at hc1
  have Hff := hid hff
  have Hpp := hid hpp
  have HE1 := hid hE1
  clear hR7 hff hpp hE1
  go_upto_if 25 with (fail)
  go_cut [10] (fun t wx => t = .int .i64 (v : Int) ∧ wx = w7)
  case first =>
    cases who
    · go_wp2
      go_meet
      case rel => exact ⟨by rw [hv]; rfl, rfl⟩
    · go_wp2
      go_meet
      case rel => exact ⟨by rw [hv]; rfl, rfl⟩
  case rest =>
    obtain ⟨rfl, hwx⟩ := hcut
    rw [hwx]
    clear hwx hv
    go_wp2_with fail
    refine hc1.mono ?_
    rintro e w8 ⟨rfl, N1, c1, hR8, hs8, hx8, ht8⟩
    clear hc1
    have HR8 := hid hR8.now
    have Hs8 := hid hs8
    have Hx8 := hid hx8
    have Ht8 := hid ht8
    clear hR8 hs8 hx8 ht8
    go_wp2
    go_loopw [11, 12] (fun u t w' => ∃ (k L : Nat) (N : NA) (c : Nat → List (Option (Nat × Nat))), k ≤ 20 ∧ k ≤ n ∧ t = .int .i64 (k : Int) ∧ u = .int .u64 (L : Int) ∧ (1 + x ≤ (L : Int) ∧ (L : Int) ≤ 1 + x + 256 * k) ∧ Run (fun _ => False) w w' b N (fun _ => False) w' ∧ St 2 N c ∧ Fx N0 N (fun j => j < 2) ∧ top (c 0) (c 1) = (L, v)) (fun _ t _ => 20 - (intOf t).toNat)
    case atStart => exact ⟨0, (1 + x).toNat, N1, c1, by omega, by omega, rfl, by rw [HE1.out], by omega, HR8.out, Hs8.out, Hx8.out, Ht8.out⟩
    case round =>
      clear HR8 Hs8 Hx8 Ht8
      obtain ⟨k, L, N, c, hk20, hkn, rfl, rfl, ⟨hL1, hL2⟩, hR, hs, hx', ht⟩ := hrel
      by_cases hlt : k < n ∧ k < 20
      · obtain ⟨hlt, hlt20⟩ := hlt
        have hlt20I : (k : Int) < 20 := by omega
        obtain ⟨gz, oz, rfl, hcz⟩ := (Hz.out.below hR.below).at_ k hlt
        have hm := wf_u8 (Hz.out.wf_at k hlt)
        generalize xs.getD k 0 = m at *
        obtain ⟨m, rfl⟩ := Int.eq_ofNat_of_zero_le hm.1
        have a1 : IntKind.u64.wrap (m : Int) = (m : Int) := IntWalk.u64_in _ (by omega)
        have a2 : IntKind.u64.wrap (1 + (m : Int)) = 1 + (m : Int) := IntWalk.u64_in _ (by omega)
        have a3 : IntKind.u64.wrap ((L : Int) + (1 + (m : Int))) = (L : Int) + (1 + (m : Int)) := IntWalk.u64_in _ (by omega)
        have hc2 := claim_ok hR hs (L + (1 + m)) v (by omega) (by omega) hv1 (by rw [hx'.pages, Hpp.out]; omega) (by rw [hx'.fence, Hff.out]; omega) (by rw [ht]; show L < _; omega)
        rw [show ((L + (1 + m) : Nat) : Int) = (L : Int) + (1 + (m : Int)) by omega] at hc2
        have Hx := hid hx'
        clear hR hs hx' ht
        go_wp2_with fail
        refine hc2.mono ?_
        rintro e w9 ⟨rfl, N', c', hR9, hs9, hx9, ht9⟩
        clear hc2 hcz
        have HR9 := hid hR9.now
        have Hs9 := hid hs9
        have Hx9 := hid (Hx.out.trans hx9)
        have Ht9 := hid ht9
        clear hR9 hs9 hx9 ht9
        go_wp2
        go_roundw
        case rel => exact ⟨k + 1, L + (1 + m), N', c', by omega, by omega, by go_num, by go_num, by omega, HR9.out, Hs9.out, Hx9.out, Ht9.out⟩
        case measure => simp [intOf]; omega
      · have hex : n ≤ k ∨ (k < n ∧ 20 ≤ k) := by omega
        have a4 : IntKind.i64.wrap (1 - (v : Int)) = 1 - (v : Int) := IntWalk.i64_in _ (by omega)
        have hc3 := claim_no hR hs (1 + x) (1 - (v : Int)) (by omega) 6 (.inr ⟨by omega, by rw [ht]; exact hL1, rfl⟩)
        have Hs := hid hs
        have Ht := hid ht
        clear hlt hR hs hx' ht
        rcases hex with hx1 | ⟨hx1, hx2⟩
        all_goals
          go_wp2_with fail
          refine hc3.mono ?_
          rintro e w9 ⟨rfl, hR9⟩
          clear hc3
          have hl := last_run hR9 Hs.out
          rw [Ht.out] at hl
          have hl : Calls Try.prog 16 #[.pointer (some ⟨b, 0, none⟩)] w9 fun e w' => e = .returned (.tuple #[.agg #[.int .u64 (L : Int), .int .i64 (v : Int)], .int .i64 0]) ∧ Below w9.heap.size w9 w' := hl
          have HR9 := hid hR9
          clear hR9
          go_wp2_with fail
          refine hl.mono ?_
          rintro e w10 ⟨rfl, hB10⟩
          clear hl
          go_upto_region 18 with (fail)
          generalize hw12 : World.alloc w10 _ = w12
          obtain ⟨gy, hgy⟩ : ∃ g, w10.heap.size = g := ⟨_, rfl⟩
          have hB12 : Below w10.heap.size w10 w12 := by rw [← hw12]; exact (Below.refl _ _).alloc (Nat.le_refl _) _
          have hby : Blk w12 gy #[.int .u64 (L : Int), .int .i64 (v : Int)] 30 := by rw [← hw12, ← hgy]; exact Blk.new _ _ _
          have HB := hid (HR9.out.later (hB10.trans (hB12.mono hB10.size))).below
          obtain ⟨⟨y0, y1⟩, -⟩ := blk_two hby
          rw [hgy]
          clear hw12 hgy hB10 hB12 hby HR9
          go_wp2
          go_ret
          exact ⟨rfl, HB.out⟩
theorem law_once (x : Int) (hx : 0 ≤ x ∧ x ≤ 4294967295) (who : Bool) (A : Option Addr) (n cp : Nat) (xs : List Int) (w : World) (hz : Nums w .u8 A n xs) :
    Calls Try.prog 4 #[.int .u32 x, .bool who, .slice A n cp] w fun e w' => e = .returned (.bool true) ∧ Below w.heap.size w w' := once_who x hx who _ rfl A n cp xs w hz
end Go.Proofs.Ytcfildbgnjhjmaa.Log
