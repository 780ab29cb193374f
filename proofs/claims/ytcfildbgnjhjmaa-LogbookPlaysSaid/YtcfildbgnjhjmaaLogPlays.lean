import Derived.Test.YtcfildbgnjhjmaaLogActs
import Derived.Deep.DeepCutAuto
import Derived.Deep.RegionHeld3
set_option linter.unusedVariables false
set_option linter.unusedSimpArgs false
namespace Go.Proofs.Ytcfildbgnjhjmaa.Log
open Go.RowKit Go.Proofs.Ytcfildbgnjhjmaa.Kit Go.Proofs.Ytcfildbgnjhjmaa.Oct Go.Proofs.Ytcfildbgnjhjmaa.Sheet Go.Proofs.Ytcfildbgnjhjmaa.Nand

theorem LAct.cells {w : World} {bs o : Nat} {a : LAct} (h : ∀ k v, (LAct.enc a)[k]? = some v → w.cell? ⟨bs, o + k, none⟩ = some v) :
    w.cell? ⟨bs, o, none⟩ = some (.int .u8 a.kind) ∧ w.cell? ⟨bs, o + 1, none⟩ = some (.int .u8 a.up) ∧ w.cell? ⟨bs, o + 2, none⟩ = some (.int .u8 a.who) ∧ w.cell? ⟨bs, o + 4, none⟩ = some (.int .u64 a.e) ∧ w.cell? ⟨bs, o + 5, none⟩ = some (.int .i64 a.a) :=
  ⟨h 0 _ rfl, h 1 _ rfl, h 2 _ rfl, h 4 _ rfl, h 5 _ rfl⟩
theorem rem_nat (x : Int) (h : 0 ≤ x) (n : Nat) (hn : 0 < n) : ∃ u : Nat, x % (n : Int) = (u : Int) ∧ x.tmod (n : Int) = (u : Int) ∧ u < n := by
  have h1 := Int.emod_nonneg x (show (n : Int) ≠ 0 by omega)
  have h2 := Int.emod_lt_of_pos x (show (0 : Int) < (n : Int) by omega)
  exact ⟨(x % (n : Int)).toNat, by omega, by rw [Int.tmod_eq_emod_of_nonneg h]; omega, by omega⟩

set_option maxRecDepth 100000 in
set_option maxHeartbeats 8000000 in
theorem law_plays (p : Int) (hp : 0 ≤ p ∧ p ≤ 255) (C : Option Addr) (mm dd : Nat) (ys : Nat → LAct) (w : World) (hy : Recs w C mm 6 LAct.enc LAct.ok ys) :
    Calls Try.prog 3 #[.int .u8 p, .slice C mm dd] w fun e w' => e = .returned (.bool true) ∧ Below w.heap.size w w' := by
  obtain ⟨p, rfl⟩ := Int.eq_ofNat_of_zero_le hp.1
  obtain ⟨pg, hpg⟩ : ∃ pg, 1 + p % 6 = pg := ⟨_, rfl⟩
  have hpgI : 1 + (p : Int) % 6 = (pg : Int) := by omega
  have hpg32 : 1 ≤ pg ∧ pg ≤ 32 := by omega
  have hmm := hy.most
  have Hy := hid hy
  have hnew : ∀ W, Below w.heap.size w W → _ := fun W hW => new_run 3 pg w W hW (by omega) (by omega)
  have w1 : IntKind.i64.wrap (p : Int) = (p : Int) := IntWalk.i64_in _ (by omega)
  have w4 : IntKind.i64.wrap (pg : Int) = (pg : Int) := IntWalk.i64_in _ (by omega)
  clear hpg hy
  go_enter Try.func3, Try.ntmps3
  go_wp2_with fail
  refine (awake_any w).mono ?_
  rintro e w7 ⟨rfl, hB7⟩
  have hnew' := hnew w7 hB7
  clear hnew hB7
  go_wp2_with fail
  refine hnew'.mono ?_
  rintro e w8 ⟨b, rfl, hR8⟩
  clear hnew'
  obtain ⟨N0, hN0⟩ : ∃ N, newA 3 pg [] = N := ⟨_, rfl⟩
  have hst0 := st_new 3 pg (by omega)
  have hpp : N0.pages = pg := by rw [← hN0]; rfl
  have hfe : N0.fence = 0 := by rw [← hN0]; rfl
  have hb2 : N0.blk 2 = newB false := by rw [← hN0, newA_blk 3 _ [] 2 (by omega)]; rfl
  have hln : N0.bs.length = 3 := by rw [← hN0, newA_len]
  rw [hN0] at hR8 hst0
  have HR8 := hid hR8
  clear hN0 hR8
  have Hst0 := hid hst0
  have Hfe := hid hfe
  have Hb2 := hid hb2
  have Hln := hid hln
  have Hpp := hid hpp
  clear hst0 hfe hb2 hln hpp
  go_upto_region 5 with (fail)
  generalize hw10 : World.alloc w8 _ = w10
  obtain ⟨gl, hgl⟩ : ∃ g, w8.heap.size = g := ⟨_, rfl⟩
  have hB10 : Below w8.heap.size w8 w10 := by rw [← hw10]; exact (Below.refl _ _).alloc (Nat.le_refl _) _
  have hbl : Blk w10 gl #[.int .u64 0, .int .i64 0] 30 := by rw [← hw10, ← hgl]; exact Blk.new _ _ _
  have HR10 := hid ((HR8.out.own hB10).less (K' := fun g => g = gl) (fun g e => .inr (by rw [e]; exact ⟨by omega, hbl.lt⟩)))
  have Hbl := hid hbl
  rw [hgl]
  clear hw10 hgl hB10 hbl HR8 w1 w4
  go_wp2
  go_loopw [8] (fun t w' => ∃ (k : Nat) (N : NA) (c : Nat → List (Option (Nat × Nat))) (E a : Nat), k ≤ mm ∧ k ≤ 80 ∧ t = .int .i64 (k : Int) ∧ Run (fun _ => False) w w' b N (fun g => g = gl) w' ∧ St 2 N c ∧ Fx N0 N (fun j => j < 2) ∧ Blk w' gl #[.int .u64 (E : Int), .int .i64 (a : Int)] 30 ∧ top (c 0) (c 1) = (E, a) ∧ E < 281474976710656) (fun t _ => 80 - (intOf t).toNat)
  case atStart => exact ⟨0, N0, fun _ => [], 0, 0, by omega, by omega, rfl, HR10.out, Hst0.out, Fx.refl _ _, Hbl.out, rfl, by omega⟩
  case round =>
    clear HR10 Hbl Hst0
    obtain ⟨k, N, c, E, a, hk, hk80, rfl, hR, hs, hx, hbl, ht, hE48⟩ := hrel
    by_cases hlt : k < mm ∧ k < 80
    · obtain ⟨hlt, hlt80⟩ := hlt
      have hlt80I : (k : Int) < 80 := by omega
      obtain ⟨bs, os, rfl, hcs⟩ := (Hy.out.below hR.below (fun _ h => h)).at_ k hlt
      obtain ⟨s0, s1, s2, s4, s5⟩ := LAct.cells hcs
      obtain ⟨⟨hk0, hk1⟩, hup, hwh, hse, hsa⟩ := Hy.out.ok k hlt
      generalize (ys k).kind = kd at *
      generalize (ys k).up = su at *
      generalize (ys k).who = sw at *
      generalize (ys k).e = se at *
      generalize (ys k).a = sa at *
      obtain ⟨U, hU, hUt, hU4⟩ := rem_nat su hup.1 4 (by omega)
      obtain ⟨V, hV, hVt, hV2⟩ := rem_nat sw hwh.1 2 (by omega)
      replace hU : su % 4 = (U : Int) := hU
      replace hUt : su.tmod 4 = (U : Int) := hUt
      replace hV : sw % 2 = (V : Int) := hV
      replace hVt : sw.tmod 2 = (V : Int) := hVt
      have a1 : IntKind.u64.wrap (U : Int) = (U : Int) := IntWalk.u64_in _ (by omega)
      have a2 : IntKind.i64.wrap (V : Int) = (V : Int) := IntWalk.i64_in _ (by omega)
      have a3 : IntKind.u64.wrap ((E : Int) + (U : Int)) = (E : Int) + (U : Int) := IntWalk.u64_in _ (by omega)
      have hbd : Below wr.heap.size wr wr.drew := below_drewN (Below.refl _ _) 1
      have HX := hid (fun (W : World) (hW : Below wr.heap.size wr W) => (⟨(hbl.later hW).cell 0, by rw [← s1]; exact hW.cell (World.block_lt_of_cell? wr _ s1), by rw [← s2]; exact hW.cell (World.block_lt_of_cell? wr _ s2)⟩ : W.cell? ⟨gl, 0, none⟩ = some (.int .u64 (E : Int)) ∧ W.cell? ⟨bs, os + k * 6 + 1, none⟩ = some (.int .u8 su) ∧ W.cell? ⟨bs, os + k * 6 + 2, none⟩ = some (.int .u8 sw)))
      have HS := hid (fun (W : World) (hW : Below wr.heap.size wr W) => (⟨by rw [← s0]; exact hW.cell (World.block_lt_of_cell? wr _ s0), by rw [← s4]; exact hW.cell (World.block_lt_of_cell? wr _ s4), by rw [← s5]; exact hW.cell (World.block_lt_of_cell? wr _ s5)⟩ : W.cell? ⟨bs, os + k * 6, none⟩ = some (.int .u8 kd) ∧ W.cell? ⟨bs, os + k * 6 + 4, none⟩ = some (.int .u64 se) ∧ W.cell? ⟨bs, os + k * 6 + 5, none⟩ = some (.int .i64 sa)))
      have HR := hid hR
      have Hs := hid hs
      have Hx := hid hx
      have Hbl := hid hbl
      have Ht := hid ht
      clear hR hs hx hbl ht hcs s0 s1 s2 s4 s5
      go_upto_region 8 with (fail)
      go_cut [9] (fun q wx => q = .pointer (some ⟨wr.heap.size, 0, none⟩) ∧ Blk wx wr.heap.size #[.int .u64 ((E : Int) + (U : Int)), .int .i64 (V : Int)] 30 ∧ Below wr.heap.size wr wx)
      case first =>
        go_region_held3 (fun w' => w'.cell? ⟨gl, 0, none⟩ = some (.int .u64 (E : Int)) ∧ w'.cell? ⟨bs, os + k * 6 + 1, none⟩ = some (.int .u8 su) ∧ w'.cell? ⟨bs, os + k * 6 + 2, none⟩ = some (.int .u8 sw))
          (first | exact HX.out _ hbd | exact HX.out _ (hbd.alloc (Nat.le_refl _) _))
          (fail)
        all_goals
          go_wp2_with fail
          go_meet
          exact ⟨rfl, (Blk.new wr _ _).drewN 1, ((Below.refl _ _).alloc (Nat.le_refl _) _).drewB 1⟩
      case rest =>
        obtain ⟨rfl, hbx, hB11⟩ := hcut
        clear a1 a2 a3 hU hUt hV hVt HX hbd
        obtain ⟨gx, hgx⟩ : ∃ g, wr.heap.size = g := ⟨_, rfl⟩
        have hgne : gl ≠ gx := by have := Hbl.out.lt; omega
        have hR11 := ((HR.out.own hB11).less (K' := fun g => g = gl ∨ g = gx) (fun g e => by
          rcases e with e | e
          · exact .inl e
          · exact .inr (by rw [e, ← hgx]; exact ⟨Nat.le_refl _, hbx.lt⟩)))
        have hbl11 := Hbl.out.later hB11
        obtain ⟨s0, s4, s5⟩ := HS.out wc hB11
        rw [hgx] at hbx ⊢
        obtain ⟨⟨z0, z1⟩, f0, f1⟩ := blk_two hbx
        have HR11 := hid hR11
        have Hbl11 := hid hbl11
        have Hbx := hid hbx
        clear hR11 hbl11 hbx hB11 HS HR Hbl hgx
        go_upto_if 57 with (fail)
        go_cut [] (fun wx => ∃ xE xA : Int, (0 ≤ xE ∧ xE ≤ 18446744073709551615) ∧ Blk wx gx #[.int .u64 xE, .int .i64 xA] 30 ∧ Blk wx gl #[.int .u64 (E : Int), .int .i64 (a : Int)] 30 ∧ Run (fun _ => False) w wx b N (fun g => g = gl ∨ g = gx) wx)
        case first =>
          by_cases hk9 : kd % 10 = 9
          · have hk9b : (kd % 10 == 9) = true := by rw [beq_iff_eq]; exact hk9
            have hk9t : kd.tmod 10 = 9 := by rw [Int.tmod_eq_emod_of_nonneg hk0]; exact hk9
            clear hk9
            go_wp2
            go_meet
            case rel => exact ⟨se, sa, hse, blk_two_set Hbx.out _ _, (Hbl11.out.setOther _ hgne _).setOther _ hgne _, (HR11.out.store gx 0 _ (.inr rfl)).store gx 1 _ (.inr rfl)⟩
          · have hk9b : (kd % 10 == 9) = false := by rw [beq_eq_false_iff_ne]; exact hk9
            have hk9t : (kd.tmod 10 == 9) = false := by rw [beq_eq_false_iff_ne, Int.tmod_eq_emod_of_nonneg hk0]; exact hk9
            clear hk9
            go_wp2
            go_meet
            case rel => exact ⟨_, _, by omega, Hbx.out, Hbl11.out, HR11.out.now⟩
        case rest =>
          obtain ⟨xE, xA, hxE, hbx, hbl, hR⟩ := hcut
          clear z0 z1 f0 f1 s0 s4 s5 HR11 Hbl11 Hbx hU4 hV2 hse hsa
          obtain ⟨⟨x0, x1⟩, -⟩ := blk_two hbx
          have HR := hid hR
          have Hbx := hid hbx
          have Hbl := hid hbl
          by_cases hbad : xE < 1 ∨ 281474976710656 ≤ xE ∨ xA < 0 ∨ 1 < xA
          · have hc1 := claim_no hR Hs.out xE xA hxE 1 (.inl ⟨hbad, rfl⟩)
            have hc4 : (xE < 1) ∨ (¬ xE < 1 ∧ 281474976710656 ≤ xE) ∨ (¬ xE < 1 ∧ ¬ 281474976710656 ≤ xE ∧ xA < 0) ∨ (¬ xE < 1 ∧ ¬ 281474976710656 ≤ xE ∧ ¬ xA < 0 ∧ 1 < xA) := by omega
            clear hR hbx hbl hbad
            go_wp2_with fail
            refine hc1.mono ?_
            rintro e w12 ⟨rfl, hR12⟩
            obtain ⟨⟨x0, x1⟩, -⟩ := blk_two (hR12.blk (.inr rfl) Hbx.out)
            have Hbl12 := hid (hR12.blk (.inl rfl) Hbl.out)
            have HR12 := hid hR12.now
            clear hc1 hR12 HR Hbx Hbl
            rcases hc4 with h1 | ⟨h1, h2⟩ | ⟨h1, h2, h3⟩ | ⟨h1, h2, h3, h4⟩
            all_goals
              go_upto_region 21 with (fail)
              have hl := last_run HR12.out Hs.out
              rw [Ht.out] at hl
              have hl : Calls Try.prog 16 #[.pointer (some ⟨b, 0, none⟩)] w12 fun e w' => e = .returned (.tuple #[.agg #[.int .u64 (E : Int), .int .i64 (a : Int)], .int .i64 0]) ∧ Below w12.heap.size w12 w' := hl
              go_wp2_with fail
              refine hl.mono ?_
              rintro e w14 ⟨rfl, hB14⟩
              clear hl
              go_upto_region 22 with (fail)
              generalize hw15 : World.alloc w14 _ = w15
              obtain ⟨gy, hgy⟩ : ∃ g, w14.heap.size = g := ⟨_, rfl⟩
              have hB15 : Below w14.heap.size w14 w15 := by rw [← hw15]; exact (Below.refl _ _).alloc (Nat.le_refl _) _
              have hby : Blk w15 gy #[.int .u64 (E : Int), .int .i64 (a : Int)] 30 := by rw [← hw15, ← hgy]; exact Blk.new _ _ _
              have hB1315 := hB14.trans (hB15.mono hB14.size)
              have hR15 := (HR12.out.later hB1315).now
              have hbl15 := Hbl12.out.later hB1315
              obtain ⟨⟨t0, t1⟩, -⟩ := blk_two hby
              obtain ⟨⟨z0, z1⟩, -⟩ := blk_two hbl15
              rw [hgy]
              have HR15 := hid hR15
              have Hbl15 := hid hbl15
              clear hw15 hgy hB14 hB15 hby hB1315 hR15 hbl15 HR12 Hbl12
              go_wp2
              go_roundw
              case rel => exact ⟨k + 1, N, c, E, a, by omega, by omega, by go_num, HR15.out.less (fun g e => .inl e), Hs.out, Hx.out, Hbl15.out, Ht.out, hE48⟩
              case measure => simp [intOf]; omega
          · obtain ⟨n1, n2, n3, n4⟩ : ¬ xE < 1 ∧ ¬ 281474976710656 ≤ xE ∧ ¬ xA < 0 ∧ ¬ 1 < xA := by omega
            by_cases hle : xE ≤ (E : Int)
            · have hc1 := claim_no hR Hs.out xE xA hxE 6 (.inr ⟨hbad, by rw [Ht.out]; exact hle, rfl⟩)
              clear hR hbx hbl hbad
              go_wp2_with fail
              refine hc1.mono ?_
              rintro e w12 ⟨rfl, hR12⟩
              obtain ⟨⟨x0, x1⟩, -⟩ := blk_two (hR12.blk (.inr rfl) Hbx.out)
              have Hbl12 := hid (hR12.blk (.inl rfl) Hbl.out)
              obtain ⟨⟨y0, y1⟩, -⟩ := blk_two Hbl12.out
              have HR12 := hid hR12.now
              clear hc1 hR12 HR Hbx Hbl
              go_upto_region 21 with (fail)
              have hl := last_run HR12.out Hs.out
              rw [Ht.out] at hl
              have hl : Calls Try.prog 16 #[.pointer (some ⟨b, 0, none⟩)] w12 fun e w' => e = .returned (.tuple #[.agg #[.int .u64 (E : Int), .int .i64 (a : Int)], .int .i64 0]) ∧ Below w12.heap.size w12 w' := hl
              go_wp2_with fail
              refine hl.mono ?_
              rintro e w14 ⟨rfl, hB14⟩
              clear hl
              go_upto_region 22 with (fail)
              generalize hw15 : World.alloc w14 _ = w15
              obtain ⟨gy, hgy⟩ : ∃ g, w14.heap.size = g := ⟨_, rfl⟩
              have hB15 : Below w14.heap.size w14 w15 := by rw [← hw15]; exact (Below.refl _ _).alloc (Nat.le_refl _) _
              have hby : Blk w15 gy #[.int .u64 (E : Int), .int .i64 (a : Int)] 30 := by rw [← hw15, ← hgy]; exact Blk.new _ _ _
              have hB1315 := hB14.trans (hB15.mono hB14.size)
              have hR15 := (HR12.out.later hB1315).now
              have hbl15 := Hbl12.out.later hB1315
              obtain ⟨⟨t0, t1⟩, -⟩ := blk_two hby
              obtain ⟨⟨z0, z1⟩, -⟩ := blk_two hbl15
              rw [hgy]
              have HR15 := hid hR15
              have Hbl15 := hid hbl15
              clear hw15 hgy hB14 hB15 hby hB1315 hR15 hbl15 HR12 Hbl12
              go_wp2
              go_roundw
              case rel => exact ⟨k + 1, N, c, E, a, by omega, by omega, by go_num, HR15.out.less (fun g e => .inl e), Hs.out, Hx.out, Hbl15.out, Ht.out, hE48⟩
              case measure => simp [intOf]; omega
            · have hgt : (E : Int) < xE := by omega
              have hc1 := claim_ok hR Hs.out xE.toNat xA.toNat (by omega) (by omega) (by omega) (by rw [Hx.out.pages, Hpp.out]; exact hpg32) (by rw [Hx.out.fence, Hfe.out]; omega) (by rw [Ht.out]; show E < _; omega)
              have hEn : ((xE.toNat : Nat) : Int) = xE := by omega
              have hAn : ((xA.toNat : Nat) : Int) = xA := by omega
              rw [hEn, hAn] at hc1
              have hE48' : xE.toNat < 281474976710656 := by omega
              have HEn := hid hEn
              have HAn := hid hAn
              have HE48 := hid hE48'
              clear hR hbx hbl hbad hEn hAn hE48'
              go_wp2_with fail
              refine hc1.mono ?_
              rintro e w12 ⟨rfl, N', c', hR12, hs', hx', ht'⟩
              have hbx12 := hR12.blk (.inr rfl) Hbx.out
              have hbl12 := hR12.blk (.inl rfl) Hbl.out
              obtain ⟨⟨x0, x1⟩, -⟩ := blk_two hbx12
              obtain ⟨⟨y0, y1⟩, f0, f1⟩ := blk_two hbl12
              have Hbl12 := hid hbl12
              have HR12 := hid hR12.now
              have Hs' := hid hs'
              have Hx' := hid (Hx.out.trans hx')
              have Ht' := hid ht'
              clear hc1 hR12 HR Hbx Hbl hbx12 hbl12 hs' hx' ht'
              go_upto_region 21 with (fail)
              obtain ⟨w13, hw13⟩ : ∃ W, W = (w12.setCell ⟨gl, 0, none⟩ (.int .u64 xE)).setCell ⟨gl, 1, none⟩ (.int .i64 xA) := ⟨_, rfl⟩
              rw [← hw13]
              have HR13 := hid (show Run (fun _ => False) w w13 b N' (fun g => g = gl ∨ g = gx) w13 by rw [hw13]; exact (HR12.out.store gl 0 _ (.inl rfl)).store gl 1 _ (.inl rfl))
              have Hbl13 := hid (show Blk w13 gl #[.int .u64 xE, .int .i64 xA] 30 by rw [hw13]; exact blk_two_set Hbl12.out _ _)
              clear hw13 x0 x1 y0 y1 f0 f1 HR12 Hbl12
              have hl := last_run HR13.out Hs'.out
              rw [Ht'.out] at hl
              have hl : Calls Try.prog 16 #[.pointer (some ⟨b, 0, none⟩)] w13 fun e w' => e = .returned (.tuple #[.agg #[.int .u64 ((xE.toNat : Nat) : Int), .int .i64 ((xA.toNat : Nat) : Int)], .int .i64 0]) ∧ Below w13.heap.size w13 w' := hl
              rw [HEn.out, HAn.out] at hl
              go_wp2_with fail
              refine hl.mono ?_
              rintro e w14 ⟨rfl, hB14⟩
              clear hl
              go_upto_region 22 with (fail)
              generalize hw15 : World.alloc w14 _ = w15
              obtain ⟨gy, hgy⟩ : ∃ g, w14.heap.size = g := ⟨_, rfl⟩
              have hB15 : Below w14.heap.size w14 w15 := by rw [← hw15]; exact (Below.refl _ _).alloc (Nat.le_refl _) _
              have hby : Blk w15 gy #[.int .u64 xE, .int .i64 xA] 30 := by rw [← hw15, ← hgy]; exact Blk.new _ _ _
              have hB1315 := hB14.trans (hB15.mono hB14.size)
              have hR15 := (HR13.out.later hB1315).now
              have hbl15 := Hbl13.out.later hB1315
              obtain ⟨⟨t0, t1⟩, -⟩ := blk_two hby
              obtain ⟨⟨z0, z1⟩, -⟩ := blk_two hbl15
              rw [hgy]
              have HR15 := hid hR15
              have Hbl15 := hid hbl15
              clear hw15 hgy hB14 hB15 hby hB1315 hR15 hbl15 HR13 Hbl13
              go_wp2
              go_roundw
              case rel => exact ⟨k + 1, N', c', xE.toNat, xA.toNat, by omega, by omega, by go_num, HR15.out.less (fun g e => .inl e), Hs'.out, Hx'.out, by rw [HEn.out, HAn.out]; exact Hbl15.out, Ht'.out, HE48.out⟩
              case measure => simp [intOf]; omega
    · have hbk : N.blk 2 = newB false := by rw [hx.there 2 (by omega)]; exact Hb2.out
      have hin : N.inI 2 = true := by unfold NA.inI; rw [hx.len, Hln.out]; rfl
      have hn2 := next_run hR 2
      rw [hin, if_pos rfl, show (2 : Int).toNat = 2 from rfl, hbk] at hn2
      have HB := hid hR.below
      have hex : mm ≤ k ∨ (k < mm ∧ 80 ≤ k) := by omega
      clear hR hs hx ht hlt hbk hin hbl
      rcases hex with h1 | ⟨h1, h2⟩
      all_goals
        go_wp2_with fail
        refine hn2.mono ?_
        rintro e w6 ⟨rfl, rfl⟩
        clear hn2
        go_wp2
        go_ret
        exact ⟨rfl, HB.out⟩
end Go.Proofs.Ytcfildbgnjhjmaa.Log
