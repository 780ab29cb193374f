import Derived.Test.YtcfildbgnjhjmaaScanCpl
import Derived.Deep.DeepCutAuto
set_option linter.unusedVariables false
set_option linter.unusedSimpArgs false
namespace Go.Proofs.Ytcfildbgnjhjmaa.Scan
open Go.RowKit Go.Proofs.Ytcfildbgnjhjmaa.Kit Go.Proofs.Ytcfildbgnjhjmaa.Oct Go.Proofs.Ytcfildbgnjhjmaa.Sheet Go.Proofs.Ytcfildbgnjhjmaa.Nand Go.Proofs.Ytcfildbgnjhjmaa.Plan Go.Proofs.Ytcfildbgnjhjmaa.Log Go.Proofs.Ytcfildbgnjhjmaa.Pmap Go.Maps

/-- data[i:i+1]. -/
theorem nums_at {w : World} {b o n : Nat} {xs : List Int} (h : Nums w .u8 (some ⟨b, o, none⟩) n xs) (i : Nat) (hi : i < n) : Nums w .u8 (some ⟨b, o + i, none⟩) 1 [xs.getD i 0] :=
  ⟨rfl, by omega, fun j hj => ⟨b, o + i, rfl, fun l hl => by
    obtain rfl : l = 0 := by omega
    obtain ⟨b', o', e, hc⟩ := h.at_ i hi
    injection e with e
    injection e with e1 e2
    rw [Nat.add_zero, e1, e2]
    exact hc⟩, fun y hy => by rw [List.mem_singleton.1 hy]; exact h.wf_at i hi⟩

set_option maxRecDepth 100000 in
set_option maxHeartbeats 4000000 in
theorem law_copies (n : Int) (hn : 0 ≤ n ∧ n ≤ 255) (A1 : Option Addr) (m1 c1 : Nat) (xs : List Int) (sm : Int) (hsm : 0 ≤ sm ∧ sm ≤ 255) (w : World) (hx : m1 ≤ c1 ∧ Nums w .u8 A1 m1 xs) :
    Calls Try.prog 10 #[.int .u8 n, .slice A1 m1 c1, .int .u8 sm] w fun e w' => e = .returned (.bool true) ∧ Below w.heap.size w w' := by
  obtain ⟨n, rfl⟩ := Int.eq_ofNat_of_zero_le hn.1
  have hn : n < 256 := by omega
  obtain ⟨sm, rfl⟩ := Int.eq_ofNat_of_zero_le hsm.1
  have hsm2 : sm < 256 := by omega
  have hgeo := geometry_any n hn
  obtain ⟨⟨hul, hul7⟩, hcap, hM1, hM60⟩ := geo_more ⟨n, hn⟩
  replace hul : 2 ≤ (us (gB n) (gL n)).length := hul
  replace hul7 : (us (gB n) (gL n)).length ≤ 7 := hul7
  replace hcap : cap (gB n : Int) (gP n : Int) (gS n : Int) (gL n) = (capN n : Int) := hcap
  replace hM1 : 1 ≤ capN n := hM1
  replace hM60 : capN n ≤ 60 := hM60
  have hbad := geo_bad ⟨n, hn⟩
  replace hbad : ∀ x ∈ gL n, 0 ≤ x ∧ x < (gB n : Int) := hbad
  have hgB : 5 ≤ gB n ∧ gB n ≤ 9 := by unfold gB; omega
  have hgP : 2 ≤ gP n ∧ gP n ≤ 5 := by unfold gP; omega
  generalize gB n = nb at *
  generalize gP n = np at *
  generalize gL n = bad at *
  generalize capN n = M0 at *
  generalize ((gS n : Nat) : Int) = Sp at *
  have Hcap := hid hcap
  have Hbad := hid hbad
  clear hcap hbad
  have hxm := hx.2.most
  have hxd : isU8 xs := fun i => by
    by_cases h : i < m1
    · exact wf_u8 (hx.2.wf_at i h)
    · rw [List.getD_eq_getElem?_getD, List.getElem?_eq_none (by rw [hx.2.len]; omega)]
      decide
  have Hx := hid hx
  have Hxd := hid hxd
  have Hxm := hid hxm
  clear hx hxd hxm
  go_enter Try.func10, Try.ntmps10
  go_wp2_with fail
  refine (awake_any w).mono ?_
  rintro e w0 ⟨rfl, hB0⟩
  have hgeo' := hgeo w0
  clear hgeo
  go_wp2_with fail
  refine hgeo'.mono ?_
  rintro e w1 ⟨A, m, c, rfl, hg1, hB1⟩
  clear hgeo'
  go_upto_region 4 with (fail)
  generalize hw2 : World.alloc w1 _ = w2
  obtain ⟨g1, hg1e⟩ : ∃ g, w1.heap.size = g := ⟨_, rfl⟩
  have hB2 : Below w1.heap.size w1 w2 := by rw [← hw2]; exact (Below.refl _ _).alloc (Nat.le_refl _) _
  have hb1 : Blk w2 g1 #[.int .i64 (nb : Int), .int .i64 (np : Int), .int .i64 Sp, .slice A m c] 50 := by rw [← hw2, ← hg1e]; exact Blk.new _ _ _
  have hg2 := hg1.later hB2
  have hnew := newg_run nb np A m c bad w2 (by omega) (by omega) hg2.nums Hbad.out
  obtain ⟨z0, z1, z2, z3⟩ := geo_four hb1
  rw [hg1e]
  have HB2 := hid (hB0.trans ((hB1.trans (hB2.mono hB1.size)).mono hB0.size))
  have Hb1 := hid hb1
  have Hg2 := hid hg2
  clear hw2 hg1e hB1 hB2 hb1 hg1 hg2 hB0
  go_wp2_with fail
  refine hnew.mono ?_
  rintro e w3 ⟨b, rfl, hR3⟩
  clear hnew z0 z1 z2 z3
  have hb3 := Hb1.out.later hR3.below
  have hg3 := Hg2.out.later hR3.below
  obtain ⟨N0, hN0⟩ : ∃ N, newA nb np bad = N := ⟨_, rfl⟩
  have hG0 := Hale.new nb np bad
  have hP0 : ∀ j, (N0.blk j).pages = [] := fun j => by rw [← hN0]; exact newA_pages nb np bad j
  rw [hN0] at hR3 hG0
  have HG0 := hid hG0
  have HP0 := hid hP0
  clear hN0 hG0 hP0
  obtain ⟨z0, z1, z2, z3⟩ := geo_four hb3
  have hru := rus_any hg3
  have HR3 := hid hR3
  have Hb3 := hid hb3
  have Hg3 := hid hg3
  clear hR3 hb3 hg3
  go_wp2_with fail
  refine hru.mono ?_
  rintro e w4 ⟨U, ud, rfl, hU4, hUl, hB4⟩
  clear hru z0 z1 z2 z3
  obtain ⟨i0, e0, i02, i0n, i0b, i0m⟩ := us_get 0 (show 0 < (us nb bad).length by omega)
  obtain ⟨i1, e1, i12, i1n, i1b, i1m⟩ := us_get 1 (show 1 < (us nb bad).length by omega)
  have i01 : i0 ≠ i1 := fun e => us_ne 0 1 (show 0 < (us nb bad).length by omega) (show 1 < (us nb bad).length by omega) (by decide) (by rw [e0, e1, e])
  obtain ⟨nu, hnu⟩ : ∃ x, (us nb bad).length = x := ⟨_, rfl⟩
  rw [hnu] at hU4 hul hul7
  rw [hnu]
  have hulI : (2 : Int) ≤ (nu : Int) := by omega
  have hul0 : 0 < nu := by omega
  have hul1 : (1 : Int) < (nu : Int) := by omega
  obtain ⟨bu, ou, rfl, -⟩ := hU4.at_ 0 (by omega)
  have hbu := hUl _ rfl
  replace hbu : w3.heap.size ≤ bu := hbu
  have hbu4 : bu < w4.heap.size := by
    obtain ⟨b', o', e', hc'⟩ := hU4.at_ 0 (by omega)
    injection e' with e'
    injection e' with e1' e2'
    have := World.block_lt_of_cell? w4 _ hc'
    rw [e1']
    exact this
  have hU0 : w4.cell? ⟨bu, ou, none⟩ = some (.int .i64 (i0 : Int)) := by
    obtain ⟨b', o', e', hc'⟩ := hU4.cell 0 (by omega)
    injection e' with e'
    injection e' with e1' e2'
    rw [e1', e2', ← Nat.add_zero o', hc' 0 (by omega), e0]
  have hU1 : w4.cell? ⟨bu, ou + 1, none⟩ = some (.int .i64 (i1 : Int)) := by
    obtain ⟨b', o', e', hc'⟩ := hU4.cell 1 (by omega)
    injection e' with e'
    injection e' with e1' e2'
    rw [e1', e2', hc' 1 (by omega), e1]
  have HR4 := hid (HR3.out.later hB4)
  have Hb4 := hid (Hb3.out.later hB4)
  have Hg4 := hid (Hg3.out.later hB4)
  have Hi0 := hid (show i0 < nb ∧ (i0 : Int) ∉ bad ∧ (i0 : Int) ∈ us nb bad from ⟨i0n, i0b, i0m⟩)
  have Hi1 := hid (show i1 < nb ∧ (i1 : Int) ∉ bad ∧ (i1 : Int) ∈ us nb bad from ⟨i1n, i1b, i1m⟩)
  have z1 : w4.cell? ⟨g1, 1, none⟩ = some (.int .i64 (np : Int)) := Hb4.out.cell 1
  clear hU4 hB4 hUl e0 e1 hnu hbu hbu4 i0n i0b i0m i1n i1b i1m HR3 Hb3 Hg3
  go_upto_if 48 with (fail)
  clear hU0 hU1
  go_cut [13] (fun t wx => t = .int .i64 ((min m1 np : Nat) : Int) ∧ wx = w4)
  case first =>
    by_cases hmn : np < m1
    · have hmnI : (np : Int) < (m1 : Int) := by omega
      go_wp2
      go_meet
      case rel => exact ⟨by rw [Nat.min_eq_right (by omega)], rfl⟩
    · have hmnI : (m1 : Int) ≤ (np : Int) := by omega
      go_wp2
      go_meet
      case rel => exact ⟨by rw [Nat.min_eq_left (by omega)], rfl⟩
  case rest =>
  obtain ⟨rfl, hwx⟩ := hcut
  rw [hwx]
  clear hwx
  have Hmn := hid (show ∃ x : Nat, min m1 np = x from ⟨_, rfl⟩)
  obtain ⟨k0, hk0⟩ := Hmn.out
  have hk0b : k0 ≤ m1 ∧ k0 ≤ np := by omega
  rw [hk0]
  have Hk0 := hid hk0b
  clear hk0 Hmn z1 hk0b
  have hrc : ∀ W, Below w4.heap.size w4 W → _ := fun W hW => rcap_geo (Hg4.out.later hW)
  rw [Hcap.out] at hrc
  have hrc1 := hrc w4 (Below.refl _ _)
  obtain ⟨y0, y1, y2, y3⟩ := geo_four Hb4.out
  go_wp2_with fail
  refine hrc1.mono ?_
  rintro e w5 ⟨rfl, hB5⟩
  clear hrc1 y0 y1 y2 y3
  go_upto_if 54 with (fail)
  go_cut [13] (fun t wx => t = .int .i64 ((min k0 M0 : Nat) : Int) ∧ Below w5.heap.size w5 wx)
  case first =>
    by_cases hmn : M0 < k0
    · have hmnI : (M0 : Int) < (k0 : Int) := by omega
      have hrc2 := hrc w5 hB5
      obtain ⟨y0, y1, y2, y3⟩ := geo_four (Hb4.out.later hB5)
      go_wp2_with fail
      refine hrc2.mono ?_
      rintro e w6 ⟨rfl, hB6⟩
      go_wp2
      go_meet
      case rel => exact ⟨by rw [Nat.min_eq_right (by omega)], hB6⟩
    · have hmnI : (k0 : Int) ≤ (M0 : Int) := by omega
      go_wp2
      go_meet
      case rel => exact ⟨by rw [Nat.min_eq_left (by omega)], Below.refl _ _⟩
  case rest =>
  obtain ⟨rfl, hB6⟩ := hcut
  obtain ⟨k, hk⟩ : ∃ x, min k0 M0 = x := ⟨_, rfl⟩
  have hkb : k ≤ m1 ∧ k ≤ np ∧ k ≤ M0 := by have := Hk0.out; omega
  rw [hk]
  have HR6 := hid (HR4.out.later (hB5.trans (hB6.mono hB5.size)))
  clear hk hB5 hB6 hrc HR4 Hb4 Hg4
  by_cases hk0 : k = 0
  · subst hk0
    have HB := hid (HB2.out.trans (HR6.out.below.mono HB2.out.size))
    go_wp2
    go_ret
    exact ⟨rfl, HB.out⟩
  obtain ⟨w6, hw6⟩ : ∃ W, wc = W := ⟨_, rfl⟩
  rw [hw6] at HR6 ⊢
  clear hw6
  have hk1 : 0 < k := by omega
  have hk1I : (0 : Int) < (k : Int) := by omega
  have hkne : ((k : Int) == 0) = false := by rw [beq_eq_false_iff_ne]; omega
  have hP6 : ∀ j, (N0.blk j).pages = if j = i0 then rowP (pF xs) 0 else [] := fun j => by
    rw [HP0.out]
    split <;> rfl
  have HP6 := hid hP6
  clear hP6 hk0
  go_wp2
  go_loopw [14] (fun x w' => ∃ (i : Nat) (N : NA), x = .int .i64 (i : Int) ∧ i ≤ k ∧ Run (fun _ => False) w2 w' b N (fun _ => False) w' ∧ Hale N nb np bad ∧ ∀ j, (N.blk j).pages = if j = i0 then rowP (pF xs) i else []) (fun x _ => 60 - (intOf x).toNat)
  case atStart => exact ⟨0, N0, rfl, by omega, HR6.out.now, HG0.out, HP6.out⟩
  case round =>
    clear HR6 HP6 HG0 HP0
    obtain ⟨i, N, rfl, hik, hR, hG, hP⟩ := hrel
    by_cases hlt : i < k
    · have hltI : (i : Int) < (k : Int) := by omega
      have him : i < m1 := by omega
      have hmc := Hx.out.1
      have hBr := HB2.out.trans (hR.below.mono HB2.out.size)
      obtain ⟨bx, ox, rfl, -⟩ := (Hx.out.2.below hBr).at_ i him
      have hxs := nums_at (Hx.out.2.below hBr) i him
      have d1 : (i : Int) + 1 ≤ (c1 : Int) := by omega
      have d2 : (i : Int) ≤ (i : Int) + 1 := by omega
      have d3 : (0 : Int) ≤ (i : Int) := by omega
      have cv1 : IntKind.i64.wrap (1 + (i : Int)) = 1 + (i : Int) := IntWalk.i64_in _ (by omega)
      have cv2 : IntKind.i64.wrap ((i : Int) + 1) = (i : Int) + 1 := IntWalk.i64_in _ (by omega)
      have cv3 : IntKind.u64.wrap (1 + (i : Int)) = 1 + (i : Int) := IntWalk.u64_in _ (by omega)
      have hlay : Calls Try.prog 26 #[.agg #[.int .u8 1, .int .u64 0, .int .u64 (1 + (i : Int)), .int .i64 (i : Int), .int .i64 (-1), .slice (some ⟨bx, ox + i, none⟩) 1 (c1 - i)]] wr fun e w' => ∃ A' c', e = .returned (.slice A' 96 c') ∧ Nums w' .u8 A' 96 (pF xs i).bytes ∧ Below wr.heap.size wr w' := by
        have := lay_pg (pF xs i) (pF_ok Hxd.out (by omega)) (-1) rfl (some ⟨bx, ox + i, none⟩) 1 (c1 - i) wr hxs
        rw [show ((pF xs i).S : Int) = 1 + (i : Int) by show ((1 + i : Nat) : Int) = _; omega] at this
        exact this
      have HPr := hid (fun (W : World) (hW : Below wr.heap.size wr W) (A' : Option Addr) (c' : Nat) (hz' : Nums W .u8 A' 96 (pF xs i).bytes) => (program_run (hR.later hW) hG i0 Hi0.out.1 Hi0.out.2.1 i (by rw [hP, if_pos rfl, rowP_len]) (by omega) A' 96 c' _ hz' rfl (Pg.ok.isB (pF_ok Hxd.out (by omega))) :
        Calls Try.prog 25 #[.pointer (some ⟨b, 0, none⟩), .int .i64 (i0 : Int), .int .i64 (i : Int), .slice A' 96 c', .int .u64 0] W fun e w' => e = .returned (.int .i64 0) ∧ ∃ N', Run (fun _ => False) w2 w' b N' (fun _ => False) wr ∧ Hale N' nb np bad ∧ ∀ j, (N'.blk j).pages = if j = i0 then (N.blk i0).pages ++ [(pF xs i).bytes] else (N.blk j).pages))
      have HP := hid hP
      clear hR hG hP hxs hBr
      go_wp2_with fail
      refine hlay.mono ?_
      rintro e w7 ⟨A7, c7, rfl, hz7, hB7⟩
      have hpr := HPr.out w7 hB7 A7 c7 hz7
      clear hlay HPr hz7 hB7
      go_wp2_with fail
      refine hpr.mono ?_
      rintro e w8 ⟨rfl, N2, hR8, hG8, hP8⟩
      have HR8 := hid hR8.now
      have HG8 := hid hG8
      have HP8 := hid (show ∀ j, (N2.blk j).pages = if j = i0 then rowP (pF xs) (i + 1) else [] from fun j => by
        rw [hP8]
        by_cases e : j = i0
        · rw [if_pos e, if_pos e, HP.out, if_pos rfl, rowP_succ]
        · rw [if_neg e, if_neg e, HP.out, if_neg e])
      clear hpr hR8 hG8 hP8
      go_wp2
      go_roundw
      case rel => exact ⟨i + 1, N2, by go_num, by omega, HR8.out, HG8.out, HP8.out⟩
      case measure => simp [intOf]; omega
    · obtain rfl : i = k := by omega
      obtain ⟨bx, ox, rfl, -⟩ := Hx.out.2.at_ 0 (by omega)
      have hk60 : i ≤ 60 := by omega
      have cv1 : IntKind.i64.wrap (sm : Int) = (sm : Int) := IntWalk.i64_in _ (by omega)
      have cv2 : IntKind.i64.wrap ((i : Int) + 1) = (i : Int) + 1 := IntWalk.i64_in _ (by omega)
      have htm : ((sm : Int)).tmod ((i : Int) + 1) = ((sm % (i + 1) : Nat) : Int) := by rw [Int.tmod_eq_emod_of_nonneg (by omega)]; rfl
      have hcck : sm % (i + 1) < i + 1 := Nat.mod_lt _ (by omega)
      have hne1 : ¬ ((i : Int) + 1 = 0) := by omega
      have hne2 : (((i : Int) + 1) == 0) = false := by rw [beq_eq_false_iff_ne]; exact hne1
      generalize sm % (i + 1) = cc at *
      have HR := hid hR
      have HG := hid hG
      have HP := hid hP
      obtain ⟨k, hkk⟩ : ∃ x, i = x := ⟨_, rfl⟩
      subst hkk
      clear hR hG hP hlt
      go_wp2
      clear cv1 htm hne1 hne2
      go_loopw [16] (fun x w' => ∃ (j : Nat) (N' : NA), x = .int .i64 (j : Int) ∧ j ≤ cc ∧ Run (fun _ => False) w2 w' b N' (fun _ => False) w' ∧ Hale N' nb np bad ∧ ∀ l, (N'.blk l).pages = if l = i1 then rowP (pT xs i0) j else if l = i0 then rowP (pF xs) i else []) (fun x _ => 60 - (intOf x).toNat)
      case atStart => exact ⟨0, N, rfl, by omega, HR.out, HG.out, fun l => by
        rw [HP.out]
        by_cases e : l = i1
        · rw [if_pos e, if_neg (fun x => i01 (by rw [← x, e]))]; rfl
        · rw [if_neg e]⟩
      case round =>
        clear HR HP HG
        obtain ⟨j, N', rfl, hjc, hR, hG, hP⟩ := hrel
        by_cases hlt : j < cc
        · have hltI : (j : Int) < (cc : Int) := by omega
          have him : j < m1 := by omega
          have hmc := Hx.out.1
          have hBr := HB2.out.trans (hR.below.mono HB2.out.size)
          have hxs := nums_at (Hx.out.2.below hBr) j him
          have d1 : (j : Int) + 1 ≤ (c1 : Int) := by omega
          have d2 : (j : Int) ≤ (j : Int) + 1 := by omega
          have d3 : (0 : Int) ≤ (j : Int) := by omega
          have cv1 : IntKind.i64.wrap (100 + (j : Int)) = 100 + (j : Int) := IntWalk.i64_in _ (by omega)
          have cv2 : IntKind.i64.wrap ((j : Int) + 1) = (j : Int) + 1 := IntWalk.i64_in _ (by omega)
          have cv3 : IntKind.u64.wrap (100 + (j : Int)) = 100 + (j : Int) := IntWalk.u64_in _ (by omega)
          have hlay : Calls Try.prog 26 #[.agg #[.int .u8 1, .int .u64 0, .int .u64 (100 + (j : Int)), .int .i64 (j : Int), .int .i64 (i0 : Int), .slice (some ⟨bx, ox + j, none⟩) 1 (c1 - j)]] wr fun e w' => ∃ A' c', e = .returned (.slice A' 96 c') ∧ Nums w' .u8 A' 96 (pT xs i0 j).bytes ∧ Below wr.heap.size wr w' := by
            have := lay_pg (pT xs i0 j) (pT_ok Hxd.out (by omega) (by have := Hi0.out.1; omega)) (i0 : Int) (by show (i0 : Int) = ((i0 + 1 : Nat) : Int) - 1; omega) (some ⟨bx, ox + j, none⟩) 1 (c1 - j) wr hxs
            rw [show ((pT xs i0 j).S : Int) = 100 + (j : Int) by show ((100 + j : Nat) : Int) = _; omega] at this
            exact this
          have HPr := hid (fun (W : World) (hW : Below wr.heap.size wr W) (A' : Option Addr) (c' : Nat) (hz' : Nums W .u8 A' 96 (pT xs i0 j).bytes) => (program_run (hR.later hW) hG i1 Hi1.out.1 Hi1.out.2.1 j (by rw [hP, if_pos rfl, rowP_len]) (by omega) A' 96 c' _ hz' rfl (Pg.ok.isB (pT_ok Hxd.out (by omega) (by have := Hi0.out.1; omega))) :
            Calls Try.prog 25 #[.pointer (some ⟨b, 0, none⟩), .int .i64 (i1 : Int), .int .i64 (j : Int), .slice A' 96 c', .int .u64 0] W fun e w' => e = .returned (.int .i64 0) ∧ ∃ N2, Run (fun _ => False) w2 w' b N2 (fun _ => False) wr ∧ Hale N2 nb np bad ∧ ∀ l, (N2.blk l).pages = if l = i1 then (N'.blk i1).pages ++ [(pT xs i0 j).bytes] else (N'.blk l).pages))
          have HP := hid hP
          clear hR hG hP hxs hBr
          go_wp2_with fail
          refine hlay.mono ?_
          rintro e w7 ⟨A7, c7, rfl, hz7, hB7⟩
          have hpr := HPr.out w7 hB7 A7 c7 hz7
          clear hlay HPr hz7 hB7
          go_wp2_with fail
          refine hpr.mono ?_
          rintro e w8 ⟨rfl, N2, hR8, hG8, hP8⟩
          have HR8 := hid hR8.now
          have HG8 := hid hG8
          have HP8 := hid (show ∀ l, (N2.blk l).pages = if l = i1 then rowP (pT xs i0) (j + 1) else if l = i0 then rowP (pF xs) i else [] from fun l => by
            rw [hP8]
            by_cases e : l = i1
            · rw [if_pos e, if_pos e, HP.out, if_pos rfl, rowP_succ]
            · rw [if_neg e, if_neg e, HP.out, if_neg e])
          clear hpr hR8 hG8 hP8
          go_wp2
          go_roundw
          case rel => exact ⟨j + 1, N2, by go_num, by omega, HR8.out, HG8.out, HP8.out⟩
          case measure => simp [intOf]; omega
        · obtain rfl : j = cc := by omega
          have HR := hid hR
          have HG := hid hG
          have HP := hid hP
          have hccI : (j : Int) ≤ (i : Int) := by omega
          clear hR hG hP hlt
          go_wp2
          go_loopw [17] (fun x w' => ∃ (t kf : Nat) (N' : NA), x = .int .i64 (t : Int) ∧ t ≤ 2 ∧ ((t = 0 ∧ kf = i) ∨ (0 < t ∧ kf = 0 ∧ j = i)) ∧ Run (fun _ => False) w2 w' b N' (fun _ => False) w' ∧ Hale N' nb np bad ∧ ∀ l, (N'.blk l).pages = if l = i1 then rowP (pT xs i0) j else if l = i0 then rowP (pF xs) kf else []) (fun x _ => 3 - (intOf x).toNat)
          case atStart => exact ⟨0, i, N', rfl, by omega, .inl ⟨rfl, rfl⟩, HR.out, HG.out, HP.out⟩
          case round =>
            clear HR HP HG
            obtain ⟨t, kf, N3, rfl, ht2, htk, hR, hG, hP⟩ := hrel
            by_cases htl : t < 2
            · have htlI : (t : Int) < 2 := by omega
              have hbr := Hb1.out.later hR.below
              have hal := all_run hR hG Sp A m c (Hg2.out.later hR.below) M0 Hcap.out
              obtain ⟨y0, y1, y2, y3⟩ := geo_four hbr
              have HBr := hid hR.below
              have HR := hid hR
              have HG := hid hG
              have HP := hid hP
              clear hbr hR hG hP
              go_wp2_with fail
              refine hal.mono ?_
              rintro e w12 ⟨L, bm, ga, gh, gc, gp, n', spv, at', has, cnt, rfl, hT, hR, hB12⟩
              clear hal y0 y1 y2 y3
              have hjc : j ≤ i := by omega
              have hcp := CpL.of (fr := i0) (dt := i1) (kf := kf) (ct := j) Hxd.out (by omega) (by omega) (by have := Hi0.out.1; omega) (by omega) (by omega) Hi0.out.2.2 Hi1.out.2.2 i01 (fun x hx => by have := us_bd hx; omega) HP.out hT
              obtain ⟨L', sp, hs, hAd, hspl⟩ : ∃ L' sp, spoilS (us nb bad) L = (L', sp) ∧ Ads (flatF (us nb bad) L') i xs ∧ ((t = 0 ∧ j = 0 ∧ sp.length = 0) ∨ (t = 0 ∧ 0 < j ∧ sp.length = 1) ∨ (t = 1 ∧ sp.length = 0)) := by
                rcases htk with ⟨h1, h2⟩ | ⟨h1, h2, h3⟩
                · subst h2
                  by_cases hj0 : j = 0
                  · subst hj0
                    obtain ⟨c1', c2'⟩ := hcp.caseO Hi0.out.2.2
                    exact ⟨L, [], c1', c2', .inl ⟨h1, rfl, rfl⟩⟩
                  · obtain ⟨c1', c2'⟩ := hcp.caseA (us_nodup nb bad) Hi0.out.2.2 Hi1.out.2.2 (by omega) (by omega) i01 (by omega)
                    exact ⟨_, _, c1', c2', .inr (.inl ⟨h1, by omega, rfl⟩)⟩
                · subst h2
                  obtain ⟨c1', c2'⟩ := hcp.caseB Hi1.out.2.2
                  rw [h3] at c2'
                  exact ⟨L, [], c1', c2', .inr (.inr ⟨by omega, rfl⟩)⟩
              rw [hs] at hR
              obtain ⟨FL, hFL⟩ : ∃ x, flatF (us nb bad) L' = x := ⟨_, rfl⟩
              replace hR : AllR w12 wr.heap.size bm ga gh gc gp n' (M0 + 1) nb FL spv sp at' has cnt := by rw [← hFL]; exact hR
              rw [hFL] at hAd
              obtain ⟨As, cs, rfl⟩ := own_slice hR.spo
              obtain ⟨sl, hsl⟩ : ∃ x, sp.length = x := ⟨_, rfl⟩
              rw [hsl] at hR hspl ⊢
              generalize seqOf (flatF (us nb bad) L) = sq at *
              have hky := hAd.keys (M0 + 1) (by omega)
              clear hcp hT hs hFL htk
              go_upto_region 28 with (fail)
              obtain ⟨g4, hg4⟩ : ∃ g, w12.heap.size = g := ⟨_, rfl⟩
              generalize hw13 : World.alloc w12 _ = w13
              have hB13 : Below w12.heap.size w12 w13 := by rw [← hw13]; exact (Below.refl _ _).alloc (Nat.le_refl _) _
              have hb4 : Blk w13 g4 #[.pointer (some ⟨bm, 0, none⟩), .map (some gp), .int .u64 (sq : Int), .slice As sl cs] 61 := by rw [← hw13, ← hg4]; exact Blk.new _ _ _
              have hR13 := hR.later hB13
              have hll : (Builtin.len_ #[59] 3 #[.map (some gp)]).run Try.prog w13 = .ok (.int .i64 (i : Int)) w13 := by have := hR13.plen 3; rw [hky] at this; exact this
              have HB1213 := hid (hB12.trans (hB13.mono hB12.size))
              have HB13 := hid (HB2.out.trans ((HBr.out.trans (HB1213.out.mono HBr.out.size)).mono HB2.out.size))
              obtain ⟨x0, x1, x2, x3⟩ := geo_four hb4
              rw [hg4]
              have HR13 := hid hR13
              have HAd := hid hAd
              have Hb4 := hid hb4
              clear hw13 hg4 hR hR13 hB12 hB13 hb4 hky hAd
              go_cut [136] (fun q wx => q = .bool false ∧ wx = w13)
              case first =>
                rcases hspl with ⟨rfl, rfl, rfl⟩ | ⟨rfl, hj0, rfl⟩ | ⟨rfl, rfl⟩
                · go_wp2
                  go_meet
                  case rel => exact ⟨rfl, rfl⟩
                · have hj0I : (0 : Int) < (j : Int) := by omega
                  go_wp2
                  go_meet
                  case rel => exact ⟨rfl, rfl⟩
                · go_wp2
                  go_meet
                  case rel => exact ⟨rfl, rfl⟩
              case rest =>
              obtain ⟨rfl, hwx⟩ := hcut
              rw [hwx]
              clear hwx x0 x1 x2 x3 hll hspl
              go_wp2
              have hR13 := HR13.out
              go_loopw [20] (fun x w' => ∃ q : Nat, x = .int .i64 (q : Int) ∧ q ≤ i ∧ Below w13.heap.size w13 w') (fun x _ => 60 - (intOf x).toNat)
              case atStart => exact ⟨0, rfl, by omega, Below.refl _ _⟩
              case round =>
                obtain ⟨q, rfl, hqk, hBq⟩ := hrel
                by_cases hlq : q < i
                · have hlqI : (q : Int) < (i : Int) := by omega
                  have hqm : q < m1 := by omega
                  obtain ⟨y, fy, fym, fyp⟩ := HAd.out.look q hlq
                  have hRq := hR13.later hBq
                  have hlk := hRq.look (q : Int) (kwf_of (by omega))
                  have hpg : pgsF FL (q : Int) = some (y.2.val y.1) := by unfold pgsF; rw [fy]; rfl
                  rw [hpg] at hlk
                  replace hlk : (Instr.lookup 59 (.map (some gp)) (.int .i64 (q : Int)) false).run Try.prog wr = .ok (.agg #[.int .i64 y.1, .int .i64 (y.2.k : Int), .int .u8 (y.2.p.K : Int), .int .u64 (y.2.p.E : Int), .int .u64 (y.2.p.S : Int), .int .i64 (y.2.p.a : Int), .int .i64 ((y.2.p.f : Int) - 1), .slice y.2.A y.2.n y.2.c]) wr := hlk
                  have hth := (hRq.there y fym).2
                  rw [fyp] at hth
                  have hcv1 := conv_str (c := y.2.c) hth
                  have hxq := nums_at (Hx.out.2.below (HB13.out.trans (hBq.mono HB13.out.size))) q hqm
                  have hcv2 := conv_str (c := c1 - q) hxq
                  have hc1 := (Hb4.out.later hBq).cell 1
                  have HC := hid (show wr.cell? ⟨g4, 1, none⟩ = some (.map (some gp)) ∧ (Instr.lookup 59 (.map (some gp)) (.int .i64 (q : Int)) false).run Try.prog wr.drew = .ok (.agg #[.int .i64 y.1, .int .i64 (y.2.k : Int), .int .u8 (y.2.p.K : Int), .int .u64 (y.2.p.E : Int), .int .u64 (y.2.p.S : Int), .int .i64 (y.2.p.a : Int), .int .i64 ((y.2.p.f : Int) - 1), .slice y.2.A y.2.n y.2.c]) wr.drew ∧ (convert 39 9 (.slice y.2.A y.2.n y.2.c)).run Try.prog wr.drew = .ok (.string (strOfNums [xs.getD q 0])) wr.drew ∧ (convert 39 9 (.slice (some ⟨bx, ox + q, none⟩) 1 (c1 - q))).run Try.prog wr.drew = .ok (.string (strOfNums [xs.getD q 0])) wr.drew from ⟨hc1, by
                      have h1 := (hRq.later (below_drewN (Below.refl _ _) 1)).look (q : Int) (kwf_of (by omega))
                      rw [hpg] at h1
                      exact h1, conv_str (hth.below (below_drewN (Below.refl _ _) 1)), conv_str (hxq.below (below_drewN (Below.refl _ _) 1))⟩)
                  have hf1 := field_S
                  have hf2 := field_D
                  have hmc := Hx.out.1
                  have e1 : (q : Int) + 1 ≤ (c1 : Int) := by omega
                  have e2 : (q : Int) ≤ (q : Int) + 1 := by omega
                  have e3 : (0 : Int) ≤ (q : Int) := by omega
                  have e4 : ¬ c1 = q := by omega
                  have cvq : IntKind.i64.wrap ((q : Int) + 1) = (q : Int) + 1 := IntWalk.i64_in _ (by omega)
                  have hse := str_eq_true (show [xs.getD q 0] = [xs.getD q 0] from rfl)
                  have HBq := hid hBq
                  clear hlk hcv1 hcv2 hxq hth hc1 hRq hpg hBq
                  go_upto_region 33 with (fail)
                  refine wp_region_held_drew (S := (fun w' => w'.cell? ⟨g4, 1, none⟩ = some (.map (some gp)) ∧ (Instr.lookup 59 (.map (some gp)) (.int .i64 (q : Int)) false).run Try.prog w' = .ok (.agg #[.int .i64 y.1, .int .i64 (y.2.k : Int), .int .u8 (y.2.p.K : Int), .int .u64 (y.2.p.E : Int), .int .u64 (y.2.p.S : Int), .int .i64 (y.2.p.a : Int), .int .i64 ((y.2.p.f : Int) - 1), .slice y.2.A y.2.n y.2.c]) w' ∧ (convert 39 9 (.slice y.2.A y.2.n y.2.c)).run Try.prog w' = .ok (.string (strOfNums [xs.getD q 0])) w' ∧ (convert 39 9 (.slice (some ⟨bx, ox + q, none⟩) 1 (c1 - q))).run Try.prog w' = .ok (.string (strOfNums [xs.getD q 0])) w')) (by kernel_rfl) ?hSnewCpz (fun hHeld => ?restCpz)
                  case hSnewCpz => ((try dsimp only); exact HC.out)
                  refine wpAnyH_take (i := 0) (oi := ?oiCpt66x0) (v := ?vCpt66x0) ?hoCpt66x0 ?h1Cpt66x0 ?h2Cpt66x0 ?h3Cpt66x0 ?hqCpt66x0 (Or.inl ⟨?h4Cpt66x0, ?hyCpt66x0⟩) (by assumption) ?restCpt66x0
                  case hoCpt66x0 => (simp only [List.getElem?_toArray, List.getElem?_cons_zero, List.getElem?_cons_succ]; rfl)
                  case h1Cpt66x0 => kernel_rfl
                  case h2Cpt66x0 => kernel_rfl
                  case h3Cpt66x0 => kernel_rfl
                  case h4Cpt66x0 => rfl
                  case hqCpt66x0 => exact fun _ _ _ h => h
                  case hyCpt66x0 => (intro w hSw; (try dsimp only at hSw); go_simp <;> with_reducible rfl)
                  (try simp only [Act.put, List.setIfInBounds_toArray, List.set_cons_zero, List.set_cons_succ])
                  refine wpAnyH_take (i := 1) (oi := ?oiCpt68x1) (v := ?vCpt68x1) ?hoCpt68x1 ?h1Cpt68x1 ?h2Cpt68x1 ?h3Cpt68x1 ?hqCpt68x1 (Or.inl ⟨?h4Cpt68x1, ?hyCpt68x1⟩) (by assumption) ?restCpt68x1
                  case hoCpt68x1 => (simp only [List.getElem?_toArray, List.getElem?_cons_zero, List.getElem?_cons_succ]; rfl)
                  case h1Cpt68x1 => kernel_rfl
                  case h2Cpt68x1 => kernel_rfl
                  case h3Cpt68x1 => kernel_rfl
                  case h4Cpt68x1 => rfl
                  case hqCpt68x1 => exact fun _ _ _ h => h
                  case hyCpt68x1 => (intro w hSw; (try dsimp only at hSw); go_simp <;> with_reducible rfl)
                  (try simp only [Act.put, List.setIfInBounds_toArray, List.set_cons_zero, List.set_cons_succ])
                  refine wpAnyH_take (i := 2) (oi := ?oiCpt70x2) (v := ?vCpt70x2) ?hoCpt70x2 ?h1Cpt70x2 ?h2Cpt70x2 ?h3Cpt70x2 ?hqCpt70x2 (Or.inl ⟨?h4Cpt70x2, ?hyCpt70x2⟩) (by assumption) ?restCpt70x2
                  case hoCpt70x2 => (simp only [List.getElem?_toArray, List.getElem?_cons_zero, List.getElem?_cons_succ]; rfl)
                  case h1Cpt70x2 => kernel_rfl
                  case h2Cpt70x2 => kernel_rfl
                  case h3Cpt70x2 => kernel_rfl
                  case h4Cpt70x2 => rfl
                  case hqCpt70x2 => exact fun _ _ _ h => h
                  case hyCpt70x2 => (intro w hSw; (try dsimp only at hSw); go_simp <;> with_reducible rfl)
                  (try simp only [Act.put, List.setIfInBounds_toArray, List.set_cons_zero, List.set_cons_succ])
                  refine wpAnyH_take (i := 3) (oi := ?oiCpt72x3) (v := ?vCpt72x3) ?hoCpt72x3 ?h1Cpt72x3 ?h2Cpt72x3 ?h3Cpt72x3 ?hqCpt72x3 (Or.inl ⟨?h4Cpt72x3, ?hyCpt72x3⟩) (by assumption) ?restCpt72x3
                  case hoCpt72x3 => (simp only [List.getElem?_toArray, List.getElem?_cons_zero, List.getElem?_cons_succ]; rfl)
                  case h1Cpt72x3 => kernel_rfl
                  case h2Cpt72x3 => kernel_rfl
                  case h3Cpt72x3 => kernel_rfl
                  case h4Cpt72x3 => rfl
                  case hqCpt72x3 => exact fun _ _ _ h => h
                  case hyCpt72x3 => (intro w hSw; (try dsimp only at hSw); go_simp <;> with_reducible rfl)
                  (try simp only [Act.put, List.setIfInBounds_toArray, List.set_cons_zero, List.set_cons_succ])
                  refine wpAnyH_take (i := 4) (oi := ?oiCpt74x4) (v := ?vCpt74x4) ?hoCpt74x4 ?h1Cpt74x4 ?h2Cpt74x4 ?h3Cpt74x4 ?hqCpt74x4 (Or.inl ⟨?h4Cpt74x4, ?hyCpt74x4⟩) (by assumption) ?restCpt74x4
                  case hoCpt74x4 => (simp only [List.getElem?_toArray, List.getElem?_cons_zero, List.getElem?_cons_succ]; rfl)
                  case h1Cpt74x4 => kernel_rfl
                  case h2Cpt74x4 => kernel_rfl
                  case h3Cpt74x4 => kernel_rfl
                  case h4Cpt74x4 => rfl
                  case hqCpt74x4 => exact fun _ _ _ h => h
                  case hyCpt74x4 => (intro w hSw; (try dsimp only at hSw); go_simp <;> with_reducible rfl)
                  (try simp only [Act.put, List.setIfInBounds_toArray, List.set_cons_zero, List.set_cons_succ])
                  refine wpAnyH_take (i := 5) (oi := ?oiCpt76x5) (v := ?vCpt76x5) ?hoCpt76x5 ?h1Cpt76x5 ?h2Cpt76x5 ?h3Cpt76x5 ?hqCpt76x5 (Or.inl ⟨?h4Cpt76x5, ?hyCpt76x5⟩) (by assumption) ?restCpt76x5
                  case hoCpt76x5 => (simp only [List.getElem?_toArray, List.getElem?_cons_zero, List.getElem?_cons_succ]; rfl)
                  case h1Cpt76x5 => kernel_rfl
                  case h2Cpt76x5 => kernel_rfl
                  case h3Cpt76x5 => kernel_rfl
                  case h4Cpt76x5 => rfl
                  case hqCpt76x5 => exact fun _ _ _ h => h
                  case hyCpt76x5 => (intro w hSw; (try dsimp only at hSw); go_simp <;> with_reducible rfl)
                  (try simp only [Act.put, List.setIfInBounds_toArray, List.set_cons_zero, List.set_cons_succ])
                  refine wpAnyH_take (i := 6) (oi := ?oiCpt78x6) (v := ?vCpt78x6) ?hoCpt78x6 ?h1Cpt78x6 ?h2Cpt78x6 ?h3Cpt78x6 ?hqCpt78x6 (Or.inl ⟨?h4Cpt78x6, ?hyCpt78x6⟩) (by assumption) ?restCpt78x6
                  case hoCpt78x6 => (simp only [List.getElem?_toArray, List.getElem?_cons_zero, List.getElem?_cons_succ]; rfl)
                  case h1Cpt78x6 => kernel_rfl
                  case h2Cpt78x6 => kernel_rfl
                  case h3Cpt78x6 => kernel_rfl
                  case h4Cpt78x6 => rfl
                  case hqCpt78x6 => exact fun _ _ _ h => h
                  case hyCpt78x6 => (intro w hSw; (try dsimp only at hSw); go_simp <;> with_reducible rfl)
                  (try simp only [Act.put, List.setIfInBounds_toArray, List.set_cons_zero, List.set_cons_succ])
                  refine wpAnyH_take (i := 7) (oi := ?oiCpt80x7) (v := ?vCpt80x7) ?hoCpt80x7 ?h1Cpt80x7 ?h2Cpt80x7 ?h3Cpt80x7 ?hqCpt80x7 (Or.inl ⟨?h4Cpt80x7, ?hyCpt80x7⟩) (by assumption) ?restCpt80x7
                  case hoCpt80x7 => (simp only [List.getElem?_toArray, List.getElem?_cons_zero, List.getElem?_cons_succ]; rfl)
                  case h1Cpt80x7 => kernel_rfl
                  case h2Cpt80x7 => kernel_rfl
                  case h3Cpt80x7 => kernel_rfl
                  case h4Cpt80x7 => rfl
                  case hqCpt80x7 => exact fun _ _ _ h => h
                  case hyCpt80x7 => (intro w hSw; (try dsimp only at hSw); go_simp <;> with_reducible rfl)
                  (try simp only [Act.put, List.setIfInBounds_toArray, List.set_cons_zero, List.set_cons_succ])
                  refine wpAnyH_take (i := 8) (oi := ?oiCpt82x8) (v := ?vCpt82x8) ?hoCpt82x8 ?h1Cpt82x8 ?h2Cpt82x8 ?h3Cpt82x8 ?hqCpt82x8 (Or.inl ⟨?h4Cpt82x8, ?hyCpt82x8⟩) (by assumption) ?restCpt82x8
                  case hoCpt82x8 => (simp only [List.getElem?_toArray, List.getElem?_cons_zero, List.getElem?_cons_succ]; rfl)
                  case h1Cpt82x8 => kernel_rfl
                  case h2Cpt82x8 => kernel_rfl
                  case h3Cpt82x8 => kernel_rfl
                  case h4Cpt82x8 => rfl
                  case hqCpt82x8 => exact fun _ _ _ h => h
                  case hyCpt82x8 => (intro w hSw; (try dsimp only at hSw); go_simp <;> with_reducible rfl)
                  (try simp only [Act.put, List.setIfInBounds_toArray, List.set_cons_zero, List.set_cons_succ])
                  refine wpAnyH_take (i := 9) (oi := ?oiCpt84x9) (v := ?vCpt84x9) ?hoCpt84x9 ?h1Cpt84x9 ?h2Cpt84x9 ?h3Cpt84x9 ?hqCpt84x9 (Or.inl ⟨?h4Cpt84x9, ?hyCpt84x9⟩) (by assumption) ?restCpt84x9
                  case hoCpt84x9 => (simp only [List.getElem?_toArray, List.getElem?_cons_zero, List.getElem?_cons_succ]; rfl)
                  case h1Cpt84x9 => kernel_rfl
                  case h2Cpt84x9 => kernel_rfl
                  case h3Cpt84x9 => kernel_rfl
                  case h4Cpt84x9 => rfl
                  case hqCpt84x9 => exact fun _ _ _ h => h
                  case hyCpt84x9 => (intro w hSw; (try dsimp only at hSw); go_simp <;> with_reducible rfl)
                  (try simp only [Act.put, List.setIfInBounds_toArray, List.set_cons_zero, List.set_cons_succ])
                  refine wpAnyH_take (i := 10) (oi := ?oiCpt86x10) (v := ?vCpt86x10) ?hoCpt86x10 ?h1Cpt86x10 ?h2Cpt86x10 ?h3Cpt86x10 ?hqCpt86x10 (Or.inl ⟨?h4Cpt86x10, ?hyCpt86x10⟩) (by assumption) ?restCpt86x10
                  case hoCpt86x10 => (simp only [List.getElem?_toArray, List.getElem?_cons_zero, List.getElem?_cons_succ]; rfl)
                  case h1Cpt86x10 => kernel_rfl
                  case h2Cpt86x10 => kernel_rfl
                  case h3Cpt86x10 => kernel_rfl
                  case h4Cpt86x10 => rfl
                  case hqCpt86x10 => exact fun _ _ _ h => h
                  case hyCpt86x10 => (intro w hSw; (try dsimp only at hSw); go_simp <;> with_reducible rfl)
                  (try simp only [Act.put, List.setIfInBounds_toArray, List.set_cons_zero, List.set_cons_succ])
                  refine wpAnyH_take (i := 11) (oi := ?oiCpt88x11) (v := ?vCpt88x11) ?hoCpt88x11 ?h1Cpt88x11 ?h2Cpt88x11 ?h3Cpt88x11 ?hqCpt88x11 (Or.inl ⟨?h4Cpt88x11, ?hyCpt88x11⟩) (by assumption) ?restCpt88x11
                  case hoCpt88x11 => (simp only [List.getElem?_toArray, List.getElem?_cons_zero, List.getElem?_cons_succ]; rfl)
                  case h1Cpt88x11 => kernel_rfl
                  case h2Cpt88x11 => kernel_rfl
                  case h3Cpt88x11 => kernel_rfl
                  case h4Cpt88x11 => rfl
                  case hqCpt88x11 => exact fun _ _ _ h => h
                  case hyCpt88x11 => (intro w hSw; (try dsimp only at hSw); go_simp <;> with_reducible rfl)
                  (try simp only [Act.put, List.setIfInBounds_toArray, List.set_cons_zero, List.set_cons_succ])
                  refine wpAnyH_take (i := 12) (oi := ?oiCpt90x12) (v := ?vCpt90x12) ?hoCpt90x12 ?h1Cpt90x12 ?h2Cpt90x12 ?h3Cpt90x12 ?hqCpt90x12 (Or.inl ⟨?h4Cpt90x12, ?hyCpt90x12⟩) (by assumption) ?restCpt90x12
                  case hoCpt90x12 => (simp only [List.getElem?_toArray, List.getElem?_cons_zero, List.getElem?_cons_succ]; rfl)
                  case h1Cpt90x12 => kernel_rfl
                  case h2Cpt90x12 => kernel_rfl
                  case h3Cpt90x12 => kernel_rfl
                  case h4Cpt90x12 => rfl
                  case hqCpt90x12 => exact fun _ _ _ h => h
                  case hyCpt90x12 => (intro w hSw; (try dsimp only at hSw); go_simp <;> with_reducible rfl)
                  (try simp only [Act.put, List.setIfInBounds_toArray, List.set_cons_zero, List.set_cons_succ])
                  refine wpAnyH_take (i := 13) (oi := ?oiCpt92x13) (v := ?vCpt92x13) ?hoCpt92x13 ?h1Cpt92x13 ?h2Cpt92x13 ?h3Cpt92x13 ?hqCpt92x13 (Or.inl ⟨?h4Cpt92x13, ?hyCpt92x13⟩) (by assumption) ?restCpt92x13
                  case hoCpt92x13 => (simp only [List.getElem?_toArray, List.getElem?_cons_zero, List.getElem?_cons_succ]; rfl)
                  case h1Cpt92x13 => kernel_rfl
                  case h2Cpt92x13 => kernel_rfl
                  case h3Cpt92x13 => kernel_rfl
                  case h4Cpt92x13 => rfl
                  case hqCpt92x13 => exact fun _ _ _ h => h
                  case hyCpt92x13 => (intro w hSw; (try dsimp only at hSw); go_simp <;> with_reducible rfl)
                  (try simp only [Act.put, List.setIfInBounds_toArray, List.set_cons_zero, List.set_cons_succ])
                  refine wpAnyH_done (by kernel_rfl) ?_ _
                  clear HC hHeld
                  have HBq2 := hid (HBq.out.trans (below_drewN (Below.refl wr.heap.size wr) 1 |>.mono HBq.out.size))
                  go_wp2
                  go_roundw
                  case rel => exact ⟨q + 1, by go_num, by omega, HBq2.out⟩
                  case measure => simp [intOf]; omega
                · obtain rfl : q = i := by omega
                  have HB14 := hid (HB13.out.trans (hBq.mono HB13.out.size))
                  have HR14 := HR.out.later (HB1213.out.trans (hBq.mono HB1213.out.size))
                  clear hBq hlq hR13
                  by_cases hjk : j < q
                  · have hjkI : (j : Int) < (q : Int) := by omega
                    clear HR14
                    go_wp2
                    go_ret
                    exact ⟨rfl, HB14.out⟩
                  · have hjkI : (q : Int) ≤ (j : Int) := by omega
                    have her := erase_run HR14 HG.out i0 Hi0.out.1 Hi0.out.2.1
                    clear HR14
                    go_wp2_with fail
                    refine her.mono ?_
                    rintro e w15 ⟨rfl, N4, hR15, hG15, hP15⟩
                    clear her
                    have HR15 := hid hR15.now
                    have HG15 := hid hG15
                    have HP15 := hid (show ∀ l, (N4.blk l).pages = if l = i1 then rowP (pT xs i0) j else if l = i0 then rowP (pF xs) 0 else [] from fun l => by
                      rw [hP15]
                      by_cases e : l = i0
                      · rw [if_pos e, if_neg (fun x => i01 (by rw [← e, x])), if_pos e]; rfl
                      · rw [if_neg e, HP.out]
                        by_cases e1 : l = i1
                        · rw [if_pos e1, if_pos e1]
                        · rw [if_neg e1, if_neg e1, if_neg e, if_neg e])
                    clear hR15 hG15 hP15
                    go_wp2
                    go_roundw
                    case rel => exact ⟨t + 1, 0, N4, by go_num, by omega, .inr ⟨by omega, rfl, by omega⟩, HR15.out, HG15.out, HP15.out⟩
                    case measure => simp [intOf]; omega
            · have hteI : ¬ ((t : Int) < 2) := by omega
              have HB := hid (HB2.out.trans (hR.below.mono HB2.out.size))
              obtain rfl : t = 2 := by omega
              clear hR hG hP
              go_wp2
              go_ret
              exact ⟨rfl, HB.out⟩
end Go.Proofs.Ytcfildbgnjhjmaa.Scan
