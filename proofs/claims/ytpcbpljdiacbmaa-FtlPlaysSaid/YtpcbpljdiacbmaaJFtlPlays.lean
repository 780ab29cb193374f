import Derived.Test.YtpcbpljdiacbmaaJFtlLaw
import Derived.Deep.DeepCutAuto
set_option linter.unusedVariables false
set_option linter.unusedSimpArgs false
namespace Go.Proofs.Ytpcbpljdiacbmaa.Ftl
open Go.RowKit Go.Proofs.Ytpcbpljdiacbmaa.Kit Go.Proofs.Ytpcbpljdiacbmaa.Oct Go.Proofs.Ytpcbpljdiacbmaa.Sheet Go.Proofs.Ytpcbpljdiacbmaa.Nand Go.Proofs.Ytpcbpljdiacbmaa.Plan Go.Proofs.Ytpcbpljdiacbmaa.Scan Go.Proofs.Ytpcbpljdiacbmaa.Pmap Go.Proofs.Ytpcbpljdiacbmaa.Pool

set_option maxRecDepth 100000 in
set_option maxHeartbeats 4000000 in
theorem law_plays (n : Int) (hn : 0 ≤ n ∧ n ≤ 255) (C : Option Addr) (l d : Nat) (xs : Nat → FAct) (w : World) (hx : Recs w C l 5 FAct.enc FAct.ok xs) :
    Calls Try.prog 5 #[.int .u8 n, .slice C l d] w fun e w' => e = .returned (.bool true) ∧ Below w.heap.size w w' := by
  have hl63 : (l : Int) ≤ 9223372036854775807 := by have := hx.most; omega
  have Hx := hid hx
  clear hx
  obtain ⟨n, rfl⟩ := Int.eq_ofNat_of_zero_le hn.1
  have hn : n < 256 := by omega
  have hk : CK (cG n 1) := cG_ok hn (by omega) (by omega)
  have hgeo : ∀ W, Calls Try.prog 14 #[.int .u8 (n : Int)] W fun e w' => ∃ A m cp, e = .returned (.agg #[.int .i64 ((cG n 1).nb : Int), .int .i64 ((cG n 1).np : Int), .int .i64 ((cG n 1).S : Int), .slice A m cp]) ∧ Geo w' (cG n 1).nb (cG n 1).np ((cG n 1).S : Int) A m cp (cG n 1).bad ∧ Below W.heap.size W w' ∧ ∀ ad, A = some ad → W.heap.size ≤ ad.block ∧ ad.block < w'.heap.size := fun W => geometry_low n hn W
  have hbad : ∀ x ∈ (cG n 1).bad, 0 ≤ x ∧ x < ((cG n 1).nb : Int) := geo_bad ⟨n, hn⟩
  have hcM : Plan.cap ((cG n 1).nb : Int) ((cG n 1).np : Int) ((cG n 1).S : Int) (cG n 1).bad = ((cG n 1).M : Int) - 1 := hk.ok
  have hM61 : (cG n 1).M ≤ 61 := by
    have h := (geo_more ⟨n, hn⟩).2.2.2
    have h : capN n ≤ 60 := h
    show capN n + 1 ≤ 61
    omega
  have hnb : 5 ≤ (cG n 1).nb ∧ (cG n 1).nb ≤ 9 := by show 5 ≤ gB n ∧ gB n ≤ 9; unfold gB; omega
  have hnp : 2 ≤ (cG n 1).np ∧ (cG n 1).np ≤ 5 := by show 2 ≤ gP n ∧ gP n ≤ 5; unfold gP; omega
  generalize cG n 1 = c at *
  have Hk := hid hk
  have Hbad := hid hbad
  have HcM := hid hcM
  have hM1 := hk.M
  clear hk hbad hcM
  go_enter Try.func5, Try.ntmps5
  go_wp2_with fail
  refine (awake_ftl w).mono ?_
  rintro e w0 ⟨rfl, hB0⟩
  have hgeo' := hgeo w0
  clear hgeo
  go_wp2_with fail
  refine hgeo'.mono ?_
  rintro e w1 ⟨A, m, cp, rfl, hg1, hB1, hA1⟩
  clear hgeo'
  go_upto_region 4 with (fail)
  generalize hw2 : World.alloc w1 _ = w2
  obtain ⟨g1, hg1e⟩ : ∃ g, w1.heap.size = g := ⟨_, rfl⟩
  have hB2 : Below w1.heap.size w1 w2 := by rw [← hw2]; exact (Below.refl _ _).alloc (Nat.le_refl _) _
  have hb1 : Blk w2 g1 #[.int .i64 (c.nb : Int), .int .i64 (c.np : Int), .int .i64 (c.S : Int), .slice A m cp] 26 := by rw [← hw2, ← hg1e]; exact Blk.new _ _ _
  have hg2 := hg1.later hB2
  have hB02 := hB0.trans ((hB1.trans (hB2.mono hB1.size)).mono hB0.size)
  have hnew := new_run c.nb c.np A m cp c.bad (gk g1) w w2 hB02 (by omega) (by omega) hg2.nums Hbad.out (fun g hg => by
    have h1 := hB1.size
    have h2 := hb1.lt
    have h3 := hB0.size
    rcases hg with hg | ⟨ad, had, rfl⟩
    · have hg : g = g1 := hg
      rw [hg]
      omega
    · have := hA1 ad had
      omega)
  have hne : ∀ g, gk g1 g → ∀ ad, A = some ad → g ≠ ad.block := fun g hg ad had => by
    have hg : g = g1 := hg
    have := hA1 ad had
    omega
  obtain ⟨z0, z1, z2, z3⟩ := geo_four hb1
  rw [hg1e]
  have Hne := hid hne
  have Hb1 := hid hb1
  have Hg2 := hid hg2
  clear hw2 hg1e hB1 hB2 hb1 hg1 hg2 hA1 hne hB0 hB02
  go_wp2_with fail
  refine hnew.mono ?_
  rintro e w3 ⟨b, rfl, hR3, hB3⟩
  clear hnew z0 z1 z2 z3
  have hb3 := Hb1.out.later hB3
  have hg3 := Hg2.out.later hB3
  have hke := Hk.out.at (e := 1) (by omega) (by omega)
  have hmt : Calls Try.prog 16 #[.pointer (some ⟨b, 0, none⟩), .agg #[.int .i64 (c.nb : Int), .int .i64 (c.np : Int), .int .i64 (c.S : Int), .slice A m cp], .int .u64 1] w3 fun e w' => ∃ o st, o.ba = b ∧ e = .returned (.tuple #[.pointer (some ⟨o.bf, 0, none⟩), .int .i64 0]) ∧ LF (c.at 1) o A m cp (gk g1) w3 w w' st ∧ Sound (c.at 1) st (Vof (fun _ => none)) 0 ∧ Ops 1 (newA c.nb c.np c.bad) st.N := cmount (c := c.at 1) hke hR3 Hne.out hg3 (AOk.new hke) rfl CalmN.new
  obtain ⟨z0, z1, z2, z3⟩ := geo_four hb3
  have Hb3 := hid hb3
  clear hR3 hB3 hg3 hb3 Hb1 Hg2 Hne Hbad hke
  go_wp2_with fail
  refine hmt.mono ?_
  rintro e w4 ⟨o, st, hob, rfl, hL4, hS4, -⟩
  clear hmt z0 z1 z2 z3
  subst hob
  have hb4 := hL4.blk (show gk g1 g1 from rfl) Hb3.out
  have HS := hid hS4
  obtain ⟨z0, z1, z2, z3⟩ := geo_four hb4
  have hrc : Calls Try.prog 17 #[.agg #[.int .i64 (c.nb : Int), .int .i64 (c.np : Int), .int .i64 (c.S : Int), .slice A m cp]] w4 fun e w' => e = .returned (.int .i64 ((c.M : Int) - 1)) ∧ Below w4.heap.size w4 w' := by rw [← HcM.out]; exact rcap_geo hL4.geo
  have HL4 := hid hL4
  have Hb4 := hid hb4
  clear hL4 hS4 hb4 Hb3
  go_wp2_with fail
  refine hrc.mono ?_
  rintro e w5 ⟨rfl, hB5⟩
  clear hrc z0 z1 z2 z3
  have hmk := fun W => make_strs W c.M (by omega)
  have hMw : IntKind.i64.wrap ((c.M : Int) - 1 + 1) = (c.M : Int) := by rw [IntWalk.i64_in _ (by omega)]; omega
  go_upto_region 9 with (fail)
  clear hmk
  generalize hw6 : World.alloc w5 _ = w6
  obtain ⟨gn, hgn⟩ : ∃ g, w5.heap.size = g := ⟨_, rfl⟩
  have hB6 : Below w5.heap.size w5 w6 := by rw [← hw6]; exact (Below.refl _ _).alloc (Nat.le_refl _) _
  have hbn : Blk w6 gn (strs (List.replicate c.M [])) 9 := by rw [← hw6, ← hgn]; exact Blk.new _ _ _
  have hB46 := hB5.trans (hB6.mono hB5.size)
  have hL6 := HL4.out.more (K' := gk2 g1 gn) hB46 (fun g hg => by
    rcases hg with hg | hg
    · exact .inl hg
    · exact .inr (by rw [hg]; exact ⟨by have := hB5.size; omega, hbn.lt⟩)) (fun g hg => .inl hg)
  have HL := hid hL6
  have Hg := hid (Hb4.out.later hB46)
  have Hn := hid hbn
  rw [hgn]
  have HM := hid (show c.M ≤ 61 ∧ 1 ≤ c.M from ⟨hM61, hM1⟩)
  have h1n := hid (show g1 ≠ gn by have := Hb4.out.lt; have := hB5.size; omega)
  clear hw6 hgn hB5 hB6 hbn hB46 hL6 HL4 Hb4 hMw
  obtain ⟨ba, hba⟩ : ∃ x, o.ba = x := ⟨_, rfl⟩
  rw [hba]
  have Hba := hid hba
  clear hba
  go_wp2
  go_loopw [11, 8] (fun t f w' => ∃ (k e : Nat) (o' : FId) (st' : FT) (D : Nat → Option (List Int)) (ys : List (List Int)), k ≤ l ∧ k ≤ 100 ∧ t = .int .i64 (k : Int) ∧ f = .pointer (some ⟨o'.bf, 0, none⟩) ∧ o'.ba = ba ∧ 1 ≤ e ∧ e < 1000 ∧ LF (c.at e) o' A m cp (gk2 g1 gn) w' w w' st' ∧ Sound (c.at e) st' D (7000 * k) ∧ Fits c D ys ∧ Blk w' g1 #[.int .i64 (c.nb : Int), .int .i64 (c.np : Int), .int .i64 (c.S : Int), .slice A m cp] 26 ∧ Blk w' gn (strs ys) 9) (fun t _ _ => l - (intOf t).toNat)
  case atStart => exact ⟨0, 1, o, st, _, _, by omega, by omega, rfl, rfl, Hba.out, by omega, by omega, HL.out, HS.out, Fits.new c, Hg.out, Hn.out⟩
  case round =>
    clear HL HS Hg Hn Hba
    obtain ⟨k, e, o', st', D, ys, hkl, hk100, rfl, rfl, hba, he1, he2, hL, hS, hF, hbg, hbn⟩ := hrel
    have Hba := hid hba
    clear hba
    by_cases hlt : k < l
    · have hltI : (k : Int) < (l : Int) := by omega
      by_cases h100 : k < 100
      · have h100I : (k : Int) < 100 := by omega
        obtain ⟨bC, oC, rfl, hc⟩ := (Hx.out.below hL.below (fun _ h => h.later hL.below)).at_ k hlt
        obtain ⟨x0, x1, x2, x3, x4⟩ := FAct.cells hc
        obtain ⟨hkd, had, hz, hnn⟩ := Hx.out.ok k hlt
        generalize (xs k).kind = kd at *
        generalize (xs k).addr = ad at *
        generalize (xs k).near = nr at *
        generalize (xs k).A = dA at *
        generalize (xs k).dn = dn at *
        generalize (xs k).dc = dc at *
        generalize (xs k).ys = dys at *
        generalize (xs k).n = nn at *
        obtain ⟨U, hU, hUt, hU15⟩ := rem_nat kd hkd.1 15 (by omega)
        replace hU : kd % 15 = (U : Int) := hU
        replace hUt : kd.tmod 15 = (U : Int) := hUt
        have hU4 : (U : Int) < 8 ∨ ((8 : Int) ≤ (U : Int) ∧ (U : Int) < 10) ∨ (U : Int) = 10 ∨ (10 : Int) < (U : Int) := by omega
        obtain ⟨j, hj, hjm⟩ := umod_nat ad c.M HM.out.2
        have HL := hid hL
        have HS := hid hS
        have HF := hid hF
        have Hg := hid hbg
        have Hn := hid hbn
        have Hz := hid hz
        have Hke := hid (Hk.out.at (e := e) (by omega) (by omega))
        have HU := hid (show kd.tmod 15 = (U : Int) ∧ kd % 15 = (U : Int) from ⟨hUt, hU⟩)
        have hM61 := HM.out.1
        clear hL hS hF hbg hbn hc hz
        go_upto_region 13 with (fail)
        generalize hw2 : World.alloc wr _ = w2
        obtain ⟨gx, hgx⟩ : ∃ g, wr.heap.size = g := ⟨_, rfl⟩
        have hB2 : Below wr.heap.size wr w2 := by rw [← hw2]; exact (Below.refl _ _).alloc (Nat.le_refl _) _
        have hbx : Blk w2 gx #[.int .u8 kd, .int .i64 ad, .bool nr, .slice dA dn dc, .int .u8 nn] 48 := by rw [← hw2, ← hgx]; exact Blk.new _ _ _
        have hL2 := HL.out.more (K' := fun g => gk2 g1 gn g ∨ g = gx) hB2 (fun g hg => hg.imp id (fun x => by rw [x]; exact ⟨by omega, hbx.lt⟩)) (fun g hg => .inl hg)
        have hgx1 : gx ≠ g1 ∧ gx ≠ gn := by have := Hg.out.lt; have := Hn.out.lt; omega
        have Hgx := hid hgx1
        have HL2 := hid hL2
        have Hg2 := hid (Hg.out.later hB2)
        have Hn2 := hid (Hn.out.later hB2)
        rw [hgx]
        clear hw2 hgx hB2 hL2 HL Hg Hn x0 x1 x2 x3 x4 hgx1
        have Hbx := hid hbx
        obtain ⟨x0, x1, x2, x3, x4⟩ := five hbx
        have f1 := hbx.free 1
        clear hbx
        go_upto_if 58 with (fail)
        go_cut [] (fun wx => ∃ ad2 : Int, (-9223372036854775808 ≤ ad2 ∧ ad2 ≤ 9223372036854775807) ∧ Blk wx gx #[.int .u8 kd, .int .i64 ad2, .bool nr, .slice dA dn dc, .int .u8 nn] 48 ∧ LF (c.at e) o' A m cp (fun g => gk2 g1 gn g ∨ g = gx) wx w wx st' ∧ Blk wx g1 #[.int .i64 (c.nb : Int), .int .i64 (c.np : Int), .int .i64 (c.S : Int), .slice A m cp] 26 ∧ Blk wx gn (strs ys) 9)
        case first =>
          cases nr
          · go_wp2
            go_meet
            case rel => exact ⟨ad, had, Hbx.out, HL2.out, Hg2.out, Hn2.out⟩
          · have b1 : IntKind.u64.wrap (c.M : Int) = (c.M : Int) := IntWalk.u64_in _ (by omega)
            have b2 : IntKind.i64.wrap (j : Int) = (j : Int) := IntWalk.i64_in _ (by omega)
            have b3 : (c.M : Int) ≠ 0 := by omega
            go_wp2
            go_meet
            case rel =>
              have hs := Hbx.out.set 1 (.int .i64 (j : Int))
              exact ⟨(j : Int), by omega, by simpa using hs, HL2.out.store gx 1 _ (.inr rfl), Hg2.out.setOther ⟨gx, 1, none⟩ (show g1 ≠ gx from fun x => Hgx.out.1 x.symm) _, Hn2.out.setOther ⟨gx, 1, none⟩ (show gn ≠ gx from fun x => Hgx.out.2 x.symm) _⟩
        case rest =>
          obtain ⟨ad2, had2, hbx, hL8, hbg8, hbn8⟩ := hcut
          obtain ⟨w8, rfl⟩ : ∃ W, W = wc := ⟨_, rfl⟩
          clear x0 x1 x2 x3 x4 f1 HL2 Hg2 Hn2 Hbx hj hjm had
          obtain ⟨x0, x1, x2, x3, x4⟩ := five hbx
          have Hbx := hid hbx
          have HL8 := hid hL8
          have HS8 := HS
          have HF8 := HF
          have Hg8 := hid hbg8
          have Hn8 := hid hbn8
          obtain ⟨hUt, hU⟩ := HU.out
          clear hbx hL8 hbg8 hbn8 HS HF HU
          by_cases h0 : ad2 < 0
          · have hd0 : decide ((0 : Int) ≤ ad2) = false := decide_eq_false (by omega)
            rcases hU4 with hu | ⟨hu, hu2⟩ | hu | hu
            · have hwa := write_arg HL8.out.fr Hke.out.ok ad2 dA dn dc (.inl h0)
              go_wp2_with fail
              refine hwa.mono ?_
              rintro e w9 ⟨rfl, hB9⟩
              obtain ⟨x0, x1, x2, x3, x4⟩ := five (Hbx.out.later hB9)
              have HL9 := hid ((HL8.out.later hB9).now)
              have HS9 := HS8
              have HF9 := HF8
              have Hg9 := hid (Hg8.out.later hB9)
              have Hn9 := hid (Hn8.out.later hB9)
              clear hwa hB9 HL8 HS8 HF8 Hg8 Hn8 Hbx
              have hfl := HL9.out.cfailed HS9.out
              have HL10 := HL9
              have HS10 := HS9
              clear HL9 HS9
              go_wp2_with fail
              refine hfl.mono ?_
              rintro e w10 ⟨rfl, hB10⟩
              obtain ⟨q, hq, hfr⟩ := (HL10.out.later hB10).cfree HS10.out
              have hqI : (1 : Int) ≤ (q : Int) := by omega
              have hfr := hfr w10 (Below.refl _ _)
              have HL10 := hid (HL10.out.later hB10)
              have Hg10 := hid (Hg9.out.later hB10)
              have Hn10 := hid (Hn9.out.later hB10)
              clear hfl hB10 Hg9 Hn9
              go_wp2_with fail
              refine hfr.mono ?_
              rintro e w11 ⟨rfl, hB11⟩
              have HL11 := hid (((HL10.out.later hB11).now).less (fun g hg => .inl hg))
              have Hg11 := hid (Hg10.out.later hB11)
              have Hn11 := hid (Hn10.out.later hB11)
              clear hfr hB11 HL10 Hg10 Hn10
              go_wp2
              go_roundw
              case rel => exact ⟨k + 1, e, o', _, _, _, by omega, by omega, by go_num, rfl, Hba.out, by omega, by omega, HL11.out, HS10.out.up (by omega), HF9.out, Hg11.out, Hn11.out⟩
              case measure => simp [intOf]; omega
            · have hwa := trim_arg HL8.out.fr Hke.out.ok ad2 (.inl h0)
              go_wp2_with fail
              refine hwa.mono ?_
              rintro e w9 ⟨rfl, hB9⟩
              obtain ⟨x0, x1, x2, x3, x4⟩ := five (Hbx.out.later hB9)
              have HL9 := hid ((HL8.out.later hB9).now)
              have HS9 := HS8
              have HF9 := HF8
              have Hg9 := hid (Hg8.out.later hB9)
              have Hn9 := hid (Hn8.out.later hB9)
              clear hwa hB9 HL8 HS8 HF8 Hg8 Hn8 Hbx
              have hfl := HL9.out.cfailed HS9.out
              have HL10 := HL9
              have HS10 := HS9
              clear HL9 HS9
              go_wp2_with fail
              refine hfl.mono ?_
              rintro e w10 ⟨rfl, hB10⟩
              obtain ⟨q, hq, hfr⟩ := (HL10.out.later hB10).cfree HS10.out
              have hqI : (1 : Int) ≤ (q : Int) := by omega
              have hfr := hfr w10 (Below.refl _ _)
              have HL10 := hid (HL10.out.later hB10)
              have Hg10 := hid (Hg9.out.later hB10)
              have Hn10 := hid (Hn9.out.later hB10)
              clear hfl hB10 Hg9 Hn9
              go_wp2_with fail
              refine hfr.mono ?_
              rintro e w11 ⟨rfl, hB11⟩
              have HL11 := hid (((HL10.out.later hB11).now).less (fun g hg => .inl hg))
              have Hg11 := hid (Hg10.out.later hB11)
              have Hn11 := hid (Hn10.out.later hB11)
              clear hfr hB11 HL10 Hg10 Hn10
              go_wp2
              go_roundw
              case rel => exact ⟨k + 1, e, o', _, _, _, by omega, by omega, by go_num, rfl, Hba.out, by omega, by omega, HL11.out, HS10.out.up (by omega), HF9.out, Hg11.out, Hn11.out⟩
              case measure => simp [intOf]; omega
            · have hmt := HL8.out.again Hke.out HS8.out (e := 2 + k) (by omega) (by omega)
              have hmt : Calls Try.prog 16 #[.pointer (some ⟨ba, 0, none⟩), .agg #[.int .i64 (c.nb : Int), .int .i64 (c.np : Int), .int .i64 (c.S : Int), .slice A m cp], .int .u64 (2 + (k : Int))] w8 fun e' w' => ∃ o9 st9, o9.ba = ba ∧ e' = .returned (.tuple #[.pointer (some ⟨o9.bf, 0, none⟩), .int .i64 0]) ∧ LF (c.at (2 + k)) o9 A m cp (fun g => gk2 g1 gn g ∨ g = gx) w8 w w' st9 ∧ Sound (c.at (2 + k)) st9 D (7000 * k) ∧ Ops (2 + k : Nat) st'.N st9.N := by
                rw [← Hba.out]
                rw [show (2 + (k : Int)) = ((2 + k : Nat) : Int) by omega]
                exact hmt
              obtain ⟨z0, z1, z2, z3⟩ := geo_four Hg8.out
              have a1 : IntKind.u64.wrap (k : Int) = (k : Int) := IntWalk.u64_in _ (by omega)
              have a2 : IntKind.u64.wrap (2 + (k : Int)) = 2 + (k : Int) := IntWalk.u64_in _ (by omega)
              go_wp2_with fail
              refine hmt.mono ?_
              rintro e8 w9 ⟨o9, st9, hob9, rfl, hL9, hS9, -⟩
              clear hmt z0 z1 z2 z3
              have hep : Calls Try.prog 23 #[.pointer (some ⟨o9.bf, 0, none⟩)] w9 fun e w' => e = .returned (.int .u64 (2 + (k : Int))) ∧ w' = w9 := by
                have := epoch_run hL9.fr
                rw [show (((c.at (2 + k)).ep : Nat) : Int) = 2 + (k : Int) by show ((2 + k : Nat) : Int) = _; omega] at this
                exact this
              have HL9 := hid hL9.now
              have HS9 := hid hS9
              have HF9 := HF8
              have Hob9 := hid hob9
              have Hg9 := hid (hL9.blk (.inl (.inl rfl)) Hg8.out)
              have Hn9 := hid (hL9.blk (.inl (.inr rfl)) Hn8.out)
              clear hL9 hS9 hob9 HL8 HS8 HF8 Hg8 Hn8 Hbx
              go_wp2_with fail
              refine hep.mono ?_
              rintro e w90 ⟨rfl, rfl⟩
              clear hep a1 a2
              have hfl := HL9.out.cfailed HS9.out
              have HL10 := HL9
              have HS10 := HS9
              clear HL9 HS9
              go_wp2_with fail
              refine hfl.mono ?_
              rintro e w10 ⟨rfl, hB10⟩
              obtain ⟨q, hq, hfr⟩ := (HL10.out.later hB10).cfree HS10.out
              have hqI : (1 : Int) ≤ (q : Int) := by omega
              have hfr := hfr w10 (Below.refl _ _)
              have HL10 := hid (HL10.out.later hB10)
              have Hg10 := hid (Hg9.out.later hB10)
              have Hn10 := hid (Hn9.out.later hB10)
              clear hfl hB10 Hg9 Hn9
              go_wp2_with fail
              refine hfr.mono ?_
              rintro e w11 ⟨rfl, hB11⟩
              have HL11 := hid (((HL10.out.later hB11).now).less (fun g hg => .inl hg))
              have Hg11 := hid (Hg10.out.later hB11)
              have Hn11 := hid (Hn10.out.later hB11)
              clear hfr hB11 HL10 Hg10 Hn10
              go_wp2
              go_roundw
              case rel => exact ⟨k + 1, 2 + k, o9, _, _, _, by omega, by omega, by go_num, rfl, Hob9.out, by omega, by omega, HL11.out, HS10.out.up (by omega), HF9.out, Hg11.out, Hn11.out⟩
              case measure => simp [intOf]; omega
            · have HL9 := HL8
              have HS9 := HS8
              have HF9 := HF8
              have Hg9 := Hg8
              have Hn9 := Hn8
              clear HL8 HS8 HF8 Hg8 Hn8 Hbx
              have hfl := HL9.out.cfailed HS9.out
              have HL10 := HL9
              have HS10 := HS9
              clear HL9 HS9
              go_wp2_with fail
              refine hfl.mono ?_
              rintro e w10 ⟨rfl, hB10⟩
              obtain ⟨q, hq, hfr⟩ := (HL10.out.later hB10).cfree HS10.out
              have hqI : (1 : Int) ≤ (q : Int) := by omega
              have hfr := hfr w10 (Below.refl _ _)
              have HL10 := hid (HL10.out.later hB10)
              have Hg10 := hid (Hg9.out.later hB10)
              have Hn10 := hid (Hn9.out.later hB10)
              clear hfl hB10 Hg9 Hn9
              go_wp2_with fail
              refine hfr.mono ?_
              rintro e w11 ⟨rfl, hB11⟩
              have HL11 := hid (((HL10.out.later hB11).now).less (fun g hg => .inl hg))
              have Hg11 := hid (Hg10.out.later hB11)
              have Hn11 := hid (Hn10.out.later hB11)
              clear hfr hB11 HL10 Hg10 Hn10
              go_wp2
              go_roundw
              case rel => exact ⟨k + 1, e, o', _, _, _, by omega, by omega, by go_num, rfl, Hba.out, by omega, by omega, HL11.out, HS10.out.up (by omega), HF9.out, Hg11.out, Hn11.out⟩
              case measure => simp [intOf]; omega
          have h0' : 0 ≤ ad2 := by omega
          have hd0 : decide ((0 : Int) ≤ ad2) = true := decide_eq_true h0'
          by_cases h1 : (c.M : Int) ≤ ad2
          · have hd1 : decide (ad2 < (c.M : Int)) = false := decide_eq_false (by omega)
            rcases hU4 with hu | ⟨hu, hu2⟩ | hu | hu
            · have hwa := write_arg HL8.out.fr Hke.out.ok ad2 dA dn dc (.inr h1)
              go_wp2_with fail
              refine hwa.mono ?_
              rintro e w9 ⟨rfl, hB9⟩
              obtain ⟨x0, x1, x2, x3, x4⟩ := five (Hbx.out.later hB9)
              have HL9 := hid ((HL8.out.later hB9).now)
              have HS9 := HS8
              have HF9 := HF8
              have Hg9 := hid (Hg8.out.later hB9)
              have Hn9 := hid (Hn8.out.later hB9)
              clear hwa hB9 HL8 HS8 HF8 Hg8 Hn8 Hbx
              have hfl := HL9.out.cfailed HS9.out
              have HL10 := HL9
              have HS10 := HS9
              clear HL9 HS9
              go_wp2_with fail
              refine hfl.mono ?_
              rintro e w10 ⟨rfl, hB10⟩
              obtain ⟨q, hq, hfr⟩ := (HL10.out.later hB10).cfree HS10.out
              have hqI : (1 : Int) ≤ (q : Int) := by omega
              have hfr := hfr w10 (Below.refl _ _)
              have HL10 := hid (HL10.out.later hB10)
              have Hg10 := hid (Hg9.out.later hB10)
              have Hn10 := hid (Hn9.out.later hB10)
              clear hfl hB10 Hg9 Hn9
              go_wp2_with fail
              refine hfr.mono ?_
              rintro e w11 ⟨rfl, hB11⟩
              have HL11 := hid (((HL10.out.later hB11).now).less (fun g hg => .inl hg))
              have Hg11 := hid (Hg10.out.later hB11)
              have Hn11 := hid (Hn10.out.later hB11)
              clear hfr hB11 HL10 Hg10 Hn10
              go_wp2
              go_roundw
              case rel => exact ⟨k + 1, e, o', _, _, _, by omega, by omega, by go_num, rfl, Hba.out, by omega, by omega, HL11.out, HS10.out.up (by omega), HF9.out, Hg11.out, Hn11.out⟩
              case measure => simp [intOf]; omega
            · have hwa := trim_arg HL8.out.fr Hke.out.ok ad2 (.inr h1)
              go_wp2_with fail
              refine hwa.mono ?_
              rintro e w9 ⟨rfl, hB9⟩
              obtain ⟨x0, x1, x2, x3, x4⟩ := five (Hbx.out.later hB9)
              have HL9 := hid ((HL8.out.later hB9).now)
              have HS9 := HS8
              have HF9 := HF8
              have Hg9 := hid (Hg8.out.later hB9)
              have Hn9 := hid (Hn8.out.later hB9)
              clear hwa hB9 HL8 HS8 HF8 Hg8 Hn8 Hbx
              have hfl := HL9.out.cfailed HS9.out
              have HL10 := HL9
              have HS10 := HS9
              clear HL9 HS9
              go_wp2_with fail
              refine hfl.mono ?_
              rintro e w10 ⟨rfl, hB10⟩
              obtain ⟨q, hq, hfr⟩ := (HL10.out.later hB10).cfree HS10.out
              have hqI : (1 : Int) ≤ (q : Int) := by omega
              have hfr := hfr w10 (Below.refl _ _)
              have HL10 := hid (HL10.out.later hB10)
              have Hg10 := hid (Hg9.out.later hB10)
              have Hn10 := hid (Hn9.out.later hB10)
              clear hfl hB10 Hg9 Hn9
              go_wp2_with fail
              refine hfr.mono ?_
              rintro e w11 ⟨rfl, hB11⟩
              have HL11 := hid (((HL10.out.later hB11).now).less (fun g hg => .inl hg))
              have Hg11 := hid (Hg10.out.later hB11)
              have Hn11 := hid (Hn10.out.later hB11)
              clear hfr hB11 HL10 Hg10 Hn10
              go_wp2
              go_roundw
              case rel => exact ⟨k + 1, e, o', _, _, _, by omega, by omega, by go_num, rfl, Hba.out, by omega, by omega, HL11.out, HS10.out.up (by omega), HF9.out, Hg11.out, Hn11.out⟩
              case measure => simp [intOf]; omega
            · have hmt := HL8.out.again Hke.out HS8.out (e := 2 + k) (by omega) (by omega)
              have hmt : Calls Try.prog 16 #[.pointer (some ⟨ba, 0, none⟩), .agg #[.int .i64 (c.nb : Int), .int .i64 (c.np : Int), .int .i64 (c.S : Int), .slice A m cp], .int .u64 (2 + (k : Int))] w8 fun e' w' => ∃ o9 st9, o9.ba = ba ∧ e' = .returned (.tuple #[.pointer (some ⟨o9.bf, 0, none⟩), .int .i64 0]) ∧ LF (c.at (2 + k)) o9 A m cp (fun g => gk2 g1 gn g ∨ g = gx) w8 w w' st9 ∧ Sound (c.at (2 + k)) st9 D (7000 * k) ∧ Ops (2 + k : Nat) st'.N st9.N := by
                rw [← Hba.out]
                rw [show (2 + (k : Int)) = ((2 + k : Nat) : Int) by omega]
                exact hmt
              obtain ⟨z0, z1, z2, z3⟩ := geo_four Hg8.out
              have a1 : IntKind.u64.wrap (k : Int) = (k : Int) := IntWalk.u64_in _ (by omega)
              have a2 : IntKind.u64.wrap (2 + (k : Int)) = 2 + (k : Int) := IntWalk.u64_in _ (by omega)
              go_wp2_with fail
              refine hmt.mono ?_
              rintro e8 w9 ⟨o9, st9, hob9, rfl, hL9, hS9, -⟩
              clear hmt z0 z1 z2 z3
              have hep : Calls Try.prog 23 #[.pointer (some ⟨o9.bf, 0, none⟩)] w9 fun e w' => e = .returned (.int .u64 (2 + (k : Int))) ∧ w' = w9 := by
                have := epoch_run hL9.fr
                rw [show (((c.at (2 + k)).ep : Nat) : Int) = 2 + (k : Int) by show ((2 + k : Nat) : Int) = _; omega] at this
                exact this
              have HL9 := hid hL9.now
              have HS9 := hid hS9
              have HF9 := HF8
              have Hob9 := hid hob9
              have Hg9 := hid (hL9.blk (.inl (.inl rfl)) Hg8.out)
              have Hn9 := hid (hL9.blk (.inl (.inr rfl)) Hn8.out)
              clear hL9 hS9 hob9 HL8 HS8 HF8 Hg8 Hn8 Hbx
              go_wp2_with fail
              refine hep.mono ?_
              rintro e w90 ⟨rfl, rfl⟩
              clear hep a1 a2
              have hfl := HL9.out.cfailed HS9.out
              have HL10 := HL9
              have HS10 := HS9
              clear HL9 HS9
              go_wp2_with fail
              refine hfl.mono ?_
              rintro e w10 ⟨rfl, hB10⟩
              obtain ⟨q, hq, hfr⟩ := (HL10.out.later hB10).cfree HS10.out
              have hqI : (1 : Int) ≤ (q : Int) := by omega
              have hfr := hfr w10 (Below.refl _ _)
              have HL10 := hid (HL10.out.later hB10)
              have Hg10 := hid (Hg9.out.later hB10)
              have Hn10 := hid (Hn9.out.later hB10)
              clear hfl hB10 Hg9 Hn9
              go_wp2_with fail
              refine hfr.mono ?_
              rintro e w11 ⟨rfl, hB11⟩
              have HL11 := hid (((HL10.out.later hB11).now).less (fun g hg => .inl hg))
              have Hg11 := hid (Hg10.out.later hB11)
              have Hn11 := hid (Hn10.out.later hB11)
              clear hfr hB11 HL10 Hg10 Hn10
              go_wp2
              go_roundw
              case rel => exact ⟨k + 1, 2 + k, o9, _, _, _, by omega, by omega, by go_num, rfl, Hob9.out, by omega, by omega, HL11.out, HS10.out.up (by omega), HF9.out, Hg11.out, Hn11.out⟩
              case measure => simp [intOf]; omega
            · have HL9 := HL8
              have HS9 := HS8
              have HF9 := HF8
              have Hg9 := Hg8
              have Hn9 := Hn8
              clear HL8 HS8 HF8 Hg8 Hn8 Hbx
              have hfl := HL9.out.cfailed HS9.out
              have HL10 := HL9
              have HS10 := HS9
              clear HL9 HS9
              go_wp2_with fail
              refine hfl.mono ?_
              rintro e w10 ⟨rfl, hB10⟩
              obtain ⟨q, hq, hfr⟩ := (HL10.out.later hB10).cfree HS10.out
              have hqI : (1 : Int) ≤ (q : Int) := by omega
              have hfr := hfr w10 (Below.refl _ _)
              have HL10 := hid (HL10.out.later hB10)
              have Hg10 := hid (Hg9.out.later hB10)
              have Hn10 := hid (Hn9.out.later hB10)
              clear hfl hB10 Hg9 Hn9
              go_wp2_with fail
              refine hfr.mono ?_
              rintro e w11 ⟨rfl, hB11⟩
              have HL11 := hid (((HL10.out.later hB11).now).less (fun g hg => .inl hg))
              have Hg11 := hid (Hg10.out.later hB11)
              have Hn11 := hid (Hn10.out.later hB11)
              clear hfr hB11 HL10 Hg10 Hn10
              go_wp2
              go_roundw
              case rel => exact ⟨k + 1, e, o', _, _, _, by omega, by omega, by go_num, rfl, Hba.out, by omega, by omega, HL11.out, HS10.out.up (by omega), HF9.out, Hg11.out, Hn11.out⟩
              case measure => simp [intOf]; omega
          obtain ⟨a, rfl⟩ := Int.eq_ofNat_of_zero_le h0'
          have ha : a < c.M := by omega
          have haI : (a : Int) < (c.M : Int) := by omega
          have hd1 : decide ((a : Int) < (c.M : Int)) = true := decide_eq_true haI
          rcases hU4 with hu | ⟨hu, hu2⟩ | hu | hu
          · by_cases hdn : 64 < dn
            · have hdnI : (64 : Int) < (dn : Int) := by omega
              have hwa := write_long HL8.out.fr Hke.out.ok a dA dn dc ha hdn
              go_wp2_with fail
              refine hwa.mono ?_
              rintro e w9 ⟨rfl, hB9⟩
              obtain ⟨x0, x1, x2, x3, x4⟩ := five (Hbx.out.later hB9)
              have HL9 := hid ((HL8.out.later hB9).now)
              have HS9 := HS8
              have HF9 := HF8
              have Hg9 := hid (Hg8.out.later hB9)
              have Hn9 := hid (Hn8.out.later hB9)
              clear hwa hB9 HL8 HS8 HF8 Hg8 Hn8 Hbx
              have hfl := HL9.out.cfailed HS9.out
              have HL10 := HL9
              have HS10 := HS9
              clear HL9 HS9
              go_wp2_with fail
              refine hfl.mono ?_
              rintro e w10 ⟨rfl, hB10⟩
              obtain ⟨q, hq, hfr⟩ := (HL10.out.later hB10).cfree HS10.out
              have hqI : (1 : Int) ≤ (q : Int) := by omega
              have hfr := hfr w10 (Below.refl _ _)
              have HL10 := hid (HL10.out.later hB10)
              have Hg10 := hid (Hg9.out.later hB10)
              have Hn10 := hid (Hn9.out.later hB10)
              clear hfl hB10 Hg9 Hn9
              go_wp2_with fail
              refine hfr.mono ?_
              rintro e w11 ⟨rfl, hB11⟩
              have HL11 := hid (((HL10.out.later hB11).now).less (fun g hg => .inl hg))
              have Hg11 := hid (Hg10.out.later hB11)
              have Hn11 := hid (Hn10.out.later hB11)
              clear hfr hB11 HL10 Hg10 Hn10
              go_wp2
              go_roundw
              case rel => exact ⟨k + 1, e, o', _, _, _, by omega, by omega, by go_num, rfl, Hba.out, by omega, by omega, HL11.out, HS10.out.up (by omega), HF9.out, Hg11.out, Hn11.out⟩
              case measure => simp [intOf]; omega
            · have hdnI : (dn : Int) ≤ 64 := by omega
              have hwa := HL8.out.cwrite_old Hke.out HS8.out (by omega) a dys dA dn dc Hz.out ha (by omega)
              go_wp2_with fail
              refine hwa.mono ?_
              rintro e w9 ⟨rfl, st9, hL9, hS9, -⟩
              obtain ⟨x0, x1, x2, x3, x4⟩ := five (hL9.blk (.inr rfl) Hbx.out)
              have hbn9 := hL9.blk (.inl (.inr rfl)) Hn8.out
              have hcv := conv_str (c := dc) (Hz.out.below hL9.below)
              have n0 := strs_cell hbn9 a (by rw [HF8.out.1]; exact ha)
              have fn := hbn9.free a
              have HS9 := hid hS9
              have HF9 := hid (HF8.out.set ha dys)
              have hset := hbn9.set a (.string (strOfNums dys))
              rw [strs_set] at hset
              have HL9 := hid ((hL9.now).store gn a (.string (strOfNums dys)) (.inl (.inr rfl)))
              have Hn9 := hid hset
              have Hg9 := hid ((hL9.blk (.inl (.inl rfl)) Hg8.out).setOther ⟨gn, a, none⟩ (show g1 ≠ gn from h1n.out) (.string (strOfNums dys)))
              clear hwa hL9 hS9 hset hbn9 HL8 HS8 HF8 Hg8 Hn8 Hbx
              have hfl := HL9.out.cfailed HS9.out
              have HL10 := HL9
              have HS10 := HS9
              clear HL9 HS9
              go_wp2_with fail
              refine hfl.mono ?_
              rintro e w10 ⟨rfl, hB10⟩
              obtain ⟨q, hq, hfr⟩ := (HL10.out.later hB10).cfree HS10.out
              have hqI : (1 : Int) ≤ (q : Int) := by omega
              have hfr := hfr w10 (Below.refl _ _)
              have HL10 := hid (HL10.out.later hB10)
              have Hg10 := hid (Hg9.out.later hB10)
              have Hn10 := hid (Hn9.out.later hB10)
              clear hfl hB10 Hg9 Hn9
              go_wp2_with fail
              refine hfr.mono ?_
              rintro e w11 ⟨rfl, hB11⟩
              have HL11 := hid (((HL10.out.later hB11).now).less (fun g hg => .inl hg))
              have Hg11 := hid (Hg10.out.later hB11)
              have Hn11 := hid (Hn10.out.later hB11)
              clear hfr hB11 HL10 Hg10 Hn10
              go_wp2
              go_roundw
              case rel => exact ⟨k + 1, e, o', _, _, _, by omega, by omega, by go_num, rfl, Hba.out, by omega, by omega, HL11.out, HS10.out.up (by omega), HF9.out, Hg11.out, Hn11.out⟩
              case measure => simp [intOf]; omega
          · have hwa := HL8.out.ctrim Hke.out HS8.out (by omega) a ha
            go_wp2_with fail
            refine hwa.mono ?_
            rintro e w9 ⟨rfl, st9, hL9, hS9, -⟩
            obtain ⟨x0, x1, x2, x3, x4⟩ := five (hL9.blk (.inr rfl) Hbx.out)
            have hbn9 := hL9.blk (.inl (.inr rfl)) Hn8.out
            have n0 := strs_cell hbn9 a (by rw [HF8.out.1]; exact ha)
            have fn := hbn9.free a
            have HS9 := hid hS9
            have HF9 := hid (HF8.out.trim ha)
            have hset := hbn9.set a (.string (strOfNums []))
            rw [strs_set] at hset
            have HL9 := hid ((hL9.now).store gn a (.string (strOfNums [])) (.inl (.inr rfl)))
            have Hn9 := hid hset
            have Hg9 := hid ((hL9.blk (.inl (.inl rfl)) Hg8.out).setOther ⟨gn, a, none⟩ (show g1 ≠ gn from h1n.out) (.string (strOfNums [])))
            clear hwa hL9 hS9 hset hbn9 HL8 HS8 HF8 Hg8 Hn8 Hbx
            have hfl := HL9.out.cfailed HS9.out
            have HL10 := HL9
            have HS10 := HS9
            clear HL9 HS9
            go_wp2_with fail
            refine hfl.mono ?_
            rintro e w10 ⟨rfl, hB10⟩
            obtain ⟨q, hq, hfr⟩ := (HL10.out.later hB10).cfree HS10.out
            have hqI : (1 : Int) ≤ (q : Int) := by omega
            have hfr := hfr w10 (Below.refl _ _)
            have HL10 := hid (HL10.out.later hB10)
            have Hg10 := hid (Hg9.out.later hB10)
            have Hn10 := hid (Hn9.out.later hB10)
            clear hfl hB10 Hg9 Hn9
            go_wp2_with fail
            refine hfr.mono ?_
            rintro e w11 ⟨rfl, hB11⟩
            have HL11 := hid (((HL10.out.later hB11).now).less (fun g hg => .inl hg))
            have Hg11 := hid (Hg10.out.later hB11)
            have Hn11 := hid (Hn10.out.later hB11)
            clear hfr hB11 HL10 Hg10 Hn10
            go_wp2
            go_roundw
            case rel => exact ⟨k + 1, e, o', _, _, _, by omega, by omega, by go_num, rfl, Hba.out, by omega, by omega, HL11.out, HS10.out.up (by omega), HF9.out, Hg11.out, Hn11.out⟩
            case measure => simp [intOf]; omega
          · have hmt := HL8.out.again Hke.out HS8.out (e := 2 + k) (by omega) (by omega)
            have hmt : Calls Try.prog 16 #[.pointer (some ⟨ba, 0, none⟩), .agg #[.int .i64 (c.nb : Int), .int .i64 (c.np : Int), .int .i64 (c.S : Int), .slice A m cp], .int .u64 (2 + (k : Int))] w8 fun e' w' => ∃ o9 st9, o9.ba = ba ∧ e' = .returned (.tuple #[.pointer (some ⟨o9.bf, 0, none⟩), .int .i64 0]) ∧ LF (c.at (2 + k)) o9 A m cp (fun g => gk2 g1 gn g ∨ g = gx) w8 w w' st9 ∧ Sound (c.at (2 + k)) st9 D (7000 * k) ∧ Ops (2 + k : Nat) st'.N st9.N := by
              rw [← Hba.out]
              rw [show (2 + (k : Int)) = ((2 + k : Nat) : Int) by omega]
              exact hmt
            obtain ⟨z0, z1, z2, z3⟩ := geo_four Hg8.out
            have a1 : IntKind.u64.wrap (k : Int) = (k : Int) := IntWalk.u64_in _ (by omega)
            have a2 : IntKind.u64.wrap (2 + (k : Int)) = 2 + (k : Int) := IntWalk.u64_in _ (by omega)
            go_wp2_with fail
            refine hmt.mono ?_
            rintro e8 w9 ⟨o9, st9, hob9, rfl, hL9, hS9, -⟩
            clear hmt z0 z1 z2 z3
            have hep : Calls Try.prog 23 #[.pointer (some ⟨o9.bf, 0, none⟩)] w9 fun e w' => e = .returned (.int .u64 (2 + (k : Int))) ∧ w' = w9 := by
              have := epoch_run hL9.fr
              rw [show (((c.at (2 + k)).ep : Nat) : Int) = 2 + (k : Int) by show ((2 + k : Nat) : Int) = _; omega] at this
              exact this
            have HL9 := hid hL9.now
            have HS9 := hid hS9
            have HF9 := HF8
            have Hob9 := hid hob9
            have Hg9 := hid (hL9.blk (.inl (.inl rfl)) Hg8.out)
            have Hn9 := hid (hL9.blk (.inl (.inr rfl)) Hn8.out)
            clear hL9 hS9 hob9 HL8 HS8 HF8 Hg8 Hn8 Hbx
            go_wp2_with fail
            refine hep.mono ?_
            rintro e w90 ⟨rfl, rfl⟩
            clear hep a1 a2
            have hfl := HL9.out.cfailed HS9.out
            have HL10 := HL9
            have HS10 := HS9
            clear HL9 HS9
            go_wp2_with fail
            refine hfl.mono ?_
            rintro e w10 ⟨rfl, hB10⟩
            obtain ⟨q, hq, hfr⟩ := (HL10.out.later hB10).cfree HS10.out
            have hqI : (1 : Int) ≤ (q : Int) := by omega
            have hfr := hfr w10 (Below.refl _ _)
            have HL10 := hid (HL10.out.later hB10)
            have Hg10 := hid (Hg9.out.later hB10)
            have Hn10 := hid (Hn9.out.later hB10)
            clear hfl hB10 Hg9 Hn9
            go_wp2_with fail
            refine hfr.mono ?_
            rintro e w11 ⟨rfl, hB11⟩
            have HL11 := hid (((HL10.out.later hB11).now).less (fun g hg => .inl hg))
            have Hg11 := hid (Hg10.out.later hB11)
            have Hn11 := hid (Hn10.out.later hB11)
            clear hfr hB11 HL10 Hg10 Hn10
            go_wp2
            go_roundw
            case rel => exact ⟨k + 1, 2 + k, o9, _, _, _, by omega, by omega, by go_num, rfl, Hob9.out, by omega, by omega, HL11.out, HS10.out.up (by omega), HF9.out, Hg11.out, Hn11.out⟩
            case measure => simp [intOf]; omega
          · have HL9 := HL8
            have HS9 := HS8
            have HF9 := HF8
            have Hg9 := Hg8
            have Hn9 := Hn8
            clear HL8 HS8 HF8 Hg8 Hn8 Hbx
            have hfl := HL9.out.cfailed HS9.out
            have HL10 := HL9
            have HS10 := HS9
            clear HL9 HS9
            go_wp2_with fail
            refine hfl.mono ?_
            rintro e w10 ⟨rfl, hB10⟩
            obtain ⟨q, hq, hfr⟩ := (HL10.out.later hB10).cfree HS10.out
            have hqI : (1 : Int) ≤ (q : Int) := by omega
            have hfr := hfr w10 (Below.refl _ _)
            have HL10 := hid (HL10.out.later hB10)
            have Hg10 := hid (Hg9.out.later hB10)
            have Hn10 := hid (Hn9.out.later hB10)
            clear hfl hB10 Hg9 Hn9
            go_wp2_with fail
            refine hfr.mono ?_
            rintro e w11 ⟨rfl, hB11⟩
            have HL11 := hid (((HL10.out.later hB11).now).less (fun g hg => .inl hg))
            have Hg11 := hid (Hg10.out.later hB11)
            have Hn11 := hid (Hn10.out.later hB11)
            clear hfr hB11 HL10 Hg10 Hn10
            go_wp2
            go_roundw
            case rel => exact ⟨k + 1, e, o', _, _, _, by omega, by omega, by go_num, rfl, Hba.out, by omega, by omega, HL11.out, HS10.out.up (by omega), HF9.out, Hg11.out, Hn11.out⟩
            case measure => simp [intOf]; omega
      · obtain rfl : k = 100 := by omega
        have hrt := right_any hL (Hk.out.at (e := e) (by omega) (by omega)) hS.rest gn c.M ys hbn hF.1 (Nat.le_refl _) (fun i hi => by rw [hS.data]; exact hF.2 i hi)
        have HL2 := hid hL
        clear hL hS hF hbn hbg
        go_wp2_with fail
        refine hrt.mono ?_
        rintro e w9 ⟨rfl, hB9⟩
        clear hrt
        go_wp2
        go_ret
        exact ⟨rfl, (HL2.out.later hB9).below⟩
    · obtain rfl : k = l := by omega
      have hrt := right_any hL (Hk.out.at (e := e) (by omega) (by omega)) hS.rest gn c.M ys hbn hF.1 (Nat.le_refl _) (fun i hi => by rw [hS.data]; exact hF.2 i hi)
      have HL2 := hid hL
      clear hL hS hF hbn hbg
      go_wp2_with fail
      refine hrt.mono ?_
      rintro e w9 ⟨rfl, hB9⟩
      clear hrt
      go_wp2
      go_ret
      exact ⟨rfl, (HL2.out.later hB9).below⟩
end Go.Proofs.Ytpcbpljdiacbmaa.Ftl
