import Derived.Test.YtpcbpljdiacbmaaJFtlSt
import Derived.Deep.DeepCutAuto
set_option linter.unusedVariables false
set_option linter.unusedSimpArgs false
namespace Go.Proofs.Ytpcbpljdiacbmaa.Ftl
open Go.RowKit Go.Proofs.Ytpcbpljdiacbmaa.Kit Go.Proofs.Ytpcbpljdiacbmaa.Oct Go.Proofs.Ytpcbpljdiacbmaa.Sheet Go.Proofs.Ytpcbpljdiacbmaa.Nand Go.Proofs.Ytpcbpljdiacbmaa.Plan Go.Proofs.Ytpcbpljdiacbmaa.Scan Go.Proofs.Ytpcbpljdiacbmaa.Pmap Go.Proofs.Ytpcbpljdiacbmaa.Pool

set_option maxRecDepth 100000 in
set_option maxHeartbeats 4000000 in
theorem law_mounts (n : Int) (hn : 0 ≤ n ∧ n ≤ 255) (C : Option Addr) (l d : Nat) (xs : Nat → FAct) (tm : Int) (htm : 0 ≤ tm ∧ tm ≤ 255) (w : World) (hx : Recs w C l 5 FAct.enc FAct.ok xs) :
  Calls Try.prog 4 #[.int .u8 n, .slice C l d, .int .u8 tm] w fun e w' => e = .returned (.bool true) ∧ Below w.heap.size w w' := by
 have hl63 : (l : Int) ≤ 9223372036854775807 := by have := hx.most; omega
 have Hx := hid hx
 clear hx
 obtain ⟨T, hT, hTt, hT6⟩ := rem_nat tm htm.1 6 (by omega)
 replace hT : tm % 6 = (T : Int) := hT
 replace hTt : tm.tmod 6 = (T : Int) := hTt
 obtain ⟨n, rfl⟩ := Int.eq_ofNat_of_zero_le hn.1
 have hn : n < 256 := by omega
 have hk : CK (cG n 1) := cG_ok hn (by omega) (by omega)
 have hgeo : ∀ W, Calls Try.prog 14 #[.int .u8 (n : Int)] W fun e w' => ∃ A m cp, e = .returned (.agg #[.int .i64 ((cG n 1).nb : Int), .int .i64 ((cG n 1).np : Int), .int .i64 ((cG n 1).S : Int), .slice A m cp]) ∧ Geo w' (cG n 1).nb (cG n 1).np ((cG n 1).S : Int) A m cp (cG n 1).bad ∧ Below W.heap.size W w' ∧ ∀ ad, A = some ad → W.heap.size ≤ ad.block ∧ ad.block < w'.heap.size := fun W => geometry_low n hn W
 have hbad : ∀ x ∈ (cG n 1).bad, 0 ≤ x ∧ x < ((cG n 1).nb : Int) := geo_bad ⟨n, hn⟩
 have hcM : Plan.cap ((cG n 1).nb : Int) ((cG n 1).np : Int) ((cG n 1).S : Int) (cG n 1).bad = ((cG n 1).M : Int) - 1 := hk.ok
 have hM61 : (cG n 1).M ≤ 61 := by
  have h := (geo_more ⟨n, hn⟩).2.2.2
  have h : capN n ≤ 60 := h
  show capN n + 1 ≤ 61
  omega
 have hnb : 5 ≤ (cG n 1).nb ∧ (cG n 1).nb ≤ 9 := by show 5 ≤ gB n ∧ gB n ≤ 9; unfold gB; omega
 have hnp : 2 ≤ (cG n 1).np ∧ (cG n 1).np ≤ 5 := by show 2 ≤ gP n ∧ gP n ≤ 5; unfold gP; omega
 generalize cG n 1 = c at *
 have Hk := hid hk
 have Hbad := hid hbad
 have HcM := hid hcM
 have hM1 := hk.M
 clear hk hbad hcM
 go_enter Try.func4, Try.ntmps4
 go_wp2_with fail
 refine (awake_ftl w).mono ?_
 rintro e w0 ⟨rfl, hB0⟩
 have hgeo' := hgeo w0
 clear hgeo
 go_wp2_with fail
 refine hgeo'.mono ?_
 rintro e w1 ⟨A, m, cp, rfl, hg1, hB1, hA1⟩
 clear hgeo'
 go_upto_region 4 with (fail)
 generalize hw2 : World.alloc w1 _ = w2
 obtain ⟨g1, hg1e⟩ : ∃ g, w1.heap.size = g := ⟨_, rfl⟩
 have hB2 : Below w1.heap.size w1 w2 := by rw [← hw2]; exact (Below.refl _ _).alloc (Nat.le_refl _) _
 have hb1 : Blk w2 g1 #[.int .i64 (c.nb : Int), .int .i64 (c.np : Int), .int .i64 (c.S : Int), .slice A m cp] 26 := by rw [← hw2, ← hg1e]; exact Blk.new _ _ _
 have hg2 := hg1.later hB2
 have hB02 := hB0.trans ((hB1.trans (hB2.mono hB1.size)).mono hB0.size)
 have hnew := new_run c.nb c.np A m cp c.bad (gk g1) w w2 hB02 (by omega) (by omega) hg2.nums Hbad.out (fun g hg => by
  have h1 := hB1.size
  have h2 := hb1.lt
  have h3 := hB0.size
  rcases hg with hg | ⟨ad, had, rfl⟩
  ·have hg : g = g1 := hg
   rw [hg]
   omega
  ·have := hA1 ad had
   omega)
 have hne : ∀ g, gk g1 g → ∀ ad, A = some ad → g ≠ ad.block := fun g hg ad had => by
  have hg : g = g1 := hg
  have := hA1 ad had
  omega
 obtain ⟨z0, z1, z2, z3⟩ := geo_four hb1
 rw [hg1e]
 have Hne := hid hne
 have Hb1 := hid hb1
 have Hg2 := hid hg2
 clear hw2 hg1e hB1 hB2 hb1 hg1 hg2 hA1 hne hB0 hB02
 go_wp2_with fail
 refine hnew.mono ?_
 rintro e w3 ⟨b, rfl, hR3, hB3⟩
 clear hnew z0 z1 z2 z3
 have hb3 := Hb1.out.later hB3
 have hg3 := Hg2.out.later hB3
 have hke := Hk.out.at (e := 1) (by omega) (by omega)
 have hmt : Calls Try.prog 16 #[.pointer (some ⟨b, 0, none⟩), .agg #[.int .i64 (c.nb : Int), .int .i64 (c.np : Int), .int .i64 (c.S : Int), .slice A m cp], .int .u64 1] w3 fun e w' => ∃ o st, o.ba = b ∧ e = .returned (.tuple #[.pointer (some ⟨o.bf, 0, none⟩), .int .i64 0]) ∧ LF (c.at 1) o A m cp (gk g1) w3 w w' st ∧ Sound (c.at 1) st (Vof (fun _ => none)) 0 ∧ Ops 1 (newA c.nb c.np c.bad) st.N := cmount (c := c.at 1) hke hR3 Hne.out hg3 (AOk.new hke) rfl CalmN.new
 obtain ⟨z0, z1, z2, z3⟩ := geo_four hb3
 have Hb3 := hid hb3
 clear hR3 hB3 hg3 hb3 Hb1 Hg2 Hne Hbad hke
 go_wp2_with fail
 refine hmt.mono ?_
 rintro e w4 ⟨o, st, hob, rfl, hL4, hS4, -⟩
 clear hmt z0 z1 z2 z3
 subst hob
 have hb4 := hL4.blk (show gk g1 g1 from rfl) Hb3.out
 have HS := hid hS4
 obtain ⟨z0, z1, z2, z3⟩ := geo_four hb4
 have hrc : Calls Try.prog 17 #[.agg #[.int .i64 (c.nb : Int), .int .i64 (c.np : Int), .int .i64 (c.S : Int), .slice A m cp]] w4 fun e w' => e = .returned (.int .i64 ((c.M : Int) - 1)) ∧ Below w4.heap.size w4 w' := by rw [← HcM.out]; exact rcap_geo hL4.geo
 have HL4 := hid hL4
 have Hb4 := hid hb4
 clear hL4 hS4 hb4 Hb3
 go_wp2_with fail
 refine hrc.mono ?_
 rintro e w5 ⟨rfl, hB5⟩
 clear hrc z0 z1 z2 z3
 have hmk := fun W => make_strs W c.M (by omega)
 have hMw : IntKind.i64.wrap ((c.M : Int) - 1 + 1) = (c.M : Int) := by rw [IntWalk.i64_in _ (by omega)]; omega
 go_upto_region 7 with (fail)
 clear hmk
 generalize hw6 : World.alloc w5 _ = w6
 obtain ⟨gn, hgn⟩ : ∃ g, w5.heap.size = g := ⟨_, rfl⟩
 have hB6 : Below w5.heap.size w5 w6 := by rw [← hw6]; exact (Below.refl _ _).alloc (Nat.le_refl _) _
 have hbn : Blk w6 gn (strs (List.replicate c.M [])) 9 := by rw [← hw6, ← hgn]; exact Blk.new _ _ _
 have hB46 := hB5.trans (hB6.mono hB5.size)
 have hL6 := HL4.out.more (K' := gk2 g1 gn) hB46 (fun g hg => by
  rcases hg with hg | hg
  ·exact .inl hg
  ·exact .inr (by rw [hg]; exact ⟨by have := hB5.size; omega, hbn.lt⟩)) (fun g hg => .inl hg)
 have HL := hid hL6
 have Hg := hid (Hb4.out.later hB46)
 have Hn := hid hbn
 rw [hgn]
 have HM := hid (show c.M ≤ 61 ∧ 1 ≤ c.M from ⟨hM61, hM1⟩)
 have h1n := hid (show g1 ≠ gn by have := Hb4.out.lt; have := hB5.size; omega)
 clear hw6 hgn hB5 hB6 hbn hB46 hL6 HL4 Hb4 hMw
 obtain ⟨ba, hba⟩ : ∃ x, o.ba = x := ⟨_, rfl⟩
 rw [hba]
 have Hba := hid hba
 clear hba
 have hM61 := HM.out.1
 have Hke := hid (Hk.out.at (e := 1) (by omega) (by omega))
 go_wp2
 go_loopw [13] (fun t w' => ∃ (k : Nat) (st' : FT) (D : Nat → Option (List Int)) (ys : List (List Int)), k ≤ l ∧ k ≤ 60 ∧ t = .int .i64 (k : Int) ∧ LF (c.at 1) o A m cp (gk2 g1 gn) w' w w' st' ∧ Sound (c.at 1) st' D (7000 * k) ∧ Fits c D ys ∧ Blk w' g1 #[.int .i64 (c.nb : Int), .int .i64 (c.np : Int), .int .i64 (c.S : Int), .slice A m cp] 26 ∧ Blk w' gn (strs ys) 9) (fun t _ => l - (intOf t).toNat)
 case atStart => exact ⟨0, st, _, _, by omega, by omega, rfl, HL.out, HS.out, Fits.new c, Hg.out, Hn.out⟩
 case round =>
  clear HL HS Hg Hn
  obtain ⟨k, st', D, ys, hkl, hk100, rfl, hL, hS, hF, hbg, hbn⟩ := hrel
  by_cases hlt : k < l
  ·have hltI : (k : Int) < (l : Int) := by omega
   by_cases h100 : k < 60
   ·have h100I : (k : Int) < 60 := by omega
    obtain ⟨bC, oC, rfl, hc⟩ := (Hx.out.below hL.below (fun _ h => h.later hL.below)).at_ k hlt
    obtain ⟨x0, x1, x2, x3, x4⟩ := FAct.cells hc
    obtain ⟨-, had, hz, -⟩ := Hx.out.ok k hlt
    obtain ⟨dA, hdA⟩ : ∃ x, (xs k).A = x := ⟨_, rfl⟩
    obtain ⟨dn, hdnn⟩ : ∃ x, (xs k).dn = x := ⟨_, rfl⟩
    obtain ⟨dc, hdc⟩ : ∃ x, (xs k).dc = x := ⟨_, rfl⟩
    have hxk : Value.slice (xs k).A (xs k).dn (xs k).dc = .slice dA dn dc := by rw [hdA, hdnn, hdc]
    rw [hxk] at x3
    rw [hdA, hdnn] at hz
    have Hxk := hid hxk
    clear hdA hdnn hdc hxk
    generalize (xs k).addr = ad at x1 had
    generalize (xs k).ys = dys at hz
    obtain ⟨j, hj, hjm⟩ := umod_nat ad c.M HM.out.2
    have b1 : IntKind.u64.wrap (c.M : Int) = (c.M : Int) := IntWalk.u64_in _ (by omega)
    have b2 : IntKind.i64.wrap (j : Int) = (j : Int) := IntWalk.i64_in _ (by omega)
    have b3 : (c.M : Int) ≠ 0 := by omega
    have HL := hid hL
    have HS := hid hS
    have HF := hid hF
    have Hg := hid hbg
    have Hn := hid hbn
    have Hz := hid hz
    have hjI : (j : Int) < (c.M : Int) := by omega
    clear hL hS hF hbg hbn hc hz
    by_cases hdn : 64 < dn
    ·have hdnI : (64 : Int) < (dn : Int) := by omega
     go_wp2
     go_roundw
     case rel => exact ⟨k + 1, _, _, _, by omega, by omega, by go_num, HL.out, HS.out.up (by omega), HF.out, Hg.out, Hn.out⟩
     case measure => simp [intOf]; omega
    ·have hdnI : (dn : Int) ≤ 64 := by omega
     have hn64 : dn ≤ 64 := by omega
     have hcv := conv_str (c := dc) (Hz.out.below HL.out.below)
     have n0 := strs_cell Hn.out j (by rw [HF.out.1]; exact hj)
     have fn := Hn.out.free j
     go_upto_region 13 with (fail)
     have hset := Hn.out.set j (.string (strOfNums dys))
     rw [strs_set] at hset
     have HL2 := hid (HL.out.store gn j (.string (strOfNums dys)) (.inr rfl))
     have Hn2 := hid hset
     have Hg2 := hid (Hg.out.setOther ⟨gn, j, none⟩ (show g1 ≠ gn from h1n.out) (.string (strOfNums dys)))
     clear hset HL Hg Hn hcv n0 fn x0 x1 x2 x3 x4
     generalize hw2 : wr.setCell ⟨gn, j, none⟩ (.string (strOfNums dys)) = w2 at *
     clear hw2
     obtain ⟨b0, o0, hC0, hc⟩ := (Hx.out.below HL2.out.below (fun _ h => h.later HL2.out.below)).at_ k hlt
     injection hC0 with hC0
     injection hC0 with hb0 ho0
     subst hb0
     subst ho0
     obtain ⟨x0, x1, x2, x3, x4⟩ := FAct.cells hc
     rw [Hxk.out] at x3
     have hwr := HL2.out.cwrite_old Hke.out HS.out (by omega) j dys dA dn dc Hz.out hj hn64
     clear hc
     go_wp2_with fail
     refine hwr.mono ?_
     rintro e w9 ⟨rfl, st9, hL9, hS9, -⟩
     clear hwr x0 x1 x2 x3 x4
     have HL9 := hid hL9.now
     have HS9 := hid hS9
     have HF9 := hid (HF.out.set hj dys)
     have Hg9 := hid (hL9.blk (.inl rfl) Hg2.out)
     have Hn9 := hid (hL9.blk (.inr rfl) Hn2.out)
     clear hL9 hS9 HL2 Hg2 Hn2 HS HF
     go_wp2
     go_roundw
     case rel => exact ⟨k + 1, _, _, _, by omega, by omega, by go_num, HL9.out, HS9.out.up (by omega), HF9.out, Hg9.out, Hn9.out⟩
     case measure => simp [intOf]; omega
   ·obtain rfl : k = 60 := by omega
    have Hf := hid hF
    have HS := hid hS
    have hmt := lmount2 (c := c.at 2) (Hk.out.at (e := 2) (by omega) (by omega)) hL.run hL.apart hL.geo ((hS.aok Hke.out).at 2) hS.rest.cor.on (hS.calm.at 2)
    rw [Hba.out, hS.data] at hmt
    have hmt : Calls Try.prog 16 #[.pointer (some ⟨ba, 0, none⟩), .agg #[.int .i64 (c.nb : Int), .int .i64 (c.np : Int), .int .i64 (c.S : Int), .slice A m cp], .int .u64 2] wr fun e w' => ∃ o9 st9, o9.ba = ba ∧ e = .returned (.tuple #[.pointer (some ⟨o9.bf, 0, none⟩), .int .i64 0]) ∧ LF (c.at 2) o9 A m cp (gk2 g1 gn) wr w w' st9 ∧ Sound (c.at 2) st9 D (7000 * 60) ∧ SetN (c.at 2) st9.N (cF st9) ∧ _ := hmt
    obtain ⟨z0, z1, z2, z3⟩ := geo_four hbg
    have Hg := hid hbg
    have Hn := hid hbn
    clear hL hS hF hbg hbn
    go_wp2_with fail
    refine hmt.mono ?_
    rintro e w9 ⟨o9, st9, hob9, rfl, hL9, hS9, hT9, -⟩
    clear hmt z0 z1 z2 z3 HS
    have hop := hL9.ops
    rw [hob9] at hop
    obtain ⟨N2, hN2⟩ : ∃ x, st9.N = x := ⟨_, rfl⟩
    rw [hN2] at hop
    have HL9 := hid hL9.now
    have HS9 := hid hS9
    have HT9 := hid hT9
    have Hob9 := hid hob9
    have HN9 := hid hN2
    have Hg9 := hid (hL9.blk (.inl rfl) Hg.out)
    have Hn9 := hid (hL9.blk (.inr rfl) Hn.out)
    clear hL9 hS9 hob9 hT9 hN2 Hg Hn
    go_wp2_with fail
    refine hop.mono ?_
    rintro e w10 ⟨rfl, rfl⟩
    clear hop
    have t1 : IntKind.i64.wrap (T : Int) = (T : Int) := IntWalk.i64_in _ (by omega)
    go_wp2
    go_loopw [17, 10] (fun t f w' => ∃ (k e : Nat) (o' : FId) (st' : FT), k ≤ T ∧ t = .int .i64 (k : Int) ∧ f = .pointer (some ⟨o'.bf, 0, none⟩) ∧ o'.ba = ba ∧ 1 ≤ e ∧ e < 1000 ∧ LF (c.at e) o' A m cp (gk2 g1 gn) w' w w' st' ∧ Sound (c.at e) st' D (7000 * 60) ∧ SetN (c.at e) st'.N (cF st') ∧ st'.N = N2 ∧ Blk w' g1 #[.int .i64 (c.nb : Int), .int .i64 (c.np : Int), .int .i64 (c.S : Int), .slice A m cp] 26 ∧ Blk w' gn (strs ys) 9) (fun t _ _ => T - (intOf t).toNat)
    case atStart => exact ⟨0, 2, o9, st9, by omega, rfl, rfl, Hob9.out, by omega, by omega, HL9.out, HS9.out.up (by omega), HT9.out, HN9.out, Hg9.out, Hn9.out⟩
    case round =>
     clear HL9 HS9 HT9 Hob9 HN9 Hg9 Hn9
     obtain ⟨k, e9, o', st', hkT, rfl, rfl, hba, he1, he2, hL, hS, hT, hN, hbg, hbn⟩ := hrel
     have Hba := hid hba
     clear hba
     have hke := Hk.out.at (e := e9) (by omega) (by omega)
     by_cases hlt : k < T
     ·have hltI : (k : Int) < (T : Int) := by omega
      have hmt := lmount2 (c := c.at (3 + k)) (Hk.out.at (e := 3 + k) (by omega) (by omega)) hL.run hL.apart hL.geo ((hS.aok hke).at (3 + k)) hS.rest.cor.on (hS.calm.at (3 + k))
      rw [Hba.out, hS.data] at hmt
      have hmt : Calls Try.prog 16 #[.pointer (some ⟨ba, 0, none⟩), .agg #[.int .i64 (c.nb : Int), .int .i64 (c.np : Int), .int .i64 (c.S : Int), .slice A m cp], .int .u64 (3 + (k : Int))] wr fun e w' => ∃ o9 st9, o9.ba = ba ∧ e = .returned (.tuple #[.pointer (some ⟨o9.bf, 0, none⟩), .int .i64 0]) ∧ LF (c.at (3 + k)) o9 A m cp (gk2 g1 gn) wr w w' st9 ∧ Sound (c.at (3 + k)) st9 D (7000 * 60) ∧ SetN (c.at (3 + k)) st9.N (cF st9) ∧ ∀ cx, SetN (c.at (3 + k)) st'.N cx → st9.N = st'.N := by
       rw [show (3 + (k : Int)) = ((3 + k : Nat) : Int) by omega]
       exact hmt
      obtain ⟨z0, z1, z2, z3⟩ := geo_four hbg
      have a1 : IntKind.u64.wrap (k : Int) = (k : Int) := IntWalk.u64_in _ (by omega)
      have a2 : IntKind.u64.wrap (3 + (k : Int)) = 3 + (k : Int) := IntWalk.u64_in _ (by omega)
      have Hg := hid hbg
      have Hn := hid hbn
      have HT := hid hT
      have HN := hid hN
      clear hL hS hT hN hbg hbn hke
      go_wp2_with fail
      refine hmt.mono ?_
      rintro e w9 ⟨o9, st9, hob9, rfl, hL9, hS9, hT9, hN9⟩
      have hNe := (hN9 (cF st') (HT.out.at (3 + k))).trans HN.out
      clear hmt z0 z1 z2 z3 hN9 HT HN
      have hbn9 := hL9.blk (.inr rfl) Hn.out
      have hrt := right_any hL9.now (Hk.out.at (e := 3 + k) (by omega) (by omega)) hS9.rest gn c.M ys hbn9 Hf.out.1 (Nat.le_refl _) (fun i hi => by rw [hS9.data]; exact Hf.out.2 i hi)
      have HL9 := hid hL9.now
      have HS9 := hid hS9
      have HT9 := hid hT9
      have HN9 := hid hNe
      have Hob9 := hid hob9
      have Hg9 := hid (hL9.blk (.inl rfl) Hg.out)
      have Hn9 := hid hbn9
      clear hL9 hS9 hob9 hT9 hNe hbn9 Hg Hn
      go_wp2_with fail
      refine hrt.mono ?_
      rintro e w11 ⟨rfl, hB11⟩
      have HL11 := hid (HL9.out.later hB11).now
      have Hg11 := hid (Hg9.out.later hB11)
      have Hn11 := hid (Hn9.out.later hB11)
      clear hrt hB11 HL9 Hg9 Hn9
      go_wp2
      go_roundw
      case rel => exact ⟨k + 1, 3 + k, o9, st9, by omega, by go_num, rfl, Hob9.out, by omega, by omega, HL11.out, HS9.out, HT9.out, HN9.out, Hg11.out, Hn11.out⟩
      case measure => simp [intOf]; omega
     ·obtain rfl : k = T := by omega
      have hop := hL.ops
      rw [Hba.out, hN] at hop
      have hrt := right_any hL hke hS.rest gn c.M ys hbn Hf.out.1 (Nat.le_refl _) (fun i hi => by rw [hS.data]; exact Hf.out.2 i hi)
      have HL9 := hid hL
      clear hL hS hT hN hbg hbn hke
      go_wp2_with fail
      refine hop.mono ?_
      rintro e w10 ⟨rfl, rfl⟩
      clear hop
      go_wp2_with fail
      refine hrt.mono ?_
      rintro e w11 ⟨rfl, hB11⟩
      have HL11 := hid (HL9.out.later hB11)
      clear hrt hB11 HL9
      go_wp2
      go_ret
      exact ⟨rfl, HL11.out.below⟩
  ·obtain rfl : k = l := by omega
   have Hf := hid hF
   have HS := hid hS
   have hmt := lmount2 (c := c.at 2) (Hk.out.at (e := 2) (by omega) (by omega)) hL.run hL.apart hL.geo ((hS.aok Hke.out).at 2) hS.rest.cor.on (hS.calm.at 2)
   rw [Hba.out, hS.data] at hmt
   have hmt : Calls Try.prog 16 #[.pointer (some ⟨ba, 0, none⟩), .agg #[.int .i64 (c.nb : Int), .int .i64 (c.np : Int), .int .i64 (c.S : Int), .slice A m cp], .int .u64 2] wr fun e w' => ∃ o9 st9, o9.ba = ba ∧ e = .returned (.tuple #[.pointer (some ⟨o9.bf, 0, none⟩), .int .i64 0]) ∧ LF (c.at 2) o9 A m cp (gk2 g1 gn) wr w w' st9 ∧ Sound (c.at 2) st9 D (7000 * k) ∧ SetN (c.at 2) st9.N (cF st9) ∧ _ := hmt
   obtain ⟨z0, z1, z2, z3⟩ := geo_four hbg
   have Hg := hid hbg
   have Hn := hid hbn
   clear hL hS hF hbg hbn
   go_wp2_with fail
   refine hmt.mono ?_
   rintro e w9 ⟨o9, st9, hob9, rfl, hL9, hS9, hT9, -⟩
   clear hmt z0 z1 z2 z3 HS
   have hop := hL9.ops
   rw [hob9] at hop
   obtain ⟨N2, hN2⟩ : ∃ x, st9.N = x := ⟨_, rfl⟩
   rw [hN2] at hop
   have HL9 := hid hL9.now
   have HS9 := hid hS9
   have HT9 := hid hT9
   have Hob9 := hid hob9
   have HN9 := hid hN2
   have Hg9 := hid (hL9.blk (.inl rfl) Hg.out)
   have Hn9 := hid (hL9.blk (.inr rfl) Hn.out)
   clear hL9 hS9 hob9 hT9 hN2 Hg Hn
   go_wp2_with fail
   refine hop.mono ?_
   rintro e w10 ⟨rfl, rfl⟩
   clear hop
   have t1 : IntKind.i64.wrap (T : Int) = (T : Int) := IntWalk.i64_in _ (by omega)
   go_wp2
   go_loopw [17, 10] (fun t f w' => ∃ (k e : Nat) (o' : FId) (st' : FT), k ≤ T ∧ t = .int .i64 (k : Int) ∧ f = .pointer (some ⟨o'.bf, 0, none⟩) ∧ o'.ba = ba ∧ 1 ≤ e ∧ e < 1000 ∧ LF (c.at e) o' A m cp (gk2 g1 gn) w' w w' st' ∧ Sound (c.at e) st' D (7000 * 60) ∧ SetN (c.at e) st'.N (cF st') ∧ st'.N = N2 ∧ Blk w' g1 #[.int .i64 (c.nb : Int), .int .i64 (c.np : Int), .int .i64 (c.S : Int), .slice A m cp] 26 ∧ Blk w' gn (strs ys) 9) (fun t _ _ => T - (intOf t).toNat)
   case atStart => exact ⟨0, 2, o9, st9, by omega, rfl, rfl, Hob9.out, by omega, by omega, HL9.out, HS9.out.up (by omega), HT9.out, HN9.out, Hg9.out, Hn9.out⟩
   case round =>
    clear HL9 HS9 HT9 Hob9 HN9 Hg9 Hn9
    obtain ⟨k, e9, o', st', hkT, rfl, rfl, hba, he1, he2, hL, hS, hT, hN, hbg, hbn⟩ := hrel
    have Hba := hid hba
    clear hba
    have hke := Hk.out.at (e := e9) (by omega) (by omega)
    by_cases hlt : k < T
    ·have hltI : (k : Int) < (T : Int) := by omega
     have hmt := lmount2 (c := c.at (3 + k)) (Hk.out.at (e := 3 + k) (by omega) (by omega)) hL.run hL.apart hL.geo ((hS.aok hke).at (3 + k)) hS.rest.cor.on (hS.calm.at (3 + k))
     rw [Hba.out, hS.data] at hmt
     have hmt : Calls Try.prog 16 #[.pointer (some ⟨ba, 0, none⟩), .agg #[.int .i64 (c.nb : Int), .int .i64 (c.np : Int), .int .i64 (c.S : Int), .slice A m cp], .int .u64 (3 + (k : Int))] wr fun e w' => ∃ o9 st9, o9.ba = ba ∧ e = .returned (.tuple #[.pointer (some ⟨o9.bf, 0, none⟩), .int .i64 0]) ∧ LF (c.at (3 + k)) o9 A m cp (gk2 g1 gn) wr w w' st9 ∧ Sound (c.at (3 + k)) st9 D (7000 * 60) ∧ SetN (c.at (3 + k)) st9.N (cF st9) ∧ ∀ cx, SetN (c.at (3 + k)) st'.N cx → st9.N = st'.N := by
      rw [show (3 + (k : Int)) = ((3 + k : Nat) : Int) by omega]
      exact hmt
     obtain ⟨z0, z1, z2, z3⟩ := geo_four hbg
     have a1 : IntKind.u64.wrap (k : Int) = (k : Int) := IntWalk.u64_in _ (by omega)
     have a2 : IntKind.u64.wrap (3 + (k : Int)) = 3 + (k : Int) := IntWalk.u64_in _ (by omega)
     have Hg := hid hbg
     have Hn := hid hbn
     have HT := hid hT
     have HN := hid hN
     clear hL hS hT hN hbg hbn hke
     go_wp2_with fail
     refine hmt.mono ?_
     rintro e w9 ⟨o9, st9, hob9, rfl, hL9, hS9, hT9, hN9⟩
     have hNe := (hN9 (cF st') (HT.out.at (3 + k))).trans HN.out
     clear hmt z0 z1 z2 z3 hN9 HT HN
     have hbn9 := hL9.blk (.inr rfl) Hn.out
     have hrt := right_any hL9.now (Hk.out.at (e := 3 + k) (by omega) (by omega)) hS9.rest gn c.M ys hbn9 Hf.out.1 (Nat.le_refl _) (fun i hi => by rw [hS9.data]; exact Hf.out.2 i hi)
     have HL9 := hid hL9.now
     have HS9 := hid hS9
     have HT9 := hid hT9
     have HN9 := hid hNe
     have Hob9 := hid hob9
     have Hg9 := hid (hL9.blk (.inl rfl) Hg.out)
     have Hn9 := hid hbn9
     clear hL9 hS9 hob9 hT9 hNe hbn9 Hg Hn
     go_wp2_with fail
     refine hrt.mono ?_
     rintro e w11 ⟨rfl, hB11⟩
     have HL11 := hid (HL9.out.later hB11).now
     have Hg11 := hid (Hg9.out.later hB11)
     have Hn11 := hid (Hn9.out.later hB11)
     clear hrt hB11 HL9 Hg9 Hn9
     go_wp2
     go_roundw
     case rel => exact ⟨k + 1, 3 + k, o9, st9, by omega, by go_num, rfl, Hob9.out, by omega, by omega, HL11.out, HS9.out, HT9.out, HN9.out, Hg11.out, Hn11.out⟩
     case measure => simp [intOf]; omega
    ·obtain rfl : k = T := by omega
     have hop := hL.ops
     rw [Hba.out, hN] at hop
     have hrt := right_any hL hke hS.rest gn c.M ys hbn Hf.out.1 (Nat.le_refl _) (fun i hi => by rw [hS.data]; exact Hf.out.2 i hi)
     have HL9 := hid hL
     clear hL hS hT hN hbg hbn hke
     go_wp2_with fail
     refine hop.mono ?_
     rintro e w10 ⟨rfl, rfl⟩
     clear hop
     go_wp2_with fail
     refine hrt.mono ?_
     rintro e w11 ⟨rfl, hB11⟩
     have HL11 := hid (HL9.out.later hB11)
     clear hrt hB11 HL9
     go_wp2
     go_ret
     exact ⟨rfl, HL11.out.below⟩
end Go.Proofs.Ytpcbpljdiacbmaa.Ftl
