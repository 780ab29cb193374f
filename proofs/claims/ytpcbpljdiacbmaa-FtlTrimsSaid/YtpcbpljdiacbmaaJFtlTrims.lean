import Derived.Test.YtpcbpljdiacbmaaJFtlLaw
import Derived.Deep.DeepCutAuto
set_option linter.unusedVariables false
set_option linter.unusedSimpArgs false
namespace Go.Proofs.Ytpcbpljdiacbmaa.Ftl
open Go.RowKit Go.Proofs.Ytpcbpljdiacbmaa.Kit Go.Proofs.Ytpcbpljdiacbmaa.Oct Go.Proofs.Ytpcbpljdiacbmaa.Sheet Go.Proofs.Ytpcbpljdiacbmaa.Nand Go.Proofs.Ytpcbpljdiacbmaa.Plan Go.Proofs.Ytpcbpljdiacbmaa.Scan Go.Proofs.Ytpcbpljdiacbmaa.Pmap Go.Proofs.Ytpcbpljdiacbmaa.Pool

def bls (bs : List Bool) : Array Value := (bs.map Value.bool).toArray
theorem bls_cell {W : World} {g : Nat} {bs : List Bool} (h : Blk W g (bls bs) 4) (i : Nat) (hi : i < bs.length) : W.cell? ⟨g, i, none⟩ = some (.bool (bs.getD i false)) := by
 have h1 := h.cell i
 rw [h1]
 unfold bls
 rw [List.getElem?_toArray, List.getElem?_map, List.getElem?_eq_getElem hi, List.getD_eq_getElem?_getD, List.getElem?_eq_getElem hi]
 rfl
theorem bls_set (bs : List Bool) (i : Nat) (y : Bool) : (bls bs).setIfInBounds i (.bool y) = bls (bs.set i y) := by
 unfold bls
 rw [List.setIfInBounds_toArray, List.map_set]
set_option maxRecDepth 100000 in
theorem make_bls (W : World) (M : Nat) (h : M ≤ 65536) : (Instr.makeSlice 37 (.int .i64 (M : Int)) (.int .i64 (M : Int))).run Try.prog W = .ok (.slice (some ⟨W.heap.size, 0, none⟩) M M) (W.alloc (.cells (bls (List.replicate M false)) 4)) := by
 obtain ⟨i1, hi1, hz1⟩ : ∃ i : TypeInfo, Try.prog.info? 4 = some i ∧ i.zero = some (.bool false) ∧ i.size = 1 ∧ i.bytes = 1 := ⟨_, rfl, rfl, rfl, rfl⟩
 have := run_make (P := Try.prog) W 37 4 i1 _ Try.underlying37 hi1 hz1.1 .i64 .i64 (M : Int) (M : Int) (by omega) (Int.le_refl _) (by rw [hz1.2.2]; omega) (by omega)
 rw [hz1.2.1, Int.toNat_natCast, Nat.mul_one] at this
 unfold bls
 rw [List.map_replicate, ← made_one]
 exact this
theorem LF.ops {c : FC} {o : FId} {A : Option Addr} {n cc : Nat} {K : Nat → Prop} {V w w1 : World} {st : FT} (h : LF c o A n cc K V w w1 st) :
  Calls Try.prog 19 #[.pointer (some ⟨o.ba, 0, none⟩)] w1 fun e w' => e = .returned (.int .i64 st.N.ops) ∧ w' = w1 := by
 obtain ⟨F', hA⟩ := h.arr
 exact ops_any F' o.ba st.N w1 hA

set_option maxRecDepth 100000 in
set_option maxHeartbeats 4000000 in
theorem law_trims (n : Int) (hn : 0 ≤ n ∧ n ≤ 255) (C : Option Addr) (l d : Nat) (xs : List Int) (w : World) (hz : Nums w .u8 C l xs) :
  Calls Try.prog 3 #[.int .u8 n, .slice C l d] w fun e w' => e = .returned (.bool true) ∧ Below w.heap.size w w' := by
 have hl63 : (l : Int) ≤ 9223372036854775807 := by have := hz.most; omega
 have Hz := hid hz
 clear hz
 obtain ⟨n, rfl⟩ := Int.eq_ofNat_of_zero_le hn.1
 have hn : n < 256 := by omega
 have hk : CK (cG n 1) := cG_ok hn (by omega) (by omega)
 have hgeo : ∀ W, Calls Try.prog 14 #[.int .u8 (n : Int)] W fun e w' => ∃ A m cp, e = .returned (.agg #[.int .i64 ((cG n 1).nb : Int), .int .i64 ((cG n 1).np : Int), .int .i64 ((cG n 1).S : Int), .slice A m cp]) ∧ Geo w' (cG n 1).nb (cG n 1).np ((cG n 1).S : Int) A m cp (cG n 1).bad ∧ Below W.heap.size W w' ∧ ∀ ad, A = some ad → W.heap.size ≤ ad.block ∧ ad.block < w'.heap.size := fun W => geometry_low n hn W
 have hbad : ∀ x ∈ (cG n 1).bad, 0 ≤ x ∧ x < ((cG n 1).nb : Int) := geo_bad ⟨n, hn⟩
 have hcM : Plan.cap ((cG n 1).nb : Int) ((cG n 1).np : Int) ((cG n 1).S : Int) (cG n 1).bad = ((cG n 1).M : Int) - 1 := hk.ok
 have hM61 : (cG n 1).M ≤ 61 := by
  have h := (geo_more ⟨n, hn⟩).2.2.2
  have h : capN n ≤ 60 := h
  show capN n + 1 ≤ 61
  omega
 have hnb : 5 ≤ (cG n 1).nb ∧ (cG n 1).nb ≤ 9 := by show 5 ≤ gB n ∧ gB n ≤ 9; unfold gB; omega
 have hnp : 2 ≤ (cG n 1).np ∧ (cG n 1).np ≤ 5 := by show 2 ≤ gP n ∧ gP n ≤ 5; unfold gP; omega
 generalize cG n 1 = c at *
 have Hk := hid hk
 have Hbad := hid hbad
 have HcM := hid hcM
 have hM1 := hk.M
 clear hk hbad hcM
 go_enter Try.func3, Try.ntmps3
 go_wp2_with fail
 refine (awake_ftl w).mono ?_
 rintro e w0 ⟨rfl, hB0⟩
 have hgeo' := hgeo w0
 clear hgeo
 go_wp2_with fail
 refine hgeo'.mono ?_
 rintro e w1 ⟨A, m, cp, rfl, hg1, hB1, hA1⟩
 clear hgeo'
 go_upto_region 4 with (fail)
 generalize hw2 : World.alloc w1 _ = w2
 obtain ⟨g1, hg1e⟩ : ∃ g, w1.heap.size = g := ⟨_, rfl⟩
 have hB2 : Below w1.heap.size w1 w2 := by rw [← hw2]; exact (Below.refl _ _).alloc (Nat.le_refl _) _
 have hb1 : Blk w2 g1 #[.int .i64 (c.nb : Int), .int .i64 (c.np : Int), .int .i64 (c.S : Int), .slice A m cp] 26 := by rw [← hw2, ← hg1e]; exact Blk.new _ _ _
 have hg2 := hg1.later hB2
 have hB02 := hB0.trans ((hB1.trans (hB2.mono hB1.size)).mono hB0.size)
 have hnew := new_run c.nb c.np A m cp c.bad (gk g1) w w2 hB02 (by omega) (by omega) hg2.nums Hbad.out (fun g hg => by
  have h1 := hB1.size
  have h2 := hb1.lt
  have h3 := hB0.size
  rcases hg with hg | ⟨ad, had, rfl⟩
  ·have hg : g = g1 := hg
   rw [hg]
   omega
  ·have := hA1 ad had
   omega)
 have hne : ∀ g, gk g1 g → ∀ ad, A = some ad → g ≠ ad.block := fun g hg ad had => by
  have hg : g = g1 := hg
  have := hA1 ad had
  omega
 obtain ⟨z0, z1, z2, z3⟩ := geo_four hb1
 rw [hg1e]
 have Hne := hid hne
 have Hb1 := hid hb1
 have Hg2 := hid hg2
 clear hw2 hg1e hB1 hB2 hb1 hg1 hg2 hA1 hne hB0 hB02
 go_wp2_with fail
 refine hnew.mono ?_
 rintro e w3 ⟨b, rfl, hR3, hB3⟩
 clear hnew z0 z1 z2 z3
 have hb3 := Hb1.out.later hB3
 have hg3 := Hg2.out.later hB3
 have hke := Hk.out.at (e := 1) (by omega) (by omega)
 have hmt : Calls Try.prog 16 #[.pointer (some ⟨b, 0, none⟩), .agg #[.int .i64 (c.nb : Int), .int .i64 (c.np : Int), .int .i64 (c.S : Int), .slice A m cp], .int .u64 1] w3 fun e w' => ∃ o st, o.ba = b ∧ e = .returned (.tuple #[.pointer (some ⟨o.bf, 0, none⟩), .int .i64 0]) ∧ LF (c.at 1) o A m cp (gk g1) w3 w w' st ∧ Sound (c.at 1) st (Vof (fun _ => none)) 0 ∧ Ops 1 (newA c.nb c.np c.bad) st.N := cmount (c := c.at 1) hke hR3 Hne.out hg3 (AOk.new hke) rfl CalmN.new
 obtain ⟨z0, z1, z2, z3⟩ := geo_four hb3
 have Hb3 := hid hb3
 clear hR3 hB3 hg3 hb3 Hb1 Hg2 Hne Hbad hke
 go_wp2_with fail
 refine hmt.mono ?_
 rintro e w4 ⟨o, st, hob, rfl, hL4, hS4, -⟩
 clear hmt z0 z1 z2 z3
 subst hob
 have hb4 := hL4.blk (show gk g1 g1 from rfl) Hb3.out
 have HS := hid hS4
 obtain ⟨z0, z1, z2, z3⟩ := geo_four hb4
 have hrc : Calls Try.prog 17 #[.agg #[.int .i64 (c.nb : Int), .int .i64 (c.np : Int), .int .i64 (c.S : Int), .slice A m cp]] w4 fun e w' => e = .returned (.int .i64 ((c.M : Int) - 1)) ∧ Below w4.heap.size w4 w' := by rw [← HcM.out]; exact rcap_geo hL4.geo
 have HL4 := hid hL4
 have Hb4 := hid hb4
 clear hL4 hS4 hb4 Hb3
 go_wp2_with fail
 refine hrc.mono ?_
 rintro e w5 ⟨rfl, hB5⟩
 clear hrc z0 z1 z2 z3
 have hmk := fun W => make_bls W c.M (by omega)
 have hMw : IntKind.i64.wrap ((c.M : Int) - 1 + 1) = (c.M : Int) := by rw [IntWalk.i64_in _ (by omega)]; omega
 go_upto_region 8 with (fail)
 clear hmk
 generalize hw6 : World.alloc w5 _ = w6
 obtain ⟨gn, hgn⟩ : ∃ g, w5.heap.size = g := ⟨_, rfl⟩
 have hB6 : Below w5.heap.size w5 w6 := by rw [← hw6]; exact (Below.refl _ _).alloc (Nat.le_refl _) _
 have hbn : Blk w6 gn (bls (List.replicate c.M false)) 4 := by rw [← hw6, ← hgn]; exact Blk.new _ _ _
 have hB46 := hB5.trans (hB6.mono hB5.size)
 have hL6 := HL4.out.more (K' := gk2 g1 gn) hB46 (fun g hg => by
  rcases hg with hg | hg
  ·exact .inl hg
  ·exact .inr (by rw [hg]; exact ⟨by have := hB5.size; omega, hbn.lt⟩)) (fun g hg => .inl hg)
 have HL := hid hL6
 have Hg := hid (Hb4.out.later hB46)
 have Hn := hid hbn
 rw [hgn]
 have h1n := hid (show g1 ≠ gn by have := Hb4.out.lt; have := hB5.size; omega)
 clear hw6 hgn hB5 hB6 hbn hB46 hL6 HL4 Hb4 hMw
 obtain ⟨ba, hba⟩ : ∃ x, o.ba = x := ⟨_, rfl⟩
 rw [hba]
 have Hba := hid hba
 clear hba
 go_wp2
 go_loopw [12, 8] (fun t f w' => ∃ (k e : Nat) (o' : FId) (st' : FT) (D : Nat → Option (List Int)) (bs : List Bool), k ≤ l ∧ k ≤ 60 ∧ t = .int .i64 (k : Int) ∧ f = .pointer (some ⟨o'.bf, 0, none⟩) ∧ o'.ba = ba ∧ 1 ≤ e ∧ e < 1000 ∧ LF (c.at e) o' A m cp (gk2 g1 gn) w' w w' st' ∧ Sound (c.at e) st' D (7000 * k) ∧ (bs.length = c.M ∧ ∀ a, D a ≠ none → bs.getD a false = true) ∧ Blk w' g1 #[.int .i64 (c.nb : Int), .int .i64 (c.np : Int), .int .i64 (c.S : Int), .slice A m cp] 26 ∧ Blk w' gn (bls bs) 4) (fun t _ _ => l - (intOf t).toNat)
 case atStart => exact ⟨0, 1, o, st, _, List.replicate c.M false, by omega, by omega, rfl, rfl, Hba.out, by omega, by omega, HL.out, HS.out, ⟨List.length_replicate, fun a ha => absurd rfl ha⟩, Hg.out, Hn.out⟩
 case round =>
  clear HL HS Hg Hn Hba
  obtain ⟨k, e9, o', st', D, bs, hkl, hk100, rfl, rfl, hba, he1, he2, hL, hS, hF, hbg, hbn⟩ := hrel
  have Hba := hid hba
  clear hba
  by_cases hlt : k < l
  ·have hltI : (k : Int) < (l : Int) := by omega
   by_cases h100 : k < 60
   ·have h100I : (k : Int) < 60 := by omega
    obtain ⟨b0, o0, rfl, hcu⟩ := (Hz.out.below hL.below).at_ k hlt
    have hv := wf_u8 (Hz.out.wf (xs.getD k 0) (by rw [List.getD_eq_getElem?_getD, List.getElem?_eq_getElem (by rw [Hz.out.len]; exact hlt)]; exact List.getElem_mem _))
    generalize xs.getD k 0 = v at *
    obtain ⟨U, hU, hUt, hU2⟩ := rem_nat v hv.1 c.M (by omega)
    obtain ⟨P, hP, hPt, hP2⟩ := rem_nat (k : Int) (by omega) 2 (by omega)
    replace hP : (k : Int) % 2 = (P : Int) := hP
    replace hPt : (k : Int).tmod 2 = (P : Int) := hPt
    have hMI : (c.M : Int) ≠ 0 := by omega
    have hUI : (U : Int) < (c.M : Int) := by omega
    have HL := hid hL
    have HS := hid hS
    have Hbs := hid hF
    have Hg := hid hbg
    have Hn := hid hbn
    have Hke := hid (Hk.out.at (e := e9) (by omega) (by omega))
    clear hL hS hF hbg hbn
    rcases (show P = 0 ∨ P = 1 by omega) with rfl | rfl
    ·have n0 := bls_cell Hn.out U (by rw [Hbs.out.1]; exact hU2)
     have f0 := Hn.out.free U
     go_upto_region 14 with (fail)
     have HL2 := hid (HL.out.store gn U (.bool true) (.inr rfl))
     have hset := Hn.out.set U (.bool true)
     rw [bls_set] at hset
     have Hn2 := hid hset
     have Hg2 := hid (Hg.out.setOther ⟨gn, U, none⟩ (show g1 ≠ gn from h1n.out) (.bool true))
     clear hset n0 f0 HL Hg Hn hcu
     generalize hw2 : wr.setCell ⟨gn, U, none⟩ (.bool true) = w2 at *
     clear hw2
     have hcv := Lib.run_convert_bytes_const (P := Try.prog) w2 22 5 #[.int .u8 119] 1 1 Try.underlying22 Try.underlying5
     go_wp2_with fail
     have hw1 : Calls Try.prog 18 #[.pointer (some ⟨o'.bf, 0, none⟩), .int .i64 (U : Int), .slice (some ⟨w2.heap.size, 0, none⟩) 1 1] (w2.alloc (.cells #[.int .u8 119] 5 (1, 2))) fun e w' => e = .returned (.int .i64 0) ∧ ∃ st9, LF (c.at e9) o' A m cp (gk2 g1 gn) w2 w w' st9 ∧ Sound (c.at e9) st9 (updV D U [119]) (7000 * k + 7000) ∧ Ops e9 st'.N st9.N := HL2.out.cwrite_lit Hke.out HS.out (by omega) U [119] 1 rfl (fun x hx => by rw [List.mem_singleton.1 hx]; decide) hU2 (by omega) 1 (1, 2)
     refine hw1.mono ?_
     rintro e w5 ⟨rfl, st5, hL5, hS5, -⟩
     clear hw1 hcv
     have HL5 := hid hL5.now
     have HS5 := hid hS5
     have Hg5 := hid (hL5.blk (.inl rfl) Hg2.out)
     have Hn5 := hid (hL5.blk (.inr rfl) Hn2.out)
     have Hbs5 := hid (show (bs.set U true).length = c.M ∧ ∀ a, updV D U [119] a ≠ none → (bs.set U true).getD a false = true from ⟨by rw [List.length_set]; exact Hbs.out.1, fun a ha => by
      unfold updV at ha
      by_cases ea : a = U
      ·rw [ea, List.getD_eq_getElem?_getD, List.getElem?_set_self (by rw [Hbs.out.1]; exact hU2)]; rfl
      ·rw [if_neg ea] at ha
       rw [List.getD_eq_getElem?_getD, List.getElem?_set_ne (fun x => ea x.symm), ← List.getD_eq_getElem?_getD]
       exact Hbs.out.2 a ha⟩)
     clear hL5 hS5 HL2 Hg2 Hn2 HS Hbs
     go_wp2
     go_roundw
     case rel => exact ⟨k + 1, e9, o', _, _, _, by omega, by omega, by go_num, rfl, Hba.out, by omega, by omega, HL5.out, HS5.out.up (by omega), Hbs5.out, Hg5.out, Hn5.out⟩
     case measure => simp [intOf]; omega
    ·have n0 := bls_cell Hn.out U (by rw [Hbs.out.1]; exact hU2)
     have hop := HL.out.ops
     rw [Hba.out] at hop
     have htr := HL.out.ctrim Hke.out HS.out (by omega) U hU2
     go_wp2_with fail
     refine hop.mono ?_
     rintro e w5 ⟨rfl, rfl⟩
     clear hop
     go_wp2_with fail
     refine htr.mono ?_
     rintro e w6 ⟨rfl, st6, hL6, hS6, hst⟩
     clear htr
     have hn6 := hL6.blk (.inr rfl) Hn.out
     have n0 := bls_cell hn6 U (by rw [Hbs.out.1]; exact hU2)
     have HL6 := hid hL6.now
     have HS6 := hid hS6
     have Hg6 := hid (hL6.blk (.inl rfl) Hg.out)
     have Hn6 := hid hn6
     have Hst := hid hst
     clear hL6 hS6 hst hn6
     obtain ⟨D6, hD6⟩ : ∃ x, (if D U = none then D else updV D U []) = x := ⟨_, rfl⟩
     have h60 : (D6 U).getD [] = [] := by
      rw [← hD6]
      by_cases e : D U = none
      ·rw [if_pos e, e]; rfl
      ·rw [if_neg e]; simp [updV]
     rw [hD6] at HS6
     have Hbs6 := hid (show bs.length = c.M ∧ ∀ a, D6 a ≠ none → bs.getD a false = true from ⟨Hbs.out.1, fun a ha => by
      rw [← hD6] at ha
      by_cases e : D U = none
      ·rw [if_pos e] at ha; exact Hbs.out.2 a ha
      ·rw [if_neg e] at ha
       unfold updV at ha
       by_cases ea : a = U
       ·rw [ea]; exact Hbs.out.2 U e
       ·rw [if_neg ea] at ha; exact Hbs.out.2 a ha⟩)
     have H60 := hid h60
     have Hop := hid (show bs.getD U false = false → st6.N.ops = st'.N.ops from fun h => by
      have : D U = none := by
       cases hd : D U with
       | none => rfl
       | some y =>
        rw [Hbs.out.2 U (by rw [hd]; simp)] at h
        cases h
      rw [Hst.out this])
     clear h60 HS HL Hg Hn Hbs Hst hD6
     cases hbu : bs.getD U false
     ·rw [hbu] at n0
      have Hbu := hid hbu
      clear hbu
      have hop := HL6.out.ops
      rw [Hba.out, Hop.out Hbu.out] at hop
      go_wp2_with fail
      refine hop.mono ?_
      rintro e w60 ⟨rfl, rfl⟩
      clear hop
      clear n0 Hop
      have hrd := HL6.out.cread Hke.out HS6.out U hU2
      rw [H60.out] at hrd
      go_wp2_with fail
      refine hrd.mono ?_
      rintro e w7 ⟨A7, n7, c7, rfl, hz7, hB7⟩
      have hn0 : n7 = 0 := hz7.len.symm
      subst hn0
      have HL7 := hid (HL6.out.later hB7).now
      have Hg7 := hid (Hg6.out.later hB7)
      have Hn7 := hid (Hn6.out.later hB7)
      clear hrd hz7 hB7 HL6 Hg6 Hn6
      go_upto_region 22 with (fail)
      have hmt := HL7.out.again Hke.out HS6.out (e := 2 + k) (by omega) (by omega)
      have hmt : Calls Try.prog 16 #[.pointer (some ⟨ba, 0, none⟩), .agg #[.int .i64 (c.nb : Int), .int .i64 (c.np : Int), .int .i64 (c.S : Int), .slice A m cp], .int .u64 (2 + (k : Int))] w7 fun e' w' => ∃ o9 st9, o9.ba = ba ∧ e' = .returned (.tuple #[.pointer (some ⟨o9.bf, 0, none⟩), .int .i64 0]) ∧ LF (c.at (2 + k)) o9 A m cp (gk2 g1 gn) w7 w w' st9 ∧ Sound (c.at (2 + k)) st9 D6 (7000 * k + 7000) ∧ Ops (2 + k : Nat) st6.N st9.N := by
       rw [← Hba.out]
       rw [show (2 + (k : Int)) = ((2 + k : Nat) : Int) by omega]
       exact hmt
      obtain ⟨z0, z1, z2, z3⟩ := geo_four Hg7.out
      have a1 : IntKind.u64.wrap (k : Int) = (k : Int) := IntWalk.u64_in _ (by omega)
      have a2 : IntKind.u64.wrap (2 + (k : Int)) = 2 + (k : Int) := IntWalk.u64_in _ (by omega)
      go_wp2_with fail
      refine hmt.mono ?_
      rintro e8 w9 ⟨o9, st9, hob9, rfl, hL9, hS9, -⟩
      clear hmt z0 z1 z2 z3 a1 a2
      have hrd := hL9.cread (Hk.out.at (e := 2 + k) (by omega) (by omega)) hS9 U hU2
      rw [H60.out] at hrd
      have HL9 := hid hL9.now
      have HS9 := hid hS9
      have Hob9 := hid hob9
      have Hg9 := hid (hL9.blk (.inl rfl) Hg7.out)
      have Hn9 := hid (hL9.blk (.inr rfl) Hn7.out)
      clear hL9 hS9 hob9 HL7 HS6 Hg7 Hn7
      go_wp2_with fail
      refine hrd.mono ?_
      rintro e w10 ⟨A10, n10, c10, rfl, hz10, hB10⟩
      have hn0 : n10 = 0 := hz10.len.symm
      subst hn0
      have HL10 := hid (HL9.out.later hB10).now
      have Hg10 := hid (Hg9.out.later hB10)
      have Hn10 := hid (Hn9.out.later hB10)
      clear hrd hz10 hB10 HL9 Hg9 Hn9
      go_wp2
      go_roundw
      case rel => exact ⟨k + 1, 2 + k, o9, _, _, _, by omega, by omega, by go_num, rfl, Hob9.out, by omega, by omega, HL10.out, HS9.out.up (by omega), Hbs6.out, Hg10.out, Hn10.out⟩
      case measure => simp [intOf]; omega
     ·rw [hbu] at n0
      have Hbu := hid hbu
      clear hbu
      clear Hop
      have hrd := HL6.out.cread Hke.out HS6.out U hU2
      rw [H60.out] at hrd
      go_wp2_with fail
      refine hrd.mono ?_
      rintro e w7 ⟨A7, n7, c7, rfl, hz7, hB7⟩
      have hn0 : n7 = 0 := hz7.len.symm
      subst hn0
      have HL7 := hid (HL6.out.later hB7).now
      have Hg7 := hid (Hg6.out.later hB7)
      have Hn7 := hid (Hn6.out.later hB7)
      clear n0
      clear hrd hz7 hB7 HL6 Hg6 Hn6
      go_upto_region 22 with (fail)
      have hmt := HL7.out.again Hke.out HS6.out (e := 2 + k) (by omega) (by omega)
      have hmt : Calls Try.prog 16 #[.pointer (some ⟨ba, 0, none⟩), .agg #[.int .i64 (c.nb : Int), .int .i64 (c.np : Int), .int .i64 (c.S : Int), .slice A m cp], .int .u64 (2 + (k : Int))] w7 fun e' w' => ∃ o9 st9, o9.ba = ba ∧ e' = .returned (.tuple #[.pointer (some ⟨o9.bf, 0, none⟩), .int .i64 0]) ∧ LF (c.at (2 + k)) o9 A m cp (gk2 g1 gn) w7 w w' st9 ∧ Sound (c.at (2 + k)) st9 D6 (7000 * k + 7000) ∧ Ops (2 + k : Nat) st6.N st9.N := by
       rw [← Hba.out]
       rw [show (2 + (k : Int)) = ((2 + k : Nat) : Int) by omega]
       exact hmt
      obtain ⟨z0, z1, z2, z3⟩ := geo_four Hg7.out
      have a1 : IntKind.u64.wrap (k : Int) = (k : Int) := IntWalk.u64_in _ (by omega)
      have a2 : IntKind.u64.wrap (2 + (k : Int)) = 2 + (k : Int) := IntWalk.u64_in _ (by omega)
      go_wp2_with fail
      refine hmt.mono ?_
      rintro e8 w9 ⟨o9, st9, hob9, rfl, hL9, hS9, -⟩
      clear hmt z0 z1 z2 z3 a1 a2
      have hrd := hL9.cread (Hk.out.at (e := 2 + k) (by omega) (by omega)) hS9 U hU2
      rw [H60.out] at hrd
      have HL9 := hid hL9.now
      have HS9 := hid hS9
      have Hob9 := hid hob9
      have Hg9 := hid (hL9.blk (.inl rfl) Hg7.out)
      have Hn9 := hid (hL9.blk (.inr rfl) Hn7.out)
      clear hL9 hS9 hob9 HL7 HS6 Hg7 Hn7
      go_wp2_with fail
      refine hrd.mono ?_
      rintro e w10 ⟨A10, n10, c10, rfl, hz10, hB10⟩
      have hn0 : n10 = 0 := hz10.len.symm
      subst hn0
      have HL10 := hid (HL9.out.later hB10).now
      have Hg10 := hid (Hg9.out.later hB10)
      have Hn10 := hid (Hn9.out.later hB10)
      clear hrd hz10 hB10 HL9 Hg9 Hn9
      go_wp2
      go_roundw
      case rel => exact ⟨k + 1, 2 + k, o9, _, _, _, by omega, by omega, by go_num, rfl, Hob9.out, by omega, by omega, HL10.out, HS9.out.up (by omega), Hbs6.out, Hg10.out, Hn10.out⟩
      case measure => simp [intOf]; omega
   ·obtain rfl : k = 60 := by omega
    have HB := hid hL.below
    clear hL hS hF hbg hbn
    go_wp2
    go_ret
    exact ⟨rfl, HB.out⟩
  ·obtain rfl : k = l := by omega
   have HB := hid hL.below
   clear hL hS hF hbg hbn
   go_wp2
   go_ret
   exact ⟨rfl, HB.out⟩
end Go.Proofs.Ytpcbpljdiacbmaa.Ftl
