import Derived.Test.YtpcbpljdiacbmaaJFtlSb
import Derived.Deep.DeepCutAuto
set_option linter.unusedVariables false
set_option linter.unusedSimpArgs false
namespace Go.Proofs.Ytpcbpljdiacbmaa.Ftl
open Go.RowKit Go.Proofs.Ytpcbpljdiacbmaa.Kit Go.Proofs.Ytpcbpljdiacbmaa.Oct Go.Proofs.Ytpcbpljdiacbmaa.Sheet Go.Proofs.Ytpcbpljdiacbmaa.Nand Go.Proofs.Ytpcbpljdiacbmaa.Plan Go.Proofs.Ytpcbpljdiacbmaa.Scan Go.Proofs.Ytpcbpljdiacbmaa.Pmap Go.Proofs.Ytpcbpljdiacbmaa.Pool

set_option maxRecDepth 100000 in
set_option maxHeartbeats 4000000 in
theorem law_wears (n : Int) (hn : 0 ≤ n ∧ n ≤ 255) (ad : Int) (had : 0 ≤ ad ∧ ad ≤ 65535) (tm : Int) (htm : 0 ≤ tm ∧ tm ≤ 255) (w : World) :
  Calls Try.prog 6 #[.int .u8 n, .int .u16 ad, .int .u8 tm] w fun e w' => e = .returned (.bool true) ∧ Below w.heap.size w w' := by
 obtain ⟨ad, rfl⟩ := Int.eq_ofNat_of_zero_le had.1
 obtain ⟨tm, rfl⟩ := Int.eq_ofNat_of_zero_le htm.1
 obtain ⟨n, rfl⟩ := Int.eq_ofNat_of_zero_le hn.1
 have hn : n < 256 := by omega
 have hk : CK (cG n 1) := cG_ok hn (by omega) (by omega)
 have hgeo : ∀ W, Calls Try.prog 14 #[.int .u8 (n : Int)] W fun e w' => ∃ A m cp, e = .returned (.agg #[.int .i64 ((cG n 1).nb : Int), .int .i64 ((cG n 1).np : Int), .int .i64 ((cG n 1).S : Int), .slice A m cp]) ∧ Geo w' (cG n 1).nb (cG n 1).np ((cG n 1).S : Int) A m cp (cG n 1).bad ∧ Below W.heap.size W w' ∧ ∀ ad, A = some ad → W.heap.size ≤ ad.block ∧ ad.block < w'.heap.size := fun W => geometry_low n hn W
 have hbad : ∀ x ∈ (cG n 1).bad, 0 ≤ x ∧ x < ((cG n 1).nb : Int) := geo_bad ⟨n, hn⟩
 have hcM : Plan.cap ((cG n 1).nb : Int) ((cG n 1).np : Int) ((cG n 1).S : Int) (cG n 1).bad = ((cG n 1).M : Int) - 1 := hk.ok
 have hM61 : (cG n 1).M ≤ 61 := by
  have h := (geo_more ⟨n, hn⟩).2.2.2
  have h : capN n ≤ 60 := h
  show capN n + 1 ≤ 61
  omega
 have hnb : 5 ≤ (cG n 1).nb ∧ (cG n 1).nb ≤ 9 := by show 5 ≤ gB n ∧ gB n ≤ 9; unfold gB; omega
 have hnp : 2 ≤ (cG n 1).np ∧ (cG n 1).np ≤ 5 := by show 2 ≤ gP n ∧ gP n ≤ 5; unfold gP; omega
 generalize cG n 1 = c at *
 have Hk := hid hk
 have Hbad := hid hbad
 have HcM := hid hcM
 have hM1 := hk.M
 clear hk hbad hcM
 go_enter Try.func6, Try.ntmps6
 go_wp2_with fail
 refine (awake_ftl w).mono ?_
 rintro e w0 ⟨rfl, hB0⟩
 have hgeo' := hgeo w0
 clear hgeo
 go_wp2_with fail
 refine hgeo'.mono ?_
 rintro e w1 ⟨A, m, cp, rfl, hg1, hB1, hA1⟩
 clear hgeo'
 go_upto_region 4 with (fail)
 generalize hw2 : World.alloc w1 _ = w2
 obtain ⟨g1, hg1e⟩ : ∃ g, w1.heap.size = g := ⟨_, rfl⟩
 have hB2 : Below w1.heap.size w1 w2 := by rw [← hw2]; exact (Below.refl _ _).alloc (Nat.le_refl _) _
 have hb1 : Blk w2 g1 #[.int .i64 (c.nb : Int), .int .i64 (c.np : Int), .int .i64 (c.S : Int), .slice A m cp] 26 := by rw [← hw2, ← hg1e]; exact Blk.new _ _ _
 have hg2 := hg1.later hB2
 have hB02 := hB0.trans ((hB1.trans (hB2.mono hB1.size)).mono hB0.size)
 have hnew := new_run c.nb c.np A m cp c.bad (gk g1) w w2 hB02 (by omega) (by omega) hg2.nums Hbad.out (fun g hg => by
  have h1 := hB1.size
  have h2 := hb1.lt
  have h3 := hB0.size
  rcases hg with hg | ⟨ad, had, rfl⟩
  ·have hg : g = g1 := hg
   rw [hg]
   omega
  ·have := hA1 ad had
   omega)
 have hne : ∀ g, gk g1 g → ∀ ad, A = some ad → g ≠ ad.block := fun g hg ad had => by
  have hg : g = g1 := hg
  have := hA1 ad had
  omega
 obtain ⟨z0, z1, z2, z3⟩ := geo_four hb1
 rw [hg1e]
 have Hne := hid hne
 have Hb1 := hid hb1
 have Hg2 := hid hg2
 clear hw2 hg1e hB1 hB2 hb1 hg1 hg2 hA1 hne hB0 hB02
 go_wp2_with fail
 refine hnew.mono ?_
 rintro e w3 ⟨b, rfl, hR3, hB3⟩
 clear hnew z0 z1 z2 z3
 have hb3 := Hb1.out.later hB3
 have hg3 := Hg2.out.later hB3
 have hke := Hk.out.at (e := 1) (by omega) (by omega)
 have hmt : Calls Try.prog 16 #[.pointer (some ⟨b, 0, none⟩), .agg #[.int .i64 (c.nb : Int), .int .i64 (c.np : Int), .int .i64 (c.S : Int), .slice A m cp], .int .u64 1] w3 fun e w' => ∃ o st, o.ba = b ∧ e = .returned (.tuple #[.pointer (some ⟨o.bf, 0, none⟩), .int .i64 0]) ∧ LF (c.at 1) o A m cp (gk g1) w3 w w' st ∧ Sound (c.at 1) st (Vof (fun _ => none)) 0 ∧ Ops 1 (newA c.nb c.np c.bad) st.N := cmount (c := c.at 1) hke hR3 Hne.out hg3 (AOk.new hke) rfl CalmN.new
 obtain ⟨z0, z1, z2, z3⟩ := geo_four hb3
 have Hb3 := hid hb3
 clear hR3 hB3 hg3 hb3 Hb1 Hg2 Hne Hbad hke
 go_wp2_with fail
 refine hmt.mono ?_
 rintro e w4 ⟨o, st, hob, rfl, hL4, hS4, -⟩
 clear hmt z0 z1 z2 z3
 subst hob
 have hb4 := hL4.blk (show gk g1 g1 from rfl) Hb3.out
 have HS := hid hS4
 obtain ⟨z0, z1, z2, z3⟩ := geo_four hb4
 have hrc : Calls Try.prog 17 #[.agg #[.int .i64 (c.nb : Int), .int .i64 (c.np : Int), .int .i64 (c.S : Int), .slice A m cp]] w4 fun e w' => e = .returned (.int .i64 ((c.M : Int) - 1)) ∧ Below w4.heap.size w4 w' := by rw [← HcM.out]; exact rcap_geo hL4.geo
 have HL4 := hid hL4
 have Hb4 := hid hb4
 clear hL4 hS4 hb4 Hb3
 go_wp2_with fail
 refine hrc.mono ?_
 rintro e w5 ⟨rfl, hB5⟩
 clear hrc z0 z1 z2 z3
 have hmk := fun W => make_strs W c.M (by omega)
 have hMw : IntKind.i64.wrap ((c.M : Int) - 1 + 1) = (c.M : Int) := by rw [IntWalk.i64_in _ (by omega)]; omega
 go_upto_region 7 with (fail)
 clear hmk
 generalize hw6 : World.alloc w5 _ = w6
 obtain ⟨gn, hgn⟩ : ∃ g, w5.heap.size = g := ⟨_, rfl⟩
 have hB6 : Below w5.heap.size w5 w6 := by rw [← hw6]; exact (Below.refl _ _).alloc (Nat.le_refl _) _
 have hbn : Blk w6 gn (strs (List.replicate c.M [])) 9 := by rw [← hw6, ← hgn]; exact Blk.new _ _ _
 have hB46 := hB5.trans (hB6.mono hB5.size)
 have hL6 := HL4.out.more (K' := gk2 g1 gn) hB46 (fun g hg => by
  rcases hg with hg | hg
  ·exact .inl hg
  ·exact .inr (by rw [hg]; exact ⟨by have := hB5.size; omega, hbn.lt⟩)) (fun g hg => .inl hg)
 have HL := hid hL6
 have Hg := hid (Hb4.out.later hB46)
 have Hn := hid hbn
 rw [hgn]
 have HM := hid (show c.M ≤ 61 ∧ 1 ≤ c.M from ⟨hM61, hM1⟩)
 have h1n := hid (show g1 ≠ gn by have := Hb4.out.lt; have := hB5.size; omega)
 clear hw6 hgn hB5 hB6 hbn hB46 hL6 HL4 Hb4 hMw
 obtain ⟨U, hU, hUt, hU2⟩ := rem_nat (ad : Int) (by omega) c.M (by omega)
 have Hke := hid (Hk.out.at (e := 1) (by omega) (by omega))
 have hM61 := HM.out.1
 go_wp2
 go_loopw [13] (fun t w' => ∃ (k : Nat) (st' : FT) (D : Nat → Option (List Int)) (ys : List (List Int)), k ≤ c.M ∧ t = .int .i64 (k : Int) ∧ LF (c.at 1) o A m cp (gk2 g1 gn) w' w w' st' ∧ Sound (c.at 1) st' D (7000 * k) ∧ Fits c D ys ∧ (∀ a, a < k → (D a).isSome = true) ∧ (∀ y ∈ ys, IsB y ∧ y.length ≤ 64) ∧ Blk w' g1 #[.int .i64 (c.nb : Int), .int .i64 (c.np : Int), .int .i64 (c.S : Int), .slice A m cp] 26 ∧ Blk w' gn (strs ys) 9) (fun t _ => c.M - (intOf t).toNat)
 case atStart => exact ⟨0, st, _, _, by omega, rfl, HL.out, HS.out, Fits.new c, fun a ha => absurd ha (by omega), fun y hy => by rw [List.eq_of_mem_replicate hy]; exact ⟨fun x hx => by (cases hx), by decide⟩, Hg.out, Hn.out⟩
 case round =>
  clear HL HS Hg Hn
  obtain ⟨k, st', D, ys, hkl, rfl, hL, hS, hF, hfl, hB, hbg, hbn⟩ := hrel
  by_cases hlt : k < c.M
  ·have hltI : (k : Int) < (c.M : Int) := by omega
   have HL := hid hL
   have HS := hid hS
   have Hf := hid hF
   have Hfl := hid hfl
   have HB := hid hB
   have Hg := hid hbg
   have Hn := hid hbn
   clear hL hS hF hfl hB hbg hbn
   have hkU : IntKind.u8.wrap (k : Int) = (k : Int) := IntWalk.u8_in _ (by omega)
   have hyb : IsB [(k : Int)] := fun x hx => by rw [List.mem_singleton.1 hx]; omega
   have hBn : Below wr.heap.size wr (wr.alloc (.cells #[.int .u8 (k : Int)] 5)) := (Below.refl _ _).alloc (Nat.le_refl _) _
   have n0 := strs_cell (Hn.out.later hBn) k (by rw [Hf.out.1]; exact hlt)
   have f0 := (Hn.out.later hBn).free k
   have hcv : ∀ W : World, (convert 22 9 (.slice (some ⟨W.heap.size, 0, none⟩) 1 1)).run Try.prog (W.alloc (.cells #[.int .u8 (k : Int)] 5)) = .ok (.string (strOfNums [(k : Int)])) (W.alloc (.cells #[.int .u8 (k : Int)] 5)) := fun W => conv_str (nums_lit (heap_alloc_new _ _) rfl (wf_of hyb))
   have hcv := hcv wr
   go_upto_region 11 with (fail)
   clear hcv n0 f0
   have hL2 := HL.out.later hBn
   have HL2 := hid (hL2.now.store gn k (.string (strOfNums [(k : Int)])) (.inr rfl))
   have hset := (Hn.out.later hBn).set k (.string (strOfNums [(k : Int)]))
   rw [strs_set] at hset
   have Hn2 := hid hset
   have Hg2 := hid ((Hg.out.later hBn).setOther ⟨gn, k, none⟩ (show g1 ≠ gn from h1n.out) (.string (strOfNums [(k : Int)])))
   clear hset hBn hL2 HL Hg Hn
   generalize hw2 : (wr.alloc (.cells #[.int .u8 (k : Int)] 5)).setCell ⟨gn, k, none⟩ (.string (strOfNums [(k : Int)])) = w2 at *
   clear hw2
   have n0 := strs_cell Hn2.out k (by rw [List.length_set, Hf.out.1]; exact hlt)
   rw [List.getD_eq_getElem?_getD, List.getElem?_set_self (by rw [Hf.out.1]; exact hlt), Option.getD_some] at n0
   obtain ⟨w3, c3, hcv, hB3, hz3, hs3⟩ := str_bytes w2 [(k : Int)] hyb (by simp)
   have hwr := HL2.out.cwrite_new Hke.out HS.out (by omega) hB3 k [(k : Int)] w2.heap.size 1 c3 hz3 ⟨Nat.le_refl _, by omega⟩ hlt (by omega)
   replace hcv : (convert 9 22 (.string (strOfNums [(k : Int)]))).run Try.prog w2 = .ok (.slice (some ⟨w2.heap.size, 0, none⟩) 1 c3) w3 := hcv
   clear hz3 hs3 hB3
   go_wp2_with fail
   refine hwr.mono ?_
   rintro e w9 ⟨rfl, st9, hL9, hS9, -⟩
   clear hwr hcv n0
   have HL9 := hid hL9.now
   have HS9 := hid hS9
   have HF9 := hid (Hf.out.set hlt [(k : Int)])
   have HB9 := hid (show ∀ y ∈ ys.set k [(k : Int)], IsB y ∧ y.length ≤ 64 from fun y hy => by
    rcases List.mem_or_eq_of_mem_set hy with h | h
    ·exact HB.out y h
    ·rw [h]; exact ⟨hyb, by simp⟩)
   have Hg9 := hid (hL9.blk (.inl rfl) Hg2.out)
   have Hn9 := hid (hL9.blk (.inr rfl) Hn2.out)
   have Hfl9 := hid (show ∀ a, a < k + 1 → (updV D k [(k : Int)] a).isSome = true from fun a ha => by
    unfold updV
    by_cases e : a = k
    ·rw [if_pos e]; rfl
    ·rw [if_neg e]; exact Hfl.out a (by omega))
   clear hL9 hS9 HL2 Hg2 Hn2 HS HB Hf Hfl
   go_wp2
   go_roundw
   case rel => exact ⟨k + 1, _, _, _, by omega, by go_num, HL9.out, HS9.out.up (by omega), HF9.out, Hfl9.out, HB9.out, Hg9.out, Hn9.out⟩
   case measure => simp [intOf]; omega
  ·obtain rfl : k = c.M := by omega
   have HL := hid hL
   have HS := hid hS
   have Hf := hid hF
   have Hfl := hid hfl
   have HB := hid hB
   have Hg := hid hbg
   have Hn := hid hbn
   clear hL hS hF hfl hB hbg hbn hlt hkl
   have hMI : (c.M : Int) ≠ 0 := by have := HM.out; omega
   have a1 : IntKind.i64.wrap (ad : Int) = (ad : Int) := IntWalk.i64_in _ (by omega)
   have a2 : IntKind.i64.wrap (tm : Int) = (tm : Int) := IntWalk.i64_in _ (by omega)
   go_wp2
   go_loopw [15] (fun t w' => ∃ (k : Nat) (st' : FT) (D : Nat → Option (List Int)) (ys : List (List Int)), k ≤ tm ∧ t = .int .i64 (k : Int) ∧ LF (c.at 1) o A m cp (gk2 g1 gn) w' w w' st' ∧ Sound (c.at 1) st' D (7000 * 61 + 7000 * k) ∧ Fits c D ys ∧ (∀ a, a < c.M → (D a).isSome = true) ∧ (∀ y ∈ ys, IsB y ∧ y.length ≤ 64) ∧ Blk w' g1 #[.int .i64 (c.nb : Int), .int .i64 (c.np : Int), .int .i64 (c.S : Int), .slice A m cp] 26 ∧ Blk w' gn (strs ys) 9) (fun t _ => tm - (intOf t).toNat)
   case atStart => exact ⟨0, _, _, _, by omega, rfl, HL.out, HS.out.up (by omega), Hf.out, Hfl.out, HB.out, Hg.out, Hn.out⟩
   case round =>
    clear HL HS Hf Hfl HB Hg Hn
    obtain ⟨k, st', D, ys, hkl, rfl, hL, hS, hF, hfl, hB, hbg, hbn⟩ := hrel
    by_cases hlt : k < tm
    ·have hltI : (k : Int) < (tm : Int) := by omega
     have HL := hid hL
     have HS := hid hS
     have Hf := hid hF
     have Hfl := hid hfl
     have HB := hid hB
     have Hg := hid hbg
     have Hn := hid hbn
     clear hL hS hF hfl hB hbg hbn
     have hkU : IntKind.u8.wrap (k : Int) = (k : Int) := IntWalk.u8_in _ (by omega)
     have hyb : IsB [(k : Int), 7] := fun x hx => by
      rcases List.mem_cons.1 hx with h | h
      ·rw [h]; omega
      ·rw [List.mem_singleton.1 h]; omega
     have hBn : Below wr.heap.size wr (wr.alloc (.cells #[.int .u8 (k : Int), .int .u8 7] 5)) := (Below.refl _ _).alloc (Nat.le_refl _) _
     have n0 := strs_cell (Hn.out.later hBn) U (by rw [Hf.out.1]; exact hU2)
     have f0 := (Hn.out.later hBn).free U
     have hcv : ∀ W : World, (convert 22 9 (.slice (some ⟨W.heap.size, 0, none⟩) 2 2)).run Try.prog (W.alloc (.cells #[.int .u8 (k : Int), .int .u8 7] 5)) = .ok (.string (strOfNums [(k : Int), 7])) (W.alloc (.cells #[.int .u8 (k : Int), .int .u8 7] 5)) := fun W => conv_str (nums_lit (heap_alloc_new _ _) rfl (wf_of hyb))
     have hcv := hcv wr
     go_upto_region 18 with (fail)
     clear hcv n0 f0
     have hL2 := HL.out.later hBn
     have HL2 := hid (hL2.now.store gn U (.string (strOfNums [(k : Int), 7])) (.inr rfl))
     have hset := (Hn.out.later hBn).set U (.string (strOfNums [(k : Int), 7]))
     rw [strs_set] at hset
     have Hn2 := hid hset
     have Hg2 := hid ((Hg.out.later hBn).setOther ⟨gn, U, none⟩ (show g1 ≠ gn from h1n.out) (.string (strOfNums [(k : Int), 7])))
     clear hset hBn hL2 HL Hg Hn
     generalize hw2 : (wr.alloc (.cells #[.int .u8 (k : Int), .int .u8 7] 5)).setCell ⟨gn, U, none⟩ (.string (strOfNums [(k : Int), 7])) = w2 at *
     clear hw2
     have n0 := strs_cell Hn2.out U (by rw [List.length_set, Hf.out.1]; exact hU2)
     rw [List.getD_eq_getElem?_getD, List.getElem?_set_self (by rw [Hf.out.1]; exact hU2), Option.getD_some] at n0
     obtain ⟨w3, c3, hcv, hB3, hz3, hs3⟩ := str_bytes w2 [(k : Int), 7] hyb (by simp)
     have hwr := HL2.out.cwrite_new Hke.out HS.out (by omega) hB3 U [(k : Int), 7] w2.heap.size 2 c3 hz3 ⟨Nat.le_refl _, by omega⟩ hU2 (by omega)
     replace hcv : (convert 9 22 (.string (strOfNums [(k : Int), 7]))).run Try.prog w2 = .ok (.slice (some ⟨w2.heap.size, 0, none⟩) 2 c3) w3 := hcv
     clear hz3 hs3 hB3
     go_wp2_with fail
     refine hwr.mono ?_
     rintro e w9 ⟨rfl, st9, hL9, hS9, -⟩
     clear hwr hcv n0
     have HL9 := hid hL9.now
     have HS9 := hid hS9
     have HF9 := hid (Hf.out.set hU2 [(k : Int), 7])
     have HB9 := hid (show ∀ y ∈ ys.set U [(k : Int), 7], IsB y ∧ y.length ≤ 64 from fun y hy => by
      rcases List.mem_or_eq_of_mem_set hy with h | h
      ·exact HB.out y h
      ·rw [h]; exact ⟨hyb, by simp⟩)
     have Hg9 := hid (hL9.blk (.inl rfl) Hg2.out)
     have Hn9 := hid (hL9.blk (.inr rfl) Hn2.out)
     have Hfl9 := hid (show ∀ a, a < c.M → (updV D U [(k : Int), 7] a).isSome = true from fun a ha => by
      unfold updV
      by_cases e : a = U
      ·rw [if_pos e]; rfl
      ·rw [if_neg e]; exact Hfl.out a ha)
     clear hL9 hS9 HL2 Hg2 Hn2 HS HB Hf Hfl
     go_wp2
     go_roundw
     case rel => exact ⟨k + 1, _, _, _, by omega, by go_num, HL9.out, HS9.out.up (by omega), HF9.out, Hfl9.out, HB9.out, Hg9.out, Hn9.out⟩
     case measure => simp [intOf]; omega
    ·obtain rfl : k = tm := by omega
     have hrt := right_any hL Hke.out hS.rest gn c.M ys hbn hF.1 (Nat.le_refl _) (fun i hi => by rw [hS.data]; exact hF.2 i hi)
     have hln : ∀ W, Below wr.heap.size wr W → _ := fun W hW => (hL.later hW).clen hS
     have HL2 := hid hL
     have HS2 := hid hS
     have Hfl2 := hid hfl
     clear hL hS hF hbn hbg hB hfl
     go_wp2_with fail
     refine hrt.mono ?_
     rintro e w9 ⟨rfl, hB9⟩
     have hln := hln w9 hB9
     rw [show cnum (fun a => (D a).isSome) (c.at 1).M = c.M from cnum_full _ Hfl2.out] at hln
     have hln : Calls Try.prog 26 #[.pointer (some ⟨o.bf, 0, none⟩)] w9 fun e w' => e = .returned (.int .i64 (c.M : Int)) ∧ w' = w9 := hln
     have HL9 := hid (HL2.out.later hB9)
     clear hrt hB9 HL2
     go_wp2_with fail
     refine hln.mono ?_
     rintro e w10 ⟨rfl, rfl⟩
     clear hln
     go_wp2
     go_ret
     exact ⟨rfl, HL9.out.below⟩
end Go.Proofs.Ytpcbpljdiacbmaa.Ftl
