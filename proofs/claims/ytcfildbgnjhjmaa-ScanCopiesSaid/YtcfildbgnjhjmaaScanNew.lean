import Derived.Test.YtcfildbgnjhjmaaScanFor
import Derived.Deep.DeepCutAuto
set_option linter.unusedVariables false
set_option linter.unusedSimpArgs false
namespace Go.Proofs.Ytcfildbgnjhjmaa.Scan
open Go.RowKit Go.Proofs.Ytcfildbgnjhjmaa.Kit Go.Proofs.Ytcfildbgnjhjmaa.Oct Go.Proofs.Ytcfildbgnjhjmaa.Sheet Go.Proofs.Ytcfildbgnjhjmaa.Nand Go.Proofs.Ytcfildbgnjhjmaa.Plan Go.Proofs.Ytcfildbgnjhjmaa.Log Go.Proofs.Ytcfildbgnjhjmaa.Pmap Go.Maps

/-- A page of the number s. -/
def pgW (s : Nat) : Pg := ⟨1, 255 - s, s, 0, 0, [(s : Int)]⟩
theorem pgW_ok {s : Nat} (h : s ≤ 255) : (pgW s).ok := pg_ok ⟨by omega, by omega, by omega, by omega, by omega, by omega, by simp, .inl rfl, fun x hx => by rw [List.mem_singleton.1 hx]; omega⟩
/-- What stands on the array: pages of numbers up to the best one, and that one. -/
def WQ (N : NA) (U : List Int) (best : Int) : Prop :=
  -1 ≤ best ∧ best ≤ 255 ∧ (∀ i ∈ U, ∀ q ∈ (N.blk i.toNat).pages, ∃ s : Nat, s ≤ 255 ∧ q = (pgW s).bytes ∧ (s : Int) ≤ best) ∧ (0 ≤ best → ∃ i ∈ U, (pgW best.toNat).bytes ∈ (N.blk i.toNat).pages)
theorem WQ.start {N : NA} {U : List Int} (h : ∀ j, (N.blk j).pages = []) : WQ N U (-1) := ⟨by omega, by omega, (fun i _ q hq => by rw [h] at hq; cases hq), (fun x => by omega)⟩
theorem WQ.add {N N' : NA} {U : List Int} {best : Int} (h : WQ N U best) (i s : Nat) (hi : (i : Int) ∈ U) (hs : s ≤ 255) (hU : ∀ x ∈ U, 0 ≤ x) (hp : ∀ j, (N'.blk j).pages = if j = i then (N.blk i).pages ++ [(pgW s).bytes] else (N.blk j).pages) : WQ N' U (if best < (s : Int) then (s : Int) else best) := by
  obtain ⟨h1, h2, h3, h4⟩ := h
  refine ⟨by split <;> omega, by split <;> omega, fun j hj q hq => ?_, fun h0 => ?_⟩
  · rw [hp] at hq
    split at hq
    · rename_i e
      rcases List.mem_append.1 hq with hq | hq
      · obtain ⟨t, t1, t2, t3⟩ := h3 (i : Int) hi q (by rw [Int.toNat_natCast]; exact hq)
        exact ⟨t, t1, t2, by split <;> omega⟩
      · exact ⟨s, hs, List.mem_singleton.1 hq, by split <;> omega⟩
    · obtain ⟨t, t1, t2, t3⟩ := h3 j hj q hq
      exact ⟨t, t1, t2, by split <;> omega⟩
  · split
    · exact ⟨(i : Int), hi, by rw [hp, Int.toNat_natCast, if_pos rfl, Int.toNat_natCast]; exact List.mem_append_right _ (List.mem_singleton.2 rfl)⟩
    · rename_i hb
      rw [if_neg hb] at h0
      obtain ⟨j, hj, hm⟩ := h4 h0
      refine ⟨j, hj, ?_⟩
      rw [hp]
      split
      · rename_i e
        rw [e] at hm
        exact List.mem_append_left _ hm
      · exact hm
theorem newest_facts {L : Int → List Fd} {N : NA} {M0 : Nat} {U : List Int} {best : Int} (h : WQ N U best) (hT : Told (M0 : Int) U (fun i => (N.blk i.toNat).pages) L) :
    spoilS U L = (L, []) ∧ (best < 0 → newest 0 (flatF U L) = none) ∧ (0 ≤ best → (seqOf (flatF U L) : Int) = best ∧ ∃ y, newest 0 (flatF U L) = some y ∧ y ∈ flatF U L ∧ y.2.p = pgW best.toNat) := by
  obtain ⟨h1, h2, h3, h4⟩ := h
  have hm : ∀ z ∈ flatF U L, ∃ s : Nat, s ≤ 255 ∧ z.2.p = pgW s ∧ (s : Int) ≤ best := fun z hz => by
    obtain ⟨h1', h2'⟩ := flatF_mem.1 hz
    obtain ⟨k1, k2, -⟩ := hT.mem h1' h2'
    have hq : ((N.blk z.1.toNat).pages).getD z.2.k [] ∈ (N.blk z.1.toNat).pages := by
      rw [List.getD_eq_getElem?_getD, List.getElem?_eq_getElem k1]
      exact List.getElem_mem _
    obtain ⟨s, s1, s2, s3⟩ := h3 z.1 h1' _ hq
    have k2 : rdP (((N.blk z.1.toNat).pages).getD z.2.k []) = some z.2.p := k2
    rw [rdP_yes (pgW_ok s1) s2] at k2
    injection k2 with k2
    exact ⟨s, s1, k2.symm, s3⟩
  refine ⟨spoil_no fun i hi => copied_no fun u hu => by obtain ⟨s, -, e, -⟩ := hm (i, u) (flatF_mem.2 ⟨hi, hu⟩); rw [show u.p = _ from e]; rfl, fun hb => newest_no fun z hz => by obtain ⟨s, -, -, e⟩ := hm z hz; omega, fun hb => ?_⟩
  obtain ⟨i, hi, hq⟩ := h4 hb
  obtain ⟨k, hk, e⟩ := List.mem_iff_getElem.1 hq
  have hg : ((N.blk i.toNat).pages).getD k [] = (pgW best.toNat).bytes := by rw [List.getD_eq_getElem?_getD, List.getElem?_eq_getElem hk]; exact e
  obtain ⟨x, hx, -, hxp⟩ := hT.has hi (k := k) (p := pgW best.toNat) hk (by rw [hg]; exact rdP_yes (pgW_ok (by omega)) rfl) (by show (1 : Nat) ≠ 3; omega) (by show ((0 : Nat) : Int) ≤ _; omega)
  have hz : (i, x) ∈ flatF U L := flatF_mem.2 ⟨hi, hx⟩
  refine ⟨?_, ?_⟩
  · have := seq_eq (l := flatF U L) (s := best.toNat) (fun z hz => by obtain ⟨s, -, e, e2⟩ := hm z hz; rw [e]; show s ≤ _; omega) (.inr ⟨_, hz, by show x.p.S = _; rw [hxp]; rfl⟩)
    rw [this]; omega
  · obtain ⟨y, hy, hym, -, hyS⟩ := newest_has (a := 0) hz (by show (x.p.a : Int) = 0; rw [hxp]; rfl)
    refine ⟨y, hy, hym, ?_⟩
    obtain ⟨s, -, e, e2⟩ := hm y hym
    rw [e] at hyS ⊢
    have hyS : x.p.S ≤ s := hyS
    rw [hxp] at hyS
    have hyS : best.toNat ≤ s := hyS
    rw [show s = best.toNat by omega]

set_option maxRecDepth 100000 in
set_option maxHeartbeats 4000000 in
theorem law_newest (n : Int) (hn : 0 ≤ n ∧ n ≤ 255) (A1 : Option Addr) (m1 c1 : Nat) (xs : List Int) (A2 : Option Addr) (m2 c2 : Nat) (ys : List Int) (w : World) (hx : m1 ≤ c1 ∧ Nums w .u8 A1 m1 xs) (hy : Nums w .u8 A2 m2 ys) :
    Calls Try.prog 8 #[.int .u8 n, .slice A1 m1 c1, .slice A2 m2 c2] w fun e w' => e = .returned (.bool true) ∧ Below w.heap.size w w' := by
  obtain ⟨n, rfl⟩ := Int.eq_ofNat_of_zero_le hn.1
  have hn : n < 256 := by omega
  have hgeo := geometry_any n hn
  obtain ⟨⟨hul, hul7⟩, hcap, hM1, hM60⟩ := geo_more ⟨n, hn⟩
  replace hul : 2 ≤ (us (gB n) (gL n)).length := hul
  replace hul7 : (us (gB n) (gL n)).length ≤ 7 := hul7
  replace hcap : cap (gB n : Int) (gP n : Int) (gS n : Int) (gL n) = (capN n : Int) := hcap
  replace hM1 : 1 ≤ capN n := hM1
  replace hM60 : capN n ≤ 60 := hM60
  have hbad := geo_bad ⟨n, hn⟩
  replace hbad : ∀ x ∈ gL n, 0 ≤ x ∧ x < (gB n : Int) := hbad
  have hgB : 5 ≤ gB n ∧ gB n ≤ 9 := by unfold gB; omega
  have hgP : 2 ≤ gP n ∧ gP n ≤ 5 := by unfold gP; omega
  generalize gB n = nb at *
  generalize gP n = np at *
  generalize gL n = bad at *
  generalize capN n = M0 at *
  generalize ((gS n : Nat) : Int) = Sp at *
  have Hcap := hid hcap
  have Hbad := hid hbad
  clear hcap hbad
  have Hx := hid hx
  have Hy := hid hy
  clear hx hy
  go_enter Try.func8, Try.ntmps8
  go_wp2_with fail
  refine (awake_any w).mono ?_
  rintro e w0 ⟨rfl, hB0⟩
  have hgeo' := hgeo w0
  clear hgeo
  go_wp2_with fail
  refine hgeo'.mono ?_
  rintro e w1 ⟨A, m, c, rfl, hg1, hB1⟩
  clear hgeo'
  go_upto_region 4 with (fail)
  generalize hw2 : World.alloc w1 _ = w2
  obtain ⟨g1, hg1e⟩ : ∃ g, w1.heap.size = g := ⟨_, rfl⟩
  have hB2 : Below w1.heap.size w1 w2 := by rw [← hw2]; exact (Below.refl _ _).alloc (Nat.le_refl _) _
  have hb1 : Blk w2 g1 #[.int .i64 (nb : Int), .int .i64 (np : Int), .int .i64 Sp, .slice A m c] 50 := by rw [← hw2, ← hg1e]; exact Blk.new _ _ _
  have hg2 := hg1.later hB2
  have hnew := newg_run nb np A m c bad w2 (by omega) (by omega) hg2.nums Hbad.out
  obtain ⟨z0, z1, z2, z3⟩ := geo_four hb1
  rw [hg1e]
  have HB2 := hid (hB0.trans ((hB1.trans (hB2.mono hB1.size)).mono hB0.size))
  have Hb1 := hid hb1
  have Hg2 := hid hg2
  clear hw2 hg1e hB1 hB2 hb1 hg1 hg2 hB0
  go_wp2_with fail
  refine hnew.mono ?_
  rintro e w3 ⟨b, rfl, hR3⟩
  clear hnew z0 z1 z2 z3
  have hb3 := Hb1.out.later hR3.below
  have hg3 := Hg2.out.later hR3.below
  obtain ⟨N0, hN0⟩ : ∃ N, newA nb np bad = N := ⟨_, rfl⟩
  have hG0 := Hale.new nb np bad
  have hP0 : ∀ j, (N0.blk j).pages = [] := fun j => by rw [← hN0]; exact newA_pages nb np bad j
  rw [hN0] at hR3 hG0
  have HG0 := hid hG0
  have HP0 := hid hP0
  clear hN0 hG0 hP0
  obtain ⟨z0, z1, z2, z3⟩ := geo_four hb3
  have hru := rus_any hg3
  have HR3 := hid hR3
  have Hb3 := hid hb3
  have Hg3 := hid hg3
  clear hR3 hb3 hg3
  go_wp2_with fail
  refine hru.mono ?_
  rintro e w4 ⟨U, ud, rfl, hU4, hUl, hB4⟩
  clear hru z0 z1 z2 z3
  obtain ⟨nu, hnu⟩ : ∃ x, (us nb bad).length = x := ⟨_, rfl⟩
  rw [hnu] at hU4 hul hul7
  rw [hnu]
  have hulI : (2 : Int) ≤ (nu : Int) := by omega
  have hul0 : 0 < nu := by omega
  have hul1 : (1 : Int) < (nu : Int) := by omega
  obtain ⟨bu, ou, rfl, -⟩ := hU4.at_ 0 (by omega)
  have hbu := hUl _ rfl
  replace hbu : w3.heap.size ≤ bu := hbu
  have hbu4 : bu < w4.heap.size := by
    obtain ⟨b', o', e', hc'⟩ := hU4.at_ 0 (by omega)
    injection e' with e'
    injection e' with e1' e2'
    have := World.block_lt_of_cell? w4 _ hc'
    rw [e1']
    exact this
  have HU4 := hid hU4
  have HB4 := hid hB4
  have Hnu := hid hnu
  clear hU4 hB4 hUl hnu
  go_upto_region 7 with (fail)
  have hzc : Try.zeroCells53 = ((List.replicate 256 false).map Value.bool).toArray := by kernel_rfl
  obtain ⟨gs, hgs⟩ : ∃ g, w4.heap.size = g := ⟨_, rfl⟩
  generalize hw5 : World.alloc w4 _ = w5
  have hB45 : Below w4.heap.size w4 w5 := by rw [← hw5]; exact (Below.refl _ _).alloc (Nat.le_refl _) _
  have hs5 : Blk w5 gs ((List.replicate 256 false).map Value.bool).toArray 53 := by
    rw [← hw5, ← hgs, hzc]
    exact Blk.new _ _ _
  have hR5 := (HR3.out.own (HB4.out.trans (hB45.mono HB4.out.size))).less (K' := fun g => g = bu ∨ g = gs) (fun g e => by
    have h1 := hs5.lt
    have h2 := hB45.size
    rcases e with e | e
    · exact .inr (by rw [e]; exact ⟨hbu, by omega⟩)
    · exact .inr (by rw [e]; exact ⟨by omega, h1⟩))
  have hU5 := HU4.out.below hB45
  have hbs : bu ≠ gs := by omega
  have hW5 := WQ.start (U := us nb bad) HP0.out
  rw [hgs]
  have HR5 := hid hR5
  have HU5 := hid hU5
  have Hs5 := hid hs5
  have HW5 := hid hW5
  clear hw5 hB45 hs5 hR5 hU5 HR3 HB4 HU4 hgs hbu4 hbu hzc hW5
  go_wp2
  go_loopw [12, 13] (fun v x w' => ∃ (i : Nat) (best : Int) (N : NA) (seen : List Bool), x = .int .i64 (i : Int) ∧ v = .int .i64 best ∧ (i ≤ 12 ∧ i ≤ m1 ∧ i ≤ m2) ∧ seen.length = 256 ∧ Blk w' gs (seen.map Value.bool).toArray 53 ∧ Hale N nb np bad ∧ WQ N (us nb bad) best ∧ Run (fun _ => False) w2 w' b N (fun g => g = bu ∨ g = gs) w' ∧ Nums w' .i64 (some ⟨bu, ou, none⟩) nu (us nb bad)) (fun _ x _ => 13 - (intOf x).toNat)
  case atStart => exact ⟨0, -1, N0, List.replicate 256 false, rfl, rfl, ⟨by omega, by omega, by omega⟩, by simp, Hs5.out, HG0.out, HW5.out, HR5.out, HU5.out⟩
  case round =>
    clear HR5 HU5 Hs5 HW5 HG0 HP0
    obtain ⟨i, best, N, seen, rfl, rfl, ⟨hi12, him1, him2⟩, hsl, hbs', hG, hW, hR, hU⟩ := hrel
    by_cases hlt : i < m1 ∧ i < m2 ∧ i < 12
    · obtain ⟨hlt1, hlt2, hlt3⟩ := hlt
      have hlt1I : (i : Int) < (m1 : Int) := by omega
      have hlt2I : (i : Int) < (m2 : Int) := by omega
      have hlt3I : (i : Int) < 12 := by omega
      have hBr := HB2.out.trans (hR.below.mono HB2.out.size)
      obtain ⟨bx, ox, rfl, hcx⟩ := (Hx.out.2.below hBr).at_ i hlt1
      have hxw := wf_u8 (Hx.out.2.wf_at i hlt1)
      obtain ⟨by', oy, rfl, hcy⟩ := (Hy.out.below hBr).at_ i hlt2
      have hyw := wf_u8 (Hy.out.wf_at i hlt2)
      have Hyi := hid (show i < m2 ∧ i < m1 from ⟨hlt2, hlt1⟩)
      generalize hs : xs.getD i 0 = s at *
      generalize ys.getD i 0 = v at *
      obtain ⟨s, rfl⟩ := Int.eq_ofNat_of_zero_le hxw.1
      obtain ⟨v, rfl⟩ := Int.eq_ofNat_of_zero_le hyw.1
      have Hs := hid hs
      have hs255 : s ≤ 255 := by omega
      have hknu : v % nu < nu := Nat.mod_lt _ hul0
      have htm : ((v : Int)).tmod (nu : Int) = ((v % nu : Nat) : Int) := by rw [Int.tmod_eq_emod_of_nonneg (by omega)]; rfl
      generalize v % nu = k at *
      obtain ⟨ib, eb, ib2, ibn, ibb, ibm⟩ := us_get (nb := nb) (bad := bad) k (by rw [Hnu.out]; exact hknu)
      have hUk : wr.cell? ⟨bu, ou + k, none⟩ = some (.int .i64 (ib : Int)) := by
        obtain ⟨b', o', e', hc'⟩ := hU.cell k hknu
        injection e' with e'
        injection e' with e1' e2'
        rw [e1', e2', hc' k hknu, eb]
      have hkI : (k : Int) < (nu : Int) := by omega
      have cv1 : IntKind.i64.wrap (v : Int) = (v : Int) := IntWalk.i64_in _ (by omega)
      have Hib := hid (show ib < nb ∧ (ib : Int) ∉ bad ∧ (ib : Int) ∈ us nb bad from ⟨ibn, ibb, ibm⟩)
      have HG := hid hG
      have HW := hid hW
      have HR := hid hR
      have HU := hid hU
      have Hbs := hid hbs'
      clear hs hG hW hR hU hbs' hBr eb ib2 ibn ibb ibm hn
      have z1 : wr.cell? ⟨g1, 1, none⟩ = some (.int .i64 (np : Int)) := (Hb1.out.later HR.out.below).cell 1
      have zs : wr.cell? ⟨gs, s, none⟩ = some (.bool (seen.getD s false)) := by
        rw [Hbs.out.cell, List.getElem?_toArray, List.getElem?_map, List.getElem?_eq_getElem (by omega), List.getD_eq_getElem?_getD, List.getElem?_eq_getElem (by omega)]
        rfl
      have hnx := next_hale HR.out.drew HG.out ib Hib.out.1
      have hpl := HR.out.wf.len ib (by rw [HG.out.lb]; exact Hib.out.1)
      rw [HG.out.lp] at hpl
      have hsI : (s : Int) < 256 := by omega
      go_upto_region 12 with (fail)
      cases hsb : seen.getD s false
      · rw [hsb] at zs
        have HC := hid (show wr.cell? ⟨bx, ox + i, none⟩ = some (.int .u8 (s : Int)) ∧ wr.cell? ⟨gs, s, none⟩ = some (.bool false) ∧ wr.cell? ⟨g1, 1, none⟩ = some (.int .i64 (np : Int)) from ⟨hcx, zs, z1⟩)
        refine wp_region_held_drew (S := (fun w' => w'.cell? ⟨bx, ox + i, none⟩ = some (.int .u8 (s : Int)) ∧ w'.cell? ⟨gs, s, none⟩ = some (.bool false) ∧ w'.cell? ⟨g1, 1, none⟩ = some (.int .i64 (np : Int)))) (by kernel_rfl) ?hSnewNfz (fun hHeld => ?restNfz)
        case hSnewNfz => ((try dsimp only); exact HC.out)
        refine wpAnyH_take (i := 0) (oi := ?oiNft24x0) (v := ?vNft24x0) ?hoNft24x0 ?h1Nft24x0 ?h2Nft24x0 ?h3Nft24x0 ?hqNft24x0 (Or.inl ⟨?h4Nft24x0, ?hyNft24x0⟩) (by assumption) ?restNft24x0
        case hoNft24x0 => (simp only [List.getElem?_toArray, List.getElem?_cons_zero, List.getElem?_cons_succ]; rfl)
        case h1Nft24x0 => kernel_rfl
        case h2Nft24x0 => kernel_rfl
        case h3Nft24x0 => kernel_rfl
        case h4Nft24x0 => rfl
        case hqNft24x0 => exact fun _ _ _ h => h
        case hyNft24x0 => (intro w hSw; (try dsimp only at hSw); go_simp <;> with_reducible rfl)
        (try simp only [Act.put, List.setIfInBounds_toArray, List.set_cons_zero, List.set_cons_succ])
        refine wpAnyH_take (i := 1) (oi := ?oiNft26x1) (v := ?vNft26x1) ?hoNft26x1 ?h1Nft26x1 ?h2Nft26x1 ?h3Nft26x1 ?hqNft26x1 (Or.inl ⟨?h4Nft26x1, ?hyNft26x1⟩) (by assumption) ?restNft26x1
        case hoNft26x1 => (simp only [List.getElem?_toArray, List.getElem?_cons_zero, List.getElem?_cons_succ]; rfl)
        case h1Nft26x1 => kernel_rfl
        case h2Nft26x1 => kernel_rfl
        case h3Nft26x1 => kernel_rfl
        case h4Nft26x1 => rfl
        case hqNft26x1 => exact fun _ _ _ h => h
        case hyNft26x1 => (intro w hSw; (try dsimp only at hSw); go_simp <;> with_reducible rfl)
        (try simp only [Act.put, List.setIfInBounds_toArray, List.set_cons_zero, List.set_cons_succ])
        refine wpAnyH_take (i := 2) (oi := ?oiNft28x2) (v := ?vNft28x2) ?hoNft28x2 ?h1Nft28x2 ?h2Nft28x2 ?h3Nft28x2 ?hqNft28x2 (Or.inl ⟨?h4Nft28x2, ?hyNft28x2⟩) (by assumption) ?restNft28x2
        case hoNft28x2 => (simp only [List.getElem?_toArray, List.getElem?_cons_zero, List.getElem?_cons_succ]; rfl)
        case h1Nft28x2 => kernel_rfl
        case h2Nft28x2 => kernel_rfl
        case h3Nft28x2 => kernel_rfl
        case h4Nft28x2 => rfl
        case hqNft28x2 => exact fun _ _ _ h => h
        case hyNft28x2 => (intro w hSw; (try dsimp only at hSw); go_simp <;> with_reducible rfl)
        (try simp only [Act.put, List.setIfInBounds_toArray, List.set_cons_zero, List.set_cons_succ])
        refine wpAnyH_take (i := 3) (oi := ?oiNft30x3) (v := ?vNft30x3) ?hoNft30x3 ?h1Nft30x3 ?h2Nft30x3 ?h3Nft30x3 ?hqNft30x3 (Or.inl ⟨?h4Nft30x3, ?hyNft30x3⟩) (by assumption) ?restNft30x3
        case hoNft30x3 => (simp only [List.getElem?_toArray, List.getElem?_cons_zero, List.getElem?_cons_succ]; rfl)
        case h1Nft30x3 => kernel_rfl
        case h2Nft30x3 => kernel_rfl
        case h3Nft30x3 => kernel_rfl
        case h4Nft30x3 => rfl
        case hqNft30x3 => exact fun _ _ _ h => h
        case hyNft30x3 => (intro w hSw; (try dsimp only at hSw); go_simp <;> with_reducible rfl)
        (try simp only [Act.put, List.setIfInBounds_toArray, List.set_cons_zero, List.set_cons_succ])
        refine wpAnyH_take (i := 4) (oi := ?oiNft32x4) (v := ?vNft32x4) ?hoNft32x4 ?h1Nft32x4 ?h2Nft32x4 ?h3Nft32x4 ?hqNft32x4 (Or.inl ⟨?h4Nft32x4, ?hyNft32x4⟩) (by assumption) ?restNft32x4
        case hoNft32x4 => (simp only [List.getElem?_toArray, List.getElem?_cons_zero, List.getElem?_cons_succ]; rfl)
        case h1Nft32x4 => kernel_rfl
        case h2Nft32x4 => kernel_rfl
        case h3Nft32x4 => kernel_rfl
        case h4Nft32x4 => rfl
        case hqNft32x4 => exact fun _ _ _ h => h
        case hyNft32x4 => (intro w hSw; (try dsimp only at hSw); go_simp <;> with_reducible rfl)
        (try simp only [Act.put, List.setIfInBounds_toArray, List.set_cons_zero, List.set_cons_succ])
        refine wpAnyH_take (i := 5) (oi := ?oiNft34x5) (v := ?vNft34x5) ?hoNft34x5 ?h1Nft34x5 ?h2Nft34x5 ?h3Nft34x5 ?hqNft34x5 (Or.inl ⟨?h4Nft34x5, ?hyNft34x5⟩) (by assumption) ?restNft34x5
        case hoNft34x5 => (simp only [List.getElem?_toArray, List.getElem?_cons_zero, List.getElem?_cons_succ]; rfl)
        case h1Nft34x5 => kernel_rfl
        case h2Nft34x5 => kernel_rfl
        case h3Nft34x5 => kernel_rfl
        case h4Nft34x5 => rfl
        case hqNft34x5 => exact fun _ _ _ h => h
        case hyNft34x5 => (intro w hSw; (try dsimp only at hSw); go_simp <;> with_reducible rfl)
        (try simp only [Act.put, List.setIfInBounds_toArray, List.set_cons_zero, List.set_cons_succ])
        refine wpAnyH_take (i := 6) (oi := ?oiNft36x6) (v := ?vNft36x6) ?hoNft36x6 ?h1Nft36x6 ?h2Nft36x6 ?h3Nft36x6 ?hqNft36x6 (Or.inl ⟨?h4Nft36x6, ?hyNft36x6⟩) (by assumption) ?restNft36x6
        case hoNft36x6 => (simp only [List.getElem?_toArray, List.getElem?_cons_zero, List.getElem?_cons_succ]; rfl)
        case h1Nft36x6 => kernel_rfl
        case h2Nft36x6 => kernel_rfl
        case h3Nft36x6 => kernel_rfl
        case h4Nft36x6 => rfl
        case hqNft36x6 => exact fun _ _ _ h => h
        case hyNft36x6 => (intro w hSw; (try dsimp only at hSw); go_simp <;> with_reducible rfl)
        (try simp only [Act.put, List.setIfInBounds_toArray, List.set_cons_zero, List.set_cons_succ])
        refine wpAnyH_take (i := 7) (oi := ?oiNft38x7) (v := ?vNft38x7) ?hoNft38x7 ?h1Nft38x7 ?h2Nft38x7 ?h3Nft38x7 ?hqNft38x7 (Or.inl ⟨?h4Nft38x7, ?hyNft38x7⟩) (by assumption) ?restNft38x7
        case hoNft38x7 => (simp only [List.getElem?_toArray, List.getElem?_cons_zero, List.getElem?_cons_succ]; rfl)
        case h1Nft38x7 => kernel_rfl
        case h2Nft38x7 => kernel_rfl
        case h3Nft38x7 => kernel_rfl
        case h4Nft38x7 => rfl
        case hqNft38x7 => exact fun _ _ _ h => h
        case hyNft38x7 => (intro w hSw; (try dsimp only at hSw); go_simp <;> with_reducible rfl)
        (try simp only [Act.put, List.setIfInBounds_toArray, List.set_cons_zero, List.set_cons_succ])
        refine wpAnyH_take (i := 8) (oi := ?oiNft40x8) (v := ?vNft40x8) ?hoNft40x8 ?h1Nft40x8 ?h2Nft40x8 ?h3Nft40x8 ?hqNft40x8 (Or.inl ⟨?h4Nft40x8, ?hyNft40x8⟩) (by assumption) ?restNft40x8
        case hoNft40x8 => (simp only [List.getElem?_toArray, List.getElem?_cons_zero, List.getElem?_cons_succ]; rfl)
        case h1Nft40x8 => kernel_rfl
        case h2Nft40x8 => kernel_rfl
        case h3Nft40x8 => kernel_rfl
        case h4Nft40x8 => rfl
        case hqNft40x8 => exact fun _ _ _ h => h
        case hyNft40x8 => (intro w hSw; (try dsimp only at hSw); go_simp <;> with_reducible rfl)
        (try simp only [Act.put, List.setIfInBounds_toArray, List.set_cons_zero, List.set_cons_succ])
        refine wpAnyH_take (i := 10) (oi := ?oiNft42x10) (v := ?vNft42x10) ?hoNft42x10 ?h1Nft42x10 ?h2Nft42x10 ?h3Nft42x10 ?hqNft42x10 (Or.inl ⟨?h4Nft42x10, ?hyNft42x10⟩) (by assumption) ?restNft42x10
        case hoNft42x10 => (simp only [List.getElem?_toArray, List.getElem?_cons_zero, List.getElem?_cons_succ]; rfl)
        case h1Nft42x10 => kernel_rfl
        case h2Nft42x10 => kernel_rfl
        case h3Nft42x10 => kernel_rfl
        case h4Nft42x10 => rfl
        case hqNft42x10 => exact fun _ _ _ h => h
        case hyNft42x10 => (intro w hSw; (try dsimp only at hSw); go_simp <;> with_reducible rfl)
        (try simp only [Act.put, List.setIfInBounds_toArray, List.set_cons_zero, List.set_cons_succ])
        refine wpAnyH_take (i := 11) (oi := ?oiNft44x11) (v := ?vNft44x11) ?hoNft44x11 ?h1Nft44x11 ?h2Nft44x11 ?h3Nft44x11 ?hqNft44x11 (Or.inl ⟨?h4Nft44x11, ?hyNft44x11⟩) (by assumption) ?restNft44x11
        case hoNft44x11 => (simp only [List.getElem?_toArray, List.getElem?_cons_zero, List.getElem?_cons_succ]; rfl)
        case h1Nft44x11 => kernel_rfl
        case h2Nft44x11 => kernel_rfl
        case h3Nft44x11 => kernel_rfl
        case h4Nft44x11 => rfl
        case hqNft44x11 => exact fun _ _ _ h => h
        case hyNft44x11 => (intro w hSw; (try dsimp only at hSw); go_simp <;> with_reducible rfl)
        (try simp only [Act.put, List.setIfInBounds_toArray, List.set_cons_zero, List.set_cons_succ])
        refine wpAnyH_ready (rs := [9]) (by kernel_rfl) (by simp) ?_
        refine AllReadyH.cons (o := ?oiNfq45) ?hoNfq45 (fun K hK => ?restNfq45) ?moreNfq45
        case moreNfq45 => exact AllReadyH.nil
        case hoNfq45 => (simp only [List.getElem?_toArray, List.getElem?_cons_zero, List.getElem?_cons_succ]; rfl)
        go_simp
        refine hnx.mono ?_
        rintro e w7 ⟨rfl, rfl⟩
        try go_wp2_with fail
        refine hK.out _ _ ?hSnewNfhq45 (fun hHeld => ?restNfhq45)
        case hSnewNfhq45 => ((try dsimp only); exact HC.out)
        clear hK K
        (try simp only [Act.put, List.setIfInBounds_toArray, List.set_cons_zero, List.set_cons_succ])
        refine wpAnyH_take (i := 12) (oi := ?oiNft47x12) (v := ?vNft47x12) ?hoNft47x12 ?h1Nft47x12 ?h2Nft47x12 ?h3Nft47x12 ?hqNft47x12 (Or.inl ⟨?h4Nft47x12, ?hyNft47x12⟩) (by assumption) ?restNft47x12
        case hoNft47x12 => (simp only [List.getElem?_toArray, List.getElem?_cons_zero, List.getElem?_cons_succ]; rfl)
        case h1Nft47x12 => kernel_rfl
        case h2Nft47x12 => kernel_rfl
        case h3Nft47x12 => kernel_rfl
        case h4Nft47x12 => rfl
        case hqNft47x12 => exact fun _ _ _ h => h
        case hyNft47x12 => (intro w hSw; (try dsimp only at hSw); go_simp <;> with_reducible rfl)
        (try simp only [Act.put, List.setIfInBounds_toArray, List.set_cons_zero, List.set_cons_succ])
        refine wpAnyH_take (i := 13) (oi := ?oiNft49x13) (v := ?vNft49x13) ?hoNft49x13 ?h1Nft49x13 ?h2Nft49x13 ?h3Nft49x13 ?hqNft49x13 (Or.inl ⟨?h4Nft49x13, ?hyNft49x13⟩) (by assumption) ?restNft49x13
        case hoNft49x13 => (simp only [List.getElem?_toArray, List.getElem?_cons_zero, List.getElem?_cons_succ]; rfl)
        case h1Nft49x13 => kernel_rfl
        case h2Nft49x13 => kernel_rfl
        case h3Nft49x13 => kernel_rfl
        case h4Nft49x13 => rfl
        case hqNft49x13 => exact fun _ _ _ h => h
        case hyNft49x13 => (intro w hSw; (try dsimp only at hSw); go_simp <;> with_reducible rfl)
        (try simp only [Act.put, List.setIfInBounds_toArray, List.set_cons_zero, List.set_cons_succ])
        refine wpAnyH_done (by kernel_rfl) ?_ _
        clear hnx
        have HRd := hid HR.out.drew.now
        have HUd := hid HU.out.drew
        by_cases hfull : np ≤ (N.blk ib).pages.length
        · have hfullI : (np : Int) ≤ ((N.blk ib).pages.length : Int) := by omega
          clear HC hcx hcy zs z1 hUk
          go_wp2
          go_roundw
          case rel => exact ⟨i + 1, best, N, seen, by go_num, rfl, ⟨by omega, by omega, by omega⟩, hsl, Hbs.out.drewN 1, HG.out, HW.out, HRd.out, HUd.out⟩
          case measure => simp [intOf]; omega
        · have hfullI : ((N.blk ib).pages.length : Int) < (np : Int) := by omega
          have zs2 : wr.drew.cell? ⟨gs, s, none⟩ = some (.bool false) := zs
          have zf : wr.drew.frozen? ⟨gs, s, none⟩ = false := Hbs.out.free s
          obtain ⟨w8, hw8⟩ : ∃ W, W = (World.setCell wr ⟨gs, s, none⟩ (.bool true)).drew := ⟨_, rfl⟩
          have Hb2 := hid (show Blk w8 gs ((seen.set s true).map Value.bool).toArray 53 from by
            have := Hbs.out.set s (.bool true)
            rw [hw8, List.map_set]
            simp at this
            exact this)
          have HR2 := hid (show Run (fun _ => False) w2 w8 b N (fun g => g = bu ∨ g = gs) w8 from by rw [hw8]; exact (HR.out.store gs s (.bool true) (.inr rfl)).drew.now)
          have HU2 := hid (show Nums w8 .i64 (some ⟨bu, ou, none⟩) nu (us nb bad) from by rw [hw8]; exact (nums_fr HU.out (fr_set wr gs s (.bool true)) (fun _ a ha e => by injection ha with ha; rw [← ha] at e; exact hbs e)).drew)
          have hcx2 : wr.drew.cell? ⟨bx, ox + i, none⟩ = some (.int .u8 (s : Int)) := hcx
          clear HC hcx hcy zs z1 hUk htm cv1 hyw HR HU Hbs HRd HUd
          go_upto_region 14 with (fail)
          rw [← hw8]
          have hcx3 : w8.cell? ⟨bx, ox + i, none⟩ = some (.int .u8 (s : Int)) := by
            obtain ⟨b9, o9, e9, h9⟩ := (Hx.out.2.below (HB2.out.trans (HR2.out.below.mono HB2.out.size))).at_ i Hyi.out.2
            injection e9 with e9
            injection e9 with e91 e92
            rw [e91, e92, h9, Hs.out]
          have hxs : Nums w8 .u8 (some ⟨bx, ox + i, none⟩) 1 [(s : Int)] := ⟨rfl, by omega, fun j hj => ⟨bx, ox + i, rfl, fun l hl => by
            obtain rfl : l = 0 := by omega
            exact hcx3⟩, fun y hy => by rw [List.mem_singleton.1 hy]; simp [Lit.wf, IntKind.min, IntKind.max, IntKind.signed, IntKind.bits]; omega⟩
          clear hw8
          have cv2 : IntKind.u8.wrap (255 - (s : Int)) = ((255 - s : Nat) : Int) := by rw [IntWalk.u8_in _ (by omega)]; omega
          have cv3 : IntKind.u64.wrap ((255 - s : Nat) : Int) = ((255 - s : Nat) : Int) := IntWalk.u64_in _ (by omega)
          have cv4 : IntKind.u64.wrap (s : Int) = (s : Int) := IntWalk.u64_in _ (by omega)
          have cv5 : IntKind.i64.wrap ((i : Int) + 1) = (i : Int) + 1 := IntWalk.i64_in _ (by omega)
          have him : i < m1 := Hyi.out.2
          have hmc : m1 ≤ c1 := Hx.out.1
          have hmc2 : (i : Int) + 1 ≤ (c1 : Int) := by omega
          have hmc3 : (i : Int) ≤ (i : Int) + 1 := by omega
          have hmc4 : (0 : Int) ≤ (i : Int) := by omega
          have hbd : Below w8.heap.size w8 w8.drew := below_drewN (Below.refl _ _) 1
          have HX := hid (fun (W : World) (hW : Below w8.heap.size w8 W) => (by rw [← hcx3]; exact hW.cell (World.block_lt_of_cell? w8 _ hcx3) : W.cell? ⟨bx, ox + i, none⟩ = some (.int .u8 (s : Int))))
          clear hcx2 zs2 zf
          go_cut [15] (fun q wx => q = .pointer (some ⟨w8.heap.size, 0, none⟩) ∧ Blk wx w8.heap.size #[.int .u8 1, .int .u64 ((255 - s : Nat) : Int), .int .u64 (s : Int), .int .i64 0, .int .i64 (-1), .slice (some ⟨bx, ox + i, none⟩) 1 (c1 - i)] 55 ∧ Below w8.heap.size w8 wx)
          case first =>
            go_region_held3 (fun w' => w'.cell? ⟨bx, ox + i, none⟩ = some (.int .u8 (s : Int)))
              (first | exact HX.out _ hbd | exact HX.out _ (hbd.alloc (Nat.le_refl _) _))
              (fail)
            all_goals
              go_wp2_with fail
              go_meet
              exact ⟨rfl, (Blk.new w8 _ _).drewN 1, ((Below.refl _ _).alloc (Nat.le_refl _) _).drewB 1⟩
          case rest =>
            obtain ⟨rfl, hb9, hB9⟩ := hcut
            obtain ⟨g9, hg9⟩ : ∃ g, w8.heap.size = g := ⟨_, rfl⟩
            rw [hg9] at hb9 ⊢
            have hR9 := (HR2.out.own hB9).less (K' := fun g => g = bu ∨ g = gs ∨ g = g9) (fun g e => by
              rcases e with e | e | e
              · exact .inl (.inl e)
              · exact .inl (.inr e)
              · exact .inr (by rw [e, ← hg9]; exact ⟨Nat.le_refl _, by rw [hg9]; exact hb9.lt⟩))
            have hxs9 := hxs.below hB9
            have hnx2 := next_hale hR9.drew HG.out ib Hib.out.1
            have hokW : (⟨1, 255 - s, s, 0, 0, [(s : Int)]⟩ : Pg).ok := pgW_ok hs255
            have hlay : Calls Try.prog 26 #[.agg #[.int .u8 1, .int .u64 ((255 - s : Nat) : Int), .int .u64 (s : Int), .int .i64 0, .int .i64 (-1), .slice (some ⟨bx, ox + i, none⟩) 1 (c1 - i)]] wc.drew fun e w' => ∃ A' c', e = .returned (.slice A' 96 c') ∧ Nums w' .u8 A' 96 (pgW s).bytes ∧ Below wc.drew.heap.size wc.drew w' := lay_pg ⟨1, 255 - s, s, 0, 0, [(s : Int)]⟩ hokW (-1) rfl (some ⟨bx, ox + i, none⟩) 1 (c1 - i) wc.drew hxs9.drew
            have hbd9 : Below wc.heap.size wc wc.drew := below_drewN (Below.refl _ _) 1
            have HC9 := hid (fun (W : World) (hW : Below wc.heap.size wc W) => (by
              have h9 := hb9.later hW
              exact ⟨h9.cell 0, h9.cell 1, h9.cell 2, h9.cell 3, h9.cell 4, h9.cell 5⟩ : W.cell? ⟨g9, 0, none⟩ = some (.int .u8 1) ∧ W.cell? ⟨g9, 1, none⟩ = some (.int .u64 ((255 - s : Nat) : Int)) ∧ W.cell? ⟨g9, 2, none⟩ = some (.int .u64 (s : Int)) ∧ W.cell? ⟨g9, 3, none⟩ = some (.int .i64 0) ∧ W.cell? ⟨g9, 4, none⟩ = some (.int .i64 (-1)) ∧ W.cell? ⟨g9, 5, none⟩ = some (.slice (some ⟨bx, ox + i, none⟩) 1 (c1 - i))))
            have HPr := hid (fun (W : World) (hW : Below wc.heap.size wc W) (A' : Option Addr) (c' : Nat) (hz' : Nums W .u8 A' 96 (pgW s).bytes) => (program_run (hR9.later hW) HG.out ib Hib.out.1 Hib.out.2.1 (N.blk ib).pages.length rfl (by omega) A' 96 c' _ hz' rfl (Pg.ok.isB hokW) :
              Calls Try.prog 25 #[.pointer (some ⟨b, 0, none⟩), .int .i64 (ib : Int), .int .i64 ((N.blk ib).pages.length : Int), .slice A' 96 c', .int .u64 0] W fun e w' => e = .returned (.int .i64 0) ∧ ∃ N', Run (fun _ => False) w2 w' b N' (fun g => g = bu ∨ g = gs ∨ g = g9) wc ∧ Hale N' nb np bad ∧ ∀ j, (N'.blk j).pages = if j = ib then (N.blk ib).pages ++ [(pgW s).bytes] else (N.blk j).pages))
            have HS12 := hid (fun (W : World) (N2 : NA) (hR : Run (fun _ => False) w2 W b N2 (fun g => g = bu ∨ g = gs ∨ g = g9) wc) => (by
              have h9 := hR.blk (.inr (.inr rfl)) hb9
              exact ⟨h9.cell 0, h9.cell 1, h9.cell 2, h9.cell 3, h9.cell 4, h9.cell 5⟩ : W.cell? ⟨g9, 0, none⟩ = some (.int .u8 1) ∧ W.cell? ⟨g9, 1, none⟩ = some (.int .u64 ((255 - s : Nat) : Int)) ∧ W.cell? ⟨g9, 2, none⟩ = some (.int .u64 (s : Int)) ∧ W.cell? ⟨g9, 3, none⟩ = some (.int .i64 0) ∧ W.cell? ⟨g9, 4, none⟩ = some (.int .i64 (-1)) ∧ W.cell? ⟨g9, 5, none⟩ = some (.slice (some ⟨bx, ox + i, none⟩) 1 (c1 - i))))
            have HUc := hid (HU2.out.below hB9)
            have Hsb := hid (Hb2.out.later hB9)
            clear hR9 hxs9 hxs hokW hB9 hg9 hcx3 HX hbd HU2 HR2 Hb2 hb9
            go_upto_region 15 with (fail)
            refine wp_region_held_drew (S := (fun w' => (w'.cell? ⟨g9, 0, none⟩ = some (.int .u8 1) ∧ w'.cell? ⟨g9, 1, none⟩ = some (.int .u64 ((255 - s : Nat) : Int)) ∧ w'.cell? ⟨g9, 2, none⟩ = some (.int .u64 (s : Int)) ∧ w'.cell? ⟨g9, 3, none⟩ = some (.int .i64 0) ∧ w'.cell? ⟨g9, 4, none⟩ = some (.int .i64 (-1)) ∧ w'.cell? ⟨g9, 5, none⟩ = some (.slice (some ⟨bx, ox + i, none⟩) 1 (c1 - i))))) (by kernel_rfl) ?hSnewNvz (fun hHeld => ?restNvz)
            case hSnewNvz => ((try dsimp only); exact HC9.out _ hbd9)
            refine wpAnyH_take (i := 0) (oi := ?oiNvt51x0) (v := ?vNvt51x0) ?hoNvt51x0 ?h1Nvt51x0 ?h2Nvt51x0 ?h3Nvt51x0 ?hqNvt51x0 (Or.inl ⟨?h4Nvt51x0, ?hyNvt51x0⟩) (by assumption) ?restNvt51x0
            case hoNvt51x0 => (simp only [List.getElem?_toArray, List.getElem?_cons_zero, List.getElem?_cons_succ]; rfl)
            case h1Nvt51x0 => kernel_rfl
            case h2Nvt51x0 => kernel_rfl
            case h3Nvt51x0 => kernel_rfl
            case h4Nvt51x0 => rfl
            case hqNvt51x0 => exact fun _ _ _ h => h
            case hyNvt51x0 => (intro w hSw; (try dsimp only at hSw); go_simp <;> with_reducible rfl)
            (try simp only [Act.put, List.setIfInBounds_toArray, List.set_cons_zero, List.set_cons_succ])
            refine wpAnyH_take (i := 1) (oi := ?oiNvt53x1) (v := ?vNvt53x1) ?hoNvt53x1 ?h1Nvt53x1 ?h2Nvt53x1 ?h3Nvt53x1 ?hqNvt53x1 (Or.inl ⟨?h4Nvt53x1, ?hyNvt53x1⟩) (by assumption) ?restNvt53x1
            case hoNvt53x1 => (simp only [List.getElem?_toArray, List.getElem?_cons_zero, List.getElem?_cons_succ]; rfl)
            case h1Nvt53x1 => kernel_rfl
            case h2Nvt53x1 => kernel_rfl
            case h3Nvt53x1 => kernel_rfl
            case h4Nvt53x1 => rfl
            case hqNvt53x1 => exact fun _ _ _ h => h
            case hyNvt53x1 => (intro w hSw; (try dsimp only at hSw); go_simp <;> with_reducible rfl)
            (try simp only [Act.put, List.setIfInBounds_toArray, List.set_cons_zero, List.set_cons_succ])
            refine wpAnyH_take (i := 2) (oi := ?oiNvt55x2) (v := ?vNvt55x2) ?hoNvt55x2 ?h1Nvt55x2 ?h2Nvt55x2 ?h3Nvt55x2 ?hqNvt55x2 (Or.inl ⟨?h4Nvt55x2, ?hyNvt55x2⟩) (by assumption) ?restNvt55x2
            case hoNvt55x2 => (simp only [List.getElem?_toArray, List.getElem?_cons_zero, List.getElem?_cons_succ]; rfl)
            case h1Nvt55x2 => kernel_rfl
            case h2Nvt55x2 => kernel_rfl
            case h3Nvt55x2 => kernel_rfl
            case h4Nvt55x2 => rfl
            case hqNvt55x2 => exact fun _ _ _ h => h
            case hyNvt55x2 => (intro w hSw; (try dsimp only at hSw); go_simp <;> with_reducible rfl)
            (try simp only [Act.put, List.setIfInBounds_toArray, List.set_cons_zero, List.set_cons_succ])
            refine wpAnyH_take (i := 3) (oi := ?oiNvt57x3) (v := ?vNvt57x3) ?hoNvt57x3 ?h1Nvt57x3 ?h2Nvt57x3 ?h3Nvt57x3 ?hqNvt57x3 (Or.inl ⟨?h4Nvt57x3, ?hyNvt57x3⟩) (by assumption) ?restNvt57x3
            case hoNvt57x3 => (simp only [List.getElem?_toArray, List.getElem?_cons_zero, List.getElem?_cons_succ]; rfl)
            case h1Nvt57x3 => kernel_rfl
            case h2Nvt57x3 => kernel_rfl
            case h3Nvt57x3 => kernel_rfl
            case h4Nvt57x3 => rfl
            case hqNvt57x3 => exact fun _ _ _ h => h
            case hyNvt57x3 => (intro w hSw; (try dsimp only at hSw); go_simp <;> with_reducible rfl)
            (try simp only [Act.put, List.setIfInBounds_toArray, List.set_cons_zero, List.set_cons_succ])
            refine wpAnyH_take (i := 5) (oi := ?oiNvt59x5) (v := ?vNvt59x5) ?hoNvt59x5 ?h1Nvt59x5 ?h2Nvt59x5 ?h3Nvt59x5 ?hqNvt59x5 (Or.inl ⟨?h4Nvt59x5, ?hyNvt59x5⟩) (by assumption) ?restNvt59x5
            case hoNvt59x5 => (simp only [List.getElem?_toArray, List.getElem?_cons_zero, List.getElem?_cons_succ]; rfl)
            case h1Nvt59x5 => kernel_rfl
            case h2Nvt59x5 => kernel_rfl
            case h3Nvt59x5 => kernel_rfl
            case h4Nvt59x5 => rfl
            case hqNvt59x5 => exact fun _ _ _ h => h
            case hyNvt59x5 => (intro w hSw; (try dsimp only at hSw); go_simp <;> with_reducible rfl)
            (try simp only [Act.put, List.setIfInBounds_toArray, List.set_cons_zero, List.set_cons_succ])
            refine wpAnyH_ready (rs := [4]) (by kernel_rfl) (by simp) ?_
            refine AllReadyH.cons (o := ?oiNvq60) ?hoNvq60 (fun K hK => ?restNvq60) ?moreNvq60
            case moreNvq60 => exact AllReadyH.nil
            case hoNvq60 => (simp only [List.getElem?_toArray, List.getElem?_cons_zero, List.getElem?_cons_succ]; rfl)
            go_simp
            refine hnx2.mono ?_
            rintro e w10 ⟨rfl, rfl⟩
            try go_wp2_with fail
            refine hK.out _ _ ?hSnewNvhq60 (fun hHeld => ?restNvhq60)
            case hSnewNvhq60 => ((try dsimp only); exact HC9.out _ hbd9)
            clear hK K
            (try simp only [Act.put, List.setIfInBounds_toArray, List.set_cons_zero, List.set_cons_succ])
            refine wpAnyH_ready (rs := [6]) (by kernel_rfl) (by simp) ?_
            refine AllReadyH.cons (o := ?oiNvq61) ?hoNvq61 (fun K hK => ?restNvq61) ?moreNvq61
            case moreNvq61 => exact AllReadyH.nil
            case hoNvq61 => (simp only [List.getElem?_toArray, List.getElem?_cons_zero, List.getElem?_cons_succ]; rfl)
            go_simp
            refine hlay.mono ?_
            rintro e w11 ⟨A11, c11, rfl, hz11, hB11⟩
            have hB911 := hbd9.trans (hB11.mono hbd9.size)
            have hpr := HPr.out w11 hB911 A11 c11 hz11
            try go_wp2_with fail
            refine hK.out _ _ ?hSnewNvhq61 (fun hHeld => ?restNvhq61)
            case hSnewNvhq61 => ((try dsimp only); exact HC9.out _ hB911)
            clear hK K
            (try simp only [Act.put, List.setIfInBounds_toArray, List.set_cons_zero, List.set_cons_succ])
            refine wpAnyH_ready (rs := [7]) (by kernel_rfl) (by simp) ?_
            refine AllReadyH.cons (o := ?oiNvq62) ?hoNvq62 (fun K hK => ?restNvq62) ?moreNvq62
            case moreNvq62 => exact AllReadyH.nil
            case hoNvq62 => (simp only [List.getElem?_toArray, List.getElem?_cons_zero, List.getElem?_cons_succ]; rfl)
            go_simp
            refine hpr.mono ?_
            rintro e w12 ⟨rfl, N2, hR12, hG12, hP12⟩
            try go_wp2_with fail
            refine hK.out _ _ ?hSnewNvhq62 (fun hHeld => ?restNvhq62)
            case hSnewNvhq62 => ((try dsimp only); exact HS12.out w12 N2 hR12)
            clear hK K
            (try simp only [Act.put, List.setIfInBounds_toArray, List.set_cons_zero, List.set_cons_succ])
            refine wpAnyH_take (i := 8) (oi := ?oiNvt64x8) (v := ?vNvt64x8) ?hoNvt64x8 ?h1Nvt64x8 ?h2Nvt64x8 ?h3Nvt64x8 ?hqNvt64x8 (Or.inl ⟨?h4Nvt64x8, ?hyNvt64x8⟩) (by assumption) ?restNvt64x8
            case hoNvt64x8 => (simp only [List.getElem?_toArray, List.getElem?_cons_zero, List.getElem?_cons_succ]; rfl)
            case h1Nvt64x8 => kernel_rfl
            case h2Nvt64x8 => kernel_rfl
            case h3Nvt64x8 => kernel_rfl
            case h4Nvt64x8 => rfl
            case hqNvt64x8 => exact fun _ _ _ h => h
            case hyNvt64x8 => (intro w hSw; (try dsimp only at hSw); go_simp <;> with_reducible rfl)
            (try simp only [Act.put, List.setIfInBounds_toArray, List.set_cons_zero, List.set_cons_succ])
            refine wpAnyH_done (by kernel_rfl) ?_ _
            clear hnx2 hlay hpr hz11 hB11 hB911 hbd9 HPr HS12 HC9
            have Hb12 := hid (hR12.blk (.inr (.inl rfl)) Hsb.out)
            have hU12 := hR12.nums HUc.out (fun _ a ha => by injection ha with ha; rw [← ha]; exact .inl rfl)
            have HW12 := hid (HW.out.add ib s Hib.out.2.2 hs255 (fun x hx => by have := us_bd hx; omega) hP12)
            have hcx12 : w12.cell? ⟨bx, ox + i, none⟩ = some (.int .u8 (s : Int)) := by
              obtain ⟨b9, o9, e9, h9⟩ := (Hx.out.2.below (HB2.out.trans (hR12.below.mono HB2.out.size))).at_ i Hyi.out.2
              injection e9 with e9
              injection e9 with e91 e92
              rw [e91, e92, h9, Hs.out]
            have HR12 := hid ((hR12.less (K' := fun g => g = bu ∨ g = gs) (fun g e => by
              rcases e with e | e
              · exact .inl e
              · exact .inr (.inl e))).now)
            have HU12 := hid hU12
            have HG12 := hid hG12
            have cv6 : IntKind.i64.wrap (s : Int) = (s : Int) := IntWalk.i64_in _ (by omega)
            have him12 := Hyi.out
            clear hU12 hR12 hP12 hG12 HUc Hsb
            by_cases hbt : best < (s : Int)
            · have HW13 := hid (show WQ N2 (us nb bad) (s : Int) from by have := HW12.out; rw [if_pos hbt] at this; exact this)
              go_wp2
              go_roundw
              case rel => exact ⟨i + 1, (s : Int), N2, seen.set s true, by go_num, rfl, ⟨by omega, by omega, by omega⟩, by rw [List.length_set]; exact hsl, Hb12.out, HG12.out, HW13.out, HR12.out, HU12.out⟩
              case measure => simp [intOf]; omega
            · have HW13 := hid (show WQ N2 (us nb bad) best from by have := HW12.out; rw [if_neg hbt] at this; exact this)
              have hbtI : (s : Int) ≤ best := by omega
              go_wp2
              go_roundw
              case rel => exact ⟨i + 1, best, N2, seen.set s true, by go_num, rfl, ⟨by omega, by omega, by omega⟩, by rw [List.length_set]; exact hsl, Hb12.out, HG12.out, HW13.out, HR12.out, HU12.out⟩
              case measure => simp [intOf]; omega
      · rw [hsb] at zs
        have HC := hid (show wr.cell? ⟨bx, ox + i, none⟩ = some (.int .u8 (s : Int)) ∧ wr.cell? ⟨gs, s, none⟩ = some (.bool true) ∧ wr.cell? ⟨g1, 1, none⟩ = some (.int .i64 (np : Int)) from ⟨hcx, zs, z1⟩)
        clear hnx
        refine wp_region_held_drew (S := (fun w' => w'.cell? ⟨bx, ox + i, none⟩ = some (.int .u8 (s : Int)) ∧ w'.cell? ⟨gs, s, none⟩ = some (.bool true) ∧ w'.cell? ⟨g1, 1, none⟩ = some (.int .i64 (np : Int)))) (by kernel_rfl) ?hSnewNtz (fun hHeld => ?restNtz)
        case hSnewNtz => ((try dsimp only); exact HC.out)
        refine wpAnyH_take (i := 0) (oi := ?oiNtt2x0) (v := ?vNtt2x0) ?hoNtt2x0 ?h1Ntt2x0 ?h2Ntt2x0 ?h3Ntt2x0 ?hqNtt2x0 (Or.inl ⟨?h4Ntt2x0, ?hyNtt2x0⟩) (by assumption) ?restNtt2x0
        case hoNtt2x0 => (simp only [List.getElem?_toArray, List.getElem?_cons_zero, List.getElem?_cons_succ]; rfl)
        case h1Ntt2x0 => kernel_rfl
        case h2Ntt2x0 => kernel_rfl
        case h3Ntt2x0 => kernel_rfl
        case h4Ntt2x0 => rfl
        case hqNtt2x0 => exact fun _ _ _ h => h
        case hyNtt2x0 => (intro w hSw; (try dsimp only at hSw); go_simp <;> with_reducible rfl)
        (try simp only [Act.put, List.setIfInBounds_toArray, List.set_cons_zero, List.set_cons_succ])
        refine wpAnyH_take (i := 1) (oi := ?oiNtt4x1) (v := ?vNtt4x1) ?hoNtt4x1 ?h1Ntt4x1 ?h2Ntt4x1 ?h3Ntt4x1 ?hqNtt4x1 (Or.inl ⟨?h4Ntt4x1, ?hyNtt4x1⟩) (by assumption) ?restNtt4x1
        case hoNtt4x1 => (simp only [List.getElem?_toArray, List.getElem?_cons_zero, List.getElem?_cons_succ]; rfl)
        case h1Ntt4x1 => kernel_rfl
        case h2Ntt4x1 => kernel_rfl
        case h3Ntt4x1 => kernel_rfl
        case h4Ntt4x1 => rfl
        case hqNtt4x1 => exact fun _ _ _ h => h
        case hyNtt4x1 => (intro w hSw; (try dsimp only at hSw); go_simp <;> with_reducible rfl)
        (try simp only [Act.put, List.setIfInBounds_toArray, List.set_cons_zero, List.set_cons_succ])
        refine wpAnyH_take (i := 2) (oi := ?oiNtt6x2) (v := ?vNtt6x2) ?hoNtt6x2 ?h1Ntt6x2 ?h2Ntt6x2 ?h3Ntt6x2 ?hqNtt6x2 (Or.inl ⟨?h4Ntt6x2, ?hyNtt6x2⟩) (by assumption) ?restNtt6x2
        case hoNtt6x2 => (simp only [List.getElem?_toArray, List.getElem?_cons_zero, List.getElem?_cons_succ]; rfl)
        case h1Ntt6x2 => kernel_rfl
        case h2Ntt6x2 => kernel_rfl
        case h3Ntt6x2 => kernel_rfl
        case h4Ntt6x2 => rfl
        case hqNtt6x2 => exact fun _ _ _ h => h
        case hyNtt6x2 => (intro w hSw; (try dsimp only at hSw); go_simp <;> with_reducible rfl)
        (try simp only [Act.put, List.setIfInBounds_toArray, List.set_cons_zero, List.set_cons_succ])
        refine wpAnyH_take (i := 3) (oi := ?oiNtt8x3) (v := ?vNtt8x3) ?hoNtt8x3 ?h1Ntt8x3 ?h2Ntt8x3 ?h3Ntt8x3 ?hqNtt8x3 (Or.inl ⟨?h4Ntt8x3, ?hyNtt8x3⟩) (by assumption) ?restNtt8x3
        case hoNtt8x3 => (simp only [List.getElem?_toArray, List.getElem?_cons_zero, List.getElem?_cons_succ]; rfl)
        case h1Ntt8x3 => kernel_rfl
        case h2Ntt8x3 => kernel_rfl
        case h3Ntt8x3 => kernel_rfl
        case h4Ntt8x3 => rfl
        case hqNtt8x3 => exact fun _ _ _ h => h
        case hyNtt8x3 => (intro w hSw; (try dsimp only at hSw); go_simp <;> with_reducible rfl)
        (try simp only [Act.put, List.setIfInBounds_toArray, List.set_cons_zero, List.set_cons_succ])
        refine wpAnyH_take (i := 4) (oi := ?oiNtt10x4) (v := ?vNtt10x4) ?hoNtt10x4 ?h1Ntt10x4 ?h2Ntt10x4 ?h3Ntt10x4 ?hqNtt10x4 (Or.inl ⟨?h4Ntt10x4, ?hyNtt10x4⟩) (by assumption) ?restNtt10x4
        case hoNtt10x4 => (simp only [List.getElem?_toArray, List.getElem?_cons_zero, List.getElem?_cons_succ]; rfl)
        case h1Ntt10x4 => kernel_rfl
        case h2Ntt10x4 => kernel_rfl
        case h3Ntt10x4 => kernel_rfl
        case h4Ntt10x4 => rfl
        case hqNtt10x4 => exact fun _ _ _ h => h
        case hyNtt10x4 => (intro w hSw; (try dsimp only at hSw); go_simp <;> with_reducible rfl)
        (try simp only [Act.put, List.setIfInBounds_toArray, List.set_cons_zero, List.set_cons_succ])
        refine wpAnyH_take (i := 5) (oi := ?oiNtt12x5) (v := ?vNtt12x5) ?hoNtt12x5 ?h1Ntt12x5 ?h2Ntt12x5 ?h3Ntt12x5 ?hqNtt12x5 (Or.inl ⟨?h4Ntt12x5, ?hyNtt12x5⟩) (by assumption) ?restNtt12x5
        case hoNtt12x5 => (simp only [List.getElem?_toArray, List.getElem?_cons_zero, List.getElem?_cons_succ]; rfl)
        case h1Ntt12x5 => kernel_rfl
        case h2Ntt12x5 => kernel_rfl
        case h3Ntt12x5 => kernel_rfl
        case h4Ntt12x5 => rfl
        case hqNtt12x5 => exact fun _ _ _ h => h
        case hyNtt12x5 => (intro w hSw; (try dsimp only at hSw); go_simp <;> with_reducible rfl)
        (try simp only [Act.put, List.setIfInBounds_toArray, List.set_cons_zero, List.set_cons_succ])
        refine wpAnyH_take (i := 6) (oi := ?oiNtt14x6) (v := ?vNtt14x6) ?hoNtt14x6 ?h1Ntt14x6 ?h2Ntt14x6 ?h3Ntt14x6 ?hqNtt14x6 (Or.inl ⟨?h4Ntt14x6, ?hyNtt14x6⟩) (by assumption) ?restNtt14x6
        case hoNtt14x6 => (simp only [List.getElem?_toArray, List.getElem?_cons_zero, List.getElem?_cons_succ]; rfl)
        case h1Ntt14x6 => kernel_rfl
        case h2Ntt14x6 => kernel_rfl
        case h3Ntt14x6 => kernel_rfl
        case h4Ntt14x6 => rfl
        case hqNtt14x6 => exact fun _ _ _ h => h
        case hyNtt14x6 => (intro w hSw; (try dsimp only at hSw); go_simp <;> with_reducible rfl)
        (try simp only [Act.put, List.setIfInBounds_toArray, List.set_cons_zero, List.set_cons_succ])
        refine wpAnyH_take (i := 7) (oi := ?oiNtt15k7) (v := undef) ?hoNtt15k7 ?h1Ntt15k7 ?h2Ntt15k7 ?h3Ntt15k7 ?hqNtt15k7 (Or.inr ⟨?h4Ntt15k7, rfl⟩) (by assumption) ?restNtt15k7
        case hoNtt15k7 => (simp only [List.getElem?_toArray, List.getElem?_cons_zero, List.getElem?_cons_succ]; rfl)
        case h1Ntt15k7 => kernel_rfl
        case h2Ntt15k7 => kernel_rfl
        case h3Ntt15k7 => kernel_rfl
        case h4Ntt15k7 => rfl
        case hqNtt15k7 => exact fun _ _ _ h => h
        (try simp only [Act.put, List.setIfInBounds_toArray, List.set_cons_zero, List.set_cons_succ])
        refine wpAnyH_take (i := 8) (oi := ?oiNtt16k8) (v := undef) ?hoNtt16k8 ?h1Ntt16k8 ?h2Ntt16k8 ?h3Ntt16k8 ?hqNtt16k8 (Or.inr ⟨?h4Ntt16k8, rfl⟩) (by assumption) ?restNtt16k8
        case hoNtt16k8 => (simp only [List.getElem?_toArray, List.getElem?_cons_zero, List.getElem?_cons_succ]; rfl)
        case h1Ntt16k8 => kernel_rfl
        case h2Ntt16k8 => kernel_rfl
        case h3Ntt16k8 => kernel_rfl
        case h4Ntt16k8 => rfl
        case hqNtt16k8 => exact fun _ _ _ h => h
        (try simp only [Act.put, List.setIfInBounds_toArray, List.set_cons_zero, List.set_cons_succ])
        refine wpAnyH_take (i := 9) (oi := ?oiNtt17k9) (v := undef) ?hoNtt17k9 ?h1Ntt17k9 ?h2Ntt17k9 ?h3Ntt17k9 ?hqNtt17k9 (Or.inr ⟨?h4Ntt17k9, rfl⟩) (by assumption) ?restNtt17k9
        case hoNtt17k9 => (simp only [List.getElem?_toArray, List.getElem?_cons_zero, List.getElem?_cons_succ]; rfl)
        case h1Ntt17k9 => kernel_rfl
        case h2Ntt17k9 => kernel_rfl
        case h3Ntt17k9 => kernel_rfl
        case h4Ntt17k9 => rfl
        case hqNtt17k9 => exact fun _ _ _ h => h
        (try simp only [Act.put, List.setIfInBounds_toArray, List.set_cons_zero, List.set_cons_succ])
        refine wpAnyH_take (i := 10) (oi := ?oiNtt18k10) (v := undef) ?hoNtt18k10 ?h1Ntt18k10 ?h2Ntt18k10 ?h3Ntt18k10 ?hqNtt18k10 (Or.inr ⟨?h4Ntt18k10, rfl⟩) (by assumption) ?restNtt18k10
        case hoNtt18k10 => (simp only [List.getElem?_toArray, List.getElem?_cons_zero, List.getElem?_cons_succ]; rfl)
        case h1Ntt18k10 => kernel_rfl
        case h2Ntt18k10 => kernel_rfl
        case h3Ntt18k10 => kernel_rfl
        case h4Ntt18k10 => rfl
        case hqNtt18k10 => exact fun _ _ _ h => h
        (try simp only [Act.put, List.setIfInBounds_toArray, List.set_cons_zero, List.set_cons_succ])
        refine wpAnyH_take (i := 11) (oi := ?oiNtt19k11) (v := undef) ?hoNtt19k11 ?h1Ntt19k11 ?h2Ntt19k11 ?h3Ntt19k11 ?hqNtt19k11 (Or.inr ⟨?h4Ntt19k11, rfl⟩) (by assumption) ?restNtt19k11
        case hoNtt19k11 => (simp only [List.getElem?_toArray, List.getElem?_cons_zero, List.getElem?_cons_succ]; rfl)
        case h1Ntt19k11 => kernel_rfl
        case h2Ntt19k11 => kernel_rfl
        case h3Ntt19k11 => kernel_rfl
        case h4Ntt19k11 => rfl
        case hqNtt19k11 => exact fun _ _ _ h => h
        (try simp only [Act.put, List.setIfInBounds_toArray, List.set_cons_zero, List.set_cons_succ])
        refine wpAnyH_take (i := 12) (oi := ?oiNtt20k12) (v := undef) ?hoNtt20k12 ?h1Ntt20k12 ?h2Ntt20k12 ?h3Ntt20k12 ?hqNtt20k12 (Or.inr ⟨?h4Ntt20k12, rfl⟩) (by assumption) ?restNtt20k12
        case hoNtt20k12 => (simp only [List.getElem?_toArray, List.getElem?_cons_zero, List.getElem?_cons_succ]; rfl)
        case h1Ntt20k12 => kernel_rfl
        case h2Ntt20k12 => kernel_rfl
        case h3Ntt20k12 => kernel_rfl
        case h4Ntt20k12 => rfl
        case hqNtt20k12 => exact fun _ _ _ h => h
        (try simp only [Act.put, List.setIfInBounds_toArray, List.set_cons_zero, List.set_cons_succ])
        refine wpAnyH_take (i := 13) (oi := ?oiNtt22x13) (v := ?vNtt22x13) ?hoNtt22x13 ?h1Ntt22x13 ?h2Ntt22x13 ?h3Ntt22x13 ?hqNtt22x13 (Or.inl ⟨?h4Ntt22x13, ?hyNtt22x13⟩) (by assumption) ?restNtt22x13
        case hoNtt22x13 => (simp only [List.getElem?_toArray, List.getElem?_cons_zero, List.getElem?_cons_succ]; rfl)
        case h1Ntt22x13 => kernel_rfl
        case h2Ntt22x13 => kernel_rfl
        case h3Ntt22x13 => kernel_rfl
        case h4Ntt22x13 => rfl
        case hqNtt22x13 => exact fun _ _ _ h => h
        case hyNtt22x13 => (intro w hSw; (try dsimp only at hSw); go_simp <;> with_reducible rfl)
        (try simp only [Act.put, List.setIfInBounds_toArray, List.set_cons_zero, List.set_cons_succ])
        refine wpAnyH_done (by kernel_rfl) ?_ _
        have HRd := hid HR.out.drew.now
        have HUd := hid HU.out.drew
        clear HC hcx hcy zs z1 hUk
        go_wp2
        go_roundw
        case rel => exact ⟨i + 1, best, N, seen, by go_num, rfl, ⟨by omega, by omega, by omega⟩, hsl, Hbs.out.drewN 1, HG.out, HW.out, HRd.out, HUd.out⟩
        case measure => simp [intOf]; omega
    · have hex : m1 ≤ i ∨ (i < m1 ∧ m2 ≤ i) ∨ (i < m1 ∧ i < m2 ∧ 12 ≤ i) := by omega
      have hb3 := Hb1.out.later hR.below
      have hal := all_run hR hG Sp A m c (Hg2.out.later hR.below) M0 Hcap.out
      obtain ⟨z0, z1, z2, z3⟩ := geo_four hb3
      have HB3 := hid hR.below
      have HW := hid hW
      clear hR hG hU hbs' hb3 hW hlt
      rcases hex with hx1 | ⟨hx1, hx2⟩ | ⟨hx1, hx2, hx3⟩
      all_goals
        go_wp2_with fail
        refine hal.mono ?_
        rintro e w12 ⟨L, bm, ga, gh, gc, gp, n', spv, at', has, cnt, rfl, hT, hR, hB12⟩
        clear hal
        obtain ⟨f1, f2, f3⟩ := newest_facts HW.out hT
        rw [f1] at hR
        obtain ⟨As, cs, rfl⟩ := own_slice hR.spo
        have hbl := HW.out.1
        have hbh := HW.out.2.1
        generalize seqOf (flatF (us nb bad) L) = sq at *
        have F2 := hid f2
        have F3 := hid f3
        clear f2 f3
        go_upto_region 20 with (fail)
        obtain ⟨g4, hg4⟩ : ∃ g, w12.heap.size = g := ⟨_, rfl⟩
        generalize hw13 : World.alloc w12 _ = w13
        have hB13 : Below w12.heap.size w12 w13 := by rw [← hw13]; exact (Below.refl _ _).alloc (Nat.le_refl _) _
        have hb4 : Blk w13 g4 #[.pointer (some ⟨bm, 0, none⟩), .map (some gp), .int .u64 (sq : Int), .slice As 0 cs] 61 := by rw [← hw13, ← hg4]; exact Blk.new _ _ _
        have hR13 := hR.later hB13
        have hlk := hR13.look_ok 0 (kwf_of (by omega))
        have HB13 := hid (HB2.out.trans ((HB3.out.trans ((hB12.trans (hB13.mono hB12.size)).mono HB3.out.size)).mono HB2.out.size))
        obtain ⟨x0, x1, x2, x3⟩ := geo_four hb4
        rw [hg4]
        clear hw13 hg4 hR hB12 hB13 hT f1 hb4 z0 z1 z2 z3 HB3
        by_cases hbn : best < 0
        · have hpg : pgsF (flatF (us nb bad) L) 0 = none := by unfold pgsF; rw [F2.out hbn]; rfl
          rw [hpg] at hlk
          replace hlk : (Instr.lookup 59 (.map (some gp)) (.int .i64 0) true).run Try.prog w13 = .ok (.tuple #[.agg #[.int .i64 0, .int .i64 0, .int .u8 0, .int .u64 0, .int .u64 0, .int .i64 0, .int .i64 0, .slice none 0 0], .bool false]) w13 := hlk
          have hbnI : ¬ (0 : Int) ≤ best := by omega
          have HBe := hid (HB13.out.trans (((Below.refl w13.heap.size w13).alloc (Nat.le_refl _) (.cells #[.int .i64 0, .int .i64 0, .int .u8 0, .int .u64 0, .int .u64 0, .int .i64 0, .int .i64 0, .slice none 0 0] 67)).mono HB13.out.size))
          clear hpg hR13
          go_wp2
          go_ret
          exact ⟨rfl, HBe.out⟩
        · obtain ⟨fs, y, fy, fym, fyp⟩ := F3.out (by omega)
          have hpg : pgsF (flatF (us nb bad) L) 0 = some (y.2.val y.1) := by unfold pgsF; rw [fy]; rfl
          obtain ⟨bn, rfl⟩ := Int.eq_ofNat_of_zero_le (show 0 ≤ best by omega)
          have hsq : sq = bn := by omega
          subst hsq
          rw [hpg] at hlk
          have hth := (hR13.there y fym).2
          rw [fyp] at hth
          have hn1 : y.2.n = 1 := hth.len.symm
          replace hlk : (Instr.lookup 59 (.map (some gp)) (.int .i64 0) true).run Try.prog w13 = .ok (.tuple #[.agg #[.int .i64 y.1, .int .i64 (y.2.k : Int), .int .u8 1, .int .u64 ((255 - sq : Nat) : Int), .int .u64 (sq : Int), .int .i64 0, .int .i64 (-1), .slice y.2.A 1 y.2.c], .bool true]) w13 := by
            rw [hlk]
            show Result.ok (Value.tuple #[y.2.val y.1, .bool true]) w13 = _
            unfold Fd.val Fd.cells
            rw [fyp, hn1]
            rfl
          rw [hn1] at hth
          obtain ⟨bd, od, hyA, hcd⟩ := hth.at_ 0 (by omega)
          replace hcd : w13.cell? ⟨bd, od, none⟩ = some (.int .u8 (sq : Int)) := hcd
          rw [hyA] at hlk
          have cw1 : IntKind.u64.wrap (sq : Int) = (sq : Int) := IntWalk.u64_in _ (by omega)
          have cw2 : IntKind.u8.wrap (sq : Int) = (sq : Int) := IntWalk.u8_in _ (by omega)
          have HBe := hid (HB13.out.trans (((Below.refl w13.heap.size w13).alloc (Nat.le_refl _) (.cells #[.int .i64 y.1, .int .i64 (y.2.k : Int), .int .u8 1, .int .u64 ((255 - sq : Nat) : Int), .int .u64 (sq : Int), .int .i64 0, .int .i64 (-1), .slice (some ⟨bd, od, none⟩) 1 y.2.c] 67)).mono HB13.out.size))
          clear hpg hR13 hth fs fy fyp hn1 hyA
          go_upto_region 21 with (fail)
          have hBw := (Below.refl w13.heap.size w13).alloc (Nat.le_refl _) (.cells #[.int .i64 y.1, .int .i64 (y.2.k : Int), .int .u8 1, .int .u64 ((255 - sq : Nat) : Int), .int .u64 (sq : Int), .int .i64 0, .int .i64 (-1), .slice (some ⟨bd, od, none⟩) 1 y.2.c] 67)
          have hbf := Blk.new w13 #[.int .i64 y.1, .int .i64 (y.2.k : Int), .int .u8 1, .int .u64 ((255 - sq : Nat) : Int), .int .u64 (sq : Int), .int .i64 0, .int .i64 (-1), .slice (some ⟨bd, od, none⟩) 1 y.2.c] 67
          have hcd' := hcd
          rw [← hBw.cell (World.block_lt_of_cell? w13 _ hcd)] at hcd'
          have x2' := x2
          rw [← hBw.cell (World.block_lt_of_cell? w13 _ x2)] at x2'
          generalize hgf : w13.heap.size = gf at *
          generalize World.alloc w13 _ = w14 at *
          have q4 := hbf.cell 4
          have q7 := hbf.cell 7
          replace q4 : w14.cell? ⟨gf, 4, none⟩ = some (.int .u64 (sq : Int)) := q4
          replace q7 : w14.cell? ⟨gf, 7, none⟩ = some (.slice (some ⟨bd, od, none⟩) 1 y.2.c) := q7
          clear hBw hbf hcd x0 x1 x2 x3 hgf hlk
          go_wp2
          go_ret
          exact ⟨rfl, HBe.out⟩
end Go.Proofs.Ytcfildbgnjhjmaa.Scan
