import Derived.Test.YtcfildbgnjhjmaaScanB
set_option linter.unusedVariables false
set_option linter.unusedSimpArgs false
namespace Go.Proofs.Ytcfildbgnjhjmaa.Scan
open Go.RowKit Go.Proofs.Ytcfildbgnjhjmaa.Kit Go.Proofs.Ytcfildbgnjhjmaa.Oct Go.Proofs.Ytcfildbgnjhjmaa.Sheet Go.Proofs.Ytcfildbgnjhjmaa.Nand Go.Proofs.Ytcfildbgnjhjmaa.Plan Go.Proofs.Ytcfildbgnjhjmaa.Log Go.Proofs.Ytcfildbgnjhjmaa.Pmap Go.Maps

theorem pg_ok {K E S a f : Nat} {ys : List Int} (h : formN K E S a f ys) : (⟨K, E, S, a, f, ys⟩ : Pg).ok := h

theorem foreign_facts {L : Int → List Fd} {N : NA} {M0 k i0 i1 : Nat} {U : List Int} {q : List Int} (hk : k < 65536) (h0 : (i0 : Int) ∈ U) (h1 : (i1 : Int) ∈ U) (hne : i0 ≠ i1) (hU : ∀ x ∈ U, 0 ≤ x) (hq : q.getD 95 0 ≠ 90)
    (hp : ∀ j, (N.blk j).pages = if j = i1 then [(⟨3, 9, 9, 0, 0, []⟩ : Pg).bytes] else if j = i0 then [q, (⟨1, 0, 5, k, 0, []⟩ : Pg).bytes] else []) (hT : Told (M0 : Int) U (fun i => (N.blk i.toNat).pages) L) :
    spoilS U L = (L, []) ∧ seqOf (flatF U L) = (if k ≤ M0 then 5 else 0) ∧ keysN (flatF U L) (M0 + 1) = if k ≤ M0 then 1 else 0 := by
  have hokF : (⟨1, 0, 5, k, 0, []⟩ : Pg).ok := pg_ok ⟨by omega, by omega, by omega, by omega, hk, by omega, by simp, .inl rfl, fun x hx => by cases hx⟩
  have hokC : (⟨3, 9, 9, 0, 0, []⟩ : Pg).ok := pg_ok ⟨by omega, by omega, by omega, by omega, by omega, by omega, by simp, .inr rfl, fun x hx => by cases hx⟩
  have hm : ∀ z ∈ flatF U L, z.2.p = ⟨1, 0, 5, k, 0, []⟩ ∧ k ≤ M0 := fun z hz => by
    obtain ⟨h1', h2'⟩ := flatF_mem.1 hz
    obtain ⟨h3, h4, h5, h6⟩ := hT.mem h1' h2'
    rw [hp] at h3 h4
    split at h3
    · rw [if_pos (by assumption)] at h4
      have e0 : z.2.k = 0 := by simp at h3; exact h3
      rw [e0] at h4
      rw [show ([(⟨3, 9, 9, 0, 0, []⟩ : Pg).bytes] : List (List Int)).getD 0 [] = (⟨3, 9, 9, 0, 0, []⟩ : Pg).bytes from rfl, rdP_yes hokC rfl] at h4
      injection h4 with h4
      rw [← h4] at h5
      exact absurd rfl h5
    · rw [if_neg (by assumption)] at h4
      split at h3
      · rw [if_pos (by assumption)] at h4
        have e0 : z.2.k = 0 ∨ z.2.k = 1 := by simp at h3; omega
        rcases e0 with e0 | e0
        · rw [e0, show ([q, (⟨1, 0, 5, k, 0, []⟩ : Pg).bytes] : List (List Int)).getD 0 [] = q from rfl, rdP_last hq] at h4
          cases h4
        · rw [e0, show ([q, (⟨1, 0, 5, k, 0, []⟩ : Pg).bytes] : List (List Int)).getD 1 [] = (⟨1, 0, 5, k, 0, []⟩ : Pg).bytes from rfl, rdP_yes hokF rfl] at h4
          injection h4 with h4
          refine ⟨h4.symm, ?_⟩
          rw [← h4] at h6
          have h6 : (k : Int) ≤ (M0 : Int) := h6
          omega
      · simp at h3
  refine ⟨spoil_no fun i hi => copied_no fun u hu => by rw [show u.p = _ from (hm (i, u) (flatF_mem.2 ⟨hi, hu⟩)).1], ?_, ?_⟩
  · by_cases hkM : k ≤ M0
    · rw [if_pos hkM]
      obtain ⟨x, hx, -, hxp⟩ := hT.has h0 (k := 1) (p := ⟨1, 0, 5, k, 0, []⟩) (by rw [hp, Int.toNat_natCast, if_neg hne, if_pos rfl]; simp) (by rw [hp, Int.toNat_natCast, if_neg hne, if_pos rfl]; exact rdP_yes hokF rfl) (by show (1 : Nat) ≠ 3; omega) (by show (k : Int) ≤ _; omega)
      exact seq_eq (fun z hz => by rw [(hm z hz).1]; exact Nat.le_refl 5) (.inr ⟨((i0 : Int), x), flatF_mem.2 ⟨h0, hx⟩, by show x.p.S = 5; rw [hxp]⟩)
    · rw [if_neg hkM]
      exact seq_eq (fun z hz => absurd (hm z hz).2 hkM) (.inl rfl)
  · by_cases hkM : k ≤ M0
    · rw [if_pos hkM]
      obtain ⟨x, hx, -, hxp⟩ := hT.has h0 (k := 1) (p := ⟨1, 0, 5, k, 0, []⟩) (by rw [hp, Int.toNat_natCast, if_neg hne, if_pos rfl]; simp) (by rw [hp, Int.toNat_natCast, if_neg hne, if_pos rfl]; exact rdP_yes hokF rfl) (by show (1 : Nat) ≠ 3; omega) (by show (k : Int) ≤ _; omega)
      obtain ⟨y, hy, -⟩ := newest_has (a := (k : Int)) (flatF_mem.2 ⟨h0, hx⟩ : ((i0 : Int), x) ∈ flatF U L) (by show (x.p.a : Int) = k; rw [hxp])
      refine Eq.trans (cnum_congr _ _ _ fun a ha => ?_) (cnum_one (M0 + 1) k (by omega))
      by_cases e : a = k
      · subst e
        show (newest (a : Int) _).isSome = _
        rw [hy]; simp
      · rw [newest_no (fun z hz e' => e (by rw [(hm z hz).1] at e'; have : (k : Int) = a := e'; omega))]
        simp [e]
    · rw [if_neg hkM]
      unfold keysN
      have : ∀ n, cnum (fun a => (newest (a : Int) (flatF U L)).isSome) n = 0 := fun n => by
        induction n with
        | zero => rfl
        | succ n ih =>
          rw [cnum_succ, ih, newest_no (fun z hz => absurd (hm z hz).2 hkM)]
          rfl
      exact this _

set_option maxRecDepth 100000 in
set_option maxHeartbeats 4000000 in
theorem law_foreign (n : Int) (hn : 0 ≤ n ∧ n ≤ 255) (A0 : Option Addr) (m0 c0 : Nat) (xs : List Int) (addr : Int) (ha : 0 ≤ addr ∧ addr ≤ 65535) (w : World) (hz : Nums w .u8 A0 m0 xs) :
    Calls Try.prog 9 #[.int .u8 n, .slice A0 m0 c0, .int .u16 addr] w fun e w' => e = .returned (.bool true) ∧ Below w.heap.size w w' := by
  obtain ⟨n, rfl⟩ := Int.eq_ofNat_of_zero_le hn.1
  obtain ⟨k, rfl⟩ := Int.eq_ofNat_of_zero_le ha.1
  have hn : n < 256 := by omega
  have hk : k < 65536 := by omega
  have hgeo := geometry_any n hn
  obtain ⟨⟨hul, hul7⟩, hcap, hM1, hM60⟩ := geo_more ⟨n, hn⟩
  replace hul : 2 ≤ (us (gB n) (gL n)).length := hul
  replace hul7 : (us (gB n) (gL n)).length ≤ 7 := hul7
  replace hcap : cap (gB n : Int) (gP n : Int) (gS n : Int) (gL n) = (capN n : Int) := hcap
  replace hM1 : 1 ≤ capN n := hM1
  replace hM60 : capN n ≤ 60 := hM60
  have hbad := geo_bad ⟨n, hn⟩
  replace hbad : ∀ x ∈ gL n, 0 ≤ x ∧ x < (gB n : Int) := hbad
  have hgB : 5 ≤ gB n ∧ gB n ≤ 9 := by unfold gB; omega
  have hgP : 2 ≤ gP n ∧ gP n ≤ 5 := by unfold gP; omega
  generalize gB n = nb at *
  generalize gP n = np at *
  generalize gL n = bad at *
  generalize capN n = M0 at *
  generalize ((gS n : Nat) : Int) = Sp at *
  have Hcap := hid hcap
  have Hbad := hid hbad
  clear hcap hbad
  have Hz := hid hz
  clear hz ha
  by_cases hm : 96 < m0
  · have hmI : (96 : Int) < (m0 : Int) := by omega
    go_enter Try.func9, Try.ntmps9
    go_wp2_with fail
    refine (awake_any w).mono ?_
    rintro e w0 ⟨rfl, hB0⟩
    have haw := awake_any w0
    go_wp2_with fail
    refine haw.mono ?_
    rintro e w1 ⟨rfl, hB1⟩
    have HB := hid (hB0.trans (hB1.mono hB0.size))
    clear haw hB0 hB1
    go_wp2
    go_ret
    exact ⟨rfl, HB.out⟩
  have hmI : (m0 : Int) ≤ 96 := by omega
  go_enter Try.func9, Try.ntmps9
  go_wp2_with fail
  refine (awake_any w).mono ?_
  rintro e w0 ⟨rfl, hB0⟩
  have hgeo' := hgeo w0
  clear hgeo
  go_wp2_with fail
  refine hgeo'.mono ?_
  rintro e w1 ⟨A, m, c, rfl, hg1, hB1⟩
  clear hgeo'
  go_upto_region 4 with (fail)
  generalize hw2 : World.alloc w1 _ = w2
  obtain ⟨g1, hg1e⟩ : ∃ g, w1.heap.size = g := ⟨_, rfl⟩
  have hB2 : Below w1.heap.size w1 w2 := by rw [← hw2]; exact (Below.refl _ _).alloc (Nat.le_refl _) _
  have hb1 : Blk w2 g1 #[.int .i64 (nb : Int), .int .i64 (np : Int), .int .i64 Sp, .slice A m c] 50 := by rw [← hw2, ← hg1e]; exact Blk.new _ _ _
  have hg2 := hg1.later hB2
  have hnew := newg_run nb np A m c bad w2 (by omega) (by omega) hg2.nums Hbad.out
  obtain ⟨z0, z1, z2, z3⟩ := geo_four hb1
  rw [hg1e]
  have HB2 := hid (hB0.trans ((hB1.trans (hB2.mono hB1.size)).mono hB0.size))
  have Hb1 := hid hb1
  have Hg2 := hid hg2
  clear hw2 hg1e hB1 hB2 hb1 hg1 hg2 hB0
  go_wp2_with fail
  refine hnew.mono ?_
  rintro e w3 ⟨b, rfl, hR3⟩
  clear hnew z0 z1 z2 z3
  have hb3 := Hb1.out.later hR3.below
  have hg3 := Hg2.out.later hR3.below
  obtain ⟨N0, hN0⟩ : ∃ N, newA nb np bad = N := ⟨_, rfl⟩
  have hG0 := Hale.new nb np bad
  have hP0 : ∀ j, (N0.blk j).pages = [] := fun j => by rw [← hN0]; exact newA_pages nb np bad j
  rw [hN0] at hR3 hG0
  have HG0 := hid hG0
  have HP0 := hid hP0
  clear hN0 hG0 hP0
  obtain ⟨z0, z1, z2, z3⟩ := geo_four hb3
  have hru := rus_any hg3
  have HR3 := hid hR3
  have Hb3 := hid hb3
  have Hg3 := hid hg3
  clear hR3 hb3 hg3
  go_wp2_with fail
  refine hru.mono ?_
  rintro e w4 ⟨U, ud, rfl, hU4, hUl, hB4⟩
  clear hru z0 z1 z2 z3
  obtain ⟨i0, e0, i02, i0n, i0b, i0m⟩ := us_get 0 (show 0 < (us nb bad).length by omega)
  obtain ⟨i1, e1, i12, i1n, i1b, i1m⟩ := us_get 1 (show 1 < (us nb bad).length by omega)
  have i01 : i0 ≠ i1 := fun e => us_ne 0 1 (show 0 < (us nb bad).length by omega) (show 1 < (us nb bad).length by omega) (by decide) (by rw [e0, e1, e])
  obtain ⟨nu, hnu⟩ : ∃ x, (us nb bad).length = x := ⟨_, rfl⟩
  rw [hnu] at hU4 hul hul7
  rw [hnu]
  have hulI : (2 : Int) ≤ (nu : Int) := by omega
  have hul0 : 0 < nu := by omega
  have hul1 : (1 : Int) < (nu : Int) := by omega
  obtain ⟨bu, ou, rfl, -⟩ := hU4.at_ 0 (by omega)
  have hbu := hUl _ rfl
  replace hbu : w3.heap.size ≤ bu := hbu
  have hbu4 : bu < w4.heap.size := by
    obtain ⟨b', o', e', hc'⟩ := hU4.at_ 0 (by omega)
    injection e' with e'
    injection e' with e1' e2'
    have := World.block_lt_of_cell? w4 _ hc'
    rw [e1']
    exact this
  have HU4 := hid hU4
  have HB4 := hid hB4
  have He0 := hid e0
  have He1 := hid e1
  have Hi0 := hid (show i0 < nb ∧ (i0 : Int) ∉ bad ∧ (i0 : Int) ∈ us nb bad from ⟨i0n, i0b, i0m⟩)
  have Hi1 := hid (show i1 < nb ∧ (i1 : Int) ∉ bad ∧ (i1 : Int) ∈ us nb bad from ⟨i1n, i1b, i1m⟩)
  have Hnu := hid hnu
  clear hU4 hB4 hUl e0 e1 hnu i0n i0b i0m i1n i1b i1m i02 i12
  have hmk : ∀ W : World, (Instr.makeSlice 39 (.int .i64 96) (.int .i64 96)).run Try.prog W = .ok (.slice (some ⟨W.heap.size, 0, none⟩) 96 96) (W.alloc (.cells (Array.replicate 96 (.int .u8 0)) 5)) := fun _ => by kernel_rfl
  go_upto_region 7 with (fail)
  clear hmk
  obtain ⟨gq, hgq⟩ : ∃ g, w4.heap.size = g := ⟨_, rfl⟩
  generalize hw5 : World.alloc w4 _ = w5
  have hB45 : Below w4.heap.size w4 w5 := by rw [← hw5]; exact (Below.refl _ _).alloc (Nat.le_refl _) _
  have hq5 : Blk w5 gq ((List.replicate 96 (0 : Int)).map (Value.int .u8)).toArray 5 := by
    rw [← hw5, ← hgq, List.map_replicate]
    exact Blk.new _ _ _
  have hR5 := (HR3.out.own (HB4.out.trans (hB45.mono HB4.out.size))).less (K' := fun g => g = bu ∨ g = gq) (fun g e => by
    have h1 := hq5.lt
    have h2 := hB45.size
    rcases e with e | e
    · exact .inr (by rw [e]; exact ⟨hbu, by omega⟩)
    · exact .inr (by rw [e]; exact ⟨by omega, h1⟩))
  have hU5 := HU4.out.below hB45
  have hbq : bu ≠ gq := by omega
  rw [hgq]
  have HR5 := hid hR5
  have HU5 := hid hU5
  have Hq5 := hid hq5
  clear hw5 hB45 hq5 hR5 hU5 HR3 HB4 HU4 hgq hbu4 hbu
  go_wp2
  go_loopw [12] (fun x w' => ∃ (j : Nat) (ys : List Int), x = .int .i64 (j : Int) ∧ j ≤ m0 ∧ ys.length = 96 ∧ IsB ys ∧ Blk w' gq (ys.map (Value.int .u8)).toArray 5 ∧ Run (fun _ => False) w2 w' b N0 (fun g => g = bu ∨ g = gq) w' ∧ Nums w' .i64 (some ⟨bu, ou, none⟩) nu (us nb bad)) (fun x _ => 97 - (intOf x).toNat)
  case atStart => exact ⟨0, List.replicate 96 0, rfl, by omega, by simp, (fun x hx => by rw [List.eq_of_mem_replicate hx]; decide), Hq5.out, HR5.out, HU5.out⟩
  case round =>
    clear HR5 HU5 Hq5
    obtain ⟨j, ys, rfl, hj, hyl, hyB, hbq', hR, hU⟩ := hrel
    by_cases hlt : j < m0
    · have hltI : (j : Int) < (m0 : Int) := by omega
      obtain ⟨bp, op, rfl, hcp⟩ := (Hz.out.below (HB2.out.trans (hR.below.mono HB2.out.size))).at_ j hlt
      have hxw := wf_u8 (Hz.out.wf_at j hlt)
      generalize xs.getD j 0 = xv at *
      have hcq : wr.cell? ⟨gq, j, none⟩ = some (.int .u8 (ys.getD j 0)) := by
        rw [hbq'.cell, List.getElem?_toArray, List.getElem?_map, List.getElem?_eq_getElem (by omega), List.getD_eq_getElem?_getD, List.getElem?_eq_getElem (by omega)]
        rfl
      have hfq := hbq'.free j
      have Hb2 := hid (show Blk (wr.setCell ⟨gq, j, none⟩ (.int .u8 xv)) gq ((ys.set j xv).map (Value.int .u8)).toArray 5 from by
        have := hbq'.set j (.int .u8 xv)
        rw [List.map_set]
        simpa using this)
      have HR2 := hid (hR.store gq j (.int .u8 xv) (.inr rfl))
      have HU2 := hid (nums_fr hU (fr_set wr gq j (.int .u8 xv)) (fun _ a ha e => by injection ha with ha; rw [← ha] at e; exact hbq e))
      clear hbq' hR hU
      go_wp2
      go_roundw
      case rel => exact ⟨j + 1, ys.set j xv, by go_num, by omega, by rw [List.length_set]; exact hyl, (fun x hx => by
        rcases List.mem_or_eq_of_mem_set hx with h | h
        · exact hyB x h
        · omega), Hb2.out, HR2.out, HU2.out⟩
      case measure => simp [intOf]; omega
    · obtain rfl : j = m0 := by omega
      have hcq : wr.cell? ⟨gq, 95, none⟩ = some (.int .u8 (ys.getD 95 0)) := by
        rw [hbq'.cell, List.getElem?_toArray, List.getElem?_map, List.getElem?_eq_getElem (by omega), List.getD_eq_getElem?_getD, List.getElem?_eq_getElem (by omega)]
        rfl
      have hfq := hbq'.free 95
      have Hb2 := hid (show Blk (wr.setCell ⟨gq, 95, none⟩ (.int .u8 1)) gq ((ys.set 95 1).map (Value.int .u8)).toArray 5 from by
        have := hbq'.set 95 (.int .u8 1)
        rw [List.map_set]
        simpa using this)
      have HR2 := hid (hR.store gq 95 (.int .u8 1) (.inr rfl))
      have HU2 := hid (nums_fr hU (fr_set wr gq 95 (.int .u8 1)) (fun _ a ha e => by injection ha with ha; rw [← ha] at e; exact hbq e))
      have hqB : IsB (ys.set 95 1) := fun x hx => by
        rcases List.mem_or_eq_of_mem_set hx with h | h
        · exact hyB x h
        · rw [h]; decide
      have hq95 : (ys.set 95 1).getD 95 0 ≠ 90 := by
        rw [List.getD_eq_getElem?_getD, List.getElem?_set_self (by omega)]
        decide
      have hql : (ys.set 95 1).length = 96 := by rw [List.length_set]; exact hyl
      have HqB := hid hqB
      have Hq95 := hid hq95
      have Hql := hid hql
      generalize ys.set 95 1 = q at *
      clear hbq' hR hU hqB hq95 hql hyB
      go_upto_region 12 with (fail)
      generalize World.setCell wr _ _ = w6 at *
      have hU0 : w6.cell? ⟨bu, ou, none⟩ = some (.int .i64 (i0 : Int)) := by
        obtain ⟨b', o', e', hc'⟩ := HU2.out.cell 0 (by omega)
        injection e' with e'
        injection e' with e1' e2'
        rw [e1', e2', ← Nat.add_zero o', hc' 0 (by omega), He0.out]
      have hqn : Nums w6 .u8 (some ⟨gq, 0, none⟩) 96 q := nums_lit Hb2.out Hql.out (wf_of HqB.out)
      have hpr : Calls Try.prog 25 #[.pointer (some ⟨b, 0, none⟩), .int .i64 (i0 : Int), .int .i64 0, .slice (some ⟨gq, 0, none⟩) 96 96, .int .u64 0] w6 fun e w' => e = .returned (.int .i64 0) ∧ ∃ N', Run (fun _ => False) w2 w' b N' (fun g => g = bu ∨ g = gq) w6 ∧ Hale N' nb np bad ∧ ∀ j, (N'.blk j).pages = if j = i0 then (N0.blk i0).pages ++ [q] else (N0.blk j).pages :=
        program_run HR2.out HG0.out i0 Hi0.out.1 Hi0.out.2.1 0 (by rw [HP0.out]; rfl) (by omega) (some ⟨gq, 0, none⟩) 96 96 q hqn rfl HqB.out
      have HU0 := hid hU0
      clear hqn
      go_wp2_with fail
      refine hpr.mono ?_
      rintro e w7 ⟨rfl, N1, hR7, hG7, hP7⟩
      clear hpr hU0
      have w62 : IntKind.i64.wrap (k : Int) = (k : Int) := IntWalk.i64_in _ (by omega)
      have HR7 := hid hR7.now
      have HG7 := hid hG7
      have HUr := hid (hR7.nums HU2.out (fun _ a ha => by injection ha with ha; rw [← ha]; exact .inl rfl))
      have hU0 : w7.cell? ⟨bu, ou, none⟩ = some (.int .i64 (i0 : Int)) := by
        obtain ⟨b', o', e', hc'⟩ := HUr.out.cell 0 (by omega)
        injection e' with e'
        injection e' with e1' e2'
        rw [e1', e2', ← Nat.add_zero o', hc' 0 (by omega), He0.out]
      have HP7 := hid (show ∀ j, (N1.blk j).pages = if j = i0 then [q] else [] from fun j => by rw [hP7, HP0.out, HP0.out]; rfl)
      have hokF : (⟨1, 0, 5, k, 0, []⟩ : Pg).ok := pg_ok ⟨by omega, by omega, by omega, by omega, hk, by omega, by simp, .inl rfl, fun x hx => by cases hx⟩
      have hokC : (⟨3, 9, 9, 0, 0, []⟩ : Pg).ok := pg_ok ⟨by omega, by omega, by omega, by omega, by omega, by omega, by simp, .inr rfl, fun x hx => by cases hx⟩
      have hlay1 : ∀ W, Calls Try.prog 26 #[.agg #[.int .u8 1, .int .u64 0, .int .u64 5, .int .i64 (k : Int), .int .i64 (-1), .slice none 0 0]] W fun e w' => ∃ A' c', e = .returned (.slice A' 96 c') ∧ Nums w' .u8 A' 96 (⟨1, 0, 5, k, 0, []⟩ : Pg).bytes ∧ Below W.heap.size W w' := fun W => lay_pg ⟨1, 0, 5, k, 0, []⟩ hokF (-1) rfl none 0 0 W (Nums.none _ _ _)
      have hlay2 : ∀ W, Calls Try.prog 26 #[.agg #[.int .u8 3, .int .u64 9, .int .u64 9, .int .i64 0, .int .i64 (-1), .slice none 0 0]] W fun e w' => ∃ A' c', e = .returned (.slice A' 96 c') ∧ Nums w' .u8 A' 96 (⟨3, 9, 9, 0, 0, []⟩ : Pg).bytes ∧ Below W.heap.size W w' := fun W => lay_pg ⟨3, 9, 9, 0, 0, []⟩ hokC (-1) rfl none 0 0 W (Nums.none _ _ _)
      have HokF := hid hokF
      have HokC := hid hokC
      have hBd : Below w7.heap.size w7 w7.drew := below_drewN (Below.refl _ _) 1
      have HUc := hid (fun (W : World) (N2 : NA) (hR : Run (fun _ => False) w2 W b N2 (fun g => g = bu ∨ g = gq) w7) => (by
        have h1 := hR.nums HUr.out (fun _ a ha => by injection ha with ha; rw [← ha]; exact .inl rfl)
        obtain ⟨b', o', e', hc'⟩ := h1.cell 0 (by omega)
        injection e' with e'
        injection e' with e1' e2'
        rw [e1', e2', ← Nat.add_zero o', hc' 0 (by omega), He0.out] : W.cell? ⟨bu, ou, none⟩ = some (.int .i64 (i0 : Int))))
      have HP2 := hid (fun (W : World) (hW : Below w7.heap.size w7 W) (A' : Option Addr) (c' : Nat) (hz' : Nums W .u8 A' 96 (⟨1, 0, 5, k, 0, []⟩ : Pg).bytes) => (program_run (HR7.out.later hW) HG7.out i0 Hi0.out.1 Hi0.out.2.1 1 (by rw [HP7.out, if_pos rfl]; rfl) (by omega) A' 96 c' _ hz' rfl HokF.out.isB :
        Calls Try.prog 25 #[.pointer (some ⟨b, 0, none⟩), .int .i64 (i0 : Int), .int .i64 1, .slice A' 96 c', .int .u64 0] W fun e w' => e = .returned (.int .i64 0) ∧ ∃ N', Run (fun _ => False) w2 w' b N' (fun g => g = bu ∨ g = gq) w7 ∧ Hale N' nb np bad ∧ ∀ j, (N'.blk j).pages = if j = i0 then (N1.blk i0).pages ++ [(⟨1, 0, 5, k, 0, []⟩ : Pg).bytes] else (N1.blk j).pages))
      have HU0 := hid hU0
      clear hR7 hG7 hP7 hokF hokC
      go_upto_region 14 with (fail)
      refine wp_region_held_drew (S := (fun w' => w'.cell? ⟨bu, ou, none⟩ = some (.int .i64 (i0 : Int)))) (by kernel_rfl) ?hSnewSfz (fun hHeld => ?restSfz)
      case hSnewSfz => ((try dsimp only); exact HU0.out)
      refine wpAnyH_take (i := 0) (oi := ?oiSft2x0) (v := ?vSft2x0) ?hoSft2x0 ?h1Sft2x0 ?h2Sft2x0 ?h3Sft2x0 ?hqSft2x0 (Or.inl ⟨?h4Sft2x0, ?hySft2x0⟩) (by assumption) ?restSft2x0
      case hoSft2x0 => (simp only [List.getElem?_toArray, List.getElem?_cons_zero, List.getElem?_cons_succ]; rfl)
      case h1Sft2x0 => kernel_rfl
      case h2Sft2x0 => kernel_rfl
      case h3Sft2x0 => kernel_rfl
      case h4Sft2x0 => rfl
      case hqSft2x0 => exact fun _ _ _ h => h
      case hySft2x0 => (intro w hSw; (try dsimp only at hSw); go_simp <;> with_reducible rfl)
      (try simp only [Act.put, List.setIfInBounds_toArray, List.set_cons_zero, List.set_cons_succ])
      refine wpAnyH_take (i := 1) (oi := ?oiSft4x1) (v := ?vSft4x1) ?hoSft4x1 ?h1Sft4x1 ?h2Sft4x1 ?h3Sft4x1 ?hqSft4x1 (Or.inl ⟨?h4Sft4x1, ?hySft4x1⟩) (by assumption) ?restSft4x1
      case hoSft4x1 => (simp only [List.getElem?_toArray, List.getElem?_cons_zero, List.getElem?_cons_succ]; rfl)
      case h1Sft4x1 => kernel_rfl
      case h2Sft4x1 => kernel_rfl
      case h3Sft4x1 => kernel_rfl
      case h4Sft4x1 => rfl
      case hqSft4x1 => exact fun _ _ _ h => h
      case hySft4x1 => (intro w hSw; (try dsimp only at hSw); go_simp <;> with_reducible rfl)
      (try simp only [Act.put, List.setIfInBounds_toArray, List.set_cons_zero, List.set_cons_succ])
      refine wpAnyH_take (i := 2) (oi := ?oiSft6x2) (v := ?vSft6x2) ?hoSft6x2 ?h1Sft6x2 ?h2Sft6x2 ?h3Sft6x2 ?hqSft6x2 (Or.inl ⟨?h4Sft6x2, ?hySft6x2⟩) (by assumption) ?restSft6x2
      case hoSft6x2 => (simp only [List.getElem?_toArray, List.getElem?_cons_zero, List.getElem?_cons_succ]; rfl)
      case h1Sft6x2 => kernel_rfl
      case h2Sft6x2 => kernel_rfl
      case h3Sft6x2 => kernel_rfl
      case h4Sft6x2 => rfl
      case hqSft6x2 => exact fun _ _ _ h => h
      case hySft6x2 => (intro w hSw; (try dsimp only at hSw); go_simp <;> with_reducible rfl)
      (try simp only [Act.put, List.setIfInBounds_toArray, List.set_cons_zero, List.set_cons_succ])
      refine wpAnyH_take (i := 3) (oi := ?oiSft8x3) (v := ?vSft8x3) ?hoSft8x3 ?h1Sft8x3 ?h2Sft8x3 ?h3Sft8x3 ?hqSft8x3 (Or.inl ⟨?h4Sft8x3, ?hySft8x3⟩) (by assumption) ?restSft8x3
      case hoSft8x3 => (simp only [List.getElem?_toArray, List.getElem?_cons_zero, List.getElem?_cons_succ]; rfl)
      case h1Sft8x3 => kernel_rfl
      case h2Sft8x3 => kernel_rfl
      case h3Sft8x3 => kernel_rfl
      case h4Sft8x3 => rfl
      case hqSft8x3 => exact fun _ _ _ h => h
      case hySft8x3 => (intro w hSw; (try dsimp only at hSw); go_simp <;> with_reducible rfl)
      (try simp only [Act.put, List.setIfInBounds_toArray, List.set_cons_zero, List.set_cons_succ])
      refine wpAnyH_take (i := 4) (oi := ?oiSft10x4) (v := ?vSft10x4) ?hoSft10x4 ?h1Sft10x4 ?h2Sft10x4 ?h3Sft10x4 ?hqSft10x4 (Or.inl ⟨?h4Sft10x4, ?hySft10x4⟩) (by assumption) ?restSft10x4
      case hoSft10x4 => (simp only [List.getElem?_toArray, List.getElem?_cons_zero, List.getElem?_cons_succ]; rfl)
      case h1Sft10x4 => kernel_rfl
      case h2Sft10x4 => kernel_rfl
      case h3Sft10x4 => kernel_rfl
      case h4Sft10x4 => rfl
      case hqSft10x4 => exact fun _ _ _ h => h
      case hySft10x4 => (intro w hSw; (try dsimp only at hSw); go_simp <;> with_reducible rfl)
      (try simp only [Act.put, List.setIfInBounds_toArray, List.set_cons_zero, List.set_cons_succ])
      refine wpAnyH_take (i := 5) (oi := ?oiSft12x5) (v := ?vSft12x5) ?hoSft12x5 ?h1Sft12x5 ?h2Sft12x5 ?h3Sft12x5 ?hqSft12x5 (Or.inl ⟨?h4Sft12x5, ?hySft12x5⟩) (by assumption) ?restSft12x5
      case hoSft12x5 => (simp only [List.getElem?_toArray, List.getElem?_cons_zero, List.getElem?_cons_succ]; rfl)
      case h1Sft12x5 => kernel_rfl
      case h2Sft12x5 => kernel_rfl
      case h3Sft12x5 => kernel_rfl
      case h4Sft12x5 => rfl
      case hqSft12x5 => exact fun _ _ _ h => h
      case hySft12x5 => (intro w hSw; (try dsimp only at hSw); go_simp <;> with_reducible rfl)
      (try simp only [Act.put, List.setIfInBounds_toArray, List.set_cons_zero, List.set_cons_succ])
      refine wpAnyH_ready (rs := [6]) (by kernel_rfl) (by simp) ?_
      refine AllReadyH.cons (o := ?oiSfq13) ?hoSfq13 (fun K hK => ?restSfq13) ?moreSfq13
      case moreSfq13 => exact AllReadyH.nil
      case hoSfq13 => (simp only [List.getElem?_toArray, List.getElem?_cons_zero, List.getElem?_cons_succ]; rfl)
      go_simp
      refine (hlay1 _).mono ?_
      rintro e w8 ⟨A8, c8, rfl, hz8, hB8⟩
      have hB78 := hBd.trans (hB8.mono hBd.size)
      have hU8 : w8.cell? ⟨bu, ou, none⟩ = some (.int .i64 (i0 : Int)) := by rw [← HU0.out]; exact hB78.cell (World.block_lt_of_cell? w7 _ HU0.out)
      have hpr2 := HP2.out w8 hB78 A8 c8 hz8
      try go_wp2_with fail
      refine hK.out _ _ ?hSnewSfhq13 (fun hHeld => ?restSfhq13)
      case hSnewSfhq13 => ((try dsimp only); exact hU8)
      clear hK K
      (try simp only [Act.put, List.setIfInBounds_toArray, List.set_cons_zero, List.set_cons_succ])
      refine wpAnyH_ready (rs := [7]) (by kernel_rfl) (by simp) ?_
      refine AllReadyH.cons (o := ?oiSfq14) ?hoSfq14 (fun K hK => ?restSfq14) ?moreSfq14
      case moreSfq14 => exact AllReadyH.nil
      case hoSfq14 => (simp only [List.getElem?_toArray, List.getElem?_cons_zero, List.getElem?_cons_succ]; rfl)
      go_simp
      refine hpr2.mono ?_
      rintro e w9 ⟨rfl, N2, hR9, hG9, hP9⟩
      have hU9 : w9.cell? ⟨bu, ou, none⟩ = some (.int .i64 (i0 : Int)) := HUc.out w9 N2 hR9
      try go_wp2_with fail
      refine hK.out _ _ ?hSnewSfhq14 (fun hHeld => ?restSfhq14)
      case hSnewSfhq14 => ((try dsimp only); exact hU9)
      clear hK K
      (try simp only [Act.put, List.setIfInBounds_toArray, List.set_cons_zero, List.set_cons_succ])
      refine wpAnyH_done (by kernel_rfl) ?_ _
      clear HP2 HUc hpr2 hz8 hB8 hU8 hlay1 hBd w62
      have HR9 := hid hR9.now
      have HG9 := hid hG9
      have HUs := hid (hR9.nums HUr.out (fun _ a ha => by injection ha with ha; rw [← ha]; exact .inl rfl))
      have hU1 : w9.cell? ⟨bu, ou + 1, none⟩ = some (.int .i64 (i1 : Int)) := by
        obtain ⟨b', o', e', hc'⟩ := HUs.out.cell 1 (by omega)
        injection e' with e'
        injection e' with e1' e2'
        rw [e1', e2', hc' 1 (by omega), He1.out]
      have HP9 := hid (show ∀ j, (N2.blk j).pages = if j = i0 then [q, (⟨1, 0, 5, k, 0, []⟩ : Pg).bytes] else [] from fun j => by
        rw [hP9]
        by_cases e : j = i0
        · rw [if_pos e, if_pos e, HP7.out, if_pos rfl]; rfl
        · rw [if_neg e, if_neg e, HP7.out, if_neg e])
      have hBd9 : Below w9.heap.size w9 w9.drew := below_drewN (Below.refl _ _) 1
      have HUd := hid (fun (W : World) (N2 : NA) (hR : Run (fun _ => False) w2 W b N2 (fun g => g = bu ∨ g = gq) w9) => (by
        have h1 := hR.nums HUs.out (fun _ a ha => by injection ha with ha; rw [← ha]; exact .inl rfl)
        obtain ⟨b', o', e', hc'⟩ := h1.cell 1 (by omega)
        injection e' with e'
        injection e' with e1' e2'
        rw [e1', e2', hc' 1 (by omega), He1.out] : W.cell? ⟨bu, ou + 1, none⟩ = some (.int .i64 (i1 : Int))))
      have HP3 := hid (fun (W : World) (hW : Below w9.heap.size w9 W) (A' : Option Addr) (c' : Nat) (hz' : Nums W .u8 A' 96 (⟨3, 9, 9, 0, 0, []⟩ : Pg).bytes) => (program_run (HR9.out.later hW) HG9.out i1 Hi1.out.1 Hi1.out.2.1 0 (by rw [HP9.out, if_neg (fun e => i01 e.symm)]; rfl) (by omega) A' 96 c' _ hz' rfl HokC.out.isB :
        Calls Try.prog 25 #[.pointer (some ⟨b, 0, none⟩), .int .i64 (i1 : Int), .int .i64 0, .slice A' 96 c', .int .u64 0] W fun e w' => e = .returned (.int .i64 0) ∧ ∃ N', Run (fun _ => False) w2 w' b N' (fun g => g = bu ∨ g = gq) w9 ∧ Hale N' nb np bad ∧ ∀ j, (N'.blk j).pages = if j = i1 then (N2.blk i1).pages ++ [(⟨3, 9, 9, 0, 0, []⟩ : Pg).bytes] else (N2.blk j).pages))
      have HU1 := hid hU1
      clear hR9 hG9 hP9 hU9 hU1 HR7 HG7 HUr hU0 HU0 HP7
      go_upto_region 15 with (fail)
      refine wp_region_held_drew (S := (fun w' => w'.cell? ⟨bu, ou + 1, none⟩ = some (.int .i64 (i1 : Int)))) (by kernel_rfl) ?hSnewSgz (fun hHeld => ?restSgz)
      case hSnewSgz => ((try dsimp only); exact HU1.out)
      refine wpAnyH_take (i := 0) (oi := ?oiSgt16x0) (v := ?vSgt16x0) ?hoSgt16x0 ?h1Sgt16x0 ?h2Sgt16x0 ?h3Sgt16x0 ?hqSgt16x0 (Or.inl ⟨?h4Sgt16x0, ?hySgt16x0⟩) (by assumption) ?restSgt16x0
      case hoSgt16x0 => (simp only [List.getElem?_toArray, List.getElem?_cons_zero, List.getElem?_cons_succ]; rfl)
      case h1Sgt16x0 => kernel_rfl
      case h2Sgt16x0 => kernel_rfl
      case h3Sgt16x0 => kernel_rfl
      case h4Sgt16x0 => rfl
      case hqSgt16x0 => exact fun _ _ _ h => h
      case hySgt16x0 => (intro w hSw; (try dsimp only at hSw); go_simp <;> with_reducible rfl)
      (try simp only [Act.put, List.setIfInBounds_toArray, List.set_cons_zero, List.set_cons_succ])
      refine wpAnyH_take (i := 1) (oi := ?oiSgt18x1) (v := ?vSgt18x1) ?hoSgt18x1 ?h1Sgt18x1 ?h2Sgt18x1 ?h3Sgt18x1 ?hqSgt18x1 (Or.inl ⟨?h4Sgt18x1, ?hySgt18x1⟩) (by assumption) ?restSgt18x1
      case hoSgt18x1 => (simp only [List.getElem?_toArray, List.getElem?_cons_zero, List.getElem?_cons_succ]; rfl)
      case h1Sgt18x1 => kernel_rfl
      case h2Sgt18x1 => kernel_rfl
      case h3Sgt18x1 => kernel_rfl
      case h4Sgt18x1 => rfl
      case hqSgt18x1 => exact fun _ _ _ h => h
      case hySgt18x1 => (intro w hSw; (try dsimp only at hSw); go_simp <;> with_reducible rfl)
      (try simp only [Act.put, List.setIfInBounds_toArray, List.set_cons_zero, List.set_cons_succ])
      refine wpAnyH_take (i := 2) (oi := ?oiSgt20x2) (v := ?vSgt20x2) ?hoSgt20x2 ?h1Sgt20x2 ?h2Sgt20x2 ?h3Sgt20x2 ?hqSgt20x2 (Or.inl ⟨?h4Sgt20x2, ?hySgt20x2⟩) (by assumption) ?restSgt20x2
      case hoSgt20x2 => (simp only [List.getElem?_toArray, List.getElem?_cons_zero, List.getElem?_cons_succ]; rfl)
      case h1Sgt20x2 => kernel_rfl
      case h2Sgt20x2 => kernel_rfl
      case h3Sgt20x2 => kernel_rfl
      case h4Sgt20x2 => rfl
      case hqSgt20x2 => exact fun _ _ _ h => h
      case hySgt20x2 => (intro w hSw; (try dsimp only at hSw); go_simp <;> with_reducible rfl)
      (try simp only [Act.put, List.setIfInBounds_toArray, List.set_cons_zero, List.set_cons_succ])
      refine wpAnyH_take (i := 3) (oi := ?oiSgt22x3) (v := ?vSgt22x3) ?hoSgt22x3 ?h1Sgt22x3 ?h2Sgt22x3 ?h3Sgt22x3 ?hqSgt22x3 (Or.inl ⟨?h4Sgt22x3, ?hySgt22x3⟩) (by assumption) ?restSgt22x3
      case hoSgt22x3 => (simp only [List.getElem?_toArray, List.getElem?_cons_zero, List.getElem?_cons_succ]; rfl)
      case h1Sgt22x3 => kernel_rfl
      case h2Sgt22x3 => kernel_rfl
      case h3Sgt22x3 => kernel_rfl
      case h4Sgt22x3 => rfl
      case hqSgt22x3 => exact fun _ _ _ h => h
      case hySgt22x3 => (intro w hSw; (try dsimp only at hSw); go_simp <;> with_reducible rfl)
      (try simp only [Act.put, List.setIfInBounds_toArray, List.set_cons_zero, List.set_cons_succ])
      refine wpAnyH_take (i := 4) (oi := ?oiSgt24x4) (v := ?vSgt24x4) ?hoSgt24x4 ?h1Sgt24x4 ?h2Sgt24x4 ?h3Sgt24x4 ?hqSgt24x4 (Or.inl ⟨?h4Sgt24x4, ?hySgt24x4⟩) (by assumption) ?restSgt24x4
      case hoSgt24x4 => (simp only [List.getElem?_toArray, List.getElem?_cons_zero, List.getElem?_cons_succ]; rfl)
      case h1Sgt24x4 => kernel_rfl
      case h2Sgt24x4 => kernel_rfl
      case h3Sgt24x4 => kernel_rfl
      case h4Sgt24x4 => rfl
      case hqSgt24x4 => exact fun _ _ _ h => h
      case hySgt24x4 => (intro w hSw; (try dsimp only at hSw); go_simp <;> with_reducible rfl)
      (try simp only [Act.put, List.setIfInBounds_toArray, List.set_cons_zero, List.set_cons_succ])
      refine wpAnyH_ready (rs := [5]) (by kernel_rfl) (by simp) ?_
      refine AllReadyH.cons (o := ?oiSgq25) ?hoSgq25 (fun K hK => ?restSgq25) ?moreSgq25
      case moreSgq25 => exact AllReadyH.nil
      case hoSgq25 => (simp only [List.getElem?_toArray, List.getElem?_cons_zero, List.getElem?_cons_succ]; rfl)
      go_simp
      refine (hlay2 _).mono ?_
      rintro e w10 ⟨A10, c10, rfl, hz10, hB10⟩
      have hB910 := hBd9.trans (hB10.mono hBd9.size)
      have hU10 : w10.cell? ⟨bu, ou + 1, none⟩ = some (.int .i64 (i1 : Int)) := by rw [← HU1.out]; exact hB910.cell (World.block_lt_of_cell? w9 _ HU1.out)
      have hpr3 := HP3.out w10 hB910 A10 c10 hz10
      try go_wp2_with fail
      refine hK.out _ _ ?hSnewSghq25 (fun hHeld => ?restSghq25)
      case hSnewSghq25 => ((try dsimp only); exact hU10)
      clear hK K
      (try simp only [Act.put, List.setIfInBounds_toArray, List.set_cons_zero, List.set_cons_succ])
      refine wpAnyH_ready (rs := [6]) (by kernel_rfl) (by simp) ?_
      refine AllReadyH.cons (o := ?oiSgq26) ?hoSgq26 (fun K hK => ?restSgq26) ?moreSgq26
      case moreSgq26 => exact AllReadyH.nil
      case hoSgq26 => (simp only [List.getElem?_toArray, List.getElem?_cons_zero, List.getElem?_cons_succ]; rfl)
      go_simp
      refine hpr3.mono ?_
      rintro e w11 ⟨rfl, N3, hR11, hG11, hP11⟩
      have hU11 : w11.cell? ⟨bu, ou + 1, none⟩ = some (.int .i64 (i1 : Int)) := HUd.out w11 N3 hR11
      try go_wp2_with fail
      refine hK.out _ _ ?hSnewSghq26 (fun hHeld => ?restSghq26)
      case hSnewSghq26 => ((try dsimp only); exact hU11)
      clear hK K
      (try simp only [Act.put, List.setIfInBounds_toArray, List.set_cons_zero, List.set_cons_succ])
      refine wpAnyH_done (by kernel_rfl) ?_ _
      clear HP3 HUd hpr3 hz10 hB10 hU10 hlay2 hBd9
      have hPP : ∀ j, (N3.blk j).pages = if j = i1 then [(⟨3, 9, 9, 0, 0, []⟩ : Pg).bytes] else if j = i0 then [q, (⟨1, 0, 5, k, 0, []⟩ : Pg).bytes] else [] := fun j => by
        rw [hP11]
        by_cases e : j = i1
        · rw [if_pos e, if_pos e, HP9.out, if_neg (fun x => i01 x.symm)]; rfl
        · rw [if_neg e, if_neg e, HP9.out]
      have hb11 := Hb1.out.later hR11.below
      have hg11 := Hg2.out.later hR11.below
      have hB11 := hR11.below
      have hal := all_run hR11 hG11 Sp A m c hg11 M0 Hcap.out
      obtain ⟨z0, z1, z2, z3⟩ := geo_four hb11
      have HPP := hid hPP
      have Hb11 := hid hb11
      have Hg11 := hid hg11
      have HB11 := hid hB11
      clear hPP hP11 hG11 hR11 hb11 hg11 hB11 hU11 HR9 HG9 HUs HU1 HP9
      go_wp2_with fail
      refine hal.mono ?_
      rintro e w12 ⟨L, bm, ga, gh, gc, gp, n', spv, at', has, cnt, rfl, hT, hR, hB12⟩
      clear hal
      obtain ⟨f1, f2, f3⟩ := foreign_facts hk Hi0.out.2.2 Hi1.out.2.2 i01 (fun x hx => by have := us_bd hx; omega) Hq95.out HPP.out hT
      rw [f2]
      rw [f1] at hR
      generalize hsq : (if k ≤ M0 then 5 else 0 : Nat) = sq at f2 ⊢
      have Hsq := hid hsq
      clear hsq
      obtain ⟨As, cs, rfl⟩ := own_slice hR.spo
      go_upto_region 17 with (fail)
      obtain ⟨g4, hg4⟩ : ∃ g, w12.heap.size = g := ⟨_, rfl⟩
      generalize hw13 : World.alloc w12 _ = w13
      have hB13 : Below w12.heap.size w12 w13 := by rw [← hw13]; exact (Below.refl _ _).alloc (Nat.le_refl _) _
      have hb4 : Blk w13 g4 #[.pointer (some ⟨bm, 0, none⟩), .map (some gp), .int .u64 (sq : Int), .slice As 0 cs] 61 := by rw [← hw13, ← hg4]; exact Blk.new _ _ _
      have hB1113 := hB12.trans (hB13.mono hB12.size)
      have hrc := rcap_geo (Hg11.out.later hB1113)
      rw [Hcap.out] at hrc
      obtain ⟨y0, y1, y2, y3⟩ := geo_four (Hb11.out.later hB1113)
      have HR13 := hid (hR.later hB13)
      have Hb4 := hid hb4
      have HB13 := hid (HB2.out.trans ((HB11.out.trans (hB1113.mono HB11.out.size)).mono HB2.out.size))
      rw [hg4]
      clear hw13 hg4 hR hB12 hB13 hB1113 hT f1 f2 hb4 z0 z1 z2 z3
      go_wp2_with fail
      refine hrc.mono ?_
      rintro e w14 ⟨rfl, hB14⟩
      clear hrc y0 y1 y2 y3
      have hR14 := HR13.out.later hB14
      have hll : (Builtin.len_ #[59] 3 #[.map (some gp)]).run Try.prog w14 = .ok (.int .i64 ((if k ≤ M0 then 1 else 0 : Nat) : Int)) w14 := by have := hR14.plen 3; rw [f3] at this; exact this
      obtain ⟨x0, x1, x2, x3⟩ := geo_four (Hb4.out.later hB14)
      have HB14 := hid (HB13.out.trans (hB14.mono HB13.out.size))
      clear hR14 f3 hB14
      by_cases hkM : k ≤ M0
      · have hkI : (k : Int) ≤ (M0 : Int) := by omega
        have hsq := Hsq.out
        rw [if_pos hkM] at hll hsq
        rw [← hsq] at x2
        clear hsq
        replace hll : (Builtin.len_ #[59] 3 #[.map (some gp)]).run Try.prog w14 = .ok (.int .i64 1) w14 := hll
        replace x2 : w14.cell? ⟨g4, 2, none⟩ = some (.int .u64 5) := x2
        go_wp2
        go_ret
        exact ⟨rfl, HB14.out⟩
      · have hkI : (M0 : Int) < (k : Int) := by omega
        have hsq := Hsq.out
        rw [if_neg hkM] at hll hsq
        rw [← hsq] at x2
        clear hsq
        replace hll : (Builtin.len_ #[59] 3 #[.map (some gp)]).run Try.prog w14 = .ok (.int .i64 0) w14 := hll
        replace x2 : w14.cell? ⟨g4, 2, none⟩ = some (.int .u64 0) := x2
        go_wp2
        go_ret
        exact ⟨rfl, HB14.out⟩
end Go.Proofs.Ytcfildbgnjhjmaa.Scan
