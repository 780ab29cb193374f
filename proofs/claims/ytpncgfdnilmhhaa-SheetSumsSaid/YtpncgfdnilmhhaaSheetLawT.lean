import Derived.Test.YtpncgfdnilmhhaaSheetNear
import Derived.Test.YtpncgfdnilmhhaaSheetAwake
import Derived.Test.YtpncgfdnilmhhaaSheetSame
import Derived.Test.YtpncgfdnilmhhaaSheetRead
import Derived.Test.YtpncgfdnilmhhaaSheetRefRd
import Derived.BigRegion
import Derived.StillTailTactics
set_option linter.unusedVariables false
set_option linter.unusedSimpArgs false
namespace Go.Proofs.Ytpncgfdnilmhhaa.Sheet
open Go.RowKit Go.Proofs.Ytpncgfdnilmhhaa.Kit Go.Proofs.Ytpncgfdnilmhhaa.Oct

theorem bits_xor8 (a b : Nat) (ha : a < 2 ^ 8) (hb : b < 2 ^ 8) : bits .xor .u8 (a : Int) (b : Int) = ((a ^^^ b : Nat) : Int) := by
  have hx := Nat.xor_lt_two_pow ha hb
  show IntKind.u8.wrap (((BitVec.ofInt 8 (a : Int) ^^^ BitVec.ofInt 8 (b : Int)).toNat : Nat) : Int) = _
  rw [BitVec.toNat_xor, BitVec.ofInt_natCast, BitVec.ofInt_natCast, BitVec.toNat_ofNat, BitVec.toNat_ofNat, Nat.mod_eq_of_lt ha, Nat.mod_eq_of_lt hb, IntKind.wrap_u8]
  omega
theorem turn_bits (x : Int) (hx : 0 ≤ x ∧ x ≤ 255) (r : Nat) (hr : r < 8) :
    bits .xor .u8 x ((2 : Int) ^ r % 256) = ((x.toNat ^^^ 2 ^ r : Nat) : Int) := by
  have h1 : 2 ^ r < 2 ^ 8 := Nat.pow_lt_pow_right (by decide) hr
  have hw : (2 : Int) ^ r % 256 = ((2 ^ r : Nat) : Int) := by
    have e : (2 : Int) ^ r = ((2 ^ r : Nat) : Int) := by rw [Int.natCast_pow]; rfl
    rw [e]
    generalize 2 ^ r = y at *
    omega
  rw [hw]
  obtain ⟨x, rfl⟩ := Int.eq_ofNat_of_zero_le hx.1
  exact bits_xor8 x _ (by omega) h1
theorem own_free {w : World} {base n c g : Nat} {e : TypeId} {xs : List Value} (h : w.ownsRow base e 1 (.slice (some ⟨g, 0, none⟩) n c) n xs) : base ≤ g ∧ ∀ i, w.frozen? ⟨g, i, none⟩ = false := by
  rcases h.2 with ⟨e1, _⟩ | ⟨g', cap, cur, e1, hg, hh, _⟩
  · cases e1
  · injection e1 with e1 _ e2
    injection e1 with e1
    injection e1 with e1
    subst e1
    exact ⟨hg, fun i => by simp [World.frozen?, hh]⟩
theorem told_not {W : World} {xs : List Int} {v : Value} {k : Int} (h : Told W xs v k) (hn : ¬ IsPage xs) : k = code xs ∧ v = .agg #[.int .u8 0, .int .u64 0, .int .u64 0, .int .i64 0, .int .i64 0, .slice none 0 0] := by
  rcases h with ⟨K, E, S, a, f, A, n, c, ys, _, _, hf, _, he⟩ | ⟨_, h1, h2⟩
  · exact absurd ⟨K, E, S, a, f, ys, hf, he⟩ hn
  · exact ⟨h1, h2⟩
theorem code_last {xs : List Int} (h : xs.length ≠ 96 ∨ xs.getD 95 0 ≠ 90) : code xs = 3 := by
  unfold code
  rw [if_neg]
  rintro ⟨h1, h2, _⟩
  rcases h with h | h
  · exact h h1
  · exact h h2

set_option maxRecDepth 100000 in
set_option maxHeartbeats 4000000 in
theorem law_torn (K1 E1 S1 a1 F1 : Int) (A1 : Option Addr) (n1 c1 : Nat) (xs1 : List Int) (hK1 : 0 ≤ K1 ∧ K1 ≤ 255) (hE1 : 0 ≤ E1 ∧ E1 ≤ 18446744073709551615) (hS1 : 0 ≤ S1 ∧ S1 ≤ 18446744073709551615) (cu : Int) (hcu : 0 ≤ cu ∧ cu ≤ 255) (bi : Int) (hbi : 0 ≤ bi ∧ bi ≤ 65535) (w : World) (hz1 : Nums w .u8 A1 n1 xs1) :
    Calls Try.prog 7 #[.agg #[.int .u8 K1, .int .u64 E1, .int .u64 S1, .int .i64 a1, .int .i64 F1, .slice A1 n1 c1], .int .u8 cu, .int .u16 bi] w fun e w' => e = .returned (.bool true) ∧ Below w.heap.size w w' := by
  obtain ⟨q0, q1⟩ := hcu
  obtain ⟨b0, b1⟩ := hbi
  obtain ⟨q, rfl⟩ := Int.eq_ofNat_of_zero_le q0
  obtain ⟨bn, rfl⟩ := Int.eq_ofNat_of_zero_le b0
  have G1 := fun W (h : Nums W .u8 A1 n1 xs1) => near_any K1 E1 S1 a1 F1 A1 n1 c1 xs1 W hK1 hE1 hS1 h
  clear hK1 hE1 hS1
  go_enter Try.func7, Try.ntmps7
  go_upto_region 1 with (fail)
  obtain ⟨w2, hw2⟩ : ∃ w2, w2 = (w.alloc (.cells #[.int .u8 K1, .int .u64 E1, .int .u64 S1, .int .i64 a1, .int .i64 F1, .slice A1 n1 c1] 25)) := ⟨_, rfl⟩
  have hb2 : Blk w2 w.heap.size #[.int .u8 K1, .int .u64 E1, .int .u64 S1, .int .i64 a1, .int .i64 F1, .slice A1 n1 c1] 25 := by rw [hw2]; exact Blk.new _ _ _
  have hB2 : Below w.heap.size w w2 := by rw [hw2]; exact (Below.refl _ _).alloc (Nat.le_refl _) _
  rw [← hw2]
  clear hw2
  have Hz2 := hid (hz1.below hB2)
  have Hb2 := hid hb2
  have HB2 := hid hB2
  clear hb2 hz1 hB2
  go_wp2_with fail
  refine (awake_any w2).mono ?_
  rintro e w3 ⟨rfl, hB3⟩
  have hz3 := Hz2.out.below hB3
  have hb3 := Hb2.out.later hB3
  have hB3' := HB2.out.trans (hB3.mono HB2.out.size)
  obtain ⟨⟨k0, k1, k2, k3, k4, k5⟩, -⟩ := hb3.six
  clear hb3 hB3
  go_wp2_with fail
  refine (G1 w3 hz3).mono ?_
  clear G1 hz3 k0 k1 k2 k3 k4 k5
  rintro e w4 ⟨K1, E1, S1, a1, f1, A1, n1, c1, ys1, rfl, hf1, hz4, hB4⟩
  have hB4' := hB3'.trans (hB4.mono hB3'.size)
  clear hB3' hB4
  go_wp2_with fail
  refine (lay_any K1 E1 S1 a1 f1 ((f1 : Int) - 1) A1 n1 c1 ys1 w4 hz4 (by have := hf1.2.1; omega) (by have := hf1.2.2.1; omega) (by have := hf1.2.2.2.1; omega) (by have := hf1.2.2.2.2.1; omega) (by have := hf1.2.2.2.2.2.1; omega) rfl (by have := hf1.2.2.2.2.2.2.1; have := Nums.len hz4; omega)).mono ?_
  rintro e w6 ⟨v6, rfl, ho6, hB6⟩
  have h7 := hf1.2.2.2.2.2.2.1
  have hpl := page_len K1 E1 S1 a1 f1 ys1 h7
  have hpB := page_isB K1 E1 S1 a1 f1 hf1.2.2.2.2.2.2.2.2
  have hip : IsPage (page K1 E1 S1 a1 f1 ys1) := ⟨K1, E1, S1, a1, f1, ys1, hf1, rfl⟩
  have hB6' := hB4'.trans (hB6.mono hB4'.size)
  generalize page K1 E1 S1 a1 f1 ys1 = pg at *
  clear hf1 h7 hz4 hB6
  have hr6 : w6.ownsRow w.heap.size 5 1 v6 96 (pg.map (Value.int .u8)) := by
    have := own_mono ho6 hB4'.size
    rw [hpl] at this
    exact this
  clear ho6 hB4'
  obtain ⟨gp, qp, rfl, hgpb, hgpl, hqp, hfrp⟩ := own_some hr6 (by decide)
  have hp6 := (own_reads hr6 (wf_of hpB)).2
  obtain ⟨m0, hm0⟩ : ∃ m, m = q % 96 := ⟨_, rfl⟩
  have hm1 : m0 < 96 := by omega
  have em : (q : Int) % 96 = (m0 : Int) := by omega
  clear hm0
  go_upto_region 5 with (at_builtin; refine append_nums w6.heap.size rfl _ _ 23 5 .u8 1 rfl Try.underlying23 info5 _ 0 [] (some ⟨gp, 0, none⟩) 96 qp pg (by rfl) (by rfl) (World.ownsRow_nil _ _ _ _) hp6 (Nat.le_refl _) (by omega) (by omega) ?_; intro v7 w7 hown7 hgr7 hat7)
  have hB7 : Below w6.heap.size w6 w7 := (Below.refl _ _).grown hgr7 (Nat.le_refl _) (by intro k hk; simp [Value.ownBlock] at hk)
  rw [List.nil_append, Nat.zero_add] at hown7
  obtain ⟨gq, qq, rfl, hgqb, hgql, hqq, hfrq⟩ := own_some hown7 (by decide)
  clear hat7 hgr7 hp6
  have Hr6 := hid hr6
  have HB6 := hid hB6'
  have Hip := hid hip
  clear hr6 hB6' hip
  go_wp2
  go_loopw [9] (fun x w' => ∃ (i : Nat) (ys : List Int), x = .int .i64 (i : Int) ∧ m0 ≤ i ∧ i ≤ 96 ∧ ys.length = 96 ∧ IsB ys ∧ (96 ≤ i → ys.getD 95 0 = 255) ∧ w'.ownsRow w6.heap.size 5 1 (.slice (some ⟨gq, 0, none⟩) 96 qq) 96 (ys.map (Value.int .u8)) ∧ Below w6.heap.size w6 w') (fun x _ => 96 - (intOf x).toNat)
  case atStart => exact ⟨m0, pg, by rw [em], Nat.le_refl _, by omega, hpl, hpB, fun h => absurd h (by omega), hown7, hB7⟩
  case round =>
    clear hown7 hB7 hfrq hgql
    obtain ⟨i, ys, rfl, hi0, hi1, hyl, hyB, hy255, hrow, hBi⟩ := hrel
    by_cases hlt : i < 96
    · have hcell := own_at hrow (wf_of hyB) i hlt
      rw [Nat.zero_add] at hcell
      have hfr := (own_free hrow).2 i
      have hrow2 := own_set hrow i (.int .u8 255)
      have hB2 := below_set hBi hgqb i (.int .u8 255)
      rw [show (Value.int .u8 255) = Value.int .u8 ((255 : Int)) from rfl, ← List.map_set] at hrow2
      have Hrow2 := hid hrow2
      have HB2' := hid hB2
      clear hrow2 hB2 hrow hBi
      go_wp2
      go_roundw
      case rel =>
        refine ⟨i + 1, ys.set i 255, by go_num, by omega, by omega, by rw [List.length_set]; exact hyl, ?_, ?_, Hrow2.out, HB2'.out⟩
        · intro x hx
          rcases List.mem_or_eq_of_mem_set hx with h | h
          · exact hyB x h
          · omega
        · intro h
          have e95 : i = 95 := by omega
          subst e95
          rw [List.getD_eq_getElem?_getD, List.getElem?_set_self (by omega)]
          rfl
      case measure => simp [intOf]; omega
    · obtain rfl : i = 96 := by omega
      have hy := hy255 (by decide)
      have hzq := own_reads hrow (wf_of hyB)
      have hno : ys.length ≠ 96 ∨ ys.getD 95 0 ≠ 90 := .inr (by rw [hy]; decide)
      have Hy := hid hy
      clear hy255 hy hi0
      go_wp2_with fail
      refine (sread_any _ 96 qq ys _ hzq.2 hqq).mono ?_
      rintro e w8 ⟨v8, k8, rfl, ht8, hB8⟩
      obtain ⟨rfl, rfl⟩ := told_not ht8 (not_page_last hno)
      rw [code_last hno]
      have hB68 := hBi.trans (hB8.mono hBi.size)
      clear ht8 hno hzq hrow hBi hB8 Hy
      go_upto_region 10 with (fail)
      obtain ⟨w9, hw9⟩ : ∃ w9, w9 = w8.alloc (.cells #[.int .u8 0, .int .u64 0, .int .u64 0, .int .i64 0, .int .i64 0, .slice none 0 0] 25) := ⟨_, rfl⟩
      have hB69 : Below w6.heap.size w6 w9 := by rw [hw9]; exact hB68.alloc hB68.size _
      rw [← hw9]
      clear hw9 hB68
      have hr9 := own_later Hr6.out hB69
      have hp9 := (own_reads hr9 (wf_of hpB)).2.take m0 (by omega)
      have hm0i : (m0 : Int) ≤ (qp : Int) := by omega
      clear hr9
      go_wp2_with fail
      have hno : (pg.take m0).length ≠ 96 ∨ (pg.take m0).getD 95 0 ≠ 90 := .inl (by rw [List.length_take]; omega)
      refine (sread_any _ m0 qp (pg.take m0) _ hp9 (by omega)).mono ?_
      rintro e w10 ⟨v10, k10, rfl, ht10, hB10⟩
      obtain ⟨rfl, rfl⟩ := told_not ht10 (not_page_last hno)
      rw [code_last hno]
      have hB610 := hB69.trans (hB10.mono hB69.size)
      clear ht10 hno hp9 hB69 hB10 hm0i
      go_upto_region 11 with (fail)
      obtain ⟨w11, hw11⟩ : ∃ w11, w11 = w10.alloc (.cells #[.int .u8 0, .int .u64 0, .int .u64 0, .int .i64 0, .int .i64 0, .slice none 0 0] 25) := ⟨_, rfl⟩
      have hB11 : Below w6.heap.size w6 w11 := by rw [hw11]; exact hB610.alloc hB610.size _
      rw [← hw11]
      clear hw11 hB610
      have hr11 := own_later Hr6.out hB11
      obtain ⟨k, hk⟩ : ∃ k, k = bn % 768 := ⟨_, rfl⟩
      have hkl : k < 768 := by omega
      have ek : (bn : Int) % 768 = (k : Int) := by omega
      clear hk
      obtain ⟨j, hj⟩ : ∃ j, j = k / 8 := ⟨_, rfl⟩
      obtain ⟨r, hr⟩ : ∃ r, r = k % 8 := ⟨_, rfl⟩
      have ej : (k : Int) / 8 = (j : Int) := by rw [hj]; rfl
      have er : (k : Int) % 8 = (r : Int) := by rw [hr]; rfl
      have hjl : (j : Int) < 96 := by omega
      have hjn : j < 96 := by omega
      have hj0 : (0 : Int) ≤ (j : Int) := by omega
      have hcell := own_at hr11 (wf_of hpB) j hjn
      rw [Nat.zero_add] at hcell
      have hr8 : (r : Int) < 8 := by omega
      have hx2 : (Lit.int .u8 (pg.getD j 0)).wf = true := (own_reads hr11 (wf_of hpB)).2.wf_at j hjn
      obtain ⟨hx0, hx1⟩ := wf_u8 hx2
      have Htb := hid (turn_bits _ ⟨hx0, hx1⟩ r (by omega))
      have Hturn : Hid (pg.set j (((pg.getD j 0).toNat ^^^ 2 ^ r : Nat) : Int) = turn pg k) := by rw [hj, hr]; exact hid rfl
      clear hj hr hx2
      generalize pg.getD j 0 = x at *
      have hfr2 := (own_free hr11).2 j
      have Hr11 := hid hr11
      have HB11 := hid hB11
      clear hr11 hB11
      go_upto_region 12 with (fail)
      have hwj : IntKind.i64.wrap (j : Int) = (j : Int) := IntWalk.i64_in _ (by omega)
      have hwr : IntKind.i64.wrap (r : Int) = (r : Int) := IntWalk.i64_in _ (by omega)
      have ert : (k : Int).tmod 8 = (r : Int) := by rw [← er]; exact IntWalk.rem_in _ _ (by omega)
      have h0r : (0 : Int) ≤ (r : Int) := by omega
      go_still_tail 13, (by kernel_rfl)
      change wpList _ _ _ _ _ w11.drew
      clear hwj hwr ert h0r
      go_upto_region 13 with (fail)
      rw [Htb.out]
      have hr12 : ((w11.setCell ⟨gp, j, none⟩ (.int .u8 ((x.toNat ^^^ 2 ^ r : Nat) : Int))).drew).ownsRow w.heap.size 5 1 (.slice (some ⟨gp, 0, none⟩) 96 qp) 96 ((turn pg k).map (Value.int .u8)) := by
        have h := own_set Hr11.out j (.int .u8 ((x.toNat ^^^ 2 ^ r : Nat) : Int))
        rw [← List.map_set, Hturn.out] at h
        exact h
      have hB12 : Below w.heap.size w ((w11.setCell ⟨gp, j, none⟩ (.int .u8 ((x.toNat ^^^ 2 ^ r : Nat) : Int))).drew) :=
        (below_set (HB6.out.trans (HB11.out.mono HB6.out.size)) hgpb j (.int .u8 ((x.toNat ^^^ 2 ^ r : Nat) : Int))).drewB 1
      have hti := turn_isB hpB k
      have htl : (turn pg k).length = 96 := by rw [turn_len, hpl]
      have hnp := not_page_turn Hip.out k hkl
      generalize (w11.setCell ⟨gp, j, none⟩ (.int .u8 ((x.toNat ^^^ 2 ^ r : Nat) : Int))).drew = w12 at *
      clear Htb Hturn hcell hfr2 Hr11
      have hz12 := (own_reads hr12 (wf_of hti)).2
      go_wp2_with fail
      refine (sread_any _ 96 qp (turn pg k) w12 hz12 hqp).mono ?_
      rintro e w13 ⟨v13, k13, rfl, ht13, hB13⟩
      obtain ⟨hk13, rfl⟩ := told_not ht13 hnp
      have hne : k13 ≠ 0 := by rw [hk13]; exact code_ne _
      have hd : (k13 != 0) = true := by simp [hne]
      have hB' := hB12.trans (hB13.mono hB12.size)
      clear hk13 ht13 hnp hr12 hz12 hB12 hB13 hne
      go_upto_region 14 with (fail)
      have hB14 : Below w.heap.size w (w13.alloc (.cells #[.int .u8 0, .int .u64 0, .int .u64 0, .int .i64 0, .int .i64 0, .slice none 0 0] 25)) := hB'.alloc hB'.size _
      go_wp2
      all_goals
        go_ret
        exact ⟨rfl, hB14⟩
end Go.Proofs.Ytpncgfdnilmhhaa.Sheet
