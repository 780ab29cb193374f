import Derived.Test.YtlaibabjnfjbpaaOctRead
import Derived.Test.YtlaibabjnfjbpaaOctTurn
import Derived.StillTailTactics
import Derived.BigRegion
set_option linter.unusedVariables false
set_option linter.unusedSimpArgs false
namespace Go.Proofs.Ytlaibabjnfjbpaa.Oct
open Go.RowKit Go.Proofs.Ytlaibabjnfjbpaa.Kit

theorem bits_xor8 (a b : Nat) (ha : a < 2 ^ 8) (hb : b < 2 ^ 8) : bits .xor .u8 (a : Int) (b : Int) = ((a ^^^ b : Nat) : Int) := by
  have hx := Nat.xor_lt_two_pow ha hb
  show IntKind.u8.wrap (((BitVec.ofInt 8 (a : Int) ^^^ BitVec.ofInt 8 (b : Int)).toNat : Nat) : Int) = _
  rw [BitVec.toNat_xor, BitVec.ofInt_natCast, BitVec.ofInt_natCast, BitVec.toNat_ofNat, BitVec.toNat_ofNat, Nat.mod_eq_of_lt ha, Nat.mod_eq_of_lt hb, IntKind.wrap_u8]
  omega
theorem turn_bits (x : Int) (hx : 0 ≤ x ∧ x ≤ 255) (r : Nat) (hr : r < 8) :
    bits .xor .u8 x ((2 : Int) ^ r % 256) = ((x.toNat ^^^ 2 ^ r : Nat) : Int) := by
  have h1 : 2 ^ r < 2 ^ 8 := Nat.pow_lt_pow_right (by decide) hr
  have hw : (2 : Int) ^ r % 256 = ((2 ^ r : Nat) : Int) := by
    have e : (2 : Int) ^ r = ((2 ^ r : Nat) : Int) := by rw [Int.natCast_pow]; rfl
    rw [e]
    generalize 2 ^ r = y at *
    omega
  rw [hw]
  obtain ⟨x, rfl⟩ := Int.eq_ofNat_of_zero_le hx.1
  exact bits_xor8 x _ (by omega) h1

set_option maxHeartbeats 400000 in
theorem one_any (A : Option Addr) (n c : Nat) (xs : List Int) (at' : Int) (h1 : 0 ≤ at' ∧ at' ≤ 65535) (w : World) (hz : Nums w .u8 A n xs) :
    Calls Try.prog 7 #[.slice A n c, .int .u16 at'] w fun e w' => e = .returned (.bool true) ∧ Below w.heap.size w w' := by
  obtain ⟨a0, a1⟩ := h1
  obtain ⟨q, rfl⟩ := Int.eq_ofNat_of_zero_le a0
  have hn := hz.most
  go_enter Try.func7, Try.ntmps7
  go_wp2_with fail
  refine (awake_any w).mono ?_
  rintro e w1 ⟨rfl, hB1⟩
  by_cases hb : 1000 < n
  · go_wp2_with fail
    refine (awake_any w1).mono ?_
    rintro e w2 ⟨rfl, hB2⟩
    go_wp2
    go_ret
    exact ⟨rfl, below_step hB1 hB1.size hB2⟩
  · go_wp2_with fail
    refine (seal_any A n c xs w1 (hz.below hB1) (by omega)).mono ?_
    rintro e w2 ⟨v2, rfl, ho2, hB2⟩
    have hx := isB_of hz
    have hl := hz.len
    have hg := good_seal xs hx
    rw [hl] at hg
    have hs : IsB (xs ++ le (sum xs) 4) := isB_append hx (le_isB _ _)
    have hsl : (xs ++ le (sum xs) 4).length = n + 4 := by rw [List.length_append, le_len, hl]
    generalize xs ++ le (sum xs) 4 = s at *
    obtain ⟨g, cp, rfl, hgb, hgl, hcp, hfr⟩ := own_some ho2 (by omega)
    rw [hsl] at hcp ⊢
    obtain ⟨k, hk⟩ : ∃ k, k = q % (8 * (n + 4)) := ⟨_, rfl⟩
    have hkl : k < 8 * (n + 4) := by rw [hk]; exact Nat.mod_lt _ (by omega)
    have ek : (q : Int) % (8 * ((n : Int) + 4)) = (k : Int) := by rw [hk]; push_cast; rfl
    clear hk hz
    obtain ⟨j, hj⟩ : ∃ j, j = k / 8 := ⟨_, rfl⟩
    obtain ⟨r, hr⟩ : ∃ r, r = k % 8 := ⟨_, rfl⟩
    have ej : (k : Int) / 8 = (j : Int) := by rw [hj]; rfl
    have er : (k : Int) % 8 = (r : Int) := by rw [hr]; rfl
    have hjl : (j : Int) < (n : Int) + 4 := by omega
    have hj0 : (0 : Int) ≤ (j : Int) := by omega
    have hcell := own_at (n := s.length) ho2 (wf_of hs) j (by omega)
    rw [Nat.zero_add] at hcell
    have hr8 : (r : Int) < 8 := by omega
    have hx2 : (Lit.int .u8 (s.getD j 0)).wf = true := (own_reads ho2 (wf_of hs)).2.wf_at j (by omega)
    obtain ⟨hx0, hx1⟩ := wf_u8 hx2
    have Htb := hid (turn_bits _ ⟨hx0, hx1⟩ r (by omega))
    have Hturn : Hid (s.set j (((s.getD j 0).toNat ^^^ 2 ^ r : Nat) : Int) = turn s k) := by rw [hj, hr]; rfl
    clear hj hr
    generalize s.getD j 0 = x at *
    have hwj : IntKind.i64.wrap (j : Int) = (j : Int) := IntWalk.i64_in _ (by omega)
    have hwr : IntKind.i64.wrap (r : Int) = (r : Int) := IntWalk.i64_in _ (by omega)
    have ert : (k : Int).tmod 8 = (r : Int) := by rw [← er]; exact IntWalk.rem_in _ _ (by omega)
    have h0r : (0 : Int) ≤ (r : Int) := by omega
    have hfr2 := hfr j
    go_wp2
    go_still_tail 13, (by kernel_rfl)
    change wpList _ _ _ _ _ w2.drew
    clear hwj hwr
    go_wp2_with fail
    rw [Htb.out]
    have ho3 : OwnB (w2.setCell ⟨g, j, none⟩ (.int .u8 ((x.toNat ^^^ 2 ^ r : Nat) : Int))).drew w1.heap.size (.slice (some ⟨g, 0, none⟩) (n + 4) cp) (turn s k) := by
      have h := own_set ho2 j (.int .u8 ((x.toNat ^^^ 2 ^ r : Nat) : Int))
      rw [← List.map_set, Hturn.out] at h
      unfold OwnB
      rw [turn_len, ← hsl]
      exact h
    have hB3 : Below w.heap.size w (w2.setCell ⟨g, j, none⟩ (.int .u8 ((x.toNat ^^^ 2 ^ r : Nat) : Int))).drew := by
      have h := below_set (below_step hB1 hB1.size hB2) (Nat.le_trans hB1.size hgb) j (.int .u8 ((x.toNat ^^^ 2 ^ r : Nat) : Int))
      exact h.drewB 1
    have hti := turn_isB hs k
    have htl : (turn s k).length = n + 4 := by rw [turn_len, hsl]
    have hbad : ¬ good n (turn s k) := by
      rw [good_burst hs hti hsl htl hg (W := 1) (k := k) (by rw [num_turn_bit s hs k (by omega), Nat.mul_one]) (by decide) (by omega)]
      decide
    generalize (w2.setCell ⟨g, j, none⟩ (.int .u8 ((x.toNat ^^^ 2 ^ r : Nat) : Int))).drew = w3 at *
    clear Htb Hturn hcell hfr2 hfr
    rw [← htl] at ho3
    have hz3 := (own_reads ho3 (wf_of hti)).2
    rw [htl] at hz3
    refine (open_any _ n (n + 4) cp (turn s k) w3 hz3 hcp (by omega) rfl).mono ?_
    rintro e w4 ⟨hB4, hres⟩
    rcases hres with ⟨_, rfl⟩ | ⟨h, _⟩
    · go_wp2
      go_ret
      exact ⟨rfl, below_step hB3 hB3.size hB4⟩
    · exact absurd h hbad

theorem own_free {w : World} {base n c g : Nat} {e : TypeId} {xs : List Value} (h : w.ownsRow base e 1 (.slice (some ⟨g, 0, none⟩) n c) n xs) : base ≤ g ∧ ∀ i, w.frozen? ⟨g, i, none⟩ = false := by
  rcases h.2 with ⟨e1, _⟩ | ⟨g', cap, cur, e1, hg, hh, _⟩
  · cases e1
  · injection e1 with e1 _ e2
    injection e1 with e1
    injection e1 with e1
    subst e1
    exact ⟨hg, fun i => by simp [World.frozen?, hh]⟩

theorem pat_bit (q i : Nat) (hq : q < 2 ^ 32) : bits .and .u32 ((q : Int) / 2 ^ i) 1 = ((q / 2 ^ i % 2 : Nat) : Int) := by
  have h : q / 2 ^ i < 2 ^ 32 := Nat.lt_of_le_of_lt (Nat.div_le_self _ _) hq
  have e : (q : Int) / 2 ^ i = ((q / 2 ^ i : Nat) : Int) := by rw [Int.natCast_ediv, Int.natCast_pow]; rfl
  rw [e, show (1 : Int) = ((1 : Nat) : Int) by rfl, bits_and32 _ 1 h (by decide), Nat.and_one_is_mod]

/-- A row of the call's own, its length named. -/
def OwnB' (w : World) (base : Nat) (v : Value) (n : Nat) (xs : List Int) : Prop := w.ownsRow base 5 1 v n (xs.map (Value.int .u8))
def BRel (n g cp k B0 base : Nat) (w0 : World) (s : List Int) (t i : Value) (w' : World) : Prop :=
  ∃ (iN W : Nat) (s' : List Int), iN ≤ 32 ∧ i = .int .i64 (iN : Int) ∧ t = .bool (decide (W ≠ 0)) ∧ W < 2 ^ iN ∧ num s' = num s ^^^ 2 ^ k * W ∧ IsB s' ∧ s'.length = n + 4 ∧ OwnB' w' base (.slice (some ⟨g, 0, none⟩) (n + 4) cp) (n + 4) s' ∧ Below B0 w0 w'

set_option maxRecDepth 100000 in
set_option maxHeartbeats 1000000 in
theorem bursts_any (A : Option Addr) (n c : Nat) (xs : List Int) (at' : Int) (h1 : 0 ≤ at' ∧ at' ≤ 65535) (pat : Int) (h2 : 0 ≤ pat ∧ pat ≤ 4294967295) (w : World) (hz : Nums w .u8 A n xs) :
    Calls Try.prog 6 #[.slice A n c, .int .u16 at', .int .u32 pat] w fun e w' => e = .returned (.bool true) ∧ Below w.heap.size w w' := by
  obtain ⟨a0, a1⟩ := h1
  obtain ⟨q, rfl⟩ := Int.eq_ofNat_of_zero_le a0
  obtain ⟨b0, b1⟩ := h2
  obtain ⟨pat, rfl⟩ := Int.eq_ofNat_of_zero_le b0
  have hpat : pat < 2 ^ 32 := by omega
  have hn := hz.most
  go_enter Try.func6, Try.ntmps6
  go_wp2_with fail
  refine (awake_any w).mono ?_
  rintro e w1 ⟨rfl, hB1⟩
  by_cases hb : 2000 < n
  · go_wp2_with fail
    refine (awake_any w1).mono ?_
    rintro e w2 ⟨rfl, hB2⟩
    go_wp2
    go_ret
    exact ⟨rfl, below_step hB1 hB1.size hB2⟩
  · go_wp2_with fail
    refine (seal_any A n c xs w1 (hz.below hB1) (by omega)).mono ?_
    rintro e w2 ⟨v2, rfl, ho2, hB2⟩
    have hx := isB_of hz
    have hl := hz.len
    have hg := good_seal xs hx
    rw [hl] at hg
    have hs : IsB (xs ++ le (sum xs) 4) := isB_append hx (le_isB _ _)
    have hsl : (xs ++ le (sum xs) 4).length = n + 4 := by rw [List.length_append, le_len, hl]
    generalize xs ++ le (sum xs) 4 = s at *
    obtain ⟨g, cp, rfl, hgb, hgl, hcp, hfr⟩ := own_some ho2 (by omega)
    rw [hsl] at hcp ⊢
    obtain ⟨k, hk⟩ : ∃ k, k = q % (8 * (n + 4)) := ⟨_, rfl⟩
    have hkl : k < 8 * (n + 4) := by rw [hk]; exact Nat.mod_lt _ (by omega)
    have ek : (q : Int) % (8 * ((n : Int) + 4)) = (k : Int) := by rw [hk]; push_cast; rfl
    clear hk hz
    have hB2' := below_step hB1 hB1.size hB2
    have hgw := Nat.le_trans hB1.size hgb
    go_wp2
    rw [ek]
    have ho2 : OwnB' w2 w1.heap.size (.slice (some ⟨g, 0, none⟩) (n + 4) cp) (n + 4) s := by
      unfold OwnB at ho2
      rw [hsl] at ho2
      exact ho2
    have Hs0 := hid (⟨hs, hsl, hg⟩ : IsB s ∧ s.length = n + 4 ∧ good n s)
    clear hs hsl hg
    go_loopw [9, 10] (fun t i w' => BRel n g cp k w.heap.size w1.heap.size w s t i w') (fun _ i _ => 32 - (intOf i).toNat)
    case atStart => exact ⟨0, 0, s, by omega, rfl, rfl, by decide, by simp, Hs0.out.1, Hs0.out.2.1, ho2, hB2'⟩
    case round =>
      clear ho2 hB2' hgb hgl hfr
      obtain ⟨i, W, s', hi, rfl, rfl, hW, hnum, hs', hsl', ho', hB'⟩ := hrel
      by_cases hlt : i < 32 ∧ k + i < 8 * (n + 4)
      · obtain ⟨hi32, hki⟩ := hlt
        have Hbit := hid (pat_bit pat i hpat)
        have hi32' : (i : Int) < 32 := by omega
        have hki' : (k : Int) + (i : Int) < 8 * ((n : Int) + 4) := by omega
        by_cases hbit : pat / 2 ^ i % 2 = 1
        · have Hb1 : Hid (bits .and .u32 ((pat : Int) / 2 ^ i) 1 = 1) := by have := Hbit.out; rw [hbit] at this; exact this
          clear Hbit hbit
          obtain ⟨p, hp⟩ : ∃ p, p = k + i := ⟨_, rfl⟩
          obtain ⟨j, hj⟩ : ∃ j, j = p / 8 := ⟨_, rfl⟩
          obtain ⟨r, hr⟩ : ∃ r, r = p % 8 := ⟨_, rfl⟩
          have ep : (k : Int) + (i : Int) = (p : Int) := by rw [hp]; rfl
          have ej : (p : Int) / 8 = (j : Int) := by rw [hj]; rfl
          have er : (p : Int) % 8 = (r : Int) := by rw [hr]; rfl
          have hjl : (j : Int) < (n : Int) + 4 := by omega
          have hj0 : (0 : Int) ≤ (j : Int) := by omega
          have hcell := own_at ho' (wf_of hs') j (by omega)
          rw [Nat.zero_add] at hcell
          have hr8 : (r : Int) < 8 := by omega
          have hx2 : (Lit.int .u8 (s'.getD j 0)).wf = true := (own_reads ho' (wf_of hs')).2.wf_at j (by omega)
          obtain ⟨hx0, hx1⟩ := wf_u8 hx2
          have Htb := hid (turn_bits _ ⟨hx0, hx1⟩ r (by omega))
          have Hturn : Hid (s'.set j (((s'.getD j 0).toNat ^^^ 2 ^ r : Nat) : Int) = turn s' p) := by rw [hj, hr]; rfl
          have Hrel : Hid (W ^^^ 2 ^ i < 2 ^ (i + 1) ∧ W ^^^ 2 ^ i ≠ 0 ∧ num (turn s' p) = num s ^^^ 2 ^ k * (W ^^^ 2 ^ i) ∧ IsB (turn s' p) ∧ (turn s' p).length = n + 4) := by
            have e1 := join_xor W 1 i hW
            rw [Nat.mul_one] at e1
            have e2 : 2 ^ (i + 1) = 2 ^ i * 2 := Nat.pow_succ ..
            refine ⟨by omega, by have := Nat.two_pow_pos i; omega, ?_, turn_isB hs' _, by rw [turn_len, hsl']⟩
            rw [num_turn_bit s' hs' p (by omega), hnum, mul_xor, ← Nat.pow_add, ← hp, Nat.xor_assoc]
          have Ho' := hid ho'
          have hfr := own_free ho'
          have hfr2 := hfr.2 j
          clear hj hr hnum hW ho' hfr hs' hsl'
          generalize s'.getD j 0 = x at *
          have hk0 : (0 : Int) ≤ (k : Int) := by omega
          have hi0 : (0 : Int) ≤ (i : Int) := by omega
          have hjb : (p : Int) < 16032 := by omega
          clear hp
          have hb1 := Hb1.out
          go_wp2
          clear hb1
          have hwp : IntKind.i64.wrap ((k : Int) + (i : Int)) = (p : Int) := by rw [ep]; exact IntWalk.i64_in _ (by omega)
          have hwpp : IntKind.i64.wrap (p : Int) = (p : Int) := IntWalk.i64_in _ (by omega)
          have hwj : IntKind.i64.wrap (j : Int) = (j : Int) := IntWalk.i64_in _ (by omega)
          have hwr : IntKind.i64.wrap (r : Int) = (r : Int) := IntWalk.i64_in _ (by omega)
          have ert : (p : Int).tmod 8 = (r : Int) := by rw [← er]; exact IntWalk.rem_in _ _ (by omega)
          have h0r : (0 : Int) ≤ (r : Int) := by omega
          go_still_tail 19, (by kernel_rfl)
          change wpList _ _ _ _ _ wr.drew
          clear hwp hwpp hwj hwr
          go_wp2
          go_roundw
          case rel =>
            rw [Htb.out]
            obtain ⟨r1, r2, r3, r4, r5⟩ := Hrel.out
            refine ⟨i + 1, W ^^^ 2 ^ i, turn s' p, by omega, by go_num, by rw [decide_eq_true r2], r1, r3, r4, r5, ?_, ?_⟩
            · have h := own_set Ho'.out j (.int .u8 ((x.toNat ^^^ 2 ^ r : Nat) : Int))
              rw [← List.map_set, Hturn.out] at h
              exact h
            · exact (below_set hB' hgw j (.int .u8 ((x.toNat ^^^ 2 ^ r : Nat) : Int))).drewB 1
          case measure => simp [intOf]; omega
        · have Hb1 : Hid (bits .and .u32 ((pat : Int) / 2 ^ i) 1 = 0) := by have := Hbit.out; rw [show pat / 2 ^ i % 2 = 0 by omega] at this; exact this
          clear Hbit hbit
          have hb1 := Hb1.out
          have Hrel : Hid (W < 2 ^ (i + 1) ∧ num s' = num s ^^^ 2 ^ k * W ∧ IsB s' ∧ s'.length = n + 4) := ⟨by rw [Nat.pow_succ]; omega, hnum, hs', hsl'⟩
          have hki0 : (0 : Int) ≤ (k : Int) + (i : Int) := by omega
          clear hnum hs' hsl' hW
          have Ho' := hid ho'
          clear ho'
          go_wp2
          clear hb1
          go_roundw
          case rel =>
            obtain ⟨r1, r3, r4, r5⟩ := Hrel.out
            exact ⟨i + 1, W, s', by omega, by go_num, rfl, r1, r3, r4, r5, Ho'.out, hB'⟩
          case measure => simp [intOf]; omega
      · have hW32 : W < 2 ^ 32 := Nat.lt_of_lt_of_le hW (Nat.pow_le_pow_right (by decide) hi)
        obtain ⟨hs, hsl, hg⟩ := Hs0.out
        have hgb := good_burst hs hs' hsl hsl' hg hnum hW32 (by omega)
        have hz3 := (own_reads ho' (wf_of hs')).2
        have Hop := open_any _ n (n + 4) cp s' wr hz3 hcp (by omega) rfl
        have hki0 : (0 : Int) ≤ (k : Int) + (i : Int) := by omega
        clear hs hsl hg hs' hsl' hnum hW hW32 hz3 ho' ho2
        have hend : decide ((i : Int) < 32) = true ∧ decide ((k : Int) + (i : Int) < 8 * ((n : Int) + 4)) = false ∨ decide ((i : Int) < 32) = false := by
          by_cases h : i < 32
          · exact .inl ⟨decide_eq_true (by omega), decide_eq_false (by omega)⟩
          · exact .inr (decide_eq_false (by omega))
        by_cases hW0 : W = 0
        · have hdW : decide (W ≠ 0) = false := by simp [hW0]
          rw [hdW]
          clear hdW
          rcases hend with ⟨g1, g2⟩ | g1
          · go_wp2_with fail
            refine Hop.mono ?_
            rintro e w4 ⟨hB4, hres⟩
            rcases hres with ⟨h, _⟩ | ⟨_, v4, rfl, _⟩
            · exact absurd (hgb.2 hW0) h
            · go_wp2
              go_ret
              exact ⟨rfl, below_step hB' hB'.size hB4⟩
          · go_wp2_with fail
            refine Hop.mono ?_
            rintro e w4 ⟨hB4, hres⟩
            rcases hres with ⟨h, _⟩ | ⟨_, v4, rfl, _⟩
            · exact absurd (hgb.2 hW0) h
            · go_wp2
              go_ret
              exact ⟨rfl, below_step hB' hB'.size hB4⟩
        · have hdW : decide (W ≠ 0) = true := by simp [hW0]
          rw [hdW]
          clear hdW
          rcases hend with ⟨g1, g2⟩ | g1
          · go_wp2_with fail
            refine Hop.mono ?_
            rintro e w4 ⟨hB4, hres⟩
            rcases hres with ⟨_, rfl⟩ | ⟨h, _⟩
            · go_wp2
              go_ret
              exact ⟨rfl, below_step hB' hB'.size hB4⟩
            · exact absurd (hgb.1 h) hW0
          · go_wp2_with fail
            refine Hop.mono ?_
            rintro e w4 ⟨hB4, hres⟩
            rcases hres with ⟨_, rfl⟩ | ⟨h, _⟩
            · go_wp2
              go_ret
              exact ⟨rfl, below_step hB' hB'.size hB4⟩
            · exact absurd (hgb.1 h) hW0
end Go.Proofs.Ytlaibabjnfjbpaa.Oct
