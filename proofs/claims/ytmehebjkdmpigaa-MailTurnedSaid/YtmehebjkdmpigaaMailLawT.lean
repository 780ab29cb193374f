import Derived.Test.YtmehebjkdmpigaaMailDec
import Derived.Test.YtmehebjkdmpigaaOctTurn
import Derived.StillTailTactics
set_option linter.unusedVariables false
set_option linter.unusedSimpArgs false
namespace Go.Proofs.Ytmehebjkdmpigaa.Mail
open Go.RowKit Go.Proofs.Ytmehebjkdmpigaa.Kit Go.Proofs.Ytmehebjkdmpigaa.Oct

theorem bits_xor8 (a b : Nat) (ha : a < 2 ^ 8) (hb : b < 2 ^ 8) : bits .xor .u8 (a : Int) (b : Int) = ((a ^^^ b : Nat) : Int) := by
  have hx := Nat.xor_lt_two_pow ha hb
  show IntKind.u8.wrap (((BitVec.ofInt 8 (a : Int) ^^^ BitVec.ofInt 8 (b : Int)).toNat : Nat) : Int) = _
  rw [BitVec.toNat_xor, BitVec.ofInt_natCast, BitVec.ofInt_natCast, BitVec.toNat_ofNat, BitVec.toNat_ofNat, Nat.mod_eq_of_lt ha, Nat.mod_eq_of_lt hb, IntKind.wrap_u8]
  omega
theorem turn_bits (x : Int) (hx : 0 ≤ x ∧ x ≤ 255) (r : Nat) (hr : r < 8) :
    bits .xor .u8 x ((2 : Int) ^ r % 256) = ((x.toNat ^^^ 2 ^ r : Nat) : Int) := by
  have h1 : 2 ^ r < 2 ^ 8 := Nat.pow_lt_pow_right (by decide) hr
  have hw : (2 : Int) ^ r % 256 = ((2 ^ r : Nat) : Int) := by
    have e : (2 : Int) ^ r = ((2 ^ r : Nat) : Int) := by rw [Int.natCast_pow]; rfl
    rw [e]
    generalize 2 ^ r = y at *
    omega
  rw [hw]
  obtain ⟨x, rfl⟩ := Int.eq_ofNat_of_zero_le hx.1
  exact bits_xor8 x _ (by omega) h1

theorem own_free {w : World} {base n c g : Nat} {e : TypeId} {xs : List Value} (h : w.ownsRow base e 1 (.slice (some ⟨g, 0, none⟩) n c) n xs) : base ≤ g ∧ ∀ i, w.frozen? ⟨g, i, none⟩ = false := by
  rcases h.2 with ⟨e1, _⟩ | ⟨g', cap, cur, e1, hg, hh, _⟩
  · cases e1
  · injection e1 with e1 _ e2
    injection e1 with e1
    injection e1 with e1
    subst e1
    exact ⟨hg, fun i => by simp [World.frozen?, hh]⟩


theorem pow_add' (d k : Nat) : 2 ^ (d + k) = 2 ^ d * 2 ^ k := Nat.pow_add 2 d k
theorem stp_one_ne : ∀ d, d < 96 → 0 < d → stpn d 1 ≠ 1 := by decide +kernel
/-- Two bits turned: the check tells it. -/
theorem two_ne (i j : Nat) (hi : i < j) (hj : j < 96) : stpn 96 (2 ^ i ^^^ 2 ^ j) ≠ 0 := by
  intro h
  have h1 : ∀ k, k ≤ 96 → stpn 96 (2 ^ k) = stpn (96 - k) 1 := fun k hk => by
    have := stpn_shift k 1
    rw [Nat.mul_one] at this
    rw [show 96 = k + (96 - k) by omega, stpn_add, this, Nat.add_sub_cancel_left]
  rw [stpn_xor, h1 i (by omega), h1 j (by omega)] at h
  have he : stpn (96 - i) 1 = stpn (96 - j) 1 := by
    have h2 : (stpn (96 - i) 1 ^^^ stpn (96 - j) 1) ^^^ stpn (96 - j) 1 = 0 ^^^ stpn (96 - j) 1 := by rw [h]
    rwa [Nat.xor_assoc, Nat.xor_self, Nat.xor_zero, Nat.zero_xor] at h2
  rw [show 96 - i = (j - i) + (96 - j) by omega, stpn_add] at he
  have := stpn_inj (n := 96 - j) (stpn_lt (n := j - i) (c := 1) (by decide)) (by decide) he
  exact stp_one_ne (j - i) (by omega) (by omega) this
theorem good_two {s t : List Int} {X : Nat} (hs : IsB s) (ht : IsB t) (hl : s.length = 12) (hlt : t.length = 12) (hg : good 8 s) (he : num t = num s ^^^ X) (hX : stpn 96 X ≠ 0) : ¬ good 8 t := by
  rw [good_iff hs (m := 8) hl] at hg
  rw [good_iff ht (m := 8) hlt, he, hlt]
  rw [hl] at hg
  intro h
  apply hX
  rw [← Nat.xor_assoc, stpn_xor, hg] at h
  have : stpn (8 * 12) X = 0 := by
    have h2 : resid ^^^ (resid ^^^ stpn (8 * 12) X) = resid ^^^ resid := by rw [h]
    rw [← Nat.xor_assoc, Nat.xor_self, Nat.zero_xor] at h2
    exact h2
  exact this
theorem one_ne' (i : Nat) (hi : i < 96) : stpn 96 (2 ^ i) ≠ 0 := by
  have := stpn_shift i 1
  rw [Nat.mul_one] at this
  rw [show 96 = i + (96 - i) by omega, stpn_add, this]
  intro h
  have h0 : stpn (96 - i) 1 = stpn (96 - i) 0 := by rw [h, stpn_zero]
  exact absurd (stpn_inj (n := 96 - i) (by decide) (by decide) h0) (by decide)
theorem msg_good (k f x : Nat) : good 8 (msg k f x) := by
  have := good_seal (enc k f x) (enc_isB k f x)
  rwa [enc_len] at this
theorem turned_told {s : List Int} {v : Value} {c : Int} (hl : s.length = 12) (hg : ¬ good 8 s) (h : DTold s v c) : v = .nilIface ∧ c = 4 := by
  have ho : opN s = 4 := by
    unfold opN
    rw [if_neg (by omega), hl]
    exact if_neg hg
  rcases h with ⟨k, f, x, E, _, _, _, _, _, _, _, _, rfl⟩ | ⟨h1, h2, _⟩
  · rw [op_msg] at ho
    cases ho
  · refine ⟨h1, h2.trans ?_⟩
    unfold dcode
    rw [ho]
    rfl

set_option maxRecDepth 100000 in
set_option maxHeartbeats 8000000 in
theorem law_turned (kd : Int) (hkd : 0 ≤ kd ∧ kd ≤ 255) (fr : Bool) (n : Int) (hn : 0 ≤ n ∧ n ≤ 18446744073709551615) (a : Int) (ha : 0 ≤ a ∧ a ≤ 65535) (b : Int) (hb : 0 ≤ b ∧ b ≤ 65535) (w : World) :
    Calls Try.prog 7 #[.int .u8 kd, .bool fr, .int .u64 n, .int .u16 a, .int .u16 b] w fun e w' => e = .returned (.bool true) ∧ Below w.heap.size w w' := by
  obtain ⟨kd0, kd1⟩ := hkd
  obtain ⟨n0, n1⟩ := hn
  obtain ⟨a0, a1⟩ := ha
  obtain ⟨b0, b1⟩ := hb
  obtain ⟨kd, rfl⟩ := Int.eq_ofNat_of_zero_le kd0
  obtain ⟨a, rfl⟩ := Int.eq_ofNat_of_zero_le a0
  obtain ⟨b, rfl⟩ := Int.eq_ofNat_of_zero_le b0
  obtain ⟨k1, hk1⟩ : ∃ k, k = kd % 3 := ⟨_, rfl⟩
  have l1 : k1 < 3 := by omega
  obtain ⟨E1, hE1⟩ : ∃ E : Nat, n / 65536 = (E : Int) := ⟨(n / 65536).toNat, by omega⟩
  have g1 : E1 < 281474976710656 := by omega
  have M1 := fun (F : Int) W => make3_any kd F (E1 : Int) W (by omega)
  rw [← hk1] at M1
  obtain ⟨x1, hx1, hx2⟩ : ∃ x : Nat, ep k1 (E1 : Int) = (x : Int) ∧ x < 281474976710656 := by
    have : k1 = 0 ∨ k1 = 1 ∨ k1 = 2 := by omega
    rcases this with rfl | rfl | rfl
    · exact ⟨E1, rfl, g1⟩
    · exact ⟨0, rfl, by decide⟩
    · exact ⟨E1, rfl, g1⟩
  have C1 := fun (f : Nat) W (h : f ≤ 1) => encode_any k1 f x1 (E1 : Int) W l1 h hx1 hx2
  clear hk1 hx1
  obtain ⟨i, hi⟩ : ∃ i, i = a % 96 := ⟨_, rfl⟩
  obtain ⟨j, hj⟩ : ∃ i, i = b % 96 := ⟨_, rfl⟩
  have hil : i < 96 := by omega
  have hjl96 : j < 96 := by omega
  have ei : (a : Int) % 96 = (i : Int) := by omega
  have ejj : (b : Int) % 96 = (j : Int) := by omega
  clear hi hj
  obtain ⟨j1, hj1⟩ : ∃ j, j = i / 8 := ⟨_, rfl⟩
  obtain ⟨r1, hr1⟩ : ∃ r, r = i % 8 := ⟨_, rfl⟩
  obtain ⟨j2, hj2⟩ : ∃ q, q = j / 8 := ⟨_, rfl⟩
  obtain ⟨r2, hr2⟩ : ∃ r, r = j % 8 := ⟨_, rfl⟩
  have HM1 := hid M1
  have HC1 := hid C1
  have Hj1 := hid hj1
  have Hr1 := hid hr1
  have Hj2 := hid hj2
  have Hr2 := hid hr2
  clear M1 C1 hj1 hr1 hj2 hr2
  cases fr
  · go_enter Try.func7, Try.ntmps7
    go_wp2_with fail
    refine (HM1.out 0 w).mono ?_
    rintro e w1 ⟨rfl, rfl⟩
    go_wp2_with fail
    refine (HC1.out 0 w1 (by decide)).mono ?_
    rintro e w2 ⟨v2, rfl, ho2, hB2⟩
    have hgood := msg_good k1 0 x1
    have hsl := msg_len k1 0 x1
    have hsB := msg_isB k1 0 x1
    generalize msg k1 0 x1 = s at *
    obtain ⟨g, cp, rfl, hgw, hgl, hcp, -⟩ := own_some ho2 (by omega)
    have hrow0 : w2.ownsRow w1.heap.size 5 1 (.slice (some ⟨g, 0, none⟩) 12 cp) 12 (s.map (Value.int .u8)) := by
      have := ho2
      unfold OwnB at this
      rw [hsl] at this
      exact this
    rw [hsl] at hcp ⊢
    clear ho2
    go_wp2_with fail
    refine (awake_any w2).mono ?_
    rintro e w3 ⟨rfl, hB3⟩
    have hrow := own_later hrow0 hB3
    have hB4 := hB2.trans (hB3.mono hB2.size)
    clear hB2 hB3 hrow0 hgl
    have hj1 := Hj1.out
    have hr1 := Hr1.out
    go_upto_region 9 with (fail)
    have ej : (i : Int) / 8 = (j1 : Int) := by rw [hj1]; rfl
    have er : (i : Int) % 8 = (r1 : Int) := by rw [hr1]; rfl
    have hjl : (j1 : Int) < 12 := by omega
    have hjn : j1 < 12 := by omega
    have hj0 : (0 : Int) ≤ (j1 : Int) := by omega
    have hcell := own_at hrow (wf_of hsB) j1 hjn
    rw [Nat.zero_add] at hcell
    have hr8 : (r1 : Int) < 8 := by omega
    have hx2 : (Lit.int .u8 (s.getD j1 0)).wf = true := (own_reads hrow (wf_of hsB)).2.wf_at j1 hjn
    obtain ⟨hx0, hx1⟩ := wf_u8 hx2
    have Htb := hid (turn_bits _ ⟨hx0, hx1⟩ r1 (by omega))
    have Hturn : Hid (s.set j1 (((s.getD j1 0).toNat ^^^ 2 ^ r1 : Nat) : Int) = turn s i) := by rw [hj1, hr1]; exact hid rfl
    clear hj1 hr1 hx2
    generalize s.getD j1 0 = x at *
    have hfr2 := (own_free hrow).2 j1
    have Hrow := hid hrow
    have HBw := hid hB4
    clear hrow hB4
    go_upto_region 9 with (fail)
    have hwj : IntKind.i64.wrap (j1 : Int) = (j1 : Int) := IntWalk.i64_in _ (by omega)
    have hwr : IntKind.i64.wrap (r1 : Int) = (r1 : Int) := IntWalk.i64_in _ (by omega)
    have ert : (i : Int).tmod 8 = (r1 : Int) := by rw [← er]; exact IntWalk.rem_in _ _ (by omega)
    have h0r : (0 : Int) ≤ (r1 : Int) := by omega
    go_still_tail 13, (by kernel_rfl)
    change wpList _ _ _ _ _ w3.drew
    clear hwj hwr ert h0r
    go_upto_region 10 with (fail)
    rw [Htb.out]
    have hrow2 : ((w3.setCell ⟨g, j1, none⟩ (.int .u8 ((x.toNat ^^^ 2 ^ r1 : Nat) : Int))).drew).ownsRow w1.heap.size 5 1 (.slice (some ⟨g, 0, none⟩) 12 cp) 12 ((turn s i).map (Value.int .u8)) := by
      have h := own_set Hrow.out j1 (.int .u8 ((x.toNat ^^^ 2 ^ r1 : Nat) : Int))
      rw [← List.map_set, Hturn.out] at h
      exact h
    have hB2' : Below w1.heap.size w1 ((w3.setCell ⟨g, j1, none⟩ (.int .u8 ((x.toNat ^^^ 2 ^ r1 : Nat) : Int))).drew) :=
      (below_set HBw.out hgw j1 (.int .u8 ((x.toNat ^^^ 2 ^ r1 : Nat) : Int))).drewB 1
    have hti := turn_isB hsB i
    have htl : (turn s i).length = 12 := by rw [turn_len, hsl]
    generalize (w3.setCell ⟨g, j1, none⟩ (.int .u8 ((x.toNat ^^^ 2 ^ r1 : Nat) : Int))).drew = w4 at *
    clear Htb Hturn hcell hfr2 Hrow HBw ej er hjl hjn hj0 hr8 hx0 hx1
    have hne1 : num (turn s i) = num s ^^^ 2 ^ i := num_turn_bit s hsB i (by omega)
    by_cases hij : i = j
    · subst hij
      have hbad := good_two hsB hti hsl htl hgood hne1 (one_ne' i hil)
      have hz5 := (own_reads hrow2 (wf_of hti)).2
      have Hbad := hid hbad
      clear hbad hne1 hgood
      go_wp2_with fail
      refine (decode_any _ 12 cp (turn s i) w4 hz5 hcp (by decide)).mono ?_
      rintro e w5 ⟨v5, k5, rfl, ht5, hB5⟩
      obtain ⟨rfl, rfl⟩ := turned_told htl Hbad.out ht5
      have hB6 := hB2'.trans (hB5.mono hB2'.size)
      clear ht5 hz5 hrow2
      go_wp2
      go_ret
      exact ⟨rfl, hB6⟩
    · have eij : ((i : Int) != (j : Int)) = true := by simp; omega
      have Hij := hid hij
      clear hij
      have hj2 := Hj2.out
      have hr2 := Hr2.out
      generalize hs2 : turn s i = s2 at *
      clear hs2
      have ej : (j : Int) / 8 = (j2 : Int) := by rw [hj2]; rfl
      have er : (j : Int) % 8 = (r2 : Int) := by rw [hr2]; rfl
      have hjl : (j2 : Int) < 12 := by omega
      have hjn : j2 < 12 := by omega
      have hj0 : (0 : Int) ≤ (j2 : Int) := by omega
      have hcell := own_at hrow2 (wf_of hti) j2 hjn
      rw [Nat.zero_add] at hcell
      have hr8 : (r2 : Int) < 8 := by omega
      have hx2 : (Lit.int .u8 (s2.getD j2 0)).wf = true := (own_reads hrow2 (wf_of hti)).2.wf_at j2 hjn
      obtain ⟨hx0, hx1⟩ := wf_u8 hx2
      have Htb := hid (turn_bits _ ⟨hx0, hx1⟩ r2 (by omega))
      have Hturn : Hid (s2.set j2 (((s2.getD j2 0).toNat ^^^ 2 ^ r2 : Nat) : Int) = turn s2 j) := by rw [hj2, hr2]; exact hid rfl
      clear hj2 hr2 hx2
      generalize s2.getD j2 0 = x at *
      have hfr2 := (own_free hrow2).2 j2
      have Hrow := hid hrow2
      have HBw := hid hB2'
      clear hrow2 hB2'
      go_upto_region 11 with (fail)
      have hwj : IntKind.i64.wrap (j2 : Int) = (j2 : Int) := IntWalk.i64_in _ (by omega)
      have hwr : IntKind.i64.wrap (r2 : Int) = (r2 : Int) := IntWalk.i64_in _ (by omega)
      have ert : (j : Int).tmod 8 = (r2 : Int) := by rw [← er]; exact IntWalk.rem_in _ _ (by omega)
      have h0r : (0 : Int) ≤ (r2 : Int) := by omega
      go_still_tail 13, (by kernel_rfl)
      change wpList _ _ _ _ _ w4.drew
      clear hwj hwr ert h0r
      go_upto_region 12 with (fail)
      rw [Htb.out]
      have hrow3 : ((w4.setCell ⟨g, j2, none⟩ (.int .u8 ((x.toNat ^^^ 2 ^ r2 : Nat) : Int))).drew).ownsRow w1.heap.size 5 1 (.slice (some ⟨g, 0, none⟩) 12 cp) 12 ((turn s2 j).map (Value.int .u8)) := by
        have h := own_set Hrow.out j2 (.int .u8 ((x.toNat ^^^ 2 ^ r2 : Nat) : Int))
        rw [← List.map_set, Hturn.out] at h
        exact h
      have hB3' : Below w1.heap.size w1 ((w4.setCell ⟨g, j2, none⟩ (.int .u8 ((x.toNat ^^^ 2 ^ r2 : Nat) : Int))).drew) :=
        (below_set HBw.out hgw j2 (.int .u8 ((x.toNat ^^^ 2 ^ r2 : Nat) : Int))).drewB 1
      have hti2 := turn_isB hti j
      have htl2 : (turn s2 j).length = 12 := by rw [turn_len, htl]
      generalize (w4.setCell ⟨g, j2, none⟩ (.int .u8 ((x.toNat ^^^ 2 ^ r2 : Nat) : Int))).drew = w5 at *
      clear Htb Hturn hcell hfr2 Hrow HBw ej er hjl hjn hj0 hr8 hx0 hx1
      have hne2 : num (turn s2 j) = num s ^^^ (2 ^ i ^^^ 2 ^ j) := by rw [num_turn_bit s2 hti j (by omega), hne1, Nat.xor_assoc]
      have hX : stpn 96 (2 ^ i ^^^ 2 ^ j) ≠ 0 := by
        have := Hij.out
        rcases Nat.lt_or_gt_of_ne this with h | h
        · exact two_ne i j h hjl96
        · rw [Nat.xor_comm]
          exact two_ne j i h hil
      have hbad := good_two hsB hti2 hsl htl2 hgood hne2 hX
      have hz5 := (own_reads hrow3 (wf_of hti2)).2
      have Hbad := hid hbad
      clear hbad hne1 hne2 hX hgood
      go_wp2_with fail
      refine (decode_any _ 12 cp (turn s2 j) w5 hz5 hcp (by decide)).mono ?_
      rintro e w6 ⟨v5, k5, rfl, ht5, hB5⟩
      obtain ⟨rfl, rfl⟩ := turned_told htl2 Hbad.out ht5
      have hB6 := hB3'.trans (hB5.mono hB3'.size)
      clear ht5 hz5 hrow3
      go_wp2
      go_ret
      exact ⟨rfl, hB6⟩
  · go_enter Try.func7, Try.ntmps7
    go_wp2_with fail
    refine (HM1.out 1 w).mono ?_
    rintro e w1 ⟨rfl, rfl⟩
    go_wp2_with fail
    refine (HC1.out 1 w1 (by decide)).mono ?_
    rintro e w2 ⟨v2, rfl, ho2, hB2⟩
    have hgood := msg_good k1 1 x1
    have hsl := msg_len k1 1 x1
    have hsB := msg_isB k1 1 x1
    generalize msg k1 1 x1 = s at *
    obtain ⟨g, cp, rfl, hgw, hgl, hcp, -⟩ := own_some ho2 (by omega)
    have hrow0 : w2.ownsRow w1.heap.size 5 1 (.slice (some ⟨g, 0, none⟩) 12 cp) 12 (s.map (Value.int .u8)) := by
      have := ho2
      unfold OwnB at this
      rw [hsl] at this
      exact this
    rw [hsl] at hcp ⊢
    clear ho2
    go_wp2_with fail
    refine (awake_any w2).mono ?_
    rintro e w3 ⟨rfl, hB3⟩
    have hrow := own_later hrow0 hB3
    have hB4 := hB2.trans (hB3.mono hB2.size)
    clear hB2 hB3 hrow0 hgl
    have hj1 := Hj1.out
    have hr1 := Hr1.out
    go_upto_region 9 with (fail)
    have ej : (i : Int) / 8 = (j1 : Int) := by rw [hj1]; rfl
    have er : (i : Int) % 8 = (r1 : Int) := by rw [hr1]; rfl
    have hjl : (j1 : Int) < 12 := by omega
    have hjn : j1 < 12 := by omega
    have hj0 : (0 : Int) ≤ (j1 : Int) := by omega
    have hcell := own_at hrow (wf_of hsB) j1 hjn
    rw [Nat.zero_add] at hcell
    have hr8 : (r1 : Int) < 8 := by omega
    have hx2 : (Lit.int .u8 (s.getD j1 0)).wf = true := (own_reads hrow (wf_of hsB)).2.wf_at j1 hjn
    obtain ⟨hx0, hx1⟩ := wf_u8 hx2
    have Htb := hid (turn_bits _ ⟨hx0, hx1⟩ r1 (by omega))
    have Hturn : Hid (s.set j1 (((s.getD j1 0).toNat ^^^ 2 ^ r1 : Nat) : Int) = turn s i) := by rw [hj1, hr1]; exact hid rfl
    clear hj1 hr1 hx2
    generalize s.getD j1 0 = x at *
    have hfr2 := (own_free hrow).2 j1
    have Hrow := hid hrow
    have HBw := hid hB4
    clear hrow hB4
    go_upto_region 9 with (fail)
    have hwj : IntKind.i64.wrap (j1 : Int) = (j1 : Int) := IntWalk.i64_in _ (by omega)
    have hwr : IntKind.i64.wrap (r1 : Int) = (r1 : Int) := IntWalk.i64_in _ (by omega)
    have ert : (i : Int).tmod 8 = (r1 : Int) := by rw [← er]; exact IntWalk.rem_in _ _ (by omega)
    have h0r : (0 : Int) ≤ (r1 : Int) := by omega
    go_still_tail 13, (by kernel_rfl)
    change wpList _ _ _ _ _ w3.drew
    clear hwj hwr ert h0r
    go_upto_region 10 with (fail)
    rw [Htb.out]
    have hrow2 : ((w3.setCell ⟨g, j1, none⟩ (.int .u8 ((x.toNat ^^^ 2 ^ r1 : Nat) : Int))).drew).ownsRow w1.heap.size 5 1 (.slice (some ⟨g, 0, none⟩) 12 cp) 12 ((turn s i).map (Value.int .u8)) := by
      have h := own_set Hrow.out j1 (.int .u8 ((x.toNat ^^^ 2 ^ r1 : Nat) : Int))
      rw [← List.map_set, Hturn.out] at h
      exact h
    have hB2' : Below w1.heap.size w1 ((w3.setCell ⟨g, j1, none⟩ (.int .u8 ((x.toNat ^^^ 2 ^ r1 : Nat) : Int))).drew) :=
      (below_set HBw.out hgw j1 (.int .u8 ((x.toNat ^^^ 2 ^ r1 : Nat) : Int))).drewB 1
    have hti := turn_isB hsB i
    have htl : (turn s i).length = 12 := by rw [turn_len, hsl]
    generalize (w3.setCell ⟨g, j1, none⟩ (.int .u8 ((x.toNat ^^^ 2 ^ r1 : Nat) : Int))).drew = w4 at *
    clear Htb Hturn hcell hfr2 Hrow HBw ej er hjl hjn hj0 hr8 hx0 hx1
    have hne1 : num (turn s i) = num s ^^^ 2 ^ i := num_turn_bit s hsB i (by omega)
    by_cases hij : i = j
    · subst hij
      have hbad := good_two hsB hti hsl htl hgood hne1 (one_ne' i hil)
      have hz5 := (own_reads hrow2 (wf_of hti)).2
      have Hbad := hid hbad
      clear hbad hne1 hgood
      go_wp2_with fail
      refine (decode_any _ 12 cp (turn s i) w4 hz5 hcp (by decide)).mono ?_
      rintro e w5 ⟨v5, k5, rfl, ht5, hB5⟩
      obtain ⟨rfl, rfl⟩ := turned_told htl Hbad.out ht5
      have hB6 := hB2'.trans (hB5.mono hB2'.size)
      clear ht5 hz5 hrow2
      go_wp2
      go_ret
      exact ⟨rfl, hB6⟩
    · have eij : ((i : Int) != (j : Int)) = true := by simp; omega
      have Hij := hid hij
      clear hij
      have hj2 := Hj2.out
      have hr2 := Hr2.out
      generalize hs2 : turn s i = s2 at *
      clear hs2
      have ej : (j : Int) / 8 = (j2 : Int) := by rw [hj2]; rfl
      have er : (j : Int) % 8 = (r2 : Int) := by rw [hr2]; rfl
      have hjl : (j2 : Int) < 12 := by omega
      have hjn : j2 < 12 := by omega
      have hj0 : (0 : Int) ≤ (j2 : Int) := by omega
      have hcell := own_at hrow2 (wf_of hti) j2 hjn
      rw [Nat.zero_add] at hcell
      have hr8 : (r2 : Int) < 8 := by omega
      have hx2 : (Lit.int .u8 (s2.getD j2 0)).wf = true := (own_reads hrow2 (wf_of hti)).2.wf_at j2 hjn
      obtain ⟨hx0, hx1⟩ := wf_u8 hx2
      have Htb := hid (turn_bits _ ⟨hx0, hx1⟩ r2 (by omega))
      have Hturn : Hid (s2.set j2 (((s2.getD j2 0).toNat ^^^ 2 ^ r2 : Nat) : Int) = turn s2 j) := by rw [hj2, hr2]; exact hid rfl
      clear hj2 hr2 hx2
      generalize s2.getD j2 0 = x at *
      have hfr2 := (own_free hrow2).2 j2
      have Hrow := hid hrow2
      have HBw := hid hB2'
      clear hrow2 hB2'
      go_upto_region 11 with (fail)
      have hwj : IntKind.i64.wrap (j2 : Int) = (j2 : Int) := IntWalk.i64_in _ (by omega)
      have hwr : IntKind.i64.wrap (r2 : Int) = (r2 : Int) := IntWalk.i64_in _ (by omega)
      have ert : (j : Int).tmod 8 = (r2 : Int) := by rw [← er]; exact IntWalk.rem_in _ _ (by omega)
      have h0r : (0 : Int) ≤ (r2 : Int) := by omega
      go_still_tail 13, (by kernel_rfl)
      change wpList _ _ _ _ _ w4.drew
      clear hwj hwr ert h0r
      go_upto_region 12 with (fail)
      rw [Htb.out]
      have hrow3 : ((w4.setCell ⟨g, j2, none⟩ (.int .u8 ((x.toNat ^^^ 2 ^ r2 : Nat) : Int))).drew).ownsRow w1.heap.size 5 1 (.slice (some ⟨g, 0, none⟩) 12 cp) 12 ((turn s2 j).map (Value.int .u8)) := by
        have h := own_set Hrow.out j2 (.int .u8 ((x.toNat ^^^ 2 ^ r2 : Nat) : Int))
        rw [← List.map_set, Hturn.out] at h
        exact h
      have hB3' : Below w1.heap.size w1 ((w4.setCell ⟨g, j2, none⟩ (.int .u8 ((x.toNat ^^^ 2 ^ r2 : Nat) : Int))).drew) :=
        (below_set HBw.out hgw j2 (.int .u8 ((x.toNat ^^^ 2 ^ r2 : Nat) : Int))).drewB 1
      have hti2 := turn_isB hti j
      have htl2 : (turn s2 j).length = 12 := by rw [turn_len, htl]
      generalize (w4.setCell ⟨g, j2, none⟩ (.int .u8 ((x.toNat ^^^ 2 ^ r2 : Nat) : Int))).drew = w5 at *
      clear Htb Hturn hcell hfr2 Hrow HBw ej er hjl hjn hj0 hr8 hx0 hx1
      have hne2 : num (turn s2 j) = num s ^^^ (2 ^ i ^^^ 2 ^ j) := by rw [num_turn_bit s2 hti j (by omega), hne1, Nat.xor_assoc]
      have hX : stpn 96 (2 ^ i ^^^ 2 ^ j) ≠ 0 := by
        have := Hij.out
        rcases Nat.lt_or_gt_of_ne this with h | h
        · exact two_ne i j h hjl96
        · rw [Nat.xor_comm]
          exact two_ne j i h hil
      have hbad := good_two hsB hti2 hsl htl2 hgood hne2 hX
      have hz5 := (own_reads hrow3 (wf_of hti2)).2
      have Hbad := hid hbad
      clear hbad hne1 hne2 hX hgood
      go_wp2_with fail
      refine (decode_any _ 12 cp (turn s2 j) w5 hz5 hcp (by decide)).mono ?_
      rintro e w6 ⟨v5, k5, rfl, ht5, hB5⟩
      obtain ⟨rfl, rfl⟩ := turned_told htl2 Hbad.out ht5
      have hB6 := hB3'.trans (hB5.mono hB3'.size)
      clear ht5 hz5 hrow3
      go_wp2
      go_ret
      exact ⟨rfl, hB6⟩
end Go.Proofs.Ytmehebjkdmpigaa.Mail
