import Derived.Test.YtmehebjkdmpigaaMailDec
import Derived.Test.YtmehebjkdmpigaaOctTurn
set_option linter.unusedVariables false
set_option linter.unusedSimpArgs false
namespace Go.Proofs.Ytmehebjkdmpigaa.Mail
open Go.RowKit Go.Proofs.Ytmehebjkdmpigaa.Kit Go.Proofs.Ytmehebjkdmpigaa.Oct

def epN (k e : Nat) : Nat := if k = 1 then 0 else e
theorem ep_nat (k e : Nat) (h : k < 3) : ep k (e : Int) = (epN k e : Int) := by
  have : k = 0 ∨ k = 1 ∨ k = 2 := by omega
  rcases this with rfl | rfl | rfl <;> rfl
theorem epN_le (k e : Nat) : epN k e ≤ e := by unfold epN; split <;> omega
theorem apart_iff {k1 k2 f1 f2 E1 E2 : Nat} (hk1 : k1 < 3) (hk2 : k2 < 3) (hf1 : f1 ≤ 1) (hf2 : f2 ≤ 1) (hE1 : E1 < 281474976710656) (hE2 : E2 < 281474976710656) :
    msg k1 f1 (epN k1 E1) = msg k2 f2 (epN k2 E2) ↔ k1 = k2 ∧ f1 = f2 ∧ (k1 = 1 ∨ E1 = E2) := by
  constructor
  · intro h
    obtain ⟨a, b, c⟩ := msg_inj hk1 hf1 (Nat.lt_of_le_of_lt (epN_le _ _) hE1) hk2 hf2 (Nat.lt_of_le_of_lt (epN_le _ _) hE2) h
    refine ⟨a, b, ?_⟩
    subst a
    by_cases h1 : k1 = 1
    · exact .inl h1
    · unfold epN at c
      rw [if_neg h1, if_neg h1] at c
      exact .inr c
  · rintro ⟨rfl, rfl, h⟩
    congr 1
    unfold epN
    rcases h with rfl | rfl
    · rfl
    · rfl

set_option maxRecDepth 100000 in
set_option maxHeartbeats 8000000 in
theorem law_apart (a : Int) (ha : 0 ≤ a ∧ a ≤ 255) (b : Int) (hb : 0 ≤ b ∧ b ≤ 255) (x y : Bool) (n : Int) (hn : 0 ≤ n ∧ n ≤ 18446744073709551615) (m : Int) (hm : 0 ≤ m ∧ m ≤ 18446744073709551615) (w : World) :
    Calls Try.prog 3 #[.int .u8 a, .int .u8 b, .bool x, .bool y, .int .u64 n, .int .u64 m] w fun e w' => e = .returned (.bool true) ∧ Below w.heap.size w w' := by
  obtain ⟨a0, a1⟩ := ha
  obtain ⟨b0, b1⟩ := hb
  obtain ⟨n0, n1⟩ := hn
  obtain ⟨m0, m1⟩ := hm
  obtain ⟨a, rfl⟩ := Int.eq_ofNat_of_zero_le a0
  obtain ⟨b, rfl⟩ := Int.eq_ofNat_of_zero_le b0
  obtain ⟨k1, hk1⟩ : ∃ k, k = a % 3 := ⟨_, rfl⟩
  obtain ⟨k2, hk2⟩ : ∃ k, k = b % 3 := ⟨_, rfl⟩
  have l1 : k1 < 3 := by omega
  have l2 : k2 < 3 := by omega
  have em1 : (a : Int) % 3 = (k1 : Int) := by omega
  have em2 : (b : Int) % 3 = (k2 : Int) := by omega
  obtain ⟨E1, hE1⟩ : ∃ E : Nat, n / 65536 = (E : Int) := ⟨(n / 65536).toNat, by omega⟩
  obtain ⟨E2, hE2⟩ : ∃ E : Nat, m / 65536 = (E : Int) := ⟨(m / 65536).toNat, by omega⟩
  have g1 : E1 < 281474976710656 := by omega
  have g2 : E2 < 281474976710656 := by omega
  have M1 := fun (F : Int) W => make3_any a F (E1 : Int) W (by omega)
  have M2 := fun (F : Int) W => make3_any b F (E2 : Int) W (by omega)
  rw [← hk1] at M1
  rw [← hk2] at M2
  have C1 := fun (f : Nat) W (h : f ≤ 1) => encode_any k1 f (epN k1 E1) (E1 : Int) W l1 h (ep_nat k1 E1 l1) (Nat.lt_of_le_of_lt (epN_le _ _) g1)
  have C2 := fun (f : Nat) W (h : f ≤ 1) => encode_any k2 f (epN k2 E2) (E2 : Int) W l2 h (ep_nat k2 E2 l2) (Nat.lt_of_le_of_lt (epN_le _ _) g2)
  clear hk1 hk2
  have HM1 := hid M1
  have HM2 := hid M2
  have HC1 := hid C1
  have HC2 := hid C2
  clear M1 M2 C1 C2
  cases x <;> cases y
  · go_enter Try.func3, Try.ntmps3
    go_wp2_with fail
    refine (HM1.out 0 w).mono ?_
    rintro e w1 ⟨rfl, rfl⟩
    go_wp2_with fail
    refine (HC1.out 0 w1 (by decide)).mono ?_
    rintro e w2 ⟨v2, rfl, ho2, hB2⟩
    go_wp2_with fail
    refine (HM2.out 0 w2).mono ?_
    rintro e w3 ⟨rfl, rfl⟩
    go_wp2_with fail
    refine (HC2.out 0 w3 (by decide)).mono ?_
    rintro e w4 ⟨v4, rfl, ho4, hB4⟩
    obtain ⟨P1, q1, e1, hq1, hp1⟩ := ho2.reads (msg_isB _ _ _)
    obtain ⟨P2, q2, e2, hq2, hp2⟩ := ho4.reads (msg_isB _ _ _)
    rw [msg_len] at e1 hq1 hp1
    rw [msg_len] at e2 hq2 hp2
    subst e1 e2
    have hp1' := hp1.below hB4
    have hB5 := hB2.trans (hB4.mono hB2.size)
    have hiff := apart_iff (f1 := 0) (f2 := 0) l1 l2 (by decide) (by decide) g1 g2
    have hse := str_eq (msg_isB k1 0 (epN k1 E1)) (msg_isB k2 0 (epN k2 E2))
    generalize msg k1 0 (epN k1 E1) = s1 at *
    generalize msg k2 0 (epN k2 E2) = s2 at *
    have Hiff := hid hiff
    have Hse := hid hse
    have Hp1 := hid hp1'
    have Hp2 := hid hp2
    clear hiff hse hp1 hp1' hp2 ho2 ho4 hB2 hB4
    go_upto_region 9 with (fail)
    have key : ∀ W, Below w4.heap.size w4 W → (convert 23 9 (.slice P1 12 q1)).run Try.prog W = .ok (.string (strOfNums s1)) W ∧ (convert 23 9 (.slice P2 12 q2)).run Try.prog W = .ok (.string (strOfNums s2)) W := fun W h => ⟨conv_str (Hp1.out.below h), conv_str (Hp2.out.below h)⟩
    have Key := hid key
    clear key
    by_cases h1 : k1 = k2
    · subst h1
      by_cases h3 : k1 = 1
      · subst h3
        have hd : ((strOfNums s1).toList == (strOfNums s2).toList) = true := Hse.out.trans (decide_eq_true (by rw [Hiff.out]; simp))
        go_wp2_with fail
        refine (awake_any _).mono ?_
        rintro e w6 ⟨rfl, hB6'⟩
        obtain ⟨cv1, cv2⟩ := Key.out _ hB6'
        have hB6 := hB5.trans (hB6'.mono hB5.size)
        go_wp2
        go_ret
        exact ⟨rfl, hB6⟩
      · have e3 : ((k1 : Int) == 1) = false := by simp; omega
        have H3 := hid h3
        clear h3
        by_cases h4 : E1 = E2
        · subst h4
          have hd : ((strOfNums s1).toList == (strOfNums s2).toList) = true := Hse.out.trans (decide_eq_true (by rw [Hiff.out]; simp))
          go_wp2_with fail
          refine (awake_any _).mono ?_
          rintro e w6 ⟨rfl, hB6'⟩
          obtain ⟨cv1, cv2⟩ := Key.out _ hB6'
          have hB6 := hB5.trans (hB6'.mono hB5.size)
          go_wp2
          go_ret
          exact ⟨rfl, hB6⟩
        · have e4 : ((E1 : Int) == (E2 : Int)) = false := by simp; omega
          have hd : ((strOfNums s1).toList == (strOfNums s2).toList) = false := Hse.out.trans (decide_eq_false (by rw [Hiff.out]; rintro ⟨_, _, h | h⟩; exact H3.out h; exact h4 h))
          have H4 := hid h4
          clear h4
          go_wp2_with fail
          refine (awake_any _).mono ?_
          rintro e w6 ⟨rfl, hB6'⟩
          obtain ⟨cv1, cv2⟩ := Key.out _ hB6'
          have hB6 := hB5.trans (hB6'.mono hB5.size)
          go_wp2
          go_ret
          exact ⟨rfl, hB6⟩
    · have e0 : ((k1 : Int) == (k2 : Int)) = false := by simp; omega
      have hd : ((strOfNums s1).toList == (strOfNums s2).toList) = false := Hse.out.trans (decide_eq_false (by rw [Hiff.out]; rintro ⟨h, _⟩; exact h1 h))
      have H1 := hid h1
      clear h1
      go_wp2_with fail
      refine (awake_any _).mono ?_
      rintro e w6 ⟨rfl, hB6'⟩
      obtain ⟨cv1, cv2⟩ := Key.out _ hB6'
      have hB6 := hB5.trans (hB6'.mono hB5.size)
      go_wp2
      go_ret
      exact ⟨rfl, hB6⟩
  · go_enter Try.func3, Try.ntmps3
    go_wp2_with fail
    refine (HM1.out 0 w).mono ?_
    rintro e w1 ⟨rfl, rfl⟩
    go_wp2_with fail
    refine (HC1.out 0 w1 (by decide)).mono ?_
    rintro e w2 ⟨v2, rfl, ho2, hB2⟩
    go_wp2_with fail
    refine (HM2.out 1 w2).mono ?_
    rintro e w3 ⟨rfl, rfl⟩
    go_wp2_with fail
    refine (HC2.out 1 w3 (by decide)).mono ?_
    rintro e w4 ⟨v4, rfl, ho4, hB4⟩
    obtain ⟨P1, q1, e1, hq1, hp1⟩ := ho2.reads (msg_isB _ _ _)
    obtain ⟨P2, q2, e2, hq2, hp2⟩ := ho4.reads (msg_isB _ _ _)
    rw [msg_len] at e1 hq1 hp1
    rw [msg_len] at e2 hq2 hp2
    subst e1 e2
    have hp1' := hp1.below hB4
    have hB5 := hB2.trans (hB4.mono hB2.size)
    have hiff := apart_iff (f1 := 0) (f2 := 1) l1 l2 (by decide) (by decide) g1 g2
    have hse := str_eq (msg_isB k1 0 (epN k1 E1)) (msg_isB k2 1 (epN k2 E2))
    generalize msg k1 0 (epN k1 E1) = s1 at *
    generalize msg k2 1 (epN k2 E2) = s2 at *
    have Hiff := hid hiff
    have Hse := hid hse
    have Hp1 := hid hp1'
    have Hp2 := hid hp2
    clear hiff hse hp1 hp1' hp2 ho2 ho4 hB2 hB4
    go_upto_region 9 with (fail)
    have key : ∀ W, Below w4.heap.size w4 W → (convert 23 9 (.slice P1 12 q1)).run Try.prog W = .ok (.string (strOfNums s1)) W ∧ (convert 23 9 (.slice P2 12 q2)).run Try.prog W = .ok (.string (strOfNums s2)) W := fun W h => ⟨conv_str (Hp1.out.below h), conv_str (Hp2.out.below h)⟩
    have Key := hid key
    clear key
    by_cases h1 : k1 = k2
    · subst h1
      by_cases h3 : k1 = 1
      · subst h3
        have hd : ((strOfNums s1).toList == (strOfNums s2).toList) = false := Hse.out.trans (decide_eq_false (by rw [Hiff.out]; simp))
        go_wp2_with fail
        refine (awake_any _).mono ?_
        rintro e w6 ⟨rfl, hB6'⟩
        obtain ⟨cv1, cv2⟩ := Key.out _ hB6'
        have hB6 := hB5.trans (hB6'.mono hB5.size)
        go_wp2
        go_ret
        exact ⟨rfl, hB6⟩
      · have e3 : ((k1 : Int) == 1) = false := by simp; omega
        have H3 := hid h3
        clear h3
        by_cases h4 : E1 = E2
        · subst h4
          have hd : ((strOfNums s1).toList == (strOfNums s2).toList) = false := Hse.out.trans (decide_eq_false (by rw [Hiff.out]; simp))
          go_wp2_with fail
          refine (awake_any _).mono ?_
          rintro e w6 ⟨rfl, hB6'⟩
          obtain ⟨cv1, cv2⟩ := Key.out _ hB6'
          have hB6 := hB5.trans (hB6'.mono hB5.size)
          go_wp2
          go_ret
          exact ⟨rfl, hB6⟩
        · have e4 : ((E1 : Int) == (E2 : Int)) = false := by simp; omega
          have hd : ((strOfNums s1).toList == (strOfNums s2).toList) = false := Hse.out.trans (decide_eq_false (by rw [Hiff.out]; rintro ⟨_, _, h | h⟩; exact H3.out h; exact h4 h))
          have H4 := hid h4
          clear h4
          go_wp2_with fail
          refine (awake_any _).mono ?_
          rintro e w6 ⟨rfl, hB6'⟩
          obtain ⟨cv1, cv2⟩ := Key.out _ hB6'
          have hB6 := hB5.trans (hB6'.mono hB5.size)
          go_wp2
          go_ret
          exact ⟨rfl, hB6⟩
    · have e0 : ((k1 : Int) == (k2 : Int)) = false := by simp; omega
      have hd : ((strOfNums s1).toList == (strOfNums s2).toList) = false := Hse.out.trans (decide_eq_false (by rw [Hiff.out]; rintro ⟨h, _⟩; exact h1 h))
      have H1 := hid h1
      clear h1
      go_wp2_with fail
      refine (awake_any _).mono ?_
      rintro e w6 ⟨rfl, hB6'⟩
      obtain ⟨cv1, cv2⟩ := Key.out _ hB6'
      have hB6 := hB5.trans (hB6'.mono hB5.size)
      go_wp2
      go_ret
      exact ⟨rfl, hB6⟩
  · go_enter Try.func3, Try.ntmps3
    go_wp2_with fail
    refine (HM1.out 1 w).mono ?_
    rintro e w1 ⟨rfl, rfl⟩
    go_wp2_with fail
    refine (HC1.out 1 w1 (by decide)).mono ?_
    rintro e w2 ⟨v2, rfl, ho2, hB2⟩
    go_wp2_with fail
    refine (HM2.out 0 w2).mono ?_
    rintro e w3 ⟨rfl, rfl⟩
    go_wp2_with fail
    refine (HC2.out 0 w3 (by decide)).mono ?_
    rintro e w4 ⟨v4, rfl, ho4, hB4⟩
    obtain ⟨P1, q1, e1, hq1, hp1⟩ := ho2.reads (msg_isB _ _ _)
    obtain ⟨P2, q2, e2, hq2, hp2⟩ := ho4.reads (msg_isB _ _ _)
    rw [msg_len] at e1 hq1 hp1
    rw [msg_len] at e2 hq2 hp2
    subst e1 e2
    have hp1' := hp1.below hB4
    have hB5 := hB2.trans (hB4.mono hB2.size)
    have hiff := apart_iff (f1 := 1) (f2 := 0) l1 l2 (by decide) (by decide) g1 g2
    have hse := str_eq (msg_isB k1 1 (epN k1 E1)) (msg_isB k2 0 (epN k2 E2))
    generalize msg k1 1 (epN k1 E1) = s1 at *
    generalize msg k2 0 (epN k2 E2) = s2 at *
    have Hiff := hid hiff
    have Hse := hid hse
    have Hp1 := hid hp1'
    have Hp2 := hid hp2
    clear hiff hse hp1 hp1' hp2 ho2 ho4 hB2 hB4
    go_upto_region 9 with (fail)
    have key : ∀ W, Below w4.heap.size w4 W → (convert 23 9 (.slice P1 12 q1)).run Try.prog W = .ok (.string (strOfNums s1)) W ∧ (convert 23 9 (.slice P2 12 q2)).run Try.prog W = .ok (.string (strOfNums s2)) W := fun W h => ⟨conv_str (Hp1.out.below h), conv_str (Hp2.out.below h)⟩
    have Key := hid key
    clear key
    by_cases h1 : k1 = k2
    · subst h1
      by_cases h3 : k1 = 1
      · subst h3
        have hd : ((strOfNums s1).toList == (strOfNums s2).toList) = false := Hse.out.trans (decide_eq_false (by rw [Hiff.out]; simp))
        go_wp2_with fail
        refine (awake_any _).mono ?_
        rintro e w6 ⟨rfl, hB6'⟩
        obtain ⟨cv1, cv2⟩ := Key.out _ hB6'
        have hB6 := hB5.trans (hB6'.mono hB5.size)
        go_wp2
        go_ret
        exact ⟨rfl, hB6⟩
      · have e3 : ((k1 : Int) == 1) = false := by simp; omega
        have H3 := hid h3
        clear h3
        by_cases h4 : E1 = E2
        · subst h4
          have hd : ((strOfNums s1).toList == (strOfNums s2).toList) = false := Hse.out.trans (decide_eq_false (by rw [Hiff.out]; simp))
          go_wp2_with fail
          refine (awake_any _).mono ?_
          rintro e w6 ⟨rfl, hB6'⟩
          obtain ⟨cv1, cv2⟩ := Key.out _ hB6'
          have hB6 := hB5.trans (hB6'.mono hB5.size)
          go_wp2
          go_ret
          exact ⟨rfl, hB6⟩
        · have e4 : ((E1 : Int) == (E2 : Int)) = false := by simp; omega
          have hd : ((strOfNums s1).toList == (strOfNums s2).toList) = false := Hse.out.trans (decide_eq_false (by rw [Hiff.out]; rintro ⟨_, _, h | h⟩; exact H3.out h; exact h4 h))
          have H4 := hid h4
          clear h4
          go_wp2_with fail
          refine (awake_any _).mono ?_
          rintro e w6 ⟨rfl, hB6'⟩
          obtain ⟨cv1, cv2⟩ := Key.out _ hB6'
          have hB6 := hB5.trans (hB6'.mono hB5.size)
          go_wp2
          go_ret
          exact ⟨rfl, hB6⟩
    · have e0 : ((k1 : Int) == (k2 : Int)) = false := by simp; omega
      have hd : ((strOfNums s1).toList == (strOfNums s2).toList) = false := Hse.out.trans (decide_eq_false (by rw [Hiff.out]; rintro ⟨h, _⟩; exact h1 h))
      have H1 := hid h1
      clear h1
      go_wp2_with fail
      refine (awake_any _).mono ?_
      rintro e w6 ⟨rfl, hB6'⟩
      obtain ⟨cv1, cv2⟩ := Key.out _ hB6'
      have hB6 := hB5.trans (hB6'.mono hB5.size)
      go_wp2
      go_ret
      exact ⟨rfl, hB6⟩
  · go_enter Try.func3, Try.ntmps3
    go_wp2_with fail
    refine (HM1.out 1 w).mono ?_
    rintro e w1 ⟨rfl, rfl⟩
    go_wp2_with fail
    refine (HC1.out 1 w1 (by decide)).mono ?_
    rintro e w2 ⟨v2, rfl, ho2, hB2⟩
    go_wp2_with fail
    refine (HM2.out 1 w2).mono ?_
    rintro e w3 ⟨rfl, rfl⟩
    go_wp2_with fail
    refine (HC2.out 1 w3 (by decide)).mono ?_
    rintro e w4 ⟨v4, rfl, ho4, hB4⟩
    obtain ⟨P1, q1, e1, hq1, hp1⟩ := ho2.reads (msg_isB _ _ _)
    obtain ⟨P2, q2, e2, hq2, hp2⟩ := ho4.reads (msg_isB _ _ _)
    rw [msg_len] at e1 hq1 hp1
    rw [msg_len] at e2 hq2 hp2
    subst e1 e2
    have hp1' := hp1.below hB4
    have hB5 := hB2.trans (hB4.mono hB2.size)
    have hiff := apart_iff (f1 := 1) (f2 := 1) l1 l2 (by decide) (by decide) g1 g2
    have hse := str_eq (msg_isB k1 1 (epN k1 E1)) (msg_isB k2 1 (epN k2 E2))
    generalize msg k1 1 (epN k1 E1) = s1 at *
    generalize msg k2 1 (epN k2 E2) = s2 at *
    have Hiff := hid hiff
    have Hse := hid hse
    have Hp1 := hid hp1'
    have Hp2 := hid hp2
    clear hiff hse hp1 hp1' hp2 ho2 ho4 hB2 hB4
    go_upto_region 9 with (fail)
    have key : ∀ W, Below w4.heap.size w4 W → (convert 23 9 (.slice P1 12 q1)).run Try.prog W = .ok (.string (strOfNums s1)) W ∧ (convert 23 9 (.slice P2 12 q2)).run Try.prog W = .ok (.string (strOfNums s2)) W := fun W h => ⟨conv_str (Hp1.out.below h), conv_str (Hp2.out.below h)⟩
    have Key := hid key
    clear key
    by_cases h1 : k1 = k2
    · subst h1
      by_cases h3 : k1 = 1
      · subst h3
        have hd : ((strOfNums s1).toList == (strOfNums s2).toList) = true := Hse.out.trans (decide_eq_true (by rw [Hiff.out]; simp))
        go_wp2_with fail
        refine (awake_any _).mono ?_
        rintro e w6 ⟨rfl, hB6'⟩
        obtain ⟨cv1, cv2⟩ := Key.out _ hB6'
        have hB6 := hB5.trans (hB6'.mono hB5.size)
        go_wp2
        go_ret
        exact ⟨rfl, hB6⟩
      · have e3 : ((k1 : Int) == 1) = false := by simp; omega
        have H3 := hid h3
        clear h3
        by_cases h4 : E1 = E2
        · subst h4
          have hd : ((strOfNums s1).toList == (strOfNums s2).toList) = true := Hse.out.trans (decide_eq_true (by rw [Hiff.out]; simp))
          go_wp2_with fail
          refine (awake_any _).mono ?_
          rintro e w6 ⟨rfl, hB6'⟩
          obtain ⟨cv1, cv2⟩ := Key.out _ hB6'
          have hB6 := hB5.trans (hB6'.mono hB5.size)
          go_wp2
          go_ret
          exact ⟨rfl, hB6⟩
        · have e4 : ((E1 : Int) == (E2 : Int)) = false := by simp; omega
          have hd : ((strOfNums s1).toList == (strOfNums s2).toList) = false := Hse.out.trans (decide_eq_false (by rw [Hiff.out]; rintro ⟨_, _, h | h⟩; exact H3.out h; exact h4 h))
          have H4 := hid h4
          clear h4
          go_wp2_with fail
          refine (awake_any _).mono ?_
          rintro e w6 ⟨rfl, hB6'⟩
          obtain ⟨cv1, cv2⟩ := Key.out _ hB6'
          have hB6 := hB5.trans (hB6'.mono hB5.size)
          go_wp2
          go_ret
          exact ⟨rfl, hB6⟩
    · have e0 : ((k1 : Int) == (k2 : Int)) = false := by simp; omega
      have hd : ((strOfNums s1).toList == (strOfNums s2).toList) = false := Hse.out.trans (decide_eq_false (by rw [Hiff.out]; rintro ⟨h, _⟩; exact h1 h))
      have H1 := hid h1
      clear h1
      go_wp2_with fail
      refine (awake_any _).mono ?_
      rintro e w6 ⟨rfl, hB6'⟩
      obtain ⟨cv1, cv2⟩ := Key.out _ hB6'
      have hB6 := hB5.trans (hB6'.mono hB5.size)
      go_wp2
      go_ret
      exact ⟨rfl, hB6⟩
end Go.Proofs.Ytmehebjkdmpigaa.Mail
