import Derived.Test.YtlaibabjnfjbpaaOctRead
set_option linter.unusedVariables false
set_option linter.unusedSimpArgs false
namespace Go.Proofs.Ytlaibabjnfjbpaa.Oct
open Go.RowKit Go.Proofs.Ytlaibabjnfjbpaa.Kit

theorem num_take_drop (xs : List Int) (c : Nat) (hc : c ≤ xs.length) : num xs = num (xs.take c) + 256 ^ c * num (xs.drop c) := by
  conv => lhs; rw [← List.take_append_drop c xs]
  rw [num_append, List.length_take, Nat.min_eq_left hc]

set_option maxHeartbeats 400000 in
theorem gets_any (n size cut : Int) (h0 : 0 ≤ n ∧ n ≤ 18446744073709551615) (h1 : 0 ≤ size ∧ size ≤ 255) (h2 : 0 ≤ cut ∧ cut ≤ 255) (w : World) :
    Calls Try.prog 4 #[.int .u64 n, .int .u8 size, .int .u8 cut] w fun e w' => e = .returned (.bool true) ∧ Below w.heap.size w w' := by
  obtain ⟨a0, a1⟩ := h0
  obtain ⟨b0, b1⟩ := h1
  obtain ⟨c0, c1⟩ := h2
  obtain ⟨n, rfl⟩ := Int.eq_ofNat_of_zero_le a0
  obtain ⟨size, rfl⟩ := Int.eq_ofNat_of_zero_le b0
  obtain ⟨cut, rfl⟩ := Int.eq_ofNat_of_zero_le c0
  obtain ⟨k, hk⟩ : ∃ k, k = 1 + size % 8 := ⟨_, rfl⟩
  obtain ⟨c, hc⟩ : ∃ c, c = cut % (k + 1) := ⟨_, rfl⟩
  have hck : c ≤ k := by have := Nat.mod_lt cut (show 0 < k + 1 by omega); omega
  have hk8 : k ≤ 8 := by omega
  have ek : (1 : Int) + (size : Int) % 8 = (k : Int) := by omega
  have ec : (cut : Int) % ((k : Int) + 1) = (c : Int) := by rw [hc, Int.natCast_emod]; rfl
  clear hk hc
  go_enter Try.func4, Try.ntmps4
  go_wp2_with fail
  refine (awake_any w).mono ?_
  rintro e w1 ⟨rfl, hB1⟩
  go_wp2_with fail
  refine (put_any w1.heap.size (.slice none 0 0) [] n k w1 (OwnB.nil _ _) (Nat.le_refl _) (by omega) hk8 (by simp)).mono ?_
  rintro e w2 ⟨v2, rfl, ho2, hg2⟩
  rw [ec]
  rw [List.nil_append] at ho2
  have hq := le_isB n k
  have hlen := le_len n k
  have Hsum := hid (num_take_drop (le n k) c (by omega))
  have hnl := num_lt64 (le n k) hq (by omega)
  generalize le n k = q at *
  obtain ⟨A, cp, rfl, hcp, hz⟩ := ho2.reads hq
  rw [hlen] at hz hcp ⊢
  have ht := hz.take c (by omega)
  have hd := hz.drop hcp c (by omega)
  have Ht := fun A1 c1 (h : Nums w2 .u8 A1 c (q.take c)) => get_any A1 c c1 _ w2 h (by omega)
  have Hd := fun A1 c1 (h : Nums w2 .u8 A1 (k - c) (q.drop c)) => get_any A1 (k - c) c1 _ w2 h (by omega)
  have Hq := fun A1 c1 (h : Nums w2 .u8 A1 k q) => get_any A1 k c1 _ w2 h (by omega)
  have hBel : Below w.heap.size w w2 := hg2.below hB1 hB1.size (by intro k hk; simp [Value.ownBlock] at hk)
  clear hg2
  have hy0 : c = k → num (q.drop c) = 0 := fun e => by rw [List.drop_eq_nil_of_le (by omega)]; rfl
  generalize num (q.take c) = x at *
  generalize num (q.drop c) = y at *
  generalize num q = z at *
  generalize hA2 : (if cp = c then A else A.map (·.add c)) = A2 at *
  have hc2 : (c : Int) ≤ (k : Int) := by omega
  go_wp2_with fail
  refine (Ht A cp ht).mono ?_
  rintro e w3 ⟨rfl, rfl⟩
  clear Ht ht
  go_wp2_with fail
  refine (Hd A2 (cp - c) hd).mono ?_
  rintro e w3 ⟨rfl, rfl⟩
  clear Hd hd
  by_cases h8 : c < 8
  · have hb : ((256 ^ c * y : Nat) : Int) = (y : Int) * 2 ^ (8 * c) := by
      rw [show (256 : Nat) ^ c = 2 ^ (8 * c) by rw [Nat.pow_mul], Nat.mul_comm]
      push_cast; rfl
    have hs := Hsum.out
    have hw : IntKind.u64.wrap ((y : Int) * 2 ^ (8 * c)) = ((256 ^ c * y : Nat) : Int) := by
      rw [← hb, IntWalk.u64_in _ (by omega)]
    generalize 256 ^ c * y = t at *
    clear hb
    subst hs
    go_wp2_with fail
    refine (Hq A cp hz).mono ?_
    rintro e w3 ⟨rfl, rfl⟩
    go_wp2
    go_ret
    exact ⟨by simp, hBel⟩
  · go_wp2_with fail
    refine (Hq A cp hz).mono ?_
    rintro e w3 ⟨rfl, rfl⟩
    have hs := Hsum.out
    rw [hy0 (by omega), Nat.mul_zero, Nat.add_zero] at hs
    subst hs
    go_wp2
    go_ret
    exact ⟨by simp, hBel⟩

theorem nil_any (size most : Int) (h0 : 0 ≤ size ∧ size ≤ 255) (h1 : 0 ≤ most ∧ most ≤ 18446744073709551615) (w : World) :
    Calls Try.prog 8 #[.int .u8 size, .int .u64 most] w fun e w' => e = .returned (.bool true) ∧ Below w.heap.size w w' := by
  obtain ⟨b0, b1⟩ := h0
  go_enter Try.func8, Try.ntmps8
  go_wp2_with fail
  refine (awake_any w).mono ?_
  rintro e w1 ⟨rfl, hB1⟩
  go_wp2_with fail
  refine (bad_nil w1).mono ?_
  rintro e w2 ⟨rfl, rfl⟩
  go_wp2_with fail
  refine (end_nil w2).mono ?_
  rintro e w3 ⟨rfl, rfl⟩
  go_wp2_with fail
  refine (num_nil _ _ w3).mono ?_
  rintro e w4 ⟨rfl, rfl⟩
  go_wp2_with fail
  refine (rbytes_nil _ w4).mono ?_
  rintro e w5 ⟨rfl, rfl⟩
  go_wp2
  go_ret
  exact ⟨rfl, hB1⟩

theorem numSt_one (xs : List Int) (hx : IsB xs) (h : 0 < xs.length) : numSt false xs 1 255 = (num (xs.take 1), false, xs.drop 1) := by
  have ht : takeSt false xs 1 = (xs.take 1, false, xs.drop 1) := if_neg (by rintro (h | h); cases h; omega)
  have hn : num (xs.take 1) < 256 := by
    have hn := num_lt (xs.take 1) (isB_take hx 1)
    rw [List.length_take, Nat.min_eq_left (show 1 ≤ xs.length by omega)] at hn
    exact hn
  unfold numSt
  rw [ht]
  exact if_neg (show ¬ 255 < num (xs.take 1) by omega)
theorem numSt_empty (k most : Nat) (hk : 0 < k) : numSt false [] k most = (0, true, []) := by
  have ht : takeSt false [] k = ([], true, []) := if_pos (.inr hk)
  unfold numSt
  rw [ht]
  exact if_neg (show ¬ most < 0 by omega)
theorem bytesSt_bad (xs : List Int) (most : Nat) : bytesSt true xs most = ([], true, xs) := by
  have ht : ∀ k, takeSt true xs k = ([], true, xs) := fun k => if_pos (.inl rfl)
  have hn : numSt true xs 2 most = (0, true, xs) := by
    unfold numSt
    rw [ht]
    exact if_neg (show ¬ most < 0 by omega)
  unfold bytesSt
  rw [hn]
  exact ht 0

theorem Rd.drewN {w : World} {b : Nat} {bad : Bool} {xs : List Int} (h : Rd w b bad xs) (n : Nat) : Rd (w.drewN n) b bad xs := by
  obtain ⟨A, m, c, hb, hz, r⟩ := h
  exact ⟨A, m, c, hb, hz.drewN n, r⟩
theorem Rd.drew {w : World} {b : Nat} {bad : Bool} {xs : List Int} (h : Rd w b bad xs) : Rd w.drew b bad xs := h.drewN 1
theorem num_one (xs : List Int) (hx : IsB xs) (k : Nat) (hk : k < xs.length) : ((num ((xs.drop k).take 1) : Nat) : Int) = xs.getD k 0 := by
  have h : (xs.drop k).take 1 = [xs.getD k 0] := by
    rw [List.drop_eq_getElem_cons hk, List.getD_eq_getElem?_getD, List.getElem?_eq_getElem hk]
    rfl
  rw [h]
  have := hx (xs.getD k 0) (by rw [List.getD_eq_getElem?_getD, List.getElem?_eq_getElem hk]; exact List.getElem_mem _)
  simp only [num]
  omega

set_option maxHeartbeats 1000000 in
theorem ends_any (A : Option Addr) (n c : Nat) (xs : List Int) (size : Int) (h1 : 0 ≤ size ∧ size ≤ 255) (w : World) (hz : Nums w .u8 A n xs) (hnc : n ≤ c) :
    Calls Try.prog 11 #[.slice A n c, .int .u8 size] w fun e w' => e = .returned (.bool true) ∧ Below w.heap.size w w' := by
  obtain ⟨a0, a1⟩ := h1
  obtain ⟨q, rfl⟩ := Int.eq_ofNat_of_zero_le a0
  have hn := hz.most
  go_enter Try.func11, Try.ntmps11
  go_wp2_with fail
  refine (awake_any w).mono ?_
  rintro e w1 ⟨rfl, hB1⟩
  by_cases hb : 200 < n
  · go_wp2_with fail
    refine (awake_any w1).mono ?_
    rintro e w2 ⟨rfl, hB2⟩
    go_wp2
    go_ret
    exact ⟨rfl, below_step hB1 hB1.size hB2⟩
  · have hz1 := hz.below hB1
    go_wp2_with fail
    refine (read_any A n c xs w1 hz1 hnc).mono ?_
    rintro e w2 ⟨rfl, hr2, hB2⟩
    have hgb := hB1.size
    have hz2 := hz1.below hB2
    have hBw := below_step hB1 hgb hB2
    generalize w1.heap.size = b at *
    have Hx := hid (isB_of hz)
    have Hl := hid hz.len
    have hab := hz.low
    clear hz hz1 hB1 hB2
    go_wp2
    go_loopw [6] (fun i w' => ∃ k : Nat, k ≤ n ∧ i = .int .i64 (k : Int) ∧ Rd w' b false (xs.drop k) ∧ Nums w' .u8 A n xs ∧ Below w.heap.size w w') (fun i _ => n - (intOf i).toNat)
    case atStart => exact ⟨0, by omega, rfl, by simpa using hr2, hz2, hBw⟩
    case round =>
      clear hr2 hz2 hBw
      obtain ⟨k, hk, rfl, hr, hz, hB⟩ := hrel
      by_cases hlt : k < n
      · obtain ⟨bz, oz, rfl, hc⟩ := hz.at_ k hlt
        have hne : some bz ≠ some b := by intro e; injection e with e; have := hab (by omega) _ rfl; simp at this; omega
        have hx2 := hz.wf_at k hlt
        obtain ⟨hx0, hx1⟩ := wf_u8 hx2
        have Hnum : ∀ W, Rd W b false (xs.drop k) → Calls Try.prog 24 #[.pointer (some ⟨b, 0, none⟩), .int .i64 1, .int .u64 255] W fun e w' => e = .returned (.int .u64 (xs.getD k 0)) ∧ Rd w' b false (xs.drop (k + 1)) ∧ W.grownBy w' (some b) := by
          intro W hW
          have h := num_any b false (xs.drop k) 1 255 W hW (by omega) (by omega)
          rw [numSt_one _ (isB_drop Hx.out k) (by rw [List.length_drop, Hl.out]; omega)] at h
          have e1 := num_one xs Hx.out k (by rw [Hl.out]; exact hlt)
          rw [e1, List.drop_drop] at h
          exact h
        have Hz := hid hz
        have hbl := hr.lt
        clear hz
        generalize xs.getD k 0 = x at *
        go_wp2
        have hwx : IntKind.u64.wrap x = x := IntWalk.u64_in _ (by omega)
        have hxx : (x != x) = false := by simp
        go_region_held3 (fun w' => w'.cell? ⟨bz, oz + k, none⟩ = some (.int .u8 x)) (first | exact hg6.cell (w := wr.drew) hc hne | exact hc)
          (((with_reducible refine (Hnum _ ?hz).mono ?_); (case hz => exact hr.drew); rintro e w6 ⟨rfl, hr6, hg6⟩))
        clear hwx hxx
        go_wp2
        go_roundw
        case rel => exact ⟨k + 1, by omega, by go_num, hr6, (Hz.out.drew).grown hg6 (by intro _ a e; injection e with e; subst e; exact hne), (hB.drewB 1).grown hg6 hB.size (by intro k hk; injection hk with hk; omega)⟩
        case measure => simp [intOf]; omega
      · obtain rfl : k = n := by omega
        have hdr : xs.drop k = [] := List.drop_eq_nil_of_le (by have := Hl.out; omega)
        rw [hdr] at hr
        clear hdr
        go_wp2_with fail
        refine (end_any b false [] wr hr).mono ?_
        rintro e w3 ⟨rfl, rfl⟩
        obtain ⟨m, hm⟩ : ∃ m, m = 1 + q % 8 := ⟨_, rfl⟩
        have em : (1 : Int) + (q : Int) % 8 = (m : Int) := by omega
        have hm8 : m ≤ 8 := by omega
        have hm0 : 0 < m := by omega
        clear hm
        go_wp2_with fail
        refine (num_any b false [] m 18446744073709551615 w3 hr hm8 (by omega)).mono ?_
        rw [numSt_empty m _ hm0]
        rintro e w4 ⟨rfl, hr4, hg4⟩
        go_wp2_with fail
        refine (bad_any b true [] w4 hr4).mono ?_
        rintro e w5 ⟨rfl, rfl⟩
        go_wp2_with fail
        refine (end_any b true [] w5 hr4).mono ?_
        rintro e w6 ⟨rfl, rfl⟩
        go_wp2_with fail
        refine (rbytes_any b true [] 9 w6 hr4 (by omega)).mono ?_
        rw [bytesSt_bad]
        rintro e w7 ⟨v, rfl, ho7, hr7, hg7⟩
        obtain ⟨vA, vc, rfl⟩ := own_slice ho7
        go_wp2
        go_ret
        have hBf : ∀ W W', Below w.heap.size w W → W.grownBy W' (some b) → Below w.heap.size w W' := fun W W' h1 h2 => h1.grown h2 h1.size (by intro k hk; injection hk with hk; omega)
        exact ⟨rfl, hBf _ _ (hBf _ _ hB hg4) hg7⟩

theorem law_gets (n : Int) (h0 : 0 ≤ n ∧ n ≤ 18446744073709551615) (size : Int) (h1 : 0 ≤ size ∧ size ≤ 255) (cut : Int) (h2 : 0 ≤ cut ∧ cut ≤ 255) (w : World) :
    Calls Try.prog 4 #[.int .u64 n, .int .u8 size, .int .u8 cut] w fun e w' => e = .returned (.bool true) ∧ Below w.heap.size w w' :=
  gets_any n size cut h0 h1 h2 w
theorem law_nil (size : Int) (h0 : 0 ≤ size ∧ size ≤ 255) (most : Int) (h1 : 0 ≤ most ∧ most ≤ 18446744073709551615) (w : World) :
    Calls Try.prog 8 #[.int .u8 size, .int .u64 most] w fun e w' => e = .returned (.bool true) ∧ Below w.heap.size w w' :=
  nil_any size most h0 h1 w
theorem law_ends (A : Option Addr) (n c : Nat) (xs : List Int) (size : Int) (h1 : 0 ≤ size ∧ size ≤ 255) (w : World) (hz : n ≤ c ∧ Nums w .u8 A n xs) :
    Calls Try.prog 11 #[.slice A n c, .int .u8 size] w fun e w' => e = .returned (.bool true) ∧ Below w.heap.size w w' :=
  ends_any A n c xs size h1 w hz.2 hz.1
end Go.Proofs.Ytlaibabjnfjbpaa.Oct
