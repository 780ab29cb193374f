import Derived.Test.YtlaibabjnfjbpaaOctLaws
set_option linter.unusedVariables false
set_option linter.unusedSimpArgs false
namespace Go.Proofs.Ytlaibabjnfjbpaa.Oct
open Go.RowKit Go.Proofs.Ytlaibabjnfjbpaa.Kit

theorem strOf_append (xs ys : List Int) : strOfNums xs ++ strOfNums ys = strOfNums (xs ++ ys) := by
  apply ByteArray.ext
  simp [strOfNums, ByteArray.data_append]

theorem strOf_size (xs : List Int) : (strOfNums xs).size = xs.length := by
  simp [strOfNums, ByteArray.size]

set_option maxRecDepth 100000 in
set_option maxHeartbeats 4000000 in
theorem law_numbers (A : Option Addr) (n c : Nat) (xs : List Int) (x : Int) (h1 : 0 ≤ x ∧ x ≤ 18446744073709551615) (size : Int) (h2 : 0 ≤ size ∧ size ≤ 255) (w : World) (hz : n ≤ c ∧ Nums w .u8 A n xs) :
    Calls Try.prog 3 #[.slice A n c, .int .u64 x, .int .u8 size] w fun e w' => e = .returned (.bool true) ∧ Below w.heap.size w w' := by
  obtain ⟨hc, hz⟩ := hz
  have hn := hz.most
  obtain ⟨a0, a1⟩ := h1
  obtain ⟨b0, b1⟩ := h2
  obtain ⟨x, rfl⟩ := Int.eq_ofNat_of_zero_le a0
  obtain ⟨q, rfl⟩ := Int.eq_ofNat_of_zero_le b0
  obtain ⟨k, hk⟩ : ∃ k, k = 1 + q % 8 := ⟨_, rfl⟩
  have hk8 : k ≤ 8 := by omega
  have hk1 : 1 ≤ k := by omega
  have ek : (1 : Int) + (q : Int) % 8 = (k : Int) := by omega
  clear hk
  by_cases hb : 500 < n
  · go_enter Try.func3, Try.ntmps3
    go_wp2_with fail
    refine (awake_any w).mono ?_
    rintro e w1 ⟨rfl, hB1⟩
    go_wp2_with fail
    refine (awake_any w1).mono ?_
    rintro e w2 ⟨rfl, hB2⟩
    go_wp2
    go_ret
    exact ⟨rfl, below_step hB1 hB1.size hB2⟩
  · go_enter Try.func3, Try.ntmps3
    go_wp2_with fail
    refine (awake_any w).mono ?_
    rintro e w1 ⟨rfl, hB1⟩
    have hz1 := hz.below hB1
    go_wp2_with (at_builtin; refine append_nums w1.heap.size rfl _ _ 22 5 .u8 1 rfl Try.underlying22 info5 _ 0 [] A n c xs (by rfl) (by rfl) (World.ownsRow_nil _ _ _ _) hz1 (Nat.le_refl _) (by omega) (by omega) ?_; intro v2 w2 hown hgr hat)
    have ho2 : OwnB w2 w1.heap.size v2 xs := by
      unfold OwnB
      rw [hz.len]
      rw [List.nil_append, Nat.zero_add] at hown
      exact hown
    have hB2 : Below w.heap.size w w2 := hB1.grown hgr hB1.size (by intro k hk; simp [Value.ownBlock] at hk)
    have hs2 : w1.heap.size ≤ w2.heap.size := hgr.size
    clear hown hgr hat
    refine (put_any w1.heap.size v2 xs x k w2 ho2 hs2 (by omega) hk8 (by have := hz.len; omega)).mono ?_
    rintro e w3 ⟨v3, rfl, ho3, hg3⟩
    have hB3 : Below w.heap.size w w3 := hg3.below hB2 hB2.size (fun j hj => Nat.le_trans hB1.size (ho2.lt j hj).1)
    clear hg3
    have hQ : IsB (xs ++ le x k) := isB_append (isB_of hz) (le_isB _ _)
    have hdrop : (xs ++ le x k).drop n = le x k := by rw [← hz.len]; exact List.drop_left ..
    have hl := hz.len
    obtain ⟨L, hL⟩ : ∃ L, L = n + k := ⟨_, rfl⟩
    have hlen : (xs ++ le x k).length = L := by rw [List.length_append, le_len, hl, hL]
    have hap := strOf_append xs (le x k)
    have hnum := num_le x k
    have G3 : ∀ W, Calls Try.prog 14 #[.int .u64 (x : Int), .int .i64 (k : Int)] W fun e w' => ∃ v', e = .returned v' ∧ OwnB w' W.heap.size v' (le x k) ∧ Below W.heap.size W w' := fun W => rput_any x k W (by omega) hk8
    have hsz : ¬ 9223372036854775807 < (strOfNums xs).size + (strOfNums (le x k)).size := by
      rw [strOf_size, strOf_size, le_len]
      have := hz.len
      omega
    have hle := le_isB x k
    have hll := le_len x k
    generalize hq : xs ++ le x k = Q at *
    have hql : num (le x k) < 256 ^ k := by have := num_lt _ hle; rw [hll] at this; exact this
    generalize le x k = ls at *
    obtain ⟨A3, c3, e3, hc3, hz3⟩ := ho3.reads hQ
    rw [hlen] at e3 hc3 hz3
    subst e3
    have hd3 := hz3.drop hc3 n (by omega)
    rw [hdrop, show L - n = k by omega] at hd3
    generalize hA4 : (if c3 = n then A3 else A3.map (·.add n)) = A4 at *
    have f1 : (0 : Int) ≤ (n : Int) := by omega
    have f2 : (n : Int) ≤ (L : Int) := by omega
    have f3 : L - n = k := by omega
    clear hq ho3 hlen hdrop hQ hL hl
    have cv : ∀ W, Below w3.heap.size w3 W → ((convert 22 9 (.slice A3 L c3)).run Try.prog W = .ok (.string (strOfNums Q)) W ∧ (convert 22 9 (.slice A n c)).run Try.prog W = .ok (.string (strOfNums xs)) W) := fun W hW => ⟨conv_str (hz3.below hW), conv_str ((hz.below hB3).below hW)⟩
    have Gq : ∀ W, Below w3.heap.size w3 W → Calls Try.prog 15 #[.slice A4 k (c3 - n)] W fun e w' => e = .returned (.int .u64 ((num ls : Nat) : Int)) ∧ w' = W := fun W hW => get_any A4 k (c3 - n) ls W (hd3.below hW) hk8
    have Gn : ∀ W, Calls Try.prog 15 #[.slice none 0 0] W fun e w' => e = .returned (.int .u64 0) ∧ w' = W := fun W => get_any none 0 0 [] W (Nums.none _ _ _) (by omega)
    generalize num ls = v at *
    have Hcv := hid cv
    have HGq := hid Gq
    have HGn := hid Gn
    have HG3 := hid G3
    have HB := hid hB3
    have Hle := hid hle
    have Hll := hid hll
    clear cv Gq Gn G3 hz hz1 hz3 hd3 hB1 hB2 hB3 ho2 hle hll
    have hpw : (256 : Nat) ^ k = 2 ^ (8 * k) := by rw [Nat.pow_mul]
    rw [hpw] at hnum hql
    by_cases h8 : k < 8
    · have hp64 : 2 ^ (8 * k) < 2 ^ 64 := Nat.pow_lt_pow_right (by decide) (by omega)
      have hmask := (bits_nat .u64 64 (by decide) (fun n h0 h1 => IntWalk.u64_in n ⟨h0, by have : n < 18446744073709551616 := h1; omega⟩) x (2 ^ (8 * k) - 1) (by omega) (by omega)).1
      rw [Nat.and_two_pow_sub_one_eq_mod, ← hnum] at hmask
      have hk8' : (k : Int) < 8 := by omega
      have Hmask := hid hmask
      have hpp := Nat.two_pow_pos (8 * k)
      have hw1 : IntKind.u64.wrap ((2 : Int) ^ (8 * k)) = ((2 ^ (8 * k) : Nat) : Int) := by
        have e : (2 : Int) ^ (8 * k) = ((2 ^ (8 * k) : Nat) : Int) := by rw [Int.natCast_pow]; rfl
        rw [e]
        generalize 2 ^ (8 * k) = y at *
        exact IntWalk.u64_in _ (by omega)
      have HW : Hid (bits .and .u64 (x : Int) (IntKind.u64.wrap (IntKind.u64.wrap ((2 : Int) ^ (8 * k)) - 1)) = (v : Int)) := by
        rw [hw1]
        have e : ((2 ^ (8 * k) : Nat) : Int) - 1 = ((2 ^ (8 * k) - 1 : Nat) : Int) := by
          generalize 2 ^ (8 * k) = y at *
          omega
        have e2 : IntKind.u64.wrap ((2 ^ (8 * k) - 1 : Nat) : Int) = ((2 ^ (8 * k) - 1 : Nat) : Int) := IntWalk.u64_in _ (by omega)
        rw [e, e2]
        exact hmask
      clear hw1 hmask Hmask hpp hp64 hnum hql hpw
      go_wp2
      rw [HW.out]
      have hvv : ((v : Int) == (v : Int)) = true := by simp
      refine wp_region_held_drew (S := (fun w' => (convert 22 9 (.slice A3 L c3)).run Try.prog w' = .ok (.string (strOfNums Q)) w' ∧ (convert 22 9 (.slice A n c)).run Try.prog w' = .ok (.string (strOfNums xs)) w')) (by kernel_rfl) ?hSnewpz (fun hHeld => ?restpz)
      case hSnewpz => ((try dsimp only); exact Hcv.out _ (below_drewN (Below.refl _ _) 1))
      refine wpAnyH_take (i := 0) (oi := ?oipx0) (v := ?vpx0) ?hopx0 ?h1px0 ?h2px0 ?h3px0 ?hqpx0 (Or.inl ⟨?h4px0, ?hypx0⟩) (by assumption) ?restpx0
      case hopx0 => (simp only [List.getElem?_toArray, List.getElem?_cons_zero, List.getElem?_cons_succ]; rfl)
      case h1px0 => kernel_rfl
      case h2px0 => kernel_rfl
      case h3px0 => kernel_rfl
      case h4px0 => rfl
      case hqpx0 => exact fun _ _ _ h => h
      case hypx0 => (intro w hSw; (try dsimp only at hSw); go_simp <;> with_reducible rfl)
      (try simp only [Act.put, List.setIfInBounds_toArray, List.set_cons_zero, List.set_cons_succ])
      refine wpAnyH_take (i := 1) (oi := ?oipx1) (v := ?vpx1) ?hopx1 ?h1px1 ?h2px1 ?h3px1 ?hqpx1 (Or.inl ⟨?h4px1, ?hypx1⟩) (by assumption) ?restpx1
      case hopx1 => (simp only [List.getElem?_toArray, List.getElem?_cons_zero, List.getElem?_cons_succ]; rfl)
      case h1px1 => kernel_rfl
      case h2px1 => kernel_rfl
      case h3px1 => kernel_rfl
      case h4px1 => rfl
      case hqpx1 => exact fun _ _ _ h => h
      case hypx1 => (intro w hSw; (try dsimp only at hSw); go_simp <;> with_reducible rfl)
      (try simp only [Act.put, List.setIfInBounds_toArray, List.set_cons_zero, List.set_cons_succ])
      refine wpAnyH_take (i := 2) (oi := ?oipx2) (v := ?vpx2) ?hopx2 ?h1px2 ?h2px2 ?h3px2 ?hqpx2 (Or.inl ⟨?h4px2, ?hypx2⟩) (by assumption) ?restpx2
      case hopx2 => (simp only [List.getElem?_toArray, List.getElem?_cons_zero, List.getElem?_cons_succ]; rfl)
      case h1px2 => kernel_rfl
      case h2px2 => kernel_rfl
      case h3px2 => kernel_rfl
      case h4px2 => rfl
      case hqpx2 => exact fun _ _ _ h => h
      case hypx2 => (intro w hSw; (try dsimp only at hSw); go_simp <;> with_reducible rfl)
      (try simp only [Act.put, List.setIfInBounds_toArray, List.set_cons_zero, List.set_cons_succ])
      refine wpAnyH_take (i := 3) (oi := ?oipx3) (v := ?vpx3) ?hopx3 ?h1px3 ?h2px3 ?h3px3 ?hqpx3 (Or.inl ⟨?h4px3, ?hypx3⟩) (by assumption) ?restpx3
      case hopx3 => (simp only [List.getElem?_toArray, List.getElem?_cons_zero, List.getElem?_cons_succ]; rfl)
      case h1px3 => kernel_rfl
      case h2px3 => kernel_rfl
      case h3px3 => kernel_rfl
      case h4px3 => rfl
      case hqpx3 => exact fun _ _ _ h => h
      case hypx3 => (intro w hSw; (try dsimp only at hSw); go_simp <;> with_reducible rfl)
      (try simp only [Act.put, List.setIfInBounds_toArray, List.set_cons_zero, List.set_cons_succ])
      refine wpAnyH_take (i := 4) (oi := ?oipx4) (v := ?vpx4) ?hopx4 ?h1px4 ?h2px4 ?h3px4 ?hqpx4 (Or.inl ⟨?h4px4, ?hypx4⟩) (by assumption) ?restpx4
      case hopx4 => (simp only [List.getElem?_toArray, List.getElem?_cons_zero, List.getElem?_cons_succ]; rfl)
      case h1px4 => kernel_rfl
      case h2px4 => kernel_rfl
      case h3px4 => kernel_rfl
      case h4px4 => rfl
      case hqpx4 => exact fun _ _ _ h => h
      case hypx4 => (intro w hSw; (try dsimp only at hSw); go_simp <;> with_reducible rfl)
      (try simp only [Act.put, List.setIfInBounds_toArray, List.set_cons_zero, List.set_cons_succ])
      refine wpAnyH_take (i := 5) (oi := ?oipx5) (v := ?vpx5) ?hopx5 ?h1px5 ?h2px5 ?h3px5 ?hqpx5 (Or.inl ⟨?h4px5, ?hypx5⟩) (by assumption) ?restpx5
      case hopx5 => (simp only [List.getElem?_toArray, List.getElem?_cons_zero, List.getElem?_cons_succ]; rfl)
      case h1px5 => kernel_rfl
      case h2px5 => kernel_rfl
      case h3px5 => kernel_rfl
      case h4px5 => rfl
      case hqpx5 => exact fun _ _ _ h => h
      case hypx5 => (intro w hSw; (try dsimp only at hSw); go_simp <;> with_reducible rfl)
      (try simp only [Act.put, List.setIfInBounds_toArray, List.set_cons_zero, List.set_cons_succ])
      refine wpAnyH_ready (rs := [6]) (by kernel_rfl) (by simp) ?_
      refine AllReadyH.cons (o := ?oipx6) ?hopx6 (fun K hK => ?restpx6) ?morepx6
      case morepx6 => exact AllReadyH.nil
      case hopx6 => (simp only [List.getElem?_toArray, List.getElem?_cons_zero, List.getElem?_cons_succ]; rfl)
      go_simp
      refine (HG3.out _).mono ?_
      rintro e w7 ⟨v7, rfl, ho7, hB7'⟩
      have hB7 := below_step (below_drewN (Below.refl w3.heap.size w3) 1) (Nat.le_refl _) hB7'
      obtain ⟨A7, c7, e7, hc7, hz7⟩ := ho7.reads Hle.out
      rw [Hll.out] at e7 hz7
      subst e7
      have hcv7 := conv_str (c := c7) hz7
      try go_wp2_with fail
      refine hK.out _ _ ?hSnewpy6 (fun hHeld => ?restpy6)
      case hSnewpy6 => ((try dsimp only); exact Hcv.out _ hB7)
      clear hK K
      (try simp only [Act.put, List.setIfInBounds_toArray, List.set_cons_zero, List.set_cons_succ])
      refine held_switch (fun w' => ((convert 22 9 (.slice A3 L c3)).run Try.prog w' = .ok (.string (strOfNums Q)) w' ∧ (convert 22 9 (.slice A n c)).run Try.prog w' = .ok (.string (strOfNums xs)) w') ∧ (convert 22 9 (.slice A7 k c7)).run Try.prog w' = .ok (.string (strOfNums ls)) w') (fun w h => h.1) ?hSnewpsa (fun hHeld => ?restpsa)
      case hSnewpsa => ((try dsimp only); exact ⟨Hcv.out _ hB7, hcv7⟩)
      refine wpAnyH_take (i := 7) (oi := ?oipx7) (v := ?vpx7) ?hopx7 ?h1px7 ?h2px7 ?h3px7 ?hqpx7 (Or.inl ⟨?h4px7, ?hypx7⟩) (by assumption) ?restpx7
      case hopx7 => (simp only [List.getElem?_toArray, List.getElem?_cons_zero, List.getElem?_cons_succ]; rfl)
      case h1px7 => kernel_rfl
      case h2px7 => kernel_rfl
      case h3px7 => kernel_rfl
      case h4px7 => rfl
      case hqpx7 => exact fun _ _ _ h => h
      case hypx7 => (intro w hSw; (try dsimp only at hSw); go_simp <;> with_reducible rfl)
      (try simp only [Act.put, List.setIfInBounds_toArray, List.set_cons_zero, List.set_cons_succ])
      refine wpAnyH_take (i := 8) (oi := ?oipx8) (v := ?vpx8) ?hopx8 ?h1px8 ?h2px8 ?h3px8 ?hqpx8 (Or.inl ⟨?h4px8, ?hypx8⟩) (by assumption) ?restpx8
      case hopx8 => (simp only [List.getElem?_toArray, List.getElem?_cons_zero, List.getElem?_cons_succ]; rfl)
      case h1px8 => kernel_rfl
      case h2px8 => kernel_rfl
      case h3px8 => kernel_rfl
      case h4px8 => rfl
      case hqpx8 => exact fun _ _ _ h => h
      case hypx8 => (intro w hSw; (try dsimp only at hSw); go_simp <;> with_reducible rfl)
      (try simp only [Act.put, List.setIfInBounds_toArray, List.set_cons_zero, List.set_cons_succ])
      refine wpAnyH_take (i := 9) (oi := ?oipx9) (v := ?vpx9) ?hopx9 ?h1px9 ?h2px9 ?h3px9 ?hqpx9 (Or.inl ⟨?h4px9, ?hypx9⟩) (by assumption) ?restpx9
      case hopx9 => (simp only [List.getElem?_toArray, List.getElem?_cons_zero, List.getElem?_cons_succ]; rfl)
      case h1px9 => kernel_rfl
      case h2px9 => kernel_rfl
      case h3px9 => kernel_rfl
      case h4px9 => rfl
      case hqpx9 => exact fun _ _ _ h => h
      case hypx9 => (intro w hSw; (try dsimp only at hSw); go_simp <;> with_reducible rfl)
      (try simp only [Act.put, List.setIfInBounds_toArray, List.set_cons_zero, List.set_cons_succ])
      refine wpAnyH_take (i := 10) (oi := ?oipx10) (v := ?vpx10) ?hopx10 ?h1px10 ?h2px10 ?h3px10 ?hqpx10 (Or.inl ⟨?h4px10, ?hypx10⟩) (by assumption) ?restpx10
      case hopx10 => (simp only [List.getElem?_toArray, List.getElem?_cons_zero, List.getElem?_cons_succ]; rfl)
      case h1px10 => kernel_rfl
      case h2px10 => kernel_rfl
      case h3px10 => kernel_rfl
      case h4px10 => rfl
      case hqpx10 => exact fun _ _ _ h => h
      case hypx10 => (intro w hSw; (try dsimp only at hSw); go_simp <;> with_reducible rfl)
      (try simp only [Act.put, List.setIfInBounds_toArray, List.set_cons_zero, List.set_cons_succ])
      refine wpAnyH_take (i := 11) (oi := ?oipx11) (v := ?vpx11) ?hopx11 ?h1px11 ?h2px11 ?h3px11 ?hqpx11 (Or.inl ⟨?h4px11, ?hypx11⟩) (by assumption) ?restpx11
      case hopx11 => (simp only [List.getElem?_toArray, List.getElem?_cons_zero, List.getElem?_cons_succ]; rfl)
      case h1px11 => kernel_rfl
      case h2px11 => kernel_rfl
      case h3px11 => kernel_rfl
      case h4px11 => rfl
      case hqpx11 => exact fun _ _ _ h => h
      case hypx11 => (intro w hSw; (try dsimp only at hSw); go_simp <;> with_reducible rfl)
      (try simp only [Act.put, List.setIfInBounds_toArray, List.set_cons_zero, List.set_cons_succ])
      refine wpAnyH_take (i := 12) (oi := ?oipx12) (v := ?vpx12) ?hopx12 ?h1px12 ?h2px12 ?h3px12 ?hqpx12 (Or.inl ⟨?h4px12, ?hypx12⟩) (by assumption) ?restpx12
      case hopx12 => (simp only [List.getElem?_toArray, List.getElem?_cons_zero, List.getElem?_cons_succ]; rfl)
      case h1px12 => kernel_rfl
      case h2px12 => kernel_rfl
      case h3px12 => kernel_rfl
      case h4px12 => rfl
      case hqpx12 => exact fun _ _ _ h => h
      case hypx12 => (intro w hSw; (try dsimp only at hSw); go_simp <;> with_reducible rfl)
      (try simp only [Act.put, List.setIfInBounds_toArray, List.set_cons_zero, List.set_cons_succ])
      refine wpAnyH_take (i := 13) (oi := ?oipx13) (v := ?vpx13) ?hopx13 ?h1px13 ?h2px13 ?h3px13 ?hqpx13 (Or.inl ⟨?h4px13, ?hypx13⟩) (by assumption) ?restpx13
      case hopx13 => (simp only [List.getElem?_toArray, List.getElem?_cons_zero, List.getElem?_cons_succ]; rfl)
      case h1px13 => kernel_rfl
      case h2px13 => kernel_rfl
      case h3px13 => kernel_rfl
      case h4px13 => rfl
      case hqpx13 => exact fun _ _ _ h => h
      case hypx13 => (intro w hSw; (try dsimp only at hSw); go_simp <;> with_reducible rfl)
      (try simp only [Act.put, List.setIfInBounds_toArray, List.set_cons_zero, List.set_cons_succ])
      refine wpAnyH_take (i := 14) (oi := ?oipx14) (v := ?vpx14) ?hopx14 ?h1px14 ?h2px14 ?h3px14 ?hqpx14 (Or.inl ⟨?h4px14, ?hypx14⟩) (by assumption) ?restpx14
      case hopx14 => (simp only [List.getElem?_toArray, List.getElem?_cons_zero, List.getElem?_cons_succ]; rfl)
      case h1px14 => kernel_rfl
      case h2px14 => kernel_rfl
      case h3px14 => kernel_rfl
      case h4px14 => rfl
      case hqpx14 => exact fun _ _ _ h => h
      case hypx14 => (intro w hSw; (try dsimp only at hSw); go_simp <;> with_reducible rfl)
      (try simp only [Act.put, List.setIfInBounds_toArray, List.set_cons_zero, List.set_cons_succ])
      refine wpAnyH_take (i := 16) (oi := ?oipx16) (v := ?vpx16) ?hopx16 ?h1px16 ?h2px16 ?h3px16 ?hqpx16 (Or.inl ⟨?h4px16, ?hypx16⟩) (by assumption) ?restpx16
      case hopx16 => (simp only [List.getElem?_toArray, List.getElem?_cons_zero, List.getElem?_cons_succ]; rfl)
      case h1px16 => kernel_rfl
      case h2px16 => kernel_rfl
      case h3px16 => kernel_rfl
      case h4px16 => rfl
      case hqpx16 => exact fun _ _ _ h => h
      case hypx16 => (intro w hSw; (try dsimp only at hSw); go_simp <;> with_reducible rfl)
      (try simp only [Act.put, List.setIfInBounds_toArray, List.set_cons_zero, List.set_cons_succ])
      refine wpAnyH_ready (rs := [15]) (by kernel_rfl) (by simp) ?_
      refine AllReadyH.cons (o := ?oipx15) ?hopx15 (fun K hK => ?restpx15) ?morepx15
      case morepx15 => exact AllReadyH.nil
      case hopx15 => (simp only [List.getElem?_toArray, List.getElem?_cons_zero, List.getElem?_cons_succ]; rfl)
      go_simp
      refine (HGq.out _ hB7).mono ?_
      rintro e w8 ⟨rfl, rfl⟩
      try go_wp2_with fail
      refine hK.out _ _ ?hSnewpy15 (fun hHeld => ?restpy15)
      case hSnewpy15 => ((try dsimp only); exact hHeld)
      clear hK K
      (try simp only [Act.put, List.setIfInBounds_toArray, List.set_cons_zero, List.set_cons_succ])
      refine wpAnyH_take (i := 17) (oi := ?oipx17) (v := ?vpx17) ?hopx17 ?h1px17 ?h2px17 ?h3px17 ?hqpx17 (Or.inl ⟨?h4px17, ?hypx17⟩) (by assumption) ?restpx17
      case hopx17 => (simp only [List.getElem?_toArray, List.getElem?_cons_zero, List.getElem?_cons_succ]; rfl)
      case h1px17 => kernel_rfl
      case h2px17 => kernel_rfl
      case h3px17 => kernel_rfl
      case h4px17 => rfl
      case hqpx17 => exact fun _ _ _ h => h
      case hypx17 => (intro w hSw; (try dsimp only at hSw); go_simp <;> with_reducible rfl)
      (try simp only [Act.put, List.setIfInBounds_toArray, List.set_cons_zero, List.set_cons_succ])
      refine wpAnyH_take (i := 18) (oi := ?oipx18) (v := ?vpx18) ?hopx18 ?h1px18 ?h2px18 ?h3px18 ?hqpx18 (Or.inl ⟨?h4px18, ?hypx18⟩) (by assumption) ?restpx18
      case hopx18 => (simp only [List.getElem?_toArray, List.getElem?_cons_zero, List.getElem?_cons_succ]; rfl)
      case h1px18 => kernel_rfl
      case h2px18 => kernel_rfl
      case h3px18 => kernel_rfl
      case h4px18 => rfl
      case hqpx18 => exact fun _ _ _ h => h
      case hypx18 => (intro w hSw; (try dsimp only at hSw); go_simp <;> with_reducible rfl)
      (try simp only [Act.put, List.setIfInBounds_toArray, List.set_cons_zero, List.set_cons_succ])
      refine wpAnyH_take (i := 19) (oi := ?oipx19) (v := ?vpx19) ?hopx19 ?h1px19 ?h2px19 ?h3px19 ?hqpx19 (Or.inl ⟨?h4px19, ?hypx19⟩) (by assumption) ?restpx19
      case hopx19 => (simp only [List.getElem?_toArray, List.getElem?_cons_zero, List.getElem?_cons_succ]; rfl)
      case h1px19 => kernel_rfl
      case h2px19 => kernel_rfl
      case h3px19 => kernel_rfl
      case h4px19 => rfl
      case hqpx19 => exact fun _ _ _ h => h
      case hypx19 => (intro w hSw; (try dsimp only at hSw); go_simp <;> with_reducible rfl)
      (try simp only [Act.put, List.setIfInBounds_toArray, List.set_cons_zero, List.set_cons_succ])
      refine wpAnyH_ready (rs := [20]) (by kernel_rfl) (by simp) ?_
      refine AllReadyH.cons (o := ?oipx20) ?hopx20 (fun K hK => ?restpx20) ?morepx20
      case morepx20 => exact AllReadyH.nil
      case hopx20 => (simp only [List.getElem?_toArray, List.getElem?_cons_zero, List.getElem?_cons_succ]; rfl)
      go_simp
      refine (HGn.out _).mono ?_
      rintro e w8 ⟨rfl, rfl⟩
      try go_wp2_with fail
      refine hK.out _ _ ?hSnewpy20 (fun hHeld => ?restpy20)
      case hSnewpy20 => ((try dsimp only); exact hHeld)
      clear hK K
      (try simp only [Act.put, List.setIfInBounds_toArray, List.set_cons_zero, List.set_cons_succ])
      refine wpAnyH_take (i := 21) (oi := ?oipx21) (v := ?vpx21) ?hopx21 ?h1px21 ?h2px21 ?h3px21 ?hqpx21 (Or.inl ⟨?h4px21, ?hypx21⟩) (by assumption) ?restpx21
      case hopx21 => (simp only [List.getElem?_toArray, List.getElem?_cons_zero, List.getElem?_cons_succ]; rfl)
      case h1px21 => kernel_rfl
      case h2px21 => kernel_rfl
      case h3px21 => kernel_rfl
      case h4px21 => rfl
      case hqpx21 => exact fun _ _ _ h => h
      case hypx21 => (intro w hSw; (try dsimp only at hSw); go_simp <;> with_reducible rfl)
      (try simp only [Act.put, List.setIfInBounds_toArray, List.set_cons_zero, List.set_cons_succ])
      refine wpAnyH_take (i := 22) (oi := ?oipx22) (v := ?vpx22) ?hopx22 ?h1px22 ?h2px22 ?h3px22 ?hqpx22 (Or.inl ⟨?h4px22, ?hypx22⟩) (by assumption) ?restpx22
      case hopx22 => (simp only [List.getElem?_toArray, List.getElem?_cons_zero, List.getElem?_cons_succ]; rfl)
      case h1px22 => kernel_rfl
      case h2px22 => kernel_rfl
      case h3px22 => kernel_rfl
      case h4px22 => rfl
      case hqpx22 => exact fun _ _ _ h => h
      case hypx22 => (intro w hSw; (try dsimp only at hSw); go_simp <;> with_reducible rfl)
      (try simp only [Act.put, List.setIfInBounds_toArray, List.set_cons_zero, List.set_cons_succ])
      refine wpAnyH_take (i := 23) (oi := ?oipx23) (v := ?vpx23) ?hopx23 ?h1px23 ?h2px23 ?h3px23 ?hqpx23 (Or.inl ⟨?h4px23, ?hypx23⟩) (by assumption) ?restpx23
      case hopx23 => (simp only [List.getElem?_toArray, List.getElem?_cons_zero, List.getElem?_cons_succ]; rfl)
      case h1px23 => kernel_rfl
      case h2px23 => kernel_rfl
      case h3px23 => kernel_rfl
      case h4px23 => rfl
      case hqpx23 => exact fun _ _ _ h => h
      case hypx23 => (intro w hSw; (try dsimp only at hSw); go_simp <;> with_reducible rfl)
      (try simp only [Act.put, List.setIfInBounds_toArray, List.set_cons_zero, List.set_cons_succ])
      refine wpAnyH_done (by kernel_rfl) ?_ _
      go_wp2
      go_ret
      exact ⟨rfl, below_step HB.out HB.out.size hB7⟩
    · have hk : k = 8 := by omega
      have hvx : v = x := by
        rw [hk] at hnum
        rw [hnum]
        exact Nat.mod_eq_of_lt (by omega)
      clear hk hnum hql hpw
      subst hvx
      have hk8' : (8 : Int) ≤ (k : Int) := by omega
      have hvv : ((v : Int) == (v : Int)) = true := by simp
      go_wp2
      refine wp_region_held_drew (S := (fun w' => (convert 22 9 (.slice A3 L c3)).run Try.prog w' = .ok (.string (strOfNums Q)) w' ∧ (convert 22 9 (.slice A n c)).run Try.prog w' = .ok (.string (strOfNums xs)) w')) (by kernel_rfl) ?hSnewqz (fun hHeld => ?restqz)
      case hSnewqz => ((try dsimp only); exact Hcv.out _ (below_drewN (Below.refl _ _) 1))
      refine wpAnyH_take (i := 0) (oi := ?oiqx0) (v := ?vqx0) ?hoqx0 ?h1qx0 ?h2qx0 ?h3qx0 ?hqqx0 (Or.inl ⟨?h4qx0, ?hyqx0⟩) (by assumption) ?restqx0
      case hoqx0 => (simp only [List.getElem?_toArray, List.getElem?_cons_zero, List.getElem?_cons_succ]; rfl)
      case h1qx0 => kernel_rfl
      case h2qx0 => kernel_rfl
      case h3qx0 => kernel_rfl
      case h4qx0 => rfl
      case hqqx0 => exact fun _ _ _ h => h
      case hyqx0 => (intro w hSw; (try dsimp only at hSw); go_simp <;> with_reducible rfl)
      (try simp only [Act.put, List.setIfInBounds_toArray, List.set_cons_zero, List.set_cons_succ])
      refine wpAnyH_take (i := 1) (oi := ?oiqx1) (v := ?vqx1) ?hoqx1 ?h1qx1 ?h2qx1 ?h3qx1 ?hqqx1 (Or.inl ⟨?h4qx1, ?hyqx1⟩) (by assumption) ?restqx1
      case hoqx1 => (simp only [List.getElem?_toArray, List.getElem?_cons_zero, List.getElem?_cons_succ]; rfl)
      case h1qx1 => kernel_rfl
      case h2qx1 => kernel_rfl
      case h3qx1 => kernel_rfl
      case h4qx1 => rfl
      case hqqx1 => exact fun _ _ _ h => h
      case hyqx1 => (intro w hSw; (try dsimp only at hSw); go_simp <;> with_reducible rfl)
      (try simp only [Act.put, List.setIfInBounds_toArray, List.set_cons_zero, List.set_cons_succ])
      refine wpAnyH_take (i := 2) (oi := ?oiqx2) (v := ?vqx2) ?hoqx2 ?h1qx2 ?h2qx2 ?h3qx2 ?hqqx2 (Or.inl ⟨?h4qx2, ?hyqx2⟩) (by assumption) ?restqx2
      case hoqx2 => (simp only [List.getElem?_toArray, List.getElem?_cons_zero, List.getElem?_cons_succ]; rfl)
      case h1qx2 => kernel_rfl
      case h2qx2 => kernel_rfl
      case h3qx2 => kernel_rfl
      case h4qx2 => rfl
      case hqqx2 => exact fun _ _ _ h => h
      case hyqx2 => (intro w hSw; (try dsimp only at hSw); go_simp <;> with_reducible rfl)
      (try simp only [Act.put, List.setIfInBounds_toArray, List.set_cons_zero, List.set_cons_succ])
      refine wpAnyH_take (i := 3) (oi := ?oiqx3) (v := ?vqx3) ?hoqx3 ?h1qx3 ?h2qx3 ?h3qx3 ?hqqx3 (Or.inl ⟨?h4qx3, ?hyqx3⟩) (by assumption) ?restqx3
      case hoqx3 => (simp only [List.getElem?_toArray, List.getElem?_cons_zero, List.getElem?_cons_succ]; rfl)
      case h1qx3 => kernel_rfl
      case h2qx3 => kernel_rfl
      case h3qx3 => kernel_rfl
      case h4qx3 => rfl
      case hqqx3 => exact fun _ _ _ h => h
      case hyqx3 => (intro w hSw; (try dsimp only at hSw); go_simp <;> with_reducible rfl)
      (try simp only [Act.put, List.setIfInBounds_toArray, List.set_cons_zero, List.set_cons_succ])
      refine wpAnyH_take (i := 4) (oi := ?oiqx4) (v := ?vqx4) ?hoqx4 ?h1qx4 ?h2qx4 ?h3qx4 ?hqqx4 (Or.inl ⟨?h4qx4, ?hyqx4⟩) (by assumption) ?restqx4
      case hoqx4 => (simp only [List.getElem?_toArray, List.getElem?_cons_zero, List.getElem?_cons_succ]; rfl)
      case h1qx4 => kernel_rfl
      case h2qx4 => kernel_rfl
      case h3qx4 => kernel_rfl
      case h4qx4 => rfl
      case hqqx4 => exact fun _ _ _ h => h
      case hyqx4 => (intro w hSw; (try dsimp only at hSw); go_simp <;> with_reducible rfl)
      (try simp only [Act.put, List.setIfInBounds_toArray, List.set_cons_zero, List.set_cons_succ])
      refine wpAnyH_take (i := 5) (oi := ?oiqx5) (v := ?vqx5) ?hoqx5 ?h1qx5 ?h2qx5 ?h3qx5 ?hqqx5 (Or.inl ⟨?h4qx5, ?hyqx5⟩) (by assumption) ?restqx5
      case hoqx5 => (simp only [List.getElem?_toArray, List.getElem?_cons_zero, List.getElem?_cons_succ]; rfl)
      case h1qx5 => kernel_rfl
      case h2qx5 => kernel_rfl
      case h3qx5 => kernel_rfl
      case h4qx5 => rfl
      case hqqx5 => exact fun _ _ _ h => h
      case hyqx5 => (intro w hSw; (try dsimp only at hSw); go_simp <;> with_reducible rfl)
      (try simp only [Act.put, List.setIfInBounds_toArray, List.set_cons_zero, List.set_cons_succ])
      refine wpAnyH_ready (rs := [6]) (by kernel_rfl) (by simp) ?_
      refine AllReadyH.cons (o := ?oiqx6) ?hoqx6 (fun K hK => ?restqx6) ?moreqx6
      case moreqx6 => exact AllReadyH.nil
      case hoqx6 => (simp only [List.getElem?_toArray, List.getElem?_cons_zero, List.getElem?_cons_succ]; rfl)
      go_simp
      refine (HG3.out _).mono ?_
      rintro e w7 ⟨v7, rfl, ho7, hB7'⟩
      have hB7 := below_step (below_drewN (Below.refl w3.heap.size w3) 1) (Nat.le_refl _) hB7'
      obtain ⟨A7, c7, e7, hc7, hz7⟩ := ho7.reads Hle.out
      rw [Hll.out] at e7 hz7
      subst e7
      have hcv7 := conv_str (c := c7) hz7
      try go_wp2_with fail
      refine hK.out _ _ ?hSnewqy6 (fun hHeld => ?restqy6)
      case hSnewqy6 => ((try dsimp only); exact Hcv.out _ hB7)
      clear hK K
      (try simp only [Act.put, List.setIfInBounds_toArray, List.set_cons_zero, List.set_cons_succ])
      refine held_switch (fun w' => ((convert 22 9 (.slice A3 L c3)).run Try.prog w' = .ok (.string (strOfNums Q)) w' ∧ (convert 22 9 (.slice A n c)).run Try.prog w' = .ok (.string (strOfNums xs)) w') ∧ (convert 22 9 (.slice A7 k c7)).run Try.prog w' = .ok (.string (strOfNums ls)) w') (fun w h => h.1) ?hSnewqsa (fun hHeld => ?restqsa)
      case hSnewqsa => ((try dsimp only); exact ⟨Hcv.out _ hB7, hcv7⟩)
      refine wpAnyH_take (i := 7) (oi := ?oiqx7) (v := ?vqx7) ?hoqx7 ?h1qx7 ?h2qx7 ?h3qx7 ?hqqx7 (Or.inl ⟨?h4qx7, ?hyqx7⟩) (by assumption) ?restqx7
      case hoqx7 => (simp only [List.getElem?_toArray, List.getElem?_cons_zero, List.getElem?_cons_succ]; rfl)
      case h1qx7 => kernel_rfl
      case h2qx7 => kernel_rfl
      case h3qx7 => kernel_rfl
      case h4qx7 => rfl
      case hqqx7 => exact fun _ _ _ h => h
      case hyqx7 => (intro w hSw; (try dsimp only at hSw); go_simp <;> with_reducible rfl)
      (try simp only [Act.put, List.setIfInBounds_toArray, List.set_cons_zero, List.set_cons_succ])
      refine wpAnyH_take (i := 8) (oi := ?oiqx8) (v := ?vqx8) ?hoqx8 ?h1qx8 ?h2qx8 ?h3qx8 ?hqqx8 (Or.inl ⟨?h4qx8, ?hyqx8⟩) (by assumption) ?restqx8
      case hoqx8 => (simp only [List.getElem?_toArray, List.getElem?_cons_zero, List.getElem?_cons_succ]; rfl)
      case h1qx8 => kernel_rfl
      case h2qx8 => kernel_rfl
      case h3qx8 => kernel_rfl
      case h4qx8 => rfl
      case hqqx8 => exact fun _ _ _ h => h
      case hyqx8 => (intro w hSw; (try dsimp only at hSw); go_simp <;> with_reducible rfl)
      (try simp only [Act.put, List.setIfInBounds_toArray, List.set_cons_zero, List.set_cons_succ])
      refine wpAnyH_take (i := 9) (oi := ?oiqx9) (v := ?vqx9) ?hoqx9 ?h1qx9 ?h2qx9 ?h3qx9 ?hqqx9 (Or.inl ⟨?h4qx9, ?hyqx9⟩) (by assumption) ?restqx9
      case hoqx9 => (simp only [List.getElem?_toArray, List.getElem?_cons_zero, List.getElem?_cons_succ]; rfl)
      case h1qx9 => kernel_rfl
      case h2qx9 => kernel_rfl
      case h3qx9 => kernel_rfl
      case h4qx9 => rfl
      case hqqx9 => exact fun _ _ _ h => h
      case hyqx9 => (intro w hSw; (try dsimp only at hSw); go_simp <;> with_reducible rfl)
      (try simp only [Act.put, List.setIfInBounds_toArray, List.set_cons_zero, List.set_cons_succ])
      refine wpAnyH_take (i := 10) (oi := ?oiqx10) (v := ?vqx10) ?hoqx10 ?h1qx10 ?h2qx10 ?h3qx10 ?hqqx10 (Or.inl ⟨?h4qx10, ?hyqx10⟩) (by assumption) ?restqx10
      case hoqx10 => (simp only [List.getElem?_toArray, List.getElem?_cons_zero, List.getElem?_cons_succ]; rfl)
      case h1qx10 => kernel_rfl
      case h2qx10 => kernel_rfl
      case h3qx10 => kernel_rfl
      case h4qx10 => rfl
      case hqqx10 => exact fun _ _ _ h => h
      case hyqx10 => (intro w hSw; (try dsimp only at hSw); go_simp <;> with_reducible rfl)
      (try simp only [Act.put, List.setIfInBounds_toArray, List.set_cons_zero, List.set_cons_succ])
      refine wpAnyH_take (i := 11) (oi := ?oiqx11) (v := ?vqx11) ?hoqx11 ?h1qx11 ?h2qx11 ?h3qx11 ?hqqx11 (Or.inl ⟨?h4qx11, ?hyqx11⟩) (by assumption) ?restqx11
      case hoqx11 => (simp only [List.getElem?_toArray, List.getElem?_cons_zero, List.getElem?_cons_succ]; rfl)
      case h1qx11 => kernel_rfl
      case h2qx11 => kernel_rfl
      case h3qx11 => kernel_rfl
      case h4qx11 => rfl
      case hqqx11 => exact fun _ _ _ h => h
      case hyqx11 => (intro w hSw; (try dsimp only at hSw); go_simp <;> with_reducible rfl)
      (try simp only [Act.put, List.setIfInBounds_toArray, List.set_cons_zero, List.set_cons_succ])
      refine wpAnyH_take (i := 12) (oi := ?oiqx12) (v := ?vqx12) ?hoqx12 ?h1qx12 ?h2qx12 ?h3qx12 ?hqqx12 (Or.inl ⟨?h4qx12, ?hyqx12⟩) (by assumption) ?restqx12
      case hoqx12 => (simp only [List.getElem?_toArray, List.getElem?_cons_zero, List.getElem?_cons_succ]; rfl)
      case h1qx12 => kernel_rfl
      case h2qx12 => kernel_rfl
      case h3qx12 => kernel_rfl
      case h4qx12 => rfl
      case hqqx12 => exact fun _ _ _ h => h
      case hyqx12 => (intro w hSw; (try dsimp only at hSw); go_simp <;> with_reducible rfl)
      (try simp only [Act.put, List.setIfInBounds_toArray, List.set_cons_zero, List.set_cons_succ])
      refine wpAnyH_take (i := 13) (oi := ?oiqx13) (v := ?vqx13) ?hoqx13 ?h1qx13 ?h2qx13 ?h3qx13 ?hqqx13 (Or.inl ⟨?h4qx13, ?hyqx13⟩) (by assumption) ?restqx13
      case hoqx13 => (simp only [List.getElem?_toArray, List.getElem?_cons_zero, List.getElem?_cons_succ]; rfl)
      case h1qx13 => kernel_rfl
      case h2qx13 => kernel_rfl
      case h3qx13 => kernel_rfl
      case h4qx13 => rfl
      case hqqx13 => exact fun _ _ _ h => h
      case hyqx13 => (intro w hSw; (try dsimp only at hSw); go_simp <;> with_reducible rfl)
      (try simp only [Act.put, List.setIfInBounds_toArray, List.set_cons_zero, List.set_cons_succ])
      refine wpAnyH_take (i := 14) (oi := ?oiqx14) (v := ?vqx14) ?hoqx14 ?h1qx14 ?h2qx14 ?h3qx14 ?hqqx14 (Or.inl ⟨?h4qx14, ?hyqx14⟩) (by assumption) ?restqx14
      case hoqx14 => (simp only [List.getElem?_toArray, List.getElem?_cons_zero, List.getElem?_cons_succ]; rfl)
      case h1qx14 => kernel_rfl
      case h2qx14 => kernel_rfl
      case h3qx14 => kernel_rfl
      case h4qx14 => rfl
      case hqqx14 => exact fun _ _ _ h => h
      case hyqx14 => (intro w hSw; (try dsimp only at hSw); go_simp <;> with_reducible rfl)
      (try simp only [Act.put, List.setIfInBounds_toArray, List.set_cons_zero, List.set_cons_succ])
      refine wpAnyH_take (i := 16) (oi := ?oiqx16) (v := ?vqx16) ?hoqx16 ?h1qx16 ?h2qx16 ?h3qx16 ?hqqx16 (Or.inl ⟨?h4qx16, ?hyqx16⟩) (by assumption) ?restqx16
      case hoqx16 => (simp only [List.getElem?_toArray, List.getElem?_cons_zero, List.getElem?_cons_succ]; rfl)
      case h1qx16 => kernel_rfl
      case h2qx16 => kernel_rfl
      case h3qx16 => kernel_rfl
      case h4qx16 => rfl
      case hqqx16 => exact fun _ _ _ h => h
      case hyqx16 => (intro w hSw; (try dsimp only at hSw); go_simp <;> with_reducible rfl)
      (try simp only [Act.put, List.setIfInBounds_toArray, List.set_cons_zero, List.set_cons_succ])
      refine wpAnyH_ready (rs := [15]) (by kernel_rfl) (by simp) ?_
      refine AllReadyH.cons (o := ?oiqx15) ?hoqx15 (fun K hK => ?restqx15) ?moreqx15
      case moreqx15 => exact AllReadyH.nil
      case hoqx15 => (simp only [List.getElem?_toArray, List.getElem?_cons_zero, List.getElem?_cons_succ]; rfl)
      go_simp
      refine (HGq.out _ hB7).mono ?_
      rintro e w8 ⟨rfl, rfl⟩
      try go_wp2_with fail
      refine hK.out _ _ ?hSnewqy15 (fun hHeld => ?restqy15)
      case hSnewqy15 => ((try dsimp only); exact hHeld)
      clear hK K
      (try simp only [Act.put, List.setIfInBounds_toArray, List.set_cons_zero, List.set_cons_succ])
      refine wpAnyH_take (i := 17) (oi := ?oiqx17) (v := ?vqx17) ?hoqx17 ?h1qx17 ?h2qx17 ?h3qx17 ?hqqx17 (Or.inl ⟨?h4qx17, ?hyqx17⟩) (by assumption) ?restqx17
      case hoqx17 => (simp only [List.getElem?_toArray, List.getElem?_cons_zero, List.getElem?_cons_succ]; rfl)
      case h1qx17 => kernel_rfl
      case h2qx17 => kernel_rfl
      case h3qx17 => kernel_rfl
      case h4qx17 => rfl
      case hqqx17 => exact fun _ _ _ h => h
      case hyqx17 => (intro w hSw; (try dsimp only at hSw); go_simp <;> with_reducible rfl)
      (try simp only [Act.put, List.setIfInBounds_toArray, List.set_cons_zero, List.set_cons_succ])
      refine wpAnyH_take (i := 18) (oi := ?oiqx18) (v := ?vqx18) ?hoqx18 ?h1qx18 ?h2qx18 ?h3qx18 ?hqqx18 (Or.inl ⟨?h4qx18, ?hyqx18⟩) (by assumption) ?restqx18
      case hoqx18 => (simp only [List.getElem?_toArray, List.getElem?_cons_zero, List.getElem?_cons_succ]; rfl)
      case h1qx18 => kernel_rfl
      case h2qx18 => kernel_rfl
      case h3qx18 => kernel_rfl
      case h4qx18 => rfl
      case hqqx18 => exact fun _ _ _ h => h
      case hyqx18 => (intro w hSw; (try dsimp only at hSw); go_simp <;> with_reducible rfl)
      (try simp only [Act.put, List.setIfInBounds_toArray, List.set_cons_zero, List.set_cons_succ])
      refine wpAnyH_take (i := 19) (oi := ?oiqx19) (v := ?vqx19) ?hoqx19 ?h1qx19 ?h2qx19 ?h3qx19 ?hqqx19 (Or.inl ⟨?h4qx19, ?hyqx19⟩) (by assumption) ?restqx19
      case hoqx19 => (simp only [List.getElem?_toArray, List.getElem?_cons_zero, List.getElem?_cons_succ]; rfl)
      case h1qx19 => kernel_rfl
      case h2qx19 => kernel_rfl
      case h3qx19 => kernel_rfl
      case h4qx19 => rfl
      case hqqx19 => exact fun _ _ _ h => h
      case hyqx19 => (intro w hSw; (try dsimp only at hSw); go_simp <;> with_reducible rfl)
      (try simp only [Act.put, List.setIfInBounds_toArray, List.set_cons_zero, List.set_cons_succ])
      refine wpAnyH_ready (rs := [20]) (by kernel_rfl) (by simp) ?_
      refine AllReadyH.cons (o := ?oiqx20) ?hoqx20 (fun K hK => ?restqx20) ?moreqx20
      case moreqx20 => exact AllReadyH.nil
      case hoqx20 => (simp only [List.getElem?_toArray, List.getElem?_cons_zero, List.getElem?_cons_succ]; rfl)
      go_simp
      refine (HGn.out _).mono ?_
      rintro e w8 ⟨rfl, rfl⟩
      try go_wp2_with fail
      refine hK.out _ _ ?hSnewqy20 (fun hHeld => ?restqy20)
      case hSnewqy20 => ((try dsimp only); exact hHeld)
      clear hK K
      (try simp only [Act.put, List.setIfInBounds_toArray, List.set_cons_zero, List.set_cons_succ])
      refine wpAnyH_take (i := 21) (oi := ?oiqx21) (v := ?vqx21) ?hoqx21 ?h1qx21 ?h2qx21 ?h3qx21 ?hqqx21 (Or.inl ⟨?h4qx21, ?hyqx21⟩) (by assumption) ?restqx21
      case hoqx21 => (simp only [List.getElem?_toArray, List.getElem?_cons_zero, List.getElem?_cons_succ]; rfl)
      case h1qx21 => kernel_rfl
      case h2qx21 => kernel_rfl
      case h3qx21 => kernel_rfl
      case h4qx21 => rfl
      case hqqx21 => exact fun _ _ _ h => h
      case hyqx21 => (intro w hSw; (try dsimp only at hSw); go_simp <;> with_reducible rfl)
      (try simp only [Act.put, List.setIfInBounds_toArray, List.set_cons_zero, List.set_cons_succ])
      refine wpAnyH_take (i := 22) (oi := ?oiqx22) (v := ?vqx22) ?hoqx22 ?h1qx22 ?h2qx22 ?h3qx22 ?hqqx22 (Or.inl ⟨?h4qx22, ?hyqx22⟩) (by assumption) ?restqx22
      case hoqx22 => (simp only [List.getElem?_toArray, List.getElem?_cons_zero, List.getElem?_cons_succ]; rfl)
      case h1qx22 => kernel_rfl
      case h2qx22 => kernel_rfl
      case h3qx22 => kernel_rfl
      case h4qx22 => rfl
      case hqqx22 => exact fun _ _ _ h => h
      case hyqx22 => (intro w hSw; (try dsimp only at hSw); go_simp <;> with_reducible rfl)
      (try simp only [Act.put, List.setIfInBounds_toArray, List.set_cons_zero, List.set_cons_succ])
      refine wpAnyH_take (i := 23) (oi := ?oiqx23) (v := ?vqx23) ?hoqx23 ?h1qx23 ?h2qx23 ?h3qx23 ?hqqx23 (Or.inl ⟨?h4qx23, ?hyqx23⟩) (by assumption) ?restqx23
      case hoqx23 => (simp only [List.getElem?_toArray, List.getElem?_cons_zero, List.getElem?_cons_succ]; rfl)
      case h1qx23 => kernel_rfl
      case h2qx23 => kernel_rfl
      case h3qx23 => kernel_rfl
      case h4qx23 => rfl
      case hqqx23 => exact fun _ _ _ h => h
      case hyqx23 => (intro w hSw; (try dsimp only at hSw); go_simp <;> with_reducible rfl)
      (try simp only [Act.put, List.setIfInBounds_toArray, List.set_cons_zero, List.set_cons_succ])
      refine wpAnyH_done (by kernel_rfl) ?_ _
      go_wp2
      go_ret
      exact ⟨rfl, below_step HB.out HB.out.size hB7⟩
end Go.Proofs.Ytlaibabjnfjbpaa.Oct
