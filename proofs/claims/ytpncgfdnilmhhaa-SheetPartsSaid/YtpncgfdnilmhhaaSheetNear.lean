import Derived.Test.YtpncgfdnilmhhaaSheetForm
import Derived.Test.YtpncgfdnilmhhaaSheetPlain
set_option linter.unusedVariables false
set_option linter.unusedSimpArgs false
namespace Go.Proofs.Ytpncgfdnilmhhaa.Sheet
open Go.RowKit Go.Proofs.Ytpncgfdnilmhhaa.Kit Go.Proofs.Ytpncgfdnilmhhaa.Oct

theorem u64_nat (a : Int) : ∃ u : Nat, IntKind.u64.wrap a = (u : Int) ∧ u ≤ 18446744073709551615 := by
  have h : IntKind.u64.wrap a = a % 18446744073709551616 := by simp [IntKind.wrap, IntKind.signed, IntKind.bits]
  exact ⟨(IntKind.u64.wrap a).toNat, by omega, by omega⟩

set_option maxRecDepth 100000 in
set_option maxHeartbeats 4000000 in
theorem near_any (K E S a F : Int) (A : Option Addr) (n c : Nat) (xs : List Int) (w : World) (hK : 0 ≤ K ∧ K ≤ 255) (hE : 0 ≤ E ∧ E ≤ 18446744073709551615) (hS : 0 ≤ S ∧ S ≤ 18446744073709551615) (hz : Nums w .u8 A n xs) :
    Calls Try.prog 10 #[.agg #[.int .u8 K, .int .u64 E, .int .u64 S, .int .i64 a, .int .i64 F, .slice A n c]] w fun e w' => ∃ (K' E' S' a' f' : Nat) (A' : Option Addr) (n' c' : Nat) (ys : List Int), e = .returned (.agg #[.int .u8 (K' : Int), .int .u64 (E' : Int), .int .u64 (S' : Int), .int .i64 (a' : Int), .int .i64 ((f' : Int) - 1), .slice A' n' c']) ∧ formN K' E' S' a' f' ys ∧ Nums w' .u8 A' n' ys ∧ Below w.heap.size w w' := by
  have hn := hz.most
  obtain ⟨ua, hua, hua2⟩ := u64_nat a
  obtain ⟨uf, huf, huf2⟩ := u64_nat F
  have hm1 : ((ua : Int)).tmod 65536 = ((ua % 65536 : Nat) : Int) := by rw [Int.tmod_eq_emod_of_nonneg (by omega)]; omega
  have hm2 : ((uf : Int)).tmod 65 = ((uf % 65 : Nat) : Int) := by rw [Int.tmod_eq_emod_of_nonneg (by omega)]; omega
  obtain ⟨a1, ha1⟩ : ∃ a1, a1 = ua % 65536 := ⟨_, rfl⟩
  obtain ⟨f1, hf1⟩ : ∃ f1, f1 = uf % 65 := ⟨_, rfl⟩
  rw [← ha1] at hm1
  rw [← hf1] at hm2
  have hla : a1 < 65536 := by omega
  have hlf : f1 < 65 := by omega
  clear ha1 hf1
  obtain ⟨K1, hK1⟩ : ∃ K1 : Nat, (K1 : Int) = 1 + K % 3 := ⟨(1 + K % 3).toNat, by omega⟩
  obtain ⟨E1, hE1⟩ : ∃ E1 : Nat, (E1 : Int) = E / 65536 := ⟨(E / 65536).toNat, by omega⟩
  obtain ⟨S1, hS1⟩ : ∃ S1 : Nat, (S1 : Int) = S / 65536 := ⟨(S / 65536).toNat, by omega⟩
  have hlK : 1 ≤ K1 ∧ K1 ≤ 3 := by omega
  have hlE : E1 < 281474976710656 := by omega
  have hlS : S1 < 281474976710656 := by omega
  go_enter Try.func10, Try.ntmps10
  go_upto_region 1 with (fail)
  obtain ⟨w2, hw2⟩ : ∃ w2, w2 = ((w.alloc (.cells #[.int .u8 K, .int .u64 E, .int .u64 S, .int .i64 a, .int .i64 F, .slice A n c] 25)).alloc (.cells #[.int .u8 0, .int .u64 0, .int .u64 0, .int .i64 0, .int .i64 0, .slice none 0 0] 25)) := ⟨_, rfl⟩
  have hb1 : Blk w2 w.heap.size #[.int .u8 K, .int .u64 E, .int .u64 S, .int .i64 a, .int .i64 F, .slice A n c] 25 := by rw [hw2]; exact (Blk.new _ _ _).alloc _
  have hb2 : Blk w2 (w.heap.size + 1) #[.int .u8 0, .int .u64 0, .int .u64 0, .int .i64 0, .int .i64 0, .slice none 0 0] 25 := by
    rw [hw2]
    have := Blk.new (w.alloc (.cells #[.int .u8 K, .int .u64 E, .int .u64 S, .int .i64 a, .int .i64 F, .slice A n c] 25)) #[.int .u8 0, .int .u64 0, .int .u64 0, .int .i64 0, .int .i64 0, .slice none 0 0] 25
    simpa using this
  have hB : Below w.heap.size w w2 := by rw [hw2]; exact ((Below.refl _ _).alloc (Nat.le_refl _) _).alloc (by simp) _
  rw [← hw2]
  clear hw2
  generalize hg : w.heap.size = g at *
  have cc := hb1.cell 0
  have cf := hb1.free 0
  simp only [List.getElem?_toArray, List.getElem?_cons_zero, List.getElem?_cons_succ] at cc
  have Hb1 := hid hb1
  have Hb2 := hid hb2
  have HB := hid hB
  clear hb1 hb2 hB
  go_upto_region 2 with (fail)
  rw [← hK1]
  generalize hw : World.setCell w2 ⟨g, 0, none⟩ (.int .u8 (K1 : Int)) = w3
  have hb1 : Blk w3 g #[.int .u8 (K1 : Int), .int .u64 E, .int .u64 S, .int .i64 a, .int .i64 F, .slice A n c] 25 := by
    rw [← hw]
    have := Hb1.out.set 0 (.int .u8 (K1 : Int))
    simpa using this
  have hb2 := Hb2.out.setOther (⟨g, 0, none⟩ : Addr) (by simp) (.int .u8 (K1 : Int))
  have hB := HB.out.setCell (p := (⟨g, 0, none⟩ : Addr)) (Nat.le_refl _) (.int .u8 (K1 : Int))
  rw [hw] at hb2 hB
  clear hw cc cf Hb1 Hb2 HB
  have cc := hb1.cell 1
  have cf := hb1.free 1
  simp only [List.getElem?_toArray, List.getElem?_cons_zero, List.getElem?_cons_succ] at cc
  have Hb1 := hid hb1
  have Hb2 := hid hb2
  have HB := hid hB
  clear hb1 hb2 hB
  go_upto_region 3 with (fail)
  rw [← hE1]
  generalize hw : World.setCell w3 ⟨g, 1, none⟩ (.int .u64 (E1 : Int)) = w4
  have hb1 : Blk w4 g #[.int .u8 (K1 : Int), .int .u64 (E1 : Int), .int .u64 S, .int .i64 a, .int .i64 F, .slice A n c] 25 := by
    rw [← hw]
    have := Hb1.out.set 1 (.int .u64 (E1 : Int))
    simpa using this
  have hb2 := Hb2.out.setOther (⟨g, 1, none⟩ : Addr) (by simp) (.int .u64 (E1 : Int))
  have hB := HB.out.setCell (p := (⟨g, 1, none⟩ : Addr)) (Nat.le_refl _) (.int .u64 (E1 : Int))
  rw [hw] at hb2 hB
  clear hw cc cf Hb1 Hb2 HB
  have cc := hb1.cell 2
  have cf := hb1.free 2
  simp only [List.getElem?_toArray, List.getElem?_cons_zero, List.getElem?_cons_succ] at cc
  have Hb1 := hid hb1
  have Hb2 := hid hb2
  have HB := hid hB
  clear hb1 hb2 hB
  go_upto_region 4 with (fail)
  rw [← hS1]
  generalize hw : World.setCell w4 ⟨g, 2, none⟩ (.int .u64 (S1 : Int)) = w5
  have hb1 : Blk w5 g #[.int .u8 (K1 : Int), .int .u64 (E1 : Int), .int .u64 (S1 : Int), .int .i64 a, .int .i64 F, .slice A n c] 25 := by
    rw [← hw]
    have := Hb1.out.set 2 (.int .u64 (S1 : Int))
    simpa using this
  have hb2 := Hb2.out.setOther (⟨g, 2, none⟩ : Addr) (by simp) (.int .u64 (S1 : Int))
  have hB := HB.out.setCell (p := (⟨g, 2, none⟩ : Addr)) (Nat.le_refl _) (.int .u64 (S1 : Int))
  rw [hw] at hb2 hB
  clear hw cc cf Hb1 Hb2 HB
  have cc := hb1.cell 3
  have cf := hb1.free 3
  simp only [List.getElem?_toArray, List.getElem?_cons_zero, List.getElem?_cons_succ] at cc
  have Hb1 := hid hb1
  have Hb2 := hid hb2
  have HB := hid hB
  clear hb1 hb2 hB
  go_upto_region 5 with (fail)
  generalize hw : World.setCell w5 ⟨g, 3, none⟩ (.int .i64 (a1 : Int)) = w6
  have hb1 : Blk w6 g #[.int .u8 (K1 : Int), .int .u64 (E1 : Int), .int .u64 (S1 : Int), .int .i64 (a1 : Int), .int .i64 F, .slice A n c] 25 := by
    rw [← hw]
    have := Hb1.out.set 3 (.int .i64 (a1 : Int))
    simpa using this
  have hb2 := Hb2.out.setOther (⟨g, 3, none⟩ : Addr) (by simp) (.int .i64 (a1 : Int))
  have hB := HB.out.setCell (p := (⟨g, 3, none⟩ : Addr)) (Nat.le_refl _) (.int .i64 (a1 : Int))
  rw [hw] at hb2 hB
  clear hw cc cf Hb1 Hb2 HB
  have cc := hb1.cell 4
  have cf := hb1.free 4
  simp only [List.getElem?_toArray, List.getElem?_cons_zero, List.getElem?_cons_succ] at cc
  have Hb1 := hid hb1
  have Hb2 := hid hb2
  have HB := hid hB
  clear hb1 hb2 hB
  go_upto_region 6 with (fail)
  generalize hw : World.setCell w6 ⟨g, 4, none⟩ (.int .i64 ((f1 : Int) - 1)) = w7
  have hb1 : Blk w7 g #[.int .u8 (K1 : Int), .int .u64 (E1 : Int), .int .u64 (S1 : Int), .int .i64 (a1 : Int), .int .i64 ((f1 : Int) - 1), .slice A n c] 25 := by
    rw [← hw]
    have := Hb1.out.set 4 (.int .i64 ((f1 : Int) - 1))
    simpa using this
  have hb2 := Hb2.out.setOther (⟨g, 4, none⟩ : Addr) (by simp) (.int .i64 ((f1 : Int) - 1))
  have hB := HB.out.setCell (p := (⟨g, 4, none⟩ : Addr)) (Nat.le_refl _) (.int .i64 ((f1 : Int) - 1))
  rw [hw] at hb2 hB
  clear hw cc cf Hb1 Hb2 HB
  obtain ⟨⟨c0, c1, c2, c3, c4, c5⟩, d0, d1, d2, d3, d4, d5⟩ := hb1.six
  obtain ⟨⟨e0, e1, e2, e3, e4, e5⟩, f0, f1', f2, f3, f4, f5⟩ := hb2.six
  have hz7 := Nums.below hz (by rw [hg]; exact hB)
  have Hb1 := hid hb1
  have Hb2 := hid hb2
  have HB := hid hB
  have Hz := hid hz7
  have hlen := hz.len
  have Hz0 := hid hz
  clear hb1 hb2 hB hz7 hz hua huf hm1 hm2 hua2 huf2 hK1 hE1 hS1
  by_cases hk : K1 = 1 ∧ n ≤ 64
  · obtain ⟨rfl, hn64⟩ := hk
    go_wp2
    refine bodyPost_ret (results_cell_row (P := Try.prog) rfl _ _ (g + 1) _ _ (0, 0) _ rfl (Blk.six_set Hb2.out (.int .u8 1) (.int .u64 (E1 : Int)) (.int .u64 (S1 : Int)) (.int .i64 (a1 : Int)) (.int .i64 ((f1 : Int) - 1)) (.slice A n c)) Try.underlying25 rfl (by kernel_rfl)) rfl ?_
    have hlt : g ≤ g + 1 := by omega
    have hB := ((((((HB.out.setCell (p := (⟨g + 1, 0, none⟩ : Addr)) hlt (.int .u8 1)).setCell (p := (⟨g + 1, 1, none⟩ : Addr)) hlt (.int .u64 (E1 : Int))).setCell (p := (⟨g + 1, 2, none⟩ : Addr)) hlt (.int .u64 (S1 : Int))).setCell (p := (⟨g + 1, 3, none⟩ : Addr)) hlt (.int .i64 (a1 : Int))).setCell (p := (⟨g + 1, 4, none⟩ : Addr)) hlt (.int .i64 ((f1 : Int) - 1))).setCell (p := (⟨g + 1, 5, none⟩ : Addr)) hlt (.slice A n c))
    refine ⟨1, E1, S1, a1, f1, A, n, c, xs, rfl, ?_, ?_, ?_⟩
    · unfold formN
      exact ⟨by omega, by omega, by omega, by omega, by omega, by omega, by omega, .inl rfl, isB_of Hz.out⟩
    · refine Hz0.out.below ?_
      rw [hg]
      exact hB
    · rw [hg]
      exact hB
  · have hk2 : K1 ≠ 1 ∨ 64 < n := by omega
    by_cases hk1 : K1 = 1
    · subst hk1
      have hn64 : 64 < n := by omega
      go_wp2
      refine bodyPost_ret (results_cell_row (P := Try.prog) rfl _ _ (g + 1) _ _ (0, 0) _ rfl (Blk.six_set (Hb2.out.setOther (⟨g, 5, none⟩ : Addr) (by simp) (.slice none 0 0)) (.int .u8 1) (.int .u64 (E1 : Int)) (.int .u64 (S1 : Int)) (.int .i64 (a1 : Int)) (.int .i64 ((f1 : Int) - 1)) (.slice none 0 0)) Try.underlying25 rfl (by kernel_rfl)) rfl ?_
      have hlt : g ≤ g + 1 := by omega
      have hB := (((((((HB.out.setCell (p := (⟨g, 5, none⟩ : Addr)) (Nat.le_refl _) (.slice none 0 0)).setCell (p := (⟨g + 1, 0, none⟩ : Addr)) hlt (.int .u8 1)).setCell (p := (⟨g + 1, 1, none⟩ : Addr)) hlt (.int .u64 (E1 : Int))).setCell (p := (⟨g + 1, 2, none⟩ : Addr)) hlt (.int .u64 (S1 : Int))).setCell (p := (⟨g + 1, 3, none⟩ : Addr)) hlt (.int .i64 (a1 : Int))).setCell (p := (⟨g + 1, 4, none⟩ : Addr)) hlt (.int .i64 ((f1 : Int) - 1))).setCell (p := (⟨g + 1, 5, none⟩ : Addr)) hlt (.slice none 0 0))
      refine ⟨1, E1, S1, a1, f1, none, 0, ⟨0, rfl⟩, [], ?_, Nums.none _ _ _, ?_⟩
      · unfold formN
        exact ⟨by omega, by omega, by omega, by omega, by omega, by omega, by decide, .inl rfl, fun x hx => by cases hx⟩
      · exact hB
    · go_wp2
      refine bodyPost_ret (results_cell_row (P := Try.prog) rfl _ _ (g + 1) _ _ (0, 0) _ rfl (Blk.six_set (Hb2.out.setOther (⟨g, 5, none⟩ : Addr) (by simp) (.slice none 0 0)) (.int .u8 (K1 : Int)) (.int .u64 (E1 : Int)) (.int .u64 (S1 : Int)) (.int .i64 (a1 : Int)) (.int .i64 ((f1 : Int) - 1)) (.slice none 0 0)) Try.underlying25 rfl (by kernel_rfl)) rfl ?_
      have hlt : g ≤ g + 1 := by omega
      have hB := (((((((HB.out.setCell (p := (⟨g, 5, none⟩ : Addr)) (Nat.le_refl _) (.slice none 0 0)).setCell (p := (⟨g + 1, 0, none⟩ : Addr)) hlt (.int .u8 (K1 : Int))).setCell (p := (⟨g + 1, 1, none⟩ : Addr)) hlt (.int .u64 (E1 : Int))).setCell (p := (⟨g + 1, 2, none⟩ : Addr)) hlt (.int .u64 (S1 : Int))).setCell (p := (⟨g + 1, 3, none⟩ : Addr)) hlt (.int .i64 (a1 : Int))).setCell (p := (⟨g + 1, 4, none⟩ : Addr)) hlt (.int .i64 ((f1 : Int) - 1))).setCell (p := (⟨g + 1, 5, none⟩ : Addr)) hlt (.slice none 0 0))
      refine ⟨K1, E1, S1, a1, f1, none, 0, 0, [], rfl, ?_, Nums.none _ _ _, ?_⟩
      · unfold formN
        exact ⟨by omega, by omega, by omega, by omega, by omega, by omega, by decide, .inr rfl, fun x hx => by cases hx⟩
      · rw [hg]
        exact hB
end Go.Proofs.Ytpncgfdnilmhhaa.Sheet
