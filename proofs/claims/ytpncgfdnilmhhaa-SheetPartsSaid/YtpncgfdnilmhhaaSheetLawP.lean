import Derived.Test.YtpncgfdnilmhhaaSheetNear
import Derived.Test.YtpncgfdnilmhhaaSheetAwake
import Derived.Test.YtpncgfdnilmhhaaSheetSame
import Derived.Test.YtpncgfdnilmhhaaSheetRead
import Derived.Test.YtpncgfdnilmhhaaSheetRefRd
import Derived.BigRegion
import Derived.Deep.DeepCutAuto
import Derived.Deep.CutBlock
set_option linter.unusedVariables false
set_option linter.unusedSimpArgs false
namespace Go.Proofs.Ytpncgfdnilmhhaa.Sheet
open Go.RowKit Go.Proofs.Ytpncgfdnilmhhaa.Kit Go.Proofs.Ytpncgfdnilmhhaa.Oct

theorem bits_xor64u (a b : Nat) (ha : a < 2 ^ 64) (hb : b < 2 ^ 64) : bits .xor .u64 (a : Int) (b : Int) = ((a ^^^ b : Nat) : Int) := by
  have hx := Nat.xor_lt_two_pow ha hb
  show IntKind.u64.wrap (((BitVec.ofInt 64 (a : Int) ^^^ BitVec.ofInt 64 (b : Int)).toNat : Nat) : Int) = _
  rw [BitVec.toNat_xor, BitVec.ofInt_natCast, BitVec.ofInt_natCast, BitVec.toNat_ofNat, BitVec.toNat_ofNat, Nat.mod_eq_of_lt ha, Nat.mod_eq_of_lt hb]
  exact IntWalk.u64_in _ (by omega)
theorem bits_xor64i (a b : Nat) (ha : a < 2 ^ 62) (hb : b < 2 ^ 62) : bits .xor .i64 (a : Int) (b : Int) = ((a ^^^ b : Nat) : Int) := by
  have hx := Nat.xor_lt_two_pow ha hb
  show IntKind.i64.wrap (((BitVec.ofInt 64 (a : Int) ^^^ BitVec.ofInt 64 (b : Int)).toNat : Nat) : Int) = _
  rw [BitVec.toNat_xor, BitVec.ofInt_natCast, BitVec.ofInt_natCast, BitVec.toNat_ofNat, BitVec.toNat_ofNat, Nat.mod_eq_of_lt (by omega), Nat.mod_eq_of_lt (by omega)]
  exact IntWalk.i64_in _ (by omega)

/-- Lists that part in their midst alone. -/
theorem mid_eq (A B B' C : List Int) (hl : B.length = B'.length) (i : Nat) (h : i < A.length ∨ A.length + B.length ≤ i) : (A ++ (B ++ C))[i]? = (A ++ (B' ++ C))[i]? := by
  rcases h with h | h
  · rw [List.getElem?_append_left h, List.getElem?_append_left h]
  · rw [List.getElem?_append_right (by omega), List.getElem?_append_right (by omega), List.getElem?_append_right (by omega), List.getElem?_append_right (by omega), hl]
/-- Two pages whose bodies are alike but from lo up. -/
def Near (lo hi : Nat) (p q : List Int) : Prop := ∀ i, i < 96 → (i < lo ∨ hi ≤ i) → (i < 91 ∨ 95 ≤ i) → p.getD i 0 = q.getD i 0
theorem near_of_body {lo hi K E S a f E' S' a' f' : Nat} {ys : List Int} (hl : ys.length ≤ 64) (h : ∀ i, i < 91 → (i < lo ∨ hi ≤ i) → (body K E S a f ys)[i]? = (body K E' S' a' f' ys)[i]?) : Near lo hi (page K E S a f ys) (page K E' S' a' f' ys) := by
  intro i h96 h1 h2
  rw [List.getD_eq_getElem?_getD, List.getD_eq_getElem?_getD]
  unfold page
  have l1 := body_len K E S a f ys hl
  have l2 := body_len K E' S' a' f' ys hl
  by_cases h91 : i < 91
  · rw [List.append_assoc, List.append_assoc, List.getElem?_append_left (by omega), List.getElem?_append_left (by omega), h i h91 h1]
  · rw [List.getElem?_append_right (by rw [List.length_append, l1, le_len]; omega), List.getElem?_append_right (by rw [List.length_append, l2, le_len]; omega), List.length_append, List.length_append, l1, l2, le_len, le_len]
theorem near_epoch {K E S a f E' : Nat} {ys : List Int} (hl : ys.length ≤ 64) : Near 1 7 (page K E S a f ys) (page K E' S a f ys) := near_of_body hl (fun i hi h => by
  rw [body_assoc, body_assoc]
  exact mid_eq _ _ _ _ (by rw [le_len, le_len]) i (by rw [le_len, le_len]; omega))
theorem near_seq {K E S a f S' : Nat} {ys : List Int} (hl : ys.length ≤ 64) : Near 7 13 (page K E S a f ys) (page K E S' a f ys) := near_of_body hl (fun i hi h => by
  rw [body_assoc, body_assoc, ← List.append_assoc (le K 1), ← List.append_assoc (le K 1)]
  exact mid_eq _ _ _ _ (by rw [le_len, le_len]) i (by rw [List.length_append, le_len, le_len, le_len]; omega))
theorem near_addr {K E S a f a' : Nat} {ys : List Int} (hl : ys.length ≤ 64) : Near 13 15 (page K E S a f ys) (page K E S a' f ys) := near_of_body hl (fun i hi h => by
  rw [body_assoc, body_assoc, ← List.append_assoc (le K 1), ← List.append_assoc (le K 1), ← List.append_assoc (le K 1 ++ le E 6), ← List.append_assoc (le K 1 ++ le E 6)]
  exact mid_eq _ _ _ _ (by rw [le_len, le_len]) i (by rw [List.length_append, List.length_append, le_len, le_len, le_len, le_len]; omega))
theorem near_from {K E S a f f' : Nat} {ys : List Int} (hl : ys.length ≤ 64) : Near 15 16 (page K E S a f ys) (page K E S a f' ys) := near_of_body hl (fun i hi h => by
  rw [body_assoc, body_assoc, ← List.append_assoc (le K 1), ← List.append_assoc (le K 1), ← List.append_assoc (le K 1 ++ le E 6), ← List.append_assoc (le K 1 ++ le E 6), ← List.append_assoc (le K 1 ++ le E 6 ++ le S 6), ← List.append_assoc (le K 1 ++ le E 6 ++ le S 6)]
  exact mid_eq _ _ _ _ (by rw [le_len, le_len]) i (by rw [List.length_append, List.length_append, List.length_append, le_len, le_len, le_len, le_len, le_len]; omega))

set_option maxRecDepth 100000 in
set_option maxHeartbeats 4000000 in
theorem law_parts (K1 E1 S1 a1 F1 : Int) (A1 : Option Addr) (n1 c1 : Nat) (xs1 : List Int) (hK1 : 0 ≤ K1 ∧ K1 ≤ 255) (hE1 : 0 ≤ E1 ∧ E1 ≤ 18446744073709551615) (hS1 : 0 ≤ S1 ∧ S1 ≤ 18446744073709551615) (bq : Int) (hby : 0 ≤ bq ∧ bq ≤ 255) (wh : Int) (hwh : 0 ≤ wh ∧ wh ≤ 255) (w : World) (hz1 : Nums w .u8 A1 n1 xs1) :
    Calls Try.prog 8 #[.agg #[.int .u8 K1, .int .u64 E1, .int .u64 S1, .int .i64 a1, .int .i64 F1, .slice A1 n1 c1], .int .u8 bq, .int .u8 wh] w fun e w' => e = .returned (.bool true) ∧ Below w.heap.size w w' := by
  obtain ⟨by0, by1⟩ := hby
  obtain ⟨wh0, wh1⟩ := hwh
  obtain ⟨q, rfl⟩ := Int.eq_ofNat_of_zero_le by0
  obtain ⟨wn, rfl⟩ := Int.eq_ofNat_of_zero_le wh0
  have G1 := fun W (h : Nums W .u8 A1 n1 xs1) => near_any K1 E1 S1 a1 F1 A1 n1 c1 xs1 W hK1 hE1 hS1 h
  clear hK1 hE1 hS1
  go_enter Try.func8, Try.ntmps8
  go_upto_region 1 with (fail)
  obtain ⟨w2, hw2⟩ : ∃ w2, w2 = (w.alloc (.cells #[.int .u8 K1, .int .u64 E1, .int .u64 S1, .int .i64 a1, .int .i64 F1, .slice A1 n1 c1] 25)) := ⟨_, rfl⟩
  have hb2 : Blk w2 w.heap.size #[.int .u8 K1, .int .u64 E1, .int .u64 S1, .int .i64 a1, .int .i64 F1, .slice A1 n1 c1] 25 := by rw [hw2]; exact Blk.new _ _ _
  have hB2 : Below w.heap.size w w2 := by rw [hw2]; exact (Below.refl _ _).alloc (Nat.le_refl _) _
  rw [← hw2]
  clear hw2
  have Hz2 := hid (hz1.below hB2)
  have Hb2 := hid hb2
  have HB2 := hid hB2
  clear hb2 hz1 hB2
  go_wp2_with fail
  refine (awake_any w2).mono ?_
  rintro e w3 ⟨rfl, hB3⟩
  have hz3 := Hz2.out.below hB3
  have hb3 := Hb2.out.later hB3
  have hB3' := HB2.out.trans (hB3.mono HB2.out.size)
  obtain ⟨⟨k0, k1, k2, k3, k4, k5⟩, -⟩ := hb3.six
  clear hb3 hB3
  go_wp2_with fail
  refine (G1 w3 hz3).mono ?_
  clear G1 hz3 k0 k1 k2 k3 k4 k5
  rintro e w4 ⟨K1, E1, S1, a1, f1, A1, n1, c1, ys1, rfl, hf1, hz4, hB4⟩
  have hB4' := hB3'.trans (hB4.mono hB3'.size)
  clear hB3' hB4
  go_upto_region 4 with (fail)
  obtain ⟨gx, hgx⟩ : ∃ g, w4.heap.size = g := ⟨_, rfl⟩
  rw [hgx]
  obtain ⟨w5, hw⟩ : ∃ W, W = w4.alloc (.cells #[.int .u8 (K1 : Int), .int .u64 (E1 : Int), .int .u64 (S1 : Int), .int .i64 (a1 : Int), .int .i64 ((f1 : Int) - 1), .slice A1 n1 c1] 25) := ⟨_, rfl⟩
  have hgxb : Blk w5 gx #[.int .u8 (K1 : Int), .int .u64 (E1 : Int), .int .u64 (S1 : Int), .int .i64 (a1 : Int), .int .i64 ((f1 : Int) - 1), .slice A1 n1 c1] 25 := by rw [hw, ← hgx]; exact Blk.new _ _ _
  have hA5 : Below w4.heap.size w4 w5 := by rw [hw]; exact (Below.refl _ _).alloc (Nat.le_refl _) _
  rw [← hw]
  clear hw
  have hz5 := hz4.below hA5
  have hB5 := hB4'.trans (hA5.mono hB4'.size)
  obtain ⟨⟨c0, c1', c2', c3, c4, c5⟩, -⟩ := hgxb.six
  clear hA5 hB4'
  go_upto_region 5 with (fail)
  obtain ⟨gy, hgy⟩ : ∃ g, w5.heap.size = g := ⟨_, rfl⟩
  rw [hgy]
  obtain ⟨w6, hw⟩ : ∃ W, W = w5.alloc (.cells #[.int .u8 (K1 : Int), .int .u64 (E1 : Int), .int .u64 (S1 : Int), .int .i64 (a1 : Int), .int .i64 ((f1 : Int) - 1), .slice A1 n1 c1] 25) := ⟨_, rfl⟩
  have hgyb : Blk w6 gy #[.int .u8 (K1 : Int), .int .u64 (E1 : Int), .int .u64 (S1 : Int), .int .i64 (a1 : Int), .int .i64 ((f1 : Int) - 1), .slice A1 n1 c1] 25 := by rw [hw, ← hgy]; exact Blk.new _ _ _
  have hA6 : Below w5.heap.size w5 w6 := by rw [hw]; exact (Below.refl _ _).alloc (Nat.le_refl _) _
  rw [← hw]
  clear hw
  have hx6 := hgxb.later hA6
  have hz6 := hz5.below hA6
  have hB6 := hB5.trans (hA6.mono hB5.size)
  have hlt : gx < gy := by rw [← hgy]; exact hgxb.lt
  have Hlow : Hid (0 < n1 → ∀ a, A1 = some a → some a.block ≠ some gy) := hid (fun hn a ha e => by
    have := hz4.low hn a ha
    injection e with e
    omega)
  have hgw : w.heap.size ≤ gy := by rw [← hgy]; exact hB5.size
  clear hgy hgx hgxb c0 c1' c2' c3 c4 c5 hz5 hB5 hA6 hz4
  obtain ⟨r, hr⟩ : ∃ r, r = wn % 4 := ⟨_, rfl⟩
  have hr4 : r < 4 := by omega
  have em : (wn : Int) % 4 = (r : Int) := by omega
  clear hr
  have hl64 := hf1.2.2.2.2.2.2.1
  have Hf1 := hid hf1
  have Hlt := hid hlt
  have hgg : gx ≠ gy := by omega
  have Hx6 := hid hx6
  have Hy6 := hid hgyb
  have HB6 := hid hB6
  have Hz6 := hid hz6
  obtain ⟨⟨c0, c1', c2', c3, c4, c5⟩, d0, d1, d2, d3, d4, d5⟩ := hgyb.six
  have hgyl := hgyb.lt
  have hkN := hf1.2.1
  have hE48 := hf1.2.2.1
  have hS48 := hf1.2.2.2.1
  have ha16 := hf1.2.2.2.2.1
  have hf64 := hf1.2.2.2.2.2.1
  clear hf1 hlt hx6 hgyb hB6 hz6
  go_upto_block 0 with (fail)
  go_cut [7, 8, 9, 10] (fun x y fr up wx => x = .pointer (some ⟨gx, 0, none⟩) ∧ y = .pointer (some ⟨gy, 0, none⟩) ∧ ∃ (lo hi E2 S2 a2 f2 : Nat), fr = .int .i64 (lo : Int) ∧ up = .int .i64 (hi : Int) ∧ lo ≤ 96 ∧ hi ≤ 96 ∧ formN K1 E2 S2 a2 f2 ys1 ∧ Near lo hi (page K1 E1 S1 a1 f1 ys1) (page K1 E2 S2 a2 f2 ys1) ∧ Blk wx gx #[.int .u8 (K1 : Int), .int .u64 (E1 : Int), .int .u64 (S1 : Int), .int .i64 (a1 : Int), .int .i64 ((f1 : Int) - 1), .slice A1 n1 c1] 25 ∧ Blk wx gy #[.int .u8 (K1 : Int), .int .u64 (E2 : Int), .int .u64 (S2 : Int), .int .i64 (a2 : Int), .int .i64 ((f2 : Int) - 1), .slice A1 n1 c1] 25 ∧ Nums wx .u8 A1 n1 ys1 ∧ Below w.heap.size w wx)
  case first =>
    have hend : ∀ (k : Nat) (v : Value), Blk (w6.setCell ⟨gy, k, none⟩ v) gx #[.int .u8 (K1 : Int), .int .u64 (E1 : Int), .int .u64 (S1 : Int), .int .i64 (a1 : Int), .int .i64 ((f1 : Int) - 1), .slice A1 n1 c1] 25 ∧ Nums (w6.setCell ⟨gy, k, none⟩ v) .u8 A1 n1 ys1 ∧ Below w.heap.size w (w6.setCell ⟨gy, k, none⟩ v) := fun k v =>
      ⟨Hx6.out.setOther (⟨gy, k, none⟩ : Addr) hgg v, Hz6.out.grown (grown_set k v hgyl) Hlow.out, HB6.out.setCell (p := (⟨gy, k, none⟩ : Addr)) hgw v⟩
    have Hend := hid hend
    clear hend
    have : r = 0 ∨ r = 1 ∨ r = 2 ∨ r = 3 := by omega
    rcases this with rfl | rfl | rfl | rfl
    · obtain ⟨E2, hE2⟩ : ∃ e, e = E1 ^^^ (1 + q) := ⟨_, rfl⟩
      have hxe : bits .xor .u64 (E1 : Int) (1 + (q : Int)) = (E2 : Int) := by rw [hE2]; exact bits_xor64u E1 (1 + q) (by omega) (by omega)
      have hE2l : E2 < 2 ^ 48 := by rw [hE2]; exact Nat.xor_lt_two_pow (by omega) (by omega)
      clear hE2
      go_wp2_with fail
      go_meet
      obtain ⟨e1, e2, e3⟩ := Hend.out 1 (.int .u64 (E2 : Int))
      have hy := Hy6.out.set 1 (.int .u64 (E2 : Int))
      obtain ⟨h1, h2, h3, h4, h5, h6, h7, h8, h9⟩ := Hf1.out
      exact ⟨rfl, rfl, 1, 7, E2, S1, a1, f1, rfl, rfl, by decide, by decide, ⟨h1, h2, by omega, h4, h5, h6, h7, h8, h9⟩, near_epoch h7, e1, by simpa using hy, e2, e3⟩
    · obtain ⟨E2, hE2⟩ : ∃ e, e = S1 ^^^ (1 + q) := ⟨_, rfl⟩
      have hxe : bits .xor .u64 (S1 : Int) (1 + (q : Int)) = (E2 : Int) := by rw [hE2]; exact bits_xor64u S1 (1 + q) (by omega) (by omega)
      have hE2l : E2 < 2 ^ 48 := by rw [hE2]; exact Nat.xor_lt_two_pow (by omega) (by omega)
      clear hE2
      go_wp2_with fail
      go_meet
      obtain ⟨e1, e2, e3⟩ := Hend.out 2 (.int .u64 (E2 : Int))
      have hy := Hy6.out.set 2 (.int .u64 (E2 : Int))
      obtain ⟨h1, h2, h3, h4, h5, h6, h7, h8, h9⟩ := Hf1.out
      exact ⟨rfl, rfl, 7, 13, E1, E2, a1, f1, rfl, rfl, by decide, by decide, ⟨h1, h2, h3, by omega, h5, h6, h7, h8, h9⟩, near_seq h7, e1, by simpa using hy, e2, e3⟩
    · obtain ⟨E2, hE2⟩ : ∃ e, e = a1 ^^^ (1 + q) := ⟨_, rfl⟩
      have hxe : bits .xor .i64 (a1 : Int) (1 + (q : Int)) = (E2 : Int) := by rw [hE2]; exact bits_xor64i a1 (1 + q) (by omega) (by omega)
      have hE2l : E2 < 2 ^ 16 := by rw [hE2]; exact Nat.xor_lt_two_pow (by omega) (by omega)
      clear hE2
      go_wp2_with fail
      go_meet
      obtain ⟨e1, e2, e3⟩ := Hend.out 3 (.int .i64 (E2 : Int))
      have hy := Hy6.out.set 3 (.int .i64 (E2 : Int))
      obtain ⟨h1, h2, h3, h4, h5, h6, h7, h8, h9⟩ := Hf1.out
      exact ⟨rfl, rfl, 13, 15, E1, S1, E2, f1, rfl, rfl, by decide, by decide, ⟨h1, h2, h3, h4, by omega, h6, h7, h8, h9⟩, near_addr h7, e1, by simpa using hy, e2, e3⟩
    · obtain ⟨f2, hf2⟩ : ∃ e, e = (f1 + 1 + q % 63) % 65 := ⟨_, rfl⟩
      have hff : ((f1 : Int) - 1 + 2 + (q : Int) % 63) % 65 = (f2 : Int) := by omega
      have hf2l : f2 < 65 := by omega
      clear hf2
      go_wp2_with fail
      go_meet
      obtain ⟨e1, e2, e3⟩ := Hend.out 4 (.int .i64 ((f2 : Int) - 1))
      have hy := Hy6.out.set 4 (.int .i64 ((f2 : Int) - 1))
      obtain ⟨h1, h2, h3, h4, h5, h6, h7, h8, h9⟩ := Hf1.out
      exact ⟨rfl, rfl, 15, 16, E1, S1, a1, f2, rfl, rfl, by decide, by decide, ⟨h1, h2, h3, h4, h5, by omega, h7, h8, h9⟩, near_from h7, e1, by simpa using hy, e2, e3⟩
  case rest =>
    obtain ⟨rfl, rfl, lo, hi, E2, S2, a2, f2, rfl, rfl, hlo, hhi, hf2, hnear, hxw, hyw, hzw, hBw⟩ := hcut
    have hf1 := Hf1.out
    have hpl1 := page_len K1 E1 S1 a1 f1 ys1 hf1.2.2.2.2.2.2.1
    have hpB1 := page_isB K1 E1 S1 a1 f1 hf1.2.2.2.2.2.2.2.2
    have hpl2 := page_len K1 E2 S2 a2 f2 ys1 hf1.2.2.2.2.2.2.1
    have hpB2 := page_isB K1 E2 S2 a2 f2 hf1.2.2.2.2.2.2.2.2
    have G1 : ∀ W, Nums W .u8 A1 n1 ys1 → Calls Try.prog 12 #[.agg #[.int .u8 (K1 : Int), .int .u64 (E1 : Int), .int .u64 (S1 : Int), .int .i64 (a1 : Int), .int .i64 ((f1 : Int) - 1), .slice A1 n1 c1]] W fun e w' => ∃ v, e = .returned v ∧ OwnB w' W.heap.size v (page K1 E1 S1 a1 f1 ys1) ∧ Below W.heap.size W w' := fun W h => by
      have hf1 := Hf1.out
      exact lay_any K1 E1 S1 a1 f1 ((f1 : Int) - 1) A1 n1 c1 ys1 W h (by have := hf1.2.1; omega) (by have := hf1.2.2.1; omega) (by have := hf1.2.2.2.1; omega) (by have := hf1.2.2.2.2.1; omega) (by have := hf1.2.2.2.2.2.1; omega) rfl (by have := hf1.2.2.2.2.2.2.1; have := Nums.len h; omega)
    have Hf2 := hid hf2
    have G2 : ∀ W, Nums W .u8 A1 n1 ys1 → Calls Try.prog 12 #[.agg #[.int .u8 (K1 : Int), .int .u64 (E2 : Int), .int .u64 (S2 : Int), .int .i64 (a2 : Int), .int .i64 ((f2 : Int) - 1), .slice A1 n1 c1]] W fun e w' => ∃ v, e = .returned v ∧ OwnB w' W.heap.size v (page K1 E2 S2 a2 f2 ys1) ∧ Below W.heap.size W w' := fun W h => by
      have hf1 := Hf2.out
      exact lay_any K1 E2 S2 a2 f2 ((f2 : Int) - 1) A1 n1 c1 ys1 W h (by have := hf1.2.1; omega) (by have := hf1.2.2.1; omega) (by have := hf1.2.2.2.1; omega) (by have := hf1.2.2.2.2.1; omega) (by have := hf1.2.2.2.2.2.1; omega) rfl (by have := hf1.2.2.2.2.2.2.1; have := Nums.len h; omega)
    have HIP : Hid (∀ pg, pg = page K1 E2 S2 a2 f2 ys1 → formN K1 E2 S2 a2 f2 ys1 ∧ pg = page K1 E2 S2 a2 f2 ys1) := hid (fun pg h => ⟨Hf2.out, h⟩)
    clear hf1 hf2 c0 c1' c2' c3 c4 c5 d0 d1 d2 d3 d4 d5 hE48 hS48 ha16 hf64 hkN
    obtain ⟨pg1, hpg1⟩ : ∃ p, p = page K1 E1 S1 a1 f1 ys1 := ⟨_, rfl⟩
    obtain ⟨pg2, hpg2⟩ : ∃ p, p = page K1 E2 S2 a2 f2 ys1 := ⟨_, rfl⟩
    rw [← hpg1] at hpl1 hpB1 G1 hnear
    rw [← hpg2] at hpl2 hpB2 G2 hnear
    have Hpg1 := hid hpg1
    have Hpg2 := hid hpg2
    have Hnear := hid hnear
    clear hpg1 hpg2 hnear
    obtain ⟨⟨c0, c1', c2', c3, c4, c5⟩, -⟩ := hxw.six
    have Hxw := hid hxw
    have Hyw := hid hyw
    have HBw := hid hBw
    have Hzw := hid hzw
    clear hxw hyw hBw
    go_wp2_with fail
    refine (G1 _ hzw).mono ?_
    rintro e wa ⟨va, rfl, hoa, hBa⟩
    obtain ⟨P1, q1, ea, hqa, hpa⟩ := hoa.reads hpB1
    rw [hpl1] at ea hqa hpa
    subst ea
    clear c0 c1' c2' c3 c4 c5 hzw hoa G1
    have hzb := Hzw.out.below hBa
    obtain ⟨⟨c0, c1', c2', c3, c4, c5⟩, -⟩ := (Hyw.out.later hBa).six
    go_wp2_with fail
    refine (G2 _ hzb).mono ?_
    rintro e wb ⟨vb, rfl, hob, hBb⟩
    obtain ⟨P2, q2, eb, hqb, hpb⟩ := hob.reads hpB2
    rw [hpl2] at eb hqb hpb
    subst eb
    have hBwb := hBa.trans (hBb.mono hBa.size)
    have hpa2 := hpa.below hBb
    clear c0 c1' c2' c3 c4 c5 hzb hob G2 hBb hBa hpa
    have HBwb := hid hBwb
    have Hpa := hid hpa2
    have Hpb := hid hpb
    have hg1 : ∀ j, j < 96 → ∃ b o, P1 = some ⟨b, o, none⟩ ∧ ∀ W, Below wb.heap.size wb W → W.cell? ⟨b, o + j, none⟩ = some (.int .u8 (pg1.getD j 0)) := fun j hj => by
      obtain ⟨b, o, e, hc⟩ := Hpa.out.cell j hj
      exact ⟨b, o, e, fun W h => by rw [← hc j hj]; exact h.cell (World.block_lt_of_cell? wb _ (hc j hj))⟩
    have hg2 : ∀ j, j < 96 → ∃ b o, P2 = some ⟨b, o, none⟩ ∧ ∀ W, Below wb.heap.size wb W → W.cell? ⟨b, o + j, none⟩ = some (.int .u8 (pg2.getD j 0)) := fun j hj => by
      obtain ⟨b, o, e, hc⟩ := Hpb.out.cell j hj
      exact ⟨b, o, e, fun W h => by rw [← hc j hj]; exact h.cell (World.block_lt_of_cell? wb _ (hc j hj))⟩
    have Hg1 := hid hg1
    have Hg2 := hid hg2
    clear hpa2 hpb hBwb hg1 hg2
    go_wp2
    go_loopw [13] (fun x w' => ∃ (i : Nat), x = .int .i64 (i : Int) ∧ i ≤ 96 ∧ Below wb.heap.size wb w') (fun x _ => 96 - (intOf x).toNat)
    case atStart => exact ⟨0, rfl, by omega, Below.refl _ _⟩
    case round =>
      obtain ⟨i, rfl, hi1, hBi⟩ := hrel
      by_cases hlt : i < 96
      · obtain ⟨b1, o1, rfl, hc1⟩ := Hg1.out i hlt
        obtain ⟨b2, o2, rfl, hc2⟩ := Hg2.out i hlt
        have hc1 := hc1 _ hBi
        have hc2 := hc2 _ hBi
        have hn := Hnear.out i hlt
        generalize pg1.getD i 0 = x at *
        generalize pg2.getD i 0 = y at *
        have hcase : x = y ∨ (x ≠ y ∧ lo ≤ i ∧ i < hi) ∨ (x ≠ y ∧ i < lo ∧ 91 ≤ i ∧ i < 95) ∨ (x ≠ y ∧ lo ≤ i ∧ hi ≤ i ∧ 91 ≤ i ∧ i < 95) := by
          by_cases hxy : x = y
          · exact .inl hxy
          · by_cases h1 : i < lo
            · by_cases h2 : i < 91 ∨ 95 ≤ i
              · exact absurd (hn (.inl h1) h2) hxy
              · exact .inr (.inr (.inl ⟨hxy, h1, by omega, by omega⟩))
            · by_cases h3 : hi ≤ i
              · by_cases h2 : i < 91 ∨ 95 ≤ i
                · exact absurd (hn (.inr h3) h2) hxy
                · exact .inr (.inr (.inr ⟨hxy, by omega, h3, by omega, by omega⟩))
              · exact .inr (.inl ⟨hxy, by omega, by omega⟩)
        clear hn
        have hi0 : (i : Int) < 96 := by omega
        have hi00 : (0 : Int) ≤ (i : Int) := by omega
        rcases hcase with rfl | ⟨hxy, h1, h2⟩ | ⟨hxy, h1, h2, h3⟩ | ⟨hxy, h1, h2, h3, h4⟩
        · have e0 : (x != x) = false := by simp
          go_wp2
          go_quiet (fail)
          go_wp2
          go_roundw
          case rel => exact ⟨i + 1, by go_num, by omega, hBi.drewB _⟩
          case measure => simp [intOf]; omega
        · have e0 : (x != y) = true := by simp [hxy]
          have e1 : decide ((i : Int) < (lo : Int)) = false := decide_eq_false (by omega)
          have e1n : decide (i < lo) = false := decide_eq_false (by omega)
          have e2 : decide ((hi : Int) ≤ (i : Int)) = false := decide_eq_false (by omega)
          have e2n : decide (hi ≤ i) = false := decide_eq_false (by omega)
          clear hxy h1 h2
          go_wp2
          go_quiet (fail)
          go_wp2
          go_roundw
          case rel => exact ⟨i + 1, by go_num, by omega, hBi.drewB _⟩
          case measure => simp [intOf]; omega
        · have e0 : (x != y) = true := by simp [hxy]
          have e1 : decide ((i : Int) < (lo : Int)) = true := decide_eq_true (by omega)
          have e1n : decide (i < lo) = true := decide_eq_true (by omega)
          have e3 : decide ((i : Int) < 91) = false := decide_eq_false (by omega)
          have e4 : decide ((95 : Int) ≤ (i : Int)) = false := decide_eq_false (by omega)
          clear hxy h1 h2 h3
          go_wp2
          go_quiet (fail)
          go_wp2
          go_roundw
          case rel => exact ⟨i + 1, by go_num, by omega, hBi.drewB _⟩
          case measure => simp [intOf]; omega
        · have e0 : (x != y) = true := by simp [hxy]
          have e1 : decide ((i : Int) < (lo : Int)) = false := decide_eq_false (by omega)
          have e1n : decide (i < lo) = false := decide_eq_false (by omega)
          have e2 : decide ((hi : Int) ≤ (i : Int)) = true := decide_eq_true (by omega)
          have e2n : decide (hi ≤ i) = true := decide_eq_true (by omega)
          have e3 : decide ((i : Int) < 91) = false := decide_eq_false (by omega)
          have e4 : decide ((95 : Int) ≤ (i : Int)) = false := decide_eq_false (by omega)
          clear hxy h1 h2 h3 h4
          go_wp2
          go_quiet (fail)
          go_wp2
          go_roundw
          case rel => exact ⟨i + 1, by go_num, by omega, hBi.drewB _⟩
          case measure => simp [intOf]; omega
      · obtain rfl : i = 96 := by omega
        have hpr := Hpb.out.below hBi
        go_wp2_with fail
        refine (sread_any P2 96 q2 pg2 _ hpr hqb).mono ?_
        rintro e wc2 ⟨v7, k7, rfl, ht7, hB7⟩
        obtain ⟨K3, E3, S3, a3, f3, A3, n3, c3, zs3, rfl, rfl, hf3, hz7, he3⟩ : ∃ (K E S a f : Nat) (A : Option Addr) (n c : Nat) (ys : List Int), v7 = .agg #[.int .u8 (K : Int), .int .u64 (E : Int), .int .u64 (S : Int), .int .i64 (a : Int), .int .i64 ((f : Int) - 1), .slice A n c] ∧ k7 = 0 ∧ formN K E S a f ys ∧ Nums wc2 .u8 A n ys ∧ pg2 = page K E S a f ys := by
          rcases ht7 with h | ⟨h, _⟩
          · exact h
          · exact absurd ⟨K1, E2, S2, a2, f2, ys1, Hf2.out, Hpg2.out⟩ h
        obtain ⟨rfl, rfl, rfl, rfl, rfl, rfl⟩ := page_inj Hf2.out hf3 (Hpg2.out.symm.trans he3)
        have hB17 := hBi.trans (hB7.mono hBi.size)
        clear hf3 he3 ht7 hpr hBi hB7
        go_upto_region 31 with (fail)
        obtain ⟨gz, hgz⟩ : ∃ g, wc2.heap.size = g := ⟨_, rfl⟩
        rw [hgz]
        obtain ⟨wd, hw⟩ : ∃ W, W = wc2.alloc (.cells #[.int .u8 (K1 : Int), .int .u64 (E2 : Int), .int .u64 (S2 : Int), .int .i64 (a2 : Int), .int .i64 ((f2 : Int) - 1), .slice A3 n3 c3] 25) := ⟨_, rfl⟩
        have hzd : Blk wd gz #[.int .u8 (K1 : Int), .int .u64 (E2 : Int), .int .u64 (S2 : Int), .int .i64 (a2 : Int), .int .i64 ((f2 : Int) - 1), .slice A3 n3 c3] 25 := by rw [hw, ← hgz]; exact Blk.new _ _ _
        have hAd : Below wc2.heap.size wc2 wd := by rw [hw]; exact (Below.refl _ _).alloc (Nat.le_refl _) _
        rw [← hw]
        clear hw hgz
        have hB1d := hB17.trans (hAd.mono hB17.size)
        have hBwd := HBwb.out.trans (hB1d.mono HBwb.out.size)
        have hyd := Hyw.out.later hBwd
        have Hz1 := hid (hz7.below hAd)
        have Hz2 := hid (Hzw.out.below hBwd)
        have HB := hid (HBw.out.trans (hBwd.mono HBw.out.size))
        have HS := hid (fun W (h : Below wd.heap.size wd W) => (⟨(hzd.later h).six.1, (hyd.later h).six.1⟩ : _ ∧ _))
        have hBd : Below wd.heap.size wd (wd.drewN 1) := below_drewN (Below.refl _ _) 1
        clear hB17 hAd hB1d hBwd hzd hyd hz7
        have O1 := fun W => of_any (K1 : Int) (E2 : Int) (S2 : Int) (a2 : Int) ((f2 : Int) - 1) A3 n3 c3 W
        have O2 := fun W => of_any (K1 : Int) (E2 : Int) (S2 : Int) (a2 : Int) ((f2 : Int) - 1) A1 n1 c1 W
        have SM : ∀ W, Nums W .u8 A3 n3 ys1 → Nums W .u8 A1 n1 ys1 → Calls Try.prog 13 #[.agg #[.int .u8 (K1 : Int), .int .u64 (E2 : Int), .int .u64 (S2 : Int), .int .i64 (a2 : Int), .int .i64 ((f2 : Int) - 1), .slice A3 n3 c3], .agg #[.int .u8 (K1 : Int), .int .u64 (E2 : Int), .int .u64 (S2 : Int), .int .i64 (a2 : Int), .int .i64 ((f2 : Int) - 1), .slice A1 n1 c1]] W fun e w' => e = .returned (.bool true) ∧ Below W.heap.size W w' := fun W h1 h2 => by
          have := same_any (K1 : Int) (E2 : Int) (S2 : Int) (a2 : Int) ((f2 : Int) - 1) A3 n3 c3 ys1 (K1 : Int) (E2 : Int) (S2 : Int) (a2 : Int) ((f2 : Int) - 1) A1 n1 c1 ys1 W h1 h2
          rw [decide_eq_true ⟨rfl, rfl, rfl, rfl, rfl, rfl⟩] at this
          exact this
        have FM : ∀ W, Calls Try.prog 15 #[.agg #[.int .u8 (K1 : Int), .int .u64 (E2 : Int), .int .u64 (S2 : Int), .int .i64 (a2 : Int), .int .i64 ((f2 : Int) - 1), .slice A1 n1 c1]] W fun e w' => e = .returned (.bool true) ∧ Below W.heap.size W w' := fun W => by
          have := form_any (K1 : Int) (E2 : Int) (S2 : Int) (a2 : Int) ((f2 : Int) - 1) A1 n1 c1 W (Hz2.out.most)
          rw [decide_eq_true (nat_form' Hf2.out Hz2.out.len)] at this
          exact this
        refine wp_region_held_drew (S := (fun w' => (w'.cell? ⟨gz, 0, none⟩ = some (.int .u8 (K1 : Int)) ∧ w'.cell? ⟨gz, 1, none⟩ = some (.int .u64 (E2 : Int)) ∧ w'.cell? ⟨gz, 2, none⟩ = some (.int .u64 (S2 : Int)) ∧ w'.cell? ⟨gz, 3, none⟩ = some (.int .i64 (a2 : Int)) ∧ w'.cell? ⟨gz, 4, none⟩ = some (.int .i64 ((f2 : Int) - 1)) ∧ w'.cell? ⟨gz, 5, none⟩ = some (.slice A3 n3 c3)) ∧ (w'.cell? ⟨gy, 0, none⟩ = some (.int .u8 (K1 : Int)) ∧ w'.cell? ⟨gy, 1, none⟩ = some (.int .u64 (E2 : Int)) ∧ w'.cell? ⟨gy, 2, none⟩ = some (.int .u64 (S2 : Int)) ∧ w'.cell? ⟨gy, 3, none⟩ = some (.int .i64 (a2 : Int)) ∧ w'.cell? ⟨gy, 4, none⟩ = some (.int .i64 ((f2 : Int) - 1)) ∧ w'.cell? ⟨gy, 5, none⟩ = some (.slice A1 n1 c1)))) (by kernel_rfl) ?hSnewAz (fun hHeld => ?restAz)
        case hSnewAz => ((try dsimp only); exact HS.out _ hBd)
        refine wpAnyH_take (i := 0) (oi := ?oiAx0) (v := ?vAx0) ?hoAx0 ?h1Ax0 ?h2Ax0 ?h3Ax0 ?hqAx0 (Or.inl ⟨?h4Ax0, ?hyAx0⟩) (by assumption) ?restAx0
        case hoAx0 => (simp only [List.getElem?_toArray, List.getElem?_cons_zero, List.getElem?_cons_succ]; rfl)
        case h1Ax0 => kernel_rfl
        case h2Ax0 => kernel_rfl
        case h3Ax0 => kernel_rfl
        case h4Ax0 => rfl
        case hqAx0 => exact fun _ _ _ h => h
        case hyAx0 => (intro w hSw; (try dsimp only at hSw); go_simp <;> with_reducible rfl)
        (try simp only [Act.put, List.setIfInBounds_toArray, List.set_cons_zero, List.set_cons_succ])
        refine wpAnyH_take (i := 1) (oi := ?oiAx1) (v := ?vAx1) ?hoAx1 ?h1Ax1 ?h2Ax1 ?h3Ax1 ?hqAx1 (Or.inl ⟨?h4Ax1, ?hyAx1⟩) (by assumption) ?restAx1
        case hoAx1 => (simp only [List.getElem?_toArray, List.getElem?_cons_zero, List.getElem?_cons_succ]; rfl)
        case h1Ax1 => kernel_rfl
        case h2Ax1 => kernel_rfl
        case h3Ax1 => kernel_rfl
        case h4Ax1 => rfl
        case hqAx1 => exact fun _ _ _ h => h
        case hyAx1 => (intro w hSw; (try dsimp only at hSw); go_simp <;> with_reducible rfl)
        (try simp only [Act.put, List.setIfInBounds_toArray, List.set_cons_zero, List.set_cons_succ])
        refine wpAnyH_take (i := 2) (oi := ?oiAx2) (v := ?vAx2) ?hoAx2 ?h1Ax2 ?h2Ax2 ?h3Ax2 ?hqAx2 (Or.inl ⟨?h4Ax2, ?hyAx2⟩) (by assumption) ?restAx2
        case hoAx2 => (simp only [List.getElem?_toArray, List.getElem?_cons_zero, List.getElem?_cons_succ]; rfl)
        case h1Ax2 => kernel_rfl
        case h2Ax2 => kernel_rfl
        case h3Ax2 => kernel_rfl
        case h4Ax2 => rfl
        case hqAx2 => exact fun _ _ _ h => h
        case hyAx2 => (intro w hSw; (try dsimp only at hSw); go_simp <;> with_reducible rfl)
        (try simp only [Act.put, List.setIfInBounds_toArray, List.set_cons_zero, List.set_cons_succ])
        refine wpAnyH_take (i := 3) (oi := ?oiAx3) (v := ?vAx3) ?hoAx3 ?h1Ax3 ?h2Ax3 ?h3Ax3 ?hqAx3 (Or.inl ⟨?h4Ax3, ?hyAx3⟩) (by assumption) ?restAx3
        case hoAx3 => (simp only [List.getElem?_toArray, List.getElem?_cons_zero, List.getElem?_cons_succ]; rfl)
        case h1Ax3 => kernel_rfl
        case h2Ax3 => kernel_rfl
        case h3Ax3 => kernel_rfl
        case h4Ax3 => rfl
        case hqAx3 => exact fun _ _ _ h => h
        case hyAx3 => (intro w hSw; (try dsimp only at hSw); go_simp <;> with_reducible rfl)
        (try simp only [Act.put, List.setIfInBounds_toArray, List.set_cons_zero, List.set_cons_succ])
        refine wpAnyH_take (i := 5) (oi := ?oiAx5) (v := ?vAx5) ?hoAx5 ?h1Ax5 ?h2Ax5 ?h3Ax5 ?hqAx5 (Or.inl ⟨?h4Ax5, ?hyAx5⟩) (by assumption) ?restAx5
        case hoAx5 => (simp only [List.getElem?_toArray, List.getElem?_cons_zero, List.getElem?_cons_succ]; rfl)
        case h1Ax5 => kernel_rfl
        case h2Ax5 => kernel_rfl
        case h3Ax5 => kernel_rfl
        case h4Ax5 => rfl
        case hqAx5 => exact fun _ _ _ h => h
        case hyAx5 => (intro w hSw; (try dsimp only at hSw); go_simp <;> with_reducible rfl)
        (try simp only [Act.put, List.setIfInBounds_toArray, List.set_cons_zero, List.set_cons_succ])
        refine wpAnyH_ready (rs := [4]) (by kernel_rfl) (by simp) ?_
        refine AllReadyH.cons (o := ?oiAx4) ?hoAx4 (fun K hK => ?restAx4) ?moreAx4
        case moreAx4 => exact AllReadyH.nil
        case hoAx4 => (simp only [List.getElem?_toArray, List.getElem?_cons_zero, List.getElem?_cons_succ]; rfl)
        go_simp
        refine (O1 _).mono ?_
        rintro e w10 ⟨rfl, hB10'⟩
        have hB10 := hBd.trans hB10'
        try go_wp2_with fail
        refine hK.out _ _ ?hSnewAy4 (fun hHeld => ?restAy4)
        case hSnewAy4 => ((try dsimp only); exact HS.out _ hB10)
        clear hK K
        (try simp only [Act.put, List.setIfInBounds_toArray, List.set_cons_zero, List.set_cons_succ])
        refine wpAnyH_ready (rs := [6]) (by kernel_rfl) (by simp) ?_
        refine AllReadyH.cons (o := ?oiAx6) ?hoAx6 (fun K hK => ?restAx6) ?moreAx6
        case moreAx6 => exact AllReadyH.nil
        case hoAx6 => (simp only [List.getElem?_toArray, List.getElem?_cons_zero, List.getElem?_cons_succ]; rfl)
        go_simp
        refine (O2 _).mono ?_
        rintro e w11 ⟨rfl, hB11'⟩
        have hB11 := hB10.trans (hB11'.mono hB10.size)
        try go_wp2_with fail
        refine hK.out _ _ ?hSnewAy6 (fun hHeld => ?restAy6)
        case hSnewAy6 => ((try dsimp only); exact HS.out _ hB11)
        clear hK K
        (try simp only [Act.put, List.setIfInBounds_toArray, List.set_cons_zero, List.set_cons_succ])
        refine wpAnyH_ready (rs := [7]) (by kernel_rfl) (by simp) ?_
        refine AllReadyH.cons (o := ?oiAx7) ?hoAx7 (fun K hK => ?restAx7) ?moreAx7
        case moreAx7 => exact AllReadyH.nil
        case hoAx7 => (simp only [List.getElem?_toArray, List.getElem?_cons_zero, List.getElem?_cons_succ]; rfl)
        go_simp
        refine (SM _ (Hz1.out.below hB11) (Hz2.out.below hB11)).mono ?_
        rintro e w12 ⟨rfl, hB12'⟩
        have hB12 := hB11.trans (hB12'.mono hB11.size)
        try go_wp2_with fail
        refine hK.out _ _ ?hSnewAy7 (fun hHeld => ?restAy7)
        case hSnewAy7 => ((try dsimp only); exact HS.out _ hB12)
        clear hK K
        (try simp only [Act.put, List.setIfInBounds_toArray, List.set_cons_zero, List.set_cons_succ])
        refine wpAnyH_take (i := 8) (oi := ?oiAx8) (v := ?vAx8) ?hoAx8 ?h1Ax8 ?h2Ax8 ?h3Ax8 ?hqAx8 (Or.inl ⟨?h4Ax8, ?hyAx8⟩) (by assumption) ?restAx8
        case hoAx8 => (simp only [List.getElem?_toArray, List.getElem?_cons_zero, List.getElem?_cons_succ]; rfl)
        case h1Ax8 => kernel_rfl
        case h2Ax8 => kernel_rfl
        case h3Ax8 => kernel_rfl
        case h4Ax8 => rfl
        case hqAx8 => exact fun _ _ _ h => h
        case hyAx8 => (intro w hSw; (try dsimp only at hSw); go_simp <;> with_reducible rfl)
        (try simp only [Act.put, List.setIfInBounds_toArray, List.set_cons_zero, List.set_cons_succ])
        refine wpAnyH_take (i := 9) (oi := ?oiAx9) (v := ?vAx9) ?hoAx9 ?h1Ax9 ?h2Ax9 ?h3Ax9 ?hqAx9 (Or.inl ⟨?h4Ax9, ?hyAx9⟩) (by assumption) ?restAx9
        case hoAx9 => (simp only [List.getElem?_toArray, List.getElem?_cons_zero, List.getElem?_cons_succ]; rfl)
        case h1Ax9 => kernel_rfl
        case h2Ax9 => kernel_rfl
        case h3Ax9 => kernel_rfl
        case h4Ax9 => rfl
        case hqAx9 => exact fun _ _ _ h => h
        case hyAx9 => (intro w hSw; (try dsimp only at hSw); go_simp <;> with_reducible rfl)
        (try simp only [Act.put, List.setIfInBounds_toArray, List.set_cons_zero, List.set_cons_succ])
        refine wpAnyH_take (i := 10) (oi := ?oiAx10) (v := ?vAx10) ?hoAx10 ?h1Ax10 ?h2Ax10 ?h3Ax10 ?hqAx10 (Or.inl ⟨?h4Ax10, ?hyAx10⟩) (by assumption) ?restAx10
        case hoAx10 => (simp only [List.getElem?_toArray, List.getElem?_cons_zero, List.getElem?_cons_succ]; rfl)
        case h1Ax10 => kernel_rfl
        case h2Ax10 => kernel_rfl
        case h3Ax10 => kernel_rfl
        case h4Ax10 => rfl
        case hqAx10 => exact fun _ _ _ h => h
        case hyAx10 => (intro w hSw; (try dsimp only at hSw); go_simp <;> with_reducible rfl)
        (try simp only [Act.put, List.setIfInBounds_toArray, List.set_cons_zero, List.set_cons_succ])
        refine wpAnyH_ready (rs := [11]) (by kernel_rfl) (by simp) ?_
        refine AllReadyH.cons (o := ?oiAx11) ?hoAx11 (fun K hK => ?restAx11) ?moreAx11
        case moreAx11 => exact AllReadyH.nil
        case hoAx11 => (simp only [List.getElem?_toArray, List.getElem?_cons_zero, List.getElem?_cons_succ]; rfl)
        go_simp
        refine (FM _).mono ?_
        rintro e w13 ⟨rfl, hB13'⟩
        have hB13 := hB12.trans (hB13'.mono hB12.size)
        try go_wp2_with fail
        refine hK.out _ _ ?hSnewAy11 (fun hHeld => ?restAy11)
        case hSnewAy11 => ((try dsimp only); exact HS.out _ hB13)
        clear hK K
        (try simp only [Act.put, List.setIfInBounds_toArray, List.set_cons_zero, List.set_cons_succ])
        refine wpAnyH_take (i := 12) (oi := ?oiAx12) (v := ?vAx12) ?hoAx12 ?h1Ax12 ?h2Ax12 ?h3Ax12 ?hqAx12 (Or.inl ⟨?h4Ax12, ?hyAx12⟩) (by assumption) ?restAx12
        case hoAx12 => (simp only [List.getElem?_toArray, List.getElem?_cons_zero, List.getElem?_cons_succ]; rfl)
        case h1Ax12 => kernel_rfl
        case h2Ax12 => kernel_rfl
        case h3Ax12 => kernel_rfl
        case h4Ax12 => rfl
        case hqAx12 => exact fun _ _ _ h => h
        case hyAx12 => (intro w hSw; (try dsimp only at hSw); go_simp <;> with_reducible rfl)
        (try simp only [Act.put, List.setIfInBounds_toArray, List.set_cons_zero, List.set_cons_succ])
        refine wpAnyH_take (i := 13) (oi := ?oiAx13) (v := ?vAx13) ?hoAx13 ?h1Ax13 ?h2Ax13 ?h3Ax13 ?hqAx13 (Or.inl ⟨?h4Ax13, ?hyAx13⟩) (by assumption) ?restAx13
        case hoAx13 => (simp only [List.getElem?_toArray, List.getElem?_cons_zero, List.getElem?_cons_succ]; rfl)
        case h1Ax13 => kernel_rfl
        case h2Ax13 => kernel_rfl
        case h3Ax13 => kernel_rfl
        case h4Ax13 => rfl
        case hqAx13 => exact fun _ _ _ h => h
        case hyAx13 => (intro w hSw; (try dsimp only at hSw); go_simp <;> with_reducible rfl)
        (try simp only [Act.put, List.setIfInBounds_toArray, List.set_cons_zero, List.set_cons_succ])
        refine wpAnyH_done (by kernel_rfl) ?_ _
        go_wp2
        go_ret
        exact ⟨rfl, HB.out.trans (hB13.mono HB.out.size)⟩
end Go.Proofs.Ytpncgfdnilmhhaa.Sheet
