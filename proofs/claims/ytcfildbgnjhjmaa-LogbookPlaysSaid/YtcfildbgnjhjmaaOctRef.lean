import Derived.Test.YtcfildbgnjhjmaaOctRead
import Derived.Test.YtcfildbgnjhjmaaOctTurn
set_option linter.unusedVariables false
set_option linter.unusedSimpArgs false
namespace Go.Proofs.Ytcfildbgnjhjmaa.Oct
open Go.RowKit Go.Proofs.Ytcfildbgnjhjmaa.Kit

theorem drop_at (xs : List Int) (k : Nat) (hk : k < xs.length) : num (xs.drop k) = (xs.getD k 0).toNat + 256 * num (xs.drop (k + 1)) := by
  rw [List.drop_eq_getElem_cons hk, List.getD_eq_getElem?_getD, List.getElem?_eq_getElem hk]
  rfl

set_option maxHeartbeats 400000 in
theorem rget_any (A : Option Addr) (n c : Nat) (xs : List Int) (w : World) (hz : Nums w .u8 A n xs) (h8 : n ≤ 8) :
    Calls Try.prog 83 #[.slice A n c] w fun e w' => e = .returned (.int .u64 ((num xs : Nat) : Int)) ∧ w' = w := by
  have hn := hz.most
  have Hb := hid (isB_of hz)
  have Hl := hid hz.len
  go_enter Try.func83, Try.ntmps83
  go_wp2
  go_loop [3, 4] (fun v i => ∃ k : Nat, k ≤ n ∧ i = .int .i64 ((k : Int) - 1) ∧ v = .int .u64 ((num (xs.drop k) : Nat) : Int)) (fun _ i => (intOf i + 1).toNat)
  case atStart => exact ⟨n, by omega, by go_num, by rw [List.drop_eq_nil_of_le (by have := Hl.out; omega)]; rfl⟩
  case round =>
    obtain ⟨k, hk, rfl, rfl⟩ := hrel
    rcases k with _ | k
    · have hd : decide ((0 : Int) ≤ ((0 : Nat) : Int) - 1) = false := by decide
      rw [List.drop_zero]
      go_wp2
      go_ret
      exact ⟨rfl, rfl⟩
    · obtain ⟨bz, oz, rfl, hc⟩ := hz.at_ k (by omega)
      obtain ⟨hx0, hx1⟩ := wf_u8 (hz.wf_at k (by omega))
      have hs := drop_at xs k (by have := Hl.out; omega)
      have hb := num_lt64 (xs.drop k) (isB_drop Hb.out k) (by have := Hl.out; rw [List.length_drop]; omega)
      have Hs : Hid (((num (xs.drop (k + 1)) : Nat) : Int) * 256 + xs.getD k 0 = ((num (xs.drop k) : Nat) : Int)) := by
        show _ = _
        omega
      have h1 : ((num (xs.drop (k + 1)) : Nat) : Int) * 256 + xs.getD k 0 ≤ 18446744073709551615 := by omega
      clear hs hb hz
      generalize xs.getD k 0 = x at *
      generalize num (xs.drop (k + 1)) = y at *
      generalize hz2 : num (xs.drop k) = z at *
      have Hz := hid hz2
      clear hz2
      have e1 : ((k + 1 : Nat) : Int) - 1 = (k : Int) := by omega
      rw [e1]
      clear e1
      have hk0 : (0 : Int) ≤ (k : Int) := by omega
      have hkn : (k : Int) < (n : Int) := by omega
      go_wp2
      go_round
      case rel => exact ⟨k, by omega, by go_num, by rw [Hz.out, ← Hs.out]⟩
      case measure => simp [intOf]

theorem ref_step (c y : Nat) : stp (c ^^^ y % 2) = (c / 2) ^^^ (if (c ^^^ y) % 2 = 1 then poly else 0) := by
  have h1 : (c ^^^ y % 2) / 2 = c / 2 := by
    rw [Nat.xor_div_two, Nat.mod_div_self, Nat.xor_zero]
  have h2 : (c ^^^ y % 2) % 2 = (c ^^^ y) % 2 := by
    have a1 := Nat.xor_mod_two_pow (a := c) (b := y % 2) (n := 1)
    have a2 := Nat.xor_mod_two_pow (a := c) (b := y) (n := 1)
    simp only [Nat.pow_one, Nat.mod_mod] at a1 a2
    rw [a1, a2]
  unfold stp
  rw [h1, h2]
theorem ref_bits (c x k : Nat) : stpn (k + 1) (c ^^^ x % 2 ^ (k + 1)) = stp (stpn k (c ^^^ x % 2 ^ k) ^^^ x / 2 ^ k % 2) := by
  rw [stpn_snoc, Nat.mod_pow_succ, join_xor _ _ k (Nat.mod_lt _ (Nat.two_pow_pos k)), ← Nat.xor_assoc, stpn_xor, stpn_shift]

set_option maxHeartbeats 1000000 in
theorem rsum_any (A : Option Addr) (n c : Nat) (xs : List Int) (w : World) (hz : Nums w .u8 A n xs) :
    Calls Try.prog 94 #[.slice A n c] w fun e w' => e = .returned (.int .u32 ((sum xs : Nat) : Int)) ∧ w' = w := by
  have hn := hz.most
  have Hb := hid (isB_of hz)
  have Hl := hid hz.len
  go_enter Try.func94, Try.ntmps94
  go_wp2
  go_loop [3, 4, 5, 6] (fun v i _ _ => ∃ k : Nat, k ≤ n ∧ i = .int .i64 k ∧ v = .int .u32 ((crc ones (xs.take k) : Nat) : Int)) (fun _ i _ _ => n - (intOf i).toNat)
  case atStart => exact ⟨0, by omega, rfl, rfl⟩
  case round =>
    obtain ⟨k, hk, rfl, rfl⟩ := hrel
    by_cases hlt : k < n
    · obtain ⟨bz, oz, rfl, hc⟩ := hz.at_ k hlt
      obtain ⟨hx0, hx1⟩ := wf_u8 (hz.wf_at k hlt)
      have hcl := crc_lt (c := ones) (by decide) (isB_take Hb.out k)
      have Hs := hid (crc_snoc ones (xs.take k) (xs.getD k 0))
      have Ht := hid (take_at xs k (by rw [Hl.out]; exact hlt))
      generalize xs.getD k 0 = x at *
      generalize crc ones (xs.take k) = cc at *
      obtain ⟨x, rfl⟩ := Int.eq_ofNat_of_zero_le hx0
      have hx8 : x < 2 ^ 8 := by omega
      clear hz
      have hkn : (k : Int) < (n : Int) := by omega
      go_wp2
      go_loop [3, 5, 6] (fun v j _ => ∃ m : Nat, m ≤ 8 ∧ j = .int .i64 m ∧ v = .int .u32 ((stpn m (cc ^^^ x % 2 ^ m) : Nat) : Int)) (fun _ j _ => 8 - (intOf j).toNat)
      case atStart => exact ⟨0, by omega, rfl, by simp [stpn, Nat.mod_one]⟩
      case round =>
        obtain ⟨m, hm, rfl, rfl⟩ := hrel
        by_cases hm8 : m < 8
        · have hy8 : x / 2 ^ m < 2 ^ 8 := Nat.lt_of_le_of_lt (Nat.div_le_self _ _) hx8
          have hs := stpn_lt (n := m) (Nat.xor_lt_two_pow hcl (Nat.lt_of_lt_of_le (Nat.lt_of_le_of_lt (Nat.mod_le x (2 ^ m)) hx8) (by decide : 2 ^ 8 ≤ 2 ^ 32)))
          have Hst := hid (ref_bits cc x m)
          generalize stpn m (cc ^^^ x % 2 ^ m) = s at *
          have ed : (x : Int) / 2 ^ m = ((x / 2 ^ m : Nat) : Int) := by rw [Int.natCast_ediv, Int.natCast_pow]; rfl
          generalize x / 2 ^ m = y at *
          rw [ref_step] at Hst
          have Hx := hid (bits_xor32 s y hs (by omega))
          have hxl := Nat.xor_lt_two_pow hs (show y < 2 ^ 32 by omega)
          have Hp := hid (bits_xor32 (s / 2) poly (by omega) poly_lt)
          generalize s ^^^ y = u at *
          have hsI : (s : Int) ≤ 4294967295 := by omega
          have hm8' : (m : Int) < 8 := by omega
          have hm0 : (0 : Int) ≤ (m : Int) := by omega
          have hx256 : (x : Int) ≤ 255 := by omega
          have hyI : (y : Int) ≤ 255 := by omega
          go_wp2
          · rename_i hbit
            rw [Hx.out, IntWalk.rem_in _ _ (by omega)] at hbit
            have hu : u % 2 = 1 := by
              have := eq_of_beq hbit
              omega
            go_round
            case rel =>
              refine ⟨m + 1, by omega, by go_num, ?_⟩
              rw [Hst.out, if_pos hu, ← Hp.out]
              rfl
            case measure => simp [intOf]; omega
          · rename_i hbit
            rw [Hx.out, IntWalk.rem_in _ _ (by omega)] at hbit
            have hu : ¬ u % 2 = 1 := by
              intro h
              have : (u : Int) % 2 = 1 := by omega
              rw [this] at hbit
              cases hbit
            go_round
            case rel =>
              refine ⟨m + 1, by omega, by go_num, ?_⟩
              rw [Hst.out, if_neg hu, Nat.xor_zero]
              rfl
            case measure => simp [intOf]; omega
        · obtain rfl : m = 8 := by omega
          have Hm : Hid (x % 2 ^ 8 = x) := Nat.mod_eq_of_lt hx8
          rw [Hm.out]
          go_wp2
          go_round
          case rel =>
            refine ⟨k + 1, by omega, by go_num, ?_⟩
            rw [Ht.out, Hs.out]
            rfl
          case measure => simp [intOf]; omega
    · have hkl : xs.take k = xs := List.take_of_length_le (by have := Hl.out; omega)
      rw [hkl]
      clear hkl
      have hcl := crc_lt (c := ones) (by decide) Hb.out
      have Hxor := hid (bits_xor32 (crc ones xs) ones hcl (by decide))
      have Hs := hid (show sum xs = crc ones xs ^^^ ones from rfl)
      generalize crc ones xs = cc at *
      have hcc : (cc : Int) ≤ 4294967295 := by omega
      go_wp2
      go_ret
      refine ⟨?_, rfl⟩
      show Ending.returned (.int .u32 (bits .xor .u32 (cc : Int) ((ones : Nat) : Int))) = _
      rw [Hs.out, Hxor.out]
end Go.Proofs.Ytcfildbgnjhjmaa.Oct
