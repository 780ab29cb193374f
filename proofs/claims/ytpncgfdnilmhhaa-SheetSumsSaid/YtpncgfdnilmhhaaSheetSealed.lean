import Derived.Test.YtpncgfdnilmhhaaOctRef
import Derived.Test.YtpncgfdnilmhhaaSheetLay
set_option linter.unusedVariables false
set_option linter.unusedSimpArgs false
namespace Go.Proofs.Ytpncgfdnilmhhaa.Sheet
open Go.RowKit Go.Proofs.Ytpncgfdnilmhhaa.Kit Go.Proofs.Ytpncgfdnilmhhaa.Oct
set_option maxRecDepth 100000 in
set_option maxHeartbeats 4000000 in
theorem sealed_any (A : Option Addr) (n c : Nat) (xs : List Int) (w : World) (hz : Nums w .u8 A n xs) (hsm : n ≤ 1000) :
    Calls Try.prog 20 #[.slice A n c] w fun e w' => ∃ v, e = .returned v ∧ OwnB w' w.heap.size v (xs ++ (le (sum xs) 4 ++ [90])) ∧ Below w.heap.size w w' := by
  have Hz := hid hz
  have hn := hz.most
  have Hb := hid (isB_of hz)
  have Hl := hid hz.len
  go_enter Try.func20, Try.ntmps20
  go_wp2
  go_loop [3, 4, 5, 6] (fun v i _ _ => ∃ k : Nat, k ≤ n ∧ i = .int .i64 k ∧ v = .int .u32 ((crc ones (xs.take k) : Nat) : Int)) (fun _ i _ _ => n - (intOf i).toNat)
  case atStart => exact ⟨0, by omega, rfl, rfl⟩
  case round =>
    obtain ⟨k, hk, rfl, rfl⟩ := hrel
    by_cases hlt : k < n
    · obtain ⟨bz, oz, rfl, hc⟩ := hz.at_ k hlt
      obtain ⟨hx0, hx1⟩ := wf_u8 (hz.wf_at k hlt)
      have hcl := crc_lt (c := ones) (by decide) (isB_take Hb.out k)
      have Hs := hid (crc_snoc ones (xs.take k) (xs.getD k 0))
      have Ht := hid (take_at xs k (by rw [Hl.out]; exact hlt))
      generalize xs.getD k 0 = x at *
      generalize crc ones (xs.take k) = cc at *
      obtain ⟨x, rfl⟩ := Int.eq_ofNat_of_zero_le hx0
      have hx8 : x < 2 ^ 8 := by omega
      clear hz
      have hkn : (k : Int) < (n : Int) := by omega
      go_wp2
      go_loop [3, 5, 6] (fun v j _ => ∃ m : Nat, m ≤ 8 ∧ j = .int .i64 m ∧ v = .int .u32 ((stpn m (cc ^^^ x % 2 ^ m) : Nat) : Int)) (fun _ j _ => 8 - (intOf j).toNat)
      case atStart => exact ⟨0, by omega, rfl, by simp [stpn, Nat.mod_one]⟩
      case round =>
        obtain ⟨m, hm, rfl, rfl⟩ := hrel
        by_cases hm8 : m < 8
        · have hy8 : x / 2 ^ m < 2 ^ 8 := Nat.lt_of_le_of_lt (Nat.div_le_self _ _) hx8
          have hs := stpn_lt (n := m) (Nat.xor_lt_two_pow hcl (Nat.lt_of_lt_of_le (Nat.lt_of_le_of_lt (Nat.mod_le x (2 ^ m)) hx8) (by decide : 2 ^ 8 ≤ 2 ^ 32)))
          have Hst := hid (ref_bits cc x m)
          generalize stpn m (cc ^^^ x % 2 ^ m) = s at *
          have ed : (x : Int) / 2 ^ m = ((x / 2 ^ m : Nat) : Int) := by rw [Int.natCast_ediv, Int.natCast_pow]; rfl
          generalize x / 2 ^ m = y at *
          rw [ref_step] at Hst
          have Hx := hid (bits_xor32 s y hs (by omega))
          have hxl := Nat.xor_lt_two_pow hs (show y < 2 ^ 32 by omega)
          have Hp := hid (bits_xor32 (s / 2) poly (by omega) poly_lt)
          generalize s ^^^ y = u at *
          have hsI : (s : Int) ≤ 4294967295 := by omega
          have hm8' : (m : Int) < 8 := by omega
          have hm0 : (0 : Int) ≤ (m : Int) := by omega
          have hx256 : (x : Int) ≤ 255 := by omega
          have hyI : (y : Int) ≤ 255 := by omega
          go_wp2
          · rename_i hbit
            rw [Hx.out, IntWalk.rem_in _ _ (by omega)] at hbit
            have hu : u % 2 = 1 := by
              have := eq_of_beq hbit
              omega
            go_round
            case rel =>
              refine ⟨m + 1, by omega, by go_num, ?_⟩
              rw [Hst.out, if_pos hu, ← Hp.out]
              rfl
            case measure => simp [intOf]; omega
          · rename_i hbit
            rw [Hx.out, IntWalk.rem_in _ _ (by omega)] at hbit
            have hu : ¬ u % 2 = 1 := by
              intro h
              have : (u : Int) % 2 = 1 := by omega
              rw [this] at hbit
              cases hbit
            go_round
            case rel =>
              refine ⟨m + 1, by omega, by go_num, ?_⟩
              rw [Hst.out, if_neg hu, Nat.xor_zero]
              rfl
            case measure => simp [intOf]; omega
        · obtain rfl : m = 8 := by omega
          have Hm : Hid (x % 2 ^ 8 = x) := Nat.mod_eq_of_lt hx8
          rw [Hm.out]
          go_wp2
          go_round
          case rel =>
            refine ⟨k + 1, by omega, by go_num, ?_⟩
            rw [Ht.out, Hs.out]
            rfl
          case measure => simp [intOf]; omega
    · have hkl : xs.take k = xs := List.take_of_length_le (by have := Hl.out; omega)
      rw [hkl]
      clear hkl
      have hcl := crc_lt (c := ones) (by decide) Hb.out
      have Hxor := hid (bits_xor32 (crc ones xs) ones hcl (by decide))
      have Hs := hid (show sum xs = crc ones xs ^^^ ones from rfl)
      have Hsl := hid (sum_lt Hb.out)
      generalize crc ones xs = cc at *
      have hcc : (cc : Int) ≤ 4294967295 := by omega
      have hb4 : bits .xor .u32 (cc : Int) 4294967295 = ((sum xs : Nat) : Int) := by
        rw [Hs.out]
        exact Hxor.out
      clear hz
      have hz := Hz.out
      go_upto_region 15 with (at_builtin; refine append_nums w.heap.size rfl _ _ 23 5 .u8 1 rfl Try.underlying23 info5 _ 0 [] A n c xs (by rfl) (by rfl) (World.ownsRow_nil _ _ _ _) hz (Nat.le_refl _) (by omega) (by omega) ?_; intro v1 w1 hown hgr hat)
      have ho1 : OwnB w1 w.heap.size v1 xs := by
        unfold OwnB
        rw [Hl.out]
        rw [List.nil_append, Nat.zero_add] at hown
        exact hown
      have hB1 : Below w.heap.size w w1 := (Below.refl _ _).grown hgr (Nat.le_refl _) (by intro k hk; simp [Value.ownBlock] at hk)
      clear hown hgr hat hb4 hz
      have hsl := Hsl.out
      generalize hsx : sum xs = s at *
      have Hsx := hid hsx
      clear hsx
      have hs32 : (s : Int) ≤ 4294967295 := by omega
      have hnl : Nums (w1.alloc (.cells #[.int .u8 ((s : Int) % 256), .int .u8 ((s : Int) / 256 % 256), .int .u8 ((s : Int) / 65536 % 256), .int .u8 ((s : Int) / 16777216), .int .u8 90] 5)) .u8 (some ⟨w1.heap.size, 0, none⟩) 5 (le s 4 ++ [90]) := by
        have e : le s 4 ++ [90] = [(s : Int) % 256, (s : Int) / 256 % 256, (s : Int) / 65536 % 256, (s : Int) / 16777216, 90] := by
          simp [le]
          omega
        have h5 : (le s 4 ++ [90]).length = 5 := by rw [List.length_append, le_len]; rfl
        have hwf : ∀ x ∈ le s 4 ++ [90], (Lit.int .u8 x).wf = true := wf_of (isB_append (le_isB _ _) (fun x hx => by simp at hx; omega))
        rw [e] at h5 hwf ⊢
        exact nums_lit (fr := (0, 0)) (heap_alloc_new w1 _) h5 hwf
      have hB2 : Below w.heap.size w (w1.alloc (.cells #[.int .u8 ((s : Int) % 256), .int .u8 ((s : Int) / 256 % 256), .int .u8 ((s : Int) / 65536 % 256), .int .u8 ((s : Int) / 16777216), .int .u8 90] 5)) := hB1.alloc hB1.size _
      have ho2 := ho1
      unfold OwnB at ho2
      rw [Hl.out] at ho2
      have ho3 := ho2.alloc (.cells #[.int .u8 ((s : Int) % 256), .int .u8 ((s : Int) / 256 % 256), .int .u8 ((s : Int) / 65536 % 256), .int .u8 ((s : Int) / 16777216), .int .u8 90] 5)
      have Hl2 := hid ho2
      clear ho1 ho2
      go_wp2_with (at_builtin; refine append_nums w.heap.size rfl _ _ 23 5 .u8 1 rfl Try.underlying23 info5 _ _ _ (some ⟨w1.heap.size, 0, none⟩) 5 5 (le s 4 ++ [90]) (by rfl) (by rfl) ho3 hnl hB2.size (by omega) (by omega) ?_; intro v4 w4 hown4 hgr4 hat4)
      have ho4 : OwnB w4 w.heap.size v4 (xs ++ (le s 4 ++ [90])) := by
        unfold OwnB
        rw [List.length_append, List.length_append, le_len, List.map_append, Hl.out]
        exact hown4
      have hB4 := hB2.grown hgr4 hB2.size (fun k hk => (World.ownsRow.lt ho3 k hk).1)
      go_wp2
      go_ret
      exact ⟨_, rfl, by rw [Hsx.out]; exact ho4, hB4⟩
end Go.Proofs.Ytpncgfdnilmhhaa.Sheet
