import Derived.Test.YtcfildbgnjhjmaaKit
import Derived.Test.YtcfildbgnjhjmaaOctPlain
import Derived.WalkSpells
set_option linter.unusedVariables false
set_option linter.unusedSimpArgs false
namespace Go.Proofs.Ytcfildbgnjhjmaa.Oct
open Go.RowKit Go.Proofs.Ytcfildbgnjhjmaa.Kit

theorem isB_of {w : World} {A : Option Addr} {n : Nat} {xs : List Int} (h : Nums w .u8 A n xs) : IsB xs := fun x hx => wf_u8 (h.wf x hx)
theorem wf_of {xs : List Int} (h : IsB xs) : ∀ x ∈ xs, (Lit.int .u8 x).wf = true := by
  intro x hx
  have := h x hx
  simp [Lit.wf, IntKind.min, IntKind.max, IntKind.signed, IntKind.bits]
  omega
theorem take_at (xs : List Int) (k : Nat) (hk : k < xs.length) : xs.take (k + 1) = xs.take k ++ [xs.getD k 0] := by
  rw [List.take_succ_eq_append_getElem hk, List.getD_eq_getElem?_getD, List.getElem?_eq_getElem hk]; rfl

theorem bits_xor32 (a b : Nat) (ha : a < 2 ^ 32) (hb : b < 2 ^ 32) : bits .xor .u32 (a : Int) (b : Int) = ((a ^^^ b : Nat) : Int) := by
  have hx := Nat.xor_lt_two_pow ha hb
  show IntKind.u32.wrap (((BitVec.ofInt 32 (a : Int) ^^^ BitVec.ofInt 32 (b : Int)).toNat : Nat) : Int) = _
  rw [BitVec.toNat_xor, BitVec.ofInt_natCast, BitVec.ofInt_natCast, BitVec.toNat_ofNat, BitVec.toNat_ofNat, Nat.mod_eq_of_lt ha, Nat.mod_eq_of_lt hb, IntKind.wrap_u32]
  omega
theorem bits_and32 (a b : Nat) (ha : a < 2 ^ 32) (hb : b < 2 ^ 32) : bits .and .u32 (a : Int) (b : Int) = ((a &&& b : Nat) : Int) := by
  have hx := Nat.and_lt_two_pow a hb
  show IntKind.u32.wrap (((BitVec.ofInt 32 (a : Int) &&& BitVec.ofInt 32 (b : Int)).toNat : Nat) : Int) = _
  rw [BitVec.toNat_and, BitVec.ofInt_natCast, BitVec.ofInt_natCast, BitVec.toNat_ofNat, BitVec.toNat_ofNat, Nat.mod_eq_of_lt ha, Nat.mod_eq_of_lt hb, IntKind.wrap_u32]
  omega
theorem stp_bits (c : Nat) (hc : c < 2 ^ 32) : bits .xor .u32 ((c : Int) / 2) (bits .and .u32 3988292384 (-bits .and .u32 (c : Int) 1 % 4294967296)) = ((stp c : Nat) : Int) := by
  have h1 : bits .and .u32 (c : Int) 1 = ((c % 2 : Nat) : Int) := by
    have := bits_and32 c 1 hc (by decide)
    rw [Nat.and_one_is_mod] at this
    exact this
  rw [h1]
  unfold stp
  by_cases h : c % 2 = 1
  · rw [if_pos h, h]
    have e : (-((1 : Nat) : Int) % 4294967296) = ((4294967295 : Nat) : Int) := by decide
    have e2 : bits .and .u32 3988292384 ((4294967295 : Nat) : Int) = ((poly : Nat) : Int) := by
      have := bits_and32 3988292384 4294967295 (by decide) (by decide)
      rw [show (3988292384 : Nat) &&& 4294967295 = poly by decide] at this
      exact this
    rw [e, e2]
    have e3 : (c : Int) / 2 = ((c / 2 : Nat) : Int) := by omega
    rw [e3]
    exact bits_xor32 _ _ (by omega) poly_lt
  · have h0 : c % 2 = 0 := by omega
    rw [if_neg h, h0]
    have e : (-((0 : Nat) : Int) % 4294967296) = ((0 : Nat) : Int) := by decide
    have e2 : bits .and .u32 3988292384 ((0 : Nat) : Int) = ((0 : Nat) : Int) := by
      have := bits_and32 3988292384 0 (by decide) (by decide)
      rw [Nat.and_zero] at this
      exact this
    rw [e, e2]
    have e3 : (c : Int) / 2 = ((c / 2 : Nat) : Int) := by omega
    rw [e3]
    exact bits_xor32 _ _ (by omega) (by decide)
theorem stpn_snoc (k c : Nat) : stpn (k + 1) c = stp (stpn k c) := by rw [stpn_add]; rfl
theorem get_step (xs : List Int) (hx : IsB xs) (k : Nat) (hk : k < xs.length) (h8 : k < 8) :
    bits .or .u64 ((num (xs.take k) : Nat) : Int) (IntKind.u64.wrap (xs.getD k 0 * 2 ^ (8 * k))) = ((num (xs.take (k + 1)) : Nat) : Int) := by
  have hb : 0 ≤ xs.getD k 0 ∧ xs.getD k 0 ≤ 255 := by
    rw [List.getD_eq_getElem?_getD, List.getElem?_eq_getElem hk]; exact hx _ (List.getElem_mem _)
  have hl : (xs.take k).length = k := by rw [List.length_take]; omega
  have h1 := num_lt (xs.take k) (isB_take hx k)
  rw [hl] at h1
  rw [take_at xs k hk, num_append, hl]
  generalize xs.getD k 0 = x at *
  obtain ⟨b, rfl⟩ := Int.eq_ofNat_of_zero_le hb.1
  have hp : (256 : Nat) ^ k = 2 ^ (8 * k) := by rw [Nat.pow_mul]
  rw [hp] at h1 ⊢
  have hbk : b * 2 ^ (8 * k) < 2 ^ 64 := by
    have h2 : b * 2 ^ (8 * k) < 2 ^ 8 * 2 ^ (8 * k) := Nat.mul_lt_mul_of_pos_right (by omega) (Nat.two_pow_pos _)
    rw [← Nat.pow_add] at h2
    exact Nat.lt_of_lt_of_le h2 (Nat.pow_le_pow_right (by decide) (by omega))
  have hw : IntKind.u64.wrap ((b : Int) * 2 ^ (8 * k)) = ((b * 2 ^ (8 * k) : Nat) : Int) := by
    rw [IntWalk.u64_in]
    · push_cast; rfl
    · have : ((b * 2 ^ (8 * k) : Nat) : Int) = (b : Int) * 2 ^ (8 * k) := by push_cast; rfl
      omega
  rw [hw]
  have hn : num (xs.take k) < 2 ^ 64 := Nat.lt_of_lt_of_le h1 (Nat.pow_le_pow_right (by decide) (by omega))
  have hor := (bits_nat .u64 64 (by decide) (fun n h0 h1 => IntWalk.u64_in n ⟨h0, by have : n < 18446744073709551616 := h1; omega⟩) (num (xs.take k)) (b * 2 ^ (8 * k)) hn hbk).2
  rw [hor, Nat.or_comm, Nat.mul_comm b, ← Nat.two_pow_add_eq_or_of_lt h1 b]
  have e1 : num [(b : Int)] = b := by simp [num]
  rw [e1, Nat.add_comm]
theorem num_lt64 (xs : List Int) (hx : IsB xs) (h8 : xs.length ≤ 8) : num xs < 18446744073709551616 := by
  have h1 := num_lt xs hx
  refine Nat.lt_of_lt_of_le h1 ?_
  rw [show (18446744073709551616 : Nat) = 256 ^ 8 by decide]
  exact Nat.pow_le_pow_right (by decide) h8

set_option maxHeartbeats 400000 in
theorem sum_any (A : Option Addr) (n c : Nat) (xs : List Int) (w : World) (hz : Nums w .u8 A n xs) :
    Calls Try.prog 71 #[.slice A n c] w fun e w' => e = .returned (.int .u32 ((sum xs : Nat) : Int)) ∧ w' = w := by
  have hn := hz.most
  have Hb := hid (isB_of hz)
  have Hl := hid hz.len
  go_enter Try.func71, Try.ntmps71
  go_wp2
  go_loop [3, 5, 8, 16] (fun v _ i _ => ∃ k : Nat, k ≤ n ∧ i = .int .i64 k ∧ v = .int .u32 ((crc ones (xs.take k) : Nat) : Int)) (fun _ _ i _ => n - (intOf i).toNat)
  case atStart => exact ⟨0, by omega, rfl, rfl⟩
  case round =>
    obtain ⟨k, hk, rfl, rfl⟩ := hrel
    by_cases hlt : k < n
    · obtain ⟨bz, oz, rfl, hc⟩ := hz.at_ k hlt
      obtain ⟨hx0, hx1⟩ := wf_u8 (hz.wf_at k hlt)
      have hcl := crc_lt (c := ones) (by decide) (isB_take Hb.out k)
      have Hs := hid (crc_snoc ones (xs.take k) (xs.getD k 0))
      have Ht := hid (take_at xs k (by rw [Hl.out]; exact hlt))
      generalize xs.getD k 0 = x at *
      generalize crc ones (xs.take k) = cc at *
      obtain ⟨xn, rfl⟩ := Int.eq_ofNat_of_zero_le hx0
      have hxn : xn < 2 ^ 32 := by omega
      have hxor := bits_xor32 cc xn hcl hxn
      have hci := Nat.xor_lt_two_pow hcl hxn
      have Hxor := hid hxor
      clear hxor hz
      have hcc : (cc : Int) ≤ 4294967295 := by omega
      go_wp2
      rw [Hxor.out]
      generalize hd : cc ^^^ xn = d at *
      have Hd := hid hd
      clear hd
      go_loop [3, 16] (fun v j => ∃ m : Nat, m ≤ 8 ∧ j = .int .i64 m ∧ v = .int .u32 ((stpn m d : Nat) : Int)) (fun _ j => 8 - (intOf j).toNat)
      case atStart => exact ⟨0, by omega, rfl, rfl⟩
      case round =>
        obtain ⟨m, hm, rfl, rfl⟩ := hrel
        by_cases hm8 : (m : Int) < 8
        · have hsl := stpn_lt (n := m) hci
          have Hstp := hid (stp_bits (stpn m d) hsl)
          have Hsn := hid (stpn_snoc m d)
          generalize stpn m d = s at *
          have hs1 : (s : Int) ≤ 4294967295 := by omega
          go_wp2
          go_round
          case rel => exact ⟨m + 1, by omega, by go_num, by rw [Hsn.out, Hstp.out]⟩
          case measure => simp [intOf]; omega
        · have hm' : m = 8 := by omega
          have Hm := hid hm'
          clear hm'
          go_wp2
          go_round
          case rel =>
            refine ⟨k + 1, by omega, by go_num, ?_⟩
            rw [Ht.out, Hs.out, Hm.out, Hd.out.symm]
            rfl
          case measure => simp [intOf]; omega
    · have hkl : xs.take k = xs := List.take_of_length_le (by have := Hl.out; omega)
      rw [hkl]
      clear hkl
      have hcl := crc_lt (c := ones) (by decide) Hb.out
      have Hxor := hid (bits_xor32 (crc ones xs) ones hcl (by decide))
      have Hs := hid (show sum xs = crc ones xs ^^^ ones from rfl)
      generalize crc ones xs = cc at *
      have hcc : (cc : Int) ≤ 4294967295 := by omega
      have Hm := hid (show IntKind.u32.max = ((ones : Nat) : Int) from rfl)
      go_wp2
      all_goals
        go_ret
        refine ⟨?_, rfl⟩
        show Ending.returned (.int .u32 (bits .xor .u32 IntKind.u32.max (cc : Int))) = _
        rw [Hs.out, Hm.out, bits_xor32 ones cc (by decide) hcl, Nat.xor_comm]

set_option maxHeartbeats 400000 in
theorem get_any (A : Option Addr) (n c : Nat) (xs : List Int) (w : World) (hz : Nums w .u8 A n xs) (h8 : n ≤ 8) :
    Calls Try.prog 95 #[.slice A n c] w fun e w' => e = .returned (.int .u64 ((num xs : Nat) : Int)) ∧ w' = w := by
  have hn := hz.most
  have Hb := hid (isB_of hz)
  have Hl := hid hz.len
  go_enter Try.func95, Try.ntmps95
  go_wp2
  go_loop [3, 4, 5, 8] (fun v _ _ i => ∃ k : Nat, k ≤ n ∧ i = .int .i64 k ∧ v = .int .u64 ((num (xs.take k) : Nat) : Int)) (fun _ _ _ i => n - (intOf i).toNat)
  case atStart => exact ⟨0, by omega, rfl, rfl⟩
  case round =>
    obtain ⟨k, hk, rfl, rfl⟩ := hrel
    by_cases hlt : k < n
    · obtain ⟨bz, oz, rfl, hc⟩ := hz.at_ k hlt
      obtain ⟨hx0, hx1⟩ := wf_u8 (hz.wf_at k hlt)
      have Hs := hid (get_step xs Hb.out k (by rw [Hl.out]; exact hlt) (by omega))
      generalize xs.getD k 0 = x at *
      generalize num (xs.take k) = y at *
      clear hz
      go_wp2
      go_round
      case rel => exact ⟨k + 1, by omega, by go_num, by rw [Hs.out]⟩
      case measure => simp [intOf]; omega
    · have hkl : xs.take k = xs := List.take_of_length_le (by have := Hl.out; omega)
      rw [hkl]
      clear hkl
      go_wp2
      go_ret
      exact ⟨rfl, rfl⟩

theorem info5 : (Try.prog.info? 5).map (fun i => (i.zero, i.size, i.bytes)) = some (some (.int .u8 0), 1, 1) := by kernel_rfl

/-- A row of bytes of the call's own. -/
def OwnB (w : World) (base : Nat) (v : Value) (xs : List Int) : Prop := w.ownsRow base 5 1 v xs.length (xs.map (Value.int .u8))
theorem OwnB.snoc {w : World} {base : Nat} {v : Value} {xs : List Int} {y : Int} (h : w.ownsRow base 5 1 v (xs.length + 1) (xs.map (Value.int .u8) ++ [.int .u8 y])) : OwnB w base v (xs ++ [y]) := by
  unfold OwnB; rw [List.length_append, List.map_append]; exact h
theorem OwnB.nil (w : World) (base : Nat) : OwnB w base (.slice none 0 0) [] := World.ownsRow_nil _ _ _ _
theorem OwnB.reads {w : World} {base : Nat} {v : Value} {xs : List Int} (h : OwnB w base v xs) (hb : IsB xs) : ∃ A c, v = .slice A xs.length c ∧ xs.length ≤ c ∧ Nums w .u8 A xs.length xs := own_nums h (wf_of hb)
theorem OwnB.later {w w1 : World} {base : Nat} {v : Value} {xs : List Int} (h : OwnB w base v xs) (hb : Below w.heap.size w w1) : OwnB w1 base v xs := own_later h hb
theorem OwnB.mono {w : World} {base base' : Nat} {v : Value} {xs : List Int} (h : OwnB w base v xs) (hb : base' ≤ base) : OwnB w base' v xs := own_mono h hb
theorem OwnB.drewN {w : World} {base : Nat} {v : Value} {xs : List Int} (h : OwnB w base v xs) (n : Nat) : OwnB (w.drewN n) base v xs := h
/-- What a call that may write to the row of v, and makes memory, leaves. -/
structure Grew (w w' : World) (v v' : Value) : Prop where
  grew : w.grownBy w' v.ownBlock
  lies : v'.ownBlock = v.ownBlock ∨ ∃ b, v'.ownBlock = some b ∧ w.heap.size ≤ b
theorem Grew.refl (w : World) (v : Value) : Grew w w v v := ⟨World.grownBy.refl w _, .inl rfl⟩
theorem Grew.trans {a b c : World} {u v x : Value} (h : Grew a b u v) (k : Grew b c v x) : Grew a c u x := by
  obtain ⟨h1, h2⟩ := h
  obtain ⟨k1, k2⟩ := k
  have hs := h1.size
  rcases h2 with h2 | ⟨p, h2, hp⟩
  · rw [h2] at k1 k2
    refine ⟨World.grownBy.trans h1 k1, ?_⟩
    rcases k2 with k2 | ⟨q, k2, hq⟩
    · exact .inl k2
    · exact .inr ⟨q, k2, by omega⟩
  · rw [h2] at k1 k2
    refine ⟨⟨k1.os.trans h1.os, k1.tape.trans h1.tape, k1.output.trans h1.output, by have := k1.size; omega, fun i hi hne => ?_⟩, ?_⟩
    · rw [k1.block i (by omega) (by intro e; injection e with e; omega), h1.block i hi hne]
    · rcases k2 with k2 | ⟨q, k2, hq⟩
      · exact .inr ⟨p, k2, hp⟩
      · exact .inr ⟨q, k2, by omega⟩
theorem Grew.below {a w w' : World} {B : Nat} {v v' : Value} (h : Grew w w' v v') (hb : Below B a w) (hB : B ≤ w.heap.size) (hv : ∀ k, v.ownBlock = some k → B ≤ k) : Below B a w' := hb.grown h.grew hB hv

set_option maxHeartbeats 400000 in
theorem put_any (base : Nat) (v : Value) (xs : List Int) (x : Nat) (k : Nat) (w : World) (hown : OwnB w base v xs) (hbase : base ≤ w.heap.size) (hx : x ≤ 18446744073709551615) (hk : k ≤ 8) (hl : xs.length ≤ 1000000) :
    Calls Try.prog 45 #[v, .int .u64 (x : Int), .int .i64 (k : Int)] w fun e w' => ∃ v', e = .returned v' ∧ OwnB w' base v' (xs ++ le x k) ∧ Grew w w' v v' := by
  go_enter Try.func45, Try.ntmps45
  have hx2 : (x : Int) ≤ 18446744073709551615 := by omega
  go_wp2
  go_loopw [0, 7, 9] (fun p _ i w' => ∃ j : Nat, j ≤ k ∧ i = .int .i64 j ∧ OwnB w' base p (xs ++ le x j) ∧ base ≤ w'.heap.size ∧ Grew w w' v p) (fun _ _ i _ => k - (intOf i).toNat)
  case atStart => exact ⟨0, by omega, rfl, by simpa [le] using hown, hbase, Grew.refl _ _⟩
  case round =>
    obtain ⟨j, hj, rfl, hw, hbs, hg⟩ := hrel
    by_cases hlt : j < k
    · have Hle := hid (le_succ x j)
      have hll : (xs ++ le x j).length ≤ 1000010 := by rw [List.length_append, le_len]; omega
      have hpw : ((x / 256 ^ j % 256 : Nat) : Int) = (x : Int) / 2 ^ (8 * j) % 256 := by
        rw [show (256 : Nat) ^ j = 2 ^ (8 * j) by rw [Nat.pow_mul], Int.natCast_emod, Int.natCast_ediv, Int.natCast_pow]
        rfl
      rw [hpw] at Hle
      clear hpw
      go_wp2_with (at_builtin; refine append_one base rfl _ _ 39 5 (.int .u8 0) 1 rfl Try.underlying39 info5 rfl _ _ _ (.int .u8 ((x : Int) / 2 ^ (8 * j) % 256)) (by rfl) (by rfl) rfl hw hbs (by omega) (by omega) ?_; intro v1 w2 hown2 hgr hat)
      have hw2 : OwnB w2 base v1 (xs ++ le x (j + 1)) := by
        rw [Hle.out, ← List.append_assoc]
        exact OwnB.snoc hown2
      have hg2 : Grew w w2 v v1 := hg.trans ⟨hgr, hat⟩
      go_wp2
      go_roundw
      case rel => exact ⟨j + 1, by omega, by go_num, hw2, Nat.le_trans hbs hgr.size, hg2⟩
      case measure => simp [intOf]; omega
    · obtain rfl : j = k := by omega
      go_wp2
      go_ret
      exact ⟨_, rfl, hw, hg⟩

set_option maxHeartbeats 400000 in
theorem rput_any (x : Nat) (k : Nat) (w : World) (hx : x ≤ 18446744073709551615) (hk : k ≤ 8) :
    Calls Try.prog 76 #[.int .u64 (x : Int), .int .i64 (k : Int)] w fun e w' => ∃ v', e = .returned v' ∧ OwnB w' w.heap.size v' (le x k) ∧ Below w.heap.size w w' := by
  go_enter Try.func76, Try.ntmps76
  go_wp2
  go_loopw [0, 5, 6] (fun y p i w' => ∃ j : Nat, j ≤ k ∧ i = .int .i64 j ∧ y = .int .u64 ((x / 256 ^ j : Nat) : Int) ∧ OwnB w' w.heap.size p (le x j) ∧ Below w.heap.size w w') (fun _ _ i _ => k - (intOf i).toNat)
  case atStart => exact ⟨0, by omega, rfl, by simp, OwnB.nil _ _, Below.refl _ _⟩
  case round =>
    obtain ⟨j, hj, rfl, rfl, hw, hbs⟩ := hrel
    by_cases hlt : j < k
    · have Hle := hid (le_succ x j)
      have hll : (le x j).length ≤ 10 := by rw [le_len]; omega
      have hd : x / 256 ^ j ≤ x := Nat.div_le_self _ _
      have Hdd := hid (show x / 256 ^ (j + 1) = x / 256 ^ j / 256 by rw [Nat.pow_succ, Nat.div_div_eq_div_mul])
      generalize x / 256 ^ j = y at *
      have hy2 : (y : Int) ≤ 18446744073709551615 := by omega
      go_wp2_with (at_builtin; refine append_one w.heap.size rfl _ _ 39 5 (.int .u8 0) 1 rfl Try.underlying39 info5 rfl _ _ _ (.int .u8 ((y : Int) % 256)) (by rfl) (by rfl) rfl hw hbs.size (by omega) (by omega) ?_; intro v1 w2 hown2 hgr hat)
      have hw2 : OwnB w2 w.heap.size v1 (le x (j + 1)) := by
        rw [Hle.out]
        exact OwnB.snoc hown2
      have hb2 := hbs.grown hgr hbs.size (fun k hk => (hw.lt k hk).1)
      go_wp2
      go_roundw
      case rel => exact ⟨j + 1, by omega, by go_num, by rw [Hdd.out]; go_num, hw2, hb2⟩
      case measure => simp [intOf]; omega
    · obtain rfl : j = k := by omega
      go_wp2
      go_ret
      exact ⟨_, rfl, hw, hbs⟩

set_option maxHeartbeats 400000 in
theorem clone_any (A : Option Addr) (n c : Nat) (xs : List Int) (w : World) (hz : Nums w .u8 A n xs) (hl : n ≤ 1000000) :
    Calls Try.prog 41 #[.slice A n c] w fun e w' => ∃ v', e = .returned v' ∧ OwnB w' w.heap.size v' xs ∧ Below w.heap.size w w' := by
  rcases A with _ | ad
  · have h0 : n = 0 := by
      rcases Nat.eq_zero_or_pos n with h0 | h0
      · exact h0
      · obtain ⟨b, o, e, _⟩ := hz.cell 0 h0
        cases e
    subst h0
    obtain rfl : xs = [] := List.eq_nil_of_length_eq_zero hz.len
    have heq := Lib.run_eql_slice_nil (P := Try.prog) w 39 5 none 0 c 0 0 Try.underlying39
    go_enter Try.func41, Try.ntmps41
    go_wp2
    go_ret
    exact ⟨_, rfl, OwnB.nil _ _, Below.refl _ _⟩
  · have Hl := hid hz.len
    have HB := hid ((Below.refl w.heap.size w).alloc (Nat.le_refl _) (.cells #[] 5))
    have Hlit := hid (World.ownsRow_lit (base := w.heap.size) (e := 5) (size := 1) w #[] 0 (Nat.le_refl _) (by decide) rfl)
    have heq := Lib.run_eql_slice_nil (P := Try.prog) w 39 5 (some ad) n c 0 0 Try.underlying39
    go_enter Try.func41, Try.ntmps41
    go_wp2_with (at_builtin; refine append_nums w.heap.size rfl _ _ 39 5 .u8 1 rfl Try.underlying39 info5 (.slice (some ⟨w.heap.size, 0, none⟩) 0 0) 0 [] (some ad) n c xs (by rfl) (by rfl) Hlit.out (hz.below HB.out) HB.out.size (by omega) (by omega) ?_; intro v1 w6 hown6 hgr6 hat6)
    go_wp2
    go_ret
    refine ⟨_, rfl, ?_, HB.out.grown hgr6 HB.out.size (by intro k hk; simp [Value.ownBlock] at hk; omega)⟩
    unfold OwnB
    rw [Hl.out]
    simpa using hown6
end Go.Proofs.Ytcfildbgnjhjmaa.Oct
