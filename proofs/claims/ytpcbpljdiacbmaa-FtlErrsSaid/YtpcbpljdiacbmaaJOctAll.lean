import Derived.Laws.BitsLemmas
import Derived.Laws.Entries
import Derived.Test.YtpcbpljdiacbmaaJKit
import Derived.WalkSpells
import Derived.Deep.Cut
set_option linter.unusedVariables false
set_option linter.unusedSimpArgs false
namespace Go.Proofs.Ytpcbpljdiacbmaa.Oct

/-! Numbers as bytes. -/
def num : List Int → Nat
 | [] => 0
 | b :: bs => b.toNat + 256 * num bs
def le (x : Nat) : Nat → List Int
 | 0 => []
 | k + 1 => ((x % 256 : Nat) : Int) :: le (x / 256) k
def IsB (xs : List Int) : Prop := ∀ x ∈ xs, 0 ≤ x ∧ x ≤ 255

theorem le_len (x k : Nat) : (le x k).length = k := by
 induction k generalizing x with
 | zero => rfl
 | succ k ih => simp [le, ih]
theorem le_isB (x k : Nat) : IsB (le x k) := by
 induction k generalizing x with
 | zero => intro y hy; simp [le] at hy
 | succ k ih =>
  intro y hy
  simp only [le, List.mem_cons] at hy
  rcases hy with rfl | hy
  ·omega
  ·exact ih _ y hy
theorem num_le (x k : Nat) : num (le x k) = x % 256 ^ k := by
 induction k generalizing x with
 | zero => simp [le, num, Nat.mod_one]
 | succ k ih =>
  simp only [le, num, ih]
  rw [Nat.pow_succ, Nat.mul_comm (256 ^ k) 256, Nat.mod_mul]
  simp
  omega
theorem le_succ (x k : Nat) : le x (k + 1) = le x k ++ [((x / 256 ^ k % 256 : Nat) : Int)] := by
 induction k generalizing x with
 | zero => simp [le]
 | succ k ih =>
  rw [le, ih (x / 256)]
  simp only [le, List.cons_append, List.cons.injEq, true_and, List.append_cancel_left_eq, and_true]
  rw [Nat.div_div_eq_div_mul, Nat.pow_succ, Nat.mul_comm (256 ^ k) 256]
theorem num_append (xs ys : List Int) : num (xs ++ ys) = num xs + 256 ^ xs.length * num ys := by
 induction xs with
 | nil => simp [num]
 | cons b bs ih =>
  simp only [List.cons_append, num, ih, List.length_cons, Nat.pow_succ]
  rw [Nat.mul_add, Nat.mul_comm (256 ^ bs.length) 256, Nat.mul_assoc]
  omega
theorem num_lt (xs : List Int) (h : IsB xs) : num xs < 256 ^ xs.length := by
 induction xs with
 | nil => simp [num]
 | cons b bs ih =>
  have h1 := ih (fun x hx => h x (List.mem_cons_of_mem _ hx))
  have h2 := h b (List.mem_cons_self ..)
  simp only [num, List.length_cons, Nat.pow_succ]
  have : b.toNat ≤ 255 := by omega
  omega
theorem isB_append {xs ys : List Int} (hx : IsB xs) (hy : IsB ys) : IsB (xs ++ ys) := by
 intro x h
 rcases List.mem_append.1 h with h | h
 ·exact hx x h
 ·exact hy x h
theorem isB_take {xs : List Int} (h : IsB xs) (k : Nat) : IsB (xs.take k) := fun x hx => h x (List.mem_of_mem_take hx)
theorem isB_drop {xs : List Int} (h : IsB xs) (k : Nat) : IsB (xs.drop k) := fun x hx => h x (List.mem_of_mem_drop hx)

/-! CRC-32. -/
def poly : Nat := 3988292384
def stp (c : Nat) : Nat := (c / 2) ^^^ (if c % 2 = 1 then poly else 0)
def stpn : Nat → Nat → Nat
 | 0, c => c
 | n + 1, c => stpn n (stp c)
def crc (c : Nat) (xs : List Int) : Nat := xs.foldl (fun c b => stpn 8 (c ^^^ b.toNat)) c
def ones : Nat := 4294967295
def sum (xs : List Int) : Nat := crc ones xs ^^^ ones

theorem poly_lt : poly < 2 ^ 32 := by decide
theorem stp_lt {c : Nat} (h : c < 2 ^ 32) : stp c < 2 ^ 32 := by
 unfold stp
 apply Nat.xor_lt_two_pow (by omega)
 split
 ·exact poly_lt
 ·decide
theorem stpn_add (m n c : Nat) : stpn (m + n) c = stpn n (stpn m c) := by
 induction m generalizing c with
 | zero => simp [stpn]
 | succ m ih => rw [Nat.succ_add]; simp only [stpn, ih]
theorem stpn_lt {n c : Nat} (h : c < 2 ^ 32) : stpn n c < 2 ^ 32 := by
 induction n generalizing c with
 | zero => exact h
 | succ n ih => exact ih (stp_lt h)
theorem crc_lt {c : Nat} {xs : List Int} (hc : c < 2 ^ 32) (h : IsB xs) : crc c xs < 2 ^ 32 := by
 induction xs generalizing c with
 | nil => exact hc
 | cons b bs ih =>
  have hb := h b (List.mem_cons_self ..)
  refine ih (c := stpn 8 (c ^^^ b.toNat)) (stpn_lt (Nat.xor_lt_two_pow hc (by omega))) (fun x hx => h x (List.mem_cons_of_mem _ hx))
theorem sum_lt {xs : List Int} (h : IsB xs) : sum xs < 2 ^ 32 := Nat.xor_lt_two_pow (crc_lt (by decide) h) (by decide)

theorem crc_append (c : Nat) (xs ys : List Int) : crc c (xs ++ ys) = crc (crc c xs) ys := by simp [crc, List.foldl_append]
theorem crc_snoc (c : Nat) (xs : List Int) (b : Int) : crc c (xs ++ [b]) = stpn 8 (crc c xs ^^^ b.toNat) := by rw [crc_append]; rfl

/-! Sealed bytes: the check of n + 4 bytes as one equation. -/
end Go.Proofs.Ytpcbpljdiacbmaa.Oct

/-! Bits of bytes turned, as one number turned. -/
namespace Go.Proofs.Ytpcbpljdiacbmaa.Oct

/-- The check of any sealed bytes, n + 4 of them. -/
def good (m : Nat) (s : List Int) : Prop := num (s.drop m) = sum (s.take m)
theorem good_seal (xs : List Int) (h : IsB xs) : good xs.length (xs ++ le (sum xs) 4) := by
 unfold good
 rw [List.drop_left, List.take_left, num_le, Nat.mod_eq_of_lt]
 exact sum_lt h
end Go.Proofs.Ytpcbpljdiacbmaa.Oct

set_option linter.unusedVariables false
set_option linter.unusedSimpArgs false
namespace Go.Proofs.Ytpcbpljdiacbmaa.Oct
open Go.RowKit Go.Proofs.Ytpcbpljdiacbmaa.Kit

theorem isB_of {w : World} {A : Option Addr} {n : Nat} {xs : List Int} (h : Nums w .u8 A n xs) : IsB xs := fun x hx => wf_u8 (h.wf x hx)
theorem wf_of {xs : List Int} (h : IsB xs) : ∀ x ∈ xs, (Lit.int .u8 x).wf = true := by
 intro x hx
 have := h x hx
 simp [Lit.wf, IntKind.min, IntKind.max, IntKind.signed, IntKind.bits]
 omega
theorem take_at (xs : List Int) (k : Nat) (hk : k < xs.length) : xs.take (k + 1) = xs.take k ++ [xs.getD k 0] := by
 rw [List.take_succ_eq_append_getElem hk, List.getD_eq_getElem?_getD, List.getElem?_eq_getElem hk]; rfl

theorem bits_xor32 (a b : Nat) (ha : a < 2 ^ 32) (hb : b < 2 ^ 32) : bits .xor .u32 (a : Int) (b : Int) = ((a ^^^ b : Nat) : Int) := by
 have hx := Nat.xor_lt_two_pow ha hb
 show IntKind.u32.wrap (((BitVec.ofInt 32 (a : Int) ^^^ BitVec.ofInt 32 (b : Int)).toNat : Nat) : Int) = _
 rw [BitVec.toNat_xor, BitVec.ofInt_natCast, BitVec.ofInt_natCast, BitVec.toNat_ofNat, BitVec.toNat_ofNat, Nat.mod_eq_of_lt ha, Nat.mod_eq_of_lt hb, IntKind.wrap_u32]
 omega
theorem bits_and32 (a b : Nat) (ha : a < 2 ^ 32) (hb : b < 2 ^ 32) : bits .and .u32 (a : Int) (b : Int) = ((a &&& b : Nat) : Int) := by
 have hx := Nat.and_lt_two_pow a hb
 show IntKind.u32.wrap (((BitVec.ofInt 32 (a : Int) &&& BitVec.ofInt 32 (b : Int)).toNat : Nat) : Int) = _
 rw [BitVec.toNat_and, BitVec.ofInt_natCast, BitVec.ofInt_natCast, BitVec.toNat_ofNat, BitVec.toNat_ofNat, Nat.mod_eq_of_lt ha, Nat.mod_eq_of_lt hb, IntKind.wrap_u32]
 omega
theorem stp_bits (c : Nat) (hc : c < 2 ^ 32) : bits .xor .u32 ((c : Int) / 2) (bits .and .u32 3988292384 (-bits .and .u32 (c : Int) 1 % 4294967296)) = ((stp c : Nat) : Int) := by
 have h1 : bits .and .u32 (c : Int) 1 = ((c % 2 : Nat) : Int) := by
  have := bits_and32 c 1 hc (by decide)
  rw [Nat.and_one_is_mod] at this
  exact this
 rw [h1]
 unfold stp
 by_cases h : c % 2 = 1
 ·rw [if_pos h, h]
  have e : (-((1 : Nat) : Int) % 4294967296) = ((4294967295 : Nat) : Int) := by decide
  have e2 : bits .and .u32 3988292384 ((4294967295 : Nat) : Int) = ((poly : Nat) : Int) := by
   have := bits_and32 3988292384 4294967295 (by decide) (by decide)
   rw [show (3988292384 : Nat) &&& 4294967295 = poly by decide] at this
   exact this
  rw [e, e2]
  have e3 : (c : Int) / 2 = ((c / 2 : Nat) : Int) := by omega
  rw [e3]
  exact bits_xor32 _ _ (by omega) poly_lt
 ·have h0 : c % 2 = 0 := by omega
  rw [if_neg h, h0]
  have e : (-((0 : Nat) : Int) % 4294967296) = ((0 : Nat) : Int) := by decide
  have e2 : bits .and .u32 3988292384 ((0 : Nat) : Int) = ((0 : Nat) : Int) := by
   have := bits_and32 3988292384 0 (by decide) (by decide)
   rw [Nat.and_zero] at this
   exact this
  rw [e, e2]
  have e3 : (c : Int) / 2 = ((c / 2 : Nat) : Int) := by omega
  rw [e3]
  exact bits_xor32 _ _ (by omega) (by decide)
theorem stpn_snoc (k c : Nat) : stpn (k + 1) c = stp (stpn k c) := by rw [stpn_add]; rfl
theorem get_step (xs : List Int) (hx : IsB xs) (k : Nat) (hk : k < xs.length) (h8 : k < 8) :
  bits .or .u64 ((num (xs.take k) : Nat) : Int) (IntKind.u64.wrap (xs.getD k 0 * 2 ^ (8 * k))) = ((num (xs.take (k + 1)) : Nat) : Int) := by
 have hb : 0 ≤ xs.getD k 0 ∧ xs.getD k 0 ≤ 255 := by
  rw [List.getD_eq_getElem?_getD, List.getElem?_eq_getElem hk]; exact hx _ (List.getElem_mem _)
 have hl : (xs.take k).length = k := by rw [List.length_take]; omega
 have h1 := num_lt (xs.take k) (isB_take hx k)
 rw [hl] at h1
 rw [take_at xs k hk, num_append, hl]
 generalize xs.getD k 0 = x at *
 obtain ⟨b, rfl⟩ := Int.eq_ofNat_of_zero_le hb.1
 have hp : (256 : Nat) ^ k = 2 ^ (8 * k) := by rw [Nat.pow_mul]
 rw [hp] at h1 ⊢
 have hbk : b * 2 ^ (8 * k) < 2 ^ 64 := by
  have h2 : b * 2 ^ (8 * k) < 2 ^ 8 * 2 ^ (8 * k) := Nat.mul_lt_mul_of_pos_right (by omega) (Nat.two_pow_pos _)
  rw [← Nat.pow_add] at h2
  exact Nat.lt_of_lt_of_le h2 (Nat.pow_le_pow_right (by decide) (by omega))
 have hw : IntKind.u64.wrap ((b : Int) * 2 ^ (8 * k)) = ((b * 2 ^ (8 * k) : Nat) : Int) := by
  rw [IntWalk.u64_in]
  ·push_cast; rfl
  ·have : ((b * 2 ^ (8 * k) : Nat) : Int) = (b : Int) * 2 ^ (8 * k) := by push_cast; rfl
   omega
 rw [hw]
 have hn : num (xs.take k) < 2 ^ 64 := Nat.lt_of_lt_of_le h1 (Nat.pow_le_pow_right (by decide) (by omega))
 have hor := (bits_nat .u64 64 (by decide) (fun n h0 h1 => IntWalk.u64_in n ⟨h0, by have : n < 18446744073709551616 := h1; omega⟩) (num (xs.take k)) (b * 2 ^ (8 * k)) hn hbk).2
 rw [hor, Nat.or_comm, Nat.mul_comm b, ← Nat.two_pow_add_eq_or_of_lt h1 b]
 have e1 : num [(b : Int)] = b := by simp [num]
 rw [e1, Nat.add_comm]
theorem num_lt64 (xs : List Int) (hx : IsB xs) (h8 : xs.length ≤ 8) : num xs < 18446744073709551616 := by
 have h1 := num_lt xs hx
 refine Nat.lt_of_lt_of_le h1 ?_
 rw [show (18446744073709551616 : Nat) = 256 ^ 8 by decide]
 exact Nat.pow_le_pow_right (by decide) h8

set_option maxHeartbeats 400000 in
theorem sum_any (A : Option Addr) (n c : Nat) (xs : List Int) (w : World) (hz : Nums w .u8 A n xs) :
  Calls Try.prog 96 #[.slice A n c] w fun e w' => e = .returned (.int .u32 ((sum xs : Nat) : Int)) ∧ w' = w := by
 have hn := hz.most
 have Hb := hid (isB_of hz)
 have Hl := hid hz.len
 go_enter Try.func96, Try.ntmps96
 go_wp2
 go_loop [3, 5, 8, 16] (fun v _ i _ => ∃ k : Nat, k ≤ n ∧ i = .int .i64 k ∧ v = .int .u32 ((crc ones (xs.take k) : Nat) : Int)) (fun _ _ i _ => n - (intOf i).toNat)
 case atStart => exact ⟨0, by omega, rfl, rfl⟩
 case round =>
  obtain ⟨k, hk, rfl, rfl⟩ := hrel
  by_cases hlt : k < n
  ·obtain ⟨bz, oz, rfl, hc⟩ := hz.at_ k hlt
   obtain ⟨hx0, hx1⟩ := wf_u8 (hz.wf_at k hlt)
   have hcl := crc_lt (c := ones) (by decide) (isB_take Hb.out k)
   have Hs := hid (crc_snoc ones (xs.take k) (xs.getD k 0))
   have Ht := hid (take_at xs k (by rw [Hl.out]; exact hlt))
   generalize xs.getD k 0 = x at *
   generalize crc ones (xs.take k) = cc at *
   obtain ⟨xn, rfl⟩ := Int.eq_ofNat_of_zero_le hx0
   have hxn : xn < 2 ^ 32 := by omega
   have hxor := bits_xor32 cc xn hcl hxn
   have hci := Nat.xor_lt_two_pow hcl hxn
   have Hxor := hid hxor
   clear hxor hz
   have hcc : (cc : Int) ≤ 4294967295 := by omega
   go_wp2
   rw [Hxor.out]
   generalize hd : cc ^^^ xn = d at *
   have Hd := hid hd
   clear hd
   go_loop [3, 16] (fun v j => ∃ m : Nat, m ≤ 8 ∧ j = .int .i64 m ∧ v = .int .u32 ((stpn m d : Nat) : Int)) (fun _ j => 8 - (intOf j).toNat)
   case atStart => exact ⟨0, by omega, rfl, rfl⟩
   case round =>
    obtain ⟨m, hm, rfl, rfl⟩ := hrel
    by_cases hm8 : (m : Int) < 8
    ·have hsl := stpn_lt (n := m) hci
     have Hstp := hid (stp_bits (stpn m d) hsl)
     have Hsn := hid (stpn_snoc m d)
     generalize stpn m d = s at *
     have hs1 : (s : Int) ≤ 4294967295 := by omega
     go_wp2
     go_round
     case rel => exact ⟨m + 1, by omega, by go_num, by rw [Hsn.out, Hstp.out]⟩
     case measure => simp [intOf]; omega
    ·have hm' : m = 8 := by omega
     have Hm := hid hm'
     clear hm'
     go_wp2
     go_round
     case rel =>
      refine ⟨k + 1, by omega, by go_num, ?_⟩
      rw [Ht.out, Hs.out, Hm.out, Hd.out.symm]
      rfl
     case measure => simp [intOf]; omega
  ·have hkl : xs.take k = xs := List.take_of_length_le (by have := Hl.out; omega)
   rw [hkl]
   clear hkl
   have hcl := crc_lt (c := ones) (by decide) Hb.out
   have Hxor := hid (bits_xor32 (crc ones xs) ones hcl (by decide))
   have Hs := hid (show sum xs = crc ones xs ^^^ ones from rfl)
   generalize crc ones xs = cc at *
   have hcc : (cc : Int) ≤ 4294967295 := by omega
   have Hm := hid (show IntKind.u32.max = ((ones : Nat) : Int) from rfl)
   go_wp2
   all_goals
    go_ret
    refine ⟨?_, rfl⟩
    show Ending.returned (.int .u32 (bits .xor .u32 IntKind.u32.max (cc : Int))) = _
    rw [Hs.out, Hm.out, bits_xor32 ones cc (by decide) hcl, Nat.xor_comm]

set_option maxHeartbeats 400000 in
theorem get_any (A : Option Addr) (n c : Nat) (xs : List Int) (w : World) (hz : Nums w .u8 A n xs) (h8 : n ≤ 8) :
  Calls Try.prog 95 #[.slice A n c] w fun e w' => e = .returned (.int .u64 ((num xs : Nat) : Int)) ∧ w' = w := by
 have hn := hz.most
 have Hb := hid (isB_of hz)
 have Hl := hid hz.len
 go_enter Try.func95, Try.ntmps95
 go_wp2
 go_loop [3, 4, 5, 8] (fun v _ _ i => ∃ k : Nat, k ≤ n ∧ i = .int .i64 k ∧ v = .int .u64 ((num (xs.take k) : Nat) : Int)) (fun _ _ _ i => n - (intOf i).toNat)
 case atStart => exact ⟨0, by omega, rfl, rfl⟩
 case round =>
  obtain ⟨k, hk, rfl, rfl⟩ := hrel
  by_cases hlt : k < n
  ·obtain ⟨bz, oz, rfl, hc⟩ := hz.at_ k hlt
   obtain ⟨hx0, hx1⟩ := wf_u8 (hz.wf_at k hlt)
   have Hs := hid (get_step xs Hb.out k (by rw [Hl.out]; exact hlt) (by omega))
   generalize xs.getD k 0 = x at *
   generalize num (xs.take k) = y at *
   clear hz
   go_wp2
   go_round
   case rel => exact ⟨k + 1, by omega, by go_num, by rw [Hs.out]⟩
   case measure => simp [intOf]; omega
  ·have hkl : xs.take k = xs := List.take_of_length_le (by have := Hl.out; omega)
   rw [hkl]
   clear hkl
   go_wp2
   go_ret
   exact ⟨rfl, rfl⟩

theorem info5 : (Try.prog.info? 5).map (fun i => (i.zero, i.size, i.bytes)) = some (some (.int .u8 0), 1, 1) := by kernel_rfl

/-- A row of bytes of the call's own. -/
def OwnB (w : World) (base : Nat) (v : Value) (xs : List Int) : Prop := w.ownsRow base 5 1 v xs.length (xs.map (Value.int .u8))
theorem OwnB.snoc {w : World} {base : Nat} {v : Value} {xs : List Int} {y : Int} (h : w.ownsRow base 5 1 v (xs.length + 1) (xs.map (Value.int .u8) ++ [.int .u8 y])) : OwnB w base v (xs ++ [y]) := by
 unfold OwnB; rw [List.length_append, List.map_append]; exact h
theorem OwnB.nil (w : World) (base : Nat) : OwnB w base (.slice none 0 0) [] := World.ownsRow_nil _ _ _ _
theorem OwnB.reads {w : World} {base : Nat} {v : Value} {xs : List Int} (h : OwnB w base v xs) (hb : IsB xs) : ∃ A c, v = .slice A xs.length c ∧ xs.length ≤ c ∧ Nums w .u8 A xs.length xs := own_nums h (wf_of hb)
theorem OwnB.later {w w1 : World} {base : Nat} {v : Value} {xs : List Int} (h : OwnB w base v xs) (hb : Below w.heap.size w w1) : OwnB w1 base v xs := own_later h hb
theorem OwnB.mono {w : World} {base base' : Nat} {v : Value} {xs : List Int} (h : OwnB w base v xs) (hb : base' ≤ base) : OwnB w base' v xs := own_mono h hb
theorem OwnB.drewN {w : World} {base : Nat} {v : Value} {xs : List Int} (h : OwnB w base v xs) (n : Nat) : OwnB (w.drewN n) base v xs := h
/-- What a call that may write to the row of v, and makes memory, leaves. -/
structure Grew (w w' : World) (v v' : Value) : Prop where
 grew : w.grownBy w' v.ownBlock
 lies : v'.ownBlock = v.ownBlock ∨ ∃ b, v'.ownBlock = some b ∧ w.heap.size ≤ b
theorem Grew.refl (w : World) (v : Value) : Grew w w v v := ⟨World.grownBy.refl w _, .inl rfl⟩
theorem Grew.trans {a b c : World} {u v x : Value} (h : Grew a b u v) (k : Grew b c v x) : Grew a c u x := by
 obtain ⟨h1, h2⟩ := h
 obtain ⟨k1, k2⟩ := k
 have hs := h1.size
 rcases h2 with h2 | ⟨p, h2, hp⟩
 ·rw [h2] at k1 k2
  refine ⟨World.grownBy.trans h1 k1, ?_⟩
  rcases k2 with k2 | ⟨q, k2, hq⟩
  ·exact .inl k2
  ·exact .inr ⟨q, k2, by omega⟩
 ·rw [h2] at k1 k2
  refine ⟨⟨k1.os.trans h1.os, k1.tape.trans h1.tape, k1.output.trans h1.output, by have := k1.size; omega, fun i hi hne => ?_⟩, ?_⟩
  ·rw [k1.block i (by omega) (by intro e; injection e with e; omega), h1.block i hi hne]
  ·rcases k2 with k2 | ⟨q, k2, hq⟩
   ·exact .inr ⟨p, k2, hp⟩
   ·exact .inr ⟨q, k2, by omega⟩
theorem Grew.below {a w w' : World} {B : Nat} {v v' : Value} (h : Grew w w' v v') (hb : Below B a w) (hB : B ≤ w.heap.size) (hv : ∀ k, v.ownBlock = some k → B ≤ k) : Below B a w' := hb.grown h.grew hB hv

set_option maxHeartbeats 400000 in
theorem put_any (base : Nat) (v : Value) (xs : List Int) (x : Nat) (k : Nat) (w : World) (hown : OwnB w base v xs) (hbase : base ≤ w.heap.size) (hx : x ≤ 18446744073709551615) (hk : k ≤ 8) (hl : xs.length ≤ 1000000) :
  Calls Try.prog 92 #[v, .int .u64 (x : Int), .int .i64 (k : Int)] w fun e w' => ∃ v', e = .returned v' ∧ OwnB w' base v' (xs ++ le x k) ∧ Grew w w' v v' := by
 go_enter Try.func92, Try.ntmps92
 have hx2 : (x : Int) ≤ 18446744073709551615 := by omega
 go_wp2
 go_loopw [0, 7, 9] (fun p _ i w' => ∃ j : Nat, j ≤ k ∧ i = .int .i64 j ∧ OwnB w' base p (xs ++ le x j) ∧ base ≤ w'.heap.size ∧ Grew w w' v p) (fun _ _ i _ => k - (intOf i).toNat)
 case atStart => exact ⟨0, by omega, rfl, by simpa [le] using hown, hbase, Grew.refl _ _⟩
 case round =>
  obtain ⟨j, hj, rfl, hw, hbs, hg⟩ := hrel
  by_cases hlt : j < k
  ·have Hle := hid (le_succ x j)
   have hll : (xs ++ le x j).length ≤ 1000010 := by rw [List.length_append, le_len]; omega
   have hpw : ((x / 256 ^ j % 256 : Nat) : Int) = (x : Int) / 2 ^ (8 * j) % 256 := by
    rw [show (256 : Nat) ^ j = 2 ^ (8 * j) by rw [Nat.pow_mul], Int.natCast_emod, Int.natCast_ediv, Int.natCast_pow]
    rfl
   rw [hpw] at Hle
   clear hpw
   go_wp2_with (at_builtin; refine append_one base rfl _ _ 22 5 (.int .u8 0) 1 rfl Try.underlying22 info5 rfl _ _ _ (.int .u8 ((x : Int) / 2 ^ (8 * j) % 256)) (by rfl) (by rfl) rfl hw hbs (by omega) (by omega) ?_; intro v1 w2 hown2 hgr hat)
   have hw2 : OwnB w2 base v1 (xs ++ le x (j + 1)) := by
    rw [Hle.out, ← List.append_assoc]
    exact OwnB.snoc hown2
   have hg2 : Grew w w2 v v1 := hg.trans ⟨hgr, hat⟩
   go_wp2
   go_roundw
   case rel => exact ⟨j + 1, by omega, by go_num, hw2, Nat.le_trans hbs hgr.size, hg2⟩
   case measure => simp [intOf]; omega
  ·obtain rfl : j = k := by omega
   go_wp2
   go_ret
   exact ⟨_, rfl, hw, hg⟩

set_option maxHeartbeats 400000 in
theorem clone_any (A : Option Addr) (n c : Nat) (xs : List Int) (w : World) (hz : Nums w .u8 A n xs) (hl : n ≤ 1000000) :
  Calls Try.prog 52 #[.slice A n c] w fun e w' => ∃ v', e = .returned v' ∧ OwnB w' w.heap.size v' xs ∧ Below w.heap.size w w' := by
 rcases A with _ | ad
 ·have h0 : n = 0 := by
   rcases Nat.eq_zero_or_pos n with h0 | h0
   ·exact h0
   ·obtain ⟨b, o, e, _⟩ := hz.cell 0 h0
    cases e
  subst h0
  obtain rfl : xs = [] := List.eq_nil_of_length_eq_zero hz.len
  have heq := Lib.run_eql_slice_nil (P := Try.prog) w 22 5 none 0 c 0 0 Try.underlying22
  go_enter Try.func52, Try.ntmps52
  go_wp2
  go_ret
  exact ⟨_, rfl, OwnB.nil _ _, Below.refl _ _⟩
 ·have Hl := hid hz.len
  have HB := hid ((Below.refl w.heap.size w).alloc (Nat.le_refl _) (.cells #[] 5))
  have Hlit := hid (World.ownsRow_lit (base := w.heap.size) (e := 5) (size := 1) w #[] 0 (Nat.le_refl _) (by decide) rfl)
  have heq := Lib.run_eql_slice_nil (P := Try.prog) w 22 5 (some ad) n c 0 0 Try.underlying22
  go_enter Try.func52, Try.ntmps52
  go_wp2_with (at_builtin; refine append_nums w.heap.size rfl _ _ 22 5 .u8 1 rfl Try.underlying22 info5 (.slice (some ⟨w.heap.size, 0, none⟩) 0 0) 0 [] (some ad) n c xs (by rfl) (by rfl) Hlit.out (hz.below HB.out) HB.out.size (by omega) (by omega) ?_; intro v1 w6 hown6 hgr6 hat6)
  go_wp2
  go_ret
  refine ⟨_, rfl, ?_, HB.out.grown hgr6 HB.out.size (by intro k hk; simp [Value.ownBlock] at hk; omega)⟩
  unfold OwnB
  rw [Hl.out]
  simpa using hown6
end Go.Proofs.Ytpcbpljdiacbmaa.Oct

set_option linter.unusedVariables false
set_option linter.unusedSimpArgs false
namespace Go.Proofs.Ytpcbpljdiacbmaa.Oct
open Go.RowKit Go.Proofs.Ytpcbpljdiacbmaa.Kit

set_option maxRecDepth 100000 in
theorem conv_str {w : World} {A : Option Addr} {n c : Nat} {xs : List Int} (h : Nums w .u8 A n xs) : (convert 22 9 (.slice A n c)).run Try.prog w = .ok (.string (strOfNums xs)) w := by
 rcases A with _ | ad
 ·have h0 : n = 0 := by
   rcases Nat.eq_zero_or_pos n with h0 | h0
   ·exact h0
   ·obtain ⟨b, o, e, _⟩ := h.cell 0 h0
    cases e
  subst h0
  obtain rfl : xs = [] := List.eq_nil_of_length_eq_zero h.len
  exact run_convert_bytes_nil w 22 5 Try.underlying22 Try.underlying5 0 c 9 Try.underlying9
 ·by_cases h0 : n = 0
  ·subst h0
   obtain rfl : xs = [] := List.eq_nil_of_length_eq_zero h.len
   have hl : (loadCells ad 0).run Try.prog w = .ok #[] w := by
    have := run_loadCells_list (P := Try.prog) w ad [] (fun j v hj => by simp at hj)
    simpa using this
   rw [run_convert_bytes_string w 22 9 5 _ 0 c Try.underlying22 Try.underlying5 Try.underlying9, run_bytesToString w _ 0 c [] (by simpa using hl), foldl_push_bytes]
   simp [strOfNums, ByteArray.empty, ByteArray.emptyWithCapacity]
   rfl
  ·obtain ⟨b, o, e, hc⟩ := h.cell 0 (by omega)
   injection e with e
   subst e
   exact run_convert_bytes_arg w 22 5 Try.underlying22 Try.underlying5 b o n c xs h.len hc 9 Try.underlying9

theorem str_inj {xs ys : List Int} (hx : IsB xs) (hy : IsB ys) (h : strOfNums xs = strOfNums ys) : xs = ys := by
 have h1 := congrArg (fun s => s.data.toList) h
 simp only [strOfNums_data] at h1
 have key : ∀ (l : List Int), IsB l → (l.map fun n => UInt8.ofNat n.toNat).map (fun b => ((b.toNat : Nat) : Int)) = l := by
  intro l hl
  rw [List.map_map]
  conv => rhs; rw [← List.map_id l]
  refine List.map_congr_left fun x hx => ?_
  have := hl x hx
  simp only [Function.comp, UInt8.toNat_ofNat', id]
  omega
 rw [← key xs hx, ← key ys hy, h1]
theorem str_list (xs : List Int) : (strOfNums xs).toList = xs.map fun n => UInt8.ofNat n.toNat := by rw [ByteArray.toList_eq, strOfNums_data]
theorem str_eq {xs ys : List Int} (hx : IsB xs) (hy : IsB ys) : ((strOfNums xs).toList == (strOfNums ys).toList) = (decide (xs = ys)) := by
 by_cases h : xs = ys
 ·subst h; simp
 ·rw [decide_eq_false h]
  refine beq_eq_false_iff_ne.2 fun e => h (str_inj hx hy ?_)
  rw [str_list, str_list] at e
  unfold strOfNums
  rw [e]
theorem str_eq_true {xs ys : List Int} (h : xs = ys) : ((strOfNums xs).toList == (strOfNums ys).toList) = true := by subst h; simp

set_option maxHeartbeats 400000 in
theorem seal_any (A : Option Addr) (n c : Nat) (xs : List Int) (w : World) (hz : Nums w .u8 A n xs) (hl : n ≤ 100000) :
  Calls Try.prog 94 #[.slice A n c] w fun e w' => ∃ v', e = .returned v' ∧ OwnB w' w.heap.size v' (xs ++ le (sum xs) 4) ∧ Below w.heap.size w w' := by
 have Hl := hid hz.len
 have hsl := sum_lt (isB_of hz)
 go_enter Try.func94, Try.ntmps94
 go_wp2_with fail
 refine (clone_any A n c xs w hz (by omega)).mono ?_
 rintro e w1 ⟨v1, rfl, ho1, hB1⟩
 go_wp2_with fail
 refine (sum_any A n c xs w1 (hz.below hB1)).mono ?_
 rintro e w2 ⟨rfl, rfl⟩
 generalize hsx : sum xs = s at *
 have Hsx := hid hsx
 clear hsx
 have hs : (s : Int) ≤ 4294967295 := by omega
 go_wp2_with fail
 refine (put_any w.heap.size v1 xs s 4 _ ho1 hB1.size (by omega) (by omega) (by rw [Hl.out]; omega)).mono ?_
 rintro e w3 ⟨v3, rfl, ho3, hg3⟩
 go_wp2
 go_ret
 exact ⟨_, rfl, by rw [Hsx.out]; exact ho3, hg3.below hB1 hB1.size (fun k hk => (ho1.lt k hk).1)⟩

end Go.Proofs.Ytpcbpljdiacbmaa.Oct

set_option linter.unusedVariables false
set_option linter.unusedSimpArgs false
namespace Go.Proofs.Ytpcbpljdiacbmaa.Oct
open Go.RowKit Go.Proofs.Ytpcbpljdiacbmaa.Kit

set_option maxHeartbeats 400000 in
theorem open_any (A : Option Addr) (m n c : Nat) (xs : List Int) (w : World) (hz : Nums w .u8 A n xs) (hnc : n ≤ c) (hl : n ≤ 1000000) (hm : n = m + 4) :
  Calls Try.prog 81 #[.slice A n c] w fun e w' => Below w.heap.size w w' ∧
   ((num (xs.drop m) ≠ sum (xs.take m) ∧ e = .returned (.tuple #[.slice none 0 0, .int .i64 4])) ∨
    (num (xs.drop m) = sum (xs.take m) ∧ ∃ v', e = .returned (.tuple #[v', .int .i64 0]) ∧ OwnB w' w.heap.size v' (xs.take m))) := by
 have h1 : IntKind.i64.wrap ((n : Int) - 4) = (m : Int) := by rw [show (n : Int) - 4 = (m : Int) by omega]; exact IntWalk.i64_in _ (by omega)
 have h2 : decide ((m : Int) < 0) = false := decide_eq_false (by omega)
 have h3 : (0 : Int) ≤ (m : Int) := by omega
 have h4 : (m : Int) ≤ (n : Int) := by omega
 have h5 : (m : Int) ≤ (c : Int) := by omega
 have h6 : ((m : Int)).toNat = m := by omega
 have h7 : n - m = 4 := by omega
 have h8 := hz.most
 have hn1 := hz.drop hnc m (by omega)
 rw [h7] at hn1
 have hn2 := hz.take m (by omega)
 have Hm := hid hm
 clear hm
 have hs := sum_lt (isB_of hn2)
 generalize hx : (if c = m then A else Option.map (fun x => x.add m) A) = A2 at *
 have hx2 : (if c = m then A else Option.map (fun x => x.add (m * 1)) A) = A2 := by rw [← hx, Nat.mul_one]
 generalize hsx : sum (xs.take m) = s at *
 generalize hnx : num (xs.drop m) = t at *
 have G1 : ∀ q, Calls Try.prog 95 #[.slice A2 4 (c - m)] (w.drewN q) fun e w' => e = .returned (.int .u64 (t : Int)) ∧ w' = w.drewN q := fun q => by
  rw [← hnx]; exact get_any A2 4 (c - m) _ _ (hn1.drewN q) (by omega)
 have G2 : ∀ q, Calls Try.prog 96 #[.slice A m c] (w.drewN q) fun e w' => e = .returned (.int .u32 (s : Int)) ∧ w' = w.drewN q := fun q => by
  rw [← hsx]; exact sum_any A m c _ _ (hn2.drewN q)
 have Hsx := hid hsx
 have Hnx := hid hnx
 clear hsx hnx
 have hs2 : (s : Int) ≤ 18446744073709551615 := by omega
 have hs3 : (0 : Int) ≤ (s : Int) := by omega
 have hwu : IntKind.u64.wrap (s : Int) = (s : Int) := IntWalk.u64_in _ (by omega)
 clear hx2 hs hz hn1
 by_cases hts : t = s
 ·subst hts
  have hbb : ((t : Int) != (t : Int)) = false := by simp
  go_enter Try.func81, Try.ntmps81
  go_wp2
  go_quiet ((first | (go_at_call 95; with_reducible exact Calls.quiet_of_same (G1 _)) | (go_at_call 96; with_reducible exact Calls.quiet_of_same (G2 _))))
  clear G1 G2 h1 hwu
  go_wp2_with fail
  refine (clone_any A m c _ _ (hn2.drewN _) (by omega)).mono ?_
  rintro e w1 ⟨v1, rfl, ho1, hB1⟩
  go_wp2
  go_ret2
  exact ⟨below_step (below_drewN (Below.refl _ _) _) (Nat.le_refl _) hB1, .inr ⟨trivial, _, rfl, ho1⟩⟩
 ·have hbb : ((t : Int) != (s : Int)) = true := bne_iff_ne.2 fun e => hts (Int.ofNat.inj e)
  go_enter Try.func81, Try.ntmps81
  go_wp2
  go_quiet ((first | (go_at_call 95; with_reducible exact Calls.quiet_of_same (G1 _)) | (go_at_call 96; with_reducible exact Calls.quiet_of_same (G2 _))))
  clear G1 G2 h1 hwu
  go_wp2
  go_ret2
  exact ⟨below_drewN (Below.refl _ _) _, .inl ⟨hts, rfl⟩⟩
end Go.Proofs.Ytpcbpljdiacbmaa.Oct

set_option linter.unusedVariables false
set_option linter.unusedSimpArgs false
namespace Go.Proofs.Ytpcbpljdiacbmaa.Oct
open Go.RowKit Go.Proofs.Ytpcbpljdiacbmaa.Kit

set_option maxHeartbeats 400000 in
theorem bytes_any (base : Nat) (v : Value) (xs : List Int) (A : Option Addr) (n c : Nat) (ys : List Int) (w : World) (hown : OwnB w base v xs) (hbase : base ≤ w.heap.size) (hz : Nums w .u8 A n ys) (hb : 0 < n → ∀ k, A = some k → some k.block ≠ v.ownBlock) (hn : n ≤ 100000) (hl : xs.length ≤ 100000) :
  Calls Try.prog 93 #[v, .slice A n c] w fun e w' => ∃ v', e = .returned v' ∧ OwnB w' base v' (xs ++ (le n 2 ++ ys)) ∧ Grew w w' v v' := by
 have hn2 : (n : Int) ≤ 100000 := by omega
 go_enter Try.func93, Try.ntmps93
 go_wp2_with fail
 refine (put_any base v xs n 2 w hown hbase (by omega) (by omega) (by omega)).mono ?_
 rintro e w1 ⟨v1, rfl, ho1, hg1⟩
 have hz1 := hz.grown hg1.grew hb
 have hbs := Nat.le_trans hbase hg1.grew.size
 have hll : (xs ++ le n 2).length ≤ 100002 := by rw [List.length_append, le_len]; omega
 go_wp2_with (at_builtin; refine append_nums base rfl _ _ 22 5 .u8 1 rfl Try.underlying22 info5 _ _ _ A n c ys (by rfl) (by rfl) ho1 hz1 hbs (by omega) (by omega) ?_; intro v2 w2 hown2 hgr hat)
 have hw2 : OwnB w2 base v2 (xs ++ (le n 2 ++ ys)) := by
  rw [← List.append_assoc]
  unfold OwnB
  rw [List.length_append, hz.len, List.map_append]
  exact hown2
 have hg2 : Grew w w2 v v2 := hg1.trans ⟨hgr, hat.imp_right fun e => ⟨_, e, Nat.le_refl _⟩⟩
 go_wp2
 go_ret
 exact ⟨_, rfl, hw2, hg2⟩

/-- A reader, as the program has it. -/
def Rd (w : World) (b : Nat) (bad : Bool) (xs : List Int) : Prop := ∃ A n c, Blk w b #[.slice A n c, .bool bad] 151 ∧ Nums w .u8 A n xs ∧ n ≤ c ∧ (0 < n → ∀ a, A = some a → a.block < b)

def Took (w : World) (b : Nat) (v : Value) (ys : List Int) : Prop := ∃ A n c, v = .slice A n c ∧ Nums w .u8 A n ys ∧ (0 < n → ∀ a, A = some a → a.block < b)

def takeSt (bad : Bool) (xs : List Int) (m : Nat) : List Int × Bool × List Int := if bad = true ∨ xs.length < m then ([], true, xs) else (xs.take m, false, xs.drop m)

theorem grown_set {w : World} {b : Nat} (i : Nat) (v : Value) (hb : b < w.heap.size) : w.grownBy (w.setCell ⟨b, i, none⟩ v) (some b) :=
 ⟨rfl, rfl, rfl, by simp, fun j hj hne => heap_setCell_other w _ _ v (by intro e; exact hne (by rw [e]))⟩
theorem nums_set {w : World} {b : Nat} {A : Option Addr} {n : Nat} {xs : List Int} (h : Nums w .u8 A n xs) (i : Nat) (v : Value) (hb : b < w.heap.size) (hab : 0 < n → ∀ a, A = some a → a.block < b) : Nums (w.setCell ⟨b, i, none⟩ v) .u8 A n xs :=
 h.grown (grown_set i v hb) (by intro hn a e; have := hab hn a e; intro e2; injection e2 with e2; omega)

set_option maxHeartbeats 400000 in
theorem take_any (b : Nat) (bad : Bool) (xs : List Int) (m : Nat) (w : World) (h : Rd w b bad xs) (hm : m ≤ 100000) :
  Calls Try.prog 97 #[.pointer (some ⟨b, 0, none⟩), .int .i64 (m : Int)] w fun e w' => ∃ v, e = .returned v ∧ Took w' b v (takeSt bad xs m).1 ∧ Rd w' b (takeSt bad xs m).2.1 (takeSt bad xs m).2.2 ∧ w.grownBy w' (some b) := by
 obtain ⟨A, n, c, hblk, hz, hnc, hab⟩ := h
 have h0 := hblk.cell 0
 have h1 := hblk.cell 1
 have f0 := hblk.free 0
 have f1 := hblk.free 1
 simp only [qa, qb, qc] at h0 h1
 have hn := hz.most
 have hlen := hz.len
 have Hz := hid hz
 have Hb := hid hblk
 have hlt := hblk.lt
 clear hz hblk
 cases bad
 ·by_cases hmn : n < m
  ·have ht : takeSt false xs m = ([], true, xs) := if_pos (.inr (by omega))
   rw [ht]
   clear ht
   go_enter Try.func97, Try.ntmps97
   go_wp2
   go_ret
   exact ⟨_, rfl, ⟨none, 0, 0, rfl, Nums.none _ _ _, fun _ a e => (by cases e)⟩, ⟨A, n, c, Hb.out.set 1 _, nums_set Hz.out 1 _ hlt hab, hnc, hab⟩, grown_set 1 _ hlt⟩
  ·have ht : takeSt false xs m = (xs.take m, false, xs.drop m) := if_neg (by simp; omega)
   rw [ht]
   clear ht
   have hd := Hz.out.drop hnc m (by omega)
   have htk := Hz.out.take m (by omega)
   have hc : 0 < n - m → ∀ a, (if c = m then A else A.map (·.add m)) = some a → a.block < b := by
    intro hnm a e
    have hab := hab (by omega)
    split at e
    ·exact hab a e
    ·rcases A with _ | a0
     ·cases e
     ·injection e with e
      subst e
      have := hab a0 rfl
      by_cases h0 : m = 0
      ·simpa [Addr.add, h0] using this
      ·simpa [Addr.add, h0] using this
   have Hd := hid hd
   have Htk := hid htk
   have Hc := hid hc
   clear hd htk hc
   generalize hA : (if c = m then A else A.map (·.add m)) = A2 at *
   go_enter Try.func97, Try.ntmps97
   go_wp2
   all_goals (
    go_ret
    exact ⟨_, rfl, ⟨A, m, m, rfl, nums_set Htk.out 0 _ hlt (fun h => hab (by omega)), fun h => hab (by omega)⟩, ⟨_, _, _, Hb.out.set 0 _, nums_set Hd.out 0 _ hlt Hc.out, by omega, Hc.out⟩, grown_set 0 _ hlt⟩)
 ·have ht : takeSt true xs m = ([], true, xs) := if_pos (.inl rfl)
  rw [ht]
  clear ht
  go_enter Try.func97, Try.ntmps97
  go_wp2
  go_ret
  exact ⟨_, rfl, ⟨none, 0, 0, rfl, Nums.none _ _ _, fun _ a e => (by cases e)⟩, ⟨A, n, c, Hb.out.set 1 _, nums_set Hz.out 1 _ hlt hab, hnc, hab⟩, grown_set 1 _ hlt⟩

def numSt (bad : Bool) (xs : List Int) (k most : Nat) : Nat × Bool × List Int :=
 if most < num (takeSt bad xs k).1 then (0, true, (takeSt bad xs k).2.2) else (num (takeSt bad xs k).1, (takeSt bad xs k).2)

theorem takeSt_isB {bad : Bool} {xs : List Int} (h : IsB xs) (k : Nat) : IsB (takeSt bad xs k).1 := by
 unfold takeSt
 split
 ·intro x hx; cases hx
 ·exact fun x hx => h x (List.mem_of_mem_take hx)
theorem takeSt_len (bad : Bool) (xs : List Int) (k : Nat) : (takeSt bad xs k).1.length ≤ k := by
 unfold takeSt
 split
 ·simp
 ·simp; omega
theorem Rd.isB {w : World} {b : Nat} {bad : Bool} {xs : List Int} (h : Rd w b bad xs) : IsB xs := by
 obtain ⟨A, n, c, _, hz, _⟩ := h
 exact isB_of hz
theorem Rd.lt {w : World} {b : Nat} {bad : Bool} {xs : List Int} (h : Rd w b bad xs) : b < w.heap.size := by
 obtain ⟨A, n, c, hb, _⟩ := h
 exact hb.lt
theorem Rd.spoil {w : World} {b : Nat} {bad : Bool} {xs : List Int} (h : Rd w b bad xs) : Rd (w.setCell ⟨b, 1, none⟩ (.bool true)) b true xs := by
 obtain ⟨A, n, c, hb, hz, hnc, hab⟩ := h
 exact ⟨A, n, c, hb.set 1 _, nums_set hz 1 _ hb.lt hab, hnc, hab⟩

set_option maxHeartbeats 400000 in
theorem num_any (b : Nat) (bad : Bool) (xs : List Int) (k most : Nat) (w : World) (h : Rd w b bad xs) (hk : k ≤ 8) (hmost : most ≤ 18446744073709551615) :
  Calls Try.prog 83 #[.pointer (some ⟨b, 0, none⟩), .int .i64 (k : Int), .int .u64 (most : Int)] w fun e w' => e = .returned (.int .u64 ((numSt bad xs k most).1 : Nat)) ∧ Rd w' b (numSt bad xs k most).2.1 (numSt bad xs k most).2.2 ∧ w.grownBy w' (some b) := by
 have hB := takeSt_isB (bad := bad) h.isB k
 have hL := takeSt_len bad xs k
 have hlt := h.lt
 have Ht := take_any b bad xs k w h (by omega)
 clear h
 unfold numSt
 generalize takeSt bad xs k = t at *
 obtain ⟨ys, bad', xs'⟩ := t
 simp only at hB hL Ht ⊢
 have hbn := num_lt64 ys hB (by omega)
 generalize hqy : num ys = q at *
 have Hq := hid hqy
 clear hqy
 by_cases hq : most < q
 ·rw [if_pos hq]
  go_enter Try.func83, Try.ntmps83
  go_wp2_with fail
  refine Ht.mono ?_
  rintro e w1 ⟨v, rfl, ⟨A, n, c, rfl, hz, hab⟩, hr, hg⟩
  clear Ht
  have hn8 : n ≤ 8 := by have := hz.len; omega
  have hlt1 := hr.lt
  obtain ⟨A2, n2, c2, hblk2, hz2, hnc2, hab2⟩ := id hr
  have f1 := hblk2.free 1
  have h1 := hblk2.cell 1
  simp only [qa, qb, qc] at h1
  have Hr := hid hr
  clear hr hz2 hblk2
  go_wp2_with fail
  refine (get_any A n c ys w1 hz (by omega)).mono ?_
  rintro e w2 ⟨rfl, rfl⟩
  rw [Hq.out]
  go_wp2
  go_ret
  exact ⟨rfl, Hr.out.spoil, World.grownBy.trans hg (grown_set 1 _ hlt1)⟩
 ·rw [if_neg hq]
  go_enter Try.func83, Try.ntmps83
  go_wp2_with fail
  refine Ht.mono ?_
  rintro e w1 ⟨v, rfl, ⟨A, n, c, rfl, hz, hab⟩, hr, hg⟩
  clear Ht
  have hn8 : n ≤ 8 := by have := hz.len; omega
  have hlt1 := hr.lt
  obtain ⟨A2, n2, c2, hblk2, hz2, hnc2, hab2⟩ := id hr
  have f1 := hblk2.free 1
  have h1 := hblk2.cell 1
  simp only [qa, qb, qc] at h1
  have Hr := hid hr
  clear hr hz2 hblk2
  go_wp2_with fail
  refine (get_any A n c ys w1 hz (by omega)).mono ?_
  rintro e w2 ⟨rfl, rfl⟩
  rw [Hq.out]
  go_wp2
  go_ret
  exact ⟨rfl, Hr.out, hg⟩

def bytesSt (bad : Bool) (xs : List Int) (most : Nat) : List Int × Bool × List Int :=
 takeSt (numSt bad xs 2 most).2.1 (numSt bad xs 2 most).2.2 (numSt bad xs 2 most).1

theorem numSt_lt {bad : Bool} {xs : List Int} (h : IsB xs) (most : Nat) : (numSt bad xs 2 most).1 < 65536 := by
 have h1 := num_lt (takeSt bad xs 2).1 (takeSt_isB h 2)
 have h2 : 256 ^ (takeSt bad xs 2).1.length ≤ 256 ^ 2 := Nat.pow_le_pow_right (by decide) (takeSt_len _ _ _)
 unfold numSt
 split
 ·exact (by omega : (0 : Nat) < 65536)
 ·show num _ < 65536
  omega

set_option maxHeartbeats 400000 in
theorem rbytes_any (b : Nat) (bad : Bool) (xs : List Int) (most : Nat) (w : World) (h : Rd w b bad xs) (hmost : most ≤ 1000000) :
  Calls Try.prog 84 #[.pointer (some ⟨b, 0, none⟩), .int .i64 (most : Int)] w fun e w' => ∃ v, e = .returned v ∧ OwnB w' w.heap.size v (bytesSt bad xs most).1 ∧ Rd w' b (bytesSt bad xs most).2.1 (bytesSt bad xs most).2.2 ∧ w.grownBy w' (some b) := by
 have hm2 : (most : Int) ≤ 1000000 := by omega
 have hnl := numSt_lt (bad := bad) h.isB most
 have Hn := num_any b bad xs 2 most w h (by omega) (by omega)
 clear h
 unfold bytesSt
 generalize numSt bad xs 2 most = t at *
 obtain ⟨q, bad', xs'⟩ := t
 simp only at hnl Hn ⊢
 have hq2 : (q : Int) < 65536 := by omega
 have hlen := takeSt_len bad' xs' q
 have Ht2 := fun w1 hr => take_any b bad' xs' q w1 hr (by omega)
 generalize takeSt bad' xs' q = t2 at *
 go_enter Try.func84, Try.ntmps84
 go_wp2_with fail
 refine Hn.mono ?_
 rintro e w1 ⟨rfl, hr, hg⟩
 clear Hn
 go_wp2_with fail
 refine (Ht2 w1 hr).mono ?_
 rintro e w2 ⟨v, rfl, ⟨A, n, c, rfl, hz, hab⟩, hr2, hg2⟩
 clear Ht2
 go_wp2_with fail
 refine (clone_any A n c t2.1 w2 hz (by have := hz.len; omega)).mono ?_
 rintro e w3 ⟨v3, rfl, ho, hB⟩
 go_wp2
 go_ret
 have hs : w.heap.size ≤ w2.heap.size := Nat.le_trans hg.size hg2.size
 obtain ⟨A3, n3, c3, hb3, hz3, hnc3, hab3⟩ := hr2
 exact ⟨_, rfl, ho.mono hs, ⟨A3, n3, c3, hb3.later hB, hz3.below hB, hnc3, hab3⟩, World.grownBy.trans hg (World.grownBy.trans hg2 (grown_of_below hB _))⟩

theorem bad_any (b : Nat) (bad : Bool) (xs : List Int) (w : World) (h : Rd w b bad xs) :
  Calls Try.prog 85 #[.pointer (some ⟨b, 0, none⟩)] w fun e w' => e = .returned (.bool bad) ∧ w' = w := by
 obtain ⟨A, n, c, hblk, hz, hnc, hab⟩ := h
 have h1 := hblk.cell 1
 simp only [qa, qb, qc] at h1
 go_enter Try.func85, Try.ntmps85
 go_wp2
 go_ret
 exact ⟨rfl, rfl⟩
theorem read_any (A : Option Addr) (n c : Nat) (xs : List Int) (w : World) (h : Nums w .u8 A n xs) (hnc : n ≤ c) :
  Calls Try.prog 82 #[.slice A n c] w fun e w' => e = .returned (.pointer (some ⟨w.heap.size, 0, none⟩)) ∧ Rd w' w.heap.size false xs ∧ Below w.heap.size w w' := by
 go_enter Try.func82, Try.ntmps82
 go_wp2
 go_ret
 have hB := (Below.refl w.heap.size w).alloc (Nat.le_refl _) (.cells #[.slice A n c, .bool false] 151)
 exact ⟨rfl, ⟨A, n, c, Blk.new _ _ _, h.below hB, hnc, h.low⟩, hB⟩
theorem Rd.drewN {w : World} {b : Nat} {bad : Bool} {xs : List Int} (h : Rd w b bad xs) (n : Nat) : Rd (w.drewN n) b bad xs := by
 obtain ⟨A, m, c, hb, hz, r⟩ := h
 exact ⟨A, m, c, hb, hz.drewN n, r⟩
theorem Rd.drew {w : World} {b : Nat} {bad : Bool} {xs : List Int} (h : Rd w b bad xs) : Rd w.drew b bad xs := h.drewN 1
end Go.Proofs.Ytpcbpljdiacbmaa.Oct

set_option linter.unusedVariables false
set_option linter.unusedSimpArgs false
namespace Go.Proofs.Ytpcbpljdiacbmaa.Oct
open Go.RowKit Go.Proofs.Ytpcbpljdiacbmaa.Kit

theorem drop_at (xs : List Int) (k : Nat) (hk : k < xs.length) : num (xs.drop k) = (xs.getD k 0).toNat + 256 * num (xs.drop (k + 1)) := by
 rw [List.drop_eq_getElem_cons hk, List.getD_eq_getElem?_getD, List.getElem?_eq_getElem hk]
 rfl

end Go.Proofs.Ytpcbpljdiacbmaa.Oct

set_option linter.unusedVariables false
set_option linter.unusedSimpArgs false
namespace Go.Proofs.Ytpcbpljdiacbmaa.Oct
open Go.RowKit Go.Proofs.Ytpcbpljdiacbmaa.Kit

/-- What sealed bytes open to. -/
def opN (xs : List Int) : Int := if xs.length < 4 then 3 else if num (xs.drop (xs.length - 4)) = sum (xs.take (xs.length - 4)) then 0 else 4
def opB (xs : List Int) : List Int := if xs.length < 4 then [] else if num (xs.drop (xs.length - 4)) = sum (xs.take (xs.length - 4)) then xs.take (xs.length - 4) else []

end Go.Proofs.Ytpcbpljdiacbmaa.Oct
