import Derived.Test.YtpcbpljdiacbmaaJFtlK
import Derived.Deep.Cut
import Derived.Lib.SliceRun
set_option linter.unusedVariables false
set_option linter.unusedSimpArgs false
namespace Go.Proofs.Ytpcbpljdiacbmaa.Pool
open Go.RowKit Go.Proofs.Ytpcbpljdiacbmaa.Kit Go.Maps
theorem own_low {w : World} {base n c : Nat} {T : TypeId} {A : Option Addr} {xs : List Value} (h : w.ownsRow base T 1 (.slice A n c) n xs) : 0 < n → ∀ ad, A = some ad → base ≤ ad.block := by
 intro h0 ad e
 subst e
 obtain ⟨h1, h2⟩ := h
 rcases h2 with ⟨h2, h3⟩ | ⟨g, c0, cs, hv, hb, -⟩
 ·omega
 ·injection hv with hv
  injection hv with hv
  subst hv
  exact hb
set_option maxHeartbeats 400000 in
theorem clone_low (A : Option Addr) (n c : Nat) (xs : List Int) (w : World) (hz : Nums w .i64 A n xs) (hl : n ≤ 1000000) :
  Calls Try.prog 61 #[.slice A n c] w fun e w' => ∃ A' c', e = .returned (.slice A' n c') ∧ n ≤ c' ∧ Nums w' .i64 A' n xs ∧ Below w.heap.size w w' ∧ (0 < n → ∀ ad, A' = some ad → w.heap.size ≤ ad.block) := by
 rcases A with _ | ad
 ·have h0 : n = 0 := by
   rcases Nat.eq_zero_or_pos n with h0 | h0
   ·exact h0
   ·obtain ⟨b, o, e, _⟩ := hz.cell 0 h0
    cases e
  subst h0
  obtain rfl : xs = [] := List.eq_nil_of_length_eq_zero hz.len
  have heq := Lib.run_eql_slice_nil (P := Try.prog) w 24 3 none 0 c 0 0 Try.underlying24
  go_enter Try.func61, Try.ntmps61
  go_wp2
  go_ret
  exact ⟨none, 0, rfl, Nat.le_refl _, Nums.none _ _ _, Below.refl _ _, fun h => absurd h (by omega)⟩
 ·have Hl := hid hz.len
  have Hw := hid hz.wf
  have HB := hid ((Below.refl w.heap.size w).alloc (Nat.le_refl _) (.cells #[] 3))
  have Hlit := hid (World.ownsRow_lit (base := w.heap.size) (e := 3) (size := 1) w #[] 0 (Nat.le_refl _) (by decide) rfl)
  have heq := Lib.run_eql_slice_nil (P := Try.prog) w 24 3 (some ad) n c 0 0 Try.underlying24
  go_enter Try.func61, Try.ntmps61
  go_wp2_with (at_builtin; refine append_nums w.heap.size rfl _ _ 24 3 .i64 8 rfl Try.underlying24 info3 (.slice (some ⟨w.heap.size, 0, none⟩) 0 0) 0 [] (some ad) n c xs (by rfl) (by rfl) Hlit.out (hz.below HB.out) HB.out.size (by omega) (by omega) ?_; intro v1 w6 hown6 hgr6 hat6)
  go_wp2
  go_ret
  have ho : w6.ownsRow w.heap.size 3 1 v1 xs.length (xs.map (Value.int .i64)) := by
   rw [Hl.out]
   simpa using hown6
  obtain ⟨A', c', rfl, hc, hz'⟩ := own_nums ho Hw.out
  have hlow := own_low (n := xs.length) (c := c') (by rw [Hl.out] at ho ⊢; exact ho)
  rw [Hl.out] at hc hz' ⊢
  exact ⟨A', c', rfl, hc, hz', HB.out.grown hgr6 HB.out.size (by intro k hk; simp [Value.ownBlock] at hk; omega), by rw [Hl.out] at hlow; exact hlow⟩

set_option maxRecDepth 100000 in
set_option maxHeartbeats 4000000 in
theorem new_low (A : Option Addr) (m c : Nat) (xs : List Int) (w : World) (hz : Nums w .i64 A m xs) (hm : m ≤ 1000) :
  Calls Try.prog 38 #[.slice A m c] w fun e w' => Below w.heap.size w w' ∧ ((Rise xs ∧ ∃ b g A' c', e = .returned (.tuple #[.pointer (some ⟨b, 0, none⟩), .int .i64 0]) ∧ PS w' b g m A' m c' xs (newH xs) ∧ w.heap.size ≤ g ∧ w.heap.size ≤ b ∧ (0 < m → ∀ ad, A' = some ad → w.heap.size ≤ ad.block)) ∨ (¬ Rise xs ∧ e = .returned (.tuple #[.pointer none, .int .i64 1]))) := by
 have hmm := @run_makeMap Try.prog
 have hlen := hz.len
 have Hz := hid hz
 have Hl := hid hlen
 clear hz hlen
 go_enter Try.func38, Try.ntmps38
 go_upto_region 2 with (fail)
 obtain ⟨g, hg⟩ : ∃ g, w.heap.size = g := ⟨_, rfl⟩
 obtain ⟨w1, hw1⟩ : ∃ W, W = (w.alloc (.map #[] 0)).alloc (.cells #[.slice none 0 0, .map (some g)] 111) := ⟨_, rfl⟩
 have hm1 : Mp w1 g 0 (newH (xs.take 0)) := by
  rw [hw1, ← hg]
  exact (Mp.new w).later ((Below.refl _ _).alloc (Nat.le_refl _) _)
 have hb1 : Blk w1 (g + 1) #[.slice none 0 0, .map (some g)] 111 := by
  rw [hw1, ← hg]
  have := Blk.new (w.alloc (.map #[] 0)) #[.slice none 0 0, .map (some w.heap.size)] 111
  simpa using this
 have hB1 : Below g w w1 := by
  rw [hw1, ← hg]
  exact ((Below.refl _ _).alloc (Nat.le_refl _) _).alloc (by simp) _
 rw [hg, ← hw1]
 have Hg := hid hg
 clear hw1 hg hmm
 go_wp2
 go_loopw [12] (fun x w' => ∃ i : Nat, i ≤ m ∧ x = .int .i64 (i : Int) ∧ Mp w' g i (newH (xs.take i)) ∧ Blk w' (g + 1) #[.slice none 0 0, .map (some g)] 111 ∧ Below g w w' ∧ ∀ j, j < i → goodAt xs j) (fun x _ => m - (intOf x).toNat)
 case atStart => exact ⟨0, by omega, rfl, hm1, hb1, hB1, fun j hj => absurd hj (by omega)⟩
 case round =>
  obtain ⟨i, hi, rfl, hmp, hb, hB, hgd⟩ := hrel
  clear hm1 hb1 hB1
  have hzr := Hz.out.below (by rw [Hg.out]; exact hB)
  have hc0 : wr.cell? ⟨g + 1, 0, none⟩ = some (.slice none 0 0) := hb.cell 0
  have hc1 : wr.cell? ⟨g + 1, 1, none⟩ = some (.map (some g)) := hb.cell 1
  by_cases hlt : i < m
  ·obtain ⟨bz, oz, hA, hcz⟩ := hzr.at_ i hlt
   have hwf := wf_i64 (hzr.wf_at i hlt)
   have hpre : 0 < i → wr.cell? ⟨bz, oz + (i - 1), none⟩ = some (.int .i64 (xs.getD (i - 1) 0)) := fun h0 => by
    obtain ⟨b', o', hA', hc'⟩ := hzr.at_ (i - 1) (by omega)
    rw [hA] at hA'
    injection hA' with hA'
    injection hA' with e1 e2
    subst e1
    subst e2
    exact hc'
   subst hA
   have hgn : goodAt xs i ↔ (0 ≤ xs.getD i 0 ∧ xs.getD i 0 < 64 ∧ (0 < i → xs.getD (i - 1) 0 < xs.getD i 0)) := Iff.rfl
   have Hgn := hid hgn
   have Hbad : ¬ goodAt xs i → ¬ Rise xs := fun h k => h (k i (by rw [Hl.out]; exact hlt))
   have Htk := hid (take_snoc xs i (by rw [Hl.out]; exact hlt))
   clear hgn hzr
   generalize xs.getD i 0 = x at *
   by_cases h1 : x < 0
   ·have hn := hid (Hbad (fun k => by have := (Hgn.out.1 k).1; omega))
    clear hpre hwf hgd Hbad
    go_wp2
    go_ret2
    exact ⟨by rw [Hg.out]; exact hB, Or.inr ⟨hn.out, rfl⟩⟩
   ·by_cases h2 : 64 ≤ x
    ·have hn := hid (Hbad (fun k => by have := (Hgn.out.1 k).2.1; omega))
     clear hpre hwf hgd Hbad
     go_wp2
     go_ret2
     exact ⟨by rw [Hg.out]; exact hB, Or.inr ⟨hn.out, rfl⟩⟩
    ·obtain ⟨x, rfl⟩ := Int.eq_ofNat_of_zero_le (show 0 ≤ x by omega)
     have hx64 : x < 64 := by omega
     have fin : goodAt xs i → ∃ w', (Instr.mapUpdate 109 (.map (some g)) (.int .i64 (x : Int)) (.int .u8 0)).run Try.prog wr = .ok () w' ∧ Mp w' g (i + 1) (newH (xs.take (i + 1))) ∧ Blk w' (g + 1) #[.slice none 0 0, .map (some g)] 111 ∧ Below g w w' ∧ ∀ j, j < i + 1 → goodAt xs j := fun hgi => by
      obtain ⟨w', hrun, hm', hgr⟩ := hmp.put (newH_len _) (by omega) x 0 hx64 (by decide)
      refine ⟨w', hrun, ?_, hb.grown hgr (by simp), hB.grown hgr (by have := hB.size; rw [Hg.out] at this; exact this) (by intro k hk; cases hk; exact Nat.le_refl _), fun j hj => ?_⟩
      ·rw [Htk.out, newH_snoc]
       exact hm'
      ·rcases Nat.lt_succ_iff_lt_or_eq.1 hj with h | rfl
       ·exact hgd j h
       ·exact hgi
     by_cases h0 : 0 < i
     ·have hc3 := hpre h0
      have Hgn' : goodAt xs i ↔ xs.getD (i - 1) 0 < (x : Int) := ⟨fun k => (Hgn.out.1 k).2.2 h0, fun k => Hgn.out.2 ⟨by omega, by omega, fun _ => k⟩⟩
      generalize xs.getD (i - 1) 0 = y at *
      by_cases h3 : (x : Int) ≤ y
      ·have hn := hid (Hbad (fun k => by have := Hgn'.1 k; omega))
       clear hpre hwf hgd Hbad Hgn' fin
       go_wp2
       go_ret2
       exact ⟨by rw [Hg.out]; exact hB, Or.inr ⟨hn.out, rfl⟩⟩
      ·obtain ⟨w2, hrun, hm2, hb2, hB2, hgd2⟩ := fin (Hgn'.2 (by omega))
       clear hpre hwf hgd Hbad Hgn' fin hb hmp hB
       go_wp2
       go_roundw
       case rel => exact ⟨i + 1, by omega, by go_num, hm2, hb2, hB2, hgd2⟩
       case measure => simp [intOf]; omega
     ·obtain rfl : i = 0 := by omega
      obtain ⟨w2, hrun, hm2, hb2, hB2, hgd2⟩ := fin (Hgn.out.2 ⟨by omega, by omega, fun h => absurd h h0⟩)
      rw [Nat.add_zero] at hcz
      clear hpre hwf hgd Hbad fin hb hmp hB h0
      go_wp2
      go_roundw
      case rel => exact ⟨0 + 1, by omega, by go_num, hm2, hb2, hB2, hgd2⟩
      case measure => simp [intOf]; omega
  ·obtain rfl : i = m := by omega
   have ht : xs.take i = xs := List.take_of_length_le (by rw [Hl.out]; exact Nat.le_refl _)
   rw [ht] at hmp
   have hri := hid (show Rise xs from fun j hj => hgd j (by rw [Hl.out] at hj; exact hj))
   have hcl := clone_low A i c xs wr hzr (by omega)
   clear hgd ht hc0 hc1 hzr
   go_wp2_with fail
   refine hcl.mono ?_
   rintro e w3 ⟨A', c', rfl, hc', hz3, hB3, hlo3⟩
   have hb3 := hb.later hB3
   have hm3 := hmp.later hB3
   have hc0 : w3.cell? ⟨g + 1, 0, none⟩ = some (.slice none 0 0) := hb3.cell 0
   have hf0 := hb3.free 0
   have hB4 := hB.trans (hB3.mono (by have := hB.size; rw [Hg.out] at this; exact this))
   have hbl := hb.lt
   have hb4 := hb3.set 0 (.slice A' i c')
   have hm4 : Mp (w3.setCell ⟨g + 1, 0, none⟩ (.slice A' i c')) g i (newH xs) := by
    obtain ⟨D, ho, r⟩ := hm3
    exact ⟨D, ho.setCell (by simp) _, r⟩
   have hz4 : Nums (w3.setCell ⟨g + 1, 0, none⟩ (.slice A' i c')) .i64 A' i xs := hz3.grown (grown_setCell w3 (g + 1) 0 _) (fun h0 a ha => by simpa using nums_ne hz3 hb3 h0 a ha)
   have hl4 := hB4.size
   have Hlo := hid (show 0 < i → ∀ ad, A' = some ad → w.heap.size ≤ ad.block from fun h0 ad e => Nat.le_trans (by have h1 := Hg.out; have h2 := hB.size; omega) (hlo3 h0 ad e))
   have hs3 := hB3.size
   have hxb : ∀ x ∈ xs, 0 ≤ x ∧ x < 64 := fun x hx => by
    obtain ⟨j, hj, rfl⟩ := List.getElem_of_mem hx
    have := hri.out j hj
    unfold goodAt at this
    rw [List.getD_eq_getElem?_getD, List.getElem?_eq_getElem hj] at this
    exact ⟨this.1, this.2.1⟩
   have hps := hid (show PS _ _ _ _ _ _ _ _ _ from ⟨by simpa using hb4, hz4, hm4, newH_len xs, hxb, hc', hm⟩)
   clear hlo3 hmp hb hB hcl hz3 hb4 hm4 hz4 hxb hm3 hb3 hB3
   go_wp2
   go_ret2
   exact ⟨by rw [Hg.out]; exact hB4.setCell (by show g ≤ g + 1; omega) _, Or.inl ⟨hri.out, _, _, _, _, rfl, hps.out, by rw [Hg.out]; exact Nat.le_refl _, by rw [Hg.out]; exact Nat.le_succ _, Hlo.out⟩⟩
end Go.Proofs.Ytpcbpljdiacbmaa.Pool
