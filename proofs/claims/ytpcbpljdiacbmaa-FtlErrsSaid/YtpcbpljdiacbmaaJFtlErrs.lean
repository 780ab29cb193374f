import Derived.Test.YtpcbpljdiacbmaaJFtlLaw
import Derived.Deep.RegionHeld3
import Derived.Lib.ConvBytes
import Derived.Lib.SmallJoins
set_option linter.unusedVariables false
set_option linter.unusedSimpArgs false
namespace Go.Proofs.Ytpcbpljdiacbmaa.Kit
open Go.RowKit Go.ChangeShapes Go.WideShapes
theorem wf_u64 {n : Int} (h : (Lit.int .u64 n).wf = true) : 0 ≤ n ∧ n ≤ 18446744073709551615 := by
 simpa [Lit.wf, IntKind.min, IntKind.max, IntKind.signed, IntKind.bits] using h
end Go.Proofs.Ytpcbpljdiacbmaa.Kit

namespace Go.Proofs.Ytpcbpljdiacbmaa.Ftl
open Go.RowKit Go.Proofs.Ytpcbpljdiacbmaa.Kit Go.Proofs.Ytpcbpljdiacbmaa.Oct Go.Proofs.Ytpcbpljdiacbmaa.Sheet Go.Proofs.Ytpcbpljdiacbmaa.Nand Go.Proofs.Ytpcbpljdiacbmaa.Plan Go.Proofs.Ytpcbpljdiacbmaa.Scan Go.Proofs.Ytpcbpljdiacbmaa.Pmap Go.Proofs.Ytpcbpljdiacbmaa.Pool

/-! What cannot be mounted. -/
set_option maxRecDepth 100000 in
theorem mount_ep (p : Value) (B P S : Int) (A : Option Addr) (n c : Nat) (ep : Int) (w : World) (h : ep < 1 ∨ 281474976710656 ≤ ep) :
  Calls Try.prog 16 #[p, .agg #[.int .i64 B, .int .i64 P, .int .i64 S, .slice A n c], .int .u64 ep] w fun e w' => e = .returned (.tuple #[.pointer none, .int .i64 1]) ∧ Below w.heap.size w w' := by
 have hB : Below w.heap.size w (w.alloc (.cells #[.int .i64 B, .int .i64 P, .int .i64 S, .slice A n c] 26)) := (Below.refl _ _).alloc (Nat.le_refl _) _
 by_cases h1 : ep < 1
 ·go_enter Try.func16, Try.ntmps16
  go_wp2
  go_ret2
  exact ⟨rfl, hB⟩
 ·have h2 : (281474976710656 : Int) ≤ ep := by omega
  obtain ⟨b1, hb1⟩ : ∃ x : Int, (281474976710656 : Int) = x := ⟨_, rfl⟩
  have hd : decide (ep ≥ 281474976710656) = true := decide_eq_true h2
  go_enter Try.func16, Try.ntmps16
  go_wp2
  go_ret2
  exact ⟨rfl, hB⟩
set_option maxRecDepth 100000 in
theorem all_nil (B P S : Int) (A : Option Addr) (n c : Nat) (w : World) :
  Calls Try.prog 37 #[.pointer none, .agg #[.int .i64 B, .int .i64 P, .int .i64 S, .slice A n c]] w fun e w' => e = .returned (.tuple #[.agg #[.pointer none, .map none, .int .u64 0, .slice none 0 0], .int .i64 5]) ∧ Below w.heap.size w w' := by
 obtain ⟨w1, hw1⟩ : ∃ x, w.alloc (.cells #[.int .i64 B, .int .i64 P, .int .i64 S, .slice A n c] 26) = x := ⟨_, rfl⟩
 have hs1 : w1.heap.size = w.heap.size + 1 := by rw [← hw1]; exact World.size_alloc _ _
 have hB1 : Below w.heap.size w w1 := by rw [← hw1]; exact (Below.refl _ _).alloc (Nat.le_refl _) _
 have hbk : Blk (w1.alloc (.cells #[.pointer none, .map none, .int .u64 0, .slice none 0 0] 74)) (w.heap.size + 1) #[.pointer none, .map none, .int .u64 0, .slice none 0 0] 74 := by
  rw [← hs1]
  exact Blk.new _ _ _
 have hB2 : Below w.heap.size w (w1.alloc (.cells #[.pointer none, .map none, .int .u64 0, .slice none 0 0] 74)) := hB1.trans (((Below.refl _ _).alloc (Nat.le_refl _) _).mono hB1.size)
 subst hw1
 have Hbk := hid hbk
 have HB2 := hid hB2
 clear hbk hB2 hs1 hB1
 go_enter Try.func37, Try.ntmps37
 go_wp2
 refine bodyPost_ret (Go.Proofs.Ytpcbpljdiacbmaa.Sheet.results_row_tmp (P := Try.prog) rfl _ _ (w.heap.size + 1) _ _ (0, 0) _ rfl Hbk.out Try.underlying74 rfl (by kernel_rfl)) rfl ?_
 exact ⟨rfl, HB2.out⟩
set_option maxRecDepth 100000 in
theorem mount_nil (B P S : Int) (A : Option Addr) (n c : Nat) (ep : Int) (w : World) (h : 1 ≤ ep ∧ ep < 281474976710656) :
  Calls Try.prog 16 #[.pointer none, .agg #[.int .i64 B, .int .i64 P, .int .i64 S, .slice A n c], .int .u64 ep] w fun e w' => e = .returned (.tuple #[.pointer none, .int .i64 5]) ∧ Below w.heap.size w w' := by
 have h1 : ¬ ep < 1 := by omega
 have h2 : ¬ (281474976710656 : Int) ≤ ep := by omega
 have hal := fun W => all_nil B P S A n c W
 go_enter Try.func16, Try.ntmps16
 go_wp2_with fail
 refine (hal _).mono ?_
 rintro e w2 ⟨rfl, hB⟩
 have hB1 : Below w.heap.size w (w.alloc (.cells #[.int .i64 B, .int .i64 P, .int .i64 S, .slice A n c] 26)) := (Below.refl _ _).alloc (Nat.le_refl _) _
 have hB3 := hB1.trans (hB.mono hB1.size)
 have HB := hid (hB3.trans (((Below.refl w2.heap.size w2).alloc (Nat.le_refl _) (.cells #[.pointer none, .map none, .int .u64 0, .slice none 0 0] 74)).mono hB3.size))
 clear hB hB1 hB3 hal
 go_wp2
 go_ret2
 exact ⟨rfl, HB.out⟩
end Go.Proofs.Ytpcbpljdiacbmaa.Ftl

namespace Go.Proofs.Ytpcbpljdiacbmaa.Ftl
open Go.RowKit Go.Proofs.Ytpcbpljdiacbmaa.Kit Go.Proofs.Ytpcbpljdiacbmaa.Oct Go.Proofs.Ytpcbpljdiacbmaa.Sheet Go.Proofs.Ytpcbpljdiacbmaa.Nand Go.Proofs.Ytpcbpljdiacbmaa.Plan Go.Proofs.Ytpcbpljdiacbmaa.Scan Go.Proofs.Ytpcbpljdiacbmaa.Pmap Go.Proofs.Ytpcbpljdiacbmaa.Pool

set_option maxRecDepth 100000 in
set_option maxHeartbeats 2000000 in
theorem all_bad {w : World} {F : Nat → Prop} {b : Nat} {N : NA} (h : Arr w F b N) (B P S : Int) (A : Option Addr) (n c : Nat) (bad : List Int) (hz : Nums w .i64 A n bad) (hnc : n ≤ c) (hno : fm B P S bad = false ∨ (N.bs.length : Int) ≠ B ∨ (N.pages : Int) ≠ P) :
  Calls Try.prog 37 #[.pointer (some ⟨b, 0, none⟩), .agg #[.int .i64 B, .int .i64 P, .int .i64 S, .slice A n c]] w fun e w' => e = .returned (.tuple #[.agg #[.pointer none, .map none, .int .u64 0, .slice none 0 0], .int .i64 1]) ∧ Below w.heap.size w w' := by
 obtain ⟨nb, hnb⟩ : ∃ x : Int, (N.bs.length : Int) = x := ⟨_, rfl⟩
 obtain ⟨np, hnp⟩ : ∃ x : Int, (N.pages : Int) = x := ⟨_, rfl⟩
 have hbl : ∀ W, Below w.heap.size w W → Calls Try.prog 54 #[.pointer (some ⟨b, 0, none⟩)] W fun e w' => e = .returned (.int .i64 nb) ∧ w' = W := fun W hW => by
  have := blocks_any F b N W (h.later hW)
  rw [hnb] at this
  exact this
 have hpg : ∀ W, Below w.heap.size w W → Calls Try.prog 55 #[.pointer (some ⟨b, 0, none⟩)] W fun e w' => e = .returned (.int .i64 np) ∧ w' = W := fun W hW => by
  have := pages_any F b N W (h.later hW)
  rw [hnp] at this
  exact this
 have hfm : ∀ W, Below w.heap.size w W → Calls Try.prog 53 #[.agg #[.int .i64 B, .int .i64 P, .int .i64 S, .slice A n c]] W fun e w' => e = .returned (.bool (fm B P S bad)) ∧ Below W.heap.size W w' := fun W hW => Plan.form_any B P S A n c bad W (hz.below hW) hnc
 rw [hnb, hnp] at hno
 clear h hz hnb hnp
 cases hf : fm B P S bad
 ·rw [hf] at hfm
  clear hno hf
  go_enter Try.func37, Try.ntmps37
  go_upto_region 1 with (fail)
  obtain ⟨g3, hg3⟩ : ∃ g, w.heap.size = g := ⟨_, rfl⟩
  generalize hw2 : World.alloc (World.alloc w _) _ = w2
  have hb3 : Blk w2 g3 #[.int .i64 B, .int .i64 P, .int .i64 S, .slice A n c] 26 := by rw [← hw2, ← hg3]; exact (Blk.new w _ _).alloc _
  have hb4 : Blk w2 (g3 + 1) #[.pointer none, .map none, .int .u64 0, .slice none 0 0] 74 := by
   rw [← hw2, ← hg3]
   have := Blk.new (w.alloc (.cells #[.int .i64 B, .int .i64 P, .int .i64 S, .slice A n c] 26)) #[.pointer none, .map none, .int .u64 0, .slice none 0 0] 74
   simpa using this
  have hB2 : Below w.heap.size w w2 := by rw [← hw2]; exact ((Below.refl _ _).alloc (Nat.le_refl _) _).alloc (by simp) _
  rw [hg3]
  have HBl := hid (fun W (hW : Below w2.heap.size w2 W) => hbl W (hB2.trans (hW.mono hB2.size)))
  have HPg := hid (fun W (hW : Below w2.heap.size w2 W) => hpg W (hB2.trans (hW.mono hB2.size)))
  have HFm := hid (fun W (hW : Below w2.heap.size w2 W) => hfm W (hB2.trans (hW.mono hB2.size)))
  have HC := hid (fun W (hW : Below w2.heap.size w2 W) => (hb3.later hW).four)
  have Hb4 := hid (fun W (hW : Below w2.heap.size w2 W) => hb4.later hW)
  have HB2 := hid (fun W (hW : Below w2.heap.size w2 W) => hB2.trans (hW.mono hB2.size))
  have hBd : Below w2.heap.size w2 w2.drew := below_drewN (Below.refl _ _) 1
  have Hg3 := hid (show w.heap.size ≤ g3 by omega)
  clear hw2 hbl hpg hfm hg3 hb3 hb4 hB2
  go_upto_region 3 with (fail)
  refine wp_region_held_drew (S := (fun w' => w'.cell? ⟨g3, 0, none⟩ = some (.int .i64 B) ∧ w'.cell? ⟨g3, 1, none⟩ = some (.int .i64 P) ∧ w'.cell? ⟨g3, 2, none⟩ = some (.int .i64 S) ∧ w'.cell? ⟨g3, 3, none⟩ = some (.slice A n c))) (by kernel_rfl) ?hSnewEfz (fun hHeld => ?restEfz)
  case hSnewEfz => ((try dsimp only); exact HC.out _ hBd)
  refine wpAnyH_take (i := 0) (oi := ?oiEfx0) (v := ?vEfx0) ?hoEfx0 ?h1Efx0 ?h2Efx0 ?h3Efx0 ?hqEfx0 (Or.inl ⟨?h4Efx0, ?hyEfx0⟩) (by assumption) ?restEfx0
  case hoEfx0 => (simp only [qa, qb, qc]; rfl)
  case h1Efx0 => kernel_rfl
  case h2Efx0 => kernel_rfl
  case h3Efx0 => kernel_rfl
  case h4Efx0 => rfl
  case hqEfx0 => exact fun _ _ _ h => h
  case hyEfx0 => (intro w hSw; (try dsimp only at hSw); go_simp <;> with_reducible rfl)
  (try simp only [Act.put, qd, qe, qf])
  refine wpAnyH_ready (rs := [1]) (by kernel_rfl) (by simp) ?_
  refine AllReadyH.cons (o := ?oiEfx1) ?hoEfx1 (fun K hK => ?restEfx1) ?moreEfx1
  case moreEfx1 => exact AllReadyH.nil
  case hoEfx1 => (simp only [qa, qb, qc]; rfl)
  go_simp
  refine (HFm.out _ hBd).mono ?_
  rintro e w5 ⟨rfl, hB5'⟩
  have hB5 := hBd.trans (hB5'.mono hBd.size)
  try go_wp2_with fail
  refine hK.out _ _ ?hSnewEfy1 (fun hHeld => ?restEfy1)
  case hSnewEfy1 => ((try dsimp only); exact HC.out _ hB5)
  clear hK K
  (try simp only [Act.put, qd, qe, qf])
  refine wpAnyH_take (i := 2) (oi := ?oiEfx2) (v := ?vEfx2) ?hoEfx2 ?h1Efx2 ?h2Efx2 ?h3Efx2 ?hqEfx2 (Or.inl ⟨?h4Efx2, ?hyEfx2⟩) (by assumption) ?restEfx2
  case hoEfx2 => (simp only [qa, qb, qc]; rfl)
  case h1Efx2 => kernel_rfl
  case h2Efx2 => kernel_rfl
  case h3Efx2 => kernel_rfl
  case h4Efx2 => rfl
  case hqEfx2 => exact fun _ _ _ h => h
  case hyEfx2 => (intro w hSw; (try dsimp only at hSw); go_simp <;> with_reducible rfl)
  (try simp only [Act.put, qd, qe, qf])
  refine wpAnyH_take (i := 3) (oi := ?oiEfx3) (v := ?vEfx3) ?hoEfx3 ?h1Efx3 ?h2Efx3 ?h3Efx3 ?hqEfx3 (Or.inl ⟨?h4Efx3, ?hyEfx3⟩) (by assumption) ?restEfx3
  case hoEfx3 => (simp only [qa, qb, qc]; rfl)
  case h1Efx3 => kernel_rfl
  case h2Efx3 => kernel_rfl
  case h3Efx3 => kernel_rfl
  case h4Efx3 => rfl
  case hqEfx3 => exact fun _ _ _ h => h
  case hyEfx3 => (intro w hSw; (try dsimp only at hSw); go_simp <;> with_reducible rfl)
  (try simp only [Act.put, qd, qe, qf])
  refine wpAnyH_take (i := 4) (oi := ?oiEfk4) (v := undef) ?hoEfk4 ?h1Efk4 ?h2Efk4 ?h3Efk4 ?hqEfk4 (Or.inr ⟨?h4Efk4, rfl⟩) (by assumption) ?restEfk4
  case hoEfk4 => (simp only [qa, qb, qc]; rfl)
  case h1Efk4 => kernel_rfl
  case h2Efk4 => kernel_rfl
  case h3Efk4 => kernel_rfl
  case h4Efk4 => rfl
  case hqEfk4 => exact fun _ _ _ h => h
  (try simp only [Act.put, qd, qe, qf])
  refine wpAnyH_take (i := 5) (oi := ?oiEfk5) (v := undef) ?hoEfk5 ?h1Efk5 ?h2Efk5 ?h3Efk5 ?hqEfk5 (Or.inr ⟨?h4Efk5, rfl⟩) (by assumption) ?restEfk5
  case hoEfk5 => (simp only [qa, qb, qc]; rfl)
  case h1Efk5 => kernel_rfl
  case h2Efk5 => kernel_rfl
  case h3Efk5 => kernel_rfl
  case h4Efk5 => rfl
  case hqEfk5 => exact fun _ _ _ h => h
  (try simp only [Act.put, qd, qe, qf])
  refine wpAnyH_take (i := 6) (oi := ?oiEfk6) (v := undef) ?hoEfk6 ?h1Efk6 ?h2Efk6 ?h3Efk6 ?hqEfk6 (Or.inr ⟨?h4Efk6, rfl⟩) (by assumption) ?restEfk6
  case hoEfk6 => (simp only [qa, qb, qc]; rfl)
  case h1Efk6 => kernel_rfl
  case h2Efk6 => kernel_rfl
  case h3Efk6 => kernel_rfl
  case h4Efk6 => rfl
  case hqEfk6 => exact fun _ _ _ h => h
  (try simp only [Act.put, qd, qe, qf])
  refine wpAnyH_take (i := 7) (oi := ?oiEfk7) (v := undef) ?hoEfk7 ?h1Efk7 ?h2Efk7 ?h3Efk7 ?hqEfk7 (Or.inr ⟨?h4Efk7, rfl⟩) (by assumption) ?restEfk7
  case hoEfk7 => (simp only [qa, qb, qc]; rfl)
  case h1Efk7 => kernel_rfl
  case h2Efk7 => kernel_rfl
  case h3Efk7 => kernel_rfl
  case h4Efk7 => rfl
  case hqEfk7 => exact fun _ _ _ h => h
  (try simp only [Act.put, qd, qe, qf])
  refine wpAnyH_take (i := 8) (oi := ?oiEfk8) (v := undef) ?hoEfk8 ?h1Efk8 ?h2Efk8 ?h3Efk8 ?hqEfk8 (Or.inr ⟨?h4Efk8, rfl⟩) (by assumption) ?restEfk8
  case hoEfk8 => (simp only [qa, qb, qc]; rfl)
  case h1Efk8 => kernel_rfl
  case h2Efk8 => kernel_rfl
  case h3Efk8 => kernel_rfl
  case h4Efk8 => rfl
  case hqEfk8 => exact fun _ _ _ h => h
  (try simp only [Act.put, qd, qe, qf])
  refine wpAnyH_take (i := 9) (oi := ?oiEfx9) (v := ?vEfx9) ?hoEfx9 ?h1Efx9 ?h2Efx9 ?h3Efx9 ?hqEfx9 (Or.inl ⟨?h4Efx9, ?hyEfx9⟩) (by assumption) ?restEfx9
  case hoEfx9 => (simp only [qa, qb, qc]; rfl)
  case h1Efx9 => kernel_rfl
  case h2Efx9 => kernel_rfl
  case h3Efx9 => kernel_rfl
  case h4Efx9 => rfl
  case hqEfx9 => exact fun _ _ _ h => h
  case hyEfx9 => (intro w hSw; (try dsimp only at hSw); go_simp <;> with_reducible rfl)
  (try simp only [Act.put, qd, qe, qf])
  refine wpAnyH_take (i := 10) (oi := ?oiEfx10) (v := ?vEfx10) ?hoEfx10 ?h1Efx10 ?h2Efx10 ?h3Efx10 ?hqEfx10 (Or.inl ⟨?h4Efx10, ?hyEfx10⟩) (by assumption) ?restEfx10
  case hoEfx10 => (simp only [qa, qb, qc]; rfl)
  case h1Efx10 => kernel_rfl
  case h2Efx10 => kernel_rfl
  case h3Efx10 => kernel_rfl
  case h4Efx10 => rfl
  case hqEfx10 => exact fun _ _ _ h => h
  case hyEfx10 => (intro w hSw; (try dsimp only at hSw); go_simp <;> with_reducible rfl)
  (try simp only [Act.put, qd, qe, qf])
  refine wpAnyH_take (i := 11) (oi := ?oiEfk11) (v := undef) ?hoEfk11 ?h1Efk11 ?h2Efk11 ?h3Efk11 ?hqEfk11 (Or.inr ⟨?h4Efk11, rfl⟩) (by assumption) ?restEfk11
  case hoEfk11 => (simp only [qa, qb, qc]; rfl)
  case h1Efk11 => kernel_rfl
  case h2Efk11 => kernel_rfl
  case h3Efk11 => kernel_rfl
  case h4Efk11 => rfl
  case hqEfk11 => exact fun _ _ _ h => h
  (try simp only [Act.put, qd, qe, qf])
  refine wpAnyH_take (i := 12) (oi := ?oiEfk12) (v := undef) ?hoEfk12 ?h1Efk12 ?h2Efk12 ?h3Efk12 ?hqEfk12 (Or.inr ⟨?h4Efk12, rfl⟩) (by assumption) ?restEfk12
  case hoEfk12 => (simp only [qa, qb, qc]; rfl)
  case h1Efk12 => kernel_rfl
  case h2Efk12 => kernel_rfl
  case h3Efk12 => kernel_rfl
  case h4Efk12 => rfl
  case hqEfk12 => exact fun _ _ _ h => h
  (try simp only [Act.put, qd, qe, qf])
  refine wpAnyH_take (i := 13) (oi := ?oiEfk13) (v := undef) ?hoEfk13 ?h1Efk13 ?h2Efk13 ?h3Efk13 ?hqEfk13 (Or.inr ⟨?h4Efk13, rfl⟩) (by assumption) ?restEfk13
  case hoEfk13 => (simp only [qa, qb, qc]; rfl)
  case h1Efk13 => kernel_rfl
  case h2Efk13 => kernel_rfl
  case h3Efk13 => kernel_rfl
  case h4Efk13 => rfl
  case hqEfk13 => exact fun _ _ _ h => h
  (try simp only [Act.put, qd, qe, qf])
  refine wpAnyH_take (i := 14) (oi := ?oiEfk14) (v := undef) ?hoEfk14 ?h1Efk14 ?h2Efk14 ?h3Efk14 ?hqEfk14 (Or.inr ⟨?h4Efk14, rfl⟩) (by assumption) ?restEfk14
  case hoEfk14 => (simp only [qa, qb, qc]; rfl)
  case h1Efk14 => kernel_rfl
  case h2Efk14 => kernel_rfl
  case h3Efk14 => kernel_rfl
  case h4Efk14 => rfl
  case hqEfk14 => exact fun _ _ _ h => h
  (try simp only [Act.put, qd, qe, qf])
  refine wpAnyH_take (i := 15) (oi := ?oiEfk15) (v := undef) ?hoEfk15 ?h1Efk15 ?h2Efk15 ?h3Efk15 ?hqEfk15 (Or.inr ⟨?h4Efk15, rfl⟩) (by assumption) ?restEfk15
  case hoEfk15 => (simp only [qa, qb, qc]; rfl)
  case h1Efk15 => kernel_rfl
  case h2Efk15 => kernel_rfl
  case h3Efk15 => kernel_rfl
  case h4Efk15 => rfl
  case hqEfk15 => exact fun _ _ _ h => h
  (try simp only [Act.put, qd, qe, qf])
  refine wpAnyH_take (i := 16) (oi := ?oiEfx16) (v := ?vEfx16) ?hoEfx16 ?h1Efx16 ?h2Efx16 ?h3Efx16 ?hqEfx16 (Or.inl ⟨?h4Efx16, ?hyEfx16⟩) (by assumption) ?restEfx16
  case hoEfx16 => (simp only [qa, qb, qc]; rfl)
  case h1Efx16 => kernel_rfl
  case h2Efx16 => kernel_rfl
  case h3Efx16 => kernel_rfl
  case h4Efx16 => rfl
  case hqEfx16 => exact fun _ _ _ h => h
  case hyEfx16 => (intro w hSw; (try dsimp only at hSw); go_simp <;> with_reducible rfl)
  (try simp only [Act.put, qd, qe, qf])
  refine wpAnyH_done (by kernel_rfl) ?_ _
  have Hbk := hid (Hb4.out _ hB5)
  have HBe := hid (HB2.out _ hB5)
  have k0 : w5.cell? ⟨g3 + 1, 0, none⟩ = some (.pointer none) := Hbk.out.cell 0
  have k1 : w5.cell? ⟨g3 + 1, 1, none⟩ = some (.map none) := Hbk.out.cell 1
  have k2 : w5.cell? ⟨g3 + 1, 2, none⟩ = some (.int .u64 0) := Hbk.out.cell 2
  have k3 : w5.cell? ⟨g3 + 1, 3, none⟩ = some (.slice none 0 0) := Hbk.out.cell 3
  have f0 := Hbk.out.free 0
  have f1 := Hbk.out.free 1
  have f2 := Hbk.out.free 2
  have f3 := Hbk.out.free 3
  have H4 : Blk ((((w5.setCell ⟨g3 + 1, 0, none⟩ (.pointer none)).setCell ⟨g3 + 1, 1, none⟩ (.map none)).setCell ⟨g3 + 1, 2, none⟩ (.int .u64 0)).setCell ⟨g3 + 1, 3, none⟩ (.slice none 0 0)) (g3 + 1) #[.pointer none, .map none, .int .u64 0, .slice none 0 0] 74 := by
   simpa using (((Hbk.out.set 0 (.pointer none)).set 1 (.map none)).set 2 (.int .u64 0)).set 3 (.slice none 0 0)
  have HB4 : Below w.heap.size w ((((w5.setCell ⟨g3 + 1, 0, none⟩ (.pointer none)).setCell ⟨g3 + 1, 1, none⟩ (.map none)).setCell ⟨g3 + 1, 2, none⟩ (.int .u64 0)).setCell ⟨g3 + 1, 3, none⟩ (.slice none 0 0)) := by
   have hge : w.heap.size ≤ g3 + 1 := by have := Hg3.out; omega
   exact below_set (below_set (below_set (below_set HBe.out hge 0 _) hge 1 _) hge 2 _) hge 3 _
  have H4 := hid H4
  have HB4 := hid HB4
  clear hHeld
  go_wp2
  refine bodyPost_ret (Go.Proofs.Ytpcbpljdiacbmaa.Sheet.results_row_tmp (P := Try.prog) rfl _ _ (g3 + 1) _ _ (0, 0) _ rfl H4.out Try.underlying74 rfl (by kernel_rfl)) rfl ?_
  exact ⟨rfl, HB4.out⟩
 ·rw [hf] at hfm hno
  by_cases h1 : nb = B
  ·have h2 : np ≠ P := by
    rcases hno with h | h | h
    ·cases h
    ·exact absurd h1 h
    ·exact h
   have v1 : (nb != B) = false := by rw [h1]; simp
   have v2 : (np != P) = true := by simpa using h2
   clear hno hf
   go_enter Try.func37, Try.ntmps37
   go_upto_region 1 with (fail)
   obtain ⟨g3, hg3⟩ : ∃ g, w.heap.size = g := ⟨_, rfl⟩
   generalize hw2 : World.alloc (World.alloc w _) _ = w2
   have hb3 : Blk w2 g3 #[.int .i64 B, .int .i64 P, .int .i64 S, .slice A n c] 26 := by rw [← hw2, ← hg3]; exact (Blk.new w _ _).alloc _
   have hb4 : Blk w2 (g3 + 1) #[.pointer none, .map none, .int .u64 0, .slice none 0 0] 74 := by
    rw [← hw2, ← hg3]
    have := Blk.new (w.alloc (.cells #[.int .i64 B, .int .i64 P, .int .i64 S, .slice A n c] 26)) #[.pointer none, .map none, .int .u64 0, .slice none 0 0] 74
    simpa using this
   have hB2 : Below w.heap.size w w2 := by rw [← hw2]; exact ((Below.refl _ _).alloc (Nat.le_refl _) _).alloc (by simp) _
   rw [hg3]
   have HBl := hid (fun W (hW : Below w2.heap.size w2 W) => hbl W (hB2.trans (hW.mono hB2.size)))
   have HPg := hid (fun W (hW : Below w2.heap.size w2 W) => hpg W (hB2.trans (hW.mono hB2.size)))
   have HFm := hid (fun W (hW : Below w2.heap.size w2 W) => hfm W (hB2.trans (hW.mono hB2.size)))
   have HC := hid (fun W (hW : Below w2.heap.size w2 W) => (hb3.later hW).four)
   have Hb4 := hid (fun W (hW : Below w2.heap.size w2 W) => hb4.later hW)
   have HB2 := hid (fun W (hW : Below w2.heap.size w2 W) => hB2.trans (hW.mono hB2.size))
   have hBd : Below w2.heap.size w2 w2.drew := below_drewN (Below.refl _ _) 1
   have Hg3 := hid (show w.heap.size ≤ g3 by omega)
   clear hw2 hbl hpg hfm hg3 hb3 hb4 hB2
   go_upto_region 3 with (fail)
   refine wp_region_held_drew (S := (fun w' => w'.cell? ⟨g3, 0, none⟩ = some (.int .i64 B) ∧ w'.cell? ⟨g3, 1, none⟩ = some (.int .i64 P) ∧ w'.cell? ⟨g3, 2, none⟩ = some (.int .i64 S) ∧ w'.cell? ⟨g3, 3, none⟩ = some (.slice A n c))) (by kernel_rfl) ?hSnewEpz (fun hHeld => ?restEpz)
   case hSnewEpz => ((try dsimp only); exact HC.out _ hBd)
   refine wpAnyH_take (i := 0) (oi := ?oiEpx0) (v := ?vEpx0) ?hoEpx0 ?h1Epx0 ?h2Epx0 ?h3Epx0 ?hqEpx0 (Or.inl ⟨?h4Epx0, ?hyEpx0⟩) (by assumption) ?restEpx0
   case hoEpx0 => (simp only [qa, qb, qc]; rfl)
   case h1Epx0 => kernel_rfl
   case h2Epx0 => kernel_rfl
   case h3Epx0 => kernel_rfl
   case h4Epx0 => rfl
   case hqEpx0 => exact fun _ _ _ h => h
   case hyEpx0 => (intro w hSw; (try dsimp only at hSw); go_simp <;> with_reducible rfl)
   (try simp only [Act.put, qd, qe, qf])
   refine wpAnyH_ready (rs := [1]) (by kernel_rfl) (by simp) ?_
   refine AllReadyH.cons (o := ?oiEpx1) ?hoEpx1 (fun K hK => ?restEpx1) ?moreEpx1
   case moreEpx1 => exact AllReadyH.nil
   case hoEpx1 => (simp only [qa, qb, qc]; rfl)
   go_simp
   refine (HFm.out _ hBd).mono ?_
   rintro e w5 ⟨rfl, hB5'⟩
   have hB5 := hBd.trans (hB5'.mono hBd.size)
   try go_wp2_with fail
   refine hK.out _ _ ?hSnewEpy1 (fun hHeld => ?restEpy1)
   case hSnewEpy1 => ((try dsimp only); exact HC.out _ hB5)
   clear hK K
   (try simp only [Act.put, qd, qe, qf])
   refine wpAnyH_take (i := 2) (oi := ?oiEpx2) (v := ?vEpx2) ?hoEpx2 ?h1Epx2 ?h2Epx2 ?h3Epx2 ?hqEpx2 (Or.inl ⟨?h4Epx2, ?hyEpx2⟩) (by assumption) ?restEpx2
   case hoEpx2 => (simp only [qa, qb, qc]; rfl)
   case h1Epx2 => kernel_rfl
   case h2Epx2 => kernel_rfl
   case h3Epx2 => kernel_rfl
   case h4Epx2 => rfl
   case hqEpx2 => exact fun _ _ _ h => h
   case hyEpx2 => (intro w hSw; (try dsimp only at hSw); go_simp <;> with_reducible rfl)
   (try simp only [Act.put, qd, qe, qf])
   refine wpAnyH_take (i := 3) (oi := ?oiEpx3) (v := ?vEpx3) ?hoEpx3 ?h1Epx3 ?h2Epx3 ?h3Epx3 ?hqEpx3 (Or.inl ⟨?h4Epx3, ?hyEpx3⟩) (by assumption) ?restEpx3
   case hoEpx3 => (simp only [qa, qb, qc]; rfl)
   case h1Epx3 => kernel_rfl
   case h2Epx3 => kernel_rfl
   case h3Epx3 => kernel_rfl
   case h4Epx3 => rfl
   case hqEpx3 => exact fun _ _ _ h => h
   case hyEpx3 => (intro w hSw; (try dsimp only at hSw); go_simp <;> with_reducible rfl)
   (try simp only [Act.put, qd, qe, qf])
   refine wpAnyH_take (i := 4) (oi := ?oiEpx4) (v := ?vEpx4) ?hoEpx4 ?h1Epx4 ?h2Epx4 ?h3Epx4 ?hqEpx4 (Or.inl ⟨?h4Epx4, ?hyEpx4⟩) (by assumption) ?restEpx4
   case hoEpx4 => (simp only [qa, qb, qc]; rfl)
   case h1Epx4 => kernel_rfl
   case h2Epx4 => kernel_rfl
   case h3Epx4 => kernel_rfl
   case h4Epx4 => rfl
   case hqEpx4 => exact fun _ _ _ h => h
   case hyEpx4 => (intro w hSw; (try dsimp only at hSw); go_simp <;> with_reducible rfl)
   (try simp only [Act.put, qd, qe, qf])
   refine wpAnyH_take (i := 6) (oi := ?oiEpx6) (v := ?vEpx6) ?hoEpx6 ?h1Epx6 ?h2Epx6 ?h3Epx6 ?hqEpx6 (Or.inl ⟨?h4Epx6, ?hyEpx6⟩) (by assumption) ?restEpx6
   case hoEpx6 => (simp only [qa, qb, qc]; rfl)
   case h1Epx6 => kernel_rfl
   case h2Epx6 => kernel_rfl
   case h3Epx6 => kernel_rfl
   case h4Epx6 => rfl
   case hqEpx6 => exact fun _ _ _ h => h
   case hyEpx6 => (intro w hSw; (try dsimp only at hSw); go_simp <;> with_reducible rfl)
   (try simp only [Act.put, qd, qe, qf])
   refine wpAnyH_take (i := 7) (oi := ?oiEpx7) (v := ?vEpx7) ?hoEpx7 ?h1Epx7 ?h2Epx7 ?h3Epx7 ?hqEpx7 (Or.inl ⟨?h4Epx7, ?hyEpx7⟩) (by assumption) ?restEpx7
   case hoEpx7 => (simp only [qa, qb, qc]; rfl)
   case h1Epx7 => kernel_rfl
   case h2Epx7 => kernel_rfl
   case h3Epx7 => kernel_rfl
   case h4Epx7 => rfl
   case hqEpx7 => exact fun _ _ _ h => h
   case hyEpx7 => (intro w hSw; (try dsimp only at hSw); go_simp <;> with_reducible rfl)
   (try simp only [Act.put, qd, qe, qf])
   refine wpAnyH_ready (rs := [5]) (by kernel_rfl) (by simp) ?_
   refine AllReadyH.cons (o := ?oiEpx5) ?hoEpx5 (fun K hK => ?restEpx5) ?moreEpx5
   case moreEpx5 => exact AllReadyH.nil
   case hoEpx5 => (simp only [qa, qb, qc]; rfl)
   go_simp
   refine (HBl.out _ hB5).mono ?_
   rintro e w6 ⟨rfl, hw6⟩
   subst hw6
   try go_wp2_with fail
   refine hK.out _ _ ?hSnewEpy5 (fun hHeld => ?restEpy5)
   case hSnewEpy5 => ((try dsimp only); exact HC.out _ hB5)
   clear hK K
   (try simp only [Act.put, qd, qe, qf])
   refine wpAnyH_take (i := 8) (oi := ?oiEpx8) (v := ?vEpx8) ?hoEpx8 ?h1Epx8 ?h2Epx8 ?h3Epx8 ?hqEpx8 (Or.inl ⟨?h4Epx8, ?hyEpx8⟩) (by assumption) ?restEpx8
   case hoEpx8 => (simp only [qa, qb, qc]; rfl)
   case h1Epx8 => kernel_rfl
   case h2Epx8 => kernel_rfl
   case h3Epx8 => kernel_rfl
   case h4Epx8 => rfl
   case hqEpx8 => exact fun _ _ _ h => h
   case hyEpx8 => (intro w hSw; (try dsimp only at hSw); go_simp <;> with_reducible rfl)
   (try simp only [Act.put, qd, qe, qf])
   refine wpAnyH_take (i := 9) (oi := ?oiEpx9) (v := ?vEpx9) ?hoEpx9 ?h1Epx9 ?h2Epx9 ?h3Epx9 ?hqEpx9 (Or.inl ⟨?h4Epx9, ?hyEpx9⟩) (by assumption) ?restEpx9
   case hoEpx9 => (simp only [qa, qb, qc]; rfl)
   case h1Epx9 => kernel_rfl
   case h2Epx9 => kernel_rfl
   case h3Epx9 => kernel_rfl
   case h4Epx9 => rfl
   case hqEpx9 => exact fun _ _ _ h => h
   case hyEpx9 => (intro w hSw; (try dsimp only at hSw); go_simp <;> with_reducible rfl)
   (try simp only [Act.put, qd, qe, qf])
   refine wpAnyH_take (i := 10) (oi := ?oiEpx10) (v := ?vEpx10) ?hoEpx10 ?h1Epx10 ?h2Epx10 ?h3Epx10 ?hqEpx10 (Or.inl ⟨?h4Epx10, ?hyEpx10⟩) (by assumption) ?restEpx10
   case hoEpx10 => (simp only [qa, qb, qc]; rfl)
   case h1Epx10 => kernel_rfl
   case h2Epx10 => kernel_rfl
   case h3Epx10 => kernel_rfl
   case h4Epx10 => rfl
   case hqEpx10 => exact fun _ _ _ h => h
   case hyEpx10 => (intro w hSw; (try dsimp only at hSw); go_simp <;> with_reducible rfl)
   (try simp only [Act.put, qd, qe, qf])
   refine wpAnyH_take (i := 11) (oi := ?oiEpx11) (v := ?vEpx11) ?hoEpx11 ?h1Epx11 ?h2Epx11 ?h3Epx11 ?hqEpx11 (Or.inl ⟨?h4Epx11, ?hyEpx11⟩) (by assumption) ?restEpx11
   case hoEpx11 => (simp only [qa, qb, qc]; rfl)
   case h1Epx11 => kernel_rfl
   case h2Epx11 => kernel_rfl
   case h3Epx11 => kernel_rfl
   case h4Epx11 => rfl
   case hqEpx11 => exact fun _ _ _ h => h
   case hyEpx11 => (intro w hSw; (try dsimp only at hSw); go_simp <;> with_reducible rfl)
   (try simp only [Act.put, qd, qe, qf])
   refine wpAnyH_take (i := 13) (oi := ?oiEpx13) (v := ?vEpx13) ?hoEpx13 ?h1Epx13 ?h2Epx13 ?h3Epx13 ?hqEpx13 (Or.inl ⟨?h4Epx13, ?hyEpx13⟩) (by assumption) ?restEpx13
   case hoEpx13 => (simp only [qa, qb, qc]; rfl)
   case h1Epx13 => kernel_rfl
   case h2Epx13 => kernel_rfl
   case h3Epx13 => kernel_rfl
   case h4Epx13 => rfl
   case hqEpx13 => exact fun _ _ _ h => h
   case hyEpx13 => (intro w hSw; (try dsimp only at hSw); go_simp <;> with_reducible rfl)
   (try simp only [Act.put, qd, qe, qf])
   refine wpAnyH_take (i := 14) (oi := ?oiEpx14) (v := ?vEpx14) ?hoEpx14 ?h1Epx14 ?h2Epx14 ?h3Epx14 ?hqEpx14 (Or.inl ⟨?h4Epx14, ?hyEpx14⟩) (by assumption) ?restEpx14
   case hoEpx14 => (simp only [qa, qb, qc]; rfl)
   case h1Epx14 => kernel_rfl
   case h2Epx14 => kernel_rfl
   case h3Epx14 => kernel_rfl
   case h4Epx14 => rfl
   case hqEpx14 => exact fun _ _ _ h => h
   case hyEpx14 => (intro w hSw; (try dsimp only at hSw); go_simp <;> with_reducible rfl)
   (try simp only [Act.put, qd, qe, qf])
   refine wpAnyH_ready (rs := [12]) (by kernel_rfl) (by simp) ?_
   refine AllReadyH.cons (o := ?oiEpx12) ?hoEpx12 (fun K hK => ?restEpx12) ?moreEpx12
   case moreEpx12 => exact AllReadyH.nil
   case hoEpx12 => (simp only [qa, qb, qc]; rfl)
   go_simp
   refine (HPg.out _ hB5).mono ?_
   rintro e w7 ⟨rfl, hw7⟩
   subst hw7
   try go_wp2_with fail
   refine hK.out _ _ ?hSnewEpy12 (fun hHeld => ?restEpy12)
   case hSnewEpy12 => ((try dsimp only); exact HC.out _ hB5)
   clear hK K
   (try simp only [Act.put, qd, qe, qf])
   refine wpAnyH_take (i := 15) (oi := ?oiEpx15) (v := ?vEpx15) ?hoEpx15 ?h1Epx15 ?h2Epx15 ?h3Epx15 ?hqEpx15 (Or.inl ⟨?h4Epx15, ?hyEpx15⟩) (by assumption) ?restEpx15
   case hoEpx15 => (simp only [qa, qb, qc]; rfl)
   case h1Epx15 => kernel_rfl
   case h2Epx15 => kernel_rfl
   case h3Epx15 => kernel_rfl
   case h4Epx15 => rfl
   case hqEpx15 => exact fun _ _ _ h => h
   case hyEpx15 => (intro w hSw; (try dsimp only at hSw); go_simp <;> with_reducible rfl)
   (try simp only [Act.put, qd, qe, qf])
   refine wpAnyH_take (i := 16) (oi := ?oiEpx16) (v := ?vEpx16) ?hoEpx16 ?h1Epx16 ?h2Epx16 ?h3Epx16 ?hqEpx16 (Or.inl ⟨?h4Epx16, ?hyEpx16⟩) (by assumption) ?restEpx16
   case hoEpx16 => (simp only [qa, qb, qc]; rfl)
   case h1Epx16 => kernel_rfl
   case h2Epx16 => kernel_rfl
   case h3Epx16 => kernel_rfl
   case h4Epx16 => rfl
   case hqEpx16 => exact fun _ _ _ h => h
   case hyEpx16 => (intro w hSw; (try dsimp only at hSw); go_simp <;> with_reducible rfl)
   (try simp only [Act.put, qd, qe, qf])
   refine wpAnyH_done (by kernel_rfl) ?_ _
   have Hbk := hid (Hb4.out _ hB5)
   have HBe := hid (HB2.out _ hB5)
   have k0 : w7.cell? ⟨g3 + 1, 0, none⟩ = some (.pointer none) := Hbk.out.cell 0
   have k1 : w7.cell? ⟨g3 + 1, 1, none⟩ = some (.map none) := Hbk.out.cell 1
   have k2 : w7.cell? ⟨g3 + 1, 2, none⟩ = some (.int .u64 0) := Hbk.out.cell 2
   have k3 : w7.cell? ⟨g3 + 1, 3, none⟩ = some (.slice none 0 0) := Hbk.out.cell 3
   have f0 := Hbk.out.free 0
   have f1 := Hbk.out.free 1
   have f2 := Hbk.out.free 2
   have f3 := Hbk.out.free 3
   have H4 : Blk ((((w7.setCell ⟨g3 + 1, 0, none⟩ (.pointer none)).setCell ⟨g3 + 1, 1, none⟩ (.map none)).setCell ⟨g3 + 1, 2, none⟩ (.int .u64 0)).setCell ⟨g3 + 1, 3, none⟩ (.slice none 0 0)) (g3 + 1) #[.pointer none, .map none, .int .u64 0, .slice none 0 0] 74 := by
    simpa using (((Hbk.out.set 0 (.pointer none)).set 1 (.map none)).set 2 (.int .u64 0)).set 3 (.slice none 0 0)
   have HB4 : Below w.heap.size w ((((w7.setCell ⟨g3 + 1, 0, none⟩ (.pointer none)).setCell ⟨g3 + 1, 1, none⟩ (.map none)).setCell ⟨g3 + 1, 2, none⟩ (.int .u64 0)).setCell ⟨g3 + 1, 3, none⟩ (.slice none 0 0)) := by
    have hge : w.heap.size ≤ g3 + 1 := by have := Hg3.out; omega
    exact below_set (below_set (below_set (below_set HBe.out hge 0 _) hge 1 _) hge 2 _) hge 3 _
   have H4 := hid H4
   have HB4 := hid HB4
   clear hHeld
   go_wp2
   refine bodyPost_ret (Go.Proofs.Ytpcbpljdiacbmaa.Sheet.results_row_tmp (P := Try.prog) rfl _ _ (g3 + 1) _ _ (0, 0) _ rfl H4.out Try.underlying74 rfl (by kernel_rfl)) rfl ?_
   exact ⟨rfl, HB4.out⟩
  ·have v1 : (nb != B) = true := by simpa using h1
   clear hno hf
   go_enter Try.func37, Try.ntmps37
   go_upto_region 1 with (fail)
   obtain ⟨g3, hg3⟩ : ∃ g, w.heap.size = g := ⟨_, rfl⟩
   generalize hw2 : World.alloc (World.alloc w _) _ = w2
   have hb3 : Blk w2 g3 #[.int .i64 B, .int .i64 P, .int .i64 S, .slice A n c] 26 := by rw [← hw2, ← hg3]; exact (Blk.new w _ _).alloc _
   have hb4 : Blk w2 (g3 + 1) #[.pointer none, .map none, .int .u64 0, .slice none 0 0] 74 := by
    rw [← hw2, ← hg3]
    have := Blk.new (w.alloc (.cells #[.int .i64 B, .int .i64 P, .int .i64 S, .slice A n c] 26)) #[.pointer none, .map none, .int .u64 0, .slice none 0 0] 74
    simpa using this
   have hB2 : Below w.heap.size w w2 := by rw [← hw2]; exact ((Below.refl _ _).alloc (Nat.le_refl _) _).alloc (by simp) _
   rw [hg3]
   have HBl := hid (fun W (hW : Below w2.heap.size w2 W) => hbl W (hB2.trans (hW.mono hB2.size)))
   have HPg := hid (fun W (hW : Below w2.heap.size w2 W) => hpg W (hB2.trans (hW.mono hB2.size)))
   have HFm := hid (fun W (hW : Below w2.heap.size w2 W) => hfm W (hB2.trans (hW.mono hB2.size)))
   have HC := hid (fun W (hW : Below w2.heap.size w2 W) => (hb3.later hW).four)
   have Hb4 := hid (fun W (hW : Below w2.heap.size w2 W) => hb4.later hW)
   have HB2 := hid (fun W (hW : Below w2.heap.size w2 W) => hB2.trans (hW.mono hB2.size))
   have hBd : Below w2.heap.size w2 w2.drew := below_drewN (Below.refl _ _) 1
   have Hg3 := hid (show w.heap.size ≤ g3 by omega)
   clear hw2 hbl hpg hfm hg3 hb3 hb4 hB2
   go_upto_region 3 with (fail)
   refine wp_region_held_drew (S := (fun w' => w'.cell? ⟨g3, 0, none⟩ = some (.int .i64 B) ∧ w'.cell? ⟨g3, 1, none⟩ = some (.int .i64 P) ∧ w'.cell? ⟨g3, 2, none⟩ = some (.int .i64 S) ∧ w'.cell? ⟨g3, 3, none⟩ = some (.slice A n c))) (by kernel_rfl) ?hSnewEbz (fun hHeld => ?restEbz)
   case hSnewEbz => ((try dsimp only); exact HC.out _ hBd)
   refine wpAnyH_take (i := 0) (oi := ?oiEbx0) (v := ?vEbx0) ?hoEbx0 ?h1Ebx0 ?h2Ebx0 ?h3Ebx0 ?hqEbx0 (Or.inl ⟨?h4Ebx0, ?hyEbx0⟩) (by assumption) ?restEbx0
   case hoEbx0 => (simp only [qa, qb, qc]; rfl)
   case h1Ebx0 => kernel_rfl
   case h2Ebx0 => kernel_rfl
   case h3Ebx0 => kernel_rfl
   case h4Ebx0 => rfl
   case hqEbx0 => exact fun _ _ _ h => h
   case hyEbx0 => (intro w hSw; (try dsimp only at hSw); go_simp <;> with_reducible rfl)
   (try simp only [Act.put, qd, qe, qf])
   refine wpAnyH_ready (rs := [1]) (by kernel_rfl) (by simp) ?_
   refine AllReadyH.cons (o := ?oiEbx1) ?hoEbx1 (fun K hK => ?restEbx1) ?moreEbx1
   case moreEbx1 => exact AllReadyH.nil
   case hoEbx1 => (simp only [qa, qb, qc]; rfl)
   go_simp
   refine (HFm.out _ hBd).mono ?_
   rintro e w5 ⟨rfl, hB5'⟩
   have hB5 := hBd.trans (hB5'.mono hBd.size)
   try go_wp2_with fail
   refine hK.out _ _ ?hSnewEby1 (fun hHeld => ?restEby1)
   case hSnewEby1 => ((try dsimp only); exact HC.out _ hB5)
   clear hK K
   (try simp only [Act.put, qd, qe, qf])
   refine wpAnyH_take (i := 2) (oi := ?oiEbx2) (v := ?vEbx2) ?hoEbx2 ?h1Ebx2 ?h2Ebx2 ?h3Ebx2 ?hqEbx2 (Or.inl ⟨?h4Ebx2, ?hyEbx2⟩) (by assumption) ?restEbx2
   case hoEbx2 => (simp only [qa, qb, qc]; rfl)
   case h1Ebx2 => kernel_rfl
   case h2Ebx2 => kernel_rfl
   case h3Ebx2 => kernel_rfl
   case h4Ebx2 => rfl
   case hqEbx2 => exact fun _ _ _ h => h
   case hyEbx2 => (intro w hSw; (try dsimp only at hSw); go_simp <;> with_reducible rfl)
   (try simp only [Act.put, qd, qe, qf])
   refine wpAnyH_take (i := 3) (oi := ?oiEbx3) (v := ?vEbx3) ?hoEbx3 ?h1Ebx3 ?h2Ebx3 ?h3Ebx3 ?hqEbx3 (Or.inl ⟨?h4Ebx3, ?hyEbx3⟩) (by assumption) ?restEbx3
   case hoEbx3 => (simp only [qa, qb, qc]; rfl)
   case h1Ebx3 => kernel_rfl
   case h2Ebx3 => kernel_rfl
   case h3Ebx3 => kernel_rfl
   case h4Ebx3 => rfl
   case hqEbx3 => exact fun _ _ _ h => h
   case hyEbx3 => (intro w hSw; (try dsimp only at hSw); go_simp <;> with_reducible rfl)
   (try simp only [Act.put, qd, qe, qf])
   refine wpAnyH_take (i := 4) (oi := ?oiEbx4) (v := ?vEbx4) ?hoEbx4 ?h1Ebx4 ?h2Ebx4 ?h3Ebx4 ?hqEbx4 (Or.inl ⟨?h4Ebx4, ?hyEbx4⟩) (by assumption) ?restEbx4
   case hoEbx4 => (simp only [qa, qb, qc]; rfl)
   case h1Ebx4 => kernel_rfl
   case h2Ebx4 => kernel_rfl
   case h3Ebx4 => kernel_rfl
   case h4Ebx4 => rfl
   case hqEbx4 => exact fun _ _ _ h => h
   case hyEbx4 => (intro w hSw; (try dsimp only at hSw); go_simp <;> with_reducible rfl)
   (try simp only [Act.put, qd, qe, qf])
   refine wpAnyH_take (i := 6) (oi := ?oiEbx6) (v := ?vEbx6) ?hoEbx6 ?h1Ebx6 ?h2Ebx6 ?h3Ebx6 ?hqEbx6 (Or.inl ⟨?h4Ebx6, ?hyEbx6⟩) (by assumption) ?restEbx6
   case hoEbx6 => (simp only [qa, qb, qc]; rfl)
   case h1Ebx6 => kernel_rfl
   case h2Ebx6 => kernel_rfl
   case h3Ebx6 => kernel_rfl
   case h4Ebx6 => rfl
   case hqEbx6 => exact fun _ _ _ h => h
   case hyEbx6 => (intro w hSw; (try dsimp only at hSw); go_simp <;> with_reducible rfl)
   (try simp only [Act.put, qd, qe, qf])
   refine wpAnyH_take (i := 7) (oi := ?oiEbx7) (v := ?vEbx7) ?hoEbx7 ?h1Ebx7 ?h2Ebx7 ?h3Ebx7 ?hqEbx7 (Or.inl ⟨?h4Ebx7, ?hyEbx7⟩) (by assumption) ?restEbx7
   case hoEbx7 => (simp only [qa, qb, qc]; rfl)
   case h1Ebx7 => kernel_rfl
   case h2Ebx7 => kernel_rfl
   case h3Ebx7 => kernel_rfl
   case h4Ebx7 => rfl
   case hqEbx7 => exact fun _ _ _ h => h
   case hyEbx7 => (intro w hSw; (try dsimp only at hSw); go_simp <;> with_reducible rfl)
   (try simp only [Act.put, qd, qe, qf])
   refine wpAnyH_ready (rs := [5]) (by kernel_rfl) (by simp) ?_
   refine AllReadyH.cons (o := ?oiEbx5) ?hoEbx5 (fun K hK => ?restEbx5) ?moreEbx5
   case moreEbx5 => exact AllReadyH.nil
   case hoEbx5 => (simp only [qa, qb, qc]; rfl)
   go_simp
   refine (HBl.out _ hB5).mono ?_
   rintro e w6 ⟨rfl, hw6⟩
   subst hw6
   try go_wp2_with fail
   refine hK.out _ _ ?hSnewEby5 (fun hHeld => ?restEby5)
   case hSnewEby5 => ((try dsimp only); exact HC.out _ hB5)
   clear hK K
   (try simp only [Act.put, qd, qe, qf])
   refine wpAnyH_take (i := 8) (oi := ?oiEbx8) (v := ?vEbx8) ?hoEbx8 ?h1Ebx8 ?h2Ebx8 ?h3Ebx8 ?hqEbx8 (Or.inl ⟨?h4Ebx8, ?hyEbx8⟩) (by assumption) ?restEbx8
   case hoEbx8 => (simp only [qa, qb, qc]; rfl)
   case h1Ebx8 => kernel_rfl
   case h2Ebx8 => kernel_rfl
   case h3Ebx8 => kernel_rfl
   case h4Ebx8 => rfl
   case hqEbx8 => exact fun _ _ _ h => h
   case hyEbx8 => (intro w hSw; (try dsimp only at hSw); go_simp <;> with_reducible rfl)
   (try simp only [Act.put, qd, qe, qf])
   refine wpAnyH_take (i := 9) (oi := ?oiEbx9) (v := ?vEbx9) ?hoEbx9 ?h1Ebx9 ?h2Ebx9 ?h3Ebx9 ?hqEbx9 (Or.inl ⟨?h4Ebx9, ?hyEbx9⟩) (by assumption) ?restEbx9
   case hoEbx9 => (simp only [qa, qb, qc]; rfl)
   case h1Ebx9 => kernel_rfl
   case h2Ebx9 => kernel_rfl
   case h3Ebx9 => kernel_rfl
   case h4Ebx9 => rfl
   case hqEbx9 => exact fun _ _ _ h => h
   case hyEbx9 => (intro w hSw; (try dsimp only at hSw); go_simp <;> with_reducible rfl)
   (try simp only [Act.put, qd, qe, qf])
   refine wpAnyH_take (i := 10) (oi := ?oiEbx10) (v := ?vEbx10) ?hoEbx10 ?h1Ebx10 ?h2Ebx10 ?h3Ebx10 ?hqEbx10 (Or.inl ⟨?h4Ebx10, ?hyEbx10⟩) (by assumption) ?restEbx10
   case hoEbx10 => (simp only [qa, qb, qc]; rfl)
   case h1Ebx10 => kernel_rfl
   case h2Ebx10 => kernel_rfl
   case h3Ebx10 => kernel_rfl
   case h4Ebx10 => rfl
   case hqEbx10 => exact fun _ _ _ h => h
   case hyEbx10 => (intro w hSw; (try dsimp only at hSw); go_simp <;> with_reducible rfl)
   (try simp only [Act.put, qd, qe, qf])
   refine wpAnyH_take (i := 11) (oi := ?oiEbk11) (v := undef) ?hoEbk11 ?h1Ebk11 ?h2Ebk11 ?h3Ebk11 ?hqEbk11 (Or.inr ⟨?h4Ebk11, rfl⟩) (by assumption) ?restEbk11
   case hoEbk11 => (simp only [qa, qb, qc]; rfl)
   case h1Ebk11 => kernel_rfl
   case h2Ebk11 => kernel_rfl
   case h3Ebk11 => kernel_rfl
   case h4Ebk11 => rfl
   case hqEbk11 => exact fun _ _ _ h => h
   (try simp only [Act.put, qd, qe, qf])
   refine wpAnyH_take (i := 12) (oi := ?oiEbk12) (v := undef) ?hoEbk12 ?h1Ebk12 ?h2Ebk12 ?h3Ebk12 ?hqEbk12 (Or.inr ⟨?h4Ebk12, rfl⟩) (by assumption) ?restEbk12
   case hoEbk12 => (simp only [qa, qb, qc]; rfl)
   case h1Ebk12 => kernel_rfl
   case h2Ebk12 => kernel_rfl
   case h3Ebk12 => kernel_rfl
   case h4Ebk12 => rfl
   case hqEbk12 => exact fun _ _ _ h => h
   (try simp only [Act.put, qd, qe, qf])
   refine wpAnyH_take (i := 13) (oi := ?oiEbk13) (v := undef) ?hoEbk13 ?h1Ebk13 ?h2Ebk13 ?h3Ebk13 ?hqEbk13 (Or.inr ⟨?h4Ebk13, rfl⟩) (by assumption) ?restEbk13
   case hoEbk13 => (simp only [qa, qb, qc]; rfl)
   case h1Ebk13 => kernel_rfl
   case h2Ebk13 => kernel_rfl
   case h3Ebk13 => kernel_rfl
   case h4Ebk13 => rfl
   case hqEbk13 => exact fun _ _ _ h => h
   (try simp only [Act.put, qd, qe, qf])
   refine wpAnyH_take (i := 14) (oi := ?oiEbk14) (v := undef) ?hoEbk14 ?h1Ebk14 ?h2Ebk14 ?h3Ebk14 ?hqEbk14 (Or.inr ⟨?h4Ebk14, rfl⟩) (by assumption) ?restEbk14
   case hoEbk14 => (simp only [qa, qb, qc]; rfl)
   case h1Ebk14 => kernel_rfl
   case h2Ebk14 => kernel_rfl
   case h3Ebk14 => kernel_rfl
   case h4Ebk14 => rfl
   case hqEbk14 => exact fun _ _ _ h => h
   (try simp only [Act.put, qd, qe, qf])
   refine wpAnyH_take (i := 15) (oi := ?oiEbk15) (v := undef) ?hoEbk15 ?h1Ebk15 ?h2Ebk15 ?h3Ebk15 ?hqEbk15 (Or.inr ⟨?h4Ebk15, rfl⟩) (by assumption) ?restEbk15
   case hoEbk15 => (simp only [qa, qb, qc]; rfl)
   case h1Ebk15 => kernel_rfl
   case h2Ebk15 => kernel_rfl
   case h3Ebk15 => kernel_rfl
   case h4Ebk15 => rfl
   case hqEbk15 => exact fun _ _ _ h => h
   (try simp only [Act.put, qd, qe, qf])
   refine wpAnyH_take (i := 16) (oi := ?oiEbx16) (v := ?vEbx16) ?hoEbx16 ?h1Ebx16 ?h2Ebx16 ?h3Ebx16 ?hqEbx16 (Or.inl ⟨?h4Ebx16, ?hyEbx16⟩) (by assumption) ?restEbx16
   case hoEbx16 => (simp only [qa, qb, qc]; rfl)
   case h1Ebx16 => kernel_rfl
   case h2Ebx16 => kernel_rfl
   case h3Ebx16 => kernel_rfl
   case h4Ebx16 => rfl
   case hqEbx16 => exact fun _ _ _ h => h
   case hyEbx16 => (intro w hSw; (try dsimp only at hSw); go_simp <;> with_reducible rfl)
   (try simp only [Act.put, qd, qe, qf])
   refine wpAnyH_done (by kernel_rfl) ?_ _
   have Hbk := hid (Hb4.out _ hB5)
   have HBe := hid (HB2.out _ hB5)
   have k0 : w6.cell? ⟨g3 + 1, 0, none⟩ = some (.pointer none) := Hbk.out.cell 0
   have k1 : w6.cell? ⟨g3 + 1, 1, none⟩ = some (.map none) := Hbk.out.cell 1
   have k2 : w6.cell? ⟨g3 + 1, 2, none⟩ = some (.int .u64 0) := Hbk.out.cell 2
   have k3 : w6.cell? ⟨g3 + 1, 3, none⟩ = some (.slice none 0 0) := Hbk.out.cell 3
   have f0 := Hbk.out.free 0
   have f1 := Hbk.out.free 1
   have f2 := Hbk.out.free 2
   have f3 := Hbk.out.free 3
   have H4 : Blk ((((w6.setCell ⟨g3 + 1, 0, none⟩ (.pointer none)).setCell ⟨g3 + 1, 1, none⟩ (.map none)).setCell ⟨g3 + 1, 2, none⟩ (.int .u64 0)).setCell ⟨g3 + 1, 3, none⟩ (.slice none 0 0)) (g3 + 1) #[.pointer none, .map none, .int .u64 0, .slice none 0 0] 74 := by
    simpa using (((Hbk.out.set 0 (.pointer none)).set 1 (.map none)).set 2 (.int .u64 0)).set 3 (.slice none 0 0)
   have HB4 : Below w.heap.size w ((((w6.setCell ⟨g3 + 1, 0, none⟩ (.pointer none)).setCell ⟨g3 + 1, 1, none⟩ (.map none)).setCell ⟨g3 + 1, 2, none⟩ (.int .u64 0)).setCell ⟨g3 + 1, 3, none⟩ (.slice none 0 0)) := by
    have hge : w.heap.size ≤ g3 + 1 := by have := Hg3.out; omega
    exact below_set (below_set (below_set (below_set HBe.out hge 0 _) hge 1 _) hge 2 _) hge 3 _
   have H4 := hid H4
   have HB4 := hid HB4
   clear hHeld
   go_wp2
   refine bodyPost_ret (Go.Proofs.Ytpcbpljdiacbmaa.Sheet.results_row_tmp (P := Try.prog) rfl _ _ (g3 + 1) _ _ (0, 0) _ rfl H4.out Try.underlying74 rfl (by kernel_rfl)) rfl ?_
   exact ⟨rfl, HB4.out⟩
set_option maxRecDepth 100000 in
theorem mount_bad {w : World} {F : Nat → Prop} {b : Nat} {N : NA} (h : Arr w F b N) (B P S : Int) (A : Option Addr) (n c : Nat) (bad : List Int) (hz : Nums w .i64 A n bad) (hnc : n ≤ c) (hno : fm B P S bad = false ∨ (N.bs.length : Int) ≠ B ∨ (N.pages : Int) ≠ P) (ep : Int) (hep : 1 ≤ ep ∧ ep < 281474976710656) :
  Calls Try.prog 16 #[.pointer (some ⟨b, 0, none⟩), .agg #[.int .i64 B, .int .i64 P, .int .i64 S, .slice A n c], .int .u64 ep] w fun e w' => e = .returned (.tuple #[.pointer none, .int .i64 1]) ∧ Below w.heap.size w w' := by
 have h1 : ¬ ep < 1 := by omega
 have h2 : ¬ (281474976710656 : Int) ≤ ep := by omega
 have hB1 : Below w.heap.size w (w.alloc (.cells #[.int .i64 B, .int .i64 P, .int .i64 S, .slice A n c] 26)) := (Below.refl _ _).alloc (Nat.le_refl _) _
 have hal := all_bad (h.later hB1) B P S A n c bad (hz.below hB1) hnc hno
 have HB1 := hid hB1
 clear h hz hno hB1
 go_enter Try.func16, Try.ntmps16
 go_wp2_with fail
 refine hal.mono ?_
 rintro e w2 ⟨rfl, hB⟩
 have hB3 := HB1.out.trans (hB.mono HB1.out.size)
 have HB := hid (hB3.trans (((Below.refl w2.heap.size w2).alloc (Nat.le_refl _) (.cells #[.pointer none, .map none, .int .u64 0, .slice none 0 0] 74)).mono hB3.size))
 clear hB hB3 hal
 go_wp2
 go_ret2
 exact ⟨rfl, HB.out⟩
end Go.Proofs.Ytpcbpljdiacbmaa.Ftl

namespace Go.Proofs.Ytpcbpljdiacbmaa.Ftl
open Go.RowKit Go.Proofs.Ytpcbpljdiacbmaa.Kit Go.Proofs.Ytpcbpljdiacbmaa.Oct Go.Proofs.Ytpcbpljdiacbmaa.Sheet Go.Proofs.Ytpcbpljdiacbmaa.Nand Go.Proofs.Ytpcbpljdiacbmaa.Plan Go.Proofs.Ytpcbpljdiacbmaa.Scan Go.Proofs.Ytpcbpljdiacbmaa.Pmap Go.Proofs.Ytpcbpljdiacbmaa.Pool

/-! Strings as bytes; all addresses are full. -/
section
variable {c : FC} {o : FId} {A : Option Addr} {n cc s a : Nat} {K K' : Nat → Prop} {V w w1 w2 : World} {st : FT} {D : Nat → Option (List Int)}
end
end Go.Proofs.Ytpcbpljdiacbmaa.Ftl

namespace Go.Proofs.Ytpcbpljdiacbmaa.Ftl
open Go.RowKit Go.Proofs.Ytpcbpljdiacbmaa.Kit Go.Proofs.Ytpcbpljdiacbmaa.Oct Go.Proofs.Ytpcbpljdiacbmaa.Sheet Go.Proofs.Ytpcbpljdiacbmaa.Nand Go.Proofs.Ytpcbpljdiacbmaa.Plan Go.Proofs.Ytpcbpljdiacbmaa.Scan Go.Proofs.Ytpcbpljdiacbmaa.Pmap Go.Proofs.Ytpcbpljdiacbmaa.Pool

/-! An array on which each block is empty or has pages that count. -/
section
variable {c : FC} {o : FId} {A : Option Addr} {n cc b s a : Nat} {K K' : Nat → Prop} {V w w1 w2 : World} {st : FT} {N N' : NA} {c0 c1 : Nat → Option (Int × Fo)} {D : Nat → Option (List Int)} {R : FT × Int} {fe : Int}
end
end Go.Proofs.Ytpcbpljdiacbmaa.Ftl

namespace Go.Proofs.Ytpcbpljdiacbmaa.Ftl
open Go.RowKit Go.Proofs.Ytpcbpljdiacbmaa.Kit Go.Proofs.Ytpcbpljdiacbmaa.Oct Go.Proofs.Ytpcbpljdiacbmaa.Sheet Go.Proofs.Ytpcbpljdiacbmaa.Nand Go.Proofs.Ytpcbpljdiacbmaa.Plan Go.Proofs.Ytpcbpljdiacbmaa.Scan Go.Proofs.Ytpcbpljdiacbmaa.Pmap Go.Proofs.Ytpcbpljdiacbmaa.Pool

/-! How many pages there are: where blocks are filled one behind the other. -/
section
variable {c : FC} {st : FT} {N N' : NA} {b : Nat}
end
end Go.Proofs.Ytpcbpljdiacbmaa.Ftl

namespace Go.Proofs.Ytpcbpljdiacbmaa.Ftl
open Go.RowKit Go.Proofs.Ytpcbpljdiacbmaa.Kit Go.Proofs.Ytpcbpljdiacbmaa.Oct Go.Proofs.Ytpcbpljdiacbmaa.Sheet Go.Proofs.Ytpcbpljdiacbmaa.Nand Go.Proofs.Ytpcbpljdiacbmaa.Plan Go.Proofs.Ytpcbpljdiacbmaa.Scan Go.Proofs.Ytpcbpljdiacbmaa.Pmap Go.Proofs.Ytpcbpljdiacbmaa.Pool

/-! A page is written without copying. -/
section
variable {c : FC} {st : FT} {N N' : NA} {a b s : Nat} {D : Nat → Option (List Int)} {R : FT × Int} {ys : List Int}
theorem mloop_empty (c : FC) (q : Nat → Nat) : ∀ (l : List Int) (m : FT × Nat × Int), (∀ i : Nat, (i : Int) ∈ l → (m.1.N.blk i).pages = [] ∧ (m.1.N.blk i).failed = false) → (∀ x ∈ l, 0 ≤ x) → mloop c q l m = (m, 0) := by
 intro l
 induction l with
 | nil => intro m _ _; rfl
 | cons x l ih =>
  intro m h hx
  obtain ⟨k, rfl⟩ := Int.eq_ofNat_of_zero_le (hx x List.mem_cons_self)
  obtain ⟨s0, nw, op⟩ := m
  obtain ⟨h1, h2⟩ := h k List.mem_cons_self
  have e := m_empty (c := c) (q := q) (b := k) (nw := nw) (op := op) (s := s0) (by rw [show (s0.N.blk k).failed = false from h2]; simp) (by rw [show (s0.N.blk k).pages = [] from h1]; rfl)
  have e : mstep c q k (s0, nw, op) = ((s0, nw, op), 0) := e
  rw [mloop_cons]
  rw [e, if_neg (by simp)]
  exact ih _ (fun i hi => h i (List.mem_cons_of_mem _ hi)) (fun y hy => hx y (List.mem_cons_of_mem _ hy))
section
variable {o : FId} {A : Option Addr} {n cc : Nat} {K : Nat → Prop} {V w w1 w2 : World}
end
end
end Go.Proofs.Ytpcbpljdiacbmaa.Ftl

namespace Go.Proofs.Ytpcbpljdiacbmaa.Ftl
open Go.RowKit Go.Proofs.Ytpcbpljdiacbmaa.Kit Go.Proofs.Ytpcbpljdiacbmaa.Oct Go.Proofs.Ytpcbpljdiacbmaa.Sheet Go.Proofs.Ytpcbpljdiacbmaa.Nand Go.Proofs.Ytpcbpljdiacbmaa.Plan Go.Proofs.Ytpcbpljdiacbmaa.Scan Go.Proofs.Ytpcbpljdiacbmaa.Pmap Go.Proofs.Ytpcbpljdiacbmaa.Pool

section
variable {c : FC}
/-- A new array can be mounted with other bad blocks and other spare ones. -/
theorem AOk.blank (hk : CK c) (bad : List Int) : AOk c (newA c.nb c.np bad) (fun _ => none) 0 := by
 have hp := newA_pages c.nb c.np bad
 have hL : L0 c (newA c.nb c.np bad) = fun _ => [] := by
  funext i
  unfold L0
  split
  ·unfold NB.seen
   split
   ·rfl
   ·rw [hp]; rfl
  ·rfl
 refine ⟨newA_len _ _ _, rfl, fun j q hq => (by rw [hp] at hq; cases hq), fun i => ?_, ?_, fun i hi x hx => (by rw [hL] at hx; cases hx), fun i => by rw [hp]; exact Nat.zero_le _, fun i hi hf hh => ?_, ?_⟩
 ·by_cases h : i < c.nb
  ·rw [newA_blk _ _ _ i h]
   show kwf 0
   exact kwf_of (by omega)
  ·unfold NA.blk
   rw [List.getD_eq_getElem?_getD, List.getElem?_eq_none (by rw [newA_len]; omega)]
   show kwf 0
   exact kwf_of (by omega)
 ·rw [hL]
  exact ⟨fun a i x h => by (cases h), fun i _ x hx => by (cases hx), fun i _ x hx => by (cases hx), fun a i x h => by (cases h), fun i _ hc => absurd rfl hc.1, fun i _ j _ x hx => by (cases hx), fun _ _ => rfl⟩
 ·exfalso
  obtain ⟨i', ei, -, hin⟩ := xs_nat hi
  rw [newA_blk _ _ _ i (by omega)] at hh
  cases hh
 ·refine ⟨-1, fun h => absurd h (fun x => by have := xs_64 hk.nb _ x; omega), ?_⟩
  rw [cnum_zero 64 (fun i hi => ?_)]
  ·have hM := hk.ok
   have hM1 := hk.M
   unfold FC.ok Plan.cap at hM
   have hlen : (usb ((c.nb : Int)).toNat c.bad).length = c.xs.length := by rw [Int.toNat_natCast]; rfl
   rw [hlen] at hM
   by_cases hle : 0 + 1 + c.S ≤ c.xs.length
   ·exact hle
   ·exfalso
    have : (c.np : Int) * ((c.xs.length : Int) - c.S - 1) ≤ (c.np : Int) * 0 := Int.mul_le_mul_of_nonneg_left (by omega) (by omega)
    omega
  ·cases e : liveL c.xs (fun i => ((newA c.nb c.np bad).blk i).failed) (L0 c (newA c.nb c.np bad)) (-1) i with
   | false => rfl
   | true =>
    have := (liveL_iff.1 e).2.2.1
    rw [hL] at this
    exact absurd rfl this
/-- It is mounted, and that's all that is asked. -/
theorem mount_blank {w1 : World} {F : Nat → Prop} {b : Nat} (hk : CK c) (h : Arr w1 F b (newA c.nb c.np [])) (A : Option Addr) (n cc : Nat) (hg : Geo w1 c.nb c.np (c.S : Int) A n cc c.bad) (hab : ∀ ad, A = some ad → ad.block < w1.heap.size ∧ ¬ F ad.block) :
  Calls Try.prog 16 #[.pointer (some ⟨b, 0, none⟩), .agg #[.int .i64 (c.nb : Int), .int .i64 (c.np : Int), .int .i64 (c.S : Int), .slice A n cc], .int .u64 (c.ep : Int)] w1 fun e w' => ∃ p, e = .returned (.tuple #[.pointer (some ⟨p, 0, none⟩), .int .i64 0]) ∧ Nand.Fr F w1 w' ∧ ∃ F', Arr w' F' b (newA c.nb c.np []) ∧ ∀ g, F' g → F g ∨ w1.heap.size ≤ g := by
 have hA := AOk.blank hk []
 have hca : CalmN c (newA c.nb c.np []) := by
  refine ⟨fun i hi => ?_, rfl, rfl⟩
  obtain ⟨i', ei, -, hin⟩ := xs_nat hi
  unfold Hale1
  rw [newA_blk _ _ _ i (by omega)]
  refine ⟨?_, rfl, ?_⟩ <;> simp [newB]
 refine (mount_run h hA.lb hA.lp rfl hA.bytes hA.er A n cc hg hab hk.ok hk.M hk.ep.1 hk.ep.2).mono ?_
 rintro e w' ⟨o, L, at', has, cnt, st0, FL, R, q1, q2, q3, q4, q5, q6, q7, q8, q9, q10, q11, q12, q13⟩
 have eN : st0.N = newA c.nb c.np [] := by rw [q5]
 have hpg := newA_pages c.nb c.np []
 have hRe : R = (st0, 0) := by
  rw [← q9]
  have := mloop_empty c (qOf FL) c.xs (st0, 0, -1) (fun i hi => ⟨by show (st0.N.blk i).pages = []; rw [eN, hpg], by show (st0.N.blk i).failed = false; rw [eN]; exact (hca.hale i hi).2.2⟩) (fun x hx => by obtain ⟨k, rfl, -⟩ := xs_nat hx; omega)
  unfold mountF
  simp only [this]
  rfl
 have g1 : R.2 = 0 := by rw [hRe]
 refine ⟨o.bf, q10 g1, q12.fr.mono (fun g hl hg => ?_), ?_⟩
 rotate_left
 ·obtain ⟨F', h1, -, h3, -⟩ := q12
  rw [hRe, q1] at h1
  have h1 : Arr w' F' b st0.N := h1
  rw [eN] at h1
  exact ⟨F', h1, h3⟩
 rcases hg with hg | hg | hg
 ·exact hg
 ·exfalso
  rcases q3 g (.inl hg) with hx | ⟨ad, had, rfl⟩
  ·omega
  ·obtain ⟨F', -, h2, -⟩ := q12
   exact h2.ap.ab ad (q2.1.trans had) hg
 ·exact hg.elim
/-- What a geometry with the form is to an FTL. -/
theorem ck_geo {nb np : Nat} {S : Int} {bad : List Int} (h : fm (nb : Int) (np : Int) S bad = true) : ∃ c : FC, c.nb = nb ∧ c.np = np ∧ (c.S : Int) = S ∧ c.bad = bad ∧ c.ep = 1 ∧ CK c := by
 obtain ⟨h1, h2, h3, h4, h5, h6, -, h8⟩ := fm_yes h
 have hS : (S.toNat : Int) = S := Int.toNat_of_nonneg h5
 have hcb := cap_bd (bad := bad) (show nb ≤ 64 by omega) (show np ≤ 32 by omega) h5
 obtain ⟨M, hM⟩ : ∃ M : Nat, cap (nb : Int) (np : Int) S bad = (M : Int) := ⟨(cap (nb : Int) (np : Int) S bad).toNat, by omega⟩
 refine ⟨⟨nb, np, S.toNat, bad, M + 1, 1⟩, rfl, rfl, hS, rfl, rfl, ⟨by show nb ≤ 64; omega, by show 2 ≤ np ∧ np ≤ 32; omega, ?_, by show 1 ≤ M + 1; omega, by show 1 ≤ 1 ∧ 1 < 281474976710656; omega, by show M + 1 < 65536; omega⟩⟩
 show cap (nb : Int) (np : Int) (S.toNat : Int) bad = ((M + 1 : Nat) : Int) - 1
 rw [hS, hM]
 omega
end
end Go.Proofs.Ytpcbpljdiacbmaa.Ftl

namespace Go.Proofs.Ytpcbpljdiacbmaa.Ftl
open Go.RowKit Go.ChangeShapes Go.WideShapes Go.Proofs.Ytpcbpljdiacbmaa.Kit Go.Proofs.Ytpcbpljdiacbmaa.Oct Go.Proofs.Ytpcbpljdiacbmaa.Sheet Go.Proofs.Ytpcbpljdiacbmaa.Nand Go.Proofs.Ytpcbpljdiacbmaa.Plan Go.Proofs.Ytpcbpljdiacbmaa.Scan Go.Proofs.Ytpcbpljdiacbmaa.Pmap Go.Proofs.Ytpcbpljdiacbmaa.Pool

theorem mount_x {w1 : World} {F : Nat → Prop} {b : Nat} (h : Arr w1 F b (newA 6 2 [])) (A : Option Addr) (n cc : Nat) (hg : Geo w1 6 2 0 A n cc []) (hab : ∀ ad, A = some ad → ad.block < w1.heap.size ∧ ¬ F ad.block) (ep ix : Int) (hix : (1 ≤ ep ∧ ep < 281474976710656 ∧ ix = 0) ∨ (ep < 1 ∧ ix = 1) ∨ (1 ≤ ep ∧ 281474976710656 ≤ ep ∧ ix = 1)) (hep : 0 ≤ ep) :
  Calls Try.prog 16 #[.pointer (some ⟨b, 0, none⟩), .agg #[.int .i64 6, .int .i64 2, .int .i64 0, .slice A n cc], .int .u64 ep] w1 fun e w' => ∃ p, e = .returned (.tuple #[.pointer p, .int .i64 ix]) ∧ Nand.Fr F w1 w' ∧ ∃ F', Arr w' F' b (newA 6 2 []) ∧ ∀ g, F' g → F g ∨ w1.heap.size ≤ g := by
 rcases hix with ⟨h1, h2, rfl⟩ | h3
 ·obtain ⟨k, rfl⟩ := Int.eq_ofNat_of_zero_le hep
  have hk : CK (c6.at k) := c6_ok.at (by omega) (by omega)
  refine (mount_blank (c := c6.at k) hk h A n cc hg hab).mono ?_
  rintro e w' ⟨p, he, hf, hA⟩
  exact ⟨some ⟨p, 0, none⟩, he, hf, hA⟩
 ·obtain ⟨h1, rfl⟩ : (ep < 1 ∨ 281474976710656 ≤ ep) ∧ ix = 1 := by
   rcases h3 with h | h
   ·exact ⟨.inl h.1, h.2⟩
   ·exact ⟨.inr h.2.1, h.2.2⟩
  refine (mount_ep _ 6 2 0 A n cc ep w1 h1).mono ?_
  rintro e w' ⟨he, hB⟩
  exact ⟨none, he, Nand.Fr.of_below hB, F, h.later hB, fun g hg => .inl hg⟩
theorem mount_y {w1 : World} {F : Nat → Prop} {b : Nat} (h : Arr w1 F b (newA 6 2 [])) (B P S : Int) (A : Option Addr) (n cc : Nat) (bad : List Int) (hz : Nums w1 .i64 A n bad) (hnc : n ≤ cc) (hab : ∀ ad, A = some ad → ad.block < w1.heap.size ∧ ¬ F ad.block) (iy : Int) (hiy : (fm B P S bad = true ∧ B = 6 ∧ P = 2 ∧ iy = 0) ∨ (fm B P S bad = false ∧ iy = 1) ∨ (fm B P S bad = true ∧ B ≠ 6 ∧ iy = 1) ∨ (fm B P S bad = true ∧ B = 6 ∧ P ≠ 2 ∧ iy = 1)) :
  Calls Try.prog 16 #[.pointer (some ⟨b, 0, none⟩), .agg #[.int .i64 B, .int .i64 P, .int .i64 S, .slice A n cc], .int .u64 1] w1 fun e w' => ∃ p, e = .returned (.tuple #[.pointer p, .int .i64 iy]) ∧ Nand.Fr F w1 w' := by
 rcases hiy with ⟨h1, rfl, rfl, rfl⟩ | hno
 ·obtain ⟨c, e1, e2, e3, e4, e5, hk⟩ := ck_geo (nb := 6) (np := 2) (S := S) (bad := bad) h1
  subst e4
  subst e3
  have hA : Arr w1 F b (newA c.nb c.np []) := by rw [e1, e2]; exact h
  have := mount_blank hk hA A n cc ⟨hz, hnc, by rw [e1, e2]; exact h1⟩ hab
  rw [e1, e2, e5] at this
  refine this.mono ?_
  rintro e w' ⟨p, he, hf, -⟩
  exact ⟨some ⟨p, 0, none⟩, he, hf⟩
 ·obtain ⟨h1, rfl⟩ : (fm B P S bad = false ∨ ((newA 6 2 []).bs.length : Int) ≠ B ∨ ((newA 6 2 []).pages : Int) ≠ P) ∧ iy = 1 := by
   rw [newA_len]
   rcases hno with h | h | h
   ·exact ⟨.inl h.1, h.2⟩
   ·exact ⟨.inr (.inl (fun x => h.2.1 x.symm)), h.2.2⟩
   ·exact ⟨.inr (.inr (fun x => h.2.2.1 x.symm)), h.2.2.2⟩
  refine (mount_bad h B P S A n cc bad hz hnc h1 1 (by omega)).mono ?_
  rintro e w' ⟨he, hB⟩
  exact ⟨none, he, Nand.Fr.of_below hB⟩
theorem heap_shape {w : World} {b : Nat} {x : TypeId × Nat} (h : w.shape? b = some x) : b < w.heap.size := by
 by_cases hb : b < w.heap.size
 ·exact hb
 ·unfold World.shape? at h
  rw [Array.getElem?_eq_none (by omega)] at h
  simp at h
set_option maxRecDepth 100000 in
theorem geo_cells : Try.prog.cellTypes Try.prog.depth 26 = some [3, 3, 3, 24] := by kernel_rfl
set_option maxRecDepth 100000 in
/-- A geometry as an argument. -/
theorem open_geo {H : Type} {enc : TypeId × Value → H} {W : World} {r : Reach} {b0 : Nat} {v : Value} {d : DataW H} {p : List MemPlace}
  (hv : Value.okWide Try.prog W r b0 26 v) (h : DataW.Trod enc Try.prog W 0 (fun _ => true) true 26 v d p) :
  ∃ (B P S : Int) (A : Option Addr) (n c : Nat) (bad : List Int), v = .agg #[.int .i64 B, .int .i64 P, .int .i64 S, .slice A n c] ∧ n ≤ c ∧ Nums W .i64 A n bad := by
 obtain ⟨v0, v1, v2, v3, y0, y1, y2, y3, m, rfl, rfl, rfl, h0, h1, h2, h3⟩ := Go.Joins.open_agg4 Try.underlying26 (by kernel_rfl) (by kernel_rfl) hv h
 obtain ⟨B, e0, -, -⟩ := DataW.trod_int Try.underlying3 h0
 obtain ⟨P, e1, -, -⟩ := DataW.trod_int Try.underlying3 h1
 obtain ⟨S, e2, -, -⟩ := DataW.trod_int Try.underlying3 h2
 obtain ⟨A, n, c, bad, rfl, hnc, hz⟩ := trod_nums Try.underlying24 Try.underlying3 (by kernel_rfl) h3
 simp only [List.cons.injEq, and_true] at e0 e1 e2
 subst e0; subst e1; subst e2
 exact ⟨B, P, S, A, n, c, bad, rfl, hnc, hz⟩
set_option maxRecDepth 100000 in
/-- A geometry as an argument; its list lies in the memory that came in. -/
theorem open_geo2 {H : Type} {enc : TypeId × Value → H} {W : World} {r : Reach} {b0 : Nat} {v : Value} {d : DataW H} {p : List MemPlace}
  (hv : Value.okWide Try.prog W r b0 26 v) (h : DataW.Trod enc Try.prog W 0 (fun _ => true) true 26 v d p) :
  ∃ (B P S : Int) (A : Option Addr) (n c : Nat) (bad : List Int), v = .agg #[.int .i64 B, .int .i64 P, .int .i64 S, .slice A n c] ∧ n ≤ c ∧ Nums W .i64 A n bad ∧ ∀ ad, A = some ad → ad.block < W.heap.size := by
 obtain ⟨B, P, S, A, n, c, bad, rfl, hnc, hz⟩ := open_geo hv h
 refine ⟨B, P, S, A, n, c, bad, rfl, hnc, hz, fun ad had => ?_⟩
 subst had
 unfold Value.okWide at hv
 rw [Try.underlying26] at hv
 obtain ⟨cs, h1, -, ts, hts, -, hr⟩ := hv
 injection h1 with h1
 subst h1
 rw [geo_cells] at hts
 injection hts with hts
 subst hts
 obtain ⟨u, hu, hc⟩ := hr 3 _ rfl
 obtain rfl : 24 = u := by simpa using hu
 unfold Cell.okWide at hc
 rw [Try.underlying24] at hc
 unfold Cell.ok at hc
 simp only [Try.underlying24] at hc
 obtain ⟨-, -, -, -, row, cells, hsh, -⟩ := hc
 exact heap_shape hsh

set_option maxRecDepth 100000 in
set_option maxHeartbeats 4000000 in
theorem law_errs (B P S : Int) (A : Option Addr) (n c : Nat) (bad : List Int) (ep addr : Int) (Ad : Option Addr) (dn dc : Nat) (w : World) (hz : Nums w .i64 A n bad) (hnc : n ≤ c) (hal : ∀ ad, A = some ad → ad.block < w.heap.size) (hep : 0 ≤ ep) :
  Calls Try.prog 11 #[.agg #[.int .i64 B, .int .i64 P, .int .i64 S, .slice A n c], .int .u64 ep, .int .i64 addr, .slice Ad dn dc] w fun e w' => e = .returned (.bool true) ∧ Below w.heap.size w w' := by
 have haw := fun W => awake_ftl W
 obtain ⟨ix, hix⟩ : ∃ ix : Int, (1 ≤ ep ∧ ep < 281474976710656 ∧ ix = 0) ∨ (ep < 1 ∧ ix = 1) ∨ (1 ≤ ep ∧ 281474976710656 ≤ ep ∧ ix = 1) := by
  by_cases h1 : 1 ≤ ep
  ·by_cases h2 : ep < 281474976710656
   ·exact ⟨0, .inl ⟨h1, h2, rfl⟩⟩
   ·exact ⟨1, .inr (.inr ⟨h1, by omega, rfl⟩)⟩
  ·exact ⟨1, .inr (.inl ⟨by omega, rfl⟩)⟩
 obtain ⟨iy, hiy⟩ : ∃ iy : Int, (fm B P S bad = true ∧ B = 6 ∧ P = 2 ∧ iy = 0) ∨ (fm B P S bad = false ∧ iy = 1) ∨ (fm B P S bad = true ∧ B ≠ 6 ∧ iy = 1) ∨ (fm B P S bad = true ∧ B = 6 ∧ P ≠ 2 ∧ iy = 1) := by
  cases hf : fm B P S bad
  ·exact ⟨1, .inr (.inl ⟨rfl, rfl⟩)⟩
  ·by_cases h1 : B = 6
   ·by_cases h2 : P = 2
    ·exact ⟨0, .inl ⟨rfl, h1, h2, rfl⟩⟩
    ·exact ⟨1, .inr (.inr (.inr ⟨rfl, h1, h2, rfl⟩))⟩
   ·exact ⟨1, .inr (.inr (.inl ⟨rfl, h1, rfl⟩))⟩
 by_cases h100 : 100 < n
 ·have h100I : (100 : Int) < (n : Int) := by omega
  have h100b : decide ((n : Int) > 100) = true := decide_eq_true h100I
  go_enter Try.func11, Try.ntmps11
  go_upto_region 1 with (fail)
  generalize hw2 : World.alloc w _ = w2
  obtain ⟨g4, hg4⟩ : ∃ g, w.heap.size = g := ⟨_, rfl⟩
  have hB2 : Below w.heap.size w w2 := by rw [← hw2]; exact (Below.refl _ _).alloc (Nat.le_refl _) _
  have hb4 : Blk w2 g4 #[.int .i64 B, .int .i64 P, .int .i64 S, .slice A n c] 26 := by rw [← hw2, ← hg4]; exact Blk.new _ _ _
  rw [hg4]
  have haw2 := haw w2
  have HB2 := hid hB2
  have Hb4 := hid hb4
  clear hw2 hg4 hB2 hb4
  go_wp2_with fail
  refine haw2.mono ?_
  rintro e w3 ⟨rfl, hB3⟩
  obtain ⟨k0, k1, k2, k3⟩ := (Hb4.out.later hB3).four
  have HB3 := hid (HB2.out.trans (hB3.mono HB2.out.size))
  have Hb5 := hid (Hb4.out.later hB3)
  clear haw2 hB3 HB2 Hb4
  have haw3 := haw w3
  go_wp2_with fail
  refine haw3.mono ?_
  rintro e w4 ⟨rfl, hB4⟩
  clear haw3
  go_wp2
  go_ret
  exact ⟨rfl, HB3.out.trans (hB4.mono HB3.out.size)⟩
 ·have h100I : ¬ (100 : Int) < (n : Int) := by omega
  have h100b : decide ((n : Int) > 100) = false := decide_eq_false h100I
  by_cases h64 : 64 < B
  ·have h64b : decide (B > 64) = true := decide_eq_true h64
   go_enter Try.func11, Try.ntmps11
   go_upto_region 1 with (fail)
   generalize hw2 : World.alloc w _ = w2
   obtain ⟨g4, hg4⟩ : ∃ g, w.heap.size = g := ⟨_, rfl⟩
   have hB2 : Below w.heap.size w w2 := by rw [← hw2]; exact (Below.refl _ _).alloc (Nat.le_refl _) _
   have hb4 : Blk w2 g4 #[.int .i64 B, .int .i64 P, .int .i64 S, .slice A n c] 26 := by rw [← hw2, ← hg4]; exact Blk.new _ _ _
   rw [hg4]
   have haw2 := haw w2
   have HB2 := hid hB2
   have Hb4 := hid hb4
   clear hw2 hg4 hB2 hb4
   go_wp2_with fail
   refine haw2.mono ?_
   rintro e w3 ⟨rfl, hB3⟩
   obtain ⟨k0, k1, k2, k3⟩ := (Hb4.out.later hB3).four
   have HB3 := hid (HB2.out.trans (hB3.mono HB2.out.size))
   have Hb5 := hid (Hb4.out.later hB3)
   clear haw2 hB3 HB2 Hb4
   have haw3 := haw w3
   go_wp2_with fail
   refine haw3.mono ?_
   rintro e w4 ⟨rfl, hB4⟩
   clear haw3
   go_wp2
   go_ret
   exact ⟨rfl, HB3.out.trans (hB4.mono HB3.out.size)⟩
  ·have h64b : decide (B > 64) = false := decide_eq_false h64
   go_enter Try.func11, Try.ntmps11
   go_upto_region 1 with (fail)
   generalize hw2 : World.alloc w _ = w2
   obtain ⟨g4, hg4⟩ : ∃ g, w.heap.size = g := ⟨_, rfl⟩
   have hB2 : Below w.heap.size w w2 := by rw [← hw2]; exact (Below.refl _ _).alloc (Nat.le_refl _) _
   have hb4 : Blk w2 g4 #[.int .i64 B, .int .i64 P, .int .i64 S, .slice A n c] 26 := by rw [← hw2, ← hg4]; exact Blk.new _ _ _
   rw [hg4]
   have haw2 := haw w2
   have HB2 := hid hB2
   have Hb4 := hid hb4
   clear hw2 hg4 hB2 hb4
   go_wp2_with fail
   refine haw2.mono ?_
   rintro e w3 ⟨rfl, hB3⟩
   obtain ⟨k0, k1, k2, k3⟩ := (Hb4.out.later hB3).four
   have HB3 := hid (HB2.out.trans (hB3.mono HB2.out.size))
   have Hb5 := hid (Hb4.out.later hB3)
   clear haw2 hB3 HB2 Hb4
   have hB3 := Below.refl w3.heap.size w3
   clear haw
   have hq := fread_nil addr w3
   go_wp2_with fail
   refine hq.mono ?_
   rintro e w4 ⟨rfl, hq4⟩
   have hB4 := hB3.trans (hq4.mono hB3.size)
   clear hq hq4
   have hq := fwrite_nil addr Ad dn dc w4
   go_wp2_with fail
   refine hq.mono ?_
   rintro e w5 ⟨rfl, hq5⟩
   have hB5 := hB4.trans (hq5.mono hB4.size)
   clear hq hq5 hB4
   have hq := ftrim_nil addr w5
   go_wp2_with fail
   refine hq.mono ?_
   rintro e w6 ⟨rfl, hq6⟩
   have hB6 := hB5.trans (hq6.mono hB5.size)
   clear hq hq6 hB5
   have hq := fepoch_nil  w6
   go_wp2_with fail
   refine hq.mono ?_
   rintro e w7 ⟨rfl, hq7⟩
   have hB7 := hB6.trans (hq7.mono hB6.size)
   clear hq hq7 hB6
   have hq := ffailed_nil  w7
   go_wp2_with fail
   refine hq.mono ?_
   rintro e w8 ⟨rfl, hq8⟩
   have hB8 := hB7.trans (hq8.mono hB7.size)
   clear hq hq8 hB7
   have hq := ffree_nil  w8
   go_wp2_with fail
   refine hq.mono ?_
   rintro e w9 ⟨rfl, hq9⟩
   have hB9 := hB8.trans (hq9.mono hB8.size)
   clear hq hq9 hB8
   have hq := flen_nil  w9
   go_wp2_with fail
   refine hq.mono ?_
   rintro e w10 ⟨rfl, hq10⟩
   have hB10 := hB9.trans (hq10.mono hB9.size)
   clear hq hq10 hB9
   have hgeo : Calls Try.prog 14 #[.int .u8 1] w10 fun e w' => ∃ A m c, e = .returned (.agg #[.int .i64 6, .int .i64 2, .int .i64 0, .slice A m c]) ∧ Geo w' 6 2 0 A m c [] ∧ Below w10.heap.size w10 w' ∧ ∀ ad, A = some ad → w10.heap.size ≤ ad.block ∧ ad.block < w'.heap.size := geometry_low 1 (by omega) w10
   go_wp2_with fail
   refine hgeo.mono ?_
   rintro e w11 ⟨A1, m1, c1, rfl, hg1, hB11, hA1⟩
   clear hgeo
   go_upto_region 8 with (fail)
   generalize hw12 : World.alloc w11 _ = w12
   obtain ⟨g5, hg5⟩ : ∃ g, w11.heap.size = g := ⟨_, rfl⟩
   have hB12 : Below w11.heap.size w11 w12 := by rw [← hw12]; exact (Below.refl _ _).alloc (Nat.le_refl _) _
   have hb5 : Blk w12 g5 #[.int .i64 6, .int .i64 2, .int .i64 0, .slice A1 m1 c1] 26 := by rw [← hw12, ← hg5]; exact Blk.new _ _ _
   rw [hg5]
   have hnew := Nand.new_any 6 2 A1 m1 c1 [] w12 (by omega) (by omega) (hg1.later hB12).nums (fun x hx => by cases hx)
   obtain ⟨y0, y1, y2, y3⟩ := hb5.four
   have hD12 : Below w3.heap.size w3 w12 := hB10.trans ((hB11.trans (hB12.mono hB11.size)).mono hB10.size)
   have Hg1 := hid (hg1.later hB12)
   have Hb12 := hid hb5
   have Hb4 := hid (Hb5.out.later hD12)
   have hg4 := Hb4.out.lt
   have HA1 := hid (fun ad had => Nat.lt_of_lt_of_le (hA1 ad had).2 hB12.size)
   clear hw12 hg5 hB12 hb5 hg1 hB11 hB10 Hb5 hA1
   go_wp2_with fail
   refine hnew.mono ?_
   rintro e w13 ⟨bA, rfl, hArr, hB14⟩
   have hmx := mount_x hArr A1 m1 c1 (Hg1.out.later hB14) (fun ad had => ⟨Nat.lt_of_lt_of_le (HA1.out ad had) hB14.size, fun x => by have := x.1; have := HA1.out ad had; omega⟩) ep ix hix hep
   have hb4 := Hb4.out.later hB14
   have hb5 := Hb12.out.later hB14
   obtain ⟨y0, y1, y2, y3⟩ := hb5.four
   have Hb4 := hid hb4
   have Hb5 := hid hb5
   have hg5 := hb5.lt
   have HD13 := hid (hD12.trans (hB14.mono hD12.size))
   clear hnew hArr hb4 hb5 Hg1 HA1
   go_wp2_with fail
   refine hmx.mono ?_
   rintro e w14 ⟨px, rfl, hf14, F14, hA14, hF14⟩
   clear hmx y0 y1 y2 y3
   have hnF4 : ¬ newF w12 w13 g4 := fun x => by have := x.1; omega
   have hnF5 : ¬ newF w12 w13 g5 := fun x => by have := x.1; have := Hb12.out.lt; omega
   have hb4 := blk_fr Hb4.out hf14 hnF4
   have hb5 := blk_fr Hb5.out hf14 hnF5
   have hD14 := HD13.out.trans (hf14.below (B := w3.heap.size) HD13.out.size (fun g hg => Nat.le_trans hD12.size hg.1))
   have hF14l : ∀ g, F14 g → w3.heap.size ≤ g := fun g hg => by
    rcases hF14 g hg with x | x
    ·exact Nat.le_trans hD12.size x.1
    ·exact Nat.le_trans HD13.out.size x
   have h414 : ¬ F14 g4 := fun x => by
    rcases hF14 g4 x with y | y
    ·exact hnF4 y
    ·have := Hb4.out.lt; omega
   have h514 : ¬ F14 g5 := fun x => by
    rcases hF14 g5 x with y | y
    ·exact hnF5 y
    ·have := Hb5.out.lt; omega
   have hD14w := HB3.out.trans (hD14.mono HB3.out.size)
   have hmy := mount_y hA14 B P S A n c bad (hz.below hD14w) hnc (fun ad had => by
    have h1 := hal ad had
    have h2 := HB3.out.size
    have h3 := hD14.size
    exact ⟨by omega, fun x => by have := hF14l _ x; omega⟩) iy hiy
   obtain ⟨z0, z1, z2, z3⟩ := hb4.four
   have Hb4 := hid hb4
   have Hb5 := hid hb5
   have HD14 := hid hD14
   clear hA14 hf14 hb4 hb5 hF14 hnF4 hnF5 HD13 hD12 hD14w hg4 hg5 Hb12 hB14
   go_wp2_with fail
   refine hmy.mono ?_
   rintro e w15 ⟨py, rfl, hf15⟩
   clear hmy z0 z1 z2 z3
   have hb4 := blk_fr Hb4.out hf15 h414
   have hb5 := blk_fr Hb5.out hf15 h514
   have hD15 := HD14.out.trans (hf15.below (B := w3.heap.size) HD14.out.size hF14l)
   have hmn := mount_nil 6 2 0 A1 m1 c1 1 w15 (by omega)
   obtain ⟨y0, y1, y2, y3⟩ := hb5.four
   have Hb4 := hid hb4
   have Hb5 := hid hb5
   have HD15 := hid hD15
   clear HD14 hb4 hb5 hD15 hf15 hF14l h414 h514 hD14
   go_wp2_with fail
   refine hmn.mono ?_
   rintro e w16 ⟨rfl, hB16⟩
   clear hmn y0 y1 y2 y3
   have hb4 := Hb4.out.later hB16
   have hb5 := Hb5.out.later hB16
   have hD16w := HB3.out.trans ((HD15.out.trans (hB16.mono HD15.out.size)).mono HB3.out.size)
   have hfm := Plan.rform_any B P S A n c bad w16 (hz.below hD16w)
   obtain ⟨z0, z1, z2, z3⟩ := hb4.four
   obtain ⟨y0, y1, y2, y3⟩ := hb5.four
   have HW := hid hD16w
   have Hb4 := hid hb4
   have Hb5 := hid hb5
   clear HD15 hb4 hb5 hB16 hD16w HB3 hz
   rcases hix with ⟨e1, e2, rfl⟩ | ⟨e1, rfl⟩ | ⟨e1, e2, rfl⟩
   ·have e3 : decide (ep ≥ 1) = true := decide_eq_true e1
    have e4 : decide (ep < 281474976710656) = true := decide_eq_true e2
    rcases hiy with ⟨f1, rfl, rfl, rfl⟩ | ⟨f1, rfl⟩ | ⟨f1, f2, rfl⟩ | ⟨f1, f4, f2, rfl⟩
    ·rw [f1] at hfm
     go_wp2_with fail
     refine hfm.mono ?_
     rintro e w17 ⟨rfl, hB17⟩
     clear hfm z0 z1 z2 z3 y0 y1 y2 y3
     obtain ⟨z0, z1, z2, z3⟩ := (Hb4.out.later hB17).four
     obtain ⟨y0, y1, y2, y3⟩ := (Hb5.out.later hB17).four
     go_wp2
     go_ret
     exact ⟨rfl, HW.out.trans (hB17.mono HW.out.size)⟩
    ·rw [f1] at hfm
     go_wp2_with fail
     refine hfm.mono ?_
     rintro e w17 ⟨rfl, hB17⟩
     clear hfm z0 z1 z2 z3 y0 y1 y2 y3
     obtain ⟨z0, z1, z2, z3⟩ := (Hb4.out.later hB17).four
     obtain ⟨y0, y1, y2, y3⟩ := (Hb5.out.later hB17).four
     go_wp2
     go_ret
     exact ⟨rfl, HW.out.trans (hB17.mono HW.out.size)⟩
    ·rw [f1] at hfm
     have f3 : (B == 6) = false := beq_false_of_ne f2
     go_wp2_with fail
     refine hfm.mono ?_
     rintro e w17 ⟨rfl, hB17⟩
     clear hfm z0 z1 z2 z3 y0 y1 y2 y3
     obtain ⟨z0, z1, z2, z3⟩ := (Hb4.out.later hB17).four
     obtain ⟨y0, y1, y2, y3⟩ := (Hb5.out.later hB17).four
     go_wp2
     go_ret
     exact ⟨rfl, HW.out.trans (hB17.mono HW.out.size)⟩
    ·subst f4
     rw [f1] at hfm
     have f3 : (P == 2) = false := beq_false_of_ne f2
     go_wp2_with fail
     refine hfm.mono ?_
     rintro e w17 ⟨rfl, hB17⟩
     clear hfm z0 z1 z2 z3 y0 y1 y2 y3
     obtain ⟨z0, z1, z2, z3⟩ := (Hb4.out.later hB17).four
     obtain ⟨y0, y1, y2, y3⟩ := (Hb5.out.later hB17).four
     go_wp2
     go_ret
     exact ⟨rfl, HW.out.trans (hB17.mono HW.out.size)⟩
   ·have e3 : decide (ep ≥ 1) = false := decide_eq_false (by omega)
    rcases hiy with ⟨f1, rfl, rfl, rfl⟩ | ⟨f1, rfl⟩ | ⟨f1, f2, rfl⟩ | ⟨f1, f4, f2, rfl⟩
    ·rw [f1] at hfm
     go_wp2_with fail
     refine hfm.mono ?_
     rintro e w17 ⟨rfl, hB17⟩
     clear hfm z0 z1 z2 z3 y0 y1 y2 y3
     obtain ⟨z0, z1, z2, z3⟩ := (Hb4.out.later hB17).four
     obtain ⟨y0, y1, y2, y3⟩ := (Hb5.out.later hB17).four
     go_wp2
     go_ret
     exact ⟨rfl, HW.out.trans (hB17.mono HW.out.size)⟩
    ·rw [f1] at hfm
     go_wp2_with fail
     refine hfm.mono ?_
     rintro e w17 ⟨rfl, hB17⟩
     clear hfm z0 z1 z2 z3 y0 y1 y2 y3
     obtain ⟨z0, z1, z2, z3⟩ := (Hb4.out.later hB17).four
     obtain ⟨y0, y1, y2, y3⟩ := (Hb5.out.later hB17).four
     go_wp2
     go_ret
     exact ⟨rfl, HW.out.trans (hB17.mono HW.out.size)⟩
    ·rw [f1] at hfm
     have f3 : (B == 6) = false := beq_false_of_ne f2
     go_wp2_with fail
     refine hfm.mono ?_
     rintro e w17 ⟨rfl, hB17⟩
     clear hfm z0 z1 z2 z3 y0 y1 y2 y3
     obtain ⟨z0, z1, z2, z3⟩ := (Hb4.out.later hB17).four
     obtain ⟨y0, y1, y2, y3⟩ := (Hb5.out.later hB17).four
     go_wp2
     go_ret
     exact ⟨rfl, HW.out.trans (hB17.mono HW.out.size)⟩
    ·subst f4
     rw [f1] at hfm
     have f3 : (P == 2) = false := beq_false_of_ne f2
     go_wp2_with fail
     refine hfm.mono ?_
     rintro e w17 ⟨rfl, hB17⟩
     clear hfm z0 z1 z2 z3 y0 y1 y2 y3
     obtain ⟨z0, z1, z2, z3⟩ := (Hb4.out.later hB17).four
     obtain ⟨y0, y1, y2, y3⟩ := (Hb5.out.later hB17).four
     go_wp2
     go_ret
     exact ⟨rfl, HW.out.trans (hB17.mono HW.out.size)⟩
   ·have e3 : decide (ep ≥ 1) = true := decide_eq_true e1
    have e4 : decide (ep < 281474976710656) = false := decide_eq_false (by omega)
    rcases hiy with ⟨f1, rfl, rfl, rfl⟩ | ⟨f1, rfl⟩ | ⟨f1, f2, rfl⟩ | ⟨f1, f4, f2, rfl⟩
    ·rw [f1] at hfm
     go_wp2_with fail
     refine hfm.mono ?_
     rintro e w17 ⟨rfl, hB17⟩
     clear hfm z0 z1 z2 z3 y0 y1 y2 y3
     obtain ⟨z0, z1, z2, z3⟩ := (Hb4.out.later hB17).four
     obtain ⟨y0, y1, y2, y3⟩ := (Hb5.out.later hB17).four
     go_wp2
     go_ret
     exact ⟨rfl, HW.out.trans (hB17.mono HW.out.size)⟩
    ·rw [f1] at hfm
     go_wp2_with fail
     refine hfm.mono ?_
     rintro e w17 ⟨rfl, hB17⟩
     clear hfm z0 z1 z2 z3 y0 y1 y2 y3
     obtain ⟨z0, z1, z2, z3⟩ := (Hb4.out.later hB17).four
     obtain ⟨y0, y1, y2, y3⟩ := (Hb5.out.later hB17).four
     go_wp2
     go_ret
     exact ⟨rfl, HW.out.trans (hB17.mono HW.out.size)⟩
    ·rw [f1] at hfm
     have f3 : (B == 6) = false := beq_false_of_ne f2
     go_wp2_with fail
     refine hfm.mono ?_
     rintro e w17 ⟨rfl, hB17⟩
     clear hfm z0 z1 z2 z3 y0 y1 y2 y3
     obtain ⟨z0, z1, z2, z3⟩ := (Hb4.out.later hB17).four
     obtain ⟨y0, y1, y2, y3⟩ := (Hb5.out.later hB17).four
     go_wp2
     go_ret
     exact ⟨rfl, HW.out.trans (hB17.mono HW.out.size)⟩
    ·subst f4
     rw [f1] at hfm
     have f3 : (P == 2) = false := beq_false_of_ne f2
     go_wp2_with fail
     refine hfm.mono ?_
     rintro e w17 ⟨rfl, hB17⟩
     clear hfm z0 z1 z2 z3 y0 y1 y2 y3
     obtain ⟨z0, z1, z2, z3⟩ := (Hb4.out.later hB17).four
     obtain ⟨y0, y1, y2, y3⟩ := (Hb5.out.later hB17).four
     go_wp2
     go_ret
     exact ⟨rfl, HW.out.trans (hB17.mono HW.out.size)⟩
theorem errs_row (B P S : Int) (A : Option Addr) (n c : Nat) (bad : List Int) (ep : Int) (hep : 0 ≤ ep ∧ ep ≤ 18446744073709551615) (addr : Int) (_ : -9223372036854775808 ≤ addr ∧ addr ≤ 9223372036854775807) (Ad : Option Addr) (dn dc : Nat) (zs : List Int) (w : World) (hz : Nums w .i64 A n bad) (hnc : n ≤ c) (hal : ∀ ad, A = some ad → ad.block < w.heap.size) (_ : Nums w .u8 Ad dn zs) :
  Calls Try.prog 11 #[.agg #[.int .i64 B, .int .i64 P, .int .i64 S, .slice A n c], .int .u64 ep, .int .i64 addr, .slice Ad dn dc] w fun e w' => e = .returned (.bool true) ∧ Below w.heap.size w w' := law_errs B P S A n c bad ep addr Ad dn dc w hz hnc hal hep.1
end Go.Proofs.Ytpcbpljdiacbmaa.Ftl
