import Derived.Test.YtpcbpljdiacbmaaJScanAllS
import Derived.Deep.RegionHeld3
set_option linter.unusedVariables false
set_option linter.unusedSimpArgs false
namespace Go.Proofs.Ytpcbpljdiacbmaa.Scan
open Go.RowKit Go.Proofs.Ytpcbpljdiacbmaa.Kit Go.Proofs.Ytpcbpljdiacbmaa.Oct Go.Proofs.Ytpcbpljdiacbmaa.Sheet Go.Proofs.Ytpcbpljdiacbmaa.Nand Go.Proofs.Ytpcbpljdiacbmaa.Plan Go.Proofs.Ytpcbpljdiacbmaa.Log Go.Proofs.Ytpcbpljdiacbmaa.Pmap Go.Maps

/-- What All hands back. -/
structure AllR (W : World) (base bm ga gh gc gp np M nb : Nat) (FL : List (Int × Fd)) (spv : Value) (sp : List Int) (at' : List (Int × Int)) (has : List Bool) (cnt : List Int) : Prop where
 pm : PM W bm ga gh gc M nb at' has cnt
 pi : PI M nb at' has cnt
 pages : Mx W gp np (pgsF FL) (keysN FL M)
 there : ∀ y ∈ FL, y.2.there W
 tells : ∀ a, a < M → has.getD a false = (newest (a : Int) FL).isSome ∧ ∀ y, newest (a : Int) FL = some y → at'.getD a (0, 0) = (y.1, (y.2.k : Int))
 spo : W.ownsRow base 3 1 spv sp.length (sp.map (Value.int .i64))
 low : base ≤ bm ∧ base ≤ ga ∧ base ≤ gh ∧ base ≤ gc ∧ base ≤ gp

theorem zeroFd (w : World) : (zeroValue 89).run Try.prog w = .ok (.agg #[.int .i64 0, .int .i64 0, .int .u8 0, .int .u64 0, .int .u64 0, .int .i64 0, .int .i64 0, .slice none 0 0]) w := by kernel_rfl
theorem keysN_nil (M : Nat) : keysN [] M = 0 := by
 unfold keysN
 induction M with
 | zero => rfl
 | succ m ih => rw [cnum_succ, ih]; rfl
theorem mem_found {lim : Int} {qs : List (List Int)} {k : Nat} {p : Pg} (h : (k, p) ∈ found lim qs) : k < qs.length ∧ (p.a : Int) ≤ lim := by
 unfold found at h
 obtain ⟨j, hj, hm⟩ := List.mem_flatMap.1 h
 have hj : j < qs.length := List.mem_range.1 hj
 unfold found1 at hm
 split at hm
 ·split at hm
  ·rename_i hof
   have e := List.mem_singleton.1 hm
   injection e with e1 e2
   subst e1; subst e2
   unfold Pg.of at hof
   exact ⟨hj, (of_decide_eq_true hof).2⟩
  ·cases hm
 ·cases hm
theorem rd_found {lim : Int} {qs : List (List Int)} {k : Nat} {p : Pg} (h : (k, p) ∈ found lim qs) : rdP (qs.getD k []) = some p := by
 unfold found at h
 obtain ⟨j, hj, hm⟩ := List.mem_flatMap.1 h
 unfold found1 at hm
 split at hm
 ·rename_i p' hp'
  split at hm
  ·have e := List.mem_singleton.1 hm
   injection e with e1 e2
   subst e1; subst e2
   exact hp'
  ·cases hm
 ·cases hm
theorem ranges_fr {H : Type} {P : Program} {k : TypeId} {R : Value → Option (DataW H × List MemPlace)} {w w' : World} {b r n cnt : Nat} {D : DataW H} {left : Lit → Bool} {S : Nat → Prop} (h : w.ranges P k R b r n D left cnt) (hf : Nand.Fr S w w') (hb : ¬ S b) (hr : ¬ S r) : w'.ranges P k R b r n D left cnt := by
 obtain ⟨es, clock, since, seen, c0, h1, h2, h3, h4, h5, h6⟩ := h
 exact ⟨es, clock, since, seen, c0, (hf.block b (heap_lt h1) hb).trans h1, h2, h3, h4, (hf.block r (heap_lt h5) hr).trans h5, h6⟩
theorem keyInt (key : Value) (kl : Lit) (h : keyOf Try.prog 3 key = some kl) : ∃ x, key = Value.int .i64 x := by
 obtain ⟨x, rfl, _⟩ := Maps.keyOf_int_inv Try.underlying3 h
 exact ⟨x, rfl⟩
/-- The map of places tells the pages that have been told. -/
def Agree (FL : List (Int × Fd)) (left : Lit → Bool) (M : Nat) (at' : List (Int × Int)) (has : List Bool) : Prop :=
 ∀ a, a < M → has.getD a false = ((newest (a : Int) FL).isSome && !left (.int .i64 (a : Int))) ∧ (has.getD a false = true → ∀ y, newest (a : Int) FL = some y → at'.getD a (0, 0) = (y.1, (y.2.k : Int)))
theorem sameKey_nat (k j : Nat) : (Lit.int .i64 (k : Int)).sameKey (.int .i64 (j : Int)) = (k == j) := by
 by_cases e : k = j
 ·subst e
  rw [WideAt.sameKey_self (show WideAt.IsKeyLit (Lit.int .i64 (k : Int)) from trivial)]
  simp
 ·rw [sameKey_ne (by intro h; injection h with _ h; omega)]
  simp [e]
/-- An address that has no page is set. -/
theorem set_new (bm ga gh gc M nb : Nat) (at' : List (Int × Int)) (has : List Bool) (cnt : List Int) (w : World) (hp : PM w bm ga gh gc M nb at' has cnt) (hi : PI M nb at' has cnt) (a B P : Nat) (ha : a < M) (hB : B < nb) (hP : P < 32) (hM : M ≤ 65536) (hnew : has.getD a false = false)
  (hno : ∀ c, c ≠ a → has.getD c false = true → at'.getD c (0, 0) ≠ ((B : Int), (P : Int))) :
  Calls Try.prog 60 #[.pointer (some ⟨bm, 0, none⟩), .int .i64 (a : Int), .agg #[.int .i64 (B : Int), .int .i64 (P : Int)]] w fun e w' => e = .returned (.int .i64 0) ∧ ∃ cnt', PM w' bm ga gh gc M nb (at'.set a ((B : Int), (P : Int))) (has.set a true) cnt' ∧ PI M nb (at'.set a ((B : Int), (P : Int))) (has.set a true) cnt' ∧ Pmap.Fr w w' ga gh gc := by
 have hd : dcnt at' has cnt a = cnt := if_neg (by rw [hnew]; simp)
 have ho := hi.on B hB
 have hl := cnum_le (onP at' has B) M
 refine (set_in bm ga gh gc M nb at' has cnt a B P w hp ha hB hP (fun h => by rw [hnew] at h; cases h) (by rw [hd]; omega) hp.ats.lt hp.hass.lt hp.cnts.lt).mono ?_
 rintro e w' ⟨he, hpm, hf⟩
 exact ⟨he, _, hpm, hi.set a B P ha hB hP hno, hf⟩
theorem row_slice {w : World} {base n size : Nat} {e : TypeId} {v : Value} {xs : List Value} (h : w.ownsRow base e size v n xs) : ∃ A c, v = .slice A n c := by
 rcases h.2 with ⟨rfl, h0⟩ | ⟨g, cap, cur, rfl, _⟩
 ·exact ⟨none, 0, by rw [h0]⟩
 ·exact ⟨_, _, rfl⟩

set_option maxRecDepth 100000 in
set_option maxHeartbeats 16000000 in
theorem all_any {w : World} {F : Nat → Prop} {b : Nat} {N : NA} (h : Arr w F b N) (nb np : Nat) (hnb : N.bs.length = nb) (hnp : N.pages = np) (hon : N.off = false) (hby : ∀ (j : Nat) (q : List Int), q ∈ (N.blk j).pages → IsB q) (S : Int) (A : Option Addr) (n c : Nat) (bad : List Int) (hg : Geo w nb np S A n c bad) (M0 : Nat) (hM0 : cap nb np S bad = (M0 : Int)) :
  Calls Try.prog 37 #[.pointer (some ⟨b, 0, none⟩), .agg #[.int .i64 (nb : Int), .int .i64 (np : Int), .int .i64 S, .slice A n c]] w fun e w' => ∃ (L : Int → List Fd) (bm ga gh gc gp n' : Nat) (spv : Value) (at' : List (Int × Int)) (has : List Bool) (cnt : List Int),
   e = .returned (.tuple #[.agg #[.pointer (some ⟨bm, 0, none⟩), .map (some gp), .int .u64 (seqOf (flatF (us nb bad) L) : Int), spv], .int .i64 0]) ∧
   ((∀ i : Int, i ∉ us nb bad → L i = []) ∧ ∀ i : Nat, (i : Int) ∈ us nb bad → (L (i : Int)).map (fun x => (x.k, x.p)) = found (M0 : Int) (NB.seen (N.blk i))) ∧
   AllR w' w.heap.size bm ga gh gc gp n' (M0 + 1) nb (flatF (us nb bad) (spoilS (us nb bad) L).1) spv (spoilS (us nb bad) L).2 at' has cnt ∧ Below w.heap.size w w' := by
 have hbd := hg.bd
 have hcb := cap_bd (bad := bad) hbd.2.1 hbd.2.2.2.1 hbd.2.2.2.2.1
 have hM1 : M0 ≤ 2048 := by omega
 have hbl : ∀ W, Below w.heap.size w W → Calls Try.prog 54 #[.pointer (some ⟨b, 0, none⟩)] W fun e w' => e = .returned (.int .i64 (nb : Int)) ∧ w' = W := fun W hW => by
  have := blocks_any F b N W (h.later hW)
  rw [hnb] at this
  exact this
 have hpg : ∀ W, Below w.heap.size w W → Calls Try.prog 55 #[.pointer (some ⟨b, 0, none⟩)] W fun e w' => e = .returned (.int .i64 (np : Int)) ∧ w' = W := fun W hW => by
  have := pages_any F b N W (h.later hW)
  rw [hnp] at this
  exact this
 have hmt : ∀ W, Below w.heap.size w W → Calls Try.prog 57 #[.agg #[.int .i64 (nb : Int), .int .i64 (np : Int), .int .i64 S, .slice A n c]] W fun e w' => e = .returned (.int .i64 (M0 : Int)) ∧ Below W.heap.size W w' := fun W hW => by
  have := geo_meta (hg.later hW)
  rw [hM0] at this
  exact this
 have HNw : ∀ W, Calls Try.prog 56 #[.int .i64 ((M0 : Int) + 1), .int .i64 (nb : Int)] W fun e w' => ∃ b ga gh gc, e = .returned (.tuple #[.pointer (some ⟨b, 0, none⟩), .int .i64 0]) ∧ NewM W w' (M0 + 1) nb b ga gh gc := fun W => Pmap.new_any (M0 + 1) nb W (by omega) (by omega) (by omega) (by omega)
 have HBk := hid (fun (W : World) (hW : Below w.heap.size w W) (i : Nat) (hi : (i : Int) ∈ us nb bad) => block_yes (h.later hW) nb np hnb hnp hon hby S A n c bad (hg.later hW) i (decide_eq_true hi) (by have := us_bd hi; omega))
 rw [hM0] at HBk
 have HUs := hid (fun (W : World) (hW : Below w.heap.size w W) => geo_usable (hg.later hW))
 have HPI := hid (PI.start (M0 + 1) nb)
 have Hwf := hid h.wf
 have hmm := @run_makeMap Try.prog
 clear hby
 go_enter Try.func37, Try.ntmps37
 go_upto_region 1 with (fail)
 obtain ⟨g3, hg3⟩ : ∃ g, w.heap.size = g := ⟨_, rfl⟩
 generalize hw2 : World.alloc (World.alloc w _) _ = w2
 have hb3 : Blk w2 g3 #[.int .i64 (nb : Int), .int .i64 (np : Int), .int .i64 S, .slice A n c] 26 := by rw [← hw2, ← hg3]; exact (Blk.new w _ _).alloc _
 have hb4 : Blk w2 (g3 + 1) zState 74 := by
  rw [← hw2, ← hg3]
  have := Blk.new (w.alloc (.cells #[.int .i64 (nb : Int), .int .i64 (np : Int), .int .i64 S, .slice A n c] 26)) zState 74
  simpa [zState] using this
 have hB2 : Below w.heap.size w w2 := by rw [← hw2]; exact ((Below.refl _ _).alloc (Nat.le_refl _) _).alloc (by simp) _
 rw [hg3]
 have HBl := hid (fun W (hW : Below w2.heap.size w2 W) => hbl W (hB2.trans (hW.mono hB2.size)))
 have HPg := hid (fun W (hW : Below w2.heap.size w2 W) => hpg W (hB2.trans (hW.mono hB2.size)))
 have HM := hid (fun W (hW : Below w2.heap.size w2 W) => hmt W (hB2.trans (hW.mono hB2.size)))
 have HG := hid (fun W (hW : Below w2.heap.size w2 W) => hg.later (hB2.trans (hW.mono hB2.size)))
 have HC := hid (fun W (hW : Below w2.heap.size w2 W) => (hb3.later hW).four)
 have Hb3 := hid hb3
 have Hb4 := hid hb4
 have HB2 := hid hB2
 have hBd : Below w2.heap.size w2 w2.drew := below_drewN (Below.refl _ _) 1
 have Hg3 := hid hg3
 clear hw2 hbl hpg hmt hg hg3 hb3 hb4 hB2 h hM0 hcb
 go_upto_region 3 with (fail)
 refine wp_region_held_drew (S := (fun w' => w'.cell? ⟨g3, 0, none⟩ = some (.int .i64 (nb : Int)) ∧ w'.cell? ⟨g3, 1, none⟩ = some (.int .i64 (np : Int)) ∧ w'.cell? ⟨g3, 2, none⟩ = some (.int .i64 S) ∧ w'.cell? ⟨g3, 3, none⟩ = some (.slice A n c))) (by kernel_rfl) ?hSnewAz (fun hHeld => ?restAz)
 case hSnewAz => ((try dsimp only); exact HC.out _ hBd)
 refine wpAnyH_take (i := 0) (oi := ?oiAx0) (v := ?vAx0) ?hoAx0 ?h1Ax0 ?h2Ax0 ?h3Ax0 ?hqAx0 (Or.inl ⟨?h4Ax0, ?hyAx0⟩) (by assumption) ?restAx0
 case hoAx0 => (simp only [qa, qb, qc]; rfl)
 case h1Ax0 => kernel_rfl
 case h2Ax0 => kernel_rfl
 case h3Ax0 => kernel_rfl
 case h4Ax0 => rfl
 case hqAx0 => exact fun _ _ _ h => h
 case hyAx0 => (intro w hSw; (try dsimp only at hSw); go_simp <;> with_reducible rfl)
 (try simp only [Act.put, qd, qe, qf])
 refine wpAnyH_ready (rs := [1]) (by kernel_rfl) (by simp) ?_
 refine AllReadyH.cons (o := ?oiAx1) ?hoAx1 (fun K hK => ?restAx1) ?moreAx1
 case moreAx1 => exact AllReadyH.nil
 case hoAx1 => (simp only [qa, qb, qc]; rfl)
 go_simp
 refine (geo_form (HG.out _ hBd)).mono ?_
 rintro e w5 ⟨rfl, hB5'⟩
 have hB5 := hBd.trans (hB5'.mono hBd.size)
 try go_wp2_with fail
 refine hK.out _ _ ?hSnewAy1 (fun hHeld => ?restAy1)
 case hSnewAy1 => ((try dsimp only); exact HC.out _ hB5)
 clear hK K
 (try simp only [Act.put, qd, qe, qf])
 refine wpAnyH_take (i := 2) (oi := ?oiAx2) (v := ?vAx2) ?hoAx2 ?h1Ax2 ?h2Ax2 ?h3Ax2 ?hqAx2 (Or.inl ⟨?h4Ax2, ?hyAx2⟩) (by assumption) ?restAx2
 case hoAx2 => (simp only [qa, qb, qc]; rfl)
 case h1Ax2 => kernel_rfl
 case h2Ax2 => kernel_rfl
 case h3Ax2 => kernel_rfl
 case h4Ax2 => rfl
 case hqAx2 => exact fun _ _ _ h => h
 case hyAx2 => (intro w hSw; (try dsimp only at hSw); go_simp <;> with_reducible rfl)
 (try simp only [Act.put, qd, qe, qf])
 refine wpAnyH_take (i := 3) (oi := ?oiAx3) (v := ?vAx3) ?hoAx3 ?h1Ax3 ?h2Ax3 ?h3Ax3 ?hqAx3 (Or.inl ⟨?h4Ax3, ?hyAx3⟩) (by assumption) ?restAx3
 case hoAx3 => (simp only [qa, qb, qc]; rfl)
 case h1Ax3 => kernel_rfl
 case h2Ax3 => kernel_rfl
 case h3Ax3 => kernel_rfl
 case h4Ax3 => rfl
 case hqAx3 => exact fun _ _ _ h => h
 case hyAx3 => (intro w hSw; (try dsimp only at hSw); go_simp <;> with_reducible rfl)
 (try simp only [Act.put, qd, qe, qf])
 refine wpAnyH_take (i := 4) (oi := ?oiAx4) (v := ?vAx4) ?hoAx4 ?h1Ax4 ?h2Ax4 ?h3Ax4 ?hqAx4 (Or.inl ⟨?h4Ax4, ?hyAx4⟩) (by assumption) ?restAx4
 case hoAx4 => (simp only [qa, qb, qc]; rfl)
 case h1Ax4 => kernel_rfl
 case h2Ax4 => kernel_rfl
 case h3Ax4 => kernel_rfl
 case h4Ax4 => rfl
 case hqAx4 => exact fun _ _ _ h => h
 case hyAx4 => (intro w hSw; (try dsimp only at hSw); go_simp <;> with_reducible rfl)
 (try simp only [Act.put, qd, qe, qf])
 refine wpAnyH_take (i := 6) (oi := ?oiAx6) (v := ?vAx6) ?hoAx6 ?h1Ax6 ?h2Ax6 ?h3Ax6 ?hqAx6 (Or.inl ⟨?h4Ax6, ?hyAx6⟩) (by assumption) ?restAx6
 case hoAx6 => (simp only [qa, qb, qc]; rfl)
 case h1Ax6 => kernel_rfl
 case h2Ax6 => kernel_rfl
 case h3Ax6 => kernel_rfl
 case h4Ax6 => rfl
 case hqAx6 => exact fun _ _ _ h => h
 case hyAx6 => (intro w hSw; (try dsimp only at hSw); go_simp <;> with_reducible rfl)
 (try simp only [Act.put, qd, qe, qf])
 refine wpAnyH_take (i := 7) (oi := ?oiAx7) (v := ?vAx7) ?hoAx7 ?h1Ax7 ?h2Ax7 ?h3Ax7 ?hqAx7 (Or.inl ⟨?h4Ax7, ?hyAx7⟩) (by assumption) ?restAx7
 case hoAx7 => (simp only [qa, qb, qc]; rfl)
 case h1Ax7 => kernel_rfl
 case h2Ax7 => kernel_rfl
 case h3Ax7 => kernel_rfl
 case h4Ax7 => rfl
 case hqAx7 => exact fun _ _ _ h => h
 case hyAx7 => (intro w hSw; (try dsimp only at hSw); go_simp <;> with_reducible rfl)
 (try simp only [Act.put, qd, qe, qf])
 refine wpAnyH_ready (rs := [5]) (by kernel_rfl) (by simp) ?_
 refine AllReadyH.cons (o := ?oiAx5) ?hoAx5 (fun K hK => ?restAx5) ?moreAx5
 case moreAx5 => exact AllReadyH.nil
 case hoAx5 => (simp only [qa, qb, qc]; rfl)
 go_simp
 refine (HBl.out _ hB5).mono ?_
 rintro e w6 ⟨rfl, rfl⟩
 try go_wp2_with fail
 refine hK.out _ _ ?hSnewAy5 (fun hHeld => ?restAy5)
 case hSnewAy5 => ((try dsimp only); exact HC.out _ hB5)
 clear hK K
 (try simp only [Act.put, qd, qe, qf])
 refine wpAnyH_take (i := 8) (oi := ?oiAx8) (v := ?vAx8) ?hoAx8 ?h1Ax8 ?h2Ax8 ?h3Ax8 ?hqAx8 (Or.inl ⟨?h4Ax8, ?hyAx8⟩) (by assumption) ?restAx8
 case hoAx8 => (simp only [qa, qb, qc]; rfl)
 case h1Ax8 => kernel_rfl
 case h2Ax8 => kernel_rfl
 case h3Ax8 => kernel_rfl
 case h4Ax8 => rfl
 case hqAx8 => exact fun _ _ _ h => h
 case hyAx8 => (intro w hSw; (try dsimp only at hSw); go_simp <;> with_reducible rfl)
 (try simp only [Act.put, qd, qe, qf])
 refine wpAnyH_take (i := 9) (oi := ?oiAx9) (v := ?vAx9) ?hoAx9 ?h1Ax9 ?h2Ax9 ?h3Ax9 ?hqAx9 (Or.inl ⟨?h4Ax9, ?hyAx9⟩) (by assumption) ?restAx9
 case hoAx9 => (simp only [qa, qb, qc]; rfl)
 case h1Ax9 => kernel_rfl
 case h2Ax9 => kernel_rfl
 case h3Ax9 => kernel_rfl
 case h4Ax9 => rfl
 case hqAx9 => exact fun _ _ _ h => h
 case hyAx9 => (intro w hSw; (try dsimp only at hSw); go_simp <;> with_reducible rfl)
 (try simp only [Act.put, qd, qe, qf])
 refine wpAnyH_take (i := 10) (oi := ?oiAx10) (v := ?vAx10) ?hoAx10 ?h1Ax10 ?h2Ax10 ?h3Ax10 ?hqAx10 (Or.inl ⟨?h4Ax10, ?hyAx10⟩) (by assumption) ?restAx10
 case hoAx10 => (simp only [qa, qb, qc]; rfl)
 case h1Ax10 => kernel_rfl
 case h2Ax10 => kernel_rfl
 case h3Ax10 => kernel_rfl
 case h4Ax10 => rfl
 case hqAx10 => exact fun _ _ _ h => h
 case hyAx10 => (intro w hSw; (try dsimp only at hSw); go_simp <;> with_reducible rfl)
 (try simp only [Act.put, qd, qe, qf])
 refine wpAnyH_take (i := 11) (oi := ?oiAx11) (v := ?vAx11) ?hoAx11 ?h1Ax11 ?h2Ax11 ?h3Ax11 ?hqAx11 (Or.inl ⟨?h4Ax11, ?hyAx11⟩) (by assumption) ?restAx11
 case hoAx11 => (simp only [qa, qb, qc]; rfl)
 case h1Ax11 => kernel_rfl
 case h2Ax11 => kernel_rfl
 case h3Ax11 => kernel_rfl
 case h4Ax11 => rfl
 case hqAx11 => exact fun _ _ _ h => h
 case hyAx11 => (intro w hSw; (try dsimp only at hSw); go_simp <;> with_reducible rfl)
 (try simp only [Act.put, qd, qe, qf])
 refine wpAnyH_take (i := 13) (oi := ?oiAx13) (v := ?vAx13) ?hoAx13 ?h1Ax13 ?h2Ax13 ?h3Ax13 ?hqAx13 (Or.inl ⟨?h4Ax13, ?hyAx13⟩) (by assumption) ?restAx13
 case hoAx13 => (simp only [qa, qb, qc]; rfl)
 case h1Ax13 => kernel_rfl
 case h2Ax13 => kernel_rfl
 case h3Ax13 => kernel_rfl
 case h4Ax13 => rfl
 case hqAx13 => exact fun _ _ _ h => h
 case hyAx13 => (intro w hSw; (try dsimp only at hSw); go_simp <;> with_reducible rfl)
 (try simp only [Act.put, qd, qe, qf])
 refine wpAnyH_take (i := 14) (oi := ?oiAx14) (v := ?vAx14) ?hoAx14 ?h1Ax14 ?h2Ax14 ?h3Ax14 ?hqAx14 (Or.inl ⟨?h4Ax14, ?hyAx14⟩) (by assumption) ?restAx14
 case hoAx14 => (simp only [qa, qb, qc]; rfl)
 case h1Ax14 => kernel_rfl
 case h2Ax14 => kernel_rfl
 case h3Ax14 => kernel_rfl
 case h4Ax14 => rfl
 case hqAx14 => exact fun _ _ _ h => h
 case hyAx14 => (intro w hSw; (try dsimp only at hSw); go_simp <;> with_reducible rfl)
 (try simp only [Act.put, qd, qe, qf])
 refine wpAnyH_ready (rs := [12]) (by kernel_rfl) (by simp) ?_
 refine AllReadyH.cons (o := ?oiAx12) ?hoAx12 (fun K hK => ?restAx12) ?moreAx12
 case moreAx12 => exact AllReadyH.nil
 case hoAx12 => (simp only [qa, qb, qc]; rfl)
 go_simp
 refine (HPg.out _ hB5).mono ?_
 rintro e w7 ⟨rfl, rfl⟩
 try go_wp2_with fail
 refine hK.out _ _ ?hSnewAy12 (fun hHeld => ?restAy12)
 case hSnewAy12 => ((try dsimp only); exact HC.out _ hB5)
 clear hK K
 (try simp only [Act.put, qd, qe, qf])
 refine wpAnyH_take (i := 15) (oi := ?oiAx15) (v := ?vAx15) ?hoAx15 ?h1Ax15 ?h2Ax15 ?h3Ax15 ?hqAx15 (Or.inl ⟨?h4Ax15, ?hyAx15⟩) (by assumption) ?restAx15
 case hoAx15 => (simp only [qa, qb, qc]; rfl)
 case h1Ax15 => kernel_rfl
 case h2Ax15 => kernel_rfl
 case h3Ax15 => kernel_rfl
 case h4Ax15 => rfl
 case hqAx15 => exact fun _ _ _ h => h
 case hyAx15 => (intro w hSw; (try dsimp only at hSw); go_simp <;> with_reducible rfl)
 (try simp only [Act.put, qd, qe, qf])
 refine wpAnyH_take (i := 16) (oi := ?oiAx16) (v := ?vAx16) ?hoAx16 ?h1Ax16 ?h2Ax16 ?h3Ax16 ?hqAx16 (Or.inl ⟨?h4Ax16, ?hyAx16⟩) (by assumption) ?restAx16
 case hoAx16 => (simp only [qa, qb, qc]; rfl)
 case h1Ax16 => kernel_rfl
 case h2Ax16 => kernel_rfl
 case h3Ax16 => kernel_rfl
 case h4Ax16 => rfl
 case hqAx16 => exact fun _ _ _ h => h
 case hyAx16 => (intro w hSw; (try dsimp only at hSw); go_simp <;> with_reducible rfl)
 (try simp only [Act.put, qd, qe, qf])
 refine wpAnyH_done (by kernel_rfl) ?_ _
 have HB5 := hid hB5
 clear HBl HPg HG hBd hB5' hB5
 clear hHeld
 clear hHeld
 clear hHeld
 clear hHeld
 go_upto_region 5 with (fail)
 have hBd5 : Below w2.heap.size w2 w7.drew := below_drewN HB5.out 1
 have wM : IntKind.i64.wrap ((M0 : Int) + 1) = (M0 : Int) + 1 := IntWalk.i64_in _ (by omega)
 refine wp_region_held_drew (S := (fun w' => w'.cell? ⟨g3, 0, none⟩ = some (.int .i64 (nb : Int)) ∧ w'.cell? ⟨g3, 1, none⟩ = some (.int .i64 (np : Int)) ∧ w'.cell? ⟨g3, 2, none⟩ = some (.int .i64 S) ∧ w'.cell? ⟨g3, 3, none⟩ = some (.slice A n c))) (by kernel_rfl) ?hSnewBz (fun hHeld => ?restBz)
 case hSnewBz => ((try dsimp only); exact HC.out _ hBd5)
 refine wpAnyH_take (i := 0) (oi := ?oiBx0) (v := ?vBx0) ?hoBx0 ?h1Bx0 ?h2Bx0 ?h3Bx0 ?hqBx0 (Or.inl ⟨?h4Bx0, ?hyBx0⟩) (by assumption) ?restBx0
 case hoBx0 => (simp only [qa, qb, qc]; rfl)
 case h1Bx0 => kernel_rfl
 case h2Bx0 => kernel_rfl
 case h3Bx0 => kernel_rfl
 case h4Bx0 => rfl
 case hqBx0 => exact fun _ _ _ h => h
 case hyBx0 => (intro w hSw; (try dsimp only at hSw); go_simp <;> with_reducible rfl)
 (try simp only [Act.put, qd, qe, qf])
 refine wpAnyH_take (i := 3) (oi := ?oiBx3) (v := ?vBx3) ?hoBx3 ?h1Bx3 ?h2Bx3 ?h3Bx3 ?hqBx3 (Or.inl ⟨?h4Bx3, ?hyBx3⟩) (by assumption) ?restBx3
 case hoBx3 => (simp only [qa, qb, qc]; rfl)
 case h1Bx3 => kernel_rfl
 case h2Bx3 => kernel_rfl
 case h3Bx3 => kernel_rfl
 case h4Bx3 => rfl
 case hqBx3 => exact fun _ _ _ h => h
 case hyBx3 => (intro w hSw; (try dsimp only at hSw); go_simp <;> with_reducible rfl)
 (try simp only [Act.put, qd, qe, qf])
 refine wpAnyH_take (i := 4) (oi := ?oiBx4) (v := ?vBx4) ?hoBx4 ?h1Bx4 ?h2Bx4 ?h3Bx4 ?hqBx4 (Or.inl ⟨?h4Bx4, ?hyBx4⟩) (by assumption) ?restBx4
 case hoBx4 => (simp only [qa, qb, qc]; rfl)
 case h1Bx4 => kernel_rfl
 case h2Bx4 => kernel_rfl
 case h3Bx4 => kernel_rfl
 case h4Bx4 => rfl
 case hqBx4 => exact fun _ _ _ h => h
 case hyBx4 => (intro w hSw; (try dsimp only at hSw); go_simp <;> with_reducible rfl)
 (try simp only [Act.put, qd, qe, qf])
 refine wpAnyH_ready (rs := [1]) (by kernel_rfl) (by simp) ?_
 refine AllReadyH.cons (o := ?oiBx1) ?hoBx1 (fun K hK => ?restBx1) ?moreBx1
 case moreBx1 => exact AllReadyH.nil
 case hoBx1 => (simp only [qa, qb, qc]; rfl)
 go_simp
 refine (HM.out _ hBd5).mono ?_
 rintro e w8 ⟨rfl, hB8'⟩
 have hB8 := hBd5.trans (hB8'.mono hBd5.size)
 try go_wp2_with fail
 refine hK.out _ _ ?hSnewBy1 (fun hHeld => ?restBy1)
 case hSnewBy1 => ((try dsimp only); exact HC.out _ hB8)
 clear hK K
 (try simp only [Act.put, qd, qe, qf])
 refine wpAnyH_take (i := 2) (oi := ?oiBx2) (v := ?vBx2) ?hoBx2 ?h1Bx2 ?h2Bx2 ?h3Bx2 ?hqBx2 (Or.inl ⟨?h4Bx2, ?hyBx2⟩) (by assumption) ?restBx2
 case hoBx2 => (simp only [qa, qb, qc]; rfl)
 case h1Bx2 => kernel_rfl
 case h2Bx2 => kernel_rfl
 case h3Bx2 => kernel_rfl
 case h4Bx2 => rfl
 case hqBx2 => exact fun _ _ _ h => h
 case hyBx2 => (intro w hSw; (try dsimp only at hSw); go_simp <;> with_reducible rfl)
 (try simp only [Act.put, qd, qe, qf])
 refine wpAnyH_ready (rs := [5]) (by kernel_rfl) (by simp) ?_
 refine AllReadyH.cons (o := ?oiBx5) ?hoBx5 (fun K hK => ?restBx5) ?moreBx5
 case moreBx5 => exact AllReadyH.nil
 case hoBx5 => (simp only [qa, qb, qc]; rfl)
 go_simp
 refine (HNw w8).mono ?_
 rintro e w9 ⟨bm, ga, gh, gc, rfl, hpm, hB9, s1, s2, s3, s4, s5, s6, s7⟩
 have hB9' := hB8.trans (hB9.mono hB8.size)
 try go_wp2_with fail
 refine hK.out _ _ ?hSnewBy5 (fun hHeld => ?restBy5)
 case hSnewBy5 => ((try dsimp only); exact HC.out _ hB9')
 clear hK K
 (try simp only [Act.put, qd, qe, qf])
 refine wpAnyH_take (i := 6) (oi := ?oiBx6) (v := ?vBx6) ?hoBx6 ?h1Bx6 ?h2Bx6 ?h3Bx6 ?hqBx6 (Or.inl ⟨?h4Bx6, ?hyBx6⟩) (by assumption) ?restBx6
 case hoBx6 => (simp only [qa, qb, qc]; rfl)
 case h1Bx6 => kernel_rfl
 case h2Bx6 => kernel_rfl
 case h3Bx6 => kernel_rfl
 case h4Bx6 => rfl
 case hqBx6 => exact fun _ _ _ h => h
 case hyBx6 => (intro w hSw; (try dsimp only at hSw); go_simp <;> with_reducible rfl)
 (try simp only [Act.put, qd, qe, qf])
 refine wpAnyH_take (i := 7) (oi := ?oiBx7) (v := ?vBx7) ?hoBx7 ?h1Bx7 ?h2Bx7 ?h3Bx7 ?hqBx7 (Or.inl ⟨?h4Bx7, ?hyBx7⟩) (by assumption) ?restBx7
 case hoBx7 => (simp only [qa, qb, qc]; rfl)
 case h1Bx7 => kernel_rfl
 case h2Bx7 => kernel_rfl
 case h3Bx7 => kernel_rfl
 case h4Bx7 => rfl
 case hqBx7 => exact fun _ _ _ h => h
 case hyBx7 => (intro w hSw; (try dsimp only at hSw); go_simp <;> with_reducible rfl)
 (try simp only [Act.put, qd, qe, qf])
 refine wpAnyH_take (i := 8) (oi := ?oiBx8) (v := ?vBx8) ?hoBx8 ?h1Bx8 ?h2Bx8 ?h3Bx8 ?hqBx8 (Or.inl ⟨?h4Bx8, ?hyBx8⟩) (by assumption) ?restBx8
 case hoBx8 => (simp only [qa, qb, qc]; rfl)
 case h1Bx8 => kernel_rfl
 case h2Bx8 => kernel_rfl
 case h3Bx8 => kernel_rfl
 case h4Bx8 => rfl
 case hqBx8 => exact fun _ _ _ h => h
 case hyBx8 => (intro w hSw; (try dsimp only at hSw); go_simp <;> with_reducible rfl)
 (try simp only [Act.put, qd, qe, qf])
 refine wpAnyH_take (i := 9) (oi := ?oiBx9) (v := ?vBx9) ?hoBx9 ?h1Bx9 ?h2Bx9 ?h3Bx9 ?hqBx9 (Or.inl ⟨?h4Bx9, ?hyBx9⟩) (by assumption) ?restBx9
 case hoBx9 => (simp only [qa, qb, qc]; rfl)
 case h1Bx9 => kernel_rfl
 case h2Bx9 => kernel_rfl
 case h3Bx9 => kernel_rfl
 case h4Bx9 => rfl
 case hqBx9 => exact fun _ _ _ h => h
 case hyBx9 => (intro w hSw; (try dsimp only at hSw); go_simp <;> with_reducible rfl)
 (try simp only [Act.put, qd, qe, qf])
 refine wpAnyH_take (i := 10) (oi := ?oiBx10) (v := ?vBx10) ?hoBx10 ?h1Bx10 ?h2Bx10 ?h3Bx10 ?hqBx10 (Or.inl ⟨?h4Bx10, ?hyBx10⟩) (by assumption) ?restBx10
 case hoBx10 => (simp only [qa, qb, qc]; rfl)
 case h1Bx10 => kernel_rfl
 case h2Bx10 => kernel_rfl
 case h3Bx10 => kernel_rfl
 case h4Bx10 => rfl
 case hqBx10 => exact fun _ _ _ h => h
 case hyBx10 => (intro w hSw; (try dsimp only at hSw); go_simp <;> with_reducible rfl)
 (try simp only [Act.put, qd, qe, qf])
 refine wpAnyH_done (by kernel_rfl) ?_ _
 clear HM hBd5 hB8' wM HNw HC
 clear hHeld
 clear hHeld
 clear hHeld
 have hsz8 := hB8.size
 have hBw9 := HB2.out.trans (hB9'.mono HB2.out.size)
 have Hpm := hid hpm
 have HBw9 := hid hBw9
 have Hb39 := hid (Hb3.out.later hB9')
 have Hb49 := hid (Hb4.out.later hB9')
 have hg4l := Hb4.out.lt
 clear hpm hBw9 HB5 HB2 Hb3 Hb4
 go_upto_region 8 with (fail)
 generalize hw12 : World.alloc (World.alloc (World.alloc w9 _) _) _ = w12
 obtain ⟨gp, hgp⟩ : ∃ g, w9.heap.size = g := ⟨_, rfl⟩
 obtain ⟨g4, hg4⟩ : ∃ g, g3 + 1 = g := ⟨_, rfl⟩
 obtain ⟨g8, hg8⟩ : ∃ g, gp + 1 = g := ⟨_, rfl⟩
 obtain ⟨gm, hgm⟩ : ∃ g, g8 + 1 = g := ⟨_, rfl⟩
 obtain ⟨B0, hB0⟩ : ∃ g, w12.heap.size = g := ⟨_, rfl⟩
 rw [hgp, hg4, hg8, hgm]
 rw [hg4] at Hb49 hg4l
 obtain ⟨at0, hat0⟩ : ∃ x, List.replicate (M0 + 1) ((0 : Int), (0 : Int)) = x := ⟨_, rfl⟩
 obtain ⟨has0, hhas0⟩ : ∃ x, List.replicate (M0 + 1) false = x := ⟨_, rfl⟩
 obtain ⟨cnt0, hcnt0⟩ : ∃ x, List.replicate nb (0 : Int) = x := ⟨_, rfl⟩
 have hHas0 : ∀ a, has0.getD a false = false := fun a => by
  rw [← hhas0, List.getD_eq_getElem?_getD, List.getElem?_replicate]
  split <;> rfl
 rw [hat0, hhas0, hcnt0] at Hpm HPI
 have hA : AllS w g3 g4 bm ga gh gc gp g8 gm B0 B0 (M0 + 1) nb #[.int .i64 (nb : Int), .int .i64 (np : Int), .int .i64 S, .slice A n c] w12 at0 has0 cnt0 0 0 (seqOf []) 0 0 (fun _ => none) (fun _ => none) (.slice none 0 0) [] (fun _ => []) := by
  have hs9 : w12.heap.size = gp + 3 := by rw [← hw12, ← hgp]; simp
  have e1 : Below w9.heap.size w9 w12 := by rw [← hw12]; exact (((Below.refl _ _).alloc (Nat.le_refl _) _).alloc (by simp) _).alloc (by simp; omega) _
  refine ⟨⟨⟨by have := Hg3.out; omega, by omega, by omega, by omega, by omega, by omega⟩, ⟨?_, by omega, by omega, by omega⟩, by omega, by omega, by omega, Nat.le_refl _⟩, Hb39.out.later e1, Hb49.out.later e1, Hpm.out.later e1, ?_, ?_, ⟨?_, fun k hk => Fnds.nil _ _ _, fun k => Nat.zero_le _⟩, World.ownsRow_nil _ _ _ _, HBw9.out.trans (e1.mono HBw9.out.size), by omega⟩
  ·have := Hpm.out.blk.lt
   omega
  ·rw [← hw12, ← hgp]
   have h1 := (Mx.new w9).later (w' := ((w9.alloc (.map #[] 0)).alloc (.cells #[.pointer (some ⟨bm, 0, none⟩), .map (some w9.heap.size), .int .u64 0, .slice none 0 0] 74))) ((Below.refl _ _).alloc (Nat.le_refl _) _)
   exact h1.later ((Below.refl _ _).alloc (Nat.le_refl _) _)
  ·have e8 : g8 = (w9.alloc (.map #[] 0)).heap.size := by simp; omega
   rw [← hw12, e8, hgp]
   exact (Blk.new _ _ _).alloc _
  ·have em : gm = ((w9.alloc (.map #[] 0)).alloc (.cells #[.pointer (some ⟨bm, 0, none⟩), .map (some w9.heap.size), .int .u64 0, .slice none 0 0] 74)).heap.size := by simp; omega
   rw [← hw12, em]
   exact Mx.new _
 have HA := hid hA
 have HH0 := hid hHas0
 clear hw12 hgp hg4 hg8 hgm hB0 hat0 hhas0 hcnt0 Hb39 Hb49 Hpm HBw9 s1 s2 s3 s4 s5 s6 s7 hsz8 hg4l hB8 hB9 hB9' hA hmm hHas0
 obtain ⟨q0, q1, q2, q3⟩ := HA.out.b3.four
 have hus := HUs.out w12 HA.out.bel
 go_wp2_with fail
 refine hus.mono ?_
 rintro e w13 ⟨U, d, rfl, hzU, hUl, hB13⟩
 clear hus q0 q1 q2 q3
 have hUm : (us nb bad).length ≤ 64 := Nat.le_trans (us_len bad) hbd.2.1
 have Hnd := hid (us_nodup nb bad)
 have Hub := hid (fun x (hx : x ∈ us nb bad) => us_bd hx)
 generalize hxs : us nb bad = xs at *
 obtain ⟨m, hm⟩ : ∃ m, xs.length = m := ⟨_, rfl⟩
 rw [hm] at hzU hUm ⊢
 have HzU := hid hzU
 have hA13 := HA.out.later hB13
 have hUl' : ∀ a, U = some a → B0 ≤ a.block := fun a ha => Nat.le_trans HA.out.base (hUl a ha)
 have HUl := hid hUl'
 have HA13 := hid hA13
 have Hxs := hid hxs
 clear hzU hUl hUl' hB13 hA13 HA hxs
 go_wp2
 go_loopw [63] (fun t w' => ∃ (p : Nat) (L : Int → List Fd) (nm s : Nat) (f : Int → Option Value), p ≤ m ∧ nm ≤ p ∧ t = .int .i64 (p : Int) ∧ AllS w g3 g4 bm ga gh gc gp g8 gm B0 B0 (M0 + 1) nb #[.int .i64 (nb : Int), .int .i64 (np : Int), .int .i64 S, .slice A n c] w' at0 has0 cnt0 0 0 (seqOf (flatF (xs.take p) L)) nm s (fun _ => none) f (.slice none 0 0) [] L ∧ (∀ j, j ∉ xs.take p → L j = []) ∧ (∀ i : Nat, (i : Int) ∈ xs.take p → (L (i : Int)).map (fun x => (x.k, x.p)) = found (M0 : Int) (NB.seen (N.blk i))) ∧ Nums w' .i64 U m xs) (fun t _ => m - (intOf t).toNat)
 case atStart => exact ⟨0, fun _ => [], 0, 0, fun _ => none, by omega, by omega, rfl, HA13.out, fun _ _ => rfl, (fun i hi => (by cases hi)), HzU.out⟩
 case round =>
  clear HA13 HzU
  obtain ⟨p, L, nm, s, f, hp, hnm, rfl, hA, hout, hin, hzU⟩ := hrel
  by_cases hlt : p < m
  ·have hltI : (p : Int) < (m : Int) := by omega
   obtain ⟨gu, ou, rfl, hcu⟩ := hzU.at_ p hlt
   have htk := take_snocI xs p (by omega)
   have hmem : xs.getD p 0 ∈ xs := by
    rw [List.getD_eq_getElem?_getD, List.getElem?_eq_getElem (by omega)]
    exact List.getElem_mem _
   have hnot : xs.getD p 0 ∉ xs.take p := by
    have hnd := Hnd.out
    rw [← List.take_append_drop p xs] at hnd
    have h2 := (List.nodup_append.1 hnd).2.2
    intro hx
    refine h2 _ hx (xs.getD p 0) ?_ rfl
    rw [List.getD_eq_getElem?_getD, List.getElem?_eq_getElem (by omega), List.drop_eq_getElem_cons (by omega)]
    exact List.mem_cons_self
   have hib := Hub.out _ hmem
   generalize xs.getD p 0 = i at *
   obtain ⟨i, rfl⟩ := Int.eq_ofNat_of_zero_le (show 0 ≤ i by omega)
   have hbk := HBk.out wr hA.bel i hmem
   have Htk := hid htk
   have Hmem := hid hmem
   have Hnot := hid hnot
   have HA := hid hA
   have Hout := hid hout
   have Hin := hid hin
   have HzU := hid hzU
   obtain ⟨q0, q1, q2, q3⟩ := hA.b3.four
   clear hzU htk hmem hnot hA hout hin
   go_wp2_with fail
   refine hbk.mono ?_
   rintro e w14 ⟨v, l, rfl, hF, hpl, hB14⟩
   clear hbk hcu q0 q1 q2 q3
   have hll : l.length ≤ 1000 := by
    have e : (l.map (fun x => (x.k, x.p))).length = l.length := List.length_map ..
    rw [hpl] at e
    have h1 := found_len (M0 : Int) (NB.seen (N.blk i))
    have h2 : (NB.seen (N.blk i)).length ≤ 32 := by
     unfold NB.seen
     split
     ·exact Nat.zero_le _
     ·have := Hwf.out
      have h3 := this.len i (by omega)
      have h4 := this.np
      omega
    omega
   obtain ⟨R, c5, rfl, hrd⟩ := hF.read
   have hA14 := HA.out.later hB14
   have hF0 := hF.mono HA.out.base
   have hzU14 := HzU.out.below hB14
   have HRl := hid (fun (g : Nat) (e : R = some ⟨g, 0, none⟩) => (hF0.1.lt g (by rw [e]; rfl)).1)
   have HA14 := hid hA14
   have HF0 := hid hF0
   have HzU14 := hid hzU14
   have Hpl := hid hpl
   have Hrd := hid hrd
   obtain ⟨w15, hrun, hm15, hg15⟩ := hA14.by_.mx.put Try.underlying102 (by omega) (i : Int) (kwf_of (by omega)) (.slice R l.length c5)
   have hby15 := by_put hA14.by_ (i : Int) _ l hF0 hll hg15 (by have := hA14.ord; omega) hm15
   have hA15 := hA14.byp hg15 hby15
   have hzU15 := nums_fr hzU14 (fr_grown hg15) (fun _ a ha hs => by
    have := HUl.out a ha
    have := hA14.ord
    omega)
   have hfr15 : ∀ j, j < l.length → ∃ g, R = some ⟨g, 0, none⟩ ∧ ∀ k u, ((l.getD j default).cells (i : Int))[k]? = some u → w15.cell? ⟨g, j * 8 + k, none⟩ = some u := by
    have := (hF0.fr (fr_grown hg15) (fun g hg => by have := hA14.ord; omega)).read
    obtain ⟨R', c', e, h⟩ := this
    injection e with e1 e2 e3
    subst e1
    exact h
   have HA15 := hid hA15
   have HzU15 := hid hzU15
   have Hfr15 := hid hfr15
   clear hrd hpl hF0 hF hB14 hA14 hzU14 hm15 hg15 hby15 hA15 hzU15 hfr15 HA HzU
   have hrun' : (Instr.mapUpdate 102 (.map (some gm)) (.int .i64 (i : Int)) (.slice R l.length c5)).run Try.prog w14 = .ok () w15 := hrun
   clear hrun
   go_wp2
   generalize hs2 : (if (f (i : Int)).isSome = true then s else s + 1) = s2 at HA15
   generalize hf2 : putF f (i : Int) (.slice R l.length c5) = f2 at HA15
   obtain ⟨L2, hL2⟩ : ∃ L2 : Int → List Fd, (fun j => if j = (i : Int) then l else L j) = L2 := ⟨_, rfl⟩
   rw [hL2] at HA15
   obtain ⟨fl, hfl⟩ : ∃ fl, flatF (xs.take p) L = fl := ⟨_, rfl⟩
   rw [hfl] at HA15 HA14
   have HL2 := hid hL2
   have Hfl := hid hfl
   obtain ⟨ll, hlle⟩ : ∃ ll, l.length = ll := ⟨_, rfl⟩
   rw [hlle] at hll Hfr15 Hrd ⊢
   have Hlle := hid hlle
   clear hL2 hfl hs2 hf2 HA14 HF0 HzU14 Hrd hlle hrun'
   go_loopw [83] (fun t w' => ∃ q : Nat, q ≤ ll ∧ t = .int .i64 (q : Int) ∧ AllS w g3 g4 bm ga gh gc gp g8 gm B0 B0 (M0 + 1) nb #[.int .i64 (nb : Int), .int .i64 (np : Int), .int .i64 S, .slice A n c] w' at0 has0 cnt0 0 0 (seqOf (fl ++ tagF (i : Int) (l.take q))) (nm + 1) s2 (fun _ => none) f2 (.slice none 0 0) [] L2 ∧ Nums w' .i64 (some ⟨gu, ou, none⟩) m xs ∧ (∀ j, j < ll → ∃ g, R = some ⟨g, 0, none⟩ ∧ ∀ k u, ((l.getD j default).cells (i : Int))[k]? = some u → w'.cell? ⟨g, j * 8 + k, none⟩ = some u)) (fun t _ => ll - (intOf t).toNat)
   case atStart => exact ⟨0, by omega, rfl, by rw [List.take_zero, show tagF (i : Int) [] = [] from rfl, List.append_nil]; exact HA15.out, HzU15.out, Hfr15.out⟩
   case round =>
    clear HA15 HzU15 Hfr15
    obtain ⟨q, hq, rfl, hA, hzU, hfr⟩ := hrel
    by_cases hlq : q < ll
    ·have hlqI : (q : Int) < (ll : Int) := by omega
     obtain ⟨gr, rfl, hcc⟩ := hfr q hlq
     have htt := tagF_take (i : Int) l q (by rw [Hlle.out]; exact hlq)
     obtain ⟨x, hx⟩ : ∃ x, l.getD q default = x := ⟨_, rfl⟩
     rw [hx] at hcc htt
     have hsq := seqOf_snoc (fl ++ tagF (i : Int) (l.take q)) ((i : Int), x)
     rw [List.append_assoc, ← htt] at hsq
     obtain ⟨sq, hsqe⟩ : ∃ sq, seqOf (fl ++ tagF (i : Int) (l.take q)) = sq := ⟨_, rfl⟩
     rw [hsqe] at hsq hA
     have z0 : wr.cell? ⟨gr, q * 8, none⟩ = some (.int .i64 (i : Int)) := hcc 0 _ rfl
     have z1 : wr.cell? ⟨gr, q * 8 + 1, none⟩ = some (.int .i64 (x.k : Int)) := hcc 1 _ rfl
     have z2 : wr.cell? ⟨gr, q * 8 + 2, none⟩ = some (.int .u8 (x.p.K : Int)) := hcc 2 _ rfl
     have z3 : wr.cell? ⟨gr, q * 8 + 3, none⟩ = some (.int .u64 (x.p.E : Int)) := hcc 3 _ rfl
     have z4 : wr.cell? ⟨gr, q * 8 + 4, none⟩ = some (.int .u64 (x.p.S : Int)) := hcc 4 _ rfl
     have z5 : wr.cell? ⟨gr, q * 8 + 5, none⟩ = some (.int .i64 (x.p.a : Int)) := hcc 5 _ rfl
     have z6 : wr.cell? ⟨gr, q * 8 + 6, none⟩ = some (.int .i64 ((x.p.f : Int) - 1)) := hcc 6 _ rfl
     have z7 : wr.cell? ⟨gr, q * 8 + 7, none⟩ = some (.slice x.A x.n x.c) := hcc 7 _ rfl
     have b2 : wr.cell? ⟨g8, 2, none⟩ = some (.int .u64 (sq : Int)) := hA.b8.cell 2
     have f2' : wr.frozen? ⟨g8, 2, none⟩ = false := hA.b8.free 2
     have Hsq := hid hsq
     have HA := hid hA
     have HzU := hid hzU
     have Hfr := hid hfr
     clear htt hsq hsqe hA hzU hfr hcc
     go_upto_region 18 with (fail)
     generalize hw16 : World.alloc wr _ = w16
     obtain ⟨gx, hgx⟩ : ∃ g, wr.heap.size = g := ⟨_, rfl⟩
     have hB16 : Below wr.heap.size wr w16 := by rw [← hw16]; exact (Below.refl _ _).alloc (Nat.le_refl _) _
     have hbx : Blk w16 gx (x.cells (i : Int)).toArray 89 := by rw [← hw16, ← hgx]; exact Blk.new _ _ _
     have hA16 := HA.out.later hB16
     have HA16 := hid hA16
     have HzU16 := hid (HzU.out.below hB16)
     have Hfr16 := hid (fun j (hj : j < ll) => (Hfr.out j hj).imp fun g ⟨e, hc⟩ => (⟨e, fun k u hk => (hB16.cell (World.block_lt_of_cell? wr _ (hc k u hk))).trans (hc k u hk)⟩ : _ ∧ _))
     have e4 : w16.cell? ⟨gx, 4, none⟩ = some (.int .u64 (x.p.S : Int)) := (Fd.eight hbx).2.2.2.2.1
     have b2 : w16.cell? ⟨g8, 2, none⟩ = some (.int .u64 (sq : Int)) := hA16.b8.cell 2
     have f2' : w16.frozen? ⟨g8, 2, none⟩ = false := hA16.b8.free 2
     rw [hgx]
     clear hw16 hgx hB16 hbx hA16 HA HzU Hfr z0 z1 z2 z3 z4 z5 z6 z7
     generalize x.p.S = xS at *
     go_wp2
     have hv : (if sq < xS then (xS : Int) else (sq : Int)) = ((max sq xS : Nat) : Int) := by split <;> omega
     rw [hv]
     have hA17 := HA16.out.seq (max sq xS)
     have ho := HA16.out.ord
     have hzU17 := nums_fr HzU16.out (fr_set w16 g8 2 (.int .u64 ((max sq xS : Nat) : Int))) (fun _ a ha hs => by have := HUl.out a ha; omega)
     have hfr17 : ∀ j, j < ll → ∃ g, (some ⟨gr, 0, none⟩ : Option Addr) = some ⟨g, 0, none⟩ ∧ ∀ k u, ((l.getD j default).cells (i : Int))[k]? = some u → (w16.setCell ⟨g8, 2, none⟩ (.int .u64 ((max sq xS : Nat) : Int))).cell? ⟨g, j * 8 + k, none⟩ = some u := fun j hj => by
      obtain ⟨g, e, hc⟩ := Hfr16.out j hj
      have hg := HRl.out g e
      refine ⟨g, e, fun k u hk => ?_⟩
      have hc' := hc k u hk
      rw [World.cell?_of_block ((fr_set w16 g8 2 (.int .u64 ((max sq xS : Nat) : Int))).block g (World.block_lt_of_cell? w16 _ hc') (by omega))]
      exact hc'
     go_roundw
     case rel => exact ⟨q + 1, by omega, by go_num, by rw [Hsq.out]; exact hA17, hzU17, hfr17⟩
     case measure => simp [intOf]; omega
    ·obtain rfl : q = ll := by omega
     have e1 : l.take q = l := List.take_of_length_le (by rw [Hlle.out]; exact Nat.le_refl _)
     rw [e1] at hA
     have eL : L2 (i : Int) = l := by rw [← HL2.out]; exact if_pos rfl
     have eF : flatF (xs.take (p + 1)) L2 = fl ++ tagF (i : Int) l := by
      rw [Htk.out, flatF_snoc, eL, ← Hfl.out]
      congr 1
      refine flatF_congr fun j hj => ?_
      rw [← HL2.out]
      exact if_neg (fun e => Hnot.out (by rw [← e]; exact hj))
     rw [← eF] at hA
     have HA := hid hA
     have HzU := hid hzU
     have hout2 : ∀ j, j ∉ xs.take (p + 1) → L2 j = [] := fun j hj => by
      rw [Htk.out, List.mem_append, List.mem_singleton] at hj
      rw [← HL2.out]
      show (if j = (i : Int) then l else L j) = []
      rw [if_neg (fun e => hj (.inr e))]
      exact Hout.out j (fun h => hj (.inl h))
     have hin2 : ∀ i' : Nat, (i' : Int) ∈ xs.take (p + 1) → (L2 (i' : Int)).map (fun x => (x.k, x.p)) = found (M0 : Int) (NB.seen (N.blk i')) := fun i' hi' => by
      rw [Htk.out, List.mem_append, List.mem_singleton] at hi'
      rw [← HL2.out]
      show (if (i' : Int) = (i : Int) then l else L (i' : Int)).map _ = _
      by_cases e : (i' : Int) = (i : Int)
      ·rw [if_pos e]
       obtain rfl : i' = i := by omega
       exact Hpl.out
      ·rw [if_neg e]
       rcases hi' with h | h
       ·exact Hin.out i' h
       ·exact absurd h e
     have Hout2 := hid hout2
     have Hin2 := hid hin2
     clear e1 eL eF hA hzU hfr hout2 hin2 hlq
     go_wp2
     go_roundw
     case rel => exact ⟨p + 1, L2, nm + 1, s2, f2, by omega, by omega, by go_num, HA.out, Hout2.out, Hin2.out, HzU.out⟩
     case measure => simp [intOf]; omega
  ·obtain rfl : p = m := by omega
   have e1 : xs.take p = xs := List.take_of_length_le (by omega)
   rw [e1] at hA hout hin
   have HA := hid hA
   have Hin := hid hin
   have HoutA := hid hout
   obtain ⟨q0, q1, q2, q3⟩ := hA.b3.four
   have hus := HUs.out wr hA.bel
   obtain ⟨fin, hfin⟩ : ∃ s, seqOf (flatF xs L) = s := ⟨_, rfl⟩
   rw [hfin] at HA
   have Hfin := hid hfin
   clear hA hout hin hzU hfin hlt HUl HBk
   go_wp2_with fail
   refine hus.mono ?_
   rintro e w18 ⟨U2, d2, rfl, hzU2, hUl2, hB18⟩
   clear hus q0 q1 q2 q3
   rw [hm] at hzU2 ⊢
   have hUl3 : ∀ a, U2 = some a → B0 ≤ a.block := fun a ha => Nat.le_trans HA.out.base (hUl2 a ha)
   have hlow0 := (HA.out.later hB18).by_.low
   have hA18 := (HA.out.later hB18).rebase
   have hUlt : 0 < p → ∀ a, U2 = some a → a.block < w18.heap.size := fun hp a ha => by
    obtain ⟨b', o', e, hc⟩ := hzU2.at_ 0 hp
    rw [ha] at e
    injection e with e
    subst e
    exact World.block_lt_of_cell? w18 _ hc
   obtain ⟨B1, hB1⟩ : ∃ g, w18.heap.size = g := ⟨_, rfl⟩
   rw [hB1] at hA18 hlow0 hUlt
   have HUl := hid hUl3
   have HUlt := hid hUlt
   have HzU := hid hzU2
   have HA18 := hid hA18
   have Hlow0 := hid hlow0
   clear hzU2 hUl2 hB18 hA18 hlow0 hUl3 hUlt hB1 HA
   go_wp2
   go_loopw [99] (fun t w' => ∃ (r s' : Nat) (f' : Int → Option Value) (spv : Value), r ≤ p ∧ t = .int .i64 (r : Int) ∧ AllS w g3 g4 bm ga gh gc gp g8 gm B0 B1 (M0 + 1) nb #[.int .i64 (nb : Int), .int .i64 (np : Int), .int .i64 S, .slice A n c] w' at0 has0 cnt0 0 0 fin nm s' (fun _ => none) f' spv (spoilS (xs.take r) L).2 (spoilS (xs.take r) L).1 ∧ LowF B1 f' (spoilS (xs.take r) L).1 ∧ Nums w' .i64 U2 p xs) (fun t _ => p - (intOf t).toNat)
   case atStart => exact ⟨0, s, f, _, by omega, rfl, HA18.out, Hlow0.out, HzU.out⟩
   case round =>
    clear HA18 Hlow0 HzU
    obtain ⟨r, s', f', spv, hr, rfl, hA, hlow, hzU⟩ := hrel
    by_cases hlr : r < p
    ·have hlrI : (r : Int) < (p : Int) := by omega
     obtain ⟨gu, ou, rfl, hcu⟩ := hzU.at_ r hlr
     have htk := take_snocI xs r (by omega)
     have hmem : xs.getD r 0 ∈ xs := by
      rw [List.getD_eq_getElem?_getD, List.getElem?_eq_getElem (by omega)]
      exact List.getElem_mem _
     have hib := Hub.out _ hmem
     generalize xs.getD r 0 = i at *
     have hsp := spoilS_snoc (xs.take r) L i
     rw [← htk] at hsp
     have hspl := spoilS_len (xs.take r) L
     have hspl2 : (spoilS (xs.take r) L).2.length ≤ 64 := by rw [List.length_take] at hspl; omega
     generalize hst : spoilS (xs.take r) L = st at *
     obtain ⟨L', spl⟩ := st
     have hsp : spoilS (xs.take (r + 1)) L = if copiedB L' i then (strikeL L' i, spl ++ [i]) else (L', spl) := hsp
     have hA : AllS w g3 g4 bm ga gh gc gp g8 gm B0 B1 (M0 + 1) nb #[.int .i64 (nb : Int), .int .i64 (np : Int), .int .i64 S, .slice A n c] wr at0 has0 cnt0 0 0 fin nm s' (fun _ => none) f' spv spl L' := hA
     have hlow : LowF B1 f' L' := hlow
     have hspl2 : spl.length ≤ 64 := hspl2
     have hcp := copied_any gm nm f' s' B0 L' i (kwf_of (by omega)) wr hA.by_
     have Hsp := hid hsp
     have HA := hid hA
     have Hlow := hid hlow
     have HzU := hid hzU
     clear htk hmem hsp hspl hst hA hlow hzU
     go_wp2_with fail
     refine hcp.mono ?_
     rintro e w19 ⟨rfl, hB19⟩
     clear hcp hcu
     have HA19 := hid (HA.out.later hB19)
     have HzU19 := hid (HzU.out.below hB19)
     clear hB19 HA HzU
     cases hcb : copiedB L' i
     ·have e : spoilS (xs.take (r + 1)) L = (L', spl) := by rw [Hsp.out, hcb]; rfl
      have He := hid e
      clear hcb e
      go_wp2
      go_roundw
      case rel => exact ⟨r + 1, s', f', spv, by omega, by go_num, by rw [He.out]; exact HA19.out, by rw [He.out]; exact Hlow.out, HzU19.out⟩
      case measure => simp [intOf]; omega
     ·have e : spoilS (xs.take (r + 1)) L = (strikeL L' i, spl ++ [i]) := by rw [Hsp.out, hcb]; rfl
      have He := hid e
      have b3 : w19.cell? ⟨g8, 3, none⟩ = some spv := HA19.out.b8.cell 3
      have hown := HA19.out.spo
      have hbase := HA19.out.base
      have HG8 : ∀ W, w19.grownBy W spv.ownBlock → Blk W g8 #[.pointer (some ⟨bm, 0, none⟩), .map (some gp), .int .u64 (fin : Int), spv] 74 := fun W hW => HA19.out.b8.grown hW (fun e => by
       have h1 := (hown.lt g8 e.symm).1
       have h2 := HA19.out.ord
       omega)
      clear hcb e
      go_upto_region 25 with (fail)
      go_wp2_with (at_builtin; refine append_one B1 rfl _ _ 24 3 (.int .i64 0) 8 rfl Try.underlying24 Plan.info3 rfl _ _ _ (.int .i64 i) (by rfl) (by rfl) rfl hown hbase (by omega) (by omega) ?_; intro v1 w20 hown20 hgr20 hat20; obtain ⟨A20, c20, rfl⟩ := row_slice hown20; have c3 := (HG8 w20 hgr20).cell 3; have k3 := (HG8 w20 hgr20).free 3)
      have hA21 := HA19.out.spoilt Hlow.out hgr20 hown20
      have hzU21 := nums_fr (nums_fr HzU19.out (Nand.Fr.of_grown (F := fun x => B1 ≤ x) hgr20 (fun k hk => (hown.lt k hk).1)) (fun hn a ha hs => by have := HUlt.out hn a ha; omega)) (fr_set w20 g8 3 (.slice A20 (spl.length + 1) c20)) (fun hn a ha hs => by have := HUl.out a ha; have := HA19.out.ord; omega)
      have HA21 := hid hA21
      have HzU21 := hid hzU21
      clear HG8 hown hbase hown20 hgr20 hat20 b3 hA21 hzU21 HA19 HzU19
      obtain ⟨w21, hw21⟩ : ∃ W, W = w20.setCell ⟨g8, 3, none⟩ (.slice A20 (spl.length + 1) c20) := ⟨_, rfl⟩
      rw [← hw21] at HA21 HzU21 ⊢
      clear hw21 c3 k3
      obtain ⟨w22, s22, hdel, hm22, hg22⟩ := HA21.out.by_.mx.del Try.underlying102 i (kwf_of (by omega)) 0
      have hby22 := by_del HA21.out.by_ i hg22 (by have := HA21.out.ord; omega) hm22
      have hA22 := HA21.out.byp hg22 hby22
      have hzU22 := nums_fr HzU21.out (fr_grown hg22) (fun hn a ha hs => by have := HUl.out a ha; have := HA21.out.ord; omega)
      have hlow22 := Hlow.out.del i
      have HA22 := hid hA22
      have HzU22 := hid hzU22
      have Hlow22 := hid hlow22
      clear hby22 hA22 hzU22 hlow22 hm22 hg22 HA21 HzU21
      rw [hdel]
      clear hdel
      go_wp2
      go_roundw
      case rel => exact ⟨r + 1, s22, delF f' i, _, by omega, by go_num, by rw [He.out]; exact HA22.out, by rw [He.out]; exact Hlow22.out, HzU22.out⟩
      case measure => simp [intOf]; omega
    ·obtain rfl : r = p := by omega
     have e1 : xs.take r = xs := List.take_of_length_le (by omega)
     rw [e1] at hA hlow
     generalize hst : spoilS xs L = st at *
     obtain ⟨L', spl⟩ := st
     have hA : AllS w g3 g4 bm ga gh gc gp g8 gm B0 B1 (M0 + 1) nb #[.int .i64 (nb : Int), .int .i64 (np : Int), .int .i64 S, .slice A n c] wr at0 has0 cnt0 0 0 fin nm s' (fun _ => none) f' spv spl L' := hA
     have Hst := hid hst
     have HA := hid hA
     obtain ⟨q0, q1, q2, q3⟩ := hA.b3.four
     have hus := HUs.out wr hA.bel
     clear hst hA hlow hzU HUl HUlt hlr e1
     go_wp2_with fail
     refine hus.mono ?_
     rintro e w30 ⟨U3, d3, rfl, hzU3, hUl3, hB30⟩
     clear hus q0 q1 q2 q3
     rw [hm] at hzU3 ⊢
     have Hpa := hid (fun (i : Int) (hi : i ∈ xs) (x : Fd) (hx : x ∈ L' i) => (by
      have hib := Hub.out i hi
      obtain ⟨j, rfl⟩ := Int.eq_ofNat_of_zero_le (show 0 ≤ i by omega)
      have hx' : x ∈ L (j : Int) := by
       have hsub := spoilS_sub xs L (j : Int)
       rw [Hst.out] at hsub
       rcases hsub with h | h
       ·have h : L' (j : Int) = L (j : Int) := h
        rw [← h]; exact hx
       ·have h : L' (j : Int) = [] := h
        rw [h] at hx
        cases hx
      have hm2 : (x.k, x.p) ∈ found (M0 : Int) (NB.seen (N.blk j)) := by
       rw [← Hin.out j hi]
       exact List.mem_map.2 ⟨x, hx', rfl⟩
      obtain ⟨h1, h2⟩ := mem_found hm2
      have h3 : (NB.seen (N.blk j)).length ≤ 32 := by
       unfold NB.seen
       split
       ·exact Nat.zero_le _
       ·have := Hwf.out
        have h3 := this.len j (by omega)
        have h4 := this.np
        omega
      exact ⟨by omega, by omega⟩ : x.p.a ≤ M0 ∧ x.k < 32))
     have Huq := hid (fun (FL : List (Int × Fd)) (hFL : flatF xs L' = FL) => (by
      subst hFL
      have hmm : ∀ y ∈ flatF xs L', ∃ j : Nat, y.1 = (j : Int) ∧ j < nb ∧ (y.2.k, y.2.p) ∈ found (M0 : Int) (NB.seen (N.blk j)) ∧ y.2.p.a ≤ M0 ∧ y.2.k < 32 := fun y hy => by
       obtain ⟨i, hi, hy'⟩ := List.mem_flatMap.1 hy
       obtain ⟨x, hx, rfl⟩ := List.mem_map.1 hy'
       have hib := Hub.out i hi
       obtain ⟨j, rfl⟩ := Int.eq_ofNat_of_zero_le (show 0 ≤ i by omega)
       have hx' : x ∈ L (j : Int) := by
        have hsub := spoilS_sub xs L (j : Int)
        rw [Hst.out] at hsub
        rcases hsub with h | h
        ·have h : L' (j : Int) = L (j : Int) := h
         rw [← h]; exact hx
        ·have h : L' (j : Int) = [] := h
         rw [h] at hx
         cases hx
       refine ⟨j, rfl, by omega, ?_, Hpa.out _ hi x hx⟩
       rw [← Hin.out j hi]
       exact List.mem_map.2 ⟨x, hx', rfl⟩
      refine ⟨fun y hy => ?_, fun y y' hy hy' h1 h2 => ?_⟩
      ·obtain ⟨j, e, h1, _, h2, h3⟩ := hmm y hy
       exact ⟨j, e, h1, h2, h3⟩
      ·obtain ⟨j, e, _, hf, _⟩ := hmm y hy
       obtain ⟨j', e', _, hf', _⟩ := hmm y' hy'
       obtain rfl : j = j' := by omega
       have r1 := rd_found hf
       have r2 := rd_found hf'
       rw [h2, r2] at r1
       injection r1 with r1
       exact r1.symm : (∀ y ∈ FL, ∃ j : Nat, y.1 = (j : Int) ∧ j < nb ∧ y.2.p.a ≤ M0 ∧ y.2.k < 32) ∧ ∀ y y', y ∈ FL → y' ∈ FL → y.1 = y'.1 → y.2.k = y'.2.k → y.2.p = y'.2.p))
     have HUl := hid (fun a ha => Nat.le_trans (Nat.le_trans HA.out.ord.2.2.2.2.2 HA.out.base) (hUl3 a ha))
     have HzU := hid hzU3
     have HA30 := hid (HA.out.later hB30)
     clear hzU3 hUl3 hB30 HA
     go_wp2
     go_loopw [118] (fun t w' => ∃ (r' np' : Nat), r' ≤ r ∧ np' ≤ 1000 * r' ∧ t = .int .i64 (r' : Int) ∧ AllS w g3 g4 bm ga gh gc gp g8 gm B0 B1 (M0 + 1) nb #[.int .i64 (nb : Int), .int .i64 (np : Int), .int .i64 S, .slice A n c] w' at0 has0 cnt0 np' (keysN (flatF (xs.take r') L') (M0 + 1)) fin nm s' (pgsF (flatF (xs.take r') L')) f' spv spl L' ∧ Nums w' .i64 U3 r xs) (fun t _ => r - (intOf t).toNat)
     case atStart => exact ⟨0, 0, by omega, by omega, rfl, by rw [List.take_zero, show flatF [] L' = [] from rfl, keysN_nil, show pgsF [] = (fun _ => none) from rfl]; exact HA30.out, HzU.out⟩
     case round =>
      clear HA30 HzU
      obtain ⟨r', np', hr', hnp', rfl, hA, hzU⟩ := hrel
      by_cases hlr : r' < r
      ·have hlrI : (r' : Int) < (r : Int) := by omega
       obtain ⟨gu, ou, rfl, hcu⟩ := hzU.at_ r' hlr
       have htk := take_snocI xs r' (by omega)
       have hmem : xs.getD r' 0 ∈ xs := by
        rw [List.getD_eq_getElem?_getD, List.getElem?_eq_getElem (by omega)]
        exact List.getElem_mem _
       have hib := Hub.out _ hmem
       generalize xs.getD r' 0 = i at *
       have hfs := flatF_snoc (xs.take r') i L'
       rw [← htk] at hfs
       obtain ⟨R, c5, hv, hrd⟩ := (hA.by_.at_ i (kwf_of (by omega))).read
       have hlk := hA.by_.look i (kwf_of (by omega))
       rw [hv] at hlk
       have HRl := hid (fun (g : Nat) (e : R = some ⟨g, 0, none⟩) => ((hA.by_.at_ i (kwf_of (by omega))).1.lt g (by rw [hv, e]; rfl)).1)
       have hpa := Hpa.out i hmem
       obtain ⟨l, hl⟩ : ∃ l, L' i = l := ⟨_, rfl⟩
       have hll := hA.by_.len i
       rw [hl] at hfs hrd hlk hpa hll
       obtain ⟨ll, hlle⟩ : ∃ ll, l.length = ll := ⟨_, rfl⟩
       rw [hlle] at hrd hlk hll
       obtain ⟨fl, hfl⟩ : ∃ fl, flatF (xs.take r') L' = fl := ⟨_, rfl⟩
       rw [hfl] at hA hfs
       have Hfs := hid hfs
       have HA := hid hA
       have HzU := hid hzU
       have Hrd := hid hrd
       have Hpa2 := hid hpa
       have Hlle := hid hlle
       clear htk hmem hfs hA hzU hrd hv hl hlle hfl hpa
       go_wp2
       go_loopw [126] (fun t w' => ∃ q : Nat, q ≤ ll ∧ t = .int .i64 (q : Int) ∧ AllS w g3 g4 bm ga gh gc gp g8 gm B0 B1 (M0 + 1) nb #[.int .i64 (nb : Int), .int .i64 (np : Int), .int .i64 S, .slice A n c] w' at0 has0 cnt0 (np' + q) (keysN (fl ++ tagF i (l.take q)) (M0 + 1)) fin nm s' (pgsF (fl ++ tagF i (l.take q))) f' spv spl L' ∧ Nums w' .i64 (some ⟨gu, ou, none⟩) r xs ∧ (∀ j, j < ll → ∃ g, R = some ⟨g, 0, none⟩ ∧ ∀ k u, ((l.getD j default).cells i)[k]? = some u → w'.cell? ⟨g, j * 8 + k, none⟩ = some u)) (fun t _ => ll - (intOf t).toNat)
       case atStart => exact ⟨0, by omega, rfl, by rw [List.take_zero, show tagF i [] = [] from rfl, List.append_nil]; exact HA.out, HzU.out, Hrd.out⟩
       case round =>
        clear HA HzU Hrd
        obtain ⟨q, hq, rfl, hA, hzU, hfr⟩ := hrel
        by_cases hlq : q < ll
        ·have hlqI : (q : Int) < (ll : Int) := by omega
         obtain ⟨gr, rfl, hcc⟩ := hfr q hlq
         have htt := tagF_take i l q (by rw [Hlle.out]; exact hlq)
         have hxm : l.getD q default ∈ l := by
          have e : l.getD q default = l[q]'(by rw [Hlle.out]; exact hlq) := by rw [List.getD_eq_getElem?_getD, List.getElem?_eq_getElem (by rw [Hlle.out]; exact hlq)]; rfl
          rw [e]
          exact List.getElem_mem _
         have hxa := (Hpa2.out _ hxm).1
         obtain ⟨x, hx⟩ : ∃ x, l.getD q default = x := ⟨_, rfl⟩
         rw [hx] at hcc htt hxa
         have z0 : wr.cell? ⟨gr, q * 8, none⟩ = some (.int .i64 i) := hcc 0 _ rfl
         have z1 : wr.cell? ⟨gr, q * 8 + 1, none⟩ = some (.int .i64 (x.k : Int)) := hcc 1 _ rfl
         have z2 : wr.cell? ⟨gr, q * 8 + 2, none⟩ = some (.int .u8 (x.p.K : Int)) := hcc 2 _ rfl
         have z3 : wr.cell? ⟨gr, q * 8 + 3, none⟩ = some (.int .u64 (x.p.E : Int)) := hcc 3 _ rfl
         have z4 : wr.cell? ⟨gr, q * 8 + 4, none⟩ = some (.int .u64 (x.p.S : Int)) := hcc 4 _ rfl
         have z5 : wr.cell? ⟨gr, q * 8 + 5, none⟩ = some (.int .i64 (x.p.a : Int)) := hcc 5 _ rfl
         have z6 : wr.cell? ⟨gr, q * 8 + 6, none⟩ = some (.int .i64 ((x.p.f : Int) - 1)) := hcc 6 _ rfl
         have z7 : wr.cell? ⟨gr, q * 8 + 7, none⟩ = some (.slice x.A x.n x.c) := hcc 7 _ rfl
         have Htt := hid htt
         have HA := hid hA
         have HzU := hid hzU
         have Hfr := hid hfr
         clear htt hA hzU hfr hcc hxm hx
         go_upto_region 34 with (fail)
         generalize hw33 : World.alloc wr _ = w33
         obtain ⟨gx, hgx⟩ : ∃ g, wr.heap.size = g := ⟨_, rfl⟩
         have hB33 : Below wr.heap.size wr w33 := by rw [← hw33]; exact (Below.refl _ _).alloc (Nat.le_refl _) _
         have hbx : Blk w33 gx (x.cells i).toArray 89 := by rw [← hw33, ← hgx]; exact Blk.new _ _ _
         have hA33 := HA.out.later hB33
         have HA33 := hid hA33
         have HzU33 := hid (HzU.out.below hB33)
         have Hfr33 := hid (fun j (hj : j < ll) => (Hfr.out j hj).imp fun g ⟨e, hc⟩ => (⟨e, fun k u hk => (hB33.cell (World.block_lt_of_cell? wr _ (hc k u hk))).trans (hc k u hk)⟩ : _ ∧ _))
         have x5 : w33.cell? ⟨gx, 5, none⟩ = some (.int .i64 (x.p.a : Int)) := (Fd.eight hbx).2.2.2.2.2.1
         have m1 : w33.cell? ⟨g8, 1, none⟩ = some (.map (some gp)) := hA33.b8.cell 1
         have Hbx33 := hid hbx
         have hlo := hA33.mx.look_ok Try.underlying72 (zeroFd w33) (x.p.a : Int) (kwf_of (by omega))
         rw [hgx]
         clear hw33 hgx hB33 hbx hA33 HA HzU Hfr z0 z1 z2 z3 z4 z5 z6 z7
         cases hnw : newest (x.p.a : Int) (fl ++ tagF i (l.take q)) with
         | none =>
          replace hlo : (Instr.lookup 72 (.map (some gp)) (.int .i64 (x.p.a : Int)) true).run Try.prog w33 = .ok (.tuple #[.agg #[.int .i64 0, .int .i64 0, .int .u8 0, .int .u64 0, .int .u64 0, .int .i64 0, .int .i64 0, .slice none 0 0], .bool false]) w33 := by
           rw [hlo]
           unfold pgsF
           rw [hnw]
           rfl
          go_upto_region 35 with (fail)
          generalize hw34 : World.alloc w33 _ = w34
          obtain ⟨gy, hgy⟩ : ∃ g, w33.heap.size = g := ⟨_, rfl⟩
          have hB34 : Below w33.heap.size w33 w34 := by rw [← hw34]; exact (Below.refl _ _).alloc (Nat.le_refl _) _
          have hby : Blk w34 gy #[.int .i64 0, .int .i64 0, .int .u8 0, .int .u64 0, .int .u64 0, .int .i64 0, .int .i64 0, .slice none 0 0] 89 := by rw [← hw34, ← hgy]; exact Blk.new _ _ _
          have hA34 := HA33.out.later hB34
          have hzU34 := HzU33.out.below hB34
          have hfr34 := hid (fun j (hj : j < ll) => (Hfr33.out j hj).imp fun g ⟨e, hc⟩ => (⟨e, fun k u hk => (hB34.cell (World.block_lt_of_cell? w33 _ (hc k u hk))).trans (hc k u hk)⟩ : _ ∧ _))
          have hbx34 := Hbx33.out.later hB34
          have y4 : w34.cell? ⟨gy, 4, none⟩ = some (.int .u64 0) := hby.cell 4
          obtain ⟨x0, x1, x2, x3, x4, x5, x6, x7⟩ := Fd.eight hbx34
          have m1 : w34.cell? ⟨g8, 1, none⟩ = some (.map (some gp)) := hA34.b8.cell 1
          rw [hgy]
          have HA34 := hid hA34
          have HzU34 := hid hzU34
          clear hw34 hgy hB34 hby hbx34 hzU34 HA33 HzU33 Hfr33 Hbx33
          obtain ⟨w35, hput, hm35, hg35⟩ := hA34.mx.put Try.underlying72 (by omega) (x.p.a : Int) (kwf_of (by omega)) (x.val i)
          rw [← keys_put (fl ++ tagF i (l.take q)) (i, x) (M0 + 1) (show x.p.a < M0 + 1 by omega), show putF (pgsF (fl ++ tagF i (l.take q))) (x.p.a : Int) (x.val i) = pgsF ((fl ++ tagF i (l.take q)) ++ [(i, x)]) from (pgs_put _ (i, x) (fun z hz => by rw [show newest ((i, x).2.p.a : Int) (fl ++ tagF i (l.take q)) = none from hnw] at hz; cases hz)).symm, List.append_assoc, ← Htt.out] at hm35
          have hA35 := hA34.page hg35 hm35
          have ho := hA34.ord
          have hzU35 := nums_fr HzU34.out (fr_grown hg35) (fun _ a ha hs => by have := HUl.out a ha; omega)
          have hfr35' : ∀ j, j < ll → ∃ g, (some ⟨gr, 0, none⟩ : Option Addr) = some ⟨g, 0, none⟩ ∧ ∀ k u, ((l.getD j default).cells i)[k]? = some u → w35.cell? ⟨g, j * 8 + k, none⟩ = some u := fun j hj => by
           obtain ⟨g, e, hc⟩ := hfr34.out j hj
           have hg := HRl.out g e
           refine ⟨g, e, fun k u hk => ?_⟩
           have hc' := hc k u hk
           rw [World.cell?_of_block ((fr_grown hg35).block g (World.block_lt_of_cell? w34 _ hc') (by omega))]
           exact hc'
          have hfr35 := hid hfr35'
          have HA35 := hid hA35
          have HzU35 := hid hzU35
          have hput' : (Instr.mapUpdate 72 (.map (some gp)) (.int .i64 (x.p.a : Int)) (.agg #[.int .i64 i, .int .i64 (x.k : Int), .int .u8 (x.p.K : Int), .int .u64 (x.p.E : Int), .int .u64 (x.p.S : Int), .int .i64 (x.p.a : Int), .int .i64 ((x.p.f : Int) - 1), .slice x.A x.n x.c])).run Try.prog w34 = .ok () w35 := hput
          clear hm35 hg35 hA35 ho hzU35 hfr35' hfr34 HA34 HzU34 hput hA34
          go_wp2
          go_roundw
          case rel => exact ⟨q + 1, by omega, by go_num, HA35.out, HzU35.out, hfr35.out⟩
          case measure => simp [intOf]; omega
         | some z =>
          replace hlo : (Instr.lookup 72 (.map (some gp)) (.int .i64 (x.p.a : Int)) true).run Try.prog w33 = .ok (.tuple #[.agg #[.int .i64 z.1, .int .i64 (z.2.k : Int), .int .u8 (z.2.p.K : Int), .int .u64 (z.2.p.E : Int), .int .u64 (z.2.p.S : Int), .int .i64 (z.2.p.a : Int), .int .i64 ((z.2.p.f : Int) - 1), .slice z.2.A z.2.n z.2.c], .bool true]) w33 := by
           rw [hlo]
           unfold pgsF
           rw [hnw]
           rfl
          go_upto_region 35 with (fail)
          generalize hw34 : World.alloc w33 _ = w34
          obtain ⟨gy, hgy⟩ : ∃ g, w33.heap.size = g := ⟨_, rfl⟩
          have hB34 : Below w33.heap.size w33 w34 := by rw [← hw34]; exact (Below.refl _ _).alloc (Nat.le_refl _) _
          have hby : Blk w34 gy #[.int .i64 z.1, .int .i64 (z.2.k : Int), .int .u8 (z.2.p.K : Int), .int .u64 (z.2.p.E : Int), .int .u64 (z.2.p.S : Int), .int .i64 (z.2.p.a : Int), .int .i64 ((z.2.p.f : Int) - 1), .slice z.2.A z.2.n z.2.c] 89 := by rw [← hw34, ← hgy]; exact Blk.new _ _ _
          have hA34 := HA33.out.later hB34
          have hzU34 := HzU33.out.below hB34
          have hfr34 := hid (fun j (hj : j < ll) => (Hfr33.out j hj).imp fun g ⟨e, hc⟩ => (⟨e, fun k u hk => (hB34.cell (World.block_lt_of_cell? w33 _ (hc k u hk))).trans (hc k u hk)⟩ : _ ∧ _))
          have hbx34 := Hbx33.out.later hB34
          have y4 : w34.cell? ⟨gy, 4, none⟩ = some (.int .u64 (z.2.p.S : Int)) := hby.cell 4
          obtain ⟨x0, x1, x2, x3, x4, x5, x6, x7⟩ := Fd.eight hbx34
          have m1 : w34.cell? ⟨g8, 1, none⟩ = some (.map (some gp)) := hA34.b8.cell 1
          rw [hgy]
          have HA34 := hid hA34
          have HzU34 := hid hzU34
          clear hw34 hgy hB34 hby hbx34 hzU34 HA33 HzU33 Hfr33 Hbx33
          by_cases hsl : z.2.p.S < x.p.S
          ·have hslI : (z.2.p.S : Int) < (x.p.S : Int) := by omega
           obtain ⟨w35, hput, hm35, hg35⟩ := hA34.mx.put Try.underlying72 (by omega) (x.p.a : Int) (kwf_of (by omega)) (x.val i)
           rw [← keys_put (fl ++ tagF i (l.take q)) (i, x) (M0 + 1) (show x.p.a < M0 + 1 by omega), show putF (pgsF (fl ++ tagF i (l.take q))) (x.p.a : Int) (x.val i) = pgsF ((fl ++ tagF i (l.take q)) ++ [(i, x)]) from (pgs_put _ (i, x) (fun z' hz => by rw [show newest ((i, x).2.p.a : Int) (fl ++ tagF i (l.take q)) = some z from hnw] at hz; injection hz with hz; rw [← hz]; exact hsl)).symm, List.append_assoc, ← Htt.out] at hm35
           have hA35 := hA34.page hg35 hm35
           have ho := hA34.ord
           have hzU35 := nums_fr HzU34.out (fr_grown hg35) (fun _ a ha hs => by have := HUl.out a ha; omega)
           have hfr35' : ∀ j, j < ll → ∃ g, (some ⟨gr, 0, none⟩ : Option Addr) = some ⟨g, 0, none⟩ ∧ ∀ k u, ((l.getD j default).cells i)[k]? = some u → w35.cell? ⟨g, j * 8 + k, none⟩ = some u := fun j hj => by
            obtain ⟨g, e, hc⟩ := hfr34.out j hj
            have hg := HRl.out g e
            refine ⟨g, e, fun k u hk => ?_⟩
            have hc' := hc k u hk
            rw [World.cell?_of_block ((fr_grown hg35).block g (World.block_lt_of_cell? w34 _ hc') (by omega))]
            exact hc'
           have hfr35 := hid hfr35'
           have HA35 := hid hA35
           have HzU35 := hid hzU35
           have hput' : (Instr.mapUpdate 72 (.map (some gp)) (.int .i64 (x.p.a : Int)) (.agg #[.int .i64 i, .int .i64 (x.k : Int), .int .u8 (x.p.K : Int), .int .u64 (x.p.E : Int), .int .u64 (x.p.S : Int), .int .i64 (x.p.a : Int), .int .i64 ((x.p.f : Int) - 1), .slice x.A x.n x.c])).run Try.prog w34 = .ok () w35 := hput
           clear hm35 hg35 hA35 ho hzU35 hfr35' hfr34 HA34 HzU34 hput hA34
           go_wp2
           go_roundw
           case rel => exact ⟨q + 1, by omega, by go_num, HA35.out, HzU35.out, hfr35.out⟩
           case measure => simp [intOf]; omega
          ·have hslI : (x.p.S : Int) ≤ (z.2.p.S : Int) := by omega
           clear x0 x1 x2 x3 x5 x6 x7
           go_wp2
           go_roundw
           case rel => exact ⟨q + 1, by omega, by go_num, (by
            have h1 := pgs_same _ (i, x) z hnw hsl
            have h2 := keys_same (fl ++ tagF i (l.take q)) (i, x) (M0 + 1) (by rw [show newest ((i, x).2.p.a : Int) (fl ++ tagF i (l.take q)) = some z from hnw]; rfl)
            rw [Htt.out, ← List.append_assoc, h1, h2]
            exact HA34.out.npm (by omega)), HzU34.out, hfr34.out⟩
           case measure => simp [intOf]; omega
        ·obtain rfl : q = ll := by omega
         have e2 : l.take q = l := List.take_of_length_le (by rw [Hlle.out]; exact Nat.le_refl _)
         rw [e2, ← Hfs.out] at hA
         have HA := hid hA
         have HzU := hid hzU
         clear e2 hA hzU hfr hlq
         go_wp2
         go_roundw
         case rel => exact ⟨r' + 1, np' + q, by omega, by omega, by go_num, HA.out, HzU.out⟩
         case measure => simp [intOf]; omega
      ·obtain rfl : r' = r := by omega
       have e2 : xs.take r' = xs := List.take_of_length_le (by omega)
       rw [e2] at hA
       obtain ⟨FL, hFL⟩ : ∃ FL, flatF xs L' = FL := ⟨_, rfl⟩
       rw [hFL] at hA
       have hUq := Huq.out FL hFL
       obtain ⟨D, hown, -, hD⟩ := hA.mx
       have m1 : wr.cell? ⟨g8, 1, none⟩ = some (.map (some gp)) := hA.b8.cell 1
       have HFL := hid hFL
       have HUq := hid hUq
       have HD := hid hD
       have HA := hid hA
       have Hle : wr.heap.size = wr.heap.size := rfl
       clear hA hUq hD e2 hFL hzU hlr Hle
       go_wp2_with (first
        | (at_range; refine wpList_range_own _ rfl _ 72 rfl 3 89 lawInt Try.underlying72 _ gp np' D rfl hown ?_; intro w0 hrg0 hg0 hs0)
        | go_in)
       go_frame
       obtain ⟨W0, rfl⟩ : ∃ W, W = wr := ⟨_, rfl⟩
       obtain ⟨r0, hr0⟩ : ∃ r, W0.heap.size = r := ⟨_, rfl⟩
       rw [hr0] at hrg0 ⊢
       have hlts : ga < r0 ∧ gh < r0 ∧ gc < r0 ∧ bm < r0 := by rw [← hr0]; exact ⟨HA.out.pm.ats.lt, HA.out.pm.hass.lt, HA.out.pm.cnts.lt, HA.out.pm.blk.lt⟩
       have hf0 : Nand.Fr (fun x => x = ga ∨ x = gh ∨ x = gc) W0 w0 := Nand.Fr.of_grown hg0 (fun k hk => by cases hk)
       have hB0 : Below W0.heap.size W0 w0 := ⟨hg0.os, hg0.tape, hg0.output, hg0.size, fun i hi => hg0.block i hi (by simp)⟩
       have hpm0 := HA.out.pm.later hB0
       have hag0 : Agree FL (Maps.has D) (M0 + 1) at0 has0 := fun a ha => by
        refine ⟨?_, fun h => by rw [HH0.out] at h; cases h⟩
        rw [HH0.out]
        obtain ⟨d1, d2⟩ := HD.out (a : Int) (kwf_of (by omega))
        cases hn : newest (a : Int) FL with
        | none => rfl
        | some y =>
         rw [(d2 _ (by unfold pgsF; rw [hn]; rfl)).1]
         rfl
       have Hrg0 := hid hrg0
       have Hf0 := hid hf0
       have Hpm0 := hid hpm0
       have Hag0 := hid hag0
       have Hr0 := hid hr0
       clear hf0 hpm0 hag0 hg0 hs0 hB0 hown m1 hr0 hrg0
       go_loopw [24] (fun _ w' => ∃ (left : Lit → Bool) (cnt : Nat) (at2 : List (Int × Int)) (has2 : List Bool) (cn2 : List Int), w'.ranges Try.prog 3 valR gp r0 np' D left cnt ∧ Nand.Fr (fun x => x = ga ∨ x = gh ∨ x = gc) W0 w' ∧ PM w' bm ga gh gc (M0 + 1) nb at2 has2 cn2 ∧ PI (M0 + 1) nb at2 has2 cn2 ∧ Agree FL left (M0 + 1) at2 has2) (fun _ w' => w'.rangeLeft gp r0)
       case atStart => exact ⟨_, _, at0, has0, cnt0, Hrg0.out, Hf0.out, Hpm0.out, HPI.out, Hag0.out⟩
       case round =>
        clear Hrg0 Hf0 Hpm0 Hag0
        obtain ⟨left, cnt, at2, has2, cn2, hrg, hf, hpm, hpi, hag⟩ := hrel
        have Hrg := hid hrg
        have Hf := hid hf
        have Hpm := hid hpm
        have Hpi := hid hpi
        have Hag := hid hag
        clear hf hpm hpi hag
        go_wp2_with (first
         | (at_next; refine wpList_next_ranges _ rfl _ rfl 3 lawInt valR (Value.int .i64) (fun v : Value => v) keyInt (fun v y _ => ⟨v, rfl⟩) gp r0 np' D left cnt rfl hrg ?_ ?_)
         | go_in)
        ·intro _ hl0
         have ho := HA.out.ord
         have hS8 : ¬ (g8 = ga ∨ g8 = gh ∨ g8 = gc) := by omega
         have hb8 := blk_fr HA.out.b8 Hf.out hS8
         have hb4 : Blk wr g4 #[.pointer none, .map none, .int .u64 0, .slice none 0 0] 74 := blk_fr HA.out.b4 Hf.out (by omega)
         obtain ⟨⟨k0, k1, k2, k3⟩, -⟩ := blk_four hb8
         obtain ⟨⟨y0, y1, y2, y3⟩, f0, f1, f2, f3⟩ := blk_four hb4
         have hmx := mx_fr HA.out.mx Hf.out (by omega)
         have hspo := own_keep HA.out.spo (fun g hg => Hf.out.block g (HA.out.spo.lt g hg).2 (by have := (HA.out.spo.lt g hg).1; omega))
         have hth : ∀ y ∈ FL, y.2.there wr := fun y hy => by
          rw [← HFL.out] at hy
          obtain ⟨i, hi, hy'⟩ := List.mem_flatMap.1 hy
          obtain ⟨x, hx, rfl⟩ := List.mem_map.1 hy'
          have hib := Hub.out i hi
          have hf := (HA.out.by_.at_ i (kwf_of (by omega))).2 x hx
          exact ⟨hf.1.1, nums_fr hf.1.2 Hf.out (fun hn a ha hs => by have := (hf.2 hn a ha).2; omega)⟩
         have hbel : Below w.heap.size w wr := HA.out.keep Hf.out (fun g hg => by omega)
         have hF4 : Nand.Fr (fun x => x = g4) wr ((((wr.setCell ⟨g4, 0, none⟩ (.pointer (some ⟨bm, 0, none⟩))).setCell ⟨g4, 1, none⟩ (.map (some gp))).setCell ⟨g4, 2, none⟩ (.int .u64 (fin : Int))).setCell ⟨g4, 3, none⟩ spv) := ((((Nand.Fr.refl (fun x => x = g4) wr).set g4 0 _ (.inl rfl)).set g4 1 _ (.inl rfl)).set g4 2 _ (.inl rfl)).set g4 3 _ (.inl rfl)
         have hR : AllR ((((wr.setCell ⟨g4, 0, none⟩ (.pointer (some ⟨bm, 0, none⟩))).setCell ⟨g4, 1, none⟩ (.map (some gp))).setCell ⟨g4, 2, none⟩ (.int .u64 (fin : Int))).setCell ⟨g4, 3, none⟩ spv) w.heap.size bm ga gh gc gp np' (M0 + 1) nb FL spv spl at2 has2 cn2 := by
          refine ⟨pm_fr Hpm.out hF4 (by omega) (by omega) (by omega) (by omega), Hpi.out, mx_fr hmx hF4 (by omega), fun y hy => ⟨(hth y hy).1, ?_⟩, fun a ha => ?_, own_mono (own_keep hspo (fun g hg => hF4.block g (hspo.lt g hg).2 (by have := (hspo.lt g hg).1; omega))) (by omega), by omega⟩
          ·refine nums_fr (hth y hy).2 hF4 (fun hn ad had hs => ?_)
           rw [← HFL.out] at hy
           obtain ⟨i, hi, hy'⟩ := List.mem_flatMap.1 hy
           obtain ⟨x, hx, rfl⟩ := List.mem_map.1 hy'
           have hib := Hub.out i hi
           have := (((HA.out.by_.at_ i (kwf_of (by omega))).2 x hx).2 hn ad had).2
           omega
          ·obtain ⟨e1, e2⟩ := Hag.out a ha
           rw [hl0, Bool.not_false, Bool.and_true] at e1
           refine ⟨e1, fun y hy => e2 (by rw [e1, hy]; rfl) y hy⟩
         have hbF : Below w.heap.size w ((((wr.setCell ⟨g4, 0, none⟩ (.pointer (some ⟨bm, 0, none⟩))).setCell ⟨g4, 1, none⟩ (.map (some gp))).setCell ⟨g4, 2, none⟩ (.int .u64 (fin : Int))).setCell ⟨g4, 3, none⟩ spv) := hbel.trans (hF4.below hbel.size (fun g hg => by omega))
         have hbk : Blk ((((wr.setCell ⟨g4, 0, none⟩ (.pointer (some ⟨bm, 0, none⟩))).setCell ⟨g4, 1, none⟩ (.map (some gp))).setCell ⟨g4, 2, none⟩ (.int .u64 (fin : Int))).setCell ⟨g4, 3, none⟩ spv) g4 #[.pointer (some ⟨bm, 0, none⟩), .map (some gp), .int .u64 (fin : Int), spv] 74 := by
          have := (((hb4.set 0 (.pointer (some ⟨bm, 0, none⟩))).set 1 (.map (some gp))).set 2 (.int .u64 (fin : Int))).set 3 spv
          simpa using this
         obtain ⟨A9, c9, hv9⟩ := row_slice hspo
         have HR := hid hR
         have HbF := hid hbF
         have Hbk := hid hbk
         clear hR hbF hbk hF4 hbel hth hspo hmx hb8 hb4 hS8 ho hl0 hrg Hrg
         subst hv9
         go_wp2
         refine bodyPost_ret (Go.Proofs.Ytpcbpljdiacbmaa.Sheet.results_row_tmp (P := Try.prog) rfl _ _ g4 _ _ (0, 0) _ rfl Hbk.out Try.underlying74 rfl (by kernel_rfl)) rfl ?_
         have r1 : ∀ i : Nat, (i : Int) ∈ us nb bad → (L (i : Int)).map (fun x => (x.k, x.p)) = found (M0 : Int) (NB.seen (N.blk i)) := by
          rw [Hxs.out]
          exact Hin.out
         have r2 : AllR ((((wr.setCell ⟨g4, 0, none⟩ (.pointer (some ⟨bm, 0, none⟩))).setCell ⟨g4, 1, none⟩ (.map (some gp))).setCell ⟨g4, 2, none⟩ (.int .u64 (fin : Int))).setCell ⟨g4, 3, none⟩ (.slice A9 spl.length c9)) w.heap.size bm ga gh gc gp np' (M0 + 1) nb (flatF (us nb bad) (spoilS (us nb bad) L).1) (.slice A9 spl.length c9) (spoilS (us nb bad) L).2 at2 has2 cn2 := by
          rw [Hxs.out, Hst.out]
          show AllR _ _ _ _ _ _ _ _ _ _ (flatF xs L') _ spl _ _ _
          rw [HFL.out]
          exact HR.out
         have r3 : seqOf (flatF (us nb bad) L) = fin := by rw [Hxs.out]; exact Hfin.out
         exact Exists.intro L (Exists.intro bm (Exists.intro ga (Exists.intro gh (Exists.intro gc (Exists.intro gp (Exists.intro np' (Exists.intro (.slice A9 spl.length c9) (Exists.intro at2 (Exists.intro has2 (Exists.intro cn2 ⟨by rw [r3]; rfl, ⟨by rw [Hxs.out]; exact HoutA.out, r1⟩, r2, HbF.out⟩))))))))))
        ·intro x v kl y1 y2 w1 cnt1 hkey hlk hv hat hrg1 hlt hg1 hs1 hen
         obtain ⟨x', ex, rfl, hwx⟩ := Maps.keyOf_int_inv Try.underlying3 hkey
         injection ex with _ ex
         subst ex
         injection hv with hv
         injection hv with hv1 hv2
         subst hv1
         obtain ⟨d1, d2⟩ := HD.out x hwx
         have hhas := has_true_of_atKey hat
         obtain ⟨z, hz⟩ : ∃ z, newest x FL = some z := by
          cases hn : newest x FL with
          | none =>
           rw [d1 (by unfold pgsF; rw [hn]; rfl)] at hhas
           cases hhas
          | some z => exact ⟨z, rfl⟩
         have hvz : v = z.2.val z.1 := by
          have h1 := (d2 _ (by unfold pgsF; rw [hz]; rfl)).2 (.held v)
          rw [hat] at h1
          injection h1
         obtain ⟨hzm, hza⟩ := newest_spec x FL z hz
         obtain ⟨j, hj, hjn, hja, hjk⟩ := HUq.out.1 z hzm
         subst hza
         replace hvz : v = .agg #[.int .i64 (j : Int), .int .i64 (z.2.k : Int), .int .u8 (z.2.p.K : Int), .int .u64 (z.2.p.E : Int), .int .u64 (z.2.p.S : Int), .int .i64 (z.2.p.a : Int), .int .i64 ((z.2.p.f : Int) - 1), .slice z.2.A z.2.n z.2.c] := by rw [hvz, ← hj]; rfl
         subst hvz
         replace hen : (Instr.entry (.pointer (some ⟨r0, 0, none⟩))).run Try.prog w1 = .ok (.tuple #[.int .i64 (z.2.p.a : Int), .agg #[.int .i64 (j : Int), .int .i64 (z.2.k : Int), .int .u8 (z.2.p.K : Int), .int .u64 (z.2.p.E : Int), .int .u64 (z.2.p.S : Int), .int .i64 (z.2.p.a : Int), .int .i64 ((z.2.p.f : Int) - 1), .slice z.2.A z.2.n z.2.c]]) w1 := hen
         have Hz := hid hz
         have Hzm := hid hzm
         have Hj := hid hj
         have Hlk := hid hlk
         clear hlk
         have hSr : ∀ g, g = r0 → g ≠ ga ∧ g ≠ gh ∧ g ≠ gc ∧ g ≠ bm := fun g e => by omega
         have hpm1 : PM w1 bm ga gh gc (M0 + 1) nb at2 has2 cn2 := pm_fr Hpm.out (fr_grown hg1) (fun e => (hSr _ e).2.2.2 rfl) (fun e => (hSr _ e).1 rfl) (fun e => (hSr _ e).2.1 rfl) (fun e => (hSr _ e).2.2.1 rfl)
         have hf1 : Nand.Fr (fun x => x = ga ∨ x = gh ∨ x = gc) W0 w1 := Hf.out.trans (fr_grown hg1) (fun g hg e => by rw [Hr0.out] at hg; omega)
         have Hpm1 := hid hpm1
         have Hf1 := hid hf1
         have Hrg1 := hid hrg1
         have Hlt := hid hlt
         have hmr : w1.rangeLeft gp r0 = cnt1 := hrg1.left_eq
         have hmr0 := hrg.left_eq
         have Hmr0 := hid hmr0
         clear hz hzm hj hpm1 hf1 hrg1 hlt hSr hkey hat hhas d1 d2 hwx hg1 hs1 hmr hmr0 hrg Hpm Hf
         go_upto_region 42 with (fail)
         generalize hw41 : World.alloc w1 _ = w41
         obtain ⟨gx, hgx⟩ : ∃ g, w1.heap.size = g := ⟨_, rfl⟩
         have hB41 : Below w1.heap.size w1 w41 := by rw [← hw41]; exact (Below.refl _ _).alloc (Nat.le_refl _) _
         have hbx : Blk w41 gx #[.int .i64 (j : Int), .int .i64 (z.2.k : Int), .int .u8 (z.2.p.K : Int), .int .u64 (z.2.p.E : Int), .int .u64 (z.2.p.S : Int), .int .i64 (z.2.p.a : Int), .int .i64 ((z.2.p.f : Int) - 1), .slice z.2.A z.2.n z.2.c] 89 := by rw [← hw41, ← hgx]; exact Blk.new _ _ _
         have x0 : w41.cell? ⟨gx, 0, none⟩ = some (.int .i64 (j : Int)) := hbx.cell 0
         have x1 : w41.cell? ⟨gx, 1, none⟩ = some (.int .i64 (z.2.k : Int)) := hbx.cell 1
         have hpm41 := Hpm1.out.later hB41
         have hf41 : Nand.Fr (fun x => x = ga ∨ x = gh ∨ x = gc) W0 w41 := Hf1.out.trans (Nand.Fr.of_below (F := fun _ => False) hB41) (fun _ _ h => h.elim)
         have hrg41 := ranges_fr Hrg1.out (Nand.Fr.of_below (F := fun _ => False) hB41) (fun h => h) (fun h => h)
         have hnew : has2.getD z.2.p.a false = false := by
          rw [(Hag.out z.2.p.a (by omega)).1, Hlk.out]
          simp
         have hst := set_new bm ga gh gc (M0 + 1) nb at2 has2 cn2 w41 hpm41 Hpi.out z.2.p.a j z.2.k (by omega) hjn hjk (by omega) hnew (fun a ha hh he => by
          have ha1 := has_lt hh
          rw [Hpi.out.lh] at ha1
          obtain ⟨g1, g2⟩ := Hag.out a ha1
          have his := hh
          rw [g1] at his
          cases hn : newest (a : Int) FL with
          | none => rw [hn] at his; cases his
          | some y =>
           have e1 := g2 hh y hn
           rw [he] at e1
           obtain ⟨hym, hya⟩ := newest_spec (a : Int) FL y hn
           injection e1 with e2 e3
           have := HUq.out.2 y z hym Hzm.out (by rw [Hj.out]; exact e2.symm) (by omega)
           rw [this] at hya
           exact ha (by omega))
         rw [hgx]
         have Hpm41 := hid hpm41
         have Hf41 := hid hf41
         have Hrg41 := hid hrg41
         clear hw41 hgx hB41 hbx hpm41 hf41 hrg41 hnew Hpm1 Hf1 Hrg1 hen
         go_wp2_with fail
         refine hst.mono ?_
         rintro e w42 ⟨rfl, cn3, hpm42, hpi42, hfr42⟩
         clear hst x0 x1
         have hf42 : Nand.Fr (fun x => x = ga ∨ x = gh ∨ x = gc) W0 w42 := Hf41.out.trans (fr_pm hfr42) (fun _ _ h => h)
         have hrg42 := ranges_fr Hrg41.out (fr_pm hfr42) (by have := HA.out.ord; omega) (by omega)
         have hag42 : Agree FL (fun z_1 => left z_1 && !z_1.sameKey (.int .i64 (z.2.p.a : Int))) (M0 + 1) (at2.set z.2.p.a ((j : Int), (z.2.k : Int))) (has2.set z.2.p.a true) := fun a ha => by
          rw [getD_set_any _ _ _ _ _ (by rw [Hpi.out.lh]; omega), getD_set_any _ _ _ _ _ (by rw [Hpi.out.la]; omega)]
          show _ = ((newest (a : Int) FL).isSome && !(left (.int .i64 (a : Int)) && !(Lit.int .i64 (a : Int)).sameKey (.int .i64 (z.2.p.a : Int)))) ∧ _
          rw [sameKey_nat]
          obtain ⟨g1, g2⟩ := Hag.out a ha
          by_cases e : a = z.2.p.a
          ·subst e
           rw [if_pos rfl, if_pos rfl, Hz.out]
           refine ⟨by simp, fun _ y hy => ?_⟩
           injection hy with hy
           rw [← hy, Hj.out]
          ·rw [if_neg e, if_neg e, show (a == z.2.p.a) = false by rw [beq_eq_false_iff_ne]; exact e, Bool.not_false, Bool.and_true]
           exact ⟨g1, g2⟩
         have Hpm42 := hid hpm42
         have Hpi42 := hid hpi42
         have Hf42 := hid hf42
         have Hrg42 := hid hrg42
         have Hag42 := hid hag42
         clear hpm42 hpi42 hfr42 hf42 hrg42 hag42 Hpm41 Hf41 Hrg41
         go_wp2
         go_roundw
         case rel => exact ⟨_, cnt1, _, _, _, Hrg42.out, Hf42.out, Hpm42.out, Hpi42.out, Hag42.out⟩
         case measure => rw [Hrg42.out.left_eq, Hmr0.out]; exact Hlt.out
end Go.Proofs.Ytpcbpljdiacbmaa.Scan
