import Derived.Test.YtpcbpljdiacbmaaJScanA
import Derived.Test.YtpcbpljdiacbmaaJLog
import Derived.Deep.RegionHeld3
set_option linter.unusedVariables false
set_option linter.unusedSimpArgs false
namespace Go.Proofs.Ytpcbpljdiacbmaa.Scan
open Go.RowKit Go.Proofs.Ytpcbpljdiacbmaa.Kit Go.Proofs.Ytpcbpljdiacbmaa.Oct Go.Proofs.Ytpcbpljdiacbmaa.Sheet Go.Proofs.Ytpcbpljdiacbmaa.Nand Go.Proofs.Ytpcbpljdiacbmaa.Plan Go.Proofs.Ytpcbpljdiacbmaa.Log

theorem infoF : (Try.prog.info? 89).map (fun i => (i.zero, i.size, i.bytes)) = some (some (.agg #[.int .i64 0, .int .i64 0, .int .u8 0, .int .u64 0, .int .u64 0, .int .i64 0, .int .i64 0, .slice none 0 0]), 8, 80) := by kernel_rfl
theorem _root_.Go.Proofs.Ytpcbpljdiacbmaa.Kit.Blk.four {w : World} {g : Nat} {v0 v1 v2 v3 : Value} {T : TypeId} (h : Blk w g #[v0, v1, v2, v3] T) : w.cell? ⟨g, 0, none⟩ = some v0 ∧ w.cell? ⟨g, 1, none⟩ = some v1 ∧ w.cell? ⟨g, 2, none⟩ = some v2 ∧ w.cell? ⟨g, 3, none⟩ = some v3 := ⟨h.cell 0, h.cell 1, h.cell 2, h.cell 3⟩

/-- What stands on a block, for those who read it: its pages; none, where an erasing was cut. -/
def NB.seen (x : NB) : List (List Int) := if x.half then [] else x.pages

set_option maxRecDepth 100000 in
set_option maxHeartbeats 8000000 in
theorem block_yes {w : World} {F : Nat → Prop} {b : Nat} {N : NA} (h : Arr w F b N) (nb np : Nat) (hnb : N.bs.length = nb) (hnp : N.pages = np) (hon : N.off = false) (hby : ∀ (j : Nat) (q : List Int), q ∈ (N.blk j).pages → IsB q) (S : Int) (A : Option Addr) (n c : Nat) (bad : List Int) (hg : Geo w nb np S A n c bad) (i : Nat) (hi : Plan.has (i : Int) (us nb bad) = true) (hil : i < nb) :
  Calls Try.prog 58 #[.pointer (some ⟨b, 0, none⟩), .agg #[.int .i64 (nb : Int), .int .i64 (np : Int), .int .i64 S, .slice A n c], .int .i64 (i : Int)] w fun e w' => ∃ v l, e = .returned (.tuple #[v, .int .i64 0]) ∧ Fnds w' w.heap.size v (i : Int) l ∧ l.map (fun x => (x.k, x.p)) = found (cap nb np S bad) (NB.seen (N.blk i)) ∧ Below w.heap.size w w' := by
 have hus := hi
 have hwf := h.wf
 have hnl := hwf.len i (by omega)
 have hnp2 := hwf.np
 obtain ⟨m, hm⟩ : ∃ m, (N.blk i).pages.length = m := ⟨_, rfl⟩
 obtain ⟨lim, hlim⟩ : ∃ l, cap nb np S bad = l := ⟨_, rfl⟩
 have hnx : ∀ W, Below w.heap.size w W → Calls Try.prog 41 #[.pointer (some ⟨b, 0, none⟩), .int .i64 (i : Int)] W fun e w' => e = .returned (.int .i64 (m : Int)) ∧ w' = W := fun W hW => by
  have := next_any F b N (i : Int) W (h.later hW)
  rw [show N.inI (i : Int) = true by unfold NA.inI; simp; omega, if_pos rfl, Int.toNat_natCast, hm] at this
  exact this
 have hrd1 : (N.blk i).half = true → ∀ W (p : Nat), Below w.heap.size w W → p < m → Calls Try.prog 32 #[.pointer (some ⟨b, 0, none⟩), .int .i64 (i : Int), .int .i64 (p : Int)] W fun e w' => e = .returned (.tuple #[.slice none 0 0, .int .i64 4]) ∧ w' = W := fun hh W p hW hp => by
  have he : N.readE (i : Int) (p : Int) = 4 := by
   rw [readE_eq (atE_in i (by omega) hon)]
   unfold NA.readE2
   rw [if_neg (by omega), if_neg (by omega), if_pos hh]
  have := read_no F b N (i : Int) (p : Int) W (h.later hW) (by rw [he]; decide)
  rw [he] at this
  exact this
 have hrd2 : (N.blk i).half = false → ∀ W (p : Nat), Below w.heap.size w W → p < m → Calls Try.prog 32 #[.pointer (some ⟨b, 0, none⟩), .int .i64 (i : Int), .int .i64 (p : Int)] W fun e w' => ∃ A c, e = .returned (.tuple #[.slice A 96 c, .int .i64 0]) ∧ (96 ≤ c ∧ Nums w' .u8 A 96 ((N.blk i).pages.getD p [])) ∧ Below W.heap.size W w' := fun hh W p hW hp => by
  have he : N.readE (i : Int) (p : Int) = 0 := by
   rw [readE_eq (atE_in i (by omega) hon)]
   unfold NA.readE2
   rw [if_neg (by omega), if_neg (by omega), if_neg (by rw [hh]; simp)]
  refine (read_yes F b N (i : Int) (p : Int) W (h.later hW) he).mono ?_
  rintro e w' ⟨A, c, he, ho, hB⟩
  refine ⟨A, c, he, ?_, hB⟩
  have hpg : N.page (i : Int) (p : Int) = (N.blk i).pages.getD p [] := rfl
  rw [hpg] at ho
  refine own_reads ho (wf_of (hby i _ ?_))
  rw [List.getD_eq_getElem?_getD, List.getElem?_eq_getElem (by omega)]
  exact List.getElem_mem _
 have hcb := cap_bd (bad := bad) hg.bd.2.1 hg.bd.2.2.2.1 hg.bd.2.2.2.2.1
 rw [hlim] at hcb
 rw [hlim]
 have hbl : ∀ W, Below w.heap.size w W → Calls Try.prog 54 #[.pointer (some ⟨b, 0, none⟩)] W fun e w' => e = .returned (.int .i64 (nb : Int)) ∧ w' = W := fun W hW => by
  have := blocks_any F b N W (h.later hW)
  rw [hnb] at this
  exact this
 have hpg : ∀ W, Below w.heap.size w W → Calls Try.prog 55 #[.pointer (some ⟨b, 0, none⟩)] W fun e w' => e = .returned (.int .i64 (np : Int)) ∧ w' = W := fun W hW => by
  have := pages_any F b N W (h.later hW)
  rw [hnp] at this
  exact this
 go_enter Try.func58, Try.ntmps58
 go_upto_region 1 with (fail)
 obtain ⟨g4, hg4⟩ : ∃ g, w.heap.size = g := ⟨_, rfl⟩
 generalize hw2 : World.alloc w _ = w2
 have hb4 : Blk w2 g4 #[.int .i64 (nb : Int), .int .i64 (np : Int), .int .i64 S, .slice A n c] 26 := by rw [← hw2, ← hg4]; exact Blk.new w _ _
 have hB2 : Below w.heap.size w w2 := by rw [← hw2]; exact (Below.refl _ _).alloc (Nat.le_refl _) _
 rw [hg4]
 have HBl := hid (fun W (hW : Below w2.heap.size w2 W) => hbl W (hB2.trans (hW.mono hB2.size)))
 have HPg := hid (fun W (hW : Below w2.heap.size w2 W) => hpg W (hB2.trans (hW.mono hB2.size)))
 have HG := hid (fun W (hW : Below w2.heap.size w2 W) => hg.later (hB2.trans (hW.mono hB2.size)))
 have HC := hid (fun W (hW : Below w2.heap.size w2 W) => (hb4.later hW).four)
 have hBd : Below w2.heap.size w2 w2.drew := below_drewN (Below.refl _ _) 1
 have Hg4 := hid hg4
 have Hb4 := hid hb4
 clear hw2 hbl hpg hg4 hb4
 go_upto_region 3 with (fail)
 refine wp_region_held_drew (S := (fun w' => w'.cell? ⟨g4, 0, none⟩ = some (.int .i64 (nb : Int)) ∧ w'.cell? ⟨g4, 1, none⟩ = some (.int .i64 (np : Int)) ∧ w'.cell? ⟨g4, 2, none⟩ = some (.int .i64 S) ∧ w'.cell? ⟨g4, 3, none⟩ = some (.slice A n c))) (by kernel_rfl) ?hSnewAz (fun hHeld => ?restAz)
 case hSnewAz => ((try dsimp only); exact HC.out _ hBd)
 refine wpAnyH_take (i := 0) (oi := ?oiAx0) (v := ?vAx0) ?hoAx0 ?h1Ax0 ?h2Ax0 ?h3Ax0 ?hqAx0 (Or.inl ⟨?h4Ax0, ?hyAx0⟩) (by assumption) ?restAx0
 case hoAx0 => (simp only [qa, qb, qc]; rfl)
 case h1Ax0 => kernel_rfl
 case h2Ax0 => kernel_rfl
 case h3Ax0 => kernel_rfl
 case h4Ax0 => rfl
 case hqAx0 => exact fun _ _ _ h => h
 case hyAx0 => (intro w hSw; (try dsimp only at hSw); go_simp <;> with_reducible rfl)
 (try simp only [Act.put, qd, qe, qf])
 refine wpAnyH_ready (rs := [1]) (by kernel_rfl) (by simp) ?_
 refine AllReadyH.cons (o := ?oiAx1) ?hoAx1 (fun K hK => ?restAx1) ?moreAx1
 case moreAx1 => exact AllReadyH.nil
 case hoAx1 => (simp only [qa, qb, qc]; rfl)
 go_simp
 refine (geo_form (HG.out _ hBd)).mono ?_
 rintro e w5 ⟨rfl, hB5'⟩
 have hB5 := hBd.trans (hB5'.mono hBd.size)
 try go_wp2_with fail
 refine hK.out _ _ ?hSnewAy1 (fun hHeld => ?restAy1)
 case hSnewAy1 => ((try dsimp only); exact HC.out _ hB5)
 clear hK K
 (try simp only [Act.put, qd, qe, qf])
 refine wpAnyH_take (i := 2) (oi := ?oiAx2) (v := ?vAx2) ?hoAx2 ?h1Ax2 ?h2Ax2 ?h3Ax2 ?hqAx2 (Or.inl ⟨?h4Ax2, ?hyAx2⟩) (by assumption) ?restAx2
 case hoAx2 => (simp only [qa, qb, qc]; rfl)
 case h1Ax2 => kernel_rfl
 case h2Ax2 => kernel_rfl
 case h3Ax2 => kernel_rfl
 case h4Ax2 => rfl
 case hqAx2 => exact fun _ _ _ h => h
 case hyAx2 => (intro w hSw; (try dsimp only at hSw); go_simp <;> with_reducible rfl)
 (try simp only [Act.put, qd, qe, qf])
 refine wpAnyH_take (i := 3) (oi := ?oiAx3) (v := ?vAx3) ?hoAx3 ?h1Ax3 ?h2Ax3 ?h3Ax3 ?hqAx3 (Or.inl ⟨?h4Ax3, ?hyAx3⟩) (by assumption) ?restAx3
 case hoAx3 => (simp only [qa, qb, qc]; rfl)
 case h1Ax3 => kernel_rfl
 case h2Ax3 => kernel_rfl
 case h3Ax3 => kernel_rfl
 case h4Ax3 => rfl
 case hqAx3 => exact fun _ _ _ h => h
 case hyAx3 => (intro w hSw; (try dsimp only at hSw); go_simp <;> with_reducible rfl)
 (try simp only [Act.put, qd, qe, qf])
 refine wpAnyH_take (i := 4) (oi := ?oiAx4) (v := ?vAx4) ?hoAx4 ?h1Ax4 ?h2Ax4 ?h3Ax4 ?hqAx4 (Or.inl ⟨?h4Ax4, ?hyAx4⟩) (by assumption) ?restAx4
 case hoAx4 => (simp only [qa, qb, qc]; rfl)
 case h1Ax4 => kernel_rfl
 case h2Ax4 => kernel_rfl
 case h3Ax4 => kernel_rfl
 case h4Ax4 => rfl
 case hqAx4 => exact fun _ _ _ h => h
 case hyAx4 => (intro w hSw; (try dsimp only at hSw); go_simp <;> with_reducible rfl)
 (try simp only [Act.put, qd, qe, qf])
 refine wpAnyH_take (i := 6) (oi := ?oiAx6) (v := ?vAx6) ?hoAx6 ?h1Ax6 ?h2Ax6 ?h3Ax6 ?hqAx6 (Or.inl ⟨?h4Ax6, ?hyAx6⟩) (by assumption) ?restAx6
 case hoAx6 => (simp only [qa, qb, qc]; rfl)
 case h1Ax6 => kernel_rfl
 case h2Ax6 => kernel_rfl
 case h3Ax6 => kernel_rfl
 case h4Ax6 => rfl
 case hqAx6 => exact fun _ _ _ h => h
 case hyAx6 => (intro w hSw; (try dsimp only at hSw); go_simp <;> with_reducible rfl)
 (try simp only [Act.put, qd, qe, qf])
 refine wpAnyH_take (i := 7) (oi := ?oiAx7) (v := ?vAx7) ?hoAx7 ?h1Ax7 ?h2Ax7 ?h3Ax7 ?hqAx7 (Or.inl ⟨?h4Ax7, ?hyAx7⟩) (by assumption) ?restAx7
 case hoAx7 => (simp only [qa, qb, qc]; rfl)
 case h1Ax7 => kernel_rfl
 case h2Ax7 => kernel_rfl
 case h3Ax7 => kernel_rfl
 case h4Ax7 => rfl
 case hqAx7 => exact fun _ _ _ h => h
 case hyAx7 => (intro w hSw; (try dsimp only at hSw); go_simp <;> with_reducible rfl)
 (try simp only [Act.put, qd, qe, qf])
 refine wpAnyH_ready (rs := [5]) (by kernel_rfl) (by simp) ?_
 refine AllReadyH.cons (o := ?oiAx5) ?hoAx5 (fun K hK => ?restAx5) ?moreAx5
 case moreAx5 => exact AllReadyH.nil
 case hoAx5 => (simp only [qa, qb, qc]; rfl)
 go_simp
 refine (HBl.out _ hB5).mono ?_
 rintro e w6 ⟨rfl, rfl⟩
 try go_wp2_with fail
 refine hK.out _ _ ?hSnewAy5 (fun hHeld => ?restAy5)
 case hSnewAy5 => ((try dsimp only); exact HC.out _ hB5)
 clear hK K
 (try simp only [Act.put, qd, qe, qf])
 refine wpAnyH_take (i := 8) (oi := ?oiAx8) (v := ?vAx8) ?hoAx8 ?h1Ax8 ?h2Ax8 ?h3Ax8 ?hqAx8 (Or.inl ⟨?h4Ax8, ?hyAx8⟩) (by assumption) ?restAx8
 case hoAx8 => (simp only [qa, qb, qc]; rfl)
 case h1Ax8 => kernel_rfl
 case h2Ax8 => kernel_rfl
 case h3Ax8 => kernel_rfl
 case h4Ax8 => rfl
 case hqAx8 => exact fun _ _ _ h => h
 case hyAx8 => (intro w hSw; (try dsimp only at hSw); go_simp <;> with_reducible rfl)
 (try simp only [Act.put, qd, qe, qf])
 refine wpAnyH_take (i := 9) (oi := ?oiAx9) (v := ?vAx9) ?hoAx9 ?h1Ax9 ?h2Ax9 ?h3Ax9 ?hqAx9 (Or.inl ⟨?h4Ax9, ?hyAx9⟩) (by assumption) ?restAx9
 case hoAx9 => (simp only [qa, qb, qc]; rfl)
 case h1Ax9 => kernel_rfl
 case h2Ax9 => kernel_rfl
 case h3Ax9 => kernel_rfl
 case h4Ax9 => rfl
 case hqAx9 => exact fun _ _ _ h => h
 case hyAx9 => (intro w hSw; (try dsimp only at hSw); go_simp <;> with_reducible rfl)
 (try simp only [Act.put, qd, qe, qf])
 refine wpAnyH_take (i := 10) (oi := ?oiAx10) (v := ?vAx10) ?hoAx10 ?h1Ax10 ?h2Ax10 ?h3Ax10 ?hqAx10 (Or.inl ⟨?h4Ax10, ?hyAx10⟩) (by assumption) ?restAx10
 case hoAx10 => (simp only [qa, qb, qc]; rfl)
 case h1Ax10 => kernel_rfl
 case h2Ax10 => kernel_rfl
 case h3Ax10 => kernel_rfl
 case h4Ax10 => rfl
 case hqAx10 => exact fun _ _ _ h => h
 case hyAx10 => (intro w hSw; (try dsimp only at hSw); go_simp <;> with_reducible rfl)
 (try simp only [Act.put, qd, qe, qf])
 refine wpAnyH_take (i := 11) (oi := ?oiAx11) (v := ?vAx11) ?hoAx11 ?h1Ax11 ?h2Ax11 ?h3Ax11 ?hqAx11 (Or.inl ⟨?h4Ax11, ?hyAx11⟩) (by assumption) ?restAx11
 case hoAx11 => (simp only [qa, qb, qc]; rfl)
 case h1Ax11 => kernel_rfl
 case h2Ax11 => kernel_rfl
 case h3Ax11 => kernel_rfl
 case h4Ax11 => rfl
 case hqAx11 => exact fun _ _ _ h => h
 case hyAx11 => (intro w hSw; (try dsimp only at hSw); go_simp <;> with_reducible rfl)
 (try simp only [Act.put, qd, qe, qf])
 refine wpAnyH_take (i := 13) (oi := ?oiAx13) (v := ?vAx13) ?hoAx13 ?h1Ax13 ?h2Ax13 ?h3Ax13 ?hqAx13 (Or.inl ⟨?h4Ax13, ?hyAx13⟩) (by assumption) ?restAx13
 case hoAx13 => (simp only [qa, qb, qc]; rfl)
 case h1Ax13 => kernel_rfl
 case h2Ax13 => kernel_rfl
 case h3Ax13 => kernel_rfl
 case h4Ax13 => rfl
 case hqAx13 => exact fun _ _ _ h => h
 case hyAx13 => (intro w hSw; (try dsimp only at hSw); go_simp <;> with_reducible rfl)
 (try simp only [Act.put, qd, qe, qf])
 refine wpAnyH_take (i := 14) (oi := ?oiAx14) (v := ?vAx14) ?hoAx14 ?h1Ax14 ?h2Ax14 ?h3Ax14 ?hqAx14 (Or.inl ⟨?h4Ax14, ?hyAx14⟩) (by assumption) ?restAx14
 case hoAx14 => (simp only [qa, qb, qc]; rfl)
 case h1Ax14 => kernel_rfl
 case h2Ax14 => kernel_rfl
 case h3Ax14 => kernel_rfl
 case h4Ax14 => rfl
 case hqAx14 => exact fun _ _ _ h => h
 case hyAx14 => (intro w hSw; (try dsimp only at hSw); go_simp <;> with_reducible rfl)
 (try simp only [Act.put, qd, qe, qf])
 refine wpAnyH_ready (rs := [12]) (by kernel_rfl) (by simp) ?_
 refine AllReadyH.cons (o := ?oiAx12) ?hoAx12 (fun K hK => ?restAx12) ?moreAx12
 case moreAx12 => exact AllReadyH.nil
 case hoAx12 => (simp only [qa, qb, qc]; rfl)
 go_simp
 refine (HPg.out _ hB5).mono ?_
 rintro e w7 ⟨rfl, rfl⟩
 try go_wp2_with fail
 refine hK.out _ _ ?hSnewAy12 (fun hHeld => ?restAy12)
 case hSnewAy12 => ((try dsimp only); exact HC.out _ hB5)
 clear hK K
 (try simp only [Act.put, qd, qe, qf])
 refine wpAnyH_take (i := 15) (oi := ?oiAx15) (v := ?vAx15) ?hoAx15 ?h1Ax15 ?h2Ax15 ?h3Ax15 ?hqAx15 (Or.inl ⟨?h4Ax15, ?hyAx15⟩) (by assumption) ?restAx15
 case hoAx15 => (simp only [qa, qb, qc]; rfl)
 case h1Ax15 => kernel_rfl
 case h2Ax15 => kernel_rfl
 case h3Ax15 => kernel_rfl
 case h4Ax15 => rfl
 case hqAx15 => exact fun _ _ _ h => h
 case hyAx15 => (intro w hSw; (try dsimp only at hSw); go_simp <;> with_reducible rfl)
 (try simp only [Act.put, qd, qe, qf])
 refine wpAnyH_take (i := 16) (oi := ?oiAx16) (v := ?vAx16) ?hoAx16 ?h1Ax16 ?h2Ax16 ?h3Ax16 ?hqAx16 (Or.inl ⟨?h4Ax16, ?hyAx16⟩) (by assumption) ?restAx16
 case hoAx16 => (simp only [qa, qb, qc]; rfl)
 case h1Ax16 => kernel_rfl
 case h2Ax16 => kernel_rfl
 case h3Ax16 => kernel_rfl
 case h4Ax16 => rfl
 case hqAx16 => exact fun _ _ _ h => h
 case hyAx16 => (intro w hSw; (try dsimp only at hSw); go_simp <;> with_reducible rfl)
 (try simp only [Act.put, qd, qe, qf])
 refine wpAnyH_take (i := 17) (oi := ?oiAx17) (v := ?vAx17) ?hoAx17 ?h1Ax17 ?h2Ax17 ?h3Ax17 ?hqAx17 (Or.inl ⟨?h4Ax17, ?hyAx17⟩) (by assumption) ?restAx17
 case hoAx17 => (simp only [qa, qb, qc]; rfl)
 case h1Ax17 => kernel_rfl
 case h2Ax17 => kernel_rfl
 case h3Ax17 => kernel_rfl
 case h4Ax17 => rfl
 case hqAx17 => exact fun _ _ _ h => h
 case hyAx17 => (intro w hSw; (try dsimp only at hSw); go_simp <;> with_reducible rfl)
 (try simp only [Act.put, qd, qe, qf])
 refine wpAnyH_take (i := 18) (oi := ?oiAx18) (v := ?vAx18) ?hoAx18 ?h1Ax18 ?h2Ax18 ?h3Ax18 ?hqAx18 (Or.inl ⟨?h4Ax18, ?hyAx18⟩) (by assumption) ?restAx18
 case hoAx18 => (simp only [qa, qb, qc]; rfl)
 case h1Ax18 => kernel_rfl
 case h2Ax18 => kernel_rfl
 case h3Ax18 => kernel_rfl
 case h4Ax18 => rfl
 case hqAx18 => exact fun _ _ _ h => h
 case hyAx18 => (intro w hSw; (try dsimp only at hSw); go_simp <;> with_reducible rfl)
 (try simp only [Act.put, qd, qe, qf])
 refine wpAnyH_take (i := 20) (oi := ?oiAx20) (v := ?vAx20) ?hoAx20 ?h1Ax20 ?h2Ax20 ?h3Ax20 ?hqAx20 (Or.inl ⟨?h4Ax20, ?hyAx20⟩) (by assumption) ?restAx20
 case hoAx20 => (simp only [qa, qb, qc]; rfl)
 case h1Ax20 => kernel_rfl
 case h2Ax20 => kernel_rfl
 case h3Ax20 => kernel_rfl
 case h4Ax20 => rfl
 case hqAx20 => exact fun _ _ _ h => h
 case hyAx20 => (intro w hSw; (try dsimp only at hSw); go_simp <;> with_reducible rfl)
 (try simp only [Act.put, qd, qe, qf])
 refine wpAnyH_ready (rs := [19]) (by kernel_rfl) (by simp) ?_
 refine AllReadyH.cons (o := ?oiAx19) ?hoAx19 (fun K hK => ?restAx19) ?moreAx19
 case moreAx19 => exact AllReadyH.nil
 case hoAx19 => (simp only [qa, qb, qc]; rfl)
 go_simp
 refine (geo_usable (HG.out _ hB5)).mono ?_
 rintro e w8 ⟨U, d, rfl, hzU, -, hB8'⟩
 have hB8 := hB5.trans (hB8'.mono hB5.size)
 have hcn := contains_any U (us nb bad).length d (us nb bad) i w8 hzU
 rw [hus] at hcn
 try go_wp2_with fail
 refine hK.out _ _ ?hSnewAy19 (fun hHeld => ?restAy19)
 case hSnewAy19 => ((try dsimp only); exact HC.out _ hB8)
 clear hK K
 (try simp only [Act.put, qd, qe, qf])
 refine wpAnyH_ready (rs := [21]) (by kernel_rfl) (by simp) ?_
 refine AllReadyH.cons (o := ?oiAx21) ?hoAx21 (fun K hK => ?restAx21) ?moreAx21
 case moreAx21 => exact AllReadyH.nil
 case hoAx21 => (simp only [qa, qb, qc]; rfl)
 go_simp
 refine hcn.mono ?_
 rintro e w9 ⟨rfl, rfl⟩
 try go_wp2_with fail
 refine hK.out _ _ ?hSnewAy21 (fun hHeld => ?restAy21)
 case hSnewAy21 => ((try dsimp only); exact HC.out _ hB8)
 clear hK K
 (try simp only [Act.put, qd, qe, qf])
 refine wpAnyH_take (i := 22) (oi := ?oiAx22) (v := ?vAx22) ?hoAx22 ?h1Ax22 ?h2Ax22 ?h3Ax22 ?hqAx22 (Or.inl ⟨?h4Ax22, ?hyAx22⟩) (by assumption) ?restAx22
 case hoAx22 => (simp only [qa, qb, qc]; rfl)
 case h1Ax22 => kernel_rfl
 case h2Ax22 => kernel_rfl
 case h3Ax22 => kernel_rfl
 case h4Ax22 => rfl
 case hqAx22 => exact fun _ _ _ h => h
 case hyAx22 => (intro w hSw; (try dsimp only at hSw); go_simp <;> with_reducible rfl)
 (try simp only [Act.put, qd, qe, qf])
 refine wpAnyH_take (i := 23) (oi := ?oiAx23) (v := ?vAx23) ?hoAx23 ?h1Ax23 ?h2Ax23 ?h3Ax23 ?hqAx23 (Or.inl ⟨?h4Ax23, ?hyAx23⟩) (by assumption) ?restAx23
 case hoAx23 => (simp only [qa, qb, qc]; rfl)
 case h1Ax23 => kernel_rfl
 case h2Ax23 => kernel_rfl
 case h3Ax23 => kernel_rfl
 case h4Ax23 => rfl
 case hqAx23 => exact fun _ _ _ h => h
 case hyAx23 => (intro w hSw; (try dsimp only at hSw); go_simp <;> with_reducible rfl)
 (try simp only [Act.put, qd, qe, qf])
 refine wpAnyH_done (by kernel_rfl) ?_ _
 clear hcn hzU
 have hBw := hB2.trans (hB8.mono hB2.size)
 have HM := hid (fun W (hW : Below w.heap.size w W) => geo_meta (hg.later hW))
 rw [hlim] at HM
 have HN := hid (fun W (hW : Below w.heap.size w W) => hnx W hW)
 have HBw := hid hBw
 have Hb8 := hid (Hb4.out.later hB8)
 clear HG HBl HPg HC hBd hB5 hB5' hB8 hB8' hB2 hBw Hb4
 go_wp2_with fail
 refine (HN.out _ HBw.out).mono ?_
 rintro e w9 ⟨rfl, rfl⟩
 clear HN
 go_wp2
 go_loopw [8, 43] (fun v t w' => ∃ (p : Nat) (l : List Fd), p ≤ m ∧ t = .int .i64 (p : Int) ∧ Fnds w' w.heap.size v (i : Int) l ∧ l.map (fun x => (x.k, x.p)) = found lim ((NB.seen (N.blk i)).take p) ∧ Blk w' g4 #[.int .i64 (nb : Int), .int .i64 (np : Int), .int .i64 S, .slice A n c] 26 ∧ Below w.heap.size w w') (fun _ t _ => m - (intOf t).toNat)
 case atStart => exact ⟨0, [], by omega, rfl, Fnds.nil _ _ _, rfl, Hb8.out, HBw.out⟩
 case round =>
  clear HBw Hb8
  obtain ⟨p, l, hp, rfl, hF, hl, hb4, hB⟩ := hrel
  by_cases hlt : p < m
  ·have hltI : (p : Int) < (m : Int) := by omega
   cases hh : (N.blk i).half
   ·have hr := hrd2 hh wr p hB hlt
    have hseen : NB.seen (N.blk i) = (N.blk i).pages := by unfold NB.seen; rw [hh]; rfl
    have hft := found_take lim (N.blk i).pages p (by omega)
    have hfl := found_len lim ((N.blk i).pages.take p)
    rw [hseen] at hl
    have hll : l.length ≤ 32 := by
     have e : (l.map (fun x => (x.k, x.p))).length = l.length := List.length_map ..
     rw [hl] at e
     rw [List.length_take] at hfl
     omega
    generalize hxs : (N.blk i).pages.getD p [] = xs at *
    have Hseen := hid hseen
    have Hft := hid hft
    have Hl := hid hl
    have HF := hid hF
    have Hb4 := hid hb4
    have HB := hid hB
    have Hvl := hid hF.1.lt
    clear hxs hseen hft hfl hl hF hb4 hB hrd1 hrd2
    go_wp2_with fail
    refine hr.mono ?_
    rintro e w5 ⟨A5, c5, rfl, ⟨hc96, hz5⟩, hB5⟩
    clear hr
    go_wp2_with fail
    refine (sread_low A5 96 c5 xs w5 hz5 hc96).mono ?_
    rintro e w6 ⟨v6, k6, rfl, ht6, hB6, hlow⟩
    have hB56 := hB5.trans (hB6.mono hB5.size)
    have HF6 := hid (HF.out.later hB56)
    have Hb46 := hid (Hb4.out.later hB56)
    have HB6 := hid (HB.out.trans (hB56.mono HB.out.size))
    have Hlow := hid hlow
    have hs5 := hB5.size
    have hs0 := HB.out.size
    clear hlow hB5 hB6 hB56 hz5 hc96 HF Hb4 HB
    rcases ht6 with ⟨K, E, S6, a, f, A2, n2, c2, ys, rfl, rfl, hf, hz2, hpg⟩ | ⟨hno, rfl, rfl⟩
    ·have hrd : rdP xs = some ⟨K, E, S6, a, f, ys⟩ := rdP_yes (p := ⟨K, E, S6, a, f, ys⟩) hf hpg
     have Hz2 := hid hz2
     have Hf := hid hf
     go_upto_region 14 with (fail)
     generalize hw7 : World.alloc w6 _ = w7
     obtain ⟨gs, hgs⟩ : ∃ g, w6.heap.size = g := ⟨_, rfl⟩
     have hB7 : Below w6.heap.size w6 w7 := by rw [← hw7]; exact (Below.refl _ _).alloc (Nat.le_refl _) _
     have hbs : Blk w7 gs #[.int .u8 (K : Int), .int .u64 (E : Int), .int .u64 (S6 : Int), .int .i64 (a : Int), .int .i64 ((f : Int) - 1), .slice A2 n2 c2] 85 := by rw [← hw7, ← hgs]; exact Blk.new _ _ _
     have HF7 := hid (HF6.out.later hB7)
     have Hb47 := hid (Hb46.out.later hB7)
     have HB7 := hid (HB6.out.trans (hB7.mono HB6.out.size))
     have Hz7 := hid (Hz2.out.below hB7)
     obtain ⟨⟨s0, s1, s2, s3, s4, s5⟩, -⟩ := hbs.six
     obtain ⟨q0, q1, q2, q3⟩ := Hb47.out.four
     have Hbs := hid hbs
     rw [hgs]
     clear hw7 hgs hB7 hbs HF6 Hb46 HB6 hz2 hf hpg Hz2
     by_cases hK : K = 3
     ·have hKb : ((K : Int) != 3) = false := by rw [bne_eq_false_iff_eq]; omega
      have hof : found1 lim p xs = [] := by unfold found1; rw [hrd]; exact if_neg (by unfold Pg.of; rw [hK]; simp)
      have Hof := hid hof
      clear hof hrd hK
      go_quiet (fail)
      go_wp2
      go_roundw
      case rel => exact ⟨p + 1, l, by omega, by go_num, HF7.out.later (below_drewN (Below.refl _ _) _), by rw [Hseen.out, Hft.out, Hof.out, List.append_nil]; exact Hl.out, Hb47.out.drewN _, below_drewN HB7.out _⟩
      case measure => simp [intOf]; omega
     ·have hKb : ((K : Int) != 3) = true := by rw [bne_iff_ne]; omega
      have HGS := hid (fun W (hW : Below w7.heap.size w7 W) => (⟨⟨(Hbs.out.later hW).six.1.1, (Hbs.out.later hW).six.1.2.2.2.1⟩, (Hb47.out.later hW).four⟩ : (W.cell? ⟨gs, 0, none⟩ = some (.int .u8 (K : Int)) ∧ W.cell? ⟨gs, 3, none⟩ = some (.int .i64 (a : Int))) ∧ (W.cell? ⟨g4, 0, none⟩ = some (.int .i64 (nb : Int)) ∧ W.cell? ⟨g4, 1, none⟩ = some (.int .i64 (np : Int)) ∧ W.cell? ⟨g4, 2, none⟩ = some (.int .i64 S) ∧ W.cell? ⟨g4, 3, none⟩ = some (.slice A n c))))
      have hBd : Below w7.heap.size w7 w7.drew := below_drewN (Below.refl _ _) 1
      clear s0 s1 s2 s3 s4 s5 q0 q1 q2 q3
      refine wp_region_held_drew (S := (fun w' => (w'.cell? ⟨gs, 0, none⟩ = some (.int .u8 (K : Int)) ∧ w'.cell? ⟨gs, 3, none⟩ = some (.int .i64 (a : Int))) ∧ (w'.cell? ⟨g4, 0, none⟩ = some (.int .i64 (nb : Int)) ∧ w'.cell? ⟨g4, 1, none⟩ = some (.int .i64 (np : Int)) ∧ w'.cell? ⟨g4, 2, none⟩ = some (.int .i64 S) ∧ w'.cell? ⟨g4, 3, none⟩ = some (.slice A n c)))) (by kernel_rfl) ?hSnewBz (fun hHeld => ?restBz)
      case hSnewBz => ((try dsimp only); exact HGS.out _ hBd)
      refine wpAnyH_take (i := 0) (oi := ?oiBx0) (v := ?vBx0) ?hoBx0 ?h1Bx0 ?h2Bx0 ?h3Bx0 ?hqBx0 (Or.inl ⟨?h4Bx0, ?hyBx0⟩) (by assumption) ?restBx0
      case hoBx0 => (simp only [qa, qb, qc]; rfl)
      case h1Bx0 => kernel_rfl
      case h2Bx0 => kernel_rfl
      case h3Bx0 => kernel_rfl
      case h4Bx0 => rfl
      case hqBx0 => exact fun _ _ _ h => h
      case hyBx0 => (intro w hSw; (try dsimp only at hSw); go_simp <;> with_reducible rfl)
      (try simp only [Act.put, qd, qe, qf])
      refine wpAnyH_take (i := 1) (oi := ?oiBx1) (v := ?vBx1) ?hoBx1 ?h1Bx1 ?h2Bx1 ?h3Bx1 ?hqBx1 (Or.inl ⟨?h4Bx1, ?hyBx1⟩) (by assumption) ?restBx1
      case hoBx1 => (simp only [qa, qb, qc]; rfl)
      case h1Bx1 => kernel_rfl
      case h2Bx1 => kernel_rfl
      case h3Bx1 => kernel_rfl
      case h4Bx1 => rfl
      case hqBx1 => exact fun _ _ _ h => h
      case hyBx1 => (intro w hSw; (try dsimp only at hSw); go_simp <;> with_reducible rfl)
      (try simp only [Act.put, qd, qe, qf])
      refine wpAnyH_take (i := 2) (oi := ?oiBx2) (v := ?vBx2) ?hoBx2 ?h1Bx2 ?h2Bx2 ?h3Bx2 ?hqBx2 (Or.inl ⟨?h4Bx2, ?hyBx2⟩) (by assumption) ?restBx2
      case hoBx2 => (simp only [qa, qb, qc]; rfl)
      case h1Bx2 => kernel_rfl
      case h2Bx2 => kernel_rfl
      case h3Bx2 => kernel_rfl
      case h4Bx2 => rfl
      case hqBx2 => exact fun _ _ _ h => h
      case hyBx2 => (intro w hSw; (try dsimp only at hSw); go_simp <;> with_reducible rfl)
      (try simp only [Act.put, qd, qe, qf])
      refine wpAnyH_take (i := 3) (oi := ?oiBx3) (v := ?vBx3) ?hoBx3 ?h1Bx3 ?h2Bx3 ?h3Bx3 ?hqBx3 (Or.inl ⟨?h4Bx3, ?hyBx3⟩) (by assumption) ?restBx3
      case hoBx3 => (simp only [qa, qb, qc]; rfl)
      case h1Bx3 => kernel_rfl
      case h2Bx3 => kernel_rfl
      case h3Bx3 => kernel_rfl
      case h4Bx3 => rfl
      case hqBx3 => exact fun _ _ _ h => h
      case hyBx3 => (intro w hSw; (try dsimp only at hSw); go_simp <;> with_reducible rfl)
      (try simp only [Act.put, qd, qe, qf])
      refine wpAnyH_take (i := 4) (oi := ?oiBx4) (v := ?vBx4) ?hoBx4 ?h1Bx4 ?h2Bx4 ?h3Bx4 ?hqBx4 (Or.inl ⟨?h4Bx4, ?hyBx4⟩) (by assumption) ?restBx4
      case hoBx4 => (simp only [qa, qb, qc]; rfl)
      case h1Bx4 => kernel_rfl
      case h2Bx4 => kernel_rfl
      case h3Bx4 => kernel_rfl
      case h4Bx4 => rfl
      case hqBx4 => exact fun _ _ _ h => h
      case hyBx4 => (intro w hSw; (try dsimp only at hSw); go_simp <;> with_reducible rfl)
      (try simp only [Act.put, qd, qe, qf])
      refine wpAnyH_take (i := 5) (oi := ?oiBx5) (v := ?vBx5) ?hoBx5 ?h1Bx5 ?h2Bx5 ?h3Bx5 ?hqBx5 (Or.inl ⟨?h4Bx5, ?hyBx5⟩) (by assumption) ?restBx5
      case hoBx5 => (simp only [qa, qb, qc]; rfl)
      case h1Bx5 => kernel_rfl
      case h2Bx5 => kernel_rfl
      case h3Bx5 => kernel_rfl
      case h4Bx5 => rfl
      case hqBx5 => exact fun _ _ _ h => h
      case hyBx5 => (intro w hSw; (try dsimp only at hSw); go_simp <;> with_reducible rfl)
      (try simp only [Act.put, qd, qe, qf])
      refine wpAnyH_take (i := 6) (oi := ?oiBx6) (v := ?vBx6) ?hoBx6 ?h1Bx6 ?h2Bx6 ?h3Bx6 ?hqBx6 (Or.inl ⟨?h4Bx6, ?hyBx6⟩) (by assumption) ?restBx6
      case hoBx6 => (simp only [qa, qb, qc]; rfl)
      case h1Bx6 => kernel_rfl
      case h2Bx6 => kernel_rfl
      case h3Bx6 => kernel_rfl
      case h4Bx6 => rfl
      case hqBx6 => exact fun _ _ _ h => h
      case hyBx6 => (intro w hSw; (try dsimp only at hSw); go_simp <;> with_reducible rfl)
      (try simp only [Act.put, qd, qe, qf])
      refine wpAnyH_take (i := 7) (oi := ?oiBx7) (v := ?vBx7) ?hoBx7 ?h1Bx7 ?h2Bx7 ?h3Bx7 ?hqBx7 (Or.inl ⟨?h4Bx7, ?hyBx7⟩) (by assumption) ?restBx7
      case hoBx7 => (simp only [qa, qb, qc]; rfl)
      case h1Bx7 => kernel_rfl
      case h2Bx7 => kernel_rfl
      case h3Bx7 => kernel_rfl
      case h4Bx7 => rfl
      case hqBx7 => exact fun _ _ _ h => h
      case hyBx7 => (intro w hSw; (try dsimp only at hSw); go_simp <;> with_reducible rfl)
      (try simp only [Act.put, qd, qe, qf])
      refine wpAnyH_take (i := 8) (oi := ?oiBx8) (v := ?vBx8) ?hoBx8 ?h1Bx8 ?h2Bx8 ?h3Bx8 ?hqBx8 (Or.inl ⟨?h4Bx8, ?hyBx8⟩) (by assumption) ?restBx8
      case hoBx8 => (simp only [qa, qb, qc]; rfl)
      case h1Bx8 => kernel_rfl
      case h2Bx8 => kernel_rfl
      case h3Bx8 => kernel_rfl
      case h4Bx8 => rfl
      case hqBx8 => exact fun _ _ _ h => h
      case hyBx8 => (intro w hSw; (try dsimp only at hSw); go_simp <;> with_reducible rfl)
      (try simp only [Act.put, qd, qe, qf])
      refine wpAnyH_take (i := 9) (oi := ?oiBx9) (v := ?vBx9) ?hoBx9 ?h1Bx9 ?h2Bx9 ?h3Bx9 ?hqBx9 (Or.inl ⟨?h4Bx9, ?hyBx9⟩) (by assumption) ?restBx9
      case hoBx9 => (simp only [qa, qb, qc]; rfl)
      case h1Bx9 => kernel_rfl
      case h2Bx9 => kernel_rfl
      case h3Bx9 => kernel_rfl
      case h4Bx9 => rfl
      case hqBx9 => exact fun _ _ _ h => h
      case hyBx9 => (intro w hSw; (try dsimp only at hSw); go_simp <;> with_reducible rfl)
      (try simp only [Act.put, qd, qe, qf])
      refine wpAnyH_take (i := 10) (oi := ?oiBx10) (v := ?vBx10) ?hoBx10 ?h1Bx10 ?h2Bx10 ?h3Bx10 ?hqBx10 (Or.inl ⟨?h4Bx10, ?hyBx10⟩) (by assumption) ?restBx10
      case hoBx10 => (simp only [qa, qb, qc]; rfl)
      case h1Bx10 => kernel_rfl
      case h2Bx10 => kernel_rfl
      case h3Bx10 => kernel_rfl
      case h4Bx10 => rfl
      case hqBx10 => exact fun _ _ _ h => h
      case hyBx10 => (intro w hSw; (try dsimp only at hSw); go_simp <;> with_reducible rfl)
      (try simp only [Act.put, qd, qe, qf])
      refine wpAnyH_ready (rs := [11]) (by kernel_rfl) (by simp) ?_
      refine AllReadyH.cons (o := ?oiBx11) ?hoBx11 (fun K hK => ?restBx11) ?moreBx11
      case moreBx11 => exact AllReadyH.nil
      case hoBx11 => (simp only [qa, qb, qc]; rfl)
      go_simp
      refine (HM.out _ (HB7.out.trans (hBd.mono HB7.out.size))).mono ?_
      rintro e w8 ⟨rfl, hB8'⟩
      have hB8 := hBd.trans (hB8'.mono hBd.size)
      try go_wp2_with fail
      refine hK.out _ _ ?hSnewBy11 (fun hHeld => ?restBy11)
      case hSnewBy11 => ((try dsimp only); exact HGS.out _ hB8)
      clear hK K
      (try simp only [Act.put, qd, qe, qf])
      refine wpAnyH_take (i := 12) (oi := ?oiBx12) (v := ?vBx12) ?hoBx12 ?h1Bx12 ?h2Bx12 ?h3Bx12 ?hqBx12 (Or.inl ⟨?h4Bx12, ?hyBx12⟩) (by assumption) ?restBx12
      case hoBx12 => (simp only [qa, qb, qc]; rfl)
      case h1Bx12 => kernel_rfl
      case h2Bx12 => kernel_rfl
      case h3Bx12 => kernel_rfl
      case h4Bx12 => rfl
      case hqBx12 => exact fun _ _ _ h => h
      case hyBx12 => (intro w hSw; (try dsimp only at hSw); go_simp <;> with_reducible rfl)
      (try simp only [Act.put, qd, qe, qf])
      refine wpAnyH_take (i := 13) (oi := ?oiBx13) (v := ?vBx13) ?hoBx13 ?h1Bx13 ?h2Bx13 ?h3Bx13 ?hqBx13 (Or.inl ⟨?h4Bx13, ?hyBx13⟩) (by assumption) ?restBx13
      case hoBx13 => (simp only [qa, qb, qc]; rfl)
      case h1Bx13 => kernel_rfl
      case h2Bx13 => kernel_rfl
      case h3Bx13 => kernel_rfl
      case h4Bx13 => rfl
      case hqBx13 => exact fun _ _ _ h => h
      case hyBx13 => (intro w hSw; (try dsimp only at hSw); go_simp <;> with_reducible rfl)
      (try simp only [Act.put, qd, qe, qf])
      refine wpAnyH_done (by kernel_rfl) ?_ _
      have HF8 := hid (HF7.out.later hB8)
      have Hb48 := hid (Hb47.out.later hB8)
      have hB8w := HB7.out.trans (hB8.mono HB7.out.size)
      have HB8 := hid hB8w
      have hbs8 := Hbs.out.later hB8
      have Hz8 := hid (Hz7.out.below hB8)
      obtain ⟨⟨s0, s1, s2, s3, s4, s5⟩, -⟩ := hbs8.six
      clear HGS hBd hB8' hB8w hbs8 Hbs HF7 Hb47 HB7 Hz7
      by_cases hal : (a : Int) ≤ lim
      ·have hof : found1 lim p xs = [(p, ⟨K, E, S6, a, f, ys⟩)] := by unfold found1; rw [hrd]; exact if_pos (by unfold Pg.of; exact decide_eq_true ⟨hK, hal⟩)
       have Hof := hid hof
       have Hown := hid HF8.out.1
       have hbase := HB8.out.size
       clear hof hrd hB8
       go_upto_region 15 with (fail)
       have hown := HF8.out.1
       go_wp2_with (at_builtin; refine append_rec w.heap.size rfl _ _ 103 89 (.agg #[.int .i64 0, .int .i64 0, .int .u8 0, .int .u64 0, .int .u64 0, .int .i64 0, .int .i64 0, .slice none 0 0]) 8 80 rfl Try.underlying103 infoF rfl (by decide) _ _ _ #[.int .i64 (i : Int), .int .i64 (p : Int), .int .u8 (K : Int), .int .u64 (E : Int), .int .u64 (S6 : Int), .int .i64 (a : Int), .int .i64 ((f : Int) - 1), .slice A2 n2 c2] rfl (by rfl) (by rfl) (by simp [Value.oneCell']) hown hbase (by omega) (by omega) ?_; intro v1 w9 hown9 hgr9 hat9)
       have hne : ∀ k, some k = _ → k ≠ g4 := fun k hk e => by
        obtain ⟨cur, hc, -⟩ := own_block hown k hk.symm
        have hb := Hb48.out
        unfold Blk at hb
        rw [e, hb] at hc
        injection hc with hc
        injection hc with _ hc _
        exact absurd hc (by decide)
       have hF9 := HF8.out.push ⟨p, ⟨K, E, S6, a, f, ys⟩, A2, n2, c2⟩ ⟨Hf.out, Hz8.out⟩ (fun hn ad ha => by
        have h2 := Hlow.out _ _ _ _ rfl rfl hn ad ha
        exact ⟨fun e => by have h1 := (Hvl.out _ e).2; omega, by omega⟩) hown9 hgr9 hat9
       have hb49 := Hb48.out.grown hgr9 (fun e => hne _ e rfl)
       have hB9 := HB8.out.grown hgr9 hbase (fun k hk => (hown.lt k hk).1)
       have HF9 := hid hF9
       have Hb49 := hid hb49
       have HB9 := hid hB9
       clear hF9 hb49 hB9 hne hown9 hgr9 hat9 hown Hown hbase HF8 Hb48 HB8
       go_wp2
       go_roundw
       case rel => exact ⟨p + 1, l ++ [⟨p, ⟨K, E, S6, a, f, ys⟩, A2, n2, c2⟩], by omega, by go_num, HF9.out, by rw [Hseen.out, Hft.out, Hof.out, List.map_append, Hl.out]; rfl, Hb49.out, HB9.out⟩
       case measure => simp [intOf]; omega
      ·have hof : found1 lim p xs = [] := by unfold found1; rw [hrd]; exact if_neg (by unfold Pg.of; simp [hal])
       have Hof := hid hof
       clear hof hrd hB8
       go_wp2
       go_roundw
       case rel => exact ⟨p + 1, l, by omega, by go_num, HF8.out, by rw [Hseen.out, Hft.out, Hof.out, List.append_nil]; exact Hl.out, Hb48.out, HB8.out⟩
       case measure => simp [intOf]; omega
    ·have hcd : (code xs == 0) = false := by rw [beq_eq_false_iff_ne]; exact code_ne xs
     have hof : found1 lim p xs = [] := by unfold found1; rw [rdP_no hno]
     have Hof := hid hof
     clear hof hno
     generalize code xs = k at *
     go_upto_region 14 with (fail)
     generalize hw7 : World.alloc w6 _ = w7
     have hB7 : Below w6.heap.size w6 w7 := by rw [← hw7]; exact (Below.refl _ _).alloc (Nat.le_refl _) _
     have HF7 := hid (HF6.out.later hB7)
     have Hb47 := hid (Hb46.out.later hB7)
     have HB7 := hid (HB6.out.trans (hB7.mono HB6.out.size))
     clear hw7 hB7 HF6 Hb46 HB6
     go_quiet (fail)
     go_wp2
     go_roundw
     case rel => exact ⟨p + 1, l, by omega, by go_num, HF7.out.later (below_drewN (Below.refl _ _) _), by rw [Hseen.out, Hft.out, Hof.out, List.append_nil]; exact Hl.out, Hb47.out.drewN _, below_drewN HB7.out _⟩
     case measure => simp [intOf]; omega
   ·have hr := hrd1 hh wr p hB hlt
    have hseen : NB.seen (N.blk i) = [] := by unfold NB.seen; rw [hh]; rfl
    have Hseen := hid hseen
    have Hl := hid hl
    have HF := hid hF
    have Hb4 := hid hb4
    have HB := hid hB
    clear hrd1 hrd2 hseen hl hF hb4 hB
    go_wp2_with fail
    refine hr.mono ?_
    rintro e w5 ⟨rfl, rfl⟩
    clear hr
    go_wp2
    go_roundw
    case rel => exact ⟨p + 1, l, by omega, by go_num, HF.out, by have := Hl.out; rw [Hseen.out] at this ⊢; simpa using this, Hb4.out, HB.out⟩
    case measure => simp [intOf]; omega
  ·obtain rfl : m = p := by omega
   have hfin : l.map (fun x => (x.k, x.p)) = found lim (NB.seen (N.blk i)) := by
    rw [hl]
    congr 1
    refine List.take_of_length_le ?_
    unfold NB.seen
    split
    ·simp
    ·omega
   have Hfin := hid hfin
   have HF := hid hF
   have HB := hid hB
   clear hfin hF hB hl hb4 hrd1 hrd2
   go_wp2
   go_ret2
   exact ⟨_, l, rfl, HF.out, Hfin.out, HB.out⟩
end Go.Proofs.Ytpcbpljdiacbmaa.Scan
