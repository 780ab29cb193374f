import Derived.Test.YtpcbpljdiacbmaaJFtlC
import Derived.Laws.ResultCell
set_option linter.unusedVariables false
set_option linter.unusedSimpArgs false
namespace Go.Proofs.Ytpcbpljdiacbmaa.Ftl
open Go.RowKit Go.Proofs.Ytpcbpljdiacbmaa.Kit Go.Proofs.Ytpcbpljdiacbmaa.Oct Go.Proofs.Ytpcbpljdiacbmaa.Sheet Go.Proofs.Ytpcbpljdiacbmaa.Nand Go.Proofs.Ytpcbpljdiacbmaa.Plan Go.Proofs.Ytpcbpljdiacbmaa.Scan Go.Proofs.Ytpcbpljdiacbmaa.Pmap Go.Proofs.Ytpcbpljdiacbmaa.Pool
section
variable {c : FC} {o : FId} {w w' : World} {st : FT} {F Q : Nat → Prop} {V w0 w1 w2 : World}
/-- What page hands back of an address. -/
def FT.rd (st : FT) (a : Nat) (p : Pg) : Prop :=
 (st.has.getD a false = false ∧ p = ⟨2, 0, 0, a, 0, []⟩) ∨
 (st.has.getD a false = true ∧ st.pg a = some p ∧ st.N.readE (st.at'.getD a (0, 0)).1 (st.at'.getD a (0, 0)).2 = 0)
theorem FT.rd.form {a : Nat} {p : Pg} (h : st.rd a p) (ha : a < 65536) : formN p.K p.E p.S p.a p.f p.ys := by
 rcases h with ⟨-, rfl⟩ | ⟨-, h, -⟩
 ·show formN 2 0 0 a 0 []
  exact ⟨by omega, by omega, by omega, by omega, ha, by omega, by simp, .inr rfl, fun x hx => by cases hx⟩
 ·exact (rdP_some h).1

set_option maxRecDepth 100000 in
set_option maxHeartbeats 4000000 in
theorem page_run (h : FR c o F Q V w0 w st) (a : Nat) (ha : a < c.M) (p : Pg) (hp : st.rd a p) :
  Calls Try.prog 48 #[.pointer (some ⟨o.bf, 0, none⟩), .int .i64 (a : Int)] w fun e w' => ∃ A n cc, e = .returned (.tuple #[.agg #[.int .u8 (p.K : Int), .int .u64 (p.E : Int), .int .u64 (p.S : Int), .int .i64 (p.a : Int), .int .i64 ((p.f : Int) - 1), .slice A n cc], .int .i64 0]) ∧ Nums w' .u8 A n p.ys ∧ Below w.heap.size w w' ∧ (0 < n → ∀ ad, A = some ad → w.heap.size ≤ ad.block) := by
 have hM := h.ft.pm.nM.1
 obtain ⟨ok, hok⟩ : ∃ x, st.has.getD a false = x := ⟨_, rfl⟩
 have hgk : getOk st.has c.M (a : Int) = ok := by
  unfold getOk
  rw [decide_eq_true ⟨by omega, by omega⟩, Bool.true_and, Int.toNat_natCast, hok]
 have H := hid h
 have hget : ∀ W, Below w.heap.size w W → Calls Try.prog 47 #[.pointer (some ⟨o.bm, 0, none⟩), .int .i64 (a : Int)] W fun e w' => e = .returned (.tuple #[.agg #[.int .i64 (getV st.at' st.has c.M (a : Int)).1, .int .i64 (getV st.at' st.has c.M (a : Int)).2], .bool ok]) ∧ Below W.heap.size W w' := fun W hW => by
  have := Pmap.get_any o.bm o.ga o.gh o.gc c.M c.nb st.at' st.has st.cnt (a : Int) W (h.later hW).ft.pm
  rw [hgk] at this
  exact this
 have hgv : ok = true → getV st.at' st.has c.M (a : Int) = st.at'.getD a (0, 0) := fun e => by
  unfold getV
  rw [hgk, if_pos e, Int.toNat_natCast]
 have Hgv := hid hgv
 have Hok := hid hok
 have Hp := hid hp
 have Hget := hid hget
 clear h hgk hgv hp hget hok
 go_enter Try.func48, Try.ntmps48
 go_upto_region 1 with (fail)
 obtain ⟨g4, hg4⟩ : ∃ g, w.heap.size = g := ⟨_, rfl⟩
 generalize hw2 : World.alloc w _ = w2
 have hB2 : Below w.heap.size w w2 := by rw [← hw2]; exact (Below.refl _ _).alloc (Nat.le_refl _) _
 have hb4 : Blk w2 g4 #[.int .u8 0, .int .u64 0, .int .u64 0, .int .i64 0, .int .i64 0, .slice none 0 0] 85 := by rw [← hw2, ← hg4]; exact Blk.new _ _ _
 have hg := Hget.out w2 hB2
 obtain ⟨k0, k1, k2, k3, k4, k5, k6, k7, k8⟩ := (H.out.later hB2).ft.cells
 generalize getV st.at' st.has c.M (a : Int) = bk at *
 obtain ⟨bb, kk⟩ := bk
 rw [hg4]
 have HB2 := hid hB2
 have Hb4 := hid hb4
 have Hg4 := hid hg4
 clear hw2 hB2 hb4 hg4 Hget
 go_wp2_with fail
 refine hg.mono ?_
 rintro e w3 ⟨rfl, hB3⟩
 clear hg
 go_upto_region 2 with (fail)
 obtain ⟨g6, hg6⟩ : ∃ g, w3.heap.size = g := ⟨_, rfl⟩
 generalize hw4 : World.alloc w3 _ = w4
 have hB4 : Below w3.heap.size w3 w4 := by rw [← hw4]; exact (Below.refl _ _).alloc (Nat.le_refl _) _
 have hb6 : Blk w4 g6 #[.int .i64 bb, .int .i64 kk] 87 := by rw [← hw4, ← hg6]; exact Blk.new _ _ _
 have hB24 := hB3.trans (hB4.mono hB3.size)
 have hb44 := Hb4.out.later hB24
 have HB := hid (HB2.out.trans (hB24.mono HB2.out.size))
 rw [hg6]
 cases ok with
 | false =>
  have hpe : p = ⟨2, 0, 0, a, 0, []⟩ := by
   rcases Hp.out with ⟨-, e⟩ | ⟨e, -⟩
   ·exact e
   ·rw [Hok.out] at e; cases e
  subst hpe
  obtain ⟨⟨y0, y1, y2, y3, y4, y5⟩, f0, f1, f2, f3, f4, f5⟩ := hb44.six
  have hbk := hb44.six_set (.int .u8 2) (.int .u64 0) (.int .u64 0) (.int .i64 (a : Int)) (.int .i64 (-1)) (.slice none 0 0)
  have hlw : w.heap.size ≤ g4 := by have := Hg4.out; omega
  have HBf := hid ((((((HB.out.setCell (p := ⟨g4, 0, none⟩) hlw (.int .u8 2)).setCell (p := ⟨g4, 1, none⟩) hlw (.int .u64 0)).setCell (p := ⟨g4, 2, none⟩) hlw (.int .u64 0)).setCell (p := ⟨g4, 3, none⟩) hlw (.int .i64 (a : Int))).setCell (p := ⟨g4, 4, none⟩) hlw (.int .i64 (-1))).setCell (p := ⟨g4, 5, none⟩) hlw (.slice none 0 0))
  have Hbk := hid hbk
  clear hw4 hB4 hb6 hB24 hb44 hbk hB3 hg6 k0 k1 k2 k3 k4 k5 k6 k7 k8 hlw
  go_wp2
  refine bodyPost_ret (Go.Proofs.Ytpcbpljdiacbmaa.Sheet.results_row_tmp (P := Try.prog) rfl _ _ g4 _ _ (0, 0) _ rfl Hbk.out Try.underlying85 rfl (by kernel_rfl)) rfl ?_
  exact ⟨none, 0, ⟨0, rfl⟩, Nums.none _ _ _, HBf.out, fun hn => absurd hn (by omega)⟩
 | true =>
  have hpe : st.pg a = some p ∧ st.N.readE (st.at'.getD a (0, 0)).1 (st.at'.getD a (0, 0)).2 = 0 := by
   rcases Hp.out with ⟨e, -⟩ | ⟨-, e⟩
   ·rw [Hok.out] at e; cases e
   ·exact e
  have hgv := Hgv.out rfl
  rw [← hgv] at hpe
  obtain ⟨hpg, hre⟩ := hpe
  obtain ⟨hpok, hpb⟩ := rdP_some hpg
  rw [← hgv] at hpb
  have hrd : Calls Try.prog 32 #[.pointer (some ⟨o.ba, 0, none⟩), .int .i64 bb, .int .i64 kk] w4.drew fun e w' => ∃ A c, e = .returned (.tuple #[.slice A 96 c, .int .i64 0]) ∧ w'.ownsRow w4.drew.heap.size 5 1 (.slice A 96 c) 96 ((st.N.page bb kk).map (Value.int .u8)) ∧ Below w4.drew.heap.size w4.drew w' := by
   obtain ⟨F', hA⟩ := (H.out.later (HB.out.trans (below_drewN (Below.refl w4.heap.size w4) 1 |>.mono HB.out.size))).arr
   exact read_yes F' o.ba st.N bb kk w4.drew hA hre
  have hbd : Below w4.heap.size w4 w4.drew := below_drewN (Below.refl _ _) 1
  have f4 := (H.out.later HB.out).ft.f
  have HC := hid (fun (W : World) (hW : Below w4.heap.size w4 W) => (⟨(f4.later hW).cell 0, (hb6.later hW).cell 0, (hb6.later hW).cell 1⟩ : W.cell? ⟨o.bf, 0, none⟩ = some (.pointer (some ⟨o.ba, 0, none⟩)) ∧ W.cell? ⟨g6, 0, none⟩ = some (.int .i64 bb) ∧ W.cell? ⟨g6, 1, none⟩ = some (.int .i64 kk)))
  have Hpb := hid (show st.N.page bb kk = p.bytes from hpb)
  have Hpok := hid hpok
  have Hb44 := hid hb44
  clear hw4 hB4 hb6 hB24 hb44 hB3 hg6 k0 k1 k2 k3 k4 k5 k6 k7 k8 hgv hpg hpok hpb hre f4 Hp Hgv
  go_upto_region 4 with (fail)
  refine wp_region_held_drew (S := (fun w' => w'.cell? ⟨o.bf, 0, none⟩ = some (.pointer (some ⟨o.ba, 0, none⟩)) ∧ w'.cell? ⟨g6, 0, none⟩ = some (.int .i64 bb) ∧ w'.cell? ⟨g6, 1, none⟩ = some (.int .i64 kk))) (by kernel_rfl) ?hSnewGaz (fun hHeld => ?restGaz)
  case hSnewGaz => ((try dsimp only); exact HC.out _ hbd)
  refine wpAnyH_take (i := 0) (oi := ?oiGat53x0) (v := ?vGat53x0) ?hoGat53x0 ?h1Gat53x0 ?h2Gat53x0 ?h3Gat53x0 ?hqGat53x0 (Or.inl ⟨?h4Gat53x0, ?hyGat53x0⟩) (by assumption) ?restGat53x0
  case hoGat53x0 => (simp only [qa, qb, qc]; rfl)
  case h1Gat53x0 => kernel_rfl
  case h2Gat53x0 => kernel_rfl
  case h3Gat53x0 => kernel_rfl
  case h4Gat53x0 => rfl
  case hqGat53x0 => exact fun _ _ _ h => h
  case hyGat53x0 => (intro w hSw; (try dsimp only at hSw); go_simp <;> with_reducible rfl)
  (try simp only [Act.put, qd, qe, qf])
  refine wpAnyH_take (i := 1) (oi := ?oiGat55x1) (v := ?vGat55x1) ?hoGat55x1 ?h1Gat55x1 ?h2Gat55x1 ?h3Gat55x1 ?hqGat55x1 (Or.inl ⟨?h4Gat55x1, ?hyGat55x1⟩) (by assumption) ?restGat55x1
  case hoGat55x1 => (simp only [qa, qb, qc]; rfl)
  case h1Gat55x1 => kernel_rfl
  case h2Gat55x1 => kernel_rfl
  case h3Gat55x1 => kernel_rfl
  case h4Gat55x1 => rfl
  case hqGat55x1 => exact fun _ _ _ h => h
  case hyGat55x1 => (intro w hSw; (try dsimp only at hSw); go_simp <;> with_reducible rfl)
  (try simp only [Act.put, qd, qe, qf])
  refine wpAnyH_take (i := 2) (oi := ?oiGat57x2) (v := ?vGat57x2) ?hoGat57x2 ?h1Gat57x2 ?h2Gat57x2 ?h3Gat57x2 ?hqGat57x2 (Or.inl ⟨?h4Gat57x2, ?hyGat57x2⟩) (by assumption) ?restGat57x2
  case hoGat57x2 => (simp only [qa, qb, qc]; rfl)
  case h1Gat57x2 => kernel_rfl
  case h2Gat57x2 => kernel_rfl
  case h3Gat57x2 => kernel_rfl
  case h4Gat57x2 => rfl
  case hqGat57x2 => exact fun _ _ _ h => h
  case hyGat57x2 => (intro w hSw; (try dsimp only at hSw); go_simp <;> with_reducible rfl)
  (try simp only [Act.put, qd, qe, qf])
  refine wpAnyH_take (i := 3) (oi := ?oiGat59x3) (v := ?vGat59x3) ?hoGat59x3 ?h1Gat59x3 ?h2Gat59x3 ?h3Gat59x3 ?hqGat59x3 (Or.inl ⟨?h4Gat59x3, ?hyGat59x3⟩) (by assumption) ?restGat59x3
  case hoGat59x3 => (simp only [qa, qb, qc]; rfl)
  case h1Gat59x3 => kernel_rfl
  case h2Gat59x3 => kernel_rfl
  case h3Gat59x3 => kernel_rfl
  case h4Gat59x3 => rfl
  case hqGat59x3 => exact fun _ _ _ h => h
  case hyGat59x3 => (intro w hSw; (try dsimp only at hSw); go_simp <;> with_reducible rfl)
  (try simp only [Act.put, qd, qe, qf])
  refine wpAnyH_take (i := 4) (oi := ?oiGat61x4) (v := ?vGat61x4) ?hoGat61x4 ?h1Gat61x4 ?h2Gat61x4 ?h3Gat61x4 ?hqGat61x4 (Or.inl ⟨?h4Gat61x4, ?hyGat61x4⟩) (by assumption) ?restGat61x4
  case hoGat61x4 => (simp only [qa, qb, qc]; rfl)
  case h1Gat61x4 => kernel_rfl
  case h2Gat61x4 => kernel_rfl
  case h3Gat61x4 => kernel_rfl
  case h4Gat61x4 => rfl
  case hqGat61x4 => exact fun _ _ _ h => h
  case hyGat61x4 => (intro w hSw; (try dsimp only at hSw); go_simp <;> with_reducible rfl)
  (try simp only [Act.put, qd, qe, qf])
  refine wpAnyH_take (i := 5) (oi := ?oiGat63x5) (v := ?vGat63x5) ?hoGat63x5 ?h1Gat63x5 ?h2Gat63x5 ?h3Gat63x5 ?hqGat63x5 (Or.inl ⟨?h4Gat63x5, ?hyGat63x5⟩) (by assumption) ?restGat63x5
  case hoGat63x5 => (simp only [qa, qb, qc]; rfl)
  case h1Gat63x5 => kernel_rfl
  case h2Gat63x5 => kernel_rfl
  case h3Gat63x5 => kernel_rfl
  case h4Gat63x5 => rfl
  case hqGat63x5 => exact fun _ _ _ h => h
  case hyGat63x5 => (intro w hSw; (try dsimp only at hSw); go_simp <;> with_reducible rfl)
  (try simp only [Act.put, qd, qe, qf])
  refine wpAnyH_take (i := 6) (oi := ?oiGat65x6) (v := ?vGat65x6) ?hoGat65x6 ?h1Gat65x6 ?h2Gat65x6 ?h3Gat65x6 ?hqGat65x6 (Or.inl ⟨?h4Gat65x6, ?hyGat65x6⟩) (by assumption) ?restGat65x6
  case hoGat65x6 => (simp only [qa, qb, qc]; rfl)
  case h1Gat65x6 => kernel_rfl
  case h2Gat65x6 => kernel_rfl
  case h3Gat65x6 => kernel_rfl
  case h4Gat65x6 => rfl
  case hqGat65x6 => exact fun _ _ _ h => h
  case hyGat65x6 => (intro w hSw; (try dsimp only at hSw); go_simp <;> with_reducible rfl)
  (try simp only [Act.put, qd, qe, qf])
  refine wpAnyH_take (i := 7) (oi := ?oiGat67x7) (v := ?vGat67x7) ?hoGat67x7 ?h1Gat67x7 ?h2Gat67x7 ?h3Gat67x7 ?hqGat67x7 (Or.inl ⟨?h4Gat67x7, ?hyGat67x7⟩) (by assumption) ?restGat67x7
  case hoGat67x7 => (simp only [qa, qb, qc]; rfl)
  case h1Gat67x7 => kernel_rfl
  case h2Gat67x7 => kernel_rfl
  case h3Gat67x7 => kernel_rfl
  case h4Gat67x7 => rfl
  case hqGat67x7 => exact fun _ _ _ h => h
  case hyGat67x7 => (intro w hSw; (try dsimp only at hSw); go_simp <;> with_reducible rfl)
  (try simp only [Act.put, qd, qe, qf])
  refine wpAnyH_ready (rs := [8]) (by kernel_rfl) (by simp) ?_
  refine AllReadyH.cons (o := ?oiGaq68) ?hoGaq68 (fun K hK => ?restGaq68) ?moreGaq68
  case moreGaq68 => exact AllReadyH.nil
  case hoGaq68 => (simp only [qa, qb, qc]; rfl)
  go_simp
  refine hrd.mono ?_
  rintro e w5 ⟨A5, c5, rfl, ho5, hB5'⟩
  have hB5 := hbd.trans (hB5'.mono hbd.size)
  try go_wp2_with fail
  refine hK.out _ _ ?hSnewGahq68 (fun hHeld => ?restGahq68)
  case hSnewGahq68 => ((try dsimp only); exact HC.out _ hB5)
  clear hK K
  (try simp only [Act.put, qd, qe, qf])
  refine wpAnyH_take (i := 9) (oi := ?oiGat70x9) (v := ?vGat70x9) ?hoGat70x9 ?h1Gat70x9 ?h2Gat70x9 ?h3Gat70x9 ?hqGat70x9 (Or.inl ⟨?h4Gat70x9, ?hyGat70x9⟩) (by assumption) ?restGat70x9
  case hoGat70x9 => (simp only [qa, qb, qc]; rfl)
  case h1Gat70x9 => kernel_rfl
  case h2Gat70x9 => kernel_rfl
  case h3Gat70x9 => kernel_rfl
  case h4Gat70x9 => rfl
  case hqGat70x9 => exact fun _ _ _ h => h
  case hyGat70x9 => (intro w hSw; (try dsimp only at hSw); go_simp <;> with_reducible rfl)
  (try simp only [Act.put, qd, qe, qf])
  refine wpAnyH_take (i := 10) (oi := ?oiGat72x10) (v := ?vGat72x10) ?hoGat72x10 ?h1Gat72x10 ?h2Gat72x10 ?h3Gat72x10 ?hqGat72x10 (Or.inl ⟨?h4Gat72x10, ?hyGat72x10⟩) (by assumption) ?restGat72x10
  case hoGat72x10 => (simp only [qa, qb, qc]; rfl)
  case h1Gat72x10 => kernel_rfl
  case h2Gat72x10 => kernel_rfl
  case h3Gat72x10 => kernel_rfl
  case h4Gat72x10 => rfl
  case hqGat72x10 => exact fun _ _ _ h => h
  case hyGat72x10 => (intro w hSw; (try dsimp only at hSw); go_simp <;> with_reducible rfl)
  (try simp only [Act.put, qd, qe, qf])
  refine wpAnyH_take (i := 11) (oi := ?oiGat74x11) (v := ?vGat74x11) ?hoGat74x11 ?h1Gat74x11 ?h2Gat74x11 ?h3Gat74x11 ?hqGat74x11 (Or.inl ⟨?h4Gat74x11, ?hyGat74x11⟩) (by assumption) ?restGat74x11
  case hoGat74x11 => (simp only [qa, qb, qc]; rfl)
  case h1Gat74x11 => kernel_rfl
  case h2Gat74x11 => kernel_rfl
  case h3Gat74x11 => kernel_rfl
  case h4Gat74x11 => rfl
  case hqGat74x11 => exact fun _ _ _ h => h
  case hyGat74x11 => (intro w hSw; (try dsimp only at hSw); go_simp <;> with_reducible rfl)
  (try simp only [Act.put, qd, qe, qf])
  refine wpAnyH_take (i := 12) (oi := ?oiGat76x12) (v := ?vGat76x12) ?hoGat76x12 ?h1Gat76x12 ?h2Gat76x12 ?h3Gat76x12 ?hqGat76x12 (Or.inl ⟨?h4Gat76x12, ?hyGat76x12⟩) (by assumption) ?restGat76x12
  case hoGat76x12 => (simp only [qa, qb, qc]; rfl)
  case h1Gat76x12 => kernel_rfl
  case h2Gat76x12 => kernel_rfl
  case h3Gat76x12 => kernel_rfl
  case h4Gat76x12 => rfl
  case hqGat76x12 => exact fun _ _ _ h => h
  case hyGat76x12 => (intro w hSw; (try dsimp only at hSw); go_simp <;> with_reducible rfl)
  (try simp only [Act.put, qd, qe, qf])
  refine wpAnyH_take (i := 13) (oi := ?oiGat78x13) (v := ?vGat78x13) ?hoGat78x13 ?h1Gat78x13 ?h2Gat78x13 ?h3Gat78x13 ?hqGat78x13 (Or.inl ⟨?h4Gat78x13, ?hyGat78x13⟩) (by assumption) ?restGat78x13
  case hoGat78x13 => (simp only [qa, qb, qc]; rfl)
  case h1Gat78x13 => kernel_rfl
  case h2Gat78x13 => kernel_rfl
  case h3Gat78x13 => kernel_rfl
  case h4Gat78x13 => rfl
  case hqGat78x13 => exact fun _ _ _ h => h
  case hyGat78x13 => (intro w hSw; (try dsimp only at hSw); go_simp <;> with_reducible rfl)
  (try simp only [Act.put, qd, qe, qf])
  refine wpAnyH_done (by kernel_rfl) ?_ _
  rw [Hpb.out] at ho5
  have hz5 := own_reads ho5 (wf_of (Pg.ok.isB Hpok.out))
  have hlo5 : ∀ ad, A5 = some ad → w4.heap.size ≤ ad.block := fun ad had => own_low ho5 ad.block (by rw [had]; rfl)
  have hsr := sread_low A5 96 c5 p.bytes w5 hz5.2 hz5.1
  have hb45 := Hb44.out.later hB5
  have HB5 := hid (HB.out.trans (hB5.mono HB.out.size))
  have HF5 := hid (show p.bytes = page p.K p.E p.S p.a p.f p.ys from rfl)
  clear hrd ho5 hz5 hB5' hB5 HC hHeld
  go_wp2_with fail
  refine hsr.mono ?_
  rintro e w6 ⟨v, k, rfl, htold, hB6, hlow⟩
  clear hsr
  obtain ⟨K1, E1, S1, a1, f1, A6, n6, c6, ys1, rfl, rfl, hf1, hz6, he1⟩ : ∃ (K E S a f : Nat) (A : Option Addr) (n c : Nat) (ys : List Int), v = .agg #[.int .u8 (K : Int), .int .u64 (E : Int), .int .u64 (S : Int), .int .i64 (a : Int), .int .i64 ((f : Int) - 1), .slice A n c] ∧ k = 0 ∧ formN K E S a f ys ∧ Nums w6 .u8 A n ys ∧ p.bytes = page K E S a f ys := by
   rcases htold with h | ⟨h, -⟩
   ·exact h
   ·exact absurd ⟨_, _, _, _, _, _, Hpok.out, rfl⟩ h
  obtain ⟨rfl, rfl, rfl, rfl, rfl, rfl⟩ := page_inj Hpok.out hf1 he1
  have hlo6 := hlow _ _ _ _ rfl rfl
  have hb46 := hb45.later hB6
  have HB6 := hid (HB5.out.trans (hB6.mono HB5.out.size))
  have hlw : w.heap.size ≤ g4 := by have := Hg4.out; omega
  have Hlo := hid (show 0 < n6 → ∀ ad, A6 = some ad → w.heap.size ≤ ad.block from fun hn ad had => Nat.le_trans HB5.out.size (hlo6 hn ad had))
  have Hne := hid (show 0 < n6 → ∀ ad, A6 = some ad → ad.block ≠ g4 from fun hn ad had => by
   have := hlo6 hn ad had
   have := hb45.lt
   omega)
  obtain ⟨⟨y0, y1, y2, y3, y4, y5⟩, f0, f1', f2, f3, f4, f5⟩ := hb46.six
  have hbk := hb46.six_set (.int .u8 (p.K : Int)) (.int .u64 (p.E : Int)) (.int .u64 (p.S : Int)) (.int .i64 (p.a : Int)) (.int .i64 ((p.f : Int) - 1)) (.slice A6 n6 c6)
  have HBf := hid ((((((HB6.out.setCell (p := ⟨g4, 0, none⟩) hlw (.int .u8 (p.K : Int))).setCell (p := ⟨g4, 1, none⟩) hlw (.int .u64 (p.E : Int))).setCell (p := ⟨g4, 2, none⟩) hlw (.int .u64 (p.S : Int))).setCell (p := ⟨g4, 3, none⟩) hlw (.int .i64 (p.a : Int))).setCell (p := ⟨g4, 4, none⟩) hlw (.int .i64 ((p.f : Int) - 1))).setCell (p := ⟨g4, 5, none⟩) hlw (.slice A6 n6 c6))
  have hfr := (((((((Nand.Fr.refl (fun x => x = g4) w6).set g4 0 (.int .u8 (p.K : Int)) (.inl rfl)).set g4 1 (.int .u64 (p.E : Int)) (.inl rfl)).set g4 2 (.int .u64 (p.S : Int)) (.inl rfl)).set g4 3 (.int .i64 (p.a : Int)) (.inl rfl)).set g4 4 (.int .i64 ((p.f : Int) - 1)) (.inl rfl)).set g4 5 (.slice A6 n6 c6) (.inl rfl))
  have Hz7 := hid (nums_fr hz6 hfr (fun hn ad had e => Hne.out hn ad had e))
  have Hbk := hid hbk
  clear htold hB6 hlow hf1 hz6 he1 hlo6 hb45 hb46 hbk hfr hlo5 hlw Hb44
  go_wp2
  refine bodyPost_ret (Go.Proofs.Ytpcbpljdiacbmaa.Sheet.results_row_tmp (P := Try.prog) rfl _ _ g4 _ _ (0, 0) _ rfl Hbk.out Try.underlying85 rfl (by kernel_rfl)) rfl ?_
  exact ⟨A6, n6, c6, rfl, Hz7.out, HBf.out, Hlo.out⟩
end
end Go.Proofs.Ytpcbpljdiacbmaa.Ftl
