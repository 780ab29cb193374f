import Derived.Test.YtpcbpljdiacbmaaJFtlB
set_option linter.unusedVariables false
set_option linter.unusedSimpArgs false
namespace Go.Proofs.Ytpcbpljdiacbmaa.Ftl
open Go.RowKit Go.Proofs.Ytpcbpljdiacbmaa.Kit Go.Proofs.Ytpcbpljdiacbmaa.Oct Go.Proofs.Ytpcbpljdiacbmaa.Sheet Go.Proofs.Ytpcbpljdiacbmaa.Nand Go.Proofs.Ytpcbpljdiacbmaa.Plan Go.Proofs.Ytpcbpljdiacbmaa.Scan Go.Proofs.Ytpcbpljdiacbmaa.Pmap Go.Proofs.Ytpcbpljdiacbmaa.Pool
section
variable {c : FC} {o : FId} {w w' : World} {st : FT} {F Q : Nat → Prop} {V w0 w1 w2 : World}
/-- An address's page has its place. -/
theorem pmset_run (h : FR c o F Q V w0 w st) (hpi : PI c.M c.nb st.at' st.has st.cnt) (a b k : Nat) (ha : a < c.M) (hb : b < c.nb) (hk : k < 32) :
  Calls Try.prog 60 #[.pointer (some ⟨o.bm, 0, none⟩), .int .i64 (a : Int), .agg #[.int .i64 (b : Int), .int .i64 (k : Int)]] w fun e w' => e = .returned (.int .i64 0) ∧ FR c o F Q V w0 w' { st with at' := st.at'.set a ((b : Int), (k : Int)), has := st.has.set a true, cnt := scnt st.at' st.has st.cnt a b } := by
 have hpm := h.ft.pm
 have hnM := hpm.nM
 have hd := hpi.drop a ha
 refine (set_in o.bm o.ga o.gh o.gc c.M c.nb st.at' st.has st.cnt a b k w hpm ha hb hk (fun hh => ?_) ?_ hpm.ats.lt hpm.hass.lt hpm.cnts.lt).mono ?_
 ·obtain ⟨⟨h1, h2⟩, -⟩ := hpi.here a hh
  have ho := hpi.on (st.at'.getD a (0, 0)).1.toNat (by omega)
  have hp := cnum_pos (onP st.at' st.has (st.at'.getD a (0, 0)).1.toNat) c.M a ha (by unfold onP; rw [hh, decide_eq_true (by omega)]; rfl)
  have hl := cnum_le (onP st.at' st.has (st.at'.getD a (0, 0)).1.toNat) c.M
  refine ⟨h1, h2, by omega, by omega⟩
 ·have ho := hd.on b hb
  have hl := cnum_le (onP (st.at'.set a (0, 0)) (st.has.set a false) b) c.M
  omega
 ·rintro e w' ⟨he, hp, hf⟩
  exact ⟨he, h.own ((fr_pm hf).mono (fun g _ e => .inr (by rcases e with e | e | e; exact .inl e; exact .inr (.inl e); exact .inr (.inr (.inl e))))) (h.ft.pmap hf hp) rfl⟩

set_option maxRecDepth 100000 in
set_option maxHeartbeats 4000000 in
theorem program_run (h : FR c o F Q V w0 w st) (hw : FWf c st) (b : Nat) (hb : b < c.nb) (kd a f : Nat) (ys : List Int) (E0 S0 Fv : Int) (A : Option Addr) (n cc : Nat) (hz : Nums w .u8 A n ys) (hA : 0 < n → ∀ ad, A = some ad → ¬ o.mut ad.block) (hok : formN kd c.ep (st.seq + 1) a f ys) (ha : a < c.M) (hF : Fv = (f : Int) - 1) :
  Calls Try.prog 66 #[.pointer (some ⟨o.bf, 0, none⟩), .int .i64 (b : Int), .agg #[.int .u8 (kd : Int), .int .u64 E0, .int .u64 S0, .int .i64 (a : Int), .int .i64 Fv, .slice A n cc]] w fun e w' => e = .returned (.int .i64 (programF c st b kd a f ys).2) ∧ FR c o F Q V w0 w' (programF c st b kd a f ys).1 := by
 have hS2 : st.seq + 1 < 281474976710656 := hok.2.2.2.1
 obtain ⟨q1, hq1⟩ : ∃ x, st.seq + 1 = x := ⟨_, rfl⟩
 have cv1 : IntKind.u64.wrap ((st.seq : Int) + 1) = (q1 : Int) := by rw [IntWalk.u64_in _ (by omega)]; omega
 have Hq1 := hid hq1
 have HF := hid hF
 clear hF hq1
 obtain ⟨N', hN'⟩ : ∃ x, (st.prg c b kd a f ys).1 = x := ⟨_, rfl⟩
 obtain ⟨z, hz'⟩ : ∃ x, (st.prg c b kd a f ys).2 = x := ⟨_, rfl⟩
 have hR : programF c st b kd a f ys = if z = 8 ∨ z = 6 then (({ st with N := N', seq := q1 } : FT).how c b 3, 8) else if z = 0 then ({ st with N := N', seq := q1, at' := st.at'.set a ((b : Int), ((st.N.blk b).pages.length : Int)), has := st.has.set a true, cnt := scnt st.at' st.has st.cnt a b }, 0) else ({ st with N := N', seq := q1 }, z) := by
  unfold programF
  rw [hN', hz', Hq1.out]
 have HR := hid hR
 have Hprg := hid (show z = 0 → (st.N.blk b).pages.length < 32 from fun h0 => by
  have hz := hz'
  rw [h0] at hz
  unfold FT.prg at hz
  by_cases he : st.N.progE (b : Int) ((st.N.blk b).pages.length : Int) (st.next c kd a f ys).length c.ep = 0
  ·obtain ⟨-, -, g3, -⟩ := progE_ok he
   have := h.ft.geo.bd
   rw [hw.lp] at g3
   omega
  ·rw [prog_err _ _ _ _ he] at hz
   exact absurd hz he)
 generalize programF c st b kd a f ys = R at *
 have HN' := hid (show (st.prg c b kd a f ys).1 = N' ∧ (st.prg c b kd a f ys).2 = z from ⟨hN', hz'⟩)
 clear hN' hz' hR
 have hbl := h.ft.f.lt
 obtain ⟨k0, k1, k2, k3, k4, k5, k6, k7, k8⟩ := h.ft.cells
 have hf8 := h.ft.f.free 8
 go_enter Try.func66, Try.ntmps66
 go_upto_region 1 with (fail)
 obtain ⟨gs, hgs⟩ : ∃ g, w.heap.size = g := ⟨_, rfl⟩
 generalize hw1 : World.alloc w _ = wa
 have hBa : Below w.heap.size w wa := by rw [← hw1]; exact (Below.refl _ _).alloc (Nat.le_refl _) _
 have hba : Blk wa gs #[.int .u8 (kd : Int), .int .u64 E0, .int .u64 S0, .int .i64 (a : Int), .int .i64 Fv, .slice A n cc] 85 := by rw [← hw1, ← hgs]; exact Blk.new _ _ _
 have hgne : gs ≠ o.bf := by omega
 have hfa := h.ft.later hBa
 obtain ⟨k0, k1, k2, k3, k4, k5, k6, k7, k8⟩ := hfa.cells
 have hf8 := hfa.f.free 8
 rw [hgs]
 have hfb := hfa.num q1
 have haQ : FR c o F (fun g => Q g ∨ g = gs) wa w0 wa st := h.more hBa (fun g hg => hg.imp id (fun e => by rw [e, ← hgs]; exact ⟨Nat.le_refl _, by rw [hgs]; exact hba.lt⟩)) (fun g hg => .inl hg)
 have hFb2 : Nand.Fr o.mut wa (wa.setCell ⟨o.bf, 8, none⟩ (.int .u64 (q1 : Int))) := (Nand.Fr.refl _ wa).set o.bf 8 _ (.inl (.inl rfl))
 have hba2 := hba.setOther ⟨o.bf, 8, none⟩ hgne (.int .u64 (q1 : Int))
 have hFb : Nand.Fr o.mut w (wa.setCell ⟨o.bf, 8, none⟩ (.int .u64 (q1 : Int))) := (Nand.Fr.of_below hBa).set o.bf 8 _ (.inl (.inl rfl))
 have hzb := nums_fr hz hFb (fun hn ad had => hA hn ad had)
 have Hlt := hid (show 0 < n → ∀ ad, A = some ad → ad.block < w.heap.size from fun hn ad had => by
  obtain ⟨b', o', e', hc'⟩ := hz.at_ 0 hn
  rw [had] at e'
  injection e' with e'
  have := World.block_lt_of_cell? w _ hc'
  rw [e']
  exact this)
 have H := hid h
 have Hfb := hid hfb
 have Hba := hid hba2
 have HFb := hid hFb
 have HaQ := hid haQ
 have HFb2 := hid hFb2
 have Hzb := hid hzb
 clear hw1 hBa hba hfa h hz hfb hba2 hFb hzb haQ hFb2
 go_upto_region 2 with (fail)
 generalize World.setCell wa _ _ = w2 at *
 clear k0 k1 k2 k3 k4 k5 k6 k7 k8 hf8
 have hgsf := Hba.out.free 1
 have hgsf2 := Hba.out.free 2
 have hgc1 : w2.cell? ⟨gs, 1, none⟩ = some (.int .u64 E0) := Hba.out.cell 1
 have hgc2 : w2.cell? ⟨gs, 2, none⟩ = some (.int .u64 S0) := Hba.out.cell 2
 have HS := hid (fun (W : World) (hW : Nand.Fr (fun x => x = gs) w2 W) => (⟨(blk_fr Hfb.out.f hW (fun e => hgne e.symm)).cell 5, (blk_fr Hfb.out.f hW (fun e => hgne e.symm)).cell 8⟩ : W.cell? ⟨o.bf, 5, none⟩ = some (.int .u64 (c.ep : Int)) ∧ W.cell? ⟨o.bf, 8, none⟩ = some (.int .u64 (q1 : Int))))
 refine wp_region_held_drew (S := (fun w' => w'.cell? ⟨o.bf, 5, none⟩ = some (.int .u64 (c.ep : Int)) ∧ w'.cell? ⟨o.bf, 8, none⟩ = some (.int .u64 (q1 : Int)))) (by kernel_rfl) ?hSnewPaz (fun hHeld => ?restPaz)
 case hSnewPaz => ((try dsimp only); exact HS.out _ ((Nand.Fr.refl (fun x => x = gs) w2).drewN 1))
 refine wpAnyH_take (i := 0) (oi := ?oiPat53x0) (v := ?vPat53x0) ?hoPat53x0 ?h1Pat53x0 ?h2Pat53x0 ?h3Pat53x0 ?hqPat53x0 (Or.inl ⟨?h4Pat53x0, ?hyPat53x0⟩) (by assumption) ?restPat53x0
 case hoPat53x0 => (simp only [qa, qb, qc]; rfl)
 case h1Pat53x0 => kernel_rfl
 case h2Pat53x0 => kernel_rfl
 case h3Pat53x0 => kernel_rfl
 case h4Pat53x0 => rfl
 case hqPat53x0 => exact fun _ _ _ h => h
 case hyPat53x0 => (intro w hSw; (try dsimp only at hSw); go_simp <;> with_reducible rfl)
 (try simp only [Act.put, qd, qe, qf])
 refine wpAnyH_take (i := 1) (oi := ?oiPat55x1) (v := ?vPat55x1) ?hoPat55x1 ?h1Pat55x1 ?h2Pat55x1 ?h3Pat55x1 ?hqPat55x1 (Or.inl ⟨?h4Pat55x1, ?hyPat55x1⟩) (by assumption) ?restPat55x1
 case hoPat55x1 => (simp only [qa, qb, qc]; rfl)
 case h1Pat55x1 => kernel_rfl
 case h2Pat55x1 => kernel_rfl
 case h3Pat55x1 => kernel_rfl
 case h4Pat55x1 => rfl
 case hqPat55x1 => exact fun _ _ _ h => h
 case hyPat55x1 => (intro w hSw; (try dsimp only at hSw); go_simp <;> with_reducible rfl)
 (try simp only [Act.put, qd, qe, qf])
 refine wpAnyH_take (i := 2) (oi := ?oiPat57x2) (v := ?vPat57x2) ?hoPat57x2 ?h1Pat57x2 ?h2Pat57x2 ?h3Pat57x2 ?hqPat57x2 (Or.inl ⟨?h4Pat57x2, ?hyPat57x2⟩) (by assumption) ?restPat57x2
 case hoPat57x2 => (simp only [qa, qb, qc]; rfl)
 case h1Pat57x2 => kernel_rfl
 case h2Pat57x2 => kernel_rfl
 case h3Pat57x2 => kernel_rfl
 case h4Pat57x2 => rfl
 case hqPat57x2 => exact fun _ _ _ h => h
 case hyPat57x2 => (intro w hSw; (try dsimp only at hSw); go_simp <;> with_reducible rfl)
 (try simp only [Act.put, qd, qe, qf])
 refine wpAnyH_take (i := 3) (oi := ?oiPat59x3) (v := ?vPat59x3) ?hoPat59x3 ?h1Pat59x3 ?h2Pat59x3 ?h3Pat59x3 ?hqPat59x3 (Or.inl ⟨?h4Pat59x3, ?hyPat59x3⟩) (by assumption) ?restPat59x3
 case hoPat59x3 => (simp only [qa, qb, qc]; rfl)
 case h1Pat59x3 => kernel_rfl
 case h2Pat59x3 => kernel_rfl
 case h3Pat59x3 => kernel_rfl
 case h4Pat59x3 => rfl
 case hqPat59x3 => exact fun _ _ _ h => h
 case hyPat59x3 => (intro w hSw; (try dsimp only at hSw); go_simp <;> with_reducible rfl)
 (try simp only [Act.put, qd, qe, qf])
 refine wpAnyH_take (i := 4) (oi := ?oiPat61x4) (v := ?vPat61x4) ?hoPat61x4 ?h1Pat61x4 ?h2Pat61x4 ?h3Pat61x4 ?hqPat61x4 (Or.inl ⟨?h4Pat61x4, ?hyPat61x4⟩) (by assumption) ?restPat61x4
 case hoPat61x4 => (simp only [qa, qb, qc]; rfl)
 case h1Pat61x4 => kernel_rfl
 case h2Pat61x4 => kernel_rfl
 case h3Pat61x4 => kernel_rfl
 case h4Pat61x4 => rfl
 case hqPat61x4 => exact fun _ _ _ h => h
 case hyPat61x4 => (intro w hSw; (try dsimp only at hSw); go_simp <;> with_reducible rfl)
 (try simp only [Act.put, qd, qe, qf])
 refine wpAnyH_take (i := 5) (oi := ?oiPat63x5) (v := ?vPat63x5) ?hoPat63x5 ?h1Pat63x5 ?h2Pat63x5 ?h3Pat63x5 ?hqPat63x5 (Or.inl ⟨?h4Pat63x5, ?hyPat63x5⟩) (by assumption) ?restPat63x5
 case hoPat63x5 => (simp only [qa, qb, qc]; rfl)
 case h1Pat63x5 => kernel_rfl
 case h2Pat63x5 => kernel_rfl
 case h3Pat63x5 => kernel_rfl
 case h4Pat63x5 => rfl
 case hqPat63x5 => exact fun _ _ _ h => h
 case hyPat63x5 => (intro w hSw; (try dsimp only at hSw); go_simp <;> with_reducible rfl)
 (try simp only [Act.put, qd, qe, qf])
 refine wpAnyH_take (i := 6) (oi := ?oiPat65x6) (v := ?vPat65x6) ?hoPat65x6 ?h1Pat65x6 ?h2Pat65x6 ?h3Pat65x6 ?hqPat65x6 (Or.inl ⟨?h4Pat65x6, ?hyPat65x6⟩) (by assumption) ?restPat65x6
 case hoPat65x6 => (simp only [qa, qb, qc]; rfl)
 case h1Pat65x6 => kernel_rfl
 case h2Pat65x6 => kernel_rfl
 case h3Pat65x6 => kernel_rfl
 case h4Pat65x6 => rfl
 case hqPat65x6 => exact fun _ _ _ h => h
 case hyPat65x6 => (intro w hSw; (try dsimp only at hSw); go_simp <;> with_reducible rfl)
 (try simp only [Act.put, qd, qe, qf])
 refine wpAnyH_take (i := 7) (oi := ?oiPat67x7) (v := ?vPat67x7) ?hoPat67x7 ?h1Pat67x7 ?h2Pat67x7 ?h3Pat67x7 ?hqPat67x7 (Or.inl ⟨?h4Pat67x7, ?hyPat67x7⟩) (by assumption) ?restPat67x7
 case hoPat67x7 => (simp only [qa, qb, qc]; rfl)
 case h1Pat67x7 => kernel_rfl
 case h2Pat67x7 => kernel_rfl
 case h3Pat67x7 => kernel_rfl
 case h4Pat67x7 => rfl
 case hqPat67x7 => exact fun _ _ _ h => h
 case hyPat67x7 => (intro w hSw; (try dsimp only at hSw); go_simp <;> with_reducible rfl)
 (try simp only [Act.put, qd, qe, qf])
 refine wpAnyH_take (i := 8) (oi := ?oiPat69x8) (v := ?vPat69x8) ?hoPat69x8 ?h1Pat69x8 ?h2Pat69x8 ?h3Pat69x8 ?hqPat69x8 (Or.inl ⟨?h4Pat69x8, ?hyPat69x8⟩) (by assumption) ?restPat69x8
 case hoPat69x8 => (simp only [qa, qb, qc]; rfl)
 case h1Pat69x8 => kernel_rfl
 case h2Pat69x8 => kernel_rfl
 case h3Pat69x8 => kernel_rfl
 case h4Pat69x8 => rfl
 case hqPat69x8 => exact fun _ _ _ h => h
 case hyPat69x8 => (intro w hSw; (try dsimp only at hSw); go_simp <;> with_reducible rfl)
 (try simp only [Act.put, qd, qe, qf])
 refine wpAnyH_ready (rs := [9]) (by kernel_rfl) (by simp) ?_
 refine AllReadyH.cons (o := ?oiPaq70) ?hoPaq70 (fun K hK => ?restPaq70) ?morePaq70
 case morePaq70 => exact AllReadyH.nil
 case hoPaq70 => (simp only [qa, qb, qc]; rfl)
 go_simp
 refine hK.out _ _ ?hSnewPahq70 (fun hHeld => ?restPahq70)
 case hSnewPahq70 => ((try dsimp only); exact HS.out _ (((Nand.Fr.refl (fun x => x = gs) w2).drewN 1).set gs 1 _ (.inl rfl)))
 clear hK K
 (try simp only [Act.put, qd, qe, qf])
 refine wpAnyH_take (i := 10) (oi := ?oiPat72x10) (v := ?vPat72x10) ?hoPat72x10 ?h1Pat72x10 ?h2Pat72x10 ?h3Pat72x10 ?hqPat72x10 (Or.inl ⟨?h4Pat72x10, ?hyPat72x10⟩) (by assumption) ?restPat72x10
 case hoPat72x10 => (simp only [qa, qb, qc]; rfl)
 case h1Pat72x10 => kernel_rfl
 case h2Pat72x10 => kernel_rfl
 case h3Pat72x10 => kernel_rfl
 case h4Pat72x10 => rfl
 case hqPat72x10 => exact fun _ _ _ h => h
 case hyPat72x10 => (intro w hSw; (try dsimp only at hSw); go_simp <;> with_reducible rfl)
 (try simp only [Act.put, qd, qe, qf])
 refine wpAnyH_ready (rs := [11]) (by kernel_rfl) (by simp) ?_
 refine AllReadyH.cons (o := ?oiPaq73) ?hoPaq73 (fun K hK => ?restPaq73) ?morePaq73
 case morePaq73 => exact AllReadyH.nil
 case hoPaq73 => (simp only [qa, qb, qc]; rfl)
 go_simp
 refine hK.out _ _ ?hSnewPahq73 (fun hHeld => ?restPahq73)
 case hSnewPahq73 => ((try dsimp only); exact HS.out _ ((((Nand.Fr.refl (fun x => x = gs) w2).drewN 1).set gs 1 _ (.inl rfl)).set gs 2 _ (.inl rfl)))
 clear hK K
 (try simp only [Act.put, qd, qe, qf])
 refine wpAnyH_done (by kernel_rfl) ?_ _
 obtain ⟨w3, hw3⟩ : ∃ W, W = ((w2.setCell ⟨gs, 1, none⟩ (.int .u64 (c.ep : Int))).setCell ⟨gs, 2, none⟩ (.int .u64 (q1 : Int))).drew := ⟨_, rfl⟩
 have hf23 : Nand.Fr (fun x => x = gs) w2 w3 := by rw [hw3]; exact (((Nand.Fr.refl (fun x => x = gs) w2).set gs 1 _ (.inl rfl)).set gs 2 _ (.inl rfl)).drewN 1
 have hb3 : Blk w3 gs #[.int .u8 (kd : Int), .int .u64 (c.ep : Int), .int .u64 (q1 : Int), .int .i64 (a : Int), .int .i64 Fv, .slice A n cc] 85 := by
  rw [hw3]
  have := (Hba.out.set 1 (.int .u64 (c.ep : Int))).set 2 (.int .u64 (q1 : Int))
  simp at this
  exact this
 have hKl := H.out.low
 have hf3 : Nand.Fr o.mut w w3 := HFb.out.trans hf23 (fun g hg e => by omega)
 have h3 : FR c o F (fun g => Q g ∨ g = gs) w3 w0 w3 { st with seq := q1 } := (HaQ.out.own (HFb2.out) Hfb.out rfl).mine (hf23.mono (fun g _ e => .inr e))
 have hz3 := nums_fr Hzb.out hf23 (fun hn ad had e => by
  have hlt := Hlt.out hn ad had
  omega)
 rw [← hw3]
 have hnx := next_run h3 b (by rw [← hw.lb] at hb; exact hb)
 have H3 := hid h3
 have Hb3 := hid hb3
 have Hz3 := hid hz3
 have HKl := hid hKl
 have Hf3 := hid hf3
 clear hw3 hf23 hb3 hf3 h3 hz3 Hba HaQ HFb2 HFb Hzb Hfb HS hHeld hgsf hgsf2 hgc1 hgc2 hKl hf8
 obtain ⟨k0, k1, k2, k3, k4, k5, k6, k7, k8⟩ := H3.out.ft.cells
 go_wp2_with fail
 refine hnx.mono ?_
 rintro e w4 ⟨rfl, rfl⟩
 clear hnx
 go_upto_region 4 with (fail)
 obtain ⟨gt, hgt⟩ : ∃ g, w4.heap.size = g := ⟨_, rfl⟩
 generalize hw5 : World.alloc w4 _ = w5
 have hB45 : Below w4.heap.size w4 w5 := by rw [← hw5]; exact (Below.refl _ _).alloc (Nat.le_refl _) _
 have hbt : Blk w5 gt #[.int .i64 (b : Int), .int .i64 ((st.N.blk b).pages.length : Int)] 87 := by rw [← hw5, ← hgt]; exact Blk.new _ _ _
 have hz5 := Hz3.out.below hB45
 have hb5 := Hb3.out.later hB45
 have H5 := hid (show FR c o F (fun g => Q g ∨ g = gs ∨ g = gt) w5 w0 w5 { st with seq := q1 } from H3.out.more hB45 (fun g hg => by
  rcases hg with hg | hg | hg
  ·exact .inl (.inl hg)
  ·exact .inl (.inr hg)
  ·exact .inr (by rw [hg, ← hgt]; exact ⟨Nat.le_refl _, by rw [hgt]; exact hbt.lt⟩)) (fun g hg => hg.imp id .inl))
 have Hf5 := hid (Hf3.out.trans (Nand.Fr.of_below (F := fun _ => False) hB45) (fun _ _ x => x.elim))
 have Hgn := hid (show w.heap.size ≤ gs ∧ w.heap.size ≤ gt from ⟨by omega, by have := Hf3.out.size; omega⟩)
 rw [hgt]
 have hlay := lay_pg ⟨kd, c.ep, q1, a, f, ys⟩ (by rw [← Hq1.out]; exact hok) Fv (by rw [HF.out]) A n cc w5.drew hz5.drew
 replace hlay : Calls Try.prog 80 #[.agg #[.int .u8 (kd : Int), .int .u64 (c.ep : Int), .int .u64 (q1 : Int), .int .i64 (a : Int), .int .i64 Fv, .slice A n cc]] w5.drew fun e w' => ∃ A' c', e = .returned (.slice A' 96 c') ∧ Nums w' .u8 A' 96 (page kd c.ep q1 a f ys) ∧ Below w5.drew.heap.size w5.drew w' := hlay
 have HPr := hid (fun (W : World) (hW : Below w5.heap.size w5 W) (A' : Option Addr) (c' : Nat) (hz' : Nums W .u8 A' 96 (page kd c.ep q1 a f ys)) => (by
  have := (H5.out.later hW).calls (fun F' hA => program_any F' o.ba st.N (b : Int) ((st.N.blk b).pages.length : Int) A' 96 c' (page kd c.ep q1 a f ys) (c.ep : Int) W hA hz' (by omega))
  have e1 : st.N.prog (b : Int) ((st.N.blk b).pages.length : Int) (page kd c.ep q1 a f ys) (c.ep : Int) = st.prg c b kd a f ys := by unfold FT.prg FT.next; rw [Hq1.out]
  rw [e1, HN'.out.1, HN'.out.2] at this
  exact this :
  Calls Try.prog 79 #[.pointer (some ⟨o.ba, 0, none⟩), .int .i64 (b : Int), .int .i64 ((st.N.blk b).pages.length : Int), .slice A' 96 c', .int .u64 (c.ep : Int)] W fun e w' => e = .returned (.int .i64 z) ∧ FR c o F (fun g => Q g ∨ g = gs ∨ g = gt) w5 w0 w' { st with N := N', seq := q1 }))
 have hKbf := HKl.out o.bf (.inl (.inl rfl))
 have hbl5 := H5.out.ft.f.lt
 have hbd4 : Below w5.heap.size w5 w5.drew := below_drewN (Below.refl _ _) 1
 have HC := hid (fun (W : World) (hW : Below w5.heap.size w5 W) => (by
  have f5 := H5.out.ft.f.later hW
  have t5 := hbt.later hW
  have s5 := hb5.later hW
  exact ⟨f5.cell 0, f5.cell 5, t5.cell 1, s5.cell 0, s5.cell 1, s5.cell 2, s5.cell 3, s5.cell 4, s5.cell 5⟩ : W.cell? ⟨o.bf, 0, none⟩ = some (.pointer (some ⟨o.ba, 0, none⟩)) ∧ W.cell? ⟨o.bf, 5, none⟩ = some (.int .u64 (c.ep : Int)) ∧ W.cell? ⟨gt, 1, none⟩ = some (.int .i64 ((st.N.blk b).pages.length : Int)) ∧ W.cell? ⟨gs, 0, none⟩ = some (.int .u8 (kd : Int)) ∧ W.cell? ⟨gs, 1, none⟩ = some (.int .u64 (c.ep : Int)) ∧ W.cell? ⟨gs, 2, none⟩ = some (.int .u64 (q1 : Int)) ∧ W.cell? ⟨gs, 3, none⟩ = some (.int .i64 (a : Int)) ∧ W.cell? ⟨gs, 4, none⟩ = some (.int .i64 Fv) ∧ W.cell? ⟨gs, 5, none⟩ = some (.slice A n cc)))
 have HC7 := hid (fun (W : World) (hW : FR c o F (fun g => Q g ∨ g = gs ∨ g = gt) w5 w0 W { st with N := N', seq := q1 }) => (by
  have f5 := hW.ft.f
  have t5 := hW.blk (.inr (.inr rfl)) hbt
  have s5 := hW.blk (.inr (.inl rfl)) hb5
  exact ⟨f5.cell 0, f5.cell 5, t5.cell 1, s5.cell 0, s5.cell 1, s5.cell 2, s5.cell 3, s5.cell 4, s5.cell 5⟩ : W.cell? ⟨o.bf, 0, none⟩ = some (.pointer (some ⟨o.ba, 0, none⟩)) ∧ W.cell? ⟨o.bf, 5, none⟩ = some (.int .u64 (c.ep : Int)) ∧ W.cell? ⟨gt, 1, none⟩ = some (.int .i64 ((st.N.blk b).pages.length : Int)) ∧ W.cell? ⟨gs, 0, none⟩ = some (.int .u8 (kd : Int)) ∧ W.cell? ⟨gs, 1, none⟩ = some (.int .u64 (c.ep : Int)) ∧ W.cell? ⟨gs, 2, none⟩ = some (.int .u64 (q1 : Int)) ∧ W.cell? ⟨gs, 3, none⟩ = some (.int .i64 (a : Int)) ∧ W.cell? ⟨gs, 4, none⟩ = some (.int .i64 Fv) ∧ W.cell? ⟨gs, 5, none⟩ = some (.slice A n cc)))
 have Hbt := hid hbt
 have Hb5 := hid hb5
 clear hw5 hB45 hbt hz5 hb5 hgt H3 Hb3 Hz3 k0 k1 k2 k3 k4 k5 k6 k7 k8 hbl5 cv1 hHeld
 refine wp_region_held_drew (S := (fun W => W.cell? ⟨o.bf, 0, none⟩ = some (.pointer (some ⟨o.ba, 0, none⟩)) ∧ W.cell? ⟨o.bf, 5, none⟩ = some (.int .u64 (c.ep : Int)) ∧ W.cell? ⟨gt, 1, none⟩ = some (.int .i64 ((st.N.blk b).pages.length : Int)) ∧ W.cell? ⟨gs, 0, none⟩ = some (.int .u8 (kd : Int)) ∧ W.cell? ⟨gs, 1, none⟩ = some (.int .u64 (c.ep : Int)) ∧ W.cell? ⟨gs, 2, none⟩ = some (.int .u64 (q1 : Int)) ∧ W.cell? ⟨gs, 3, none⟩ = some (.int .i64 (a : Int)) ∧ W.cell? ⟨gs, 4, none⟩ = some (.int .i64 Fv) ∧ W.cell? ⟨gs, 5, none⟩ = some (.slice A n cc))) (by kernel_rfl) ?hSnewPbz (fun hHeld => ?restPbz)
 case hSnewPbz => ((try dsimp only); exact HC.out _ hbd4)
 refine wpAnyH_take (i := 0) (oi := ?oiPbt75x0) (v := ?vPbt75x0) ?hoPbt75x0 ?h1Pbt75x0 ?h2Pbt75x0 ?h3Pbt75x0 ?hqPbt75x0 (Or.inl ⟨?h4Pbt75x0, ?hyPbt75x0⟩) (by assumption) ?restPbt75x0
 case hoPbt75x0 => (simp only [qa, qb, qc]; rfl)
 case h1Pbt75x0 => kernel_rfl
 case h2Pbt75x0 => kernel_rfl
 case h3Pbt75x0 => kernel_rfl
 case h4Pbt75x0 => rfl
 case hqPbt75x0 => exact fun _ _ _ h => h
 case hyPbt75x0 => (intro w hSw; (try dsimp only at hSw); go_simp <;> with_reducible rfl)
 (try simp only [Act.put, qd, qe, qf])
 refine wpAnyH_take (i := 1) (oi := ?oiPbt77x1) (v := ?vPbt77x1) ?hoPbt77x1 ?h1Pbt77x1 ?h2Pbt77x1 ?h3Pbt77x1 ?hqPbt77x1 (Or.inl ⟨?h4Pbt77x1, ?hyPbt77x1⟩) (by assumption) ?restPbt77x1
 case hoPbt77x1 => (simp only [qa, qb, qc]; rfl)
 case h1Pbt77x1 => kernel_rfl
 case h2Pbt77x1 => kernel_rfl
 case h3Pbt77x1 => kernel_rfl
 case h4Pbt77x1 => rfl
 case hqPbt77x1 => exact fun _ _ _ h => h
 case hyPbt77x1 => (intro w hSw; (try dsimp only at hSw); go_simp <;> with_reducible rfl)
 (try simp only [Act.put, qd, qe, qf])
 refine wpAnyH_take (i := 2) (oi := ?oiPbt79x2) (v := ?vPbt79x2) ?hoPbt79x2 ?h1Pbt79x2 ?h2Pbt79x2 ?h3Pbt79x2 ?hqPbt79x2 (Or.inl ⟨?h4Pbt79x2, ?hyPbt79x2⟩) (by assumption) ?restPbt79x2
 case hoPbt79x2 => (simp only [qa, qb, qc]; rfl)
 case h1Pbt79x2 => kernel_rfl
 case h2Pbt79x2 => kernel_rfl
 case h3Pbt79x2 => kernel_rfl
 case h4Pbt79x2 => rfl
 case hqPbt79x2 => exact fun _ _ _ h => h
 case hyPbt79x2 => (intro w hSw; (try dsimp only at hSw); go_simp <;> with_reducible rfl)
 (try simp only [Act.put, qd, qe, qf])
 refine wpAnyH_take (i := 3) (oi := ?oiPbt81x3) (v := ?vPbt81x3) ?hoPbt81x3 ?h1Pbt81x3 ?h2Pbt81x3 ?h3Pbt81x3 ?hqPbt81x3 (Or.inl ⟨?h4Pbt81x3, ?hyPbt81x3⟩) (by assumption) ?restPbt81x3
 case hoPbt81x3 => (simp only [qa, qb, qc]; rfl)
 case h1Pbt81x3 => kernel_rfl
 case h2Pbt81x3 => kernel_rfl
 case h3Pbt81x3 => kernel_rfl
 case h4Pbt81x3 => rfl
 case hqPbt81x3 => exact fun _ _ _ h => h
 case hyPbt81x3 => (intro w hSw; (try dsimp only at hSw); go_simp <;> with_reducible rfl)
 (try simp only [Act.put, qd, qe, qf])
 refine wpAnyH_take (i := 4) (oi := ?oiPbt83x4) (v := ?vPbt83x4) ?hoPbt83x4 ?h1Pbt83x4 ?h2Pbt83x4 ?h3Pbt83x4 ?hqPbt83x4 (Or.inl ⟨?h4Pbt83x4, ?hyPbt83x4⟩) (by assumption) ?restPbt83x4
 case hoPbt83x4 => (simp only [qa, qb, qc]; rfl)
 case h1Pbt83x4 => kernel_rfl
 case h2Pbt83x4 => kernel_rfl
 case h3Pbt83x4 => kernel_rfl
 case h4Pbt83x4 => rfl
 case hqPbt83x4 => exact fun _ _ _ h => h
 case hyPbt83x4 => (intro w hSw; (try dsimp only at hSw); go_simp <;> with_reducible rfl)
 (try simp only [Act.put, qd, qe, qf])
 refine wpAnyH_take (i := 5) (oi := ?oiPbt85x5) (v := ?vPbt85x5) ?hoPbt85x5 ?h1Pbt85x5 ?h2Pbt85x5 ?h3Pbt85x5 ?hqPbt85x5 (Or.inl ⟨?h4Pbt85x5, ?hyPbt85x5⟩) (by assumption) ?restPbt85x5
 case hoPbt85x5 => (simp only [qa, qb, qc]; rfl)
 case h1Pbt85x5 => kernel_rfl
 case h2Pbt85x5 => kernel_rfl
 case h3Pbt85x5 => kernel_rfl
 case h4Pbt85x5 => rfl
 case hqPbt85x5 => exact fun _ _ _ h => h
 case hyPbt85x5 => (intro w hSw; (try dsimp only at hSw); go_simp <;> with_reducible rfl)
 (try simp only [Act.put, qd, qe, qf])
 refine wpAnyH_take (i := 6) (oi := ?oiPbt87x6) (v := ?vPbt87x6) ?hoPbt87x6 ?h1Pbt87x6 ?h2Pbt87x6 ?h3Pbt87x6 ?hqPbt87x6 (Or.inl ⟨?h4Pbt87x6, ?hyPbt87x6⟩) (by assumption) ?restPbt87x6
 case hoPbt87x6 => (simp only [qa, qb, qc]; rfl)
 case h1Pbt87x6 => kernel_rfl
 case h2Pbt87x6 => kernel_rfl
 case h3Pbt87x6 => kernel_rfl
 case h4Pbt87x6 => rfl
 case hqPbt87x6 => exact fun _ _ _ h => h
 case hyPbt87x6 => (intro w hSw; (try dsimp only at hSw); go_simp <;> with_reducible rfl)
 (try simp only [Act.put, qd, qe, qf])
 refine wpAnyH_take (i := 7) (oi := ?oiPbt89x7) (v := ?vPbt89x7) ?hoPbt89x7 ?h1Pbt89x7 ?h2Pbt89x7 ?h3Pbt89x7 ?hqPbt89x7 (Or.inl ⟨?h4Pbt89x7, ?hyPbt89x7⟩) (by assumption) ?restPbt89x7
 case hoPbt89x7 => (simp only [qa, qb, qc]; rfl)
 case h1Pbt89x7 => kernel_rfl
 case h2Pbt89x7 => kernel_rfl
 case h3Pbt89x7 => kernel_rfl
 case h4Pbt89x7 => rfl
 case hqPbt89x7 => exact fun _ _ _ h => h
 case hyPbt89x7 => (intro w hSw; (try dsimp only at hSw); go_simp <;> with_reducible rfl)
 (try simp only [Act.put, qd, qe, qf])
 refine wpAnyH_take (i := 9) (oi := ?oiPbt91x9) (v := ?vPbt91x9) ?hoPbt91x9 ?h1Pbt91x9 ?h2Pbt91x9 ?h3Pbt91x9 ?hqPbt91x9 (Or.inl ⟨?h4Pbt91x9, ?hyPbt91x9⟩) (by assumption) ?restPbt91x9
 case hoPbt91x9 => (simp only [qa, qb, qc]; rfl)
 case h1Pbt91x9 => kernel_rfl
 case h2Pbt91x9 => kernel_rfl
 case h3Pbt91x9 => kernel_rfl
 case h4Pbt91x9 => rfl
 case hqPbt91x9 => exact fun _ _ _ h => h
 case hyPbt91x9 => (intro w hSw; (try dsimp only at hSw); go_simp <;> with_reducible rfl)
 (try simp only [Act.put, qd, qe, qf])
 refine wpAnyH_take (i := 10) (oi := ?oiPbt93x10) (v := ?vPbt93x10) ?hoPbt93x10 ?h1Pbt93x10 ?h2Pbt93x10 ?h3Pbt93x10 ?hqPbt93x10 (Or.inl ⟨?h4Pbt93x10, ?hyPbt93x10⟩) (by assumption) ?restPbt93x10
 case hoPbt93x10 => (simp only [qa, qb, qc]; rfl)
 case h1Pbt93x10 => kernel_rfl
 case h2Pbt93x10 => kernel_rfl
 case h3Pbt93x10 => kernel_rfl
 case h4Pbt93x10 => rfl
 case hqPbt93x10 => exact fun _ _ _ h => h
 case hyPbt93x10 => (intro w hSw; (try dsimp only at hSw); go_simp <;> with_reducible rfl)
 (try simp only [Act.put, qd, qe, qf])
 refine wpAnyH_take (i := 11) (oi := ?oiPbt95x11) (v := ?vPbt95x11) ?hoPbt95x11 ?h1Pbt95x11 ?h2Pbt95x11 ?h3Pbt95x11 ?hqPbt95x11 (Or.inl ⟨?h4Pbt95x11, ?hyPbt95x11⟩) (by assumption) ?restPbt95x11
 case hoPbt95x11 => (simp only [qa, qb, qc]; rfl)
 case h1Pbt95x11 => kernel_rfl
 case h2Pbt95x11 => kernel_rfl
 case h3Pbt95x11 => kernel_rfl
 case h4Pbt95x11 => rfl
 case hqPbt95x11 => exact fun _ _ _ h => h
 case hyPbt95x11 => (intro w hSw; (try dsimp only at hSw); go_simp <;> with_reducible rfl)
 (try simp only [Act.put, qd, qe, qf])
 refine wpAnyH_take (i := 12) (oi := ?oiPbt97x12) (v := ?vPbt97x12) ?hoPbt97x12 ?h1Pbt97x12 ?h2Pbt97x12 ?h3Pbt97x12 ?hqPbt97x12 (Or.inl ⟨?h4Pbt97x12, ?hyPbt97x12⟩) (by assumption) ?restPbt97x12
 case hoPbt97x12 => (simp only [qa, qb, qc]; rfl)
 case h1Pbt97x12 => kernel_rfl
 case h2Pbt97x12 => kernel_rfl
 case h3Pbt97x12 => kernel_rfl
 case h4Pbt97x12 => rfl
 case hqPbt97x12 => exact fun _ _ _ h => h
 case hyPbt97x12 => (intro w hSw; (try dsimp only at hSw); go_simp <;> with_reducible rfl)
 (try simp only [Act.put, qd, qe, qf])
 refine wpAnyH_ready (rs := [8]) (by kernel_rfl) (by simp) ?_
 refine AllReadyH.cons (o := ?oiPbq98) ?hoPbq98 (fun K hK => ?restPbq98) ?morePbq98
 case morePbq98 => exact AllReadyH.nil
 case hoPbq98 => (simp only [qa, qb, qc]; rfl)
 go_simp
 refine hlay.mono ?_
 rintro e w6 ⟨A6, c6, rfl, hz6, hB6'⟩
 have hB6 := hbd4.trans (hB6'.mono hbd4.size)
 have hpr := HPr.out w6 hB6 A6 c6 hz6
 try go_wp2_with fail
 refine hK.out _ _ ?hSnewPbhq98 (fun hHeld => ?restPbhq98)
 case hSnewPbhq98 => ((try dsimp only); exact HC.out _ hB6)
 clear hK K
 (try simp only [Act.put, qd, qe, qf])
 refine wpAnyH_ready (rs := [13]) (by kernel_rfl) (by simp) ?_
 refine AllReadyH.cons (o := ?oiPbq99) ?hoPbq99 (fun K hK => ?restPbq99) ?morePbq99
 case morePbq99 => exact AllReadyH.nil
 case hoPbq99 => (simp only [qa, qb, qc]; rfl)
 go_simp
 refine hpr.mono ?_
 rintro e w7 ⟨rfl, h7⟩
 try go_wp2_with fail
 refine hK.out _ _ ?hSnewPbhq99 (fun hHeld => ?restPbhq99)
 case hSnewPbhq99 => ((try dsimp only); exact HC7.out w7 h7)
 clear hK K
 (try simp only [Act.put, qd, qe, qf])
 refine wpAnyH_take (i := 14) (oi := ?oiPbt101x14) (v := ?vPbt101x14) ?hoPbt101x14 ?h1Pbt101x14 ?h2Pbt101x14 ?h3Pbt101x14 ?hqPbt101x14 (Or.inl ⟨?h4Pbt101x14, ?hyPbt101x14⟩) (by assumption) ?restPbt101x14
 case hoPbt101x14 => (simp only [qa, qb, qc]; rfl)
 case h1Pbt101x14 => kernel_rfl
 case h2Pbt101x14 => kernel_rfl
 case h3Pbt101x14 => kernel_rfl
 case h4Pbt101x14 => rfl
 case hqPbt101x14 => exact fun _ _ _ h => h
 case hyPbt101x14 => (intro w hSw; (try dsimp only at hSw); go_simp <;> with_reducible rfl)
 (try simp only [Act.put, qd, qe, qf])
 refine wpAnyH_done (by kernel_rfl) ?_ _
 have HBack := hid (fun (w' : World) (st' : FT) (hh : FR c o F (fun g => Q g ∨ g = gs ∨ g = gt) w5 w0 w' st') => (hh.back (fun g hg => ⟨.inl hg, (Hf5.out.block g (H.out.mineQ g hg).2.1 (fun hm => (H.out.mineQ g hg).1 (.inl hm))).trans (H.out.mineQ g hg).2.2⟩) (fun g hg => by
  have h1 := H.out.size
  have h2 := Hgn.out
  rcases hg with hg | hg | hg
  ·exact .inl hg
  ·exact .inr (by rw [hg]; omega)
  ·exact .inr (by rw [hg]; omega)) : FR c o F Q V w0 w' st'))
 have H7 := hid h7
 have Hpi := hid hw.pi
 have hb64 : b < 64 := by have := H.out.ft.geo.bd; omega
 clear hlay hpr hz6 hB6 hB6' h7 hHeld HPr HC
 by_cases h8 : z = 8 ∨ z = 6
 ·have HR0 := hid (show R = (({ st with N := N', seq := q1 } : FT).how c b 3, 8) by rw [HR.out, if_pos h8])
  have hs : Calls Try.prog 40 #[.pointer (some ⟨o.bp, 0, none⟩), .int .i64 (b : Int), .int .u8 3] w7 fun e w' => (∃ r, e = .returned (.int .i64 r)) ∧ FR c o F (fun g => Q g ∨ g = gs ∨ g = gt) w5 w0 w' (({ st with N := N', seq := q1 } : FT).how c b 3) := how_run H7.out b 3 hb64 (by omega)
  have k7 : w7.cell? ⟨o.bf, 7, none⟩ = some (.pointer (some ⟨o.bp, 0, none⟩)) := H7.out.ft.f.cell 7
  rcases h8 with rfl | rfl
  all_goals
   clear HR Hprg
   go_wp2_with fail
   refine hs.mono ?_
   rintro e w8 ⟨⟨r, rfl⟩, h8⟩
   have H8 := hid (HBack.out _ _ h8)
   clear hs h8 k7
   go_wp2
   go_ret
   rw [HR0.out]
   exact ⟨rfl, H8.out⟩
 ·have z8 : (z == 8) = false := by rw [beq_eq_false_iff_ne]; omega
  have z6 : (z == 6) = false := by rw [beq_eq_false_iff_ne]; omega
  by_cases h0 : z = 0
  ·have HR0 := hid (show R = ({ st with N := N', seq := q1, at' := st.at'.set a ((b : Int), ((st.N.blk b).pages.length : Int)), has := st.has.set a true, cnt := scnt st.at' st.has st.cnt a b }, 0) by rw [HR.out, if_neg h8, if_pos h0])
   subst h0
   have hps := pmset_run H7.out.drew Hpi.out a b (st.N.blk b).pages.length ha hb (Hprg.out rfl)
   have HC9 := hid (fun (w8 : World) (st8 : FT) (hW : FR c o F (fun g => Q g ∨ g = gs ∨ g = gt) w5 w0 w8 st8) => (by
    have f5 := hW.ft.f
    have t5 := hW.blk (.inr (.inr rfl)) Hbt.out
    have s5 := hW.blk (.inr (.inl rfl)) Hb5.out
    exact ⟨f5.cell 6, s5.cell 3, t5.cell 0, t5.cell 1⟩ : w8.cell? ⟨o.bf, 6, none⟩ = some (.pointer (some ⟨o.bm, 0, none⟩)) ∧ w8.cell? ⟨gs, 3, none⟩ = some (.int .i64 (a : Int)) ∧ w8.cell? ⟨gt, 0, none⟩ = some (.int .i64 (b : Int)) ∧ w8.cell? ⟨gt, 1, none⟩ = some (.int .i64 ((st.N.blk b).pages.length : Int))))
   have HC9a := HC9.out _ _ H7.out.drew
   clear HR Hprg h8
   go_upto_region 9 with (fail)
   refine wp_region_held_drew (S := (fun w8 => w8.cell? ⟨o.bf, 6, none⟩ = some (.pointer (some ⟨o.bm, 0, none⟩)) ∧ w8.cell? ⟨gs, 3, none⟩ = some (.int .i64 (a : Int)) ∧ w8.cell? ⟨gt, 0, none⟩ = some (.int .i64 (b : Int)) ∧ w8.cell? ⟨gt, 1, none⟩ = some (.int .i64 ((st.N.blk b).pages.length : Int)))) (by kernel_rfl) ?hSnewPcz (fun hHeld => ?restPcz)
   case hSnewPcz => ((try dsimp only); exact HC9a)
   refine wpAnyH_take (i := 0) (oi := ?oiPct103x0) (v := ?vPct103x0) ?hoPct103x0 ?h1Pct103x0 ?h2Pct103x0 ?h3Pct103x0 ?hqPct103x0 (Or.inl ⟨?h4Pct103x0, ?hyPct103x0⟩) (by assumption) ?restPct103x0
   case hoPct103x0 => (simp only [qa, qb, qc]; rfl)
   case h1Pct103x0 => kernel_rfl
   case h2Pct103x0 => kernel_rfl
   case h3Pct103x0 => kernel_rfl
   case h4Pct103x0 => rfl
   case hqPct103x0 => exact fun _ _ _ h => h
   case hyPct103x0 => (intro w hSw; (try dsimp only at hSw); go_simp <;> with_reducible rfl)
   (try simp only [Act.put, qd, qe, qf])
   refine wpAnyH_take (i := 1) (oi := ?oiPct105x1) (v := ?vPct105x1) ?hoPct105x1 ?h1Pct105x1 ?h2Pct105x1 ?h3Pct105x1 ?hqPct105x1 (Or.inl ⟨?h4Pct105x1, ?hyPct105x1⟩) (by assumption) ?restPct105x1
   case hoPct105x1 => (simp only [qa, qb, qc]; rfl)
   case h1Pct105x1 => kernel_rfl
   case h2Pct105x1 => kernel_rfl
   case h3Pct105x1 => kernel_rfl
   case h4Pct105x1 => rfl
   case hqPct105x1 => exact fun _ _ _ h => h
   case hyPct105x1 => (intro w hSw; (try dsimp only at hSw); go_simp <;> with_reducible rfl)
   (try simp only [Act.put, qd, qe, qf])
   refine wpAnyH_take (i := 2) (oi := ?oiPct107x2) (v := ?vPct107x2) ?hoPct107x2 ?h1Pct107x2 ?h2Pct107x2 ?h3Pct107x2 ?hqPct107x2 (Or.inl ⟨?h4Pct107x2, ?hyPct107x2⟩) (by assumption) ?restPct107x2
   case hoPct107x2 => (simp only [qa, qb, qc]; rfl)
   case h1Pct107x2 => kernel_rfl
   case h2Pct107x2 => kernel_rfl
   case h3Pct107x2 => kernel_rfl
   case h4Pct107x2 => rfl
   case hqPct107x2 => exact fun _ _ _ h => h
   case hyPct107x2 => (intro w hSw; (try dsimp only at hSw); go_simp <;> with_reducible rfl)
   (try simp only [Act.put, qd, qe, qf])
   refine wpAnyH_take (i := 3) (oi := ?oiPct109x3) (v := ?vPct109x3) ?hoPct109x3 ?h1Pct109x3 ?h2Pct109x3 ?h3Pct109x3 ?hqPct109x3 (Or.inl ⟨?h4Pct109x3, ?hyPct109x3⟩) (by assumption) ?restPct109x3
   case hoPct109x3 => (simp only [qa, qb, qc]; rfl)
   case h1Pct109x3 => kernel_rfl
   case h2Pct109x3 => kernel_rfl
   case h3Pct109x3 => kernel_rfl
   case h4Pct109x3 => rfl
   case hqPct109x3 => exact fun _ _ _ h => h
   case hyPct109x3 => (intro w hSw; (try dsimp only at hSw); go_simp <;> with_reducible rfl)
   (try simp only [Act.put, qd, qe, qf])
   refine wpAnyH_take (i := 4) (oi := ?oiPct111x4) (v := ?vPct111x4) ?hoPct111x4 ?h1Pct111x4 ?h2Pct111x4 ?h3Pct111x4 ?hqPct111x4 (Or.inl ⟨?h4Pct111x4, ?hyPct111x4⟩) (by assumption) ?restPct111x4
   case hoPct111x4 => (simp only [qa, qb, qc]; rfl)
   case h1Pct111x4 => kernel_rfl
   case h2Pct111x4 => kernel_rfl
   case h3Pct111x4 => kernel_rfl
   case h4Pct111x4 => rfl
   case hqPct111x4 => exact fun _ _ _ h => h
   case hyPct111x4 => (intro w hSw; (try dsimp only at hSw); go_simp <;> with_reducible rfl)
   (try simp only [Act.put, qd, qe, qf])
   refine wpAnyH_take (i := 5) (oi := ?oiPct113x5) (v := ?vPct113x5) ?hoPct113x5 ?h1Pct113x5 ?h2Pct113x5 ?h3Pct113x5 ?hqPct113x5 (Or.inl ⟨?h4Pct113x5, ?hyPct113x5⟩) (by assumption) ?restPct113x5
   case hoPct113x5 => (simp only [qa, qb, qc]; rfl)
   case h1Pct113x5 => kernel_rfl
   case h2Pct113x5 => kernel_rfl
   case h3Pct113x5 => kernel_rfl
   case h4Pct113x5 => rfl
   case hqPct113x5 => exact fun _ _ _ h => h
   case hyPct113x5 => (intro w hSw; (try dsimp only at hSw); go_simp <;> with_reducible rfl)
   (try simp only [Act.put, qd, qe, qf])
   refine wpAnyH_take (i := 6) (oi := ?oiPct115x6) (v := ?vPct115x6) ?hoPct115x6 ?h1Pct115x6 ?h2Pct115x6 ?h3Pct115x6 ?hqPct115x6 (Or.inl ⟨?h4Pct115x6, ?hyPct115x6⟩) (by assumption) ?restPct115x6
   case hoPct115x6 => (simp only [qa, qb, qc]; rfl)
   case h1Pct115x6 => kernel_rfl
   case h2Pct115x6 => kernel_rfl
   case h3Pct115x6 => kernel_rfl
   case h4Pct115x6 => rfl
   case hqPct115x6 => exact fun _ _ _ h => h
   case hyPct115x6 => (intro w hSw; (try dsimp only at hSw); go_simp <;> with_reducible rfl)
   (try simp only [Act.put, qd, qe, qf])
   refine wpAnyH_ready (rs := [7]) (by kernel_rfl) (by simp) ?_
   refine AllReadyH.cons (o := ?oiPcq116) ?hoPcq116 (fun K hK => ?restPcq116) ?morePcq116
   case morePcq116 => exact AllReadyH.nil
   case hoPcq116 => (simp only [qa, qb, qc]; rfl)
   go_simp
   refine hps.mono ?_
   rintro e w8 ⟨rfl, h8⟩
   try go_wp2_with fail
   refine hK.out _ _ ?hSnewPchq116 (fun hHeld => ?restPchq116)
   case hSnewPchq116 => ((try dsimp only); exact HC9.out _ _ h8)
   clear hK K
   (try simp only [Act.put, qd, qe, qf])
   refine wpAnyH_done (by kernel_rfl) ?_ _
   have H8 := hid (HBack.out _ _ h8)
   clear hps h8 HC9 hHeld HC9a
   go_wp2
   go_ret
   rw [HR0.out]
   exact ⟨rfl, H8.out⟩
  ·have HR0 := hid (show R = ({ st with N := N', seq := q1 }, z) by rw [HR.out, if_neg h8, if_neg h0])
   have z0 : (z == 0) = false := by rw [beq_eq_false_iff_ne]; exact h0
   have H8 := hid (HBack.out _ _ H7.out)
   clear HR Hprg h8 h0
   go_wp2
   go_ret
   rw [HR0.out]
   exact ⟨rfl, H8.out⟩
end
end Go.Proofs.Ytpcbpljdiacbmaa.Ftl
