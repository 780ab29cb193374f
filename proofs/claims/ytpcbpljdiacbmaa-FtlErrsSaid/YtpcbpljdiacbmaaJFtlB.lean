import Derived.Test.YtpcbpljdiacbmaaJFtlA
import Derived.Test.YtpcbpljdiacbmaaJFtlP
set_option linter.unusedVariables false
set_option linter.unusedSimpArgs false
namespace Go.Proofs.Ytpcbpljdiacbmaa.Ftl
open Go.RowKit Go.Proofs.Ytpcbpljdiacbmaa.Kit Go.Proofs.Ytpcbpljdiacbmaa.Oct Go.Proofs.Ytpcbpljdiacbmaa.Sheet Go.Proofs.Ytpcbpljdiacbmaa.Nand Go.Proofs.Ytpcbpljdiacbmaa.Plan Go.Proofs.Ytpcbpljdiacbmaa.Scan Go.Proofs.Ytpcbpljdiacbmaa.Pmap Go.Proofs.Ytpcbpljdiacbmaa.Pool
section
variable {c : FC} {o : FId} {w w' : World} {st : FT} {F Q : Nat → Prop} {V w0 w1 w2 : World}

set_option maxRecDepth 100000 in
set_option maxHeartbeats 4000000 in
theorem free_any (h : FR c o F Q V w0 w st) (hw : FWf c st) :
  Calls Try.prog 77 #[.pointer (some ⟨o.bf, 0, none⟩)] w fun e w' => e = .returned (.tuple #[.int .i64 ((freeF c st).getD 0), .bool (freeF c st).isSome]) ∧ Below w.heap.size w w' := by
 have hbd : Below w.heap.size w w.drew := below_drewN (Below.refl _ _) 1
 have hnb := h.ft.geo.bd.2.1
 have hel : (st.ers c).length = c.nb := by unfold FT.ers; simp
 have heg : ∀ i, i < c.nb → (st.ers c).getD i 0 = (st.N.blk i).erases := fun i hi => by
  unfold FT.ers
  rw [List.getD_eq_getElem?_getD, List.getElem?_eq_getElem (by simpa using hi)]
  simp
 have Hwf := hid (show ∀ x ∈ st.ers c, (Lit.int .i64 x).wf = true from fun x hx => by
  unfold FT.ers at hx
  obtain ⟨i, -, rfl⟩ := List.mem_map.1 hx
  exact hw.er i)
 have hwt := weights_e o.ba (st.ers c) h.drew hnb hel (fun W hW i hi => by
  obtain ⟨F', hA⟩ := (h.drew.later hW).arr
  have := erases_any F' o.ba st.N (i : Int) W hA
  rw [show st.N.inI (i : Int) = true by unfold NA.inI; rw [hw.lb]; simp; omega, if_pos rfl, Int.toNat_natCast, ← heg i hi] at this
  exact this)
 have HC := hid (fun (W : World) (hW : Below w.heap.size w W) => (⟨(h.ft.f.later hW).cell 0, (h.ft.f.later hW).cell 7⟩ : W.cell? ⟨o.bf, 0, none⟩ = some (.pointer (some ⟨o.ba, 0, none⟩)) ∧ W.cell? ⟨o.bf, 7, none⟩ = some (.pointer (some ⟨o.bp, 0, none⟩))))
 have Hps := hid h.ft.ps
 unfold freeF
 clear h hw heg
 go_enter Try.func77, Try.ntmps77
 go_upto_region 1 with (fail)
 refine wp_region_held_drew (S := (fun w' => w'.cell? ⟨o.bf, 0, none⟩ = some (.pointer (some ⟨o.ba, 0, none⟩)) ∧ w'.cell? ⟨o.bf, 7, none⟩ = some (.pointer (some ⟨o.bp, 0, none⟩)))) (by kernel_rfl) ?hSnewFaz (fun hHeld => ?restFaz)
 case hSnewFaz => ((try dsimp only); exact HC.out _ hbd)
 refine wpAnyH_take (i := 0) (oi := ?oiFat2x0) (v := ?vFat2x0) ?hoFat2x0 ?h1Fat2x0 ?h2Fat2x0 ?h3Fat2x0 ?hqFat2x0 (Or.inl ⟨?h4Fat2x0, ?hyFat2x0⟩) (by assumption) ?restFat2x0
 case hoFat2x0 => (simp only [qa, qb, qc]; rfl)
 case h1Fat2x0 => kernel_rfl
 case h2Fat2x0 => kernel_rfl
 case h3Fat2x0 => kernel_rfl
 case h4Fat2x0 => rfl
 case hqFat2x0 => exact fun _ _ _ h => h
 case hyFat2x0 => (intro w hSw; (try dsimp only at hSw); go_simp <;> with_reducible rfl)
 (try simp only [Act.put, qd, qe, qf])
 refine wpAnyH_take (i := 1) (oi := ?oiFat4x1) (v := ?vFat4x1) ?hoFat4x1 ?h1Fat4x1 ?h2Fat4x1 ?h3Fat4x1 ?hqFat4x1 (Or.inl ⟨?h4Fat4x1, ?hyFat4x1⟩) (by assumption) ?restFat4x1
 case hoFat4x1 => (simp only [qa, qb, qc]; rfl)
 case h1Fat4x1 => kernel_rfl
 case h2Fat4x1 => kernel_rfl
 case h3Fat4x1 => kernel_rfl
 case h4Fat4x1 => rfl
 case hqFat4x1 => exact fun _ _ _ h => h
 case hyFat4x1 => (intro w hSw; (try dsimp only at hSw); go_simp <;> with_reducible rfl)
 (try simp only [Act.put, qd, qe, qf])
 refine wpAnyH_take (i := 2) (oi := ?oiFat6x2) (v := ?vFat6x2) ?hoFat6x2 ?h1Fat6x2 ?h2Fat6x2 ?h3Fat6x2 ?hqFat6x2 (Or.inl ⟨?h4Fat6x2, ?hyFat6x2⟩) (by assumption) ?restFat6x2
 case hoFat6x2 => (simp only [qa, qb, qc]; rfl)
 case h1Fat6x2 => kernel_rfl
 case h2Fat6x2 => kernel_rfl
 case h3Fat6x2 => kernel_rfl
 case h4Fat6x2 => rfl
 case hqFat6x2 => exact fun _ _ _ h => h
 case hyFat6x2 => (intro w hSw; (try dsimp only at hSw); go_simp <;> with_reducible rfl)
 (try simp only [Act.put, qd, qe, qf])
 refine wpAnyH_take (i := 3) (oi := ?oiFat8x3) (v := ?vFat8x3) ?hoFat8x3 ?h1Fat8x3 ?h2Fat8x3 ?h3Fat8x3 ?hqFat8x3 (Or.inl ⟨?h4Fat8x3, ?hyFat8x3⟩) (by assumption) ?restFat8x3
 case hoFat8x3 => (simp only [qa, qb, qc]; rfl)
 case h1Fat8x3 => kernel_rfl
 case h2Fat8x3 => kernel_rfl
 case h3Fat8x3 => kernel_rfl
 case h4Fat8x3 => rfl
 case hqFat8x3 => exact fun _ _ _ h => h
 case hyFat8x3 => (intro w hSw; (try dsimp only at hSw); go_simp <;> with_reducible rfl)
 (try simp only [Act.put, qd, qe, qf])
 refine wpAnyH_take (i := 4) (oi := ?oiFat10x4) (v := ?vFat10x4) ?hoFat10x4 ?h1Fat10x4 ?h2Fat10x4 ?h3Fat10x4 ?hqFat10x4 (Or.inl ⟨?h4Fat10x4, ?hyFat10x4⟩) (by assumption) ?restFat10x4
 case hoFat10x4 => (simp only [qa, qb, qc]; rfl)
 case h1Fat10x4 => kernel_rfl
 case h2Fat10x4 => kernel_rfl
 case h3Fat10x4 => kernel_rfl
 case h4Fat10x4 => rfl
 case hqFat10x4 => exact fun _ _ _ h => h
 case hyFat10x4 => (intro w hSw; (try dsimp only at hSw); go_simp <;> with_reducible rfl)
 (try simp only [Act.put, qd, qe, qf])
 refine wpAnyH_take (i := 5) (oi := ?oiFat12x5) (v := ?vFat12x5) ?hoFat12x5 ?h1Fat12x5 ?h2Fat12x5 ?h3Fat12x5 ?hqFat12x5 (Or.inl ⟨?h4Fat12x5, ?hyFat12x5⟩) (by assumption) ?restFat12x5
 case hoFat12x5 => (simp only [qa, qb, qc]; rfl)
 case h1Fat12x5 => kernel_rfl
 case h2Fat12x5 => kernel_rfl
 case h3Fat12x5 => kernel_rfl
 case h4Fat12x5 => rfl
 case hqFat12x5 => exact fun _ _ _ h => h
 case hyFat12x5 => (intro w hSw; (try dsimp only at hSw); go_simp <;> with_reducible rfl)
 (try simp only [Act.put, qd, qe, qf])
 refine wpAnyH_take (i := 6) (oi := ?oiFat14x6) (v := ?vFat14x6) ?hoFat14x6 ?h1Fat14x6 ?h2Fat14x6 ?h3Fat14x6 ?hqFat14x6 (Or.inl ⟨?h4Fat14x6, ?hyFat14x6⟩) (by assumption) ?restFat14x6
 case hoFat14x6 => (simp only [qa, qb, qc]; rfl)
 case h1Fat14x6 => kernel_rfl
 case h2Fat14x6 => kernel_rfl
 case h3Fat14x6 => kernel_rfl
 case h4Fat14x6 => rfl
 case hqFat14x6 => exact fun _ _ _ h => h
 case hyFat14x6 => (intro w hSw; (try dsimp only at hSw); go_simp <;> with_reducible rfl)
 (try simp only [Act.put, qd, qe, qf])
 refine wpAnyH_take (i := 7) (oi := ?oiFat16x7) (v := ?vFat16x7) ?hoFat16x7 ?h1Fat16x7 ?h2Fat16x7 ?h3Fat16x7 ?hqFat16x7 (Or.inl ⟨?h4Fat16x7, ?hyFat16x7⟩) (by assumption) ?restFat16x7
 case hoFat16x7 => (simp only [qa, qb, qc]; rfl)
 case h1Fat16x7 => kernel_rfl
 case h2Fat16x7 => kernel_rfl
 case h3Fat16x7 => kernel_rfl
 case h4Fat16x7 => rfl
 case hqFat16x7 => exact fun _ _ _ h => h
 case hyFat16x7 => (intro w hSw; (try dsimp only at hSw); go_simp <;> with_reducible rfl)
 (try simp only [Act.put, qd, qe, qf])
 refine wpAnyH_take (i := 8) (oi := ?oiFat18x8) (v := ?vFat18x8) ?hoFat18x8 ?h1Fat18x8 ?h2Fat18x8 ?h3Fat18x8 ?hqFat18x8 (Or.inl ⟨?h4Fat18x8, ?hyFat18x8⟩) (by assumption) ?restFat18x8
 case hoFat18x8 => (simp only [qa, qb, qc]; rfl)
 case h1Fat18x8 => kernel_rfl
 case h2Fat18x8 => kernel_rfl
 case h3Fat18x8 => kernel_rfl
 case h4Fat18x8 => rfl
 case hqFat18x8 => exact fun _ _ _ h => h
 case hyFat18x8 => (intro w hSw; (try dsimp only at hSw); go_simp <;> with_reducible rfl)
 (try simp only [Act.put, qd, qe, qf])
 refine wpAnyH_take (i := 9) (oi := ?oiFat20x9) (v := ?vFat20x9) ?hoFat20x9 ?h1Fat20x9 ?h2Fat20x9 ?h3Fat20x9 ?hqFat20x9 (Or.inl ⟨?h4Fat20x9, ?hyFat20x9⟩) (by assumption) ?restFat20x9
 case hoFat20x9 => (simp only [qa, qb, qc]; rfl)
 case h1Fat20x9 => kernel_rfl
 case h2Fat20x9 => kernel_rfl
 case h3Fat20x9 => kernel_rfl
 case h4Fat20x9 => rfl
 case hqFat20x9 => exact fun _ _ _ h => h
 case hyFat20x9 => (intro w hSw; (try dsimp only at hSw); go_simp <;> with_reducible rfl)
 (try simp only [Act.put, qd, qe, qf])
 refine wpAnyH_ready (rs := [10]) (by kernel_rfl) (by simp) ?_
 refine AllReadyH.cons (o := ?oiFaq21) ?hoFaq21 (fun K hK => ?restFaq21) ?moreFaq21
 case moreFaq21 => exact AllReadyH.nil
 case hoFaq21 => (simp only [qa, qb, qc]; rfl)
 go_simp
 refine hwt.mono ?_
 rintro e w1 ⟨v1, rfl, ho1, hB1'⟩
 have hB1 := hbd.trans (hB1'.mono hbd.size)
 obtain ⟨A1, c1, rfl, -, hz1⟩ := own_nums ho1 Hwf.out
 have hle := least_any o.bp o.gp 64 o.Ax o.nx o.cx c.xs st.hs 0 A1 c.nb c1 (st.ers c) w1 (Hps.out.later hB1) (by omega) hz1
 try go_wp2_with fail
 refine hK.out _ _ ?hSnewFahq21 (fun hHeld => ?restFahq21)
 case hSnewFahq21 => ((try dsimp only); exact HC.out _ hB1)
 clear hK K
 (try simp only [Act.put, qd, qe, qf])
 refine wpAnyH_ready (rs := [11]) (by kernel_rfl) (by simp) ?_
 refine AllReadyH.cons (o := ?oiFaq22) ?hoFaq22 (fun K hK => ?restFaq22) ?moreFaq22
 case moreFaq22 => exact AllReadyH.nil
 case hoFaq22 => (simp only [qa, qb, qc]; rfl)
 go_simp
 refine hle.mono ?_
 rintro e w2 ⟨rfl, hB2⟩
 try go_wp2_with fail
 refine hK.out _ _ ?hSnewFahq22 (fun hHeld => ?restFahq22)
 case hSnewFahq22 => ((try dsimp only); exact HC.out _ (hB1.trans (hB2.mono hB1.size)))
 clear hK K
 (try simp only [Act.put, qd, qe, qf])
 refine wpAnyH_take (i := 12) (oi := ?oiFat24x12) (v := ?vFat24x12) ?hoFat24x12 ?h1Fat24x12 ?h2Fat24x12 ?h3Fat24x12 ?hqFat24x12 (Or.inl ⟨?h4Fat24x12, ?hyFat24x12⟩) (by assumption) ?restFat24x12
 case hoFat24x12 => (simp only [qa, qb, qc]; rfl)
 case h1Fat24x12 => kernel_rfl
 case h2Fat24x12 => kernel_rfl
 case h3Fat24x12 => kernel_rfl
 case h4Fat24x12 => rfl
 case hqFat24x12 => exact fun _ _ _ h => h
 case hyFat24x12 => (intro w hSw; (try dsimp only at hSw); go_simp <;> with_reducible rfl)
 (try simp only [Act.put, qd, qe, qf])
 refine wpAnyH_take (i := 13) (oi := ?oiFat26x13) (v := ?vFat26x13) ?hoFat26x13 ?h1Fat26x13 ?h2Fat26x13 ?h3Fat26x13 ?hqFat26x13 (Or.inl ⟨?h4Fat26x13, ?hyFat26x13⟩) (by assumption) ?restFat26x13
 case hoFat26x13 => (simp only [qa, qb, qc]; rfl)
 case h1Fat26x13 => kernel_rfl
 case h2Fat26x13 => kernel_rfl
 case h3Fat26x13 => kernel_rfl
 case h4Fat26x13 => rfl
 case hqFat26x13 => exact fun _ _ _ h => h
 case hyFat26x13 => (intro w hSw; (try dsimp only at hSw); go_simp <;> with_reducible rfl)
 (try simp only [Act.put, qd, qe, qf])
 refine wpAnyH_take (i := 14) (oi := ?oiFat28x14) (v := ?vFat28x14) ?hoFat28x14 ?h1Fat28x14 ?h2Fat28x14 ?h3Fat28x14 ?hqFat28x14 (Or.inl ⟨?h4Fat28x14, ?hyFat28x14⟩) (by assumption) ?restFat28x14
 case hoFat28x14 => (simp only [qa, qb, qc]; rfl)
 case h1Fat28x14 => kernel_rfl
 case h2Fat28x14 => kernel_rfl
 case h3Fat28x14 => kernel_rfl
 case h4Fat28x14 => rfl
 case hqFat28x14 => exact fun _ _ _ h => h
 case hyFat28x14 => (intro w hSw; (try dsimp only at hSw); go_simp <;> with_reducible rfl)
 (try simp only [Act.put, qd, qe, qf])
 refine wpAnyH_take (i := 15) (oi := ?oiFat30x15) (v := ?vFat30x15) ?hoFat30x15 ?h1Fat30x15 ?h2Fat30x15 ?h3Fat30x15 ?hqFat30x15 (Or.inl ⟨?h4Fat30x15, ?hyFat30x15⟩) (by assumption) ?restFat30x15
 case hoFat30x15 => (simp only [qa, qb, qc]; rfl)
 case h1Fat30x15 => kernel_rfl
 case h2Fat30x15 => kernel_rfl
 case h3Fat30x15 => kernel_rfl
 case h4Fat30x15 => rfl
 case hqFat30x15 => exact fun _ _ _ h => h
 case hyFat30x15 => (intro w hSw; (try dsimp only at hSw); go_simp <;> with_reducible rfl)
 (try simp only [Act.put, qd, qe, qf])
 refine wpAnyH_done (by kernel_rfl) ?_ _
 have HB := hid (hB1.trans (hB2.mono hB1.size))
 clear hwt hle ho1 hz1 hB1' hB1 hB2 HC
 go_wp2
 go_ret2
 exact ⟨rfl, HB.out⟩

set_option maxRecDepth 100000 in
set_option maxHeartbeats 4000000 in
theorem erase_run (h : FR c o F Q V w0 w st) (b : Nat) (hb : b < 64) :
  Calls Try.prog 43 #[.pointer (some ⟨o.bf, 0, none⟩), .int .i64 (b : Int)] w fun e w' => e = .returned (.int .i64 (eraseF c st b).2) ∧ FR c o F Q V w0 w' (eraseF c st b).1 := by
 have her0 := h.drew.calls (fun F' hA => erase_any F' o.ba st.N (b : Int) (c.ep : Int) w.drew hA)
 have Hf := hid h.ft.f
 clear h
 obtain ⟨N', hN'⟩ : ∃ x, (st.N.erase (b : Int) c.ep).1 = x := ⟨_, rfl⟩
 obtain ⟨z, hz⟩ : ∃ x, (st.N.erase (b : Int) c.ep).2 = x := ⟨_, rfl⟩
 have her : Calls Try.prog 64 #[.pointer (some ⟨o.ba, 0, none⟩), .int .i64 (b : Int), .int .u64 (c.ep : Int)] w.drew fun e w' => e = .returned (.int .i64 z) ∧ FR c o F Q V w0 w' { st with N := N' } := by
  rw [← hN', ← hz]
  exact her0
 have hR : eraseF c st b = if z = 0 then (({ st with N := N' } : FT).how c b 0, 0) else if z = 8 then (({ st with N := N' } : FT).how c b 3, 0) else ({ st with N := N' }, z) := by
  unfold eraseF
  rw [hN', hz]
 have HR := hid hR
 generalize eraseF c st b = R at *
 clear hN' hz her0 hR
 go_enter Try.func43, Try.ntmps43
 go_upto_region 1 with (fail)
 refine wp_region_held_drew (S := (fun w' => w'.cell? ⟨o.bf, 0, none⟩ = some (.pointer (some ⟨o.ba, 0, none⟩)) ∧ w'.cell? ⟨o.bf, 5, none⟩ = some (.int .u64 (c.ep : Int)))) (by kernel_rfl) ?hSnewFez (fun hHeld => ?restFez)
 case hSnewFez => ((try dsimp only); exact ⟨Hf.out.cell 0, Hf.out.cell 5⟩)
 refine wpAnyH_take (i := 0) (oi := ?oiFet32x0) (v := ?vFet32x0) ?hoFet32x0 ?h1Fet32x0 ?h2Fet32x0 ?h3Fet32x0 ?hqFet32x0 (Or.inl ⟨?h4Fet32x0, ?hyFet32x0⟩) (by assumption) ?restFet32x0
 case hoFet32x0 => (simp only [qa, qb, qc]; rfl)
 case h1Fet32x0 => kernel_rfl
 case h2Fet32x0 => kernel_rfl
 case h3Fet32x0 => kernel_rfl
 case h4Fet32x0 => rfl
 case hqFet32x0 => exact fun _ _ _ h => h
 case hyFet32x0 => (intro w hSw; (try dsimp only at hSw); go_simp <;> with_reducible rfl)
 (try simp only [Act.put, qd, qe, qf])
 refine wpAnyH_take (i := 1) (oi := ?oiFet34x1) (v := ?vFet34x1) ?hoFet34x1 ?h1Fet34x1 ?h2Fet34x1 ?h3Fet34x1 ?hqFet34x1 (Or.inl ⟨?h4Fet34x1, ?hyFet34x1⟩) (by assumption) ?restFet34x1
 case hoFet34x1 => (simp only [qa, qb, qc]; rfl)
 case h1Fet34x1 => kernel_rfl
 case h2Fet34x1 => kernel_rfl
 case h3Fet34x1 => kernel_rfl
 case h4Fet34x1 => rfl
 case hqFet34x1 => exact fun _ _ _ h => h
 case hyFet34x1 => (intro w hSw; (try dsimp only at hSw); go_simp <;> with_reducible rfl)
 (try simp only [Act.put, qd, qe, qf])
 refine wpAnyH_take (i := 2) (oi := ?oiFet36x2) (v := ?vFet36x2) ?hoFet36x2 ?h1Fet36x2 ?h2Fet36x2 ?h3Fet36x2 ?hqFet36x2 (Or.inl ⟨?h4Fet36x2, ?hyFet36x2⟩) (by assumption) ?restFet36x2
 case hoFet36x2 => (simp only [qa, qb, qc]; rfl)
 case h1Fet36x2 => kernel_rfl
 case h2Fet36x2 => kernel_rfl
 case h3Fet36x2 => kernel_rfl
 case h4Fet36x2 => rfl
 case hqFet36x2 => exact fun _ _ _ h => h
 case hyFet36x2 => (intro w hSw; (try dsimp only at hSw); go_simp <;> with_reducible rfl)
 (try simp only [Act.put, qd, qe, qf])
 refine wpAnyH_take (i := 3) (oi := ?oiFet38x3) (v := ?vFet38x3) ?hoFet38x3 ?h1Fet38x3 ?h2Fet38x3 ?h3Fet38x3 ?hqFet38x3 (Or.inl ⟨?h4Fet38x3, ?hyFet38x3⟩) (by assumption) ?restFet38x3
 case hoFet38x3 => (simp only [qa, qb, qc]; rfl)
 case h1Fet38x3 => kernel_rfl
 case h2Fet38x3 => kernel_rfl
 case h3Fet38x3 => kernel_rfl
 case h4Fet38x3 => rfl
 case hqFet38x3 => exact fun _ _ _ h => h
 case hyFet38x3 => (intro w hSw; (try dsimp only at hSw); go_simp <;> with_reducible rfl)
 (try simp only [Act.put, qd, qe, qf])
 refine wpAnyH_take (i := 4) (oi := ?oiFet40x4) (v := ?vFet40x4) ?hoFet40x4 ?h1Fet40x4 ?h2Fet40x4 ?h3Fet40x4 ?hqFet40x4 (Or.inl ⟨?h4Fet40x4, ?hyFet40x4⟩) (by assumption) ?restFet40x4
 case hoFet40x4 => (simp only [qa, qb, qc]; rfl)
 case h1Fet40x4 => kernel_rfl
 case h2Fet40x4 => kernel_rfl
 case h3Fet40x4 => kernel_rfl
 case h4Fet40x4 => rfl
 case hqFet40x4 => exact fun _ _ _ h => h
 case hyFet40x4 => (intro w hSw; (try dsimp only at hSw); go_simp <;> with_reducible rfl)
 (try simp only [Act.put, qd, qe, qf])
 refine wpAnyH_take (i := 5) (oi := ?oiFet42x5) (v := ?vFet42x5) ?hoFet42x5 ?h1Fet42x5 ?h2Fet42x5 ?h3Fet42x5 ?hqFet42x5 (Or.inl ⟨?h4Fet42x5, ?hyFet42x5⟩) (by assumption) ?restFet42x5
 case hoFet42x5 => (simp only [qa, qb, qc]; rfl)
 case h1Fet42x5 => kernel_rfl
 case h2Fet42x5 => kernel_rfl
 case h3Fet42x5 => kernel_rfl
 case h4Fet42x5 => rfl
 case hqFet42x5 => exact fun _ _ _ h => h
 case hyFet42x5 => (intro w hSw; (try dsimp only at hSw); go_simp <;> with_reducible rfl)
 (try simp only [Act.put, qd, qe, qf])
 refine wpAnyH_take (i := 6) (oi := ?oiFet44x6) (v := ?vFet44x6) ?hoFet44x6 ?h1Fet44x6 ?h2Fet44x6 ?h3Fet44x6 ?hqFet44x6 (Or.inl ⟨?h4Fet44x6, ?hyFet44x6⟩) (by assumption) ?restFet44x6
 case hoFet44x6 => (simp only [qa, qb, qc]; rfl)
 case h1Fet44x6 => kernel_rfl
 case h2Fet44x6 => kernel_rfl
 case h3Fet44x6 => kernel_rfl
 case h4Fet44x6 => rfl
 case hqFet44x6 => exact fun _ _ _ h => h
 case hyFet44x6 => (intro w hSw; (try dsimp only at hSw); go_simp <;> with_reducible rfl)
 (try simp only [Act.put, qd, qe, qf])
 refine wpAnyH_take (i := 7) (oi := ?oiFet46x7) (v := ?vFet46x7) ?hoFet46x7 ?h1Fet46x7 ?h2Fet46x7 ?h3Fet46x7 ?hqFet46x7 (Or.inl ⟨?h4Fet46x7, ?hyFet46x7⟩) (by assumption) ?restFet46x7
 case hoFet46x7 => (simp only [qa, qb, qc]; rfl)
 case h1Fet46x7 => kernel_rfl
 case h2Fet46x7 => kernel_rfl
 case h3Fet46x7 => kernel_rfl
 case h4Fet46x7 => rfl
 case hqFet46x7 => exact fun _ _ _ h => h
 case hyFet46x7 => (intro w hSw; (try dsimp only at hSw); go_simp <;> with_reducible rfl)
 (try simp only [Act.put, qd, qe, qf])
 refine wpAnyH_take (i := 8) (oi := ?oiFet48x8) (v := ?vFet48x8) ?hoFet48x8 ?h1Fet48x8 ?h2Fet48x8 ?h3Fet48x8 ?hqFet48x8 (Or.inl ⟨?h4Fet48x8, ?hyFet48x8⟩) (by assumption) ?restFet48x8
 case hoFet48x8 => (simp only [qa, qb, qc]; rfl)
 case h1Fet48x8 => kernel_rfl
 case h2Fet48x8 => kernel_rfl
 case h3Fet48x8 => kernel_rfl
 case h4Fet48x8 => rfl
 case hqFet48x8 => exact fun _ _ _ h => h
 case hyFet48x8 => (intro w hSw; (try dsimp only at hSw); go_simp <;> with_reducible rfl)
 (try simp only [Act.put, qd, qe, qf])
 refine wpAnyH_ready (rs := [9]) (by kernel_rfl) (by simp) ?_
 refine AllReadyH.cons (o := ?oiFeq49) ?hoFeq49 (fun K hK => ?restFeq49) ?moreFeq49
 case moreFeq49 => exact AllReadyH.nil
 case hoFeq49 => (simp only [qa, qb, qc]; rfl)
 go_simp
 refine her.mono ?_
 rintro e w1 ⟨rfl, h1⟩
 try go_wp2_with fail
 refine hK.out _ _ ?hSnewFehq49 (fun hHeld => ?restFehq49)
 case hSnewFehq49 => ((try dsimp only); exact ⟨h1.ft.f.cell 0, h1.ft.f.cell 5⟩)
 clear hK K
 (try simp only [Act.put, qd, qe, qf])
 refine wpAnyH_take (i := 10) (oi := ?oiFet51x10) (v := ?vFet51x10) ?hoFet51x10 ?h1Fet51x10 ?h2Fet51x10 ?h3Fet51x10 ?hqFet51x10 (Or.inl ⟨?h4Fet51x10, ?hyFet51x10⟩) (by assumption) ?restFet51x10
 case hoFet51x10 => (simp only [qa, qb, qc]; rfl)
 case h1Fet51x10 => kernel_rfl
 case h2Fet51x10 => kernel_rfl
 case h3Fet51x10 => kernel_rfl
 case h4Fet51x10 => rfl
 case hqFet51x10 => exact fun _ _ _ h => h
 case hyFet51x10 => (intro w hSw; (try dsimp only at hSw); go_simp <;> with_reducible rfl)
 (try simp only [Act.put, qd, qe, qf])
 refine wpAnyH_done (by kernel_rfl) ?_ _
 clear her Hf
 have hf7 : w1.cell? ⟨o.bf, 7, none⟩ = some (.pointer (some ⟨o.bp, 0, none⟩)) := h1.ft.f.cell 7
 by_cases h0 : z = 0
 ·subst h0
  have HR0 := hid (show R = (({ st with N := N' } : FT).how c b 0, 0) by rw [HR.out, if_pos rfl])
  clear HR
  have hs : Calls Try.prog 40 #[.pointer (some ⟨o.bp, 0, none⟩), .int .i64 (b : Int), .int .u8 0] w1 fun e w' => (∃ r, e = .returned (.int .i64 r)) ∧ FR c o F Q V w0 w' (({ st with N := N' } : FT).how c b 0) := how_run h1 b 0 hb (by omega)
  clear h1
  go_wp2_with fail
  refine hs.mono ?_
  rintro e w2 ⟨⟨r, rfl⟩, h2⟩
  have H2 := hid h2
  clear hs h2 hf7
  go_wp2
  go_ret
  rw [HR0.out]
  exact ⟨rfl, H2.out⟩
 ·by_cases h8 : z = 8
  ·subst h8
   have HR0 := hid (show R = (({ st with N := N' } : FT).how c b 3, 0) by rw [HR.out, if_neg (by decide), if_pos rfl])
   clear HR
   have hs : Calls Try.prog 40 #[.pointer (some ⟨o.bp, 0, none⟩), .int .i64 (b : Int), .int .u8 3] w1 fun e w' => (∃ r, e = .returned (.int .i64 r)) ∧ FR c o F Q V w0 w' (({ st with N := N' } : FT).how c b 3) := how_run h1 b 3 hb (by omega)
   clear h1
   go_wp2_with fail
   refine hs.mono ?_
   rintro e w2 ⟨⟨r, rfl⟩, h2⟩
   have H2 := hid h2
   clear hs h2 hf7
   go_wp2
   go_ret
   rw [HR0.out]
   exact ⟨rfl, H2.out⟩
  ·have z0 : (z == 0) = false := by rw [beq_eq_false_iff_ne]; exact h0
   have z8 : (z == 8) = false := by rw [beq_eq_false_iff_ne]; exact h8
   have H1 := hid h1
   have HR0 := hid (show R = ({ st with N := N' }, z) by rw [HR.out, if_neg h0, if_neg h8])
   clear HR
   clear h1 hf7 h0 h8
   go_wp2
   go_ret
   rw [HR0.out]
   exact ⟨rfl, H1.out⟩
end
end Go.Proofs.Ytpcbpljdiacbmaa.Ftl
