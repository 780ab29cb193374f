import Derived.Test.YtpcbpljdiacbmaaJFtlF
set_option linter.unusedVariables false
set_option linter.unusedSimpArgs false
namespace Go.Proofs.Ytpcbpljdiacbmaa.Ftl
open Go.RowKit Go.Proofs.Ytpcbpljdiacbmaa.Kit Go.Proofs.Ytpcbpljdiacbmaa.Oct Go.Proofs.Ytpcbpljdiacbmaa.Sheet Go.Proofs.Ytpcbpljdiacbmaa.Nand Go.Proofs.Ytpcbpljdiacbmaa.Plan Go.Proofs.Ytpcbpljdiacbmaa.Scan Go.Proofs.Ytpcbpljdiacbmaa.Pmap Go.Proofs.Ytpcbpljdiacbmaa.Pool
section
variable {c : FC} {o : FId} {w w' : World} {st : FT} {F Q : Nat → Prop} {V w0 w1 w2 : World}
theorem cntH_le (hs : List (Option Nat)) (v : Nat) : cntH hs v ≤ 64 := by
 unfold cntH
 exact Nat.le_trans List.countP_le_length (by simp)
theorem dead_run (h : FR c o F Q V w0 w st) (nd : Nat) (hn : cntH st.hs 3 = nd) :
  Calls Try.prog 49 #[.pointer (some ⟨o.bp, 0, none⟩), .int .u8 3] w fun e w' => e = .returned (.int .i64 (nd : Int)) ∧ Below w.heap.size w w' := by
 subst hn
 exact Pool.count_any o.bp o.gp 64 o.Ax o.nx o.cx c.xs st.hs 3 w h.ft.ps (by omega)
theorem frees_run (h : FR c o F Q V w0 w st) (nf : Nat) (hn : cntH st.hs 0 = nf) :
  Calls Try.prog 49 #[.pointer (some ⟨o.bp, 0, none⟩), .int .u8 0] w fun e w' => e = .returned (.int .i64 (nf : Int)) ∧ Below w.heap.size w w' := by
 subst hn
 exact Pool.count_any o.bp o.gp 64 o.Ax o.nx o.cx c.xs st.hs 0 w h.ft.ps (by omega)
theorem hopen_run (h : FR c o F Q V w0 w st) :
  Calls Try.prog 63 #[.pointer (some ⟨o.bp, 0, none⟩)] w fun e w' => e = .returned (.tuple #[.int .i64 ((fOpen c.xs st.hs).getD 0), .bool (fOpen c.xs st.hs).isSome]) ∧ w' = w :=
 open_any o.bp o.gp 64 o.Ax o.nx o.cx c.xs st.hs w h.ft.ps
/-- What is done behind the open block: room's second half. -/
noncomputable def halfG (c : FC) (m n : Nat) (st : FT) : Option (FT × Nat × Int) :=
 if c.S < cntH st.hs 3 then some (st, 0, 10)
 else if 1 + c.S < cntH st.hs 0 + cntH st.hs 3 then roomG c m n (st.how c ((freeF c st).getD 0).toNat 2)
 else match collectG c m st with
  | none => none
  | some r => if r.2 ≠ 0 then some (r.1, 0, r.2) else roomG c m n r.1
theorem roomG_none {m n : Nat} (h : fOpen c.xs st.hs = none) : roomG c m (n + 1) st = halfG c m n st := by
 unfold halfG
 conv => lhs; unfold roomG
 have e : st.full c = st := by unfold FT.full; rw [h]
 rw [e, h, if_neg (by simp)]
 rfl
theorem roomG_room {m n b : Nat} (h : fOpen c.xs st.hs = some (b : Int)) (hp : (st.N.blk b).pages.length < c.np) : roomG c m (n + 1) st = some (st, b, 0) := by
 conv => lhs; unfold roomG
 rw [h, if_pos ⟨rfl, by simpa using hp⟩]
 rfl
theorem roomG_full {m n b : Nat} (h : fOpen c.xs st.hs = some (b : Int)) (hp : ¬ (st.N.blk b).pages.length < c.np) : roomG c m (n + 1) st = halfG c m n (st.how c b 1) := by
 unfold halfG
 conv => lhs; unfold roomG
 have e : st.full c = st.how c b 1 := by unfold FT.full; rw [h]; rfl
 rw [e, h, if_neg (by rintro ⟨-, h2⟩; exact hp (by simpa using h2))]
 rfl
theorem halfG_coll {m n : Nat} {r : FT × Nat × Int} (h1 : ¬ c.S < cntH st.hs 3) (h2 : ¬ 1 + c.S < cntH st.hs 0 + cntH st.hs 3) (hr : halfG c m n st = some r) : ∃ R, collectG c m st = some R ∧ ((R.2 ≠ 0 ∧ r = (R.1, 0, R.2)) ∨ (R.2 = 0 ∧ roomG c m n R.1 = some r)) := by
 unfold halfG at hr
 rw [if_neg h1, if_neg h2] at hr
 cases hc : collectG c m st with
 | none => rw [hc] at hr; cases hr
 | some R =>
  rw [hc] at hr
  refine ⟨R, rfl, ?_⟩
  simp only at hr
  by_cases h0 : R.2 = 0
  ·rw [if_neg (by simp [h0])] at hr
   exact .inr ⟨h0, hr⟩
  ·rw [if_pos h0] at hr
   injection hr with hr
   exact .inl ⟨h0, hr.symm⟩
/-- The loop of room, at a world. -/
def RoomRel (c : FC) (o : FId) (F Q : Nat → Prop) (V w0 : World) (m : Nat) (r : FT × Nat × Int) (W : World) (k : Nat) : Prop :=
 ∃ st1, roomG c m k st1 = some r ∧ FWf c st1 ∧ FR c o F Q V w0 W st1

set_option maxRecDepth 100000 in
set_option maxHeartbeats 4000000 in
theorem room_run (h : FR c o F Q V w0 w st) (hw : FWf c st) (hep : c.ep < 281474976710656) (m n : Nat) (r : FT × Nat × Int) (hr : roomG c m n st = some r) :
  Calls Try.prog 65 #[.pointer (some ⟨o.bf, 0, none⟩)] w fun e w' => e = .returned (.tuple #[.int .i64 (r.2.1 : Int), .int .i64 r.2.2]) ∧ FR c o F Q V w0 w' r.1 ∧ FWf c r.1 ∧ (r.2.2 = 0 → r.2.1 < c.nb) := by
 have hgb := h.ft.geo.bd
 have H0 := hid h
 have Hw0 := hid hw
 have Hr0 := hid hr
 clear h hw hr
 go_enter Try.func65, Try.ntmps65
 go_wp2
 go_loopw [] (fun w' => ∃ k, RoomRel c o F Q V w0 m r w' k) (fun w' => lst (RoomRel c o F Q V w0 m r w'))
 case atStart => exact ⟨n, st, Hr0.out, Hw0.out, H0.out⟩
 case round =>
  clear Hr0 Hw0 H0
  obtain ⟨k1, hk1⟩ : ∃ k, lst (RoomRel c o F Q V w0 m r wr) = k := ⟨_, rfl⟩
  have hrel1 := lst_spec hrel
  rw [hk1] at hrel1
  obtain ⟨st1, hl1, hw1, h1⟩ := hrel1
  have Hk1 := hid hk1
  clear hrel hk1
  cases k1 with
  | zero => cases hl1
  | succ k =>
  have hop := hopen_run h1
  have k7 : wr.cell? ⟨o.bf, 7, none⟩ = some (.pointer (some ⟨o.bp, 0, none⟩)) := h1.ft.f.cell 7
  have HSN : wr.cell? ⟨o.bf, 0, none⟩ = some (.pointer (some ⟨o.ba, 0, none⟩)) ∧ wr.cell? ⟨o.bf, 2, none⟩ = some (.int .i64 (c.np : Int)) := ⟨h1.ft.f.cell 0, h1.ft.f.cell 2⟩
  have hmem := fun x => fOpen_mem c.xs st1.hs x
  cases hfo : fOpen c.xs st1.hs with
  | none =>
   rw [hfo] at hop
   have HRh := hid (show halfG c m k st1 = some r by rw [← roomG_none hfo]; exact hl1)
   have H1 := hid h1
   have Hw1 := hid hw1
   clear h1 hw1 hl1 hmem hfo
   go_wp2_with fail
   refine hop.mono ?_
   rintro e w4 ⟨rfl, rfl⟩
   clear hop k7
   go_upto_region 2 with (fail)
   refine wp_region_held_drew (S := (fun w' => w'.cell? ⟨o.bf, 0, none⟩ = some (.pointer (some ⟨o.ba, 0, none⟩)) ∧ w'.cell? ⟨o.bf, 2, none⟩ = some (.int .i64 (c.np : Int)))) (by kernel_rfl) ?hSnewRaz (fun hHeld => ?restRaz)
   case hSnewRaz => ((try dsimp only); exact HSN)
   refine wpAnyH_take (i := 0) (oi := ?oiRat53x0) (v := ?vRat53x0) ?hoRat53x0 ?h1Rat53x0 ?h2Rat53x0 ?h3Rat53x0 ?hqRat53x0 (Or.inl ⟨?h4Rat53x0, ?hyRat53x0⟩) (by assumption) ?restRat53x0
   case hoRat53x0 => (simp only [qa, qb, qc]; rfl)
   case h1Rat53x0 => kernel_rfl
   case h2Rat53x0 => kernel_rfl
   case h3Rat53x0 => kernel_rfl
   case h4Rat53x0 => rfl
   case hqRat53x0 => exact fun _ _ _ h => h
   case hyRat53x0 => (intro w hSw; (try dsimp only at hSw); go_simp <;> with_reducible rfl)
   (try simp only [Act.put, qd, qe, qf])
   refine wpAnyH_take (i := 1) (oi := ?oiRat55x1) (v := ?vRat55x1) ?hoRat55x1 ?h1Rat55x1 ?h2Rat55x1 ?h3Rat55x1 ?hqRat55x1 (Or.inl ⟨?h4Rat55x1, ?hyRat55x1⟩) (by assumption) ?restRat55x1
   case hoRat55x1 => (simp only [qa, qb, qc]; rfl)
   case h1Rat55x1 => kernel_rfl
   case h2Rat55x1 => kernel_rfl
   case h3Rat55x1 => kernel_rfl
   case h4Rat55x1 => rfl
   case hqRat55x1 => exact fun _ _ _ h => h
   case hyRat55x1 => (intro w hSw; (try dsimp only at hSw); go_simp <;> with_reducible rfl)
   (try simp only [Act.put, qd, qe, qf])
   refine wpAnyH_take (i := 2) (oi := ?oiRat56k2) (v := undef) ?hoRat56k2 ?h1Rat56k2 ?h2Rat56k2 ?h3Rat56k2 ?hqRat56k2 (Or.inr ⟨?h4Rat56k2, rfl⟩) (by assumption) ?restRat56k2
   case hoRat56k2 => (simp only [qa, qb, qc]; rfl)
   case h1Rat56k2 => kernel_rfl
   case h2Rat56k2 => kernel_rfl
   case h3Rat56k2 => kernel_rfl
   case h4Rat56k2 => rfl
   case hqRat56k2 => exact fun _ _ _ h => h
   (try simp only [Act.put, qd, qe, qf])
   refine wpAnyH_take (i := 3) (oi := ?oiRat57k3) (v := undef) ?hoRat57k3 ?h1Rat57k3 ?h2Rat57k3 ?h3Rat57k3 ?hqRat57k3 (Or.inr ⟨?h4Rat57k3, rfl⟩) (by assumption) ?restRat57k3
   case hoRat57k3 => (simp only [qa, qb, qc]; rfl)
   case h1Rat57k3 => kernel_rfl
   case h2Rat57k3 => kernel_rfl
   case h3Rat57k3 => kernel_rfl
   case h4Rat57k3 => rfl
   case hqRat57k3 => exact fun _ _ _ h => h
   (try simp only [Act.put, qd, qe, qf])
   refine wpAnyH_take (i := 4) (oi := ?oiRat58k4) (v := undef) ?hoRat58k4 ?h1Rat58k4 ?h2Rat58k4 ?h3Rat58k4 ?hqRat58k4 (Or.inr ⟨?h4Rat58k4, rfl⟩) (by assumption) ?restRat58k4
   case hoRat58k4 => (simp only [qa, qb, qc]; rfl)
   case h1Rat58k4 => kernel_rfl
   case h2Rat58k4 => kernel_rfl
   case h3Rat58k4 => kernel_rfl
   case h4Rat58k4 => rfl
   case hqRat58k4 => exact fun _ _ _ h => h
   (try simp only [Act.put, qd, qe, qf])
   refine wpAnyH_take (i := 5) (oi := ?oiRat59k5) (v := undef) ?hoRat59k5 ?h1Rat59k5 ?h2Rat59k5 ?h3Rat59k5 ?hqRat59k5 (Or.inr ⟨?h4Rat59k5, rfl⟩) (by assumption) ?restRat59k5
   case hoRat59k5 => (simp only [qa, qb, qc]; rfl)
   case h1Rat59k5 => kernel_rfl
   case h2Rat59k5 => kernel_rfl
   case h3Rat59k5 => kernel_rfl
   case h4Rat59k5 => rfl
   case hqRat59k5 => exact fun _ _ _ h => h
   (try simp only [Act.put, qd, qe, qf])
   refine wpAnyH_take (i := 6) (oi := ?oiRat60k6) (v := undef) ?hoRat60k6 ?h1Rat60k6 ?h2Rat60k6 ?h3Rat60k6 ?hqRat60k6 (Or.inr ⟨?h4Rat60k6, rfl⟩) (by assumption) ?restRat60k6
   case hoRat60k6 => (simp only [qa, qb, qc]; rfl)
   case h1Rat60k6 => kernel_rfl
   case h2Rat60k6 => kernel_rfl
   case h3Rat60k6 => kernel_rfl
   case h4Rat60k6 => rfl
   case hqRat60k6 => exact fun _ _ _ h => h
   (try simp only [Act.put, qd, qe, qf])
   refine wpAnyH_take (i := 7) (oi := ?oiRat61k7) (v := undef) ?hoRat61k7 ?h1Rat61k7 ?h2Rat61k7 ?h3Rat61k7 ?hqRat61k7 (Or.inr ⟨?h4Rat61k7, rfl⟩) (by assumption) ?restRat61k7
   case hoRat61k7 => (simp only [qa, qb, qc]; rfl)
   case h1Rat61k7 => kernel_rfl
   case h2Rat61k7 => kernel_rfl
   case h3Rat61k7 => kernel_rfl
   case h4Rat61k7 => rfl
   case hqRat61k7 => exact fun _ _ _ h => h
   (try simp only [Act.put, qd, qe, qf])
   refine wpAnyH_take (i := 8) (oi := ?oiRat62k8) (v := undef) ?hoRat62k8 ?h1Rat62k8 ?h2Rat62k8 ?h3Rat62k8 ?hqRat62k8 (Or.inr ⟨?h4Rat62k8, rfl⟩) (by assumption) ?restRat62k8
   case hoRat62k8 => (simp only [qa, qb, qc]; rfl)
   case h1Rat62k8 => kernel_rfl
   case h2Rat62k8 => kernel_rfl
   case h3Rat62k8 => kernel_rfl
   case h4Rat62k8 => rfl
   case hqRat62k8 => exact fun _ _ _ h => h
   (try simp only [Act.put, qd, qe, qf])
   refine wpAnyH_take (i := 9) (oi := ?oiRat63k9) (v := undef) ?hoRat63k9 ?h1Rat63k9 ?h2Rat63k9 ?h3Rat63k9 ?hqRat63k9 (Or.inr ⟨?h4Rat63k9, rfl⟩) (by assumption) ?restRat63k9
   case hoRat63k9 => (simp only [qa, qb, qc]; rfl)
   case h1Rat63k9 => kernel_rfl
   case h2Rat63k9 => kernel_rfl
   case h3Rat63k9 => kernel_rfl
   case h4Rat63k9 => rfl
   case hqRat63k9 => exact fun _ _ _ h => h
   (try simp only [Act.put, qd, qe, qf])
   refine wpAnyH_take (i := 10) (oi := ?oiRat64k10) (v := undef) ?hoRat64k10 ?h1Rat64k10 ?h2Rat64k10 ?h3Rat64k10 ?hqRat64k10 (Or.inr ⟨?h4Rat64k10, rfl⟩) (by assumption) ?restRat64k10
   case hoRat64k10 => (simp only [qa, qb, qc]; rfl)
   case h1Rat64k10 => kernel_rfl
   case h2Rat64k10 => kernel_rfl
   case h3Rat64k10 => kernel_rfl
   case h4Rat64k10 => rfl
   case hqRat64k10 => exact fun _ _ _ h => h
   (try simp only [Act.put, qd, qe, qf])
   refine wpAnyH_take (i := 11) (oi := ?oiRat65k11) (v := undef) ?hoRat65k11 ?h1Rat65k11 ?h2Rat65k11 ?h3Rat65k11 ?hqRat65k11 (Or.inr ⟨?h4Rat65k11, rfl⟩) (by assumption) ?restRat65k11
   case hoRat65k11 => (simp only [qa, qb, qc]; rfl)
   case h1Rat65k11 => kernel_rfl
   case h2Rat65k11 => kernel_rfl
   case h3Rat65k11 => kernel_rfl
   case h4Rat65k11 => rfl
   case hqRat65k11 => exact fun _ _ _ h => h
   (try simp only [Act.put, qd, qe, qf])
   refine wpAnyH_take (i := 12) (oi := ?oiRat66k12) (v := undef) ?hoRat66k12 ?h1Rat66k12 ?h2Rat66k12 ?h3Rat66k12 ?hqRat66k12 (Or.inr ⟨?h4Rat66k12, rfl⟩) (by assumption) ?restRat66k12
   case hoRat66k12 => (simp only [qa, qb, qc]; rfl)
   case h1Rat66k12 => kernel_rfl
   case h2Rat66k12 => kernel_rfl
   case h3Rat66k12 => kernel_rfl
   case h4Rat66k12 => rfl
   case hqRat66k12 => exact fun _ _ _ h => h
   (try simp only [Act.put, qd, qe, qf])
   refine wpAnyH_take (i := 13) (oi := ?oiRat67k13) (v := undef) ?hoRat67k13 ?h1Rat67k13 ?h2Rat67k13 ?h3Rat67k13 ?hqRat67k13 (Or.inr ⟨?h4Rat67k13, rfl⟩) (by assumption) ?restRat67k13
   case hoRat67k13 => (simp only [qa, qb, qc]; rfl)
   case h1Rat67k13 => kernel_rfl
   case h2Rat67k13 => kernel_rfl
   case h3Rat67k13 => kernel_rfl
   case h4Rat67k13 => rfl
   case hqRat67k13 => exact fun _ _ _ h => h
   (try simp only [Act.put, qd, qe, qf])
   refine wpAnyH_take (i := 14) (oi := ?oiRat69x14) (v := ?vRat69x14) ?hoRat69x14 ?h1Rat69x14 ?h2Rat69x14 ?h3Rat69x14 ?hqRat69x14 (Or.inl ⟨?h4Rat69x14, ?hyRat69x14⟩) (by assumption) ?restRat69x14
   case hoRat69x14 => (simp only [qa, qb, qc]; rfl)
   case h1Rat69x14 => kernel_rfl
   case h2Rat69x14 => kernel_rfl
   case h3Rat69x14 => kernel_rfl
   case h4Rat69x14 => rfl
   case hqRat69x14 => exact fun _ _ _ h => h
   case hyRat69x14 => (intro w hSw; (try dsimp only at hSw); go_simp <;> with_reducible rfl)
   (try simp only [Act.put, qd, qe, qf])
   refine wpAnyH_done (by kernel_rfl) ?_ _
   have hd := H1.out.drew
   generalize w4.drew = wq at *
   have Hq := hid hd
   have Hwq := Hw1
   clear hd H1 Hw1 HSN hHeld
   generalize st1 = stf at *
   obtain ⟨nd, hnd⟩ : ∃ x, cntH stf.hs 3 = x := ⟨_, rfl⟩
   obtain ⟨nf, hnf⟩ : ∃ x, cntH stf.hs 0 = x := ⟨_, rfl⟩
   have hnd6 : nd ≤ 64 := by rw [← hnd]; exact cntH_le _ _
   have hct := dead_run Hq.out nd hnd
   have k7 : wq.cell? ⟨o.bf, 7, none⟩ = some (.pointer (some ⟨o.bp, 0, none⟩)) := Hq.out.ft.f.cell 7
   have Hnd := hid hnd
   have Hnf := hid hnf
   clear hnd hnf
   go_wp2_with fail
   refine hct.mono ?_
   rintro e w7 ⟨rfl, hB7⟩
   have H7 := hid (Hq.out.later hB7)
   have k3 : w7.cell? ⟨o.bf, 3, none⟩ = some (.int .i64 (c.S : Int)) := H7.out.ft.f.cell 3
   clear hct k7 hB7
   by_cases hSd : c.S < nd
   ·have hSd' : (c.S : Int) < (nd : Int) := by omega
    have HR0 := hid (show r = (stf, 0, 10) by
     have := HRh.out
     unfold halfG at this
     rw [Hnd.out, if_pos hSd] at this
     injection this with this
     exact this.symm)
    clear HRh
    go_wp2
    go_ret2
    rw [HR0.out]
    exact ⟨rfl, H7.out, Hwq.out, fun h => absurd (show (10 : Int) = 0 from h) (by decide)⟩
   ·have hSd' : ¬ (c.S : Int) < (nd : Int) := by omega
    have hSd2 : (nd : Int) ≤ (c.S : Int) := by omega
    have hbd7 : Below w7.heap.size w7 w7.drew := below_drewN (Below.refl _ _) 1
    have HC9 := hid (fun (W : World) (hW : Below w7.heap.size w7 W) => (⟨(H7.out.ft.f.later hW).cell 1, (H7.out.ft.f.later hW).cell 2, (H7.out.ft.f.later hW).cell 3, (H7.out.ft.f.later hW).cell 4, (H7.out.ft.f.later hW).cell 7⟩ : W.cell? ⟨o.bf, 1, none⟩ = some (.int .i64 (c.nb : Int)) ∧ W.cell? ⟨o.bf, 2, none⟩ = some (.int .i64 (c.np : Int)) ∧ W.cell? ⟨o.bf, 3, none⟩ = some (.int .i64 (c.S : Int)) ∧ W.cell? ⟨o.bf, 4, none⟩ = some (.slice o.Ab o.nbad o.cbad) ∧ W.cell? ⟨o.bf, 7, none⟩ = some (.pointer (some ⟨o.bp, 0, none⟩))))
    obtain ⟨rv, hrv⟩ : ∃ x : Int, 1 + (c.S : Int) - (nd : Int) = x := ⟨_, rfl⟩
    have HRS := hid (fun (W : World) (hW : Below w7.heap.size w7 W) => by
     have := reserve_any (c.nb : Int) (c.np : Int) (c.S : Int) (nd : Int) o.Ab o.nbad o.cbad W (by omega) (by have := hgb.2.2.2.2.2.1; omega) (by omega) (by omega)
     rw [hrv] at this
     exact this)
    have hcf := frees_run H7.out.drew nf Hnf.out
    have Hrv := hid hrv
    have HSd := hid hSd
    clear hrv hSd hSd'
    go_upto_region 9 with (fail)
    refine wp_region_held_drew (S := (fun w' => w'.cell? ⟨o.bf, 1, none⟩ = some (.int .i64 (c.nb : Int)) ∧ w'.cell? ⟨o.bf, 2, none⟩ = some (.int .i64 (c.np : Int)) ∧ w'.cell? ⟨o.bf, 3, none⟩ = some (.int .i64 (c.S : Int)) ∧ w'.cell? ⟨o.bf, 4, none⟩ = some (.slice o.Ab o.nbad o.cbad) ∧ w'.cell? ⟨o.bf, 7, none⟩ = some (.pointer (some ⟨o.bp, 0, none⟩)))) (by kernel_rfl) ?hSnewRcz (fun hHeld => ?restRcz)
    case hSnewRcz => ((try dsimp only); exact HC9.out _ hbd7)
    refine wpAnyH_take (i := 0) (oi := ?oiRct100x0) (v := ?vRct100x0) ?hoRct100x0 ?h1Rct100x0 ?h2Rct100x0 ?h3Rct100x0 ?hqRct100x0 (Or.inl ⟨?h4Rct100x0, ?hyRct100x0⟩) (by assumption) ?restRct100x0
    case hoRct100x0 => (simp only [qa, qb, qc]; rfl)
    case h1Rct100x0 => kernel_rfl
    case h2Rct100x0 => kernel_rfl
    case h3Rct100x0 => kernel_rfl
    case h4Rct100x0 => rfl
    case hqRct100x0 => exact fun _ _ _ h => h
    case hyRct100x0 => (intro w hSw; (try dsimp only at hSw); go_simp <;> with_reducible rfl)
    (try simp only [Act.put, qd, qe, qf])
    refine wpAnyH_take (i := 1) (oi := ?oiRct102x1) (v := ?vRct102x1) ?hoRct102x1 ?h1Rct102x1 ?h2Rct102x1 ?h3Rct102x1 ?hqRct102x1 (Or.inl ⟨?h4Rct102x1, ?hyRct102x1⟩) (by assumption) ?restRct102x1
    case hoRct102x1 => (simp only [qa, qb, qc]; rfl)
    case h1Rct102x1 => kernel_rfl
    case h2Rct102x1 => kernel_rfl
    case h3Rct102x1 => kernel_rfl
    case h4Rct102x1 => rfl
    case hqRct102x1 => exact fun _ _ _ h => h
    case hyRct102x1 => (intro w hSw; (try dsimp only at hSw); go_simp <;> with_reducible rfl)
    (try simp only [Act.put, qd, qe, qf])
    refine wpAnyH_take (i := 2) (oi := ?oiRct104x2) (v := ?vRct104x2) ?hoRct104x2 ?h1Rct104x2 ?h2Rct104x2 ?h3Rct104x2 ?hqRct104x2 (Or.inl ⟨?h4Rct104x2, ?hyRct104x2⟩) (by assumption) ?restRct104x2
    case hoRct104x2 => (simp only [qa, qb, qc]; rfl)
    case h1Rct104x2 => kernel_rfl
    case h2Rct104x2 => kernel_rfl
    case h3Rct104x2 => kernel_rfl
    case h4Rct104x2 => rfl
    case hqRct104x2 => exact fun _ _ _ h => h
    case hyRct104x2 => (intro w hSw; (try dsimp only at hSw); go_simp <;> with_reducible rfl)
    (try simp only [Act.put, qd, qe, qf])
    refine wpAnyH_take (i := 3) (oi := ?oiRct106x3) (v := ?vRct106x3) ?hoRct106x3 ?h1Rct106x3 ?h2Rct106x3 ?h3Rct106x3 ?hqRct106x3 (Or.inl ⟨?h4Rct106x3, ?hyRct106x3⟩) (by assumption) ?restRct106x3
    case hoRct106x3 => (simp only [qa, qb, qc]; rfl)
    case h1Rct106x3 => kernel_rfl
    case h2Rct106x3 => kernel_rfl
    case h3Rct106x3 => kernel_rfl
    case h4Rct106x3 => rfl
    case hqRct106x3 => exact fun _ _ _ h => h
    case hyRct106x3 => (intro w hSw; (try dsimp only at hSw); go_simp <;> with_reducible rfl)
    (try simp only [Act.put, qd, qe, qf])
    refine wpAnyH_take (i := 5) (oi := ?oiRct108x5) (v := ?vRct108x5) ?hoRct108x5 ?h1Rct108x5 ?h2Rct108x5 ?h3Rct108x5 ?hqRct108x5 (Or.inl ⟨?h4Rct108x5, ?hyRct108x5⟩) (by assumption) ?restRct108x5
    case hoRct108x5 => (simp only [qa, qb, qc]; rfl)
    case h1Rct108x5 => kernel_rfl
    case h2Rct108x5 => kernel_rfl
    case h3Rct108x5 => kernel_rfl
    case h4Rct108x5 => rfl
    case hqRct108x5 => exact fun _ _ _ h => h
    case hyRct108x5 => (intro w hSw; (try dsimp only at hSw); go_simp <;> with_reducible rfl)
    (try simp only [Act.put, qd, qe, qf])
    refine wpAnyH_take (i := 6) (oi := ?oiRct110x6) (v := ?vRct110x6) ?hoRct110x6 ?h1Rct110x6 ?h2Rct110x6 ?h3Rct110x6 ?hqRct110x6 (Or.inl ⟨?h4Rct110x6, ?hyRct110x6⟩) (by assumption) ?restRct110x6
    case hoRct110x6 => (simp only [qa, qb, qc]; rfl)
    case h1Rct110x6 => kernel_rfl
    case h2Rct110x6 => kernel_rfl
    case h3Rct110x6 => kernel_rfl
    case h4Rct110x6 => rfl
    case hqRct110x6 => exact fun _ _ _ h => h
    case hyRct110x6 => (intro w hSw; (try dsimp only at hSw); go_simp <;> with_reducible rfl)
    (try simp only [Act.put, qd, qe, qf])
    refine wpAnyH_take (i := 7) (oi := ?oiRct112x7) (v := ?vRct112x7) ?hoRct112x7 ?h1Rct112x7 ?h2Rct112x7 ?h3Rct112x7 ?hqRct112x7 (Or.inl ⟨?h4Rct112x7, ?hyRct112x7⟩) (by assumption) ?restRct112x7
    case hoRct112x7 => (simp only [qa, qb, qc]; rfl)
    case h1Rct112x7 => kernel_rfl
    case h2Rct112x7 => kernel_rfl
    case h3Rct112x7 => kernel_rfl
    case h4Rct112x7 => rfl
    case hqRct112x7 => exact fun _ _ _ h => h
    case hyRct112x7 => (intro w hSw; (try dsimp only at hSw); go_simp <;> with_reducible rfl)
    (try simp only [Act.put, qd, qe, qf])
    refine wpAnyH_take (i := 8) (oi := ?oiRct114x8) (v := ?vRct114x8) ?hoRct114x8 ?h1Rct114x8 ?h2Rct114x8 ?h3Rct114x8 ?hqRct114x8 (Or.inl ⟨?h4Rct114x8, ?hyRct114x8⟩) (by assumption) ?restRct114x8
    case hoRct114x8 => (simp only [qa, qb, qc]; rfl)
    case h1Rct114x8 => kernel_rfl
    case h2Rct114x8 => kernel_rfl
    case h3Rct114x8 => kernel_rfl
    case h4Rct114x8 => rfl
    case hqRct114x8 => exact fun _ _ _ h => h
    case hyRct114x8 => (intro w hSw; (try dsimp only at hSw); go_simp <;> with_reducible rfl)
    (try simp only [Act.put, qd, qe, qf])
    refine wpAnyH_take (i := 9) (oi := ?oiRct116x9) (v := ?vRct116x9) ?hoRct116x9 ?h1Rct116x9 ?h2Rct116x9 ?h3Rct116x9 ?hqRct116x9 (Or.inl ⟨?h4Rct116x9, ?hyRct116x9⟩) (by assumption) ?restRct116x9
    case hoRct116x9 => (simp only [qa, qb, qc]; rfl)
    case h1Rct116x9 => kernel_rfl
    case h2Rct116x9 => kernel_rfl
    case h3Rct116x9 => kernel_rfl
    case h4Rct116x9 => rfl
    case hqRct116x9 => exact fun _ _ _ h => h
    case hyRct116x9 => (intro w hSw; (try dsimp only at hSw); go_simp <;> with_reducible rfl)
    (try simp only [Act.put, qd, qe, qf])
    refine wpAnyH_ready (rs := [4]) (by kernel_rfl) (by simp) ?_
    refine AllReadyH.cons (o := ?oiRcq117) ?hoRcq117 (fun K hK => ?restRcq117) ?moreRcq117
    case moreRcq117 => exact AllReadyH.nil
    case hoRcq117 => (simp only [qa, qb, qc]; rfl)
    go_simp
    refine hcf.mono ?_
    rintro e w8 ⟨rfl, hB8'⟩
    have hB8 := hbd7.trans (hB8'.mono hbd7.size)
    have hrs := HRS.out w8 hB8
    try go_wp2_with fail
    refine hK.out _ _ ?hSnewRchq117 (fun hHeld => ?restRchq117)
    case hSnewRchq117 => ((try dsimp only); exact HC9.out _ hB8)
    clear hK K
    (try simp only [Act.put, qd, qe, qf])
    refine wpAnyH_ready (rs := [10]) (by kernel_rfl) (by simp) ?_
    refine AllReadyH.cons (o := ?oiRcq118) ?hoRcq118 (fun K hK => ?restRcq118) ?moreRcq118
    case moreRcq118 => exact AllReadyH.nil
    case hoRcq118 => (simp only [qa, qb, qc]; rfl)
    go_simp
    refine hrs.mono ?_
    rintro e w9 ⟨rfl, hB9'⟩
    try go_wp2_with fail
    refine hK.out _ _ ?hSnewRchq118 (fun hHeld => ?restRchq118)
    case hSnewRchq118 => ((try dsimp only); exact HC9.out _ (hB8.trans (hB9'.mono hB8.size)))
    clear hK K
    (try simp only [Act.put, qd, qe, qf])
    refine wpAnyH_take (i := 11) (oi := ?oiRct120x11) (v := ?vRct120x11) ?hoRct120x11 ?h1Rct120x11 ?h2Rct120x11 ?h3Rct120x11 ?hqRct120x11 (Or.inl ⟨?h4Rct120x11, ?hyRct120x11⟩) (by assumption) ?restRct120x11
    case hoRct120x11 => (simp only [qa, qb, qc]; rfl)
    case h1Rct120x11 => kernel_rfl
    case h2Rct120x11 => kernel_rfl
    case h3Rct120x11 => kernel_rfl
    case h4Rct120x11 => rfl
    case hqRct120x11 => exact fun _ _ _ h => h
    case hyRct120x11 => (intro w hSw; (try dsimp only at hSw); go_simp <;> with_reducible rfl)
    (try simp only [Act.put, qd, qe, qf])
    refine wpAnyH_done (by kernel_rfl) ?_ _
    have H9 := hid (H7.out.later (hB8.trans (hB9'.mono hB8.size)))
    clear hcf hrs HRS HC9 hB8 hB9' hB8' hbd7 hHeld k3 hSd2
    by_cases hlt : rv < (nf : Int)
    ·have HRr := hid (show roomG c m k (stf.how c ((freeF c stf).getD 0).toNat 2) = some r by
      have := HRh.out
      unfold halfG at this
      rw [Hnd.out, Hnf.out, if_neg HSd.out, if_pos (by have := Hrv.out; omega)] at this
      exact this)
     have hfr := free_any H9.out Hwq.out
     obtain ⟨b0, hb0, hb6⟩ : ∃ b0 : Nat, (freeF c stf).getD 0 = (b0 : Int) ∧ b0 < 64 := by
      cases hf : freeF c stf with
      | none => exact ⟨0, rfl, by omega⟩
      | some d =>
       obtain ⟨d, rfl, -, h2⟩ := xs_nat ((bestF_spec stf.hs (stf.ers c) 0 c.xs (fun x hx => by have := us_bd hx; unfold FT.ers; simp; omega)).1 d hf).1
       exact ⟨d, rfl, by have := hgb.2.1; omega⟩
     rw [hb0] at hfr HRr
     rw [Int.toNat_natCast] at HRr
     obtain ⟨bs, hbs⟩ : ∃ x, (freeF c stf).isSome = x := ⟨_, rfl⟩
     rw [hbs] at hfr
     clear hb0 hbs HRh
     go_wp2_with fail
     refine hfr.mono ?_
     rintro e w10 ⟨rfl, hB10⟩
     have H10 := hid (H9.out.later hB10)
     have hs : Calls Try.prog 40 #[.pointer (some ⟨o.bp, 0, none⟩), .int .i64 (b0 : Int), .int .u8 2] w10 fun e w' => (∃ r, e = .returned (.int .i64 r)) ∧ FR c o F Q V w0 w' (stf.how c b0 2) := how_run H10.out b0 2 hb6 (by omega)
     have k7 : w10.cell? ⟨o.bf, 7, none⟩ = some (.pointer (some ⟨o.bp, 0, none⟩)) := H10.out.ft.f.cell 7
     clear hfr hB10
     go_wp2_with fail
     refine hs.mono ?_
     rintro e w11 ⟨⟨q, rfl⟩, h11⟩
     have H11 := hid h11
     clear hs h11 k7
     go_wp2
     go_roundw
     case rel => exact ⟨k, stf.how c b0 2, HRr.out, Hwq.out.how b0 2, H11.out⟩
     case measure => exact Nat.lt_of_le_of_lt (lst_le (m := k) (show RoomRel c o F Q V w0 m r _ k from ⟨stf.how c b0 2, HRr.out, Hwq.out.how b0 2, H11.out⟩)) (by rw [Hk1.out]; exact Nat.lt_succ_self k)
    ·have hlt' : (nf : Int) ≤ rv := by omega
     obtain ⟨R2, hR2, hcase⟩ := halfG_coll (st := stf) (m := m) (n := k) (by rw [Hnd.out]; exact HSd.out) (by rw [Hnd.out, Hnf.out]; have := Hrv.out; omega) HRh.out
     have hcl := collect_run H9.out Hwq.out hep m R2 hR2
     obtain ⟨st2, z2⟩ := R2
     dsimp only at hcl hcase
     have Hcase := hid hcase
     clear HRh hR2 hcase
     go_wp2_with fail
     refine hcl.mono ?_
     rintro e w10 ⟨rfl, h10, hw10⟩
     have H10 := hid h10
     have Hw10 := hid hw10
     clear hcl h10 hw10
     by_cases h0 : z2 = 0
     ·have HRr := hid (show roomG c m k st2 = some r by
       rcases Hcase.out with ⟨h, -⟩ | ⟨-, h⟩
       ·exact absurd h0 h
       ·exact h)
      subst h0
      clear Hcase
      go_wp2
      go_roundw
      case rel => exact ⟨k, st2, HRr.out, Hw10.out, H10.out⟩
      case measure => exact Nat.lt_of_le_of_lt (lst_le (m := k) (show RoomRel c o F Q V w0 m r _ k from ⟨st2, HRr.out, Hw10.out, H10.out⟩)) (by rw [Hk1.out]; exact Nat.lt_succ_self k)
     ·have hzb : (z2 == 0) = false := by rw [beq_eq_false_iff_ne]; exact h0
      have HR0 := hid (show r = (st2, 0, z2) by
       rcases Hcase.out with ⟨-, h⟩ | ⟨h, -⟩
       ·exact h
       ·exact absurd h h0)
      have Hz0 := hid h0
      clear Hcase h0
      go_wp2
      go_ret2
      rw [HR0.out]
      exact ⟨rfl, H10.out, Hw10.out, fun h => absurd h Hz0.out⟩
  | some b =>
   obtain ⟨b, rfl, hb2, hbn⟩ := xs_nat (hmem b hfo).1
   rw [hfo] at hop
   have hnx := next_run h1.drew b (by rw [hw1.lb]; exact hbn)
   obtain ⟨pl, hpl⟩ : ∃ x, (st1.N.blk b).pages.length = x := ⟨_, rfl⟩
   rw [hpl] at hnx
   have H1 := hid h1
   have Hw1 := hid hw1
   have Hl1 := hid hl1
   have Hfo := hid hfo
   have Hpl := hid hpl
   clear h1 hw1 hl1 hmem hfo hpl
   go_wp2_with fail
   refine hop.mono ?_
   rintro e w4 ⟨rfl, rfl⟩
   clear hop k7
   go_upto_region 2 with (fail)
   refine wp_region_held_drew (S := (fun w' => w'.cell? ⟨o.bf, 0, none⟩ = some (.pointer (some ⟨o.ba, 0, none⟩)) ∧ w'.cell? ⟨o.bf, 2, none⟩ = some (.int .i64 (c.np : Int)))) (by kernel_rfl) ?hSnewRbz (fun hHeld => ?restRbz)
   case hSnewRbz => ((try dsimp only); exact HSN)
   refine wpAnyH_take (i := 0) (oi := ?oiRbt71x0) (v := ?vRbt71x0) ?hoRbt71x0 ?h1Rbt71x0 ?h2Rbt71x0 ?h3Rbt71x0 ?hqRbt71x0 (Or.inl ⟨?h4Rbt71x0, ?hyRbt71x0⟩) (by assumption) ?restRbt71x0
   case hoRbt71x0 => (simp only [qa, qb, qc]; rfl)
   case h1Rbt71x0 => kernel_rfl
   case h2Rbt71x0 => kernel_rfl
   case h3Rbt71x0 => kernel_rfl
   case h4Rbt71x0 => rfl
   case hqRbt71x0 => exact fun _ _ _ h => h
   case hyRbt71x0 => (intro w hSw; (try dsimp only at hSw); go_simp <;> with_reducible rfl)
   (try simp only [Act.put, qd, qe, qf])
   refine wpAnyH_take (i := 1) (oi := ?oiRbt73x1) (v := ?vRbt73x1) ?hoRbt73x1 ?h1Rbt73x1 ?h2Rbt73x1 ?h3Rbt73x1 ?hqRbt73x1 (Or.inl ⟨?h4Rbt73x1, ?hyRbt73x1⟩) (by assumption) ?restRbt73x1
   case hoRbt73x1 => (simp only [qa, qb, qc]; rfl)
   case h1Rbt73x1 => kernel_rfl
   case h2Rbt73x1 => kernel_rfl
   case h3Rbt73x1 => kernel_rfl
   case h4Rbt73x1 => rfl
   case hqRbt73x1 => exact fun _ _ _ h => h
   case hyRbt73x1 => (intro w hSw; (try dsimp only at hSw); go_simp <;> with_reducible rfl)
   (try simp only [Act.put, qd, qe, qf])
   refine wpAnyH_take (i := 2) (oi := ?oiRbt75x2) (v := ?vRbt75x2) ?hoRbt75x2 ?h1Rbt75x2 ?h2Rbt75x2 ?h3Rbt75x2 ?hqRbt75x2 (Or.inl ⟨?h4Rbt75x2, ?hyRbt75x2⟩) (by assumption) ?restRbt75x2
   case hoRbt75x2 => (simp only [qa, qb, qc]; rfl)
   case h1Rbt75x2 => kernel_rfl
   case h2Rbt75x2 => kernel_rfl
   case h3Rbt75x2 => kernel_rfl
   case h4Rbt75x2 => rfl
   case hqRbt75x2 => exact fun _ _ _ h => h
   case hyRbt75x2 => (intro w hSw; (try dsimp only at hSw); go_simp <;> with_reducible rfl)
   (try simp only [Act.put, qd, qe, qf])
   refine wpAnyH_take (i := 3) (oi := ?oiRbt77x3) (v := ?vRbt77x3) ?hoRbt77x3 ?h1Rbt77x3 ?h2Rbt77x3 ?h3Rbt77x3 ?hqRbt77x3 (Or.inl ⟨?h4Rbt77x3, ?hyRbt77x3⟩) (by assumption) ?restRbt77x3
   case hoRbt77x3 => (simp only [qa, qb, qc]; rfl)
   case h1Rbt77x3 => kernel_rfl
   case h2Rbt77x3 => kernel_rfl
   case h3Rbt77x3 => kernel_rfl
   case h4Rbt77x3 => rfl
   case hqRbt77x3 => exact fun _ _ _ h => h
   case hyRbt77x3 => (intro w hSw; (try dsimp only at hSw); go_simp <;> with_reducible rfl)
   (try simp only [Act.put, qd, qe, qf])
   refine wpAnyH_take (i := 4) (oi := ?oiRbt79x4) (v := ?vRbt79x4) ?hoRbt79x4 ?h1Rbt79x4 ?h2Rbt79x4 ?h3Rbt79x4 ?hqRbt79x4 (Or.inl ⟨?h4Rbt79x4, ?hyRbt79x4⟩) (by assumption) ?restRbt79x4
   case hoRbt79x4 => (simp only [qa, qb, qc]; rfl)
   case h1Rbt79x4 => kernel_rfl
   case h2Rbt79x4 => kernel_rfl
   case h3Rbt79x4 => kernel_rfl
   case h4Rbt79x4 => rfl
   case hqRbt79x4 => exact fun _ _ _ h => h
   case hyRbt79x4 => (intro w hSw; (try dsimp only at hSw); go_simp <;> with_reducible rfl)
   (try simp only [Act.put, qd, qe, qf])
   refine wpAnyH_take (i := 5) (oi := ?oiRbt81x5) (v := ?vRbt81x5) ?hoRbt81x5 ?h1Rbt81x5 ?h2Rbt81x5 ?h3Rbt81x5 ?hqRbt81x5 (Or.inl ⟨?h4Rbt81x5, ?hyRbt81x5⟩) (by assumption) ?restRbt81x5
   case hoRbt81x5 => (simp only [qa, qb, qc]; rfl)
   case h1Rbt81x5 => kernel_rfl
   case h2Rbt81x5 => kernel_rfl
   case h3Rbt81x5 => kernel_rfl
   case h4Rbt81x5 => rfl
   case hqRbt81x5 => exact fun _ _ _ h => h
   case hyRbt81x5 => (intro w hSw; (try dsimp only at hSw); go_simp <;> with_reducible rfl)
   (try simp only [Act.put, qd, qe, qf])
   refine wpAnyH_take (i := 6) (oi := ?oiRbt83x6) (v := ?vRbt83x6) ?hoRbt83x6 ?h1Rbt83x6 ?h2Rbt83x6 ?h3Rbt83x6 ?hqRbt83x6 (Or.inl ⟨?h4Rbt83x6, ?hyRbt83x6⟩) (by assumption) ?restRbt83x6
   case hoRbt83x6 => (simp only [qa, qb, qc]; rfl)
   case h1Rbt83x6 => kernel_rfl
   case h2Rbt83x6 => kernel_rfl
   case h3Rbt83x6 => kernel_rfl
   case h4Rbt83x6 => rfl
   case hqRbt83x6 => exact fun _ _ _ h => h
   case hyRbt83x6 => (intro w hSw; (try dsimp only at hSw); go_simp <;> with_reducible rfl)
   (try simp only [Act.put, qd, qe, qf])
   refine wpAnyH_take (i := 8) (oi := ?oiRbt85x8) (v := ?vRbt85x8) ?hoRbt85x8 ?h1Rbt85x8 ?h2Rbt85x8 ?h3Rbt85x8 ?hqRbt85x8 (Or.inl ⟨?h4Rbt85x8, ?hyRbt85x8⟩) (by assumption) ?restRbt85x8
   case hoRbt85x8 => (simp only [qa, qb, qc]; rfl)
   case h1Rbt85x8 => kernel_rfl
   case h2Rbt85x8 => kernel_rfl
   case h3Rbt85x8 => kernel_rfl
   case h4Rbt85x8 => rfl
   case hqRbt85x8 => exact fun _ _ _ h => h
   case hyRbt85x8 => (intro w hSw; (try dsimp only at hSw); go_simp <;> with_reducible rfl)
   (try simp only [Act.put, qd, qe, qf])
   refine wpAnyH_take (i := 9) (oi := ?oiRbt87x9) (v := ?vRbt87x9) ?hoRbt87x9 ?h1Rbt87x9 ?h2Rbt87x9 ?h3Rbt87x9 ?hqRbt87x9 (Or.inl ⟨?h4Rbt87x9, ?hyRbt87x9⟩) (by assumption) ?restRbt87x9
   case hoRbt87x9 => (simp only [qa, qb, qc]; rfl)
   case h1Rbt87x9 => kernel_rfl
   case h2Rbt87x9 => kernel_rfl
   case h3Rbt87x9 => kernel_rfl
   case h4Rbt87x9 => rfl
   case hqRbt87x9 => exact fun _ _ _ h => h
   case hyRbt87x9 => (intro w hSw; (try dsimp only at hSw); go_simp <;> with_reducible rfl)
   (try simp only [Act.put, qd, qe, qf])
   refine wpAnyH_take (i := 10) (oi := ?oiRbt89x10) (v := ?vRbt89x10) ?hoRbt89x10 ?h1Rbt89x10 ?h2Rbt89x10 ?h3Rbt89x10 ?hqRbt89x10 (Or.inl ⟨?h4Rbt89x10, ?hyRbt89x10⟩) (by assumption) ?restRbt89x10
   case hoRbt89x10 => (simp only [qa, qb, qc]; rfl)
   case h1Rbt89x10 => kernel_rfl
   case h2Rbt89x10 => kernel_rfl
   case h3Rbt89x10 => kernel_rfl
   case h4Rbt89x10 => rfl
   case hqRbt89x10 => exact fun _ _ _ h => h
   case hyRbt89x10 => (intro w hSw; (try dsimp only at hSw); go_simp <;> with_reducible rfl)
   (try simp only [Act.put, qd, qe, qf])
   refine wpAnyH_take (i := 11) (oi := ?oiRbt91x11) (v := ?vRbt91x11) ?hoRbt91x11 ?h1Rbt91x11 ?h2Rbt91x11 ?h3Rbt91x11 ?hqRbt91x11 (Or.inl ⟨?h4Rbt91x11, ?hyRbt91x11⟩) (by assumption) ?restRbt91x11
   case hoRbt91x11 => (simp only [qa, qb, qc]; rfl)
   case h1Rbt91x11 => kernel_rfl
   case h2Rbt91x11 => kernel_rfl
   case h3Rbt91x11 => kernel_rfl
   case h4Rbt91x11 => rfl
   case hqRbt91x11 => exact fun _ _ _ h => h
   case hyRbt91x11 => (intro w hSw; (try dsimp only at hSw); go_simp <;> with_reducible rfl)
   (try simp only [Act.put, qd, qe, qf])
   refine wpAnyH_take (i := 12) (oi := ?oiRbt93x12) (v := ?vRbt93x12) ?hoRbt93x12 ?h1Rbt93x12 ?h2Rbt93x12 ?h3Rbt93x12 ?hqRbt93x12 (Or.inl ⟨?h4Rbt93x12, ?hyRbt93x12⟩) (by assumption) ?restRbt93x12
   case hoRbt93x12 => (simp only [qa, qb, qc]; rfl)
   case h1Rbt93x12 => kernel_rfl
   case h2Rbt93x12 => kernel_rfl
   case h3Rbt93x12 => kernel_rfl
   case h4Rbt93x12 => rfl
   case hqRbt93x12 => exact fun _ _ _ h => h
   case hyRbt93x12 => (intro w hSw; (try dsimp only at hSw); go_simp <;> with_reducible rfl)
   (try simp only [Act.put, qd, qe, qf])
   refine wpAnyH_ready (rs := [7]) (by kernel_rfl) (by simp) ?_
   refine AllReadyH.cons (o := ?oiRbq94) ?hoRbq94 (fun K hK => ?restRbq94) ?moreRbq94
   case moreRbq94 => exact AllReadyH.nil
   case hoRbq94 => (simp only [qa, qb, qc]; rfl)
   go_simp
   refine hnx.mono ?_
   rintro e w5 ⟨rfl, rfl⟩
   try go_wp2_with fail
   refine hK.out _ _ ?hSnewRbhq94 (fun hHeld => ?restRbhq94)
   case hSnewRbhq94 => ((try dsimp only); exact HSN)
   clear hK K
   (try simp only [Act.put, qd, qe, qf])
   refine wpAnyH_take (i := 13) (oi := ?oiRbt96x13) (v := ?vRbt96x13) ?hoRbt96x13 ?h1Rbt96x13 ?h2Rbt96x13 ?h3Rbt96x13 ?hqRbt96x13 (Or.inl ⟨?h4Rbt96x13, ?hyRbt96x13⟩) (by assumption) ?restRbt96x13
   case hoRbt96x13 => (simp only [qa, qb, qc]; rfl)
   case h1Rbt96x13 => kernel_rfl
   case h2Rbt96x13 => kernel_rfl
   case h3Rbt96x13 => kernel_rfl
   case h4Rbt96x13 => rfl
   case hqRbt96x13 => exact fun _ _ _ h => h
   case hyRbt96x13 => (intro w hSw; (try dsimp only at hSw); go_simp <;> with_reducible rfl)
   (try simp only [Act.put, qd, qe, qf])
   refine wpAnyH_take (i := 14) (oi := ?oiRbt98x14) (v := ?vRbt98x14) ?hoRbt98x14 ?h1Rbt98x14 ?h2Rbt98x14 ?h3Rbt98x14 ?hqRbt98x14 (Or.inl ⟨?h4Rbt98x14, ?hyRbt98x14⟩) (by assumption) ?restRbt98x14
   case hoRbt98x14 => (simp only [qa, qb, qc]; rfl)
   case h1Rbt98x14 => kernel_rfl
   case h2Rbt98x14 => kernel_rfl
   case h3Rbt98x14 => kernel_rfl
   case h4Rbt98x14 => rfl
   case hqRbt98x14 => exact fun _ _ _ h => h
   case hyRbt98x14 => (intro w hSw; (try dsimp only at hSw); go_simp <;> with_reducible rfl)
   (try simp only [Act.put, qd, qe, qf])
   refine wpAnyH_done (by kernel_rfl) ?_ _
   have hd := H1.out.drew
   clear hHeld HSN hnx
   by_cases hpn : pl < c.np
   ·have hpn' : (pl : Int) < (c.np : Int) := by omega
    have HR0 := hid (show r = (st1, b, 0) by
     have := Hl1.out
     rw [roomG_room Hfo.out (by rw [Hpl.out]; exact hpn)] at this
     injection this with this
     exact this.symm)
    go_wp2
    go_ret2
    rw [HR0.out]
    exact ⟨rfl, hd, Hw1.out, fun _ => hbn⟩
   ·have hpn' : ¬ (pl : Int) < (c.np : Int) := by omega
    have HRh := hid (show halfG c m k (st1.how c b 1) = some r by rw [← roomG_full Hfo.out (by rw [Hpl.out]; exact hpn)]; exact Hl1.out)
    have hs : Calls Try.prog 40 #[.pointer (some ⟨o.bp, 0, none⟩), .int .i64 (b : Int), .int .u8 1] w4.drew fun e w' => (∃ r, e = .returned (.int .i64 r)) ∧ FR c o F Q V w0 w' (st1.how c b 1) := how_run hd b 1 (by have := hgb.2.1; omega) (by omega)
    have k7 : w4.drew.cell? ⟨o.bf, 7, none⟩ = some (.pointer (some ⟨o.bp, 0, none⟩)) := hd.ft.f.cell 7
    have Hwq := hid (Hw1.out.how b 1)
    have hpn2 : (c.np : Int) ≤ (pl : Int) := by omega
    clear hpn hpn' Hl1 H1 Hw1 Hfo Hpl
    go_wp2_with fail
    refine hs.mono ?_
    rintro e wq ⟨⟨q, rfl⟩, hq⟩
    have Hq := hid hq
    clear hs hq k7 hd hpn2
    generalize st1.how c b 1 = stf at *
    obtain ⟨nd, hnd⟩ : ∃ x, cntH stf.hs 3 = x := ⟨_, rfl⟩
    obtain ⟨nf, hnf⟩ : ∃ x, cntH stf.hs 0 = x := ⟨_, rfl⟩
    have hnd6 : nd ≤ 64 := by rw [← hnd]; exact cntH_le _ _
    have hct := dead_run Hq.out nd hnd
    have k7 : wq.cell? ⟨o.bf, 7, none⟩ = some (.pointer (some ⟨o.bp, 0, none⟩)) := Hq.out.ft.f.cell 7
    have Hnd := hid hnd
    have Hnf := hid hnf
    clear hnd hnf
    go_wp2_with fail
    refine hct.mono ?_
    rintro e w7 ⟨rfl, hB7⟩
    have H7 := hid (Hq.out.later hB7)
    have k3 : w7.cell? ⟨o.bf, 3, none⟩ = some (.int .i64 (c.S : Int)) := H7.out.ft.f.cell 3
    clear hct k7 hB7
    by_cases hSd : c.S < nd
    ·have hSd' : (c.S : Int) < (nd : Int) := by omega
     have HR0 := hid (show r = (stf, 0, 10) by
      have := HRh.out
      unfold halfG at this
      rw [Hnd.out, if_pos hSd] at this
      injection this with this
      exact this.symm)
     clear HRh
     go_wp2
     go_ret2
     rw [HR0.out]
     exact ⟨rfl, H7.out, Hwq.out, fun h => absurd (show (10 : Int) = 0 from h) (by decide)⟩
    ·have hSd' : ¬ (c.S : Int) < (nd : Int) := by omega
     have hSd2 : (nd : Int) ≤ (c.S : Int) := by omega
     have hbd7 : Below w7.heap.size w7 w7.drew := below_drewN (Below.refl _ _) 1
     have HC9 := hid (fun (W : World) (hW : Below w7.heap.size w7 W) => (⟨(H7.out.ft.f.later hW).cell 1, (H7.out.ft.f.later hW).cell 2, (H7.out.ft.f.later hW).cell 3, (H7.out.ft.f.later hW).cell 4, (H7.out.ft.f.later hW).cell 7⟩ : W.cell? ⟨o.bf, 1, none⟩ = some (.int .i64 (c.nb : Int)) ∧ W.cell? ⟨o.bf, 2, none⟩ = some (.int .i64 (c.np : Int)) ∧ W.cell? ⟨o.bf, 3, none⟩ = some (.int .i64 (c.S : Int)) ∧ W.cell? ⟨o.bf, 4, none⟩ = some (.slice o.Ab o.nbad o.cbad) ∧ W.cell? ⟨o.bf, 7, none⟩ = some (.pointer (some ⟨o.bp, 0, none⟩))))
     obtain ⟨rv, hrv⟩ : ∃ x : Int, 1 + (c.S : Int) - (nd : Int) = x := ⟨_, rfl⟩
     have HRS := hid (fun (W : World) (hW : Below w7.heap.size w7 W) => by
      have := reserve_any (c.nb : Int) (c.np : Int) (c.S : Int) (nd : Int) o.Ab o.nbad o.cbad W (by omega) (by have := hgb.2.2.2.2.2.1; omega) (by omega) (by omega)
      rw [hrv] at this
      exact this)
     have hcf := frees_run H7.out.drew nf Hnf.out
     have Hrv := hid hrv
     have HSd := hid hSd
     clear hrv hSd hSd'
     go_upto_region 9 with (fail)
     refine wp_region_held_drew (S := (fun w' => w'.cell? ⟨o.bf, 1, none⟩ = some (.int .i64 (c.nb : Int)) ∧ w'.cell? ⟨o.bf, 2, none⟩ = some (.int .i64 (c.np : Int)) ∧ w'.cell? ⟨o.bf, 3, none⟩ = some (.int .i64 (c.S : Int)) ∧ w'.cell? ⟨o.bf, 4, none⟩ = some (.slice o.Ab o.nbad o.cbad) ∧ w'.cell? ⟨o.bf, 7, none⟩ = some (.pointer (some ⟨o.bp, 0, none⟩)))) (by kernel_rfl) ?hSnewRdz (fun hHeld => ?restRdz)
     case hSnewRdz => ((try dsimp only); exact HC9.out _ hbd7)
     refine wpAnyH_take (i := 0) (oi := ?oiRdt122x0) (v := ?vRdt122x0) ?hoRdt122x0 ?h1Rdt122x0 ?h2Rdt122x0 ?h3Rdt122x0 ?hqRdt122x0 (Or.inl ⟨?h4Rdt122x0, ?hyRdt122x0⟩) (by assumption) ?restRdt122x0
     case hoRdt122x0 => (simp only [qa, qb, qc]; rfl)
     case h1Rdt122x0 => kernel_rfl
     case h2Rdt122x0 => kernel_rfl
     case h3Rdt122x0 => kernel_rfl
     case h4Rdt122x0 => rfl
     case hqRdt122x0 => exact fun _ _ _ h => h
     case hyRdt122x0 => (intro w hSw; (try dsimp only at hSw); go_simp <;> with_reducible rfl)
     (try simp only [Act.put, qd, qe, qf])
     refine wpAnyH_take (i := 1) (oi := ?oiRdt124x1) (v := ?vRdt124x1) ?hoRdt124x1 ?h1Rdt124x1 ?h2Rdt124x1 ?h3Rdt124x1 ?hqRdt124x1 (Or.inl ⟨?h4Rdt124x1, ?hyRdt124x1⟩) (by assumption) ?restRdt124x1
     case hoRdt124x1 => (simp only [qa, qb, qc]; rfl)
     case h1Rdt124x1 => kernel_rfl
     case h2Rdt124x1 => kernel_rfl
     case h3Rdt124x1 => kernel_rfl
     case h4Rdt124x1 => rfl
     case hqRdt124x1 => exact fun _ _ _ h => h
     case hyRdt124x1 => (intro w hSw; (try dsimp only at hSw); go_simp <;> with_reducible rfl)
     (try simp only [Act.put, qd, qe, qf])
     refine wpAnyH_take (i := 2) (oi := ?oiRdt126x2) (v := ?vRdt126x2) ?hoRdt126x2 ?h1Rdt126x2 ?h2Rdt126x2 ?h3Rdt126x2 ?hqRdt126x2 (Or.inl ⟨?h4Rdt126x2, ?hyRdt126x2⟩) (by assumption) ?restRdt126x2
     case hoRdt126x2 => (simp only [qa, qb, qc]; rfl)
     case h1Rdt126x2 => kernel_rfl
     case h2Rdt126x2 => kernel_rfl
     case h3Rdt126x2 => kernel_rfl
     case h4Rdt126x2 => rfl
     case hqRdt126x2 => exact fun _ _ _ h => h
     case hyRdt126x2 => (intro w hSw; (try dsimp only at hSw); go_simp <;> with_reducible rfl)
     (try simp only [Act.put, qd, qe, qf])
     refine wpAnyH_take (i := 3) (oi := ?oiRdt128x3) (v := ?vRdt128x3) ?hoRdt128x3 ?h1Rdt128x3 ?h2Rdt128x3 ?h3Rdt128x3 ?hqRdt128x3 (Or.inl ⟨?h4Rdt128x3, ?hyRdt128x3⟩) (by assumption) ?restRdt128x3
     case hoRdt128x3 => (simp only [qa, qb, qc]; rfl)
     case h1Rdt128x3 => kernel_rfl
     case h2Rdt128x3 => kernel_rfl
     case h3Rdt128x3 => kernel_rfl
     case h4Rdt128x3 => rfl
     case hqRdt128x3 => exact fun _ _ _ h => h
     case hyRdt128x3 => (intro w hSw; (try dsimp only at hSw); go_simp <;> with_reducible rfl)
     (try simp only [Act.put, qd, qe, qf])
     refine wpAnyH_take (i := 5) (oi := ?oiRdt130x5) (v := ?vRdt130x5) ?hoRdt130x5 ?h1Rdt130x5 ?h2Rdt130x5 ?h3Rdt130x5 ?hqRdt130x5 (Or.inl ⟨?h4Rdt130x5, ?hyRdt130x5⟩) (by assumption) ?restRdt130x5
     case hoRdt130x5 => (simp only [qa, qb, qc]; rfl)
     case h1Rdt130x5 => kernel_rfl
     case h2Rdt130x5 => kernel_rfl
     case h3Rdt130x5 => kernel_rfl
     case h4Rdt130x5 => rfl
     case hqRdt130x5 => exact fun _ _ _ h => h
     case hyRdt130x5 => (intro w hSw; (try dsimp only at hSw); go_simp <;> with_reducible rfl)
     (try simp only [Act.put, qd, qe, qf])
     refine wpAnyH_take (i := 6) (oi := ?oiRdt132x6) (v := ?vRdt132x6) ?hoRdt132x6 ?h1Rdt132x6 ?h2Rdt132x6 ?h3Rdt132x6 ?hqRdt132x6 (Or.inl ⟨?h4Rdt132x6, ?hyRdt132x6⟩) (by assumption) ?restRdt132x6
     case hoRdt132x6 => (simp only [qa, qb, qc]; rfl)
     case h1Rdt132x6 => kernel_rfl
     case h2Rdt132x6 => kernel_rfl
     case h3Rdt132x6 => kernel_rfl
     case h4Rdt132x6 => rfl
     case hqRdt132x6 => exact fun _ _ _ h => h
     case hyRdt132x6 => (intro w hSw; (try dsimp only at hSw); go_simp <;> with_reducible rfl)
     (try simp only [Act.put, qd, qe, qf])
     refine wpAnyH_take (i := 7) (oi := ?oiRdt134x7) (v := ?vRdt134x7) ?hoRdt134x7 ?h1Rdt134x7 ?h2Rdt134x7 ?h3Rdt134x7 ?hqRdt134x7 (Or.inl ⟨?h4Rdt134x7, ?hyRdt134x7⟩) (by assumption) ?restRdt134x7
     case hoRdt134x7 => (simp only [qa, qb, qc]; rfl)
     case h1Rdt134x7 => kernel_rfl
     case h2Rdt134x7 => kernel_rfl
     case h3Rdt134x7 => kernel_rfl
     case h4Rdt134x7 => rfl
     case hqRdt134x7 => exact fun _ _ _ h => h
     case hyRdt134x7 => (intro w hSw; (try dsimp only at hSw); go_simp <;> with_reducible rfl)
     (try simp only [Act.put, qd, qe, qf])
     refine wpAnyH_take (i := 8) (oi := ?oiRdt136x8) (v := ?vRdt136x8) ?hoRdt136x8 ?h1Rdt136x8 ?h2Rdt136x8 ?h3Rdt136x8 ?hqRdt136x8 (Or.inl ⟨?h4Rdt136x8, ?hyRdt136x8⟩) (by assumption) ?restRdt136x8
     case hoRdt136x8 => (simp only [qa, qb, qc]; rfl)
     case h1Rdt136x8 => kernel_rfl
     case h2Rdt136x8 => kernel_rfl
     case h3Rdt136x8 => kernel_rfl
     case h4Rdt136x8 => rfl
     case hqRdt136x8 => exact fun _ _ _ h => h
     case hyRdt136x8 => (intro w hSw; (try dsimp only at hSw); go_simp <;> with_reducible rfl)
     (try simp only [Act.put, qd, qe, qf])
     refine wpAnyH_take (i := 9) (oi := ?oiRdt138x9) (v := ?vRdt138x9) ?hoRdt138x9 ?h1Rdt138x9 ?h2Rdt138x9 ?h3Rdt138x9 ?hqRdt138x9 (Or.inl ⟨?h4Rdt138x9, ?hyRdt138x9⟩) (by assumption) ?restRdt138x9
     case hoRdt138x9 => (simp only [qa, qb, qc]; rfl)
     case h1Rdt138x9 => kernel_rfl
     case h2Rdt138x9 => kernel_rfl
     case h3Rdt138x9 => kernel_rfl
     case h4Rdt138x9 => rfl
     case hqRdt138x9 => exact fun _ _ _ h => h
     case hyRdt138x9 => (intro w hSw; (try dsimp only at hSw); go_simp <;> with_reducible rfl)
     (try simp only [Act.put, qd, qe, qf])
     refine wpAnyH_ready (rs := [4]) (by kernel_rfl) (by simp) ?_
     refine AllReadyH.cons (o := ?oiRdq139) ?hoRdq139 (fun K hK => ?restRdq139) ?moreRdq139
     case moreRdq139 => exact AllReadyH.nil
     case hoRdq139 => (simp only [qa, qb, qc]; rfl)
     go_simp
     refine hcf.mono ?_
     rintro e w8 ⟨rfl, hB8'⟩
     have hB8 := hbd7.trans (hB8'.mono hbd7.size)
     have hrs := HRS.out w8 hB8
     try go_wp2_with fail
     refine hK.out _ _ ?hSnewRdhq139 (fun hHeld => ?restRdhq139)
     case hSnewRdhq139 => ((try dsimp only); exact HC9.out _ hB8)
     clear hK K
     (try simp only [Act.put, qd, qe, qf])
     refine wpAnyH_ready (rs := [10]) (by kernel_rfl) (by simp) ?_
     refine AllReadyH.cons (o := ?oiRdq140) ?hoRdq140 (fun K hK => ?restRdq140) ?moreRdq140
     case moreRdq140 => exact AllReadyH.nil
     case hoRdq140 => (simp only [qa, qb, qc]; rfl)
     go_simp
     refine hrs.mono ?_
     rintro e w9 ⟨rfl, hB9'⟩
     try go_wp2_with fail
     refine hK.out _ _ ?hSnewRdhq140 (fun hHeld => ?restRdhq140)
     case hSnewRdhq140 => ((try dsimp only); exact HC9.out _ (hB8.trans (hB9'.mono hB8.size)))
     clear hK K
     (try simp only [Act.put, qd, qe, qf])
     refine wpAnyH_take (i := 11) (oi := ?oiRdt142x11) (v := ?vRdt142x11) ?hoRdt142x11 ?h1Rdt142x11 ?h2Rdt142x11 ?h3Rdt142x11 ?hqRdt142x11 (Or.inl ⟨?h4Rdt142x11, ?hyRdt142x11⟩) (by assumption) ?restRdt142x11
     case hoRdt142x11 => (simp only [qa, qb, qc]; rfl)
     case h1Rdt142x11 => kernel_rfl
     case h2Rdt142x11 => kernel_rfl
     case h3Rdt142x11 => kernel_rfl
     case h4Rdt142x11 => rfl
     case hqRdt142x11 => exact fun _ _ _ h => h
     case hyRdt142x11 => (intro w hSw; (try dsimp only at hSw); go_simp <;> with_reducible rfl)
     (try simp only [Act.put, qd, qe, qf])
     refine wpAnyH_done (by kernel_rfl) ?_ _
     have H9 := hid (H7.out.later (hB8.trans (hB9'.mono hB8.size)))
     clear hcf hrs HRS HC9 hB8 hB9' hB8' hbd7 hHeld k3 hSd2
     by_cases hlt : rv < (nf : Int)
     ·have HRr := hid (show roomG c m k (stf.how c ((freeF c stf).getD 0).toNat 2) = some r by
       have := HRh.out
       unfold halfG at this
       rw [Hnd.out, Hnf.out, if_neg HSd.out, if_pos (by have := Hrv.out; omega)] at this
       exact this)
      have hfr := free_any H9.out Hwq.out
      obtain ⟨b0, hb0, hb6⟩ : ∃ b0 : Nat, (freeF c stf).getD 0 = (b0 : Int) ∧ b0 < 64 := by
       cases hf : freeF c stf with
       | none => exact ⟨0, rfl, by omega⟩
       | some d =>
        obtain ⟨d, rfl, -, h2⟩ := xs_nat ((bestF_spec stf.hs (stf.ers c) 0 c.xs (fun x hx => by have := us_bd hx; unfold FT.ers; simp; omega)).1 d hf).1
        exact ⟨d, rfl, by have := hgb.2.1; omega⟩
      rw [hb0] at hfr HRr
      rw [Int.toNat_natCast] at HRr
      obtain ⟨bs, hbs⟩ : ∃ x, (freeF c stf).isSome = x := ⟨_, rfl⟩
      rw [hbs] at hfr
      clear hb0 hbs HRh
      go_wp2_with fail
      refine hfr.mono ?_
      rintro e w10 ⟨rfl, hB10⟩
      have H10 := hid (H9.out.later hB10)
      have hs : Calls Try.prog 40 #[.pointer (some ⟨o.bp, 0, none⟩), .int .i64 (b0 : Int), .int .u8 2] w10 fun e w' => (∃ r, e = .returned (.int .i64 r)) ∧ FR c o F Q V w0 w' (stf.how c b0 2) := how_run H10.out b0 2 hb6 (by omega)
      have k7 : w10.cell? ⟨o.bf, 7, none⟩ = some (.pointer (some ⟨o.bp, 0, none⟩)) := H10.out.ft.f.cell 7
      clear hfr hB10
      go_wp2_with fail
      refine hs.mono ?_
      rintro e w11 ⟨⟨q, rfl⟩, h11⟩
      have H11 := hid h11
      clear hs h11 k7
      go_wp2
      go_roundw
      case rel => exact ⟨k, stf.how c b0 2, HRr.out, Hwq.out.how b0 2, H11.out⟩
      case measure => exact Nat.lt_of_le_of_lt (lst_le (m := k) (show RoomRel c o F Q V w0 m r _ k from ⟨stf.how c b0 2, HRr.out, Hwq.out.how b0 2, H11.out⟩)) (by rw [Hk1.out]; exact Nat.lt_succ_self k)
     ·have hlt' : (nf : Int) ≤ rv := by omega
      obtain ⟨R2, hR2, hcase⟩ := halfG_coll (st := stf) (m := m) (n := k) (by rw [Hnd.out]; exact HSd.out) (by rw [Hnd.out, Hnf.out]; have := Hrv.out; omega) HRh.out
      have hcl := collect_run H9.out Hwq.out hep m R2 hR2
      obtain ⟨st2, z2⟩ := R2
      dsimp only at hcl hcase
      have Hcase := hid hcase
      clear HRh hR2 hcase
      go_wp2_with fail
      refine hcl.mono ?_
      rintro e w10 ⟨rfl, h10, hw10⟩
      have H10 := hid h10
      have Hw10 := hid hw10
      clear hcl h10 hw10
      by_cases h0 : z2 = 0
      ·have HRr := hid (show roomG c m k st2 = some r by
        rcases Hcase.out with ⟨h, -⟩ | ⟨-, h⟩
        ·exact absurd h0 h
        ·exact h)
       subst h0
       clear Hcase
       go_wp2
       go_roundw
       case rel => exact ⟨k, st2, HRr.out, Hw10.out, H10.out⟩
       case measure => exact Nat.lt_of_le_of_lt (lst_le (m := k) (show RoomRel c o F Q V w0 m r _ k from ⟨st2, HRr.out, Hw10.out, H10.out⟩)) (by rw [Hk1.out]; exact Nat.lt_succ_self k)
      ·have hzb : (z2 == 0) = false := by rw [beq_eq_false_iff_ne]; exact h0
       have HR0 := hid (show r = (st2, 0, z2) by
        rcases Hcase.out with ⟨-, h⟩ | ⟨h, -⟩
        ·exact h
        ·exact absurd h h0)
       have Hz0 := hid h0
       clear Hcase h0
       go_wp2
       go_ret2
       rw [HR0.out]
       exact ⟨rfl, H10.out, Hw10.out, fun h => absurd h Hz0.out⟩
end
end Go.Proofs.Ytpcbpljdiacbmaa.Ftl
