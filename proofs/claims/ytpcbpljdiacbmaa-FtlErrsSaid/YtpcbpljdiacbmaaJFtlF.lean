import Derived.Test.YtpcbpljdiacbmaaJFtlE
import Derived.Test.YtpcbpljdiacbmaaJFtlO
import Derived.Test.YtpcbpljdiacbmaaJFtlI
import Derived.Deep.DeepCutAuto
set_option linter.unusedVariables false
set_option linter.unusedSimpArgs false
namespace Go.Proofs.Ytpcbpljdiacbmaa.Ftl
open Go.RowKit Go.Proofs.Ytpcbpljdiacbmaa.Kit Go.Proofs.Ytpcbpljdiacbmaa.Oct Go.Proofs.Ytpcbpljdiacbmaa.Sheet Go.Proofs.Ytpcbpljdiacbmaa.Nand Go.Proofs.Ytpcbpljdiacbmaa.Plan Go.Proofs.Ytpcbpljdiacbmaa.Scan Go.Proofs.Ytpcbpljdiacbmaa.Pmap Go.Proofs.Ytpcbpljdiacbmaa.Pool
noncomputable def copyL (c : FC) (v : Nat) : Nat → FT → Nat → Option (FT × Int × Nat)
 | 0, _, _ => none
 | n + 1, st, d =>
  if st.cn v ≤ 0 then some (st, 0, d)
  else match st.rdF ((st.on c v).headD 0).toNat with
   | none => none
   | some p =>
    if p.a ≠ ((st.on c v).headD 0).toNat ∨ 281474976710000 ≤ st.seq then none
    else
     let r := programF c st d p.K ((st.on c v).headD 0).toNat (v + 1) p.ys
     if r.2 = 8 then match freeF c r.1 with
      | none => some (r.1, 10, d)
      | some d' => copyL c v n r.1 d'.toNat
     else if r.2 ≠ 0 then some (r.1, r.2, d)
     else copyL c v n r.1 d
noncomputable def colT (c : FC) (n v : Nat) (st : FT) : Option Int → Option (FT × Int)
 | none => some (st, 10)
 | some d => if st.cn v = c.np then some (st, 10) else colEnd c v (copyL c v n st d.toNat)
noncomputable def colFr (c : FC) (n : Nat) (st : FT) : Option Int → Option (FT × Int)
 | none => some (st, 10)
 | some v => if st.cn v.toNat = 0 then some (eraseF c st v.toNat) else colT c n v.toNat st (freeF c st)
noncomputable def collectG (c : FC) (n : Nat) (st : FT) : Option (FT × Int) := colFr c n st (bestF st.hs st.cnt 1 c.xs)
noncomputable def roomG (c : FC) (m : Nat) : Nat → FT → Option (FT × Nat × Int)
 | 0, _ => none
 | n + 1, st =>
  if (fOpen c.xs st.hs).isSome = true ∧ (st.N.blk ((fOpen c.xs st.hs).getD 0).toNat).pages.length < c.np then some (st, ((fOpen c.xs st.hs).getD 0).toNat, 0)
  else
   if c.S < cntH (st.full c).hs 3 then some (st.full c, 0, 10)
   else if 1 + c.S < cntH (st.full c).hs 0 + cntH (st.full c).hs 3 then roomG c m n ((st.full c).how c ((freeF c (st.full c)).getD 0).toNat 2)
   else match collectG c m (st.full c) with
    | none => none
    | some r => if r.2 ≠ 0 then some (r.1, 0, r.2) else roomG c m n r.1
noncomputable def putG (c : FC) (m k : Nat) : Nat → FT → Nat → Nat → List Int → Option (FT × Int)
 | 0, _, _, _, _ => none
 | n + 1, st, K, a, ys => match roomG c m k st with
  | none => none
  | some r =>
   if r.2.2 ≠ 0 then some (r.1, r.2.2)
   else if 281474976710000 ≤ r.1.seq then none
   else
    let r2 := programF c r.1 r.2.1 K a 0 ys
    if r2.2 ≠ 8 then some r2 else putG c m k n r2.1 K a ys
section
variable {c : FC} {o : FId} {w w' : World} {st : FT} {F Q : Nat → Prop} {V w0 w1 w2 : World}
theorem rdF_rd {a : Nat} {p : Pg} (h : st.rdF a = some p) : st.has.getD a false = true ∧ st.rd a p := by
 unfold FT.rdF at h
 split at h
 ·rename_i hh
  exact ⟨hh.1, .inr ⟨hh.1, h, hh.2⟩⟩
 ·cases h
theorem copyL_zero {v k d : Nat} (h : st.cn v ≤ 0) : copyL c v (k + 1) st d = some (st, 0, d) := by
 unfold copyL
 rw [if_pos h]
theorem copyL_step {v k d : Nat} {r : FT × Int × Nat} (h : ¬ st.cn v ≤ 0) (hr : copyL c v (k + 1) st d = some r) : ∃ p R, st.rdF ((st.on c v).headD 0).toNat = some p ∧ p.a = ((st.on c v).headD 0).toNat ∧ st.seq < 281474976710000 ∧ programF c st d p.K ((st.on c v).headD 0).toNat (v + 1) p.ys = R ∧
  ((R.2 = 8 ∧ ((freeF c R.1 = none ∧ r = (R.1, 10, d)) ∨ ∃ d', freeF c R.1 = some d' ∧ copyL c v k R.1 d'.toNat = some r)) ∨ (R.2 ≠ 8 ∧ R.2 ≠ 0 ∧ r = (R.1, R.2, d)) ∨ (R.2 = 0 ∧ copyL c v k R.1 d = some r)) := by
 unfold copyL at hr
 rw [if_neg h] at hr
 cases hp : st.rdF ((st.on c v).headD 0).toNat with
 | none => rw [hp] at hr; cases hr
 | some p =>
  rw [hp] at hr
  simp only at hr
  by_cases hpa : p.a ≠ ((st.on c v).headD 0).toNat ∨ 281474976710000 ≤ st.seq
  ·rw [if_pos hpa] at hr
   cases hr
  rw [if_neg hpa] at hr
  refine ⟨p, _, rfl, Decidable.not_not.1 (fun h => hpa (.inl h)), Nat.lt_of_not_le (fun h => hpa (.inr h)), rfl, ?_⟩
  generalize programF c st d p.K ((st.on c v).headD 0).toNat (v + 1) p.ys = R at *
  by_cases h8 : R.2 = 8
  ·rw [if_pos h8] at hr
   refine .inl ⟨h8, ?_⟩
   cases hf : freeF c R.1 with
   | none =>
    rw [hf] at hr
    injection hr with hr
    exact .inl ⟨rfl, hr.symm⟩
   | some d' =>
    rw [hf] at hr
    exact .inr ⟨d', rfl, hr⟩
  ·rw [if_neg h8] at hr
   by_cases h0 : R.2 = 0
   ·rw [if_neg (by simp [h0])] at hr
    exact .inr (.inr ⟨h0, hr⟩)
   ·rw [if_pos h0] at hr
    injection hr with hr
    exact .inr (.inl ⟨h8, h0, hr.symm⟩)
/-- The loop of collect, at a world. -/
def CopyRel (c : FC) (o : FId) (F Q : Nat → Prop) (V w0 : World) (v : Nat) (r : FT × Int × Nat) (x : Value) (W : World) (k : Nat) : Prop :=
 ∃ st1 d, x = .int .i64 ((d : Nat) : Int) ∧ d < c.nb ∧ copyL c v k st1 d = some r ∧ FWf c st1 ∧ FR c o F Q V w0 W st1
theorem programF_seq (c : FC) (st : FT) (b kd a f : Nat) (ys : List Int) : (programF c st b kd a f ys).1.seq = st.seq + 1 := by
 unfold programF
 split
 ·rfl
 ·split <;> rfl
theorem on_run (h : FR c o F Q V w0 w st) (hpi : PI c.M c.nb st.at' st.has st.cnt) (v : Nat) (hv : v < c.nb) (hc : st.cn v ≠ 0) :
  Calls Try.prog 44 #[.pointer (some ⟨o.bm, 0, none⟩), .int .i64 (v : Int)] w fun e w' => ∃ A n cc, e = .returned (.slice A n cc) ∧ Nums w' .i64 A n (st.on c v) ∧ 0 < n ∧ Below w.heap.size w w' := by
 refine (Pmap.on_any o.bm o.ga o.gh o.gc c.M c.nb st.at' st.has st.cnt v w h.ft.pm hv hc (fun a _ hh => (hpi.here a hh).2)).mono ?_
 rintro e w' ⟨r, rfl, ho, hB⟩
 have hM := h.ft.pm.nM.1
 obtain ⟨A, cc, rfl, -, hz⟩ := own_nums ho (fun x hx => by
  obtain ⟨a, ha, rfl, -⟩ := on_mem hpi v hx
  exact kwf_of (by omega))
 refine ⟨A, _, cc, rfl, hz, ?_, hB⟩
 exact List.length_pos_iff.2 (on_pos hpi v hv hc)
theorem on_head (hpi : PI c.M c.nb st.at' st.has st.cnt) (v : Nat) (hv : v < c.nb) (hc : st.cn v ≠ 0) : ∃ a, a < c.M ∧ (st.on c v).headD 0 = (a : Int) ∧ (st.on c v).getD 0 0 = (a : Int) ∧ st.has.getD a false = true ∧ (st.at'.getD a (0, 0)).1 = (v : Int) := by
 have hne := on_pos hpi v hv hc
 unfold FT.on
 cases hl : outs (byL st.at' st.has v c.M) with
 | nil => exact absurd hl hne
 | cons x l =>
  obtain ⟨a, h1, h2, h3, h4⟩ := on_mem hpi v (x := x) (by rw [hl]; exact List.mem_cons_self)
  exact ⟨a, h1, h2, h2, h3, h4⟩

set_option maxRecDepth 100000 in
set_option maxHeartbeats 4000000 in
theorem collect_run (h : FR c o F Q V w0 w st) (hw : FWf c st) (hep : c.ep < 281474976710656) (n : Nat) (R : FT × Int) (hR : collectG c n st = some R) :
  Calls Try.prog 78 #[.pointer (some ⟨o.bf, 0, none⟩)] w fun e w' => e = .returned (.int .i64 R.2) ∧ FR c o F Q V w0 w' R.1 ∧ FWf c R.1 := by
 have hbd : Below w.heap.size w w.drew := below_drewN (Below.refl _ _) 1
 have hgb := h.ft.geo.bd
 have hM := h.ft.pm.nM.1
 have Hwf := hid (show ∀ x ∈ st.cnt, (Lit.int .i64 x).wf = true from fun x hx => by
  obtain ⟨k, hk, e⟩ := List.mem_iff_getElem.1 hx
  have h1 := hw.pi.on k (by rw [← hw.pi.lc]; exact hk)
  rw [List.getD_eq_getElem?_getD, List.getElem?_eq_getElem hk, Option.getD_some, e] at h1
  have h2 := cnum_le (onP st.at' st.has k) c.M
  exact kwf_of (by omega))
 have hwt := weights_c o.bm st.cnt h.drew hgb.2.1 hw.pi.lc (fun W hW i hi => count_run (h.drew.later hW) i hi)
 have HC := hid (fun (W : World) (hW : Below w.heap.size w W) => (⟨(h.ft.f.later hW).cell 6, (h.ft.f.later hW).cell 7⟩ : W.cell? ⟨o.bf, 6, none⟩ = some (.pointer (some ⟨o.bm, 0, none⟩)) ∧ W.cell? ⟨o.bf, 7, none⟩ = some (.pointer (some ⟨o.bp, 0, none⟩))))
 have Hps := hid h.ft.ps
 have hxb : ∀ x ∈ c.xs, 0 ≤ x ∧ x < (st.cnt.length : Int) := fun x hx => by have := us_bd hx; rw [hw.pi.lc]; omega
 have hxe : ∀ x ∈ c.xs, 0 ≤ x ∧ x < ((st.ers c).length : Int) := fun x hx => by have := us_bd hx; unfold FT.ers; simp; omega
 have hbest := bestF_spec st.hs st.cnt 1 c.xs hxb
 have H := hid h
 have Hw := hid hw
 have HR := hid hR
 clear h hw hR hxb
 obtain ⟨best, hbe⟩ : ∃ x, bestF st.hs st.cnt 1 c.xs = x := ⟨_, rfl⟩
 rw [hbe] at hbest
 have Hbe := hid hbe
 have Hxe := hid hxe
 clear hxe
 go_enter Try.func78, Try.ntmps78
 go_upto_region 1 with (fail)
 refine wp_region_held_drew (S := (fun w' => w'.cell? ⟨o.bf, 6, none⟩ = some (.pointer (some ⟨o.bm, 0, none⟩)) ∧ w'.cell? ⟨o.bf, 7, none⟩ = some (.pointer (some ⟨o.bp, 0, none⟩)))) (by kernel_rfl) ?hSnewHaz (fun hHeld => ?restHaz)
 case hSnewHaz => ((try dsimp only); exact HC.out _ hbd)
 refine wpAnyH_take (i := 0) (oi := ?oiHat53x0) (v := ?vHat53x0) ?hoHat53x0 ?h1Hat53x0 ?h2Hat53x0 ?h3Hat53x0 ?hqHat53x0 (Or.inl ⟨?h4Hat53x0, ?hyHat53x0⟩) (by assumption) ?restHat53x0
 case hoHat53x0 => (simp only [qa, qb, qc]; rfl)
 case h1Hat53x0 => kernel_rfl
 case h2Hat53x0 => kernel_rfl
 case h3Hat53x0 => kernel_rfl
 case h4Hat53x0 => rfl
 case hqHat53x0 => exact fun _ _ _ h => h
 case hyHat53x0 => (intro w hSw; (try dsimp only at hSw); go_simp <;> with_reducible rfl)
 (try simp only [Act.put, qd, qe, qf])
 refine wpAnyH_take (i := 1) (oi := ?oiHat55x1) (v := ?vHat55x1) ?hoHat55x1 ?h1Hat55x1 ?h2Hat55x1 ?h3Hat55x1 ?hqHat55x1 (Or.inl ⟨?h4Hat55x1, ?hyHat55x1⟩) (by assumption) ?restHat55x1
 case hoHat55x1 => (simp only [qa, qb, qc]; rfl)
 case h1Hat55x1 => kernel_rfl
 case h2Hat55x1 => kernel_rfl
 case h3Hat55x1 => kernel_rfl
 case h4Hat55x1 => rfl
 case hqHat55x1 => exact fun _ _ _ h => h
 case hyHat55x1 => (intro w hSw; (try dsimp only at hSw); go_simp <;> with_reducible rfl)
 (try simp only [Act.put, qd, qe, qf])
 refine wpAnyH_take (i := 2) (oi := ?oiHat57x2) (v := ?vHat57x2) ?hoHat57x2 ?h1Hat57x2 ?h2Hat57x2 ?h3Hat57x2 ?hqHat57x2 (Or.inl ⟨?h4Hat57x2, ?hyHat57x2⟩) (by assumption) ?restHat57x2
 case hoHat57x2 => (simp only [qa, qb, qc]; rfl)
 case h1Hat57x2 => kernel_rfl
 case h2Hat57x2 => kernel_rfl
 case h3Hat57x2 => kernel_rfl
 case h4Hat57x2 => rfl
 case hqHat57x2 => exact fun _ _ _ h => h
 case hyHat57x2 => (intro w hSw; (try dsimp only at hSw); go_simp <;> with_reducible rfl)
 (try simp only [Act.put, qd, qe, qf])
 refine wpAnyH_take (i := 3) (oi := ?oiHat59x3) (v := ?vHat59x3) ?hoHat59x3 ?h1Hat59x3 ?h2Hat59x3 ?h3Hat59x3 ?hqHat59x3 (Or.inl ⟨?h4Hat59x3, ?hyHat59x3⟩) (by assumption) ?restHat59x3
 case hoHat59x3 => (simp only [qa, qb, qc]; rfl)
 case h1Hat59x3 => kernel_rfl
 case h2Hat59x3 => kernel_rfl
 case h3Hat59x3 => kernel_rfl
 case h4Hat59x3 => rfl
 case hqHat59x3 => exact fun _ _ _ h => h
 case hyHat59x3 => (intro w hSw; (try dsimp only at hSw); go_simp <;> with_reducible rfl)
 (try simp only [Act.put, qd, qe, qf])
 refine wpAnyH_take (i := 4) (oi := ?oiHat61x4) (v := ?vHat61x4) ?hoHat61x4 ?h1Hat61x4 ?h2Hat61x4 ?h3Hat61x4 ?hqHat61x4 (Or.inl ⟨?h4Hat61x4, ?hyHat61x4⟩) (by assumption) ?restHat61x4
 case hoHat61x4 => (simp only [qa, qb, qc]; rfl)
 case h1Hat61x4 => kernel_rfl
 case h2Hat61x4 => kernel_rfl
 case h3Hat61x4 => kernel_rfl
 case h4Hat61x4 => rfl
 case hqHat61x4 => exact fun _ _ _ h => h
 case hyHat61x4 => (intro w hSw; (try dsimp only at hSw); go_simp <;> with_reducible rfl)
 (try simp only [Act.put, qd, qe, qf])
 refine wpAnyH_take (i := 5) (oi := ?oiHat63x5) (v := ?vHat63x5) ?hoHat63x5 ?h1Hat63x5 ?h2Hat63x5 ?h3Hat63x5 ?hqHat63x5 (Or.inl ⟨?h4Hat63x5, ?hyHat63x5⟩) (by assumption) ?restHat63x5
 case hoHat63x5 => (simp only [qa, qb, qc]; rfl)
 case h1Hat63x5 => kernel_rfl
 case h2Hat63x5 => kernel_rfl
 case h3Hat63x5 => kernel_rfl
 case h4Hat63x5 => rfl
 case hqHat63x5 => exact fun _ _ _ h => h
 case hyHat63x5 => (intro w hSw; (try dsimp only at hSw); go_simp <;> with_reducible rfl)
 (try simp only [Act.put, qd, qe, qf])
 refine wpAnyH_take (i := 6) (oi := ?oiHat65x6) (v := ?vHat65x6) ?hoHat65x6 ?h1Hat65x6 ?h2Hat65x6 ?h3Hat65x6 ?hqHat65x6 (Or.inl ⟨?h4Hat65x6, ?hyHat65x6⟩) (by assumption) ?restHat65x6
 case hoHat65x6 => (simp only [qa, qb, qc]; rfl)
 case h1Hat65x6 => kernel_rfl
 case h2Hat65x6 => kernel_rfl
 case h3Hat65x6 => kernel_rfl
 case h4Hat65x6 => rfl
 case hqHat65x6 => exact fun _ _ _ h => h
 case hyHat65x6 => (intro w hSw; (try dsimp only at hSw); go_simp <;> with_reducible rfl)
 (try simp only [Act.put, qd, qe, qf])
 refine wpAnyH_take (i := 7) (oi := ?oiHat67x7) (v := ?vHat67x7) ?hoHat67x7 ?h1Hat67x7 ?h2Hat67x7 ?h3Hat67x7 ?hqHat67x7 (Or.inl ⟨?h4Hat67x7, ?hyHat67x7⟩) (by assumption) ?restHat67x7
 case hoHat67x7 => (simp only [qa, qb, qc]; rfl)
 case h1Hat67x7 => kernel_rfl
 case h2Hat67x7 => kernel_rfl
 case h3Hat67x7 => kernel_rfl
 case h4Hat67x7 => rfl
 case hqHat67x7 => exact fun _ _ _ h => h
 case hyHat67x7 => (intro w hSw; (try dsimp only at hSw); go_simp <;> with_reducible rfl)
 (try simp only [Act.put, qd, qe, qf])
 refine wpAnyH_take (i := 8) (oi := ?oiHat69x8) (v := ?vHat69x8) ?hoHat69x8 ?h1Hat69x8 ?h2Hat69x8 ?h3Hat69x8 ?hqHat69x8 (Or.inl ⟨?h4Hat69x8, ?hyHat69x8⟩) (by assumption) ?restHat69x8
 case hoHat69x8 => (simp only [qa, qb, qc]; rfl)
 case h1Hat69x8 => kernel_rfl
 case h2Hat69x8 => kernel_rfl
 case h3Hat69x8 => kernel_rfl
 case h4Hat69x8 => rfl
 case hqHat69x8 => exact fun _ _ _ h => h
 case hyHat69x8 => (intro w hSw; (try dsimp only at hSw); go_simp <;> with_reducible rfl)
 (try simp only [Act.put, qd, qe, qf])
 refine wpAnyH_take (i := 9) (oi := ?oiHat71x9) (v := ?vHat71x9) ?hoHat71x9 ?h1Hat71x9 ?h2Hat71x9 ?h3Hat71x9 ?hqHat71x9 (Or.inl ⟨?h4Hat71x9, ?hyHat71x9⟩) (by assumption) ?restHat71x9
 case hoHat71x9 => (simp only [qa, qb, qc]; rfl)
 case h1Hat71x9 => kernel_rfl
 case h2Hat71x9 => kernel_rfl
 case h3Hat71x9 => kernel_rfl
 case h4Hat71x9 => rfl
 case hqHat71x9 => exact fun _ _ _ h => h
 case hyHat71x9 => (intro w hSw; (try dsimp only at hSw); go_simp <;> with_reducible rfl)
 (try simp only [Act.put, qd, qe, qf])
 refine wpAnyH_ready (rs := [10]) (by kernel_rfl) (by simp) ?_
 refine AllReadyH.cons (o := ?oiHaq72) ?hoHaq72 (fun K hK => ?restHaq72) ?moreHaq72
 case moreHaq72 => exact AllReadyH.nil
 case hoHaq72 => (simp only [qa, qb, qc]; rfl)
 go_simp
 refine hwt.mono ?_
 rintro e w1 ⟨v1, rfl, ho1, hB1'⟩
 have hB1 := hbd.trans (hB1'.mono hbd.size)
 obtain ⟨A1, c1, rfl, -, hz1⟩ := own_nums ho1 Hwf.out
 have hle := least_any o.bp o.gp 64 o.Ax o.nx o.cx c.xs st.hs 1 A1 c.nb c1 st.cnt w1 (Hps.out.later hB1) (by omega) hz1
 try go_wp2_with fail
 refine hK.out _ _ ?hSnewHahq72 (fun hHeld => ?restHahq72)
 case hSnewHahq72 => ((try dsimp only); exact HC.out _ hB1)
 clear hK K
 (try simp only [Act.put, qd, qe, qf])
 refine wpAnyH_ready (rs := [11]) (by kernel_rfl) (by simp) ?_
 refine AllReadyH.cons (o := ?oiHaq73) ?hoHaq73 (fun K hK => ?restHaq73) ?moreHaq73
 case moreHaq73 => exact AllReadyH.nil
 case hoHaq73 => (simp only [qa, qb, qc]; rfl)
 go_simp
 refine hle.mono ?_
 rintro e w2 ⟨rfl, hB2⟩
 try go_wp2_with fail
 refine hK.out _ _ ?hSnewHahq73 (fun hHeld => ?restHahq73)
 case hSnewHahq73 => ((try dsimp only); exact HC.out _ (hB1.trans (hB2.mono hB1.size)))
 clear hK K
 (try simp only [Act.put, qd, qe, qf])
 refine wpAnyH_take (i := 12) (oi := ?oiHat75x12) (v := ?vHat75x12) ?hoHat75x12 ?h1Hat75x12 ?h2Hat75x12 ?h3Hat75x12 ?hqHat75x12 (Or.inl ⟨?h4Hat75x12, ?hyHat75x12⟩) (by assumption) ?restHat75x12
 case hoHat75x12 => (simp only [qa, qb, qc]; rfl)
 case h1Hat75x12 => kernel_rfl
 case h2Hat75x12 => kernel_rfl
 case h3Hat75x12 => kernel_rfl
 case h4Hat75x12 => rfl
 case hqHat75x12 => exact fun _ _ _ h => h
 case hyHat75x12 => (intro w hSw; (try dsimp only at hSw); go_simp <;> with_reducible rfl)
 (try simp only [Act.put, qd, qe, qf])
 refine wpAnyH_take (i := 13) (oi := ?oiHat77x13) (v := ?vHat77x13) ?hoHat77x13 ?h1Hat77x13 ?h2Hat77x13 ?h3Hat77x13 ?hqHat77x13 (Or.inl ⟨?h4Hat77x13, ?hyHat77x13⟩) (by assumption) ?restHat77x13
 case hoHat77x13 => (simp only [qa, qb, qc]; rfl)
 case h1Hat77x13 => kernel_rfl
 case h2Hat77x13 => kernel_rfl
 case h3Hat77x13 => kernel_rfl
 case h4Hat77x13 => rfl
 case hqHat77x13 => exact fun _ _ _ h => h
 case hyHat77x13 => (intro w hSw; (try dsimp only at hSw); go_simp <;> with_reducible rfl)
 (try simp only [Act.put, qd, qe, qf])
 refine wpAnyH_take (i := 14) (oi := ?oiHat79x14) (v := ?vHat79x14) ?hoHat79x14 ?h1Hat79x14 ?h2Hat79x14 ?h3Hat79x14 ?hqHat79x14 (Or.inl ⟨?h4Hat79x14, ?hyHat79x14⟩) (by assumption) ?restHat79x14
 case hoHat79x14 => (simp only [qa, qb, qc]; rfl)
 case h1Hat79x14 => kernel_rfl
 case h2Hat79x14 => kernel_rfl
 case h3Hat79x14 => kernel_rfl
 case h4Hat79x14 => rfl
 case hqHat79x14 => exact fun _ _ _ h => h
 case hyHat79x14 => (intro w hSw; (try dsimp only at hSw); go_simp <;> with_reducible rfl)
 (try simp only [Act.put, qd, qe, qf])
 refine wpAnyH_take (i := 15) (oi := ?oiHat81x15) (v := ?vHat81x15) ?hoHat81x15 ?h1Hat81x15 ?h2Hat81x15 ?h3Hat81x15 ?hqHat81x15 (Or.inl ⟨?h4Hat81x15, ?hyHat81x15⟩) (by assumption) ?restHat81x15
 case hoHat81x15 => (simp only [qa, qb, qc]; rfl)
 case h1Hat81x15 => kernel_rfl
 case h2Hat81x15 => kernel_rfl
 case h3Hat81x15 => kernel_rfl
 case h4Hat81x15 => rfl
 case hqHat81x15 => exact fun _ _ _ h => h
 case hyHat81x15 => (intro w hSw; (try dsimp only at hSw); go_simp <;> with_reducible rfl)
 (try simp only [Act.put, qd, qe, qf])
 refine wpAnyH_take (i := 16) (oi := ?oiHat83x16) (v := ?vHat83x16) ?hoHat83x16 ?h1Hat83x16 ?h2Hat83x16 ?h3Hat83x16 ?hqHat83x16 (Or.inl ⟨?h4Hat83x16, ?hyHat83x16⟩) (by assumption) ?restHat83x16
 case hoHat83x16 => (simp only [qa, qb, qc]; rfl)
 case h1Hat83x16 => kernel_rfl
 case h2Hat83x16 => kernel_rfl
 case h3Hat83x16 => kernel_rfl
 case h4Hat83x16 => rfl
 case hqHat83x16 => exact fun _ _ _ h => h
 case hyHat83x16 => (intro w hSw; (try dsimp only at hSw); go_simp <;> with_reducible rfl)
 (try simp only [Act.put, qd, qe, qf])
 refine wpAnyH_done (by kernel_rfl) ?_ _
 have HB2 := hid (hB1.trans (hB2.mono hB1.size))
 clear hwt hle ho1 hz1 hB1' hB1 hB2 HC hHeld Hwf hbd
 have H2 := hid (H.out.later HB2.out)
 cases best with
 | none =>
  have HR0 := hid (show R = (st, 10) by
   have := HR.out
   unfold collectG at this
   rw [Hbe.out] at this
   injection this with this
   exact this.symm)
  clear hbest hbe
  go_wp2
  go_ret
  rw [HR0.out]
  exact ⟨rfl, H2.out, Hw.out⟩
 | some v =>
  obtain ⟨hvx, -⟩ := hbest.1 v rfl
  obtain ⟨v, rfl, hv2, hvn⟩ := xs_nat hvx
  have hv64 : v < 64 := by omega
  obtain ⟨cv, hcv⟩ : ∃ x, st.cn v = x := ⟨_, rfl⟩
  have hct := count_run H2.out v hvn
  rw [hcv] at hct
  have Hcv := hid hcv
  obtain ⟨k0, k1, k2, k3, k4, k5, k6, k7, k8⟩ := H2.out.ft.cells
  clear hbest hbe hvx hcv
  go_wp2_with fail
  refine hct.mono ?_
  rintro e w3 ⟨rfl, rfl⟩
  clear hct
  have HRs := hid (show (if cv = 0 then some (eraseF c st v) else colT c n v st (freeF c st)) = some R by
   have := HR.out
   unfold collectG at this
   rw [Hbe.out] at this
   have this : (if st.cn v = 0 then some (eraseF c st v) else colT c n v st (freeF c st)) = some R := this
   rw [Hcv.out] at this
   exact this)
  by_cases hc0 : cv = 0
  ·have HR0 := hid (show R = eraseF c st v by
    have := HRs.out
    rw [if_pos hc0] at this
    injection this with this
    exact this.symm)
   subst hc0
   have her := erase_run H2.out v hv64
   have Hfw := hid (Hw.out.erase v hvn (by rw [Hcv.out]; exact Int.le_refl _))
   clear k0 k1 k2 k3 k4 k5 k6 k7 k8 HRs
   go_wp2_with fail
   refine her.mono ?_
   rintro e w4 ⟨rfl, h4⟩
   have H4 := hid h4
   clear her h4
   go_wp2
   go_ret
   rw [HR0.out]
   exact ⟨rfl, H4.out, Hfw.out⟩
  ·have hcb : (cv == 0) = false := by rw [beq_eq_false_iff_ne]; exact hc0
   have hfr := free_any H2.out Hw.out
   obtain ⟨fd, hfd⟩ : ∃ x, freeF c st = x := ⟨_, rfl⟩
   rw [hfd] at hfr
   have Hfd := hid hfd
   have HRs2 := hid (show colT c n v st fd = some R by
    have := HRs.out
    rw [if_neg hc0, hfd] at this
    exact this)
   have Hc0 := hid hc0
   clear HRs hfd hc0 k0 k1 k2 k3 k4 k5 k6 k7 k8
   go_wp2_with fail
   refine hfr.mono ?_
   rintro e w4 ⟨rfl, hB4⟩
   have H4 := hid (H2.out.later hB4)
   have HC7 : w4.cell? ⟨o.bf, 6, none⟩ = some (.pointer (some ⟨o.bm, 0, none⟩)) ∧ w4.cell? ⟨o.bf, 2, none⟩ = some (.int .i64 (c.np : Int)) := ⟨H4.out.ft.f.cell 6, H4.out.ft.f.cell 2⟩
   clear hfr hB4
   cases fd with
   | none =>
    have HR0 := hid (show R = (st, 10) by
     have := HRs2.out
     injection this with this
     exact this.symm)
    clear HRs2
    go_upto_region 7 with (fail)
    refine wp_region_held_drew (S := (fun w' => w'.cell? ⟨o.bf, 6, none⟩ = some (.pointer (some ⟨o.bm, 0, none⟩)) ∧ w'.cell? ⟨o.bf, 2, none⟩ = some (.int .i64 (c.np : Int)))) (by kernel_rfl) ?hSnewHbz (fun hHeld => ?restHbz)
    case hSnewHbz => ((try dsimp only); exact HC7)
    refine wpAnyH_take (i := 0) (oi := ?oiHbt85x0) (v := ?vHbt85x0) ?hoHbt85x0 ?h1Hbt85x0 ?h2Hbt85x0 ?h3Hbt85x0 ?hqHbt85x0 (Or.inl ⟨?h4Hbt85x0, ?hyHbt85x0⟩) (by assumption) ?restHbt85x0
    case hoHbt85x0 => (simp only [qa, qb, qc]; rfl)
    case h1Hbt85x0 => kernel_rfl
    case h2Hbt85x0 => kernel_rfl
    case h3Hbt85x0 => kernel_rfl
    case h4Hbt85x0 => rfl
    case hqHbt85x0 => exact fun _ _ _ h => h
    case hyHbt85x0 => (intro w hSw; (try dsimp only at hSw); go_simp <;> with_reducible rfl)
    (try simp only [Act.put, qd, qe, qf])
    refine wpAnyH_take (i := 1) (oi := ?oiHbt87x1) (v := ?vHbt87x1) ?hoHbt87x1 ?h1Hbt87x1 ?h2Hbt87x1 ?h3Hbt87x1 ?hqHbt87x1 (Or.inl ⟨?h4Hbt87x1, ?hyHbt87x1⟩) (by assumption) ?restHbt87x1
    case hoHbt87x1 => (simp only [qa, qb, qc]; rfl)
    case h1Hbt87x1 => kernel_rfl
    case h2Hbt87x1 => kernel_rfl
    case h3Hbt87x1 => kernel_rfl
    case h4Hbt87x1 => rfl
    case hqHbt87x1 => exact fun _ _ _ h => h
    case hyHbt87x1 => (intro w hSw; (try dsimp only at hSw); go_simp <;> with_reducible rfl)
    (try simp only [Act.put, qd, qe, qf])
    refine wpAnyH_take (i := 2) (oi := ?oiHbt89x2) (v := ?vHbt89x2) ?hoHbt89x2 ?h1Hbt89x2 ?h2Hbt89x2 ?h3Hbt89x2 ?hqHbt89x2 (Or.inl ⟨?h4Hbt89x2, ?hyHbt89x2⟩) (by assumption) ?restHbt89x2
    case hoHbt89x2 => (simp only [qa, qb, qc]; rfl)
    case h1Hbt89x2 => kernel_rfl
    case h2Hbt89x2 => kernel_rfl
    case h3Hbt89x2 => kernel_rfl
    case h4Hbt89x2 => rfl
    case hqHbt89x2 => exact fun _ _ _ h => h
    case hyHbt89x2 => (intro w hSw; (try dsimp only at hSw); go_simp <;> with_reducible rfl)
    (try simp only [Act.put, qd, qe, qf])
    refine wpAnyH_take (i := 3) (oi := ?oiHbt90k3) (v := undef) ?hoHbt90k3 ?h1Hbt90k3 ?h2Hbt90k3 ?h3Hbt90k3 ?hqHbt90k3 (Or.inr ⟨?h4Hbt90k3, rfl⟩) (by assumption) ?restHbt90k3
    case hoHbt90k3 => (simp only [qa, qb, qc]; rfl)
    case h1Hbt90k3 => kernel_rfl
    case h2Hbt90k3 => kernel_rfl
    case h3Hbt90k3 => kernel_rfl
    case h4Hbt90k3 => rfl
    case hqHbt90k3 => exact fun _ _ _ h => h
    (try simp only [Act.put, qd, qe, qf])
    refine wpAnyH_take (i := 4) (oi := ?oiHbt91k4) (v := undef) ?hoHbt91k4 ?h1Hbt91k4 ?h2Hbt91k4 ?h3Hbt91k4 ?hqHbt91k4 (Or.inr ⟨?h4Hbt91k4, rfl⟩) (by assumption) ?restHbt91k4
    case hoHbt91k4 => (simp only [qa, qb, qc]; rfl)
    case h1Hbt91k4 => kernel_rfl
    case h2Hbt91k4 => kernel_rfl
    case h3Hbt91k4 => kernel_rfl
    case h4Hbt91k4 => rfl
    case hqHbt91k4 => exact fun _ _ _ h => h
    (try simp only [Act.put, qd, qe, qf])
    refine wpAnyH_take (i := 5) (oi := ?oiHbt92k5) (v := undef) ?hoHbt92k5 ?h1Hbt92k5 ?h2Hbt92k5 ?h3Hbt92k5 ?hqHbt92k5 (Or.inr ⟨?h4Hbt92k5, rfl⟩) (by assumption) ?restHbt92k5
    case hoHbt92k5 => (simp only [qa, qb, qc]; rfl)
    case h1Hbt92k5 => kernel_rfl
    case h2Hbt92k5 => kernel_rfl
    case h3Hbt92k5 => kernel_rfl
    case h4Hbt92k5 => rfl
    case hqHbt92k5 => exact fun _ _ _ h => h
    (try simp only [Act.put, qd, qe, qf])
    refine wpAnyH_take (i := 6) (oi := ?oiHbt93k6) (v := undef) ?hoHbt93k6 ?h1Hbt93k6 ?h2Hbt93k6 ?h3Hbt93k6 ?hqHbt93k6 (Or.inr ⟨?h4Hbt93k6, rfl⟩) (by assumption) ?restHbt93k6
    case hoHbt93k6 => (simp only [qa, qb, qc]; rfl)
    case h1Hbt93k6 => kernel_rfl
    case h2Hbt93k6 => kernel_rfl
    case h3Hbt93k6 => kernel_rfl
    case h4Hbt93k6 => rfl
    case hqHbt93k6 => exact fun _ _ _ h => h
    (try simp only [Act.put, qd, qe, qf])
    refine wpAnyH_take (i := 7) (oi := ?oiHbt94k7) (v := undef) ?hoHbt94k7 ?h1Hbt94k7 ?h2Hbt94k7 ?h3Hbt94k7 ?hqHbt94k7 (Or.inr ⟨?h4Hbt94k7, rfl⟩) (by assumption) ?restHbt94k7
    case hoHbt94k7 => (simp only [qa, qb, qc]; rfl)
    case h1Hbt94k7 => kernel_rfl
    case h2Hbt94k7 => kernel_rfl
    case h3Hbt94k7 => kernel_rfl
    case h4Hbt94k7 => rfl
    case hqHbt94k7 => exact fun _ _ _ h => h
    (try simp only [Act.put, qd, qe, qf])
    refine wpAnyH_take (i := 8) (oi := ?oiHbt95k8) (v := undef) ?hoHbt95k8 ?h1Hbt95k8 ?h2Hbt95k8 ?h3Hbt95k8 ?hqHbt95k8 (Or.inr ⟨?h4Hbt95k8, rfl⟩) (by assumption) ?restHbt95k8
    case hoHbt95k8 => (simp only [qa, qb, qc]; rfl)
    case h1Hbt95k8 => kernel_rfl
    case h2Hbt95k8 => kernel_rfl
    case h3Hbt95k8 => kernel_rfl
    case h4Hbt95k8 => rfl
    case hqHbt95k8 => exact fun _ _ _ h => h
    (try simp only [Act.put, qd, qe, qf])
    refine wpAnyH_take (i := 9) (oi := ?oiHbt96k9) (v := undef) ?hoHbt96k9 ?h1Hbt96k9 ?h2Hbt96k9 ?h3Hbt96k9 ?hqHbt96k9 (Or.inr ⟨?h4Hbt96k9, rfl⟩) (by assumption) ?restHbt96k9
    case hoHbt96k9 => (simp only [qa, qb, qc]; rfl)
    case h1Hbt96k9 => kernel_rfl
    case h2Hbt96k9 => kernel_rfl
    case h3Hbt96k9 => kernel_rfl
    case h4Hbt96k9 => rfl
    case hqHbt96k9 => exact fun _ _ _ h => h
    (try simp only [Act.put, qd, qe, qf])
    refine wpAnyH_take (i := 10) (oi := ?oiHbt97k10) (v := undef) ?hoHbt97k10 ?h1Hbt97k10 ?h2Hbt97k10 ?h3Hbt97k10 ?hqHbt97k10 (Or.inr ⟨?h4Hbt97k10, rfl⟩) (by assumption) ?restHbt97k10
    case hoHbt97k10 => (simp only [qa, qb, qc]; rfl)
    case h1Hbt97k10 => kernel_rfl
    case h2Hbt97k10 => kernel_rfl
    case h3Hbt97k10 => kernel_rfl
    case h4Hbt97k10 => rfl
    case hqHbt97k10 => exact fun _ _ _ h => h
    (try simp only [Act.put, qd, qe, qf])
    refine wpAnyH_take (i := 11) (oi := ?oiHbt98k11) (v := undef) ?hoHbt98k11 ?h1Hbt98k11 ?h2Hbt98k11 ?h3Hbt98k11 ?hqHbt98k11 (Or.inr ⟨?h4Hbt98k11, rfl⟩) (by assumption) ?restHbt98k11
    case hoHbt98k11 => (simp only [qa, qb, qc]; rfl)
    case h1Hbt98k11 => kernel_rfl
    case h2Hbt98k11 => kernel_rfl
    case h3Hbt98k11 => kernel_rfl
    case h4Hbt98k11 => rfl
    case hqHbt98k11 => exact fun _ _ _ h => h
    (try simp only [Act.put, qd, qe, qf])
    refine wpAnyH_take (i := 12) (oi := ?oiHbt99k12) (v := undef) ?hoHbt99k12 ?h1Hbt99k12 ?h2Hbt99k12 ?h3Hbt99k12 ?hqHbt99k12 (Or.inr ⟨?h4Hbt99k12, rfl⟩) (by assumption) ?restHbt99k12
    case hoHbt99k12 => (simp only [qa, qb, qc]; rfl)
    case h1Hbt99k12 => kernel_rfl
    case h2Hbt99k12 => kernel_rfl
    case h3Hbt99k12 => kernel_rfl
    case h4Hbt99k12 => rfl
    case hqHbt99k12 => exact fun _ _ _ h => h
    (try simp only [Act.put, qd, qe, qf])
    refine wpAnyH_take (i := 13) (oi := ?oiHbt100k13) (v := undef) ?hoHbt100k13 ?h1Hbt100k13 ?h2Hbt100k13 ?h3Hbt100k13 ?hqHbt100k13 (Or.inr ⟨?h4Hbt100k13, rfl⟩) (by assumption) ?restHbt100k13
    case hoHbt100k13 => (simp only [qa, qb, qc]; rfl)
    case h1Hbt100k13 => kernel_rfl
    case h2Hbt100k13 => kernel_rfl
    case h3Hbt100k13 => kernel_rfl
    case h4Hbt100k13 => rfl
    case hqHbt100k13 => exact fun _ _ _ h => h
    (try simp only [Act.put, qd, qe, qf])
    refine wpAnyH_take (i := 14) (oi := ?oiHbt101k14) (v := undef) ?hoHbt101k14 ?h1Hbt101k14 ?h2Hbt101k14 ?h3Hbt101k14 ?hqHbt101k14 (Or.inr ⟨?h4Hbt101k14, rfl⟩) (by assumption) ?restHbt101k14
    case hoHbt101k14 => (simp only [qa, qb, qc]; rfl)
    case h1Hbt101k14 => kernel_rfl
    case h2Hbt101k14 => kernel_rfl
    case h3Hbt101k14 => kernel_rfl
    case h4Hbt101k14 => rfl
    case hqHbt101k14 => exact fun _ _ _ h => h
    (try simp only [Act.put, qd, qe, qf])
    refine wpAnyH_take (i := 15) (oi := ?oiHbt103x15) (v := ?vHbt103x15) ?hoHbt103x15 ?h1Hbt103x15 ?h2Hbt103x15 ?h3Hbt103x15 ?hqHbt103x15 (Or.inl ⟨?h4Hbt103x15, ?hyHbt103x15⟩) (by assumption) ?restHbt103x15
    case hoHbt103x15 => (simp only [qa, qb, qc]; rfl)
    case h1Hbt103x15 => kernel_rfl
    case h2Hbt103x15 => kernel_rfl
    case h3Hbt103x15 => kernel_rfl
    case h4Hbt103x15 => rfl
    case hqHbt103x15 => exact fun _ _ _ h => h
    case hyHbt103x15 => (intro w hSw; (try dsimp only at hSw); go_simp <;> with_reducible rfl)
    (try simp only [Act.put, qd, qe, qf])
    refine wpAnyH_done (by kernel_rfl) ?_ _
    have H5 := hid H4.out.drew
    clear HC7 hHeld
    go_wp2
    go_ret
    rw [HR0.out]
    exact ⟨rfl, H5.out, Hw.out⟩
   | some d =>
    have hdx := (bestF_spec st.hs (st.ers c) 0 c.xs Hxe.out).1 d Hfd.out
    obtain ⟨d, rfl, hd2, hdn⟩ := xs_nat hdx.1
    have hct2 := count_run H4.out.drew v hvn
    rw [Hcv.out] at hct2
    clear hdx
    go_upto_region 7 with (fail)
    refine wp_region_held_drew (S := (fun w' => w'.cell? ⟨o.bf, 6, none⟩ = some (.pointer (some ⟨o.bm, 0, none⟩)) ∧ w'.cell? ⟨o.bf, 2, none⟩ = some (.int .i64 (c.np : Int)))) (by kernel_rfl) ?hSnewHcz (fun hHeld => ?restHcz)
    case hSnewHcz => ((try dsimp only); exact HC7)
    refine wpAnyH_take (i := 0) (oi := ?oiHct105x0) (v := ?vHct105x0) ?hoHct105x0 ?h1Hct105x0 ?h2Hct105x0 ?h3Hct105x0 ?hqHct105x0 (Or.inl ⟨?h4Hct105x0, ?hyHct105x0⟩) (by assumption) ?restHct105x0
    case hoHct105x0 => (simp only [qa, qb, qc]; rfl)
    case h1Hct105x0 => kernel_rfl
    case h2Hct105x0 => kernel_rfl
    case h3Hct105x0 => kernel_rfl
    case h4Hct105x0 => rfl
    case hqHct105x0 => exact fun _ _ _ h => h
    case hyHct105x0 => (intro w hSw; (try dsimp only at hSw); go_simp <;> with_reducible rfl)
    (try simp only [Act.put, qd, qe, qf])
    refine wpAnyH_take (i := 1) (oi := ?oiHct107x1) (v := ?vHct107x1) ?hoHct107x1 ?h1Hct107x1 ?h2Hct107x1 ?h3Hct107x1 ?hqHct107x1 (Or.inl ⟨?h4Hct107x1, ?hyHct107x1⟩) (by assumption) ?restHct107x1
    case hoHct107x1 => (simp only [qa, qb, qc]; rfl)
    case h1Hct107x1 => kernel_rfl
    case h2Hct107x1 => kernel_rfl
    case h3Hct107x1 => kernel_rfl
    case h4Hct107x1 => rfl
    case hqHct107x1 => exact fun _ _ _ h => h
    case hyHct107x1 => (intro w hSw; (try dsimp only at hSw); go_simp <;> with_reducible rfl)
    (try simp only [Act.put, qd, qe, qf])
    refine wpAnyH_take (i := 2) (oi := ?oiHct109x2) (v := ?vHct109x2) ?hoHct109x2 ?h1Hct109x2 ?h2Hct109x2 ?h3Hct109x2 ?hqHct109x2 (Or.inl ⟨?h4Hct109x2, ?hyHct109x2⟩) (by assumption) ?restHct109x2
    case hoHct109x2 => (simp only [qa, qb, qc]; rfl)
    case h1Hct109x2 => kernel_rfl
    case h2Hct109x2 => kernel_rfl
    case h3Hct109x2 => kernel_rfl
    case h4Hct109x2 => rfl
    case hqHct109x2 => exact fun _ _ _ h => h
    case hyHct109x2 => (intro w hSw; (try dsimp only at hSw); go_simp <;> with_reducible rfl)
    (try simp only [Act.put, qd, qe, qf])
    refine wpAnyH_take (i := 3) (oi := ?oiHct111x3) (v := ?vHct111x3) ?hoHct111x3 ?h1Hct111x3 ?h2Hct111x3 ?h3Hct111x3 ?hqHct111x3 (Or.inl ⟨?h4Hct111x3, ?hyHct111x3⟩) (by assumption) ?restHct111x3
    case hoHct111x3 => (simp only [qa, qb, qc]; rfl)
    case h1Hct111x3 => kernel_rfl
    case h2Hct111x3 => kernel_rfl
    case h3Hct111x3 => kernel_rfl
    case h4Hct111x3 => rfl
    case hqHct111x3 => exact fun _ _ _ h => h
    case hyHct111x3 => (intro w hSw; (try dsimp only at hSw); go_simp <;> with_reducible rfl)
    (try simp only [Act.put, qd, qe, qf])
    refine wpAnyH_take (i := 4) (oi := ?oiHct113x4) (v := ?vHct113x4) ?hoHct113x4 ?h1Hct113x4 ?h2Hct113x4 ?h3Hct113x4 ?hqHct113x4 (Or.inl ⟨?h4Hct113x4, ?hyHct113x4⟩) (by assumption) ?restHct113x4
    case hoHct113x4 => (simp only [qa, qb, qc]; rfl)
    case h1Hct113x4 => kernel_rfl
    case h2Hct113x4 => kernel_rfl
    case h3Hct113x4 => kernel_rfl
    case h4Hct113x4 => rfl
    case hqHct113x4 => exact fun _ _ _ h => h
    case hyHct113x4 => (intro w hSw; (try dsimp only at hSw); go_simp <;> with_reducible rfl)
    (try simp only [Act.put, qd, qe, qf])
    refine wpAnyH_take (i := 5) (oi := ?oiHct115x5) (v := ?vHct115x5) ?hoHct115x5 ?h1Hct115x5 ?h2Hct115x5 ?h3Hct115x5 ?hqHct115x5 (Or.inl ⟨?h4Hct115x5, ?hyHct115x5⟩) (by assumption) ?restHct115x5
    case hoHct115x5 => (simp only [qa, qb, qc]; rfl)
    case h1Hct115x5 => kernel_rfl
    case h2Hct115x5 => kernel_rfl
    case h3Hct115x5 => kernel_rfl
    case h4Hct115x5 => rfl
    case hqHct115x5 => exact fun _ _ _ h => h
    case hyHct115x5 => (intro w hSw; (try dsimp only at hSw); go_simp <;> with_reducible rfl)
    (try simp only [Act.put, qd, qe, qf])
    refine wpAnyH_take (i := 6) (oi := ?oiHct117x6) (v := ?vHct117x6) ?hoHct117x6 ?h1Hct117x6 ?h2Hct117x6 ?h3Hct117x6 ?hqHct117x6 (Or.inl ⟨?h4Hct117x6, ?hyHct117x6⟩) (by assumption) ?restHct117x6
    case hoHct117x6 => (simp only [qa, qb, qc]; rfl)
    case h1Hct117x6 => kernel_rfl
    case h2Hct117x6 => kernel_rfl
    case h3Hct117x6 => kernel_rfl
    case h4Hct117x6 => rfl
    case hqHct117x6 => exact fun _ _ _ h => h
    case hyHct117x6 => (intro w hSw; (try dsimp only at hSw); go_simp <;> with_reducible rfl)
    (try simp only [Act.put, qd, qe, qf])
    refine wpAnyH_take (i := 7) (oi := ?oiHct119x7) (v := ?vHct119x7) ?hoHct119x7 ?h1Hct119x7 ?h2Hct119x7 ?h3Hct119x7 ?hqHct119x7 (Or.inl ⟨?h4Hct119x7, ?hyHct119x7⟩) (by assumption) ?restHct119x7
    case hoHct119x7 => (simp only [qa, qb, qc]; rfl)
    case h1Hct119x7 => kernel_rfl
    case h2Hct119x7 => kernel_rfl
    case h3Hct119x7 => kernel_rfl
    case h4Hct119x7 => rfl
    case hqHct119x7 => exact fun _ _ _ h => h
    case hyHct119x7 => (intro w hSw; (try dsimp only at hSw); go_simp <;> with_reducible rfl)
    (try simp only [Act.put, qd, qe, qf])
    refine wpAnyH_take (i := 9) (oi := ?oiHct121x9) (v := ?vHct121x9) ?hoHct121x9 ?h1Hct121x9 ?h2Hct121x9 ?h3Hct121x9 ?hqHct121x9 (Or.inl ⟨?h4Hct121x9, ?hyHct121x9⟩) (by assumption) ?restHct121x9
    case hoHct121x9 => (simp only [qa, qb, qc]; rfl)
    case h1Hct121x9 => kernel_rfl
    case h2Hct121x9 => kernel_rfl
    case h3Hct121x9 => kernel_rfl
    case h4Hct121x9 => rfl
    case hqHct121x9 => exact fun _ _ _ h => h
    case hyHct121x9 => (intro w hSw; (try dsimp only at hSw); go_simp <;> with_reducible rfl)
    (try simp only [Act.put, qd, qe, qf])
    refine wpAnyH_take (i := 10) (oi := ?oiHct123x10) (v := ?vHct123x10) ?hoHct123x10 ?h1Hct123x10 ?h2Hct123x10 ?h3Hct123x10 ?hqHct123x10 (Or.inl ⟨?h4Hct123x10, ?hyHct123x10⟩) (by assumption) ?restHct123x10
    case hoHct123x10 => (simp only [qa, qb, qc]; rfl)
    case h1Hct123x10 => kernel_rfl
    case h2Hct123x10 => kernel_rfl
    case h3Hct123x10 => kernel_rfl
    case h4Hct123x10 => rfl
    case hqHct123x10 => exact fun _ _ _ h => h
    case hyHct123x10 => (intro w hSw; (try dsimp only at hSw); go_simp <;> with_reducible rfl)
    (try simp only [Act.put, qd, qe, qf])
    refine wpAnyH_take (i := 11) (oi := ?oiHct125x11) (v := ?vHct125x11) ?hoHct125x11 ?h1Hct125x11 ?h2Hct125x11 ?h3Hct125x11 ?hqHct125x11 (Or.inl ⟨?h4Hct125x11, ?hyHct125x11⟩) (by assumption) ?restHct125x11
    case hoHct125x11 => (simp only [qa, qb, qc]; rfl)
    case h1Hct125x11 => kernel_rfl
    case h2Hct125x11 => kernel_rfl
    case h3Hct125x11 => kernel_rfl
    case h4Hct125x11 => rfl
    case hqHct125x11 => exact fun _ _ _ h => h
    case hyHct125x11 => (intro w hSw; (try dsimp only at hSw); go_simp <;> with_reducible rfl)
    (try simp only [Act.put, qd, qe, qf])
    refine wpAnyH_take (i := 12) (oi := ?oiHct127x12) (v := ?vHct127x12) ?hoHct127x12 ?h1Hct127x12 ?h2Hct127x12 ?h3Hct127x12 ?hqHct127x12 (Or.inl ⟨?h4Hct127x12, ?hyHct127x12⟩) (by assumption) ?restHct127x12
    case hoHct127x12 => (simp only [qa, qb, qc]; rfl)
    case h1Hct127x12 => kernel_rfl
    case h2Hct127x12 => kernel_rfl
    case h3Hct127x12 => kernel_rfl
    case h4Hct127x12 => rfl
    case hqHct127x12 => exact fun _ _ _ h => h
    case hyHct127x12 => (intro w hSw; (try dsimp only at hSw); go_simp <;> with_reducible rfl)
    (try simp only [Act.put, qd, qe, qf])
    refine wpAnyH_take (i := 13) (oi := ?oiHct129x13) (v := ?vHct129x13) ?hoHct129x13 ?h1Hct129x13 ?h2Hct129x13 ?h3Hct129x13 ?hqHct129x13 (Or.inl ⟨?h4Hct129x13, ?hyHct129x13⟩) (by assumption) ?restHct129x13
    case hoHct129x13 => (simp only [qa, qb, qc]; rfl)
    case h1Hct129x13 => kernel_rfl
    case h2Hct129x13 => kernel_rfl
    case h3Hct129x13 => kernel_rfl
    case h4Hct129x13 => rfl
    case hqHct129x13 => exact fun _ _ _ h => h
    case hyHct129x13 => (intro w hSw; (try dsimp only at hSw); go_simp <;> with_reducible rfl)
    (try simp only [Act.put, qd, qe, qf])
    refine wpAnyH_ready (rs := [8]) (by kernel_rfl) (by simp) ?_
    refine AllReadyH.cons (o := ?oiHcq130) ?hoHcq130 (fun K hK => ?restHcq130) ?moreHcq130
    case moreHcq130 => exact AllReadyH.nil
    case hoHcq130 => (simp only [qa, qb, qc]; rfl)
    go_simp
    refine hct2.mono ?_
    rintro e w5 ⟨rfl, rfl⟩
    try go_wp2_with fail
    refine hK.out _ _ ?hSnewHchq130 (fun hHeld => ?restHchq130)
    case hSnewHchq130 => ((try dsimp only); exact HC7)
    clear hK K
    (try simp only [Act.put, qd, qe, qf])
    refine wpAnyH_take (i := 14) (oi := ?oiHct132x14) (v := ?vHct132x14) ?hoHct132x14 ?h1Hct132x14 ?h2Hct132x14 ?h3Hct132x14 ?hqHct132x14 (Or.inl ⟨?h4Hct132x14, ?hyHct132x14⟩) (by assumption) ?restHct132x14
    case hoHct132x14 => (simp only [qa, qb, qc]; rfl)
    case h1Hct132x14 => kernel_rfl
    case h2Hct132x14 => kernel_rfl
    case h3Hct132x14 => kernel_rfl
    case h4Hct132x14 => rfl
    case hqHct132x14 => exact fun _ _ _ h => h
    case hyHct132x14 => (intro w hSw; (try dsimp only at hSw); go_simp <;> with_reducible rfl)
    (try simp only [Act.put, qd, qe, qf])
    refine wpAnyH_take (i := 15) (oi := ?oiHct134x15) (v := ?vHct134x15) ?hoHct134x15 ?h1Hct134x15 ?h2Hct134x15 ?h3Hct134x15 ?hqHct134x15 (Or.inl ⟨?h4Hct134x15, ?hyHct134x15⟩) (by assumption) ?restHct134x15
    case hoHct134x15 => (simp only [qa, qb, qc]; rfl)
    case h1Hct134x15 => kernel_rfl
    case h2Hct134x15 => kernel_rfl
    case h3Hct134x15 => kernel_rfl
    case h4Hct134x15 => rfl
    case hqHct134x15 => exact fun _ _ _ h => h
    case hyHct134x15 => (intro w hSw; (try dsimp only at hSw); go_simp <;> with_reducible rfl)
    (try simp only [Act.put, qd, qe, qf])
    refine wpAnyH_done (by kernel_rfl) ?_ _
    have H5 := hid H4.out.drew
    clear HC7 hHeld hct2
    by_cases hcnp : cv = c.np
    ·have HR0 := hid (show R = (st, 10) by
      have := HRs2.out
      have this : (if st.cn v = c.np then some (st, 10) else colEnd c v (copyL c v n st d)) = some R := this
      rw [Hcv.out, if_pos hcnp] at this
      injection this with this
      exact this.symm)
     have hcnb : (cv == (c.np : Int)) = true := by rw [beq_iff_eq]; exact hcnp
     clear HRs2 hcnp
     go_wp2
     go_ret
     rw [HR0.out]
     exact ⟨rfl, H5.out, Hw.out⟩
    ·have hcnb : (cv == (c.np : Int)) = false := by rw [beq_eq_false_iff_ne]; exact hcnp
     have HRs3 := hid (show colEnd c v (copyL c v n st d) = some R by
      have := HRs2.out
      have this : (if st.cn v = c.np then some (st, 10) else colEnd c v (copyL c v n st d)) = some R := this
      rw [Hcv.out, if_neg hcnp] at this
      exact this)
     clear HRs2 hcnp
     obtain ⟨r, hr⟩ : ∃ r, copyL c v n st d = some r := by
      cases hh : copyL c v n st d with
      | none =>
       have := HRs3.out
       rw [hh] at this
       cases this
      | some r => exact ⟨r, rfl⟩
     have HRe := hid (show colEnd c v (some r) = some R by rw [← hr]; exact HRs3.out)
     have Hr := hid hr
     clear HRs3 hr
     simp only [hcnb]
     go_wp2
     go_loopw [5] (fun x w' => ∃ k, CopyRel c o F Q V w0 v r x w' k) (fun x w' => lst (CopyRel c o F Q V w0 v r x w'))
     case atStart => exact ⟨n, st, d, rfl, hdn, Hr.out, Hw.out, H5.out⟩
     case round =>
      clear H5 H4 H2 Hr H Hw Hps HB2 Hbe Hfd Hxe HR Hcv Hc0
      obtain ⟨k1, hk1⟩ : ∃ k, lst (CopyRel c o F Q V w0 v r u5 wr) = k := ⟨_, rfl⟩
      have hrel1 := lst_spec hrel
      rw [hk1] at hrel1
      obtain ⟨st1, d1, rfl, hd1, hl1, hw1, h1⟩ := hrel1
      have Hk1 := hid hk1
      clear hrel hk1
      cases k1 with
      | zero => cases hl1
      | succ k =>
      have hct := count_run h1 v hvn
      obtain ⟨k0, k1, k2, k3, k4, k5, k6, k7, k8⟩ := h1.ft.cells
      obtain ⟨cv1, hcv1⟩ : ∃ x, st1.cn v = x := ⟨_, rfl⟩
      rw [hcv1] at hct
      by_cases hcp : cv1 ≤ 0
      ·have hr0 : r = (st1, 0, d1) := by
        rw [copyL_zero (by rw [hcv1]; exact hcp)] at hl1
        injection hl1 with hl1
        exact hl1.symm
       have HRx := hid (show (if (eraseF c st1 v).2 ≠ 0 then some (eraseF c st1 v) else some ((eraseF c st1 v).1.how c d1 2, 0)) = some R by
        have := HRe.out
        rw [hr0] at this
        have this : (if (0 : Int) ≠ 0 then some (st1, (0 : Int)) else if (eraseF c st1 v).2 ≠ 0 then some (eraseF c st1 v) else some ((eraseF c st1 v).1.how c d1 2, 0)) = some R := this
        rw [if_neg (by simp)] at this
        exact this)
       have her := erase_run h1 v hv64
       have Hfw := hid (hw1.erase v hvn (by rw [hcv1]; exact hcp))
       have hd64 : d1 < 64 := by omega
       obtain ⟨R2, hR2⟩ : ∃ x, eraseF c st1 v = x := ⟨_, rfl⟩
       rw [hR2] at her HRx Hfw
       clear hr0 HRe hw1 h1 hcv1 hR2 hl1
       go_wp2_with fail
       refine hct.mono ?_
       rintro e w5 ⟨rfl, rfl⟩
       clear hct k0 k1 k2 k3 k4 k5 k6 k7 k8
       go_wp2_with fail
       refine her.mono ?_
       rintro e w6 ⟨rfl, h6⟩
       clear her
       obtain ⟨st2, z2⟩ := R2
       have HR0 := hid (show (z2 ≠ 0 → R = (st2, z2)) ∧ (z2 = 0 → R = (st2.how c d1 2, 0)) from by
        have := HRx.out
        have this : (if z2 ≠ 0 then some (st2, z2) else some (st2.how c d1 2, 0)) = some R := this
        refine ⟨fun h => ?_, fun h => ?_⟩
        ·rw [if_pos h] at this
         injection this with this
         exact this.symm
        ·rw [if_neg (by simp [h])] at this
         injection this with this
         exact this.symm)
       clear HRx
       by_cases hz0 : z2 = 0
       ·have HR1 := hid (HR0.out.2 hz0)
        subst hz0
        have hs : Calls Try.prog 40 #[.pointer (some ⟨o.bp, 0, none⟩), .int .i64 (d1 : Int), .int .u8 2] w6 fun e w' => (∃ r, e = .returned (.int .i64 r)) ∧ FR c o F Q V w0 w' (st2.how c d1 2) := how_run h6 d1 2 hd64 (by omega)
        have k7 : w6.cell? ⟨o.bf, 7, none⟩ = some (.pointer (some ⟨o.bp, 0, none⟩)) := h6.ft.f.cell 7
        clear h6 HR0
        go_wp2_with fail
        refine hs.mono ?_
        rintro e w7 ⟨⟨q, rfl⟩, h7⟩
        have H7 := hid h7
        clear hs h7 k7
        go_wp2
        go_ret
        rw [HR1.out]
        exact ⟨rfl, H7.out, Hfw.out.how d1 2⟩
       ·have HR1 := hid (HR0.out.1 hz0)
        have hzb : (z2 == 0) = false := by rw [beq_eq_false_iff_ne]; exact hz0
        have H6 := hid h6
        clear h6 HR0 hz0
        go_wp2
        go_ret
        rw [HR1.out]
        exact ⟨rfl, H6.out, Hfw.out⟩
      ·have hcp' : (0 : Int) < cv1 := by omega
       have hcne : st1.cn v ≠ 0 := by rw [hcv1]; omega
       obtain ⟨a, haM, hah, hag, haa, hab⟩ := on_head (st := st1) hw1.pi v hvn hcne
       obtain ⟨p, R2, hrdF, hpa, hs1, hR2, hcase⟩ := copyL_step (by rw [hcv1]; exact hcp) hl1
       rw [hah, Int.toNat_natCast] at hrdF hR2 hpa
       have hrd := (rdF_rd hrdF).2
       have hpf := hrd.form (by omega)
       have hon := on_run h1 hw1.pi v hvn hcne
       have Hpg := hid (fun (W : World) (hW : Below wr.heap.size wr W) => page_run (h1.later hW) a haM p hrd)
       have H1 := hid h1
       have Hw1 := hid hw1
       have Hcase := hid hcase
       have HR2 := hid hR2
       have Hpf := hid hpf
       have Hag := hid hag
       have Hpa := hid hpa
       clear h1 hw1 hcase hpa hR2 hpf hrd hrdF hah hag haa hab hcv1 hcne hl1 hcp
       go_wp2_with fail
       refine hct.mono ?_
       rintro e w5 ⟨rfl, rfl⟩
       clear hct
       go_wp2_with fail
       refine hon.mono ?_
       rintro e w6 ⟨A6, n6, c6, rfl, hz6, hn6, hB6⟩
       clear hon
       obtain ⟨b6, o6, rfl, hc6⟩ := hz6.at_ 0 hn6
       rw [Hag.out, Nat.add_zero] at hc6
       have hn6I : (0 : Int) < (n6 : Int) := by omega
       have hpg := Hpg.out w6 hB6
       clear k0 k1 k2 k3 k4 k5 k6 k7 k8 hz6
       go_wp2_with fail
       refine hpg.mono ?_
       rintro e w7 ⟨A7, n7, c7, rfl, hz7, hB7, hlo7⟩
       clear hpg Hpg hc6
       go_upto_region 12 with (fail)
       have H7 := hid (H1.out.later (hB6.trans (hB7.mono hB6.size)))
       have Hmut := hid (show 0 < n7 → ∀ ad, A7 = some ad → ¬ o.mut ad.block from fun hn ad he hm => by
        have h1 := hlo7 hn ad he
        have h2 := H1.out.low ad.block (.inl hm)
        have h3 := hB6.size
        omega)
       generalize hw8 : w7.alloc _ = w8
       obtain ⟨gs, hgs⟩ : ∃ x, w7.heap.size = x := ⟨_, rfl⟩
       rw [hgs]
       have hb8 : Blk w8 gs #[.int .u8 (p.K : Int), .int .u64 (p.E : Int), .int .u64 (p.S : Int), .int .i64 (p.a : Int), .int .i64 ((p.f : Int) - 1), .slice A7 n7 c7] 85 := by rw [← hw8, ← hgs]; exact Blk.new _ _ _
       have hB78 : Below w7.heap.size w7 w8 := by rw [← hw8]; exact (Below.refl _ _).alloc (Nat.le_refl _) _
       have H8 := hid (H7.out.more (Q' := fun g => Q g ∨ g = gs) hB78 (fun g hg => hg.imp id (fun e => ⟨by omega, by have := hb8.lt; omega⟩)) (fun g hg => .inl hg))
       have HB8 := hid hB78
       have Hgs := hid hgs
       have Hz7 := hid hz7
       clear hw8 hB7 hB6 hB78 hgs hz7 hlo7 H1
       have kc4 := hb8.cell 4
       have kf4 := hb8.free 4
       have Hb8 := hid hb8
       clear hb8
       go_upto_region 14 with (fail)
       go_upto_region 15 with (fail)
       generalize hw9 : World.setCell w8 _ _ = w9
       have hb9 : Blk w9 gs #[.int .u8 (p.K : Int), .int .u64 (p.E : Int), .int .u64 (p.S : Int), .int .i64 (p.a : Int), .int .i64 (v : Int), .slice A7 n7 c7] 85 := by rw [← hw9]; exact Hb8.out.set 4 _
       have HB9 := hid (show Below w7.heap.size w7 w9 by rw [← hw9]; exact HB8.out.setCell (Nat.le_of_eq Hgs.out) _)
       have H9 := H8.out.mine (w2 := w9) (by rw [← hw9]; exact (Scan.fr_set w8 gs 4 _).mono (fun g _ e => .inr e))
       have hform : formN p.K c.ep (st1.seq + 1) a (v + 1) p.ys := by
        obtain ⟨f1, f2, f3, f4, f5, f6, f7, f8, f9⟩ := Hpf.out
        exact ⟨f1, f2, hep, by omega, by omega, by omega, f7, f8, f9⟩
       have hpr := program_run H9 Hw1.out d1 hd1 p.K a (v + 1) p.ys (p.E : Int) (p.S : Int) (v : Int) A7 n7 c7 (Hz7.out.below HB9.out) Hmut.out hform haM (by omega)
       have Hw2 := hid (Hw1.out.program d1 hd1 hgb.2.2.2.1 p.K a (v + 1) p.ys haM)
       have Hsq := hid (programF_seq c st1 d1 p.K a (v + 1) p.ys)
       rw [HR2.out] at hpr Hw2 Hsq
       rw [← Hpa.out] at hpr
       obtain ⟨st2, z2⟩ := R2
       dsimp only at hpr Hw2 Hsq Hcase
       obtain ⟨⟨x0, x1, x2, x3, x4, x5⟩, -⟩ := hb9.six
       have Hs1 := hid hs1
       clear hw9 hb9 H9 hform kc4 kf4 Hb8 HB8 HR2 Hpf Hag Hw1 Hmut Hz7 hs1
       go_wp2_with fail
       refine hpr.mono ?_
       rintro e w10 ⟨rfl, h10⟩
       have h11 : FR c o F Q V w0 w10 st2 := h10.back (fun g hg => ⟨.inl hg, by
        have k1 := H7.out.mineQ g hg
        exact (HB9.out.block g k1.2.1).trans k1.2.2⟩) (fun g hg => by
        rcases hg with hg | hg
        ·exact .inl hg
        ·have k1 := H7.out.size
         have k2 := Hgs.out
         exact .inr (by omega))
       have H11 := hid h11
       clear hpr h10 h11 H7 H8 HB9 Hgs x0 x1 x2 x3 x4 x5
       by_cases h8 : z2 = 8
       ·subst h8
        have hfr := free_any H11.out Hw2.out
        obtain ⟨fd, hfd⟩ : ∃ x, freeF c st2 = x := ⟨_, rfl⟩
        rw [hfd] at hfr
        have Hfd := hid hfd
        have hc8 : (fd = none ∧ r = (st2, 10, d1)) ∨ ∃ d', fd = some d' ∧ copyL c v k st2 d'.toNat = some r := by
         rcases Hcase.out with ⟨-, h⟩ | ⟨h, -⟩ | ⟨h, -⟩
         ·rw [hfd] at h
          exact h
         ·exact absurd rfl h
         ·cases h
        have hx := (bestF_spec st2.hs (st2.ers c) 0 c.xs (fun x hx => by have := us_bd hx; unfold FT.ers; simp; omega)).1
        have Hx := hid hx
        have Hc8 := hid hc8
        clear hfd Hcase hc8 hx
        go_wp2_with fail
        refine hfr.mono ?_
        rintro e w12 ⟨rfl, hB12⟩
        have H12 := hid (H11.out.later hB12)
        clear hfr hB12
        cases fd with
        | none =>
         have HR0 := hid (show R = (st2, 10) by
          rcases Hc8.out with ⟨-, h⟩ | ⟨d', h, -⟩
          ·have := HRe.out
           rw [h] at this
           have this : (if (10 : Int) ≠ 0 then some (st2, (10 : Int)) else if (eraseF c st2 v).2 ≠ 0 then some (eraseF c st2 v) else some ((eraseF c st2 v).1.how c d1 2, 0)) = some R := this
           rw [if_pos (by simp)] at this
           injection this with this
           exact this.symm
          ·cases h)
         go_wp2
         go_ret
         rw [HR0.out]
         exact ⟨rfl, H12.out, Hw2.out⟩
        | some d' =>
         obtain ⟨d', rfl, hd2', hdn'⟩ := xs_nat (Hx.out d' Hfd.out).1
         have Hcl := hid (show copyL c v k st2 d' = some r by
          rcases Hc8.out with ⟨h, -⟩ | ⟨e, h, h'⟩
          ·cases h
          ·injection h with h
           rw [← h] at h'
           exact h')
         clear Hc8 Hfd Hx
         go_wp2
         go_roundw
         case rel => exact ⟨k, st2, d', rfl, hdn', Hcl.out, Hw2.out, H12.out⟩
         case measure => exact Nat.lt_of_le_of_lt (lst_le (m := k) (show CopyRel c o F Q V w0 v r _ _ k from ⟨st2, d', rfl, hdn', Hcl.out, Hw2.out, H12.out⟩)) (by rw [Hk1.out]; exact Nat.lt_succ_self k)
       ·have hz8 : (z2 == 8) = false := by rw [beq_eq_false_iff_ne]; exact h8
        by_cases h0 : z2 = 0
        ·subst h0
         have Hcl := hid (show copyL c v k st2 d1 = some r by
          rcases Hcase.out with ⟨h, -⟩ | ⟨-, h, -⟩ | ⟨-, h⟩
          ·cases h
          ·exact absurd rfl h
          ·exact h)
         clear Hcase h8 hz8
         go_wp2
         go_roundw
         case rel => exact ⟨k, st2, d1, rfl, hd1, Hcl.out, Hw2.out, H11.out⟩
         case measure => exact Nat.lt_of_le_of_lt (lst_le (m := k) (show CopyRel c o F Q V w0 v r _ _ k from ⟨st2, d1, rfl, hd1, Hcl.out, Hw2.out, H11.out⟩)) (by rw [Hk1.out]; exact Nat.lt_succ_self k)
        ·have HR0 := hid (show R = (st2, z2) by
          rcases Hcase.out with ⟨h, -⟩ | ⟨-, -, h⟩ | ⟨h, -⟩
          ·exact absurd h h8
          ·have := HRe.out
           rw [h] at this
           have this : (if z2 ≠ 0 then some (st2, z2) else if (eraseF c st2 v).2 ≠ 0 then some (eraseF c st2 v) else some ((eraseF c st2 v).1.how c d1 2, 0)) = some R := this
           rw [if_pos h0] at this
           injection this with this
           exact this.symm
          ·exact absurd h h0)
         have hzb : (z2 == 0) = false := by rw [beq_eq_false_iff_ne]; exact h0
         clear Hcase h8 h0
         go_wp2
         go_ret
         rw [HR0.out]
         exact ⟨rfl, H11.out, Hw2.out⟩
end
end Go.Proofs.Ytpcbpljdiacbmaa.Ftl
