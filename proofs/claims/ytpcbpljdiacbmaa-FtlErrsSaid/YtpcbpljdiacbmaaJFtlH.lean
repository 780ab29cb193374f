import Derived.Test.YtpcbpljdiacbmaaJFtlG
set_option linter.unusedVariables false
set_option linter.unusedSimpArgs false
namespace Go.Proofs.Ytpcbpljdiacbmaa.Ftl
open Go.RowKit Go.Proofs.Ytpcbpljdiacbmaa.Kit Go.Proofs.Ytpcbpljdiacbmaa.Oct Go.Proofs.Ytpcbpljdiacbmaa.Sheet Go.Proofs.Ytpcbpljdiacbmaa.Nand Go.Proofs.Ytpcbpljdiacbmaa.Plan Go.Proofs.Ytpcbpljdiacbmaa.Scan Go.Proofs.Ytpcbpljdiacbmaa.Pmap Go.Proofs.Ytpcbpljdiacbmaa.Pool
section
variable {c : FC} {o : FId} {w w' : World} {st : FT} {F Q : Nat → Prop} {V w0 w1 w2 : World}
theorem nums_blk {w w1 : World} {k : IntKind} {A : Option Addr} {n : Nat} {xs : List Int} (h : Nums w k A n xs) (hb : 0 < n → ∀ a, A = some a → w1.heap[a.block]? = w.heap[a.block]?) : Nums w1 k A n xs :=
 ⟨h.len, h.most, fun j hj => by
  obtain ⟨b, o, e, hc⟩ := h.cell j hj
  exact ⟨b, o, e, fun i hi => by
   have hh := hb (by omega) _ e
   exact (show w1.cell? ⟨b, o + i, none⟩ = w.cell? ⟨b, o + i, none⟩ from World.cell?_of_block (w := w) hh).trans (hc i hi)⟩, h.wf⟩
theorem putG_step {m k n K a : Nat} {ys : List Int} {R : FT × Int} (hR : putG c m k (n + 1) st K a ys = some R) : ∃ r, roomG c m k st = some r ∧ ((r.2.2 ≠ 0 ∧ R = (r.1, r.2.2)) ∨ (r.2.2 = 0 ∧ r.1.seq < 281474976710000 ∧ ∃ r2, programF c r.1 r.2.1 K a 0 ys = r2 ∧ ((r2.2 ≠ 8 ∧ R = r2) ∨ (r2.2 = 8 ∧ putG c m k n r2.1 K a ys = some R)))) := by
 unfold putG at hR
 cases hr : roomG c m k st with
 | none => rw [hr] at hR; cases hR
 | some r =>
  rw [hr] at hR
  simp only at hR
  refine ⟨r, rfl, ?_⟩
  by_cases h0 : r.2.2 = 0
  ·rw [if_neg (by simp [h0])] at hR
   by_cases hs : 281474976710000 ≤ r.1.seq
   ·rw [if_pos hs] at hR
    cases hR
   ·rw [if_neg hs] at hR
    refine .inr ⟨h0, by omega, _, rfl, ?_⟩
    by_cases h8 : (programF c r.1 r.2.1 K a 0 ys).2 = 8
    ·rw [if_neg (by simp [h8])] at hR
     exact .inr ⟨h8, hR⟩
    ·rw [if_pos h8] at hR
     injection hR with hR
     exact .inl ⟨h8, hR.symm⟩
  ·rw [if_pos h0] at hR
   injection hR with hR
   exact .inl ⟨h0, hR.symm⟩
/-- The loop of put, at a world. -/
def PutRel (c : FC) (o : FId) (F Q : Nat → Prop) (V w0 : World) (m j K a : Nat) (ys : List Int) (R : FT × Int) (W : World) (k : Nat) : Prop :=
 ∃ st1, putG c m j k st1 K a ys = some R ∧ FWf c st1 ∧ FR c o F Q V w0 W st1

set_option maxRecDepth 100000 in
set_option maxHeartbeats 4000000 in
theorem put_run (h : FR c o F Q V w0 w st) (hw : FWf c st) (m j n kd a : Nat) (ys : List Int) (A : Option Addr) (na cc : Nat) (hz : Nums V .u8 A na ys) (hA : 0 < na → ∀ ad, A = some ad → Q ad.block) (hok : formN kd c.ep 0 a 0 ys) (ha : a < c.M) (R : FT × Int) (hR : putG c m j n st kd a ys = some R) :
  Calls Try.prog 46 #[.pointer (some ⟨o.bf, 0, none⟩), .agg #[.int .u8 (kd : Int), .int .u64 0, .int .u64 0, .int .i64 (a : Int), .int .i64 (-1), .slice A na cc]] w fun e w' => e = .returned (.int .i64 R.2) ∧ FR c o F Q V w0 w' R.1 ∧ FWf c R.1 := by
 have hgb := h.ft.geo.bd
 have hep := hok.2.2.1
 have Hok := hid hok
 have H := hid h
 have Hw := hid hw
 have HR := hid hR
 have HA := hid hA
 have Hz := hid hz
 clear h hw hR hok hz hA
 go_enter Try.func46, Try.ntmps46
 go_upto_region 0 with (fail)
 go_upto_region 1 with (fail)
 generalize hwa : w.alloc _ = wa
 obtain ⟨gs, hgs⟩ : ∃ x, w.heap.size = x := ⟨_, rfl⟩
 rw [hgs]
 have hba : Blk wa gs #[.int .u8 (kd : Int), .int .u64 0, .int .u64 0, .int .i64 (a : Int), .int .i64 (-1), .slice A na cc] 85 := by rw [← hwa, ← hgs]; exact Blk.new _ _ _
 have hBa : Below w.heap.size w wa := by rw [← hwa]; exact (Below.refl _ _).alloc (Nat.le_refl _) _
 have Ha := hid (H.out.more (Q' := fun g => Q g ∨ g = gs) hBa (fun g hg => hg.imp id (fun e => ⟨by omega, by have := hba.lt; omega⟩)) (fun g hg => .inl hg))
 have HBk := hid (fun (W : World) (S : FT) (hW : FR c o F (fun g => Q g ∨ g = gs) wa w0 W S) => (hW.blk (.inr rfl) hba : Blk W gs #[.int .u8 (kd : Int), .int .u64 0, .int .u64 0, .int .i64 (a : Int), .int .i64 (-1), .slice A na cc] 85))
 have HVa := hid (show ∀ g, Q g → wa.heap[g]? = V.heap[g]? from fun g hg => by
  have k1 := H.out.mineQ g hg
  exact (hBa.block g k1.2.1).trans k1.2.2)
 have HNz := hid (fun (W : World) (S : FT) (hW : FR c o F (fun g => Q g ∨ g = gs) wa w0 W S) => (nums_blk Hz.out (fun hn ad e => ((hW.mineQ ad.block (.inl (HA.out hn ad e))).2.2).trans (HVa.out _ (HA.out hn ad e))) : Nums W .u8 A na ys))
 have HmA := hid (fun (W : World) (S : FT) (hW : FR c o F (fun g => Q g ∨ g = gs) wa w0 W S) => (fun hn ad e hm => (hW.mineQ ad.block (.inl (HA.out hn ad e))).1 (.inl hm) : 0 < na → ∀ ad, A = some ad → ¬ o.mut ad.block))
 have Hback := hid (fun (W : World) (S : FT) (hW : FR c o F (fun g => Q g ∨ g = gs) wa w0 W S) => (hW.back (fun g hg => ⟨.inl hg, HVa.out g hg⟩) (fun g hg => by
  rcases hg with hg | hg
  ·exact .inl hg
  ·have k1 := H.out.size
   exact .inr (by omega)) : FR c o F Q V w0 W S))
 clear hwa hba hBa H Hz HA HVa hgs
 go_wp2
 go_loopw [] (fun w' => ∃ k, PutRel c o F (fun g => Q g ∨ g = gs) wa w0 m j kd a ys R w' k) (fun w' => lst (PutRel c o F (fun g => Q g ∨ g = gs) wa w0 m j kd a ys R w'))
 case atStart => exact ⟨n, st, HR.out, Hw.out, Ha.out⟩
 case round =>
  clear Ha Hw HR
  obtain ⟨k1, hk1⟩ : ∃ k, lst (PutRel c o F (fun g => Q g ∨ g = gs) wa w0 m j kd a ys R wr) = k := ⟨_, rfl⟩
  have hrel1 := lst_spec hrel
  rw [hk1] at hrel1
  obtain ⟨st1, hl1, hw1, h1⟩ := hrel1
  have Hk1 := hid hk1
  clear hrel hk1
  cases k1 with
  | zero => cases hl1
  | succ k =>
  obtain ⟨r, hr, hcase⟩ := putG_step hl1
  have hrm := room_run h1 hw1 hep m j r hr
  obtain ⟨st2, b, z⟩ := r
  dsimp only at hrm hcase
  have Hcase := hid hcase
  clear hl1 hr hcase hw1 h1
  go_wp2_with fail
  refine hrm.mono ?_
  rintro e w2 ⟨rfl, h2, hw2, hbn⟩
  have H2 := hid h2
  have Hw2 := hid hw2
  have Hbn := hid hbn
  clear hrm h2 hw2 hbn
  by_cases h0 : z = 0
  ·obtain ⟨hsq, r2, hr2, hcs⟩ : st2.seq < 281474976710000 ∧ ∃ r2, programF c st2 b kd a 0 ys = r2 ∧ ((r2.2 ≠ 8 ∧ R = r2) ∨ (r2.2 = 8 ∧ putG c m j k r2.1 kd a ys = some R)) := by
    rcases Hcase.out with ⟨h, -⟩ | ⟨-, h⟩
    ·exact absurd h0 h
    ·exact h
   have hb := Hbn.out h0
   have hform : formN kd c.ep (st2.seq + 1) a 0 ys := by
    obtain ⟨f1, f2, f3, f4, f5, f6, f7, f8, f9⟩ := Hok.out
    exact ⟨f1, f2, hep, by omega, by omega, by omega, f7, f8, f9⟩
   have hpr := program_run H2.out Hw2.out b hb kd a 0 ys 0 0 (-1) A na cc (HNz.out w2 st2 H2.out) (HmA.out w2 st2 H2.out) hform ha (by omega)
   have hw3 := Hw2.out.program b hb hgb.2.2.2.1 kd a 0 ys ha
   rw [hr2] at hpr hw3
   obtain ⟨st3, z3⟩ := r2
   dsimp only at hpr hw3 hcs
   have Hw3 := hid hw3
   have Hcs := hid hcs
   have Hb2 := HBk.out w2 st2 H2.out
   obtain ⟨⟨x0, x1, x2, x3, x4, x5⟩, -⟩ := Hb2.six
   clear hw3 hcs Hcase Hbn hform hr2 hsq Hb2
   subst h0
   go_wp2_with fail
   refine hpr.mono ?_
   rintro e w3 ⟨rfl, h3⟩
   have H3 := hid h3
   clear hpr h3 x0 x1 x2 x3 x4 x5
   by_cases h8 : z3 = 8
   ·have HRr := hid (show putG c m j k st3 kd a ys = some R by
     rcases Hcs.out with ⟨h, -⟩ | ⟨-, h⟩
     ·exact absurd h8 h
     ·exact h)
    subst h8
    clear Hcs
    go_wp2
    go_roundw
    case rel => exact ⟨k, st3, HRr.out, Hw3.out, H3.out⟩
    case measure => exact Nat.lt_of_le_of_lt (lst_le (m := k) (show PutRel c o F (fun g => Q g ∨ g = gs) wa w0 m j kd a ys R _ k from ⟨st3, HRr.out, Hw3.out, H3.out⟩)) (by rw [Hk1.out]; exact Nat.lt_succ_self k)
   ·have hz8 : (z3 == 8) = false := by rw [beq_eq_false_iff_ne]; exact h8
    have HR0 := hid (show R = (st3, z3) by
     rcases Hcs.out with ⟨-, h⟩ | ⟨h, -⟩
     ·exact h
     ·exact absurd h h8)
    clear Hcs h8
    go_wp2
    go_ret
    rw [HR0.out]
    exact ⟨rfl, Hback.out _ _ H3.out, Hw3.out⟩
  ·have hz0 : (z == 0) = false := by rw [beq_eq_false_iff_ne]; exact h0
   have HR0 := hid (show R = (st2, z) by
    rcases Hcase.out with ⟨-, h⟩ | ⟨h, -⟩
    ·exact h
    ·exact absurd h h0)
   clear Hcase h0 Hbn
   go_wp2
   go_ret
   rw [HR0.out]
   exact ⟨rfl, Hback.out _ _ H2.out, Hw2.out⟩
end
end Go.Proofs.Ytpcbpljdiacbmaa.Ftl
