import Derived.Test.YtcfildbgnjhjmaaLog
set_option linter.unusedVariables false
set_option linter.unusedSimpArgs false
namespace Go.Proofs.Ytcfildbgnjhjmaa.Log
open Go.RowKit Go.Proofs.Ytcfildbgnjhjmaa.Kit Go.Proofs.Ytcfildbgnjhjmaa.Oct Go.Proofs.Ytcfildbgnjhjmaa.Sheet Go.Proofs.Ytcfildbgnjhjmaa.Nand

theorem results_row_tmp2 {P : Program} {fn : Func} {p u v : Tmp} {ty : TypeId} (h : fn.results = #[.cell p ty, .tmp u, .tmp v]) (tmps : Array Value) (w : World) (g : Nat) (t : TypeId) (cs : Array Value) (fr : Nat × Nat) (d : TypeDesc)
    (hp : tmps.getD p undef = .pointer (some ⟨g, 0, none⟩)) (hg : w.heap[g]? = some (.cells cs t fr))
    (hu : P.underlying ty = some d) (hd : (match d with | .struct _ | .array _ _ => true | _ => false) = true) (hi : (P.info? ty).map (·.size) = some cs.size) :
    (results fn tmps).run P w = .ok (.tuple #[.agg cs, tmps.getD u undef, tmps.getD v undef]) w := by
  have e : (results fn tmps).run P w =
      ((asAddr (tmps.getD p undef)).run P w).andThen fun a w₁ => ((loadVar ty a).run P w₁).andThen fun x w₂ => .ok (.tuple #[x, tmps.getD u undef, tmps.getD v undef]) w₂ := by
    simp only [results, h]
    simp [Sem.run_bind, Result.andThen]
  rw [e, hp]
  show ((loadVar ty ⟨g, 0, none⟩).run P w).andThen _ = _
  rw [run_loadVar_row w g t ty cs fr d hg hu hd hi]
  rfl
theorem blk_four {w : World} {g : Nat} {v0 v1 v2 v3 : Value} {T : TypeId} (h : Blk w g #[v0, v1, v2, v3] T) : (w.cell? ⟨g, 0, none⟩ = some v0 ∧ w.cell? ⟨g, 1, none⟩ = some v1 ∧ w.cell? ⟨g, 2, none⟩ = some v2 ∧ w.cell? ⟨g, 3, none⟩ = some v3) ∧ (w.frozen? ⟨g, 0, none⟩ = false ∧ w.frozen? ⟨g, 1, none⟩ = false ∧ w.frozen? ⟨g, 2, none⟩ = false ∧ w.frozen? ⟨g, 3, none⟩ = false) := ⟨⟨h.cell 0, h.cell 1, h.cell 2, h.cell 3⟩, h.free 0, h.free 1, h.free 2, h.free 3⟩

/-- An array whose logbook can be read. -/
structure LG (N : NA) (c0 c1 : List (Option (Nat × Nat))) : Prop where
  nb : 2 ≤ N.bs.length
  on : N.off = false
  half : (N.blk 0).half = false ∧ (N.blk 1).half = false
  b0 : LBk (N.blk 0) c0
  b1 : LBk (N.blk 1) c1
def atOf (x y : Nat × Nat) : Nat := if x.1 < y.1 then 1 else 0

set_option maxRecDepth 100000 in
set_option maxHeartbeats 4000000 in
theorem look_any {w0 w : World} {b : Nat} {N : NA} (h : ArrB w0 w b N) (c0 c1 : List (Option (Nat × Nat))) (hg : LG N c0 c1) :
    Calls Try.prog 38 #[.pointer (some ⟨b, 0, none⟩)] w fun e w' => e = .returned (.tuple #[.agg #[.int .u64 ((best c0).1 : Int), .int .i64 ((best c0).2 : Int), .int .u64 ((best c1).1 : Int), .int .i64 ((best c1).2 : Int)], .int .i64 (atOf (best c0) (best c1) : Int), .int .i64 0]) ∧ ArrB w0 w' b N ∧ Below w.heap.size w w' := by
  have hl0 : ∀ W, ArrB w0 W b N → Calls Try.prog 69 #[.pointer (some ⟨b, 0, none⟩), .int .i64 0] W fun e w' => e = .returned (.tuple #[.agg #[.int .u64 ((best c0).1 : Int), .int .i64 ((best c0).2 : Int)], .int .i64 0]) ∧ ArrB w0 w' b N ∧ Below W.heap.size W w' := fun W hW => last_any hW 0 (by have := hg.nb; omega) hg.on hg.half.1 c0 hg.b0
  have hl1 : ∀ W, ArrB w0 W b N → Calls Try.prog 69 #[.pointer (some ⟨b, 0, none⟩), .int .i64 1] W fun e w' => e = .returned (.tuple #[.agg #[.int .u64 ((best c1).1 : Int), .int .i64 ((best c1).2 : Int)], .int .i64 0]) ∧ ArrB w0 w' b N ∧ Below W.heap.size W w' := fun W hW => last_any hW 1 (by have := hg.nb; omega) hg.on hg.half.2 c1 hg.b1
  clear hg
  generalize best c0 = x at *
  generalize best c1 = y at *
  obtain ⟨E0, a0⟩ := x
  obtain ⟨E1, a1⟩ := y
  go_enter Try.func38, Try.ntmps38
  go_upto_region 2 with (fail)
  obtain ⟨gr, hgr⟩ : ∃ g, w.heap.size = g := ⟨_, rfl⟩
  generalize hw2 : World.alloc (World.alloc w _) _ = w2
  have hbr : Blk w2 gr #[.int .u64 0, .int .i64 0, .int .u64 0, .int .i64 0] 100 := by rw [← hw2, ← hgr]; exact (Blk.new w _ _).alloc _
  have hbx : Blk w2 (gr + 1) #[.int .u64 0, .int .i64 0, .int .u64 0, .int .i64 0] 100 := by
    rw [← hw2, ← hgr]
    have := Blk.new (w.alloc (.cells #[.int .u64 0, .int .i64 0, .int .u64 0, .int .i64 0] 100)) #[.int .u64 0, .int .i64 0, .int .u64 0, .int .i64 0] 100
    simpa using this
  have hB2 : Below gr w w2 := by rw [← hw2, ← hgr]; exact ((Below.refl _ _).alloc (Nat.le_refl _) _).alloc (by simp) _
  clear hw2
  have hB2 := hid hB2
  rw [hgr]
  go_wp2
  go_loopw [6, 10] (fun u v w' => ((v = .int .i64 0 ∧ u = .int .i64 0 ∧ Blk w' (gr + 1) #[.int .u64 0, .int .i64 0, .int .u64 0, .int .i64 0] 100) ∨ (v = .int .i64 1 ∧ u = .int .i64 0 ∧ Blk w' (gr + 1) #[.int .u64 (E0 : Int), .int .i64 (a0 : Int), .int .u64 0, .int .i64 0] 100) ∨ (v = .int .i64 2 ∧ u = .int .i64 (if E0 < E1 then 1 else 0) ∧ Blk w' (gr + 1) #[.int .u64 (E0 : Int), .int .i64 (a0 : Int), .int .u64 (E1 : Int), .int .i64 (a1 : Int)] 100)) ∧ Blk w' gr #[.int .u64 0, .int .i64 0, .int .u64 0, .int .i64 0] 100 ∧ Below gr w w') (fun _ v _ => 2 - (intOf v).toNat)
  case atStart => exact ⟨.inl ⟨rfl, rfl, hbx⟩, hbr, hB2.out⟩
  case round =>
    clear hbx hbr hB2
    obtain ⟨⟨rfl, rfl, hbx⟩ | ⟨rfl, rfl, hbx⟩ | ⟨rfl, rfl, hbx⟩, hbr, hB⟩ := hrel
    · have hl := hl0 wr (h.later (by rw [hgr]; exact hB))
      have HB := hid hB
      have Hgr := hid hgr
      clear hl0 hl1 hB hgr
      go_wp2_with fail
      refine hl.mono ?_
      rintro e w4 ⟨rfl, hA4, hB4⟩
      have hsz := hbr.lt
      have hbx4 := hbx.later hB4
      have hbr4 := hid (hbr.later hB4)
      have HB4 := hid (HB.out.trans (hB4.mono (Nat.le_of_lt hbr.lt)))
      clear hA4 hl
      go_upto_region 7 with (fail)
      generalize hw5 : World.alloc w4 _ = w5
      obtain ⟨gs, hgs⟩ : ∃ g, w4.heap.size = g := ⟨_, rfl⟩
      have hB5 : Below w4.heap.size w4 w5 := by rw [← hw5]; exact (Below.refl _ _).alloc (Nat.le_refl _) _
      have hbs : Blk w5 gs #[.int .u64 (E0 : Int), .int .i64 (a0 : Int)] 30 := by rw [← hw5, ← hgs]; exact Blk.new _ _ _
      have hgl : gr + 1 < gs := by rw [← hgs]; exact hbx4.lt
      have hbx5 := hbx4.later hB5
      have hbr5 := hid (hbr4.out.later hB5)
      have HB5 := hid (HB4.out.trans (hB5.mono (Nat.le_of_lt hbr4.out.lt)))
      obtain ⟨⟨x0, x1, x2, x3⟩, f0, f1, f2, f3⟩ := blk_four hbx5
      obtain ⟨⟨y0, y1⟩, -⟩ := blk_two hbs
      rw [hgs]
      clear hbx hbr hB4 HB4 hbr4 hw5 hgs hB5 hbx4 hsz HB
      have Hbx5 := hid hbx5
      have Hbs := hid hbs
      clear hbx5 hbs
      go_upto_region 10 with (fail)
      obtain ⟨w6, hw6⟩ : ∃ W, W = (w5.setCell ⟨gr + 1, 0, none⟩ (.int .u64 (E0 : Int))).setCell ⟨gr + 1, 1, none⟩ (.int .i64 (a0 : Int)) := ⟨_, rfl⟩
      rw [← hw6]
      have hbx6 : Blk w6 (gr + 1) #[.int .u64 (E0 : Int), .int .i64 (a0 : Int), .int .u64 0, .int .i64 0] 100 := by
        rw [hw6]
        have := (Hbx5.out.set 0 (.int .u64 (E0 : Int))).set 1 (.int .i64 (a0 : Int))
        simpa using this
      have hbs6 : Blk w6 gs #[.int .u64 (E0 : Int), .int .i64 (a0 : Int)] 30 := by rw [hw6]; exact (Hbs.out.setOther _ (by show gs ≠ gr + 1; omega) _).setOther _ (by show gs ≠ gr + 1; omega) _
      have hbr6 : Blk w6 gr #[.int .u64 0, .int .i64 0, .int .u64 0, .int .i64 0] 100 := by rw [hw6]; exact (hbr5.out.setOther _ (by simp) _).setOther _ (by simp) _
      have HB6 := hid (show Below gr w w6 by rw [hw6]; exact (HB5.out.setCell (by simp) _).setCell (by simp) _)
      obtain ⟨⟨z0, z1, z2, z3⟩, -⟩ := blk_four hbx6
      obtain ⟨⟨t0, t1⟩, -⟩ := blk_two hbs6
      have Hbx6 := hid hbx6
      have Hbr6 := hid hbr6
      clear x0 x1 x2 x3 f0 f1 f2 f3 y0 y1 Hbx5 Hbs hbr5 HB5 hw6 hbx6 hbs6 hbr6
      go_quiet (fail)
      go_wp2
      go_roundw
      case rel => exact ⟨.inr (.inl ⟨by go_num, rfl, Hbx6.out⟩), Hbr6.out, below_drewN HB6.out _⟩
      case measure => simp [intOf]
    · have hl := hl1 wr (h.later (by rw [hgr]; exact hB))
      have HB := hid hB
      have Hgr := hid hgr
      clear hl0 hl1 hB hgr
      go_wp2_with fail
      refine hl.mono ?_
      rintro e w4 ⟨rfl, hA4, hB4⟩
      have hsz := hbr.lt
      have hbx4 := hbx.later hB4
      have hbr4 := hid (hbr.later hB4)
      have HB4 := hid (HB.out.trans (hB4.mono (Nat.le_of_lt hbr.lt)))
      clear hA4 hl
      go_upto_region 7 with (fail)
      generalize hw5 : World.alloc w4 _ = w5
      obtain ⟨gs, hgs⟩ : ∃ g, w4.heap.size = g := ⟨_, rfl⟩
      have hB5 : Below w4.heap.size w4 w5 := by rw [← hw5]; exact (Below.refl _ _).alloc (Nat.le_refl _) _
      have hbs : Blk w5 gs #[.int .u64 (E1 : Int), .int .i64 (a1 : Int)] 30 := by rw [← hw5, ← hgs]; exact Blk.new _ _ _
      have hgl : gr + 1 < gs := by rw [← hgs]; exact hbx4.lt
      have hbx5 := hbx4.later hB5
      have hbr5 := hid (hbr4.out.later hB5)
      have HB5 := hid (HB4.out.trans (hB5.mono (Nat.le_of_lt hbr4.out.lt)))
      obtain ⟨⟨x0, x1, x2, x3⟩, f0, f1, f2, f3⟩ := blk_four hbx5
      obtain ⟨⟨y0, y1⟩, -⟩ := blk_two hbs
      rw [hgs]
      clear hbx hbr hB4 HB4 hbr4 hw5 hgs hB5 hbx4 hsz HB
      have Hbx5 := hid hbx5
      have Hbs := hid hbs
      clear hbx5 hbs
      go_upto_region 10 with (fail)
      obtain ⟨w6, hw6⟩ : ∃ W, W = (w5.setCell ⟨gr + 1, 2, none⟩ (.int .u64 (E1 : Int))).setCell ⟨gr + 1, 3, none⟩ (.int .i64 (a1 : Int)) := ⟨_, rfl⟩
      rw [← hw6]
      have hbx6 : Blk w6 (gr + 1) #[.int .u64 (E0 : Int), .int .i64 (a0 : Int), .int .u64 (E1 : Int), .int .i64 (a1 : Int)] 100 := by
        rw [hw6]
        have := (Hbx5.out.set 2 (.int .u64 (E1 : Int))).set 3 (.int .i64 (a1 : Int))
        simpa using this
      have hbs6 : Blk w6 gs #[.int .u64 (E1 : Int), .int .i64 (a1 : Int)] 30 := by rw [hw6]; exact (Hbs.out.setOther _ (by show gs ≠ gr + 1; omega) _).setOther _ (by show gs ≠ gr + 1; omega) _
      have hbr6 : Blk w6 gr #[.int .u64 0, .int .i64 0, .int .u64 0, .int .i64 0] 100 := by rw [hw6]; exact (hbr5.out.setOther _ (by simp) _).setOther _ (by simp) _
      have HB6 := hid (show Below gr w w6 by rw [hw6]; exact (HB5.out.setCell (by simp) _).setCell (by simp) _)
      obtain ⟨⟨z0, z1, z2, z3⟩, -⟩ := blk_four hbx6
      obtain ⟨⟨t0, t1⟩, -⟩ := blk_two hbs6
      have Hbx6 := hid hbx6
      have Hbr6 := hid hbr6
      clear x0 x1 x2 x3 f0 f1 f2 f3 y0 y1 Hbx5 Hbs hbr5 HB5 hw6 hbx6 hbs6 hbr6
      by_cases hE : E0 < E1
      · have hEI : (E0 : Int) < (E1 : Int) := by omega
        go_quiet (fail)
        go_wp2
        go_roundw
        case rel => exact ⟨.inr (.inr ⟨by go_num, by rw [if_pos hE], Hbx6.out⟩), Hbr6.out, below_drewN HB6.out _⟩
        case measure => simp [intOf]
      · have hEI : (E1 : Int) ≤ (E0 : Int) := by omega
        go_quiet (fail)
        go_wp2
        go_roundw
        case rel => exact ⟨.inr (.inr ⟨by go_num, by rw [if_neg hE], Hbx6.out⟩), Hbr6.out, below_drewN HB6.out _⟩
        case measure => simp [intOf]
    · obtain ⟨q, hq⟩ : ∃ q : Nat, q = (if E0 < E1 then 1 else 0) := ⟨_, rfl⟩
      have hqI : (if E0 < E1 then (1 : Int) else 0) = (q : Int) := by rw [hq]; split <;> rfl
      rw [hqI]
      have Hq := hid hq
      obtain ⟨⟨x0, x1, x2, x3⟩, -⟩ := blk_four hbx
      obtain ⟨⟨y0, y1, y2, y3⟩, f0, f1, f2, f3⟩ := blk_four hbr
      have HB := hid hB
      have Hbr := hid hbr
      have HA := hid h
      have Hgr := hid hgr
      clear hbx hbr hB hl0 hl1 h hgr hq hqI
      go_wp2
      have hw : Blk ((((wr.setCell ⟨gr, 0, none⟩ (.int .u64 (E0 : Int))).setCell ⟨gr, 1, none⟩ (.int .i64 (a0 : Int))).setCell ⟨gr, 2, none⟩ (.int .u64 (E1 : Int))).setCell ⟨gr, 3, none⟩ (.int .i64 (a1 : Int))) gr #[.int .u64 (E0 : Int), .int .i64 (a0 : Int), .int .u64 (E1 : Int), .int .i64 (a1 : Int)] 100 := by
        have := (((Hbr.out.set 0 (.int .u64 (E0 : Int))).set 1 (.int .i64 (a0 : Int))).set 2 (.int .u64 (E1 : Int))).set 3 (.int .i64 (a1 : Int))
        simpa using this
      have hBB : Below w.heap.size w ((((wr.setCell ⟨gr, 0, none⟩ (.int .u64 (E0 : Int))).setCell ⟨gr, 1, none⟩ (.int .i64 (a0 : Int))).setCell ⟨gr, 2, none⟩ (.int .u64 (E1 : Int))).setCell ⟨gr, 3, none⟩ (.int .i64 (a1 : Int))) := by rw [Hgr.out]; exact (((HB.out.setCell (by simp) _).setCell (by simp) _).setCell (by simp) _).setCell (by simp) _
      refine bodyPost_ret (results_row_tmp2 (P := Try.prog) rfl _ _ gr _ _ (0, 0) _ rfl hw Try.underlying100 rfl (by kernel_rfl)) rfl ?_
      exact ⟨by unfold atOf; rw [Hq.out]; rfl, HA.out.later hBB, hBB⟩
end Go.Proofs.Ytcfildbgnjhjmaa.Log
