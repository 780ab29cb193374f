import Derived.Test.YtcfildbgnjhjmaaLogLook
import Derived.Test.YtcfildbgnjhjmaaNandZ
set_option linter.unusedVariables false
set_option linter.unusedSimpArgs false
namespace Go.Proofs.Ytcfildbgnjhjmaa.Log
open Go.RowKit Go.Proofs.Ytcfildbgnjhjmaa.Kit Go.Proofs.Ytcfildbgnjhjmaa.Oct Go.Proofs.Ytcfildbgnjhjmaa.Sheet Go.Proofs.Ytcfildbgnjhjmaa.Nand

theorem arrB_any {w : World} {F : Nat → Prop} {b : Nat} {N : NA} (h : Arr w F b N) : ArrB { w with heap := #[] } w b N :=
  ⟨F, h, fun g _ => Nat.zero_le _, ⟨rfl, rfl, rfl, Nat.zero_le _, fun g hg => absurd hg (by simp)⟩⟩
theorem look_f {w : World} {F : Nat → Prop} {b : Nat} {N : NA} (h : Arr w F b N) (c0 c1 : List (Option (Nat × Nat))) (hg : LG N c0 c1) :
    Calls Try.prog 38 #[.pointer (some ⟨b, 0, none⟩)] w fun e w' => e = .returned (.tuple #[.agg #[.int .u64 ((best c0).1 : Int), .int .i64 ((best c0).2 : Int), .int .u64 ((best c1).1 : Int), .int .i64 ((best c1).2 : Int)], .int .i64 (atOf (best c0) (best c1) : Int), .int .i64 0]) ∧ Below w.heap.size w w' :=
  (look_any (arrB_any h) c0 c1 hg).mono fun e w' hw => ⟨hw.1, hw.2.2⟩
/-- The logbook's last claim. -/
def top (c0 c1 : List (Option (Nat × Nat))) : Nat × Nat := if (best c0).1 < (best c1).1 then best c1 else best c0

set_option maxRecDepth 100000 in
set_option maxHeartbeats 4000000 in
theorem last_f {w : World} {F : Nat → Prop} {b : Nat} {N : NA} (h : Arr w F b N) (c0 c1 : List (Option (Nat × Nat))) (hg : LG N c0 c1) :
    Calls Try.prog 16 #[.pointer (some ⟨b, 0, none⟩)] w fun e w' => e = .returned (.tuple #[.agg #[.int .u64 ((top c0 c1).1 : Int), .int .i64 ((top c0 c1).2 : Int)], .int .i64 0]) ∧ Below w.heap.size w w' := by
  have hbl : ∀ W, Below w.heap.size w W → Calls Try.prog 37 #[.pointer (some ⟨b, 0, none⟩)] W fun e w' => e = .returned (.int .i64 (N.bs.length : Int)) ∧ w' = W := fun W hW => blocks_any F b N W (h.later hW)
  have hlk : ∀ W, Below w.heap.size w W → Calls Try.prog 38 #[.pointer (some ⟨b, 0, none⟩)] W fun e w' => e = .returned (.tuple #[.agg #[.int .u64 ((best c0).1 : Int), .int .i64 ((best c0).2 : Int), .int .u64 ((best c1).1 : Int), .int .i64 ((best c1).2 : Int)], .int .i64 (atOf (best c0) (best c1) : Int), .int .i64 0]) ∧ Below W.heap.size W w' := fun W hW => look_f (h.later hW) c0 c1 hg
  have hnb : (2 : Int) ≤ (N.bs.length : Int) := by have := hg.nb; omega
  have htop : top c0 c1 = if (best c0).1 < (best c1).1 then best c1 else best c0 := rfl
  clear hg h
  generalize (N.bs.length : Int) = nb at *
  generalize best c0 = x at *
  generalize best c1 = y at *
  obtain ⟨E0, a0⟩ := x
  obtain ⟨E1, a1⟩ := y
  have Ht := hid htop
  clear htop
  generalize hat : atOf (E0, a0) (E1, a1) = at' at *
  go_enter Try.func16, Try.ntmps16
  go_upto_region 1 with (fail)
  obtain ⟨gr, hgr⟩ : ∃ g, w.heap.size = g := ⟨_, rfl⟩
  generalize hw2 : World.alloc w _ = w2
  have hbr : Blk w2 gr #[.int .u64 0, .int .i64 0] 30 := by rw [← hw2, ← hgr]; exact Blk.new w _ _
  have hB2 : Below gr w w2 := by rw [← hw2, ← hgr]; exact (Below.refl _ _).alloc (Nat.le_refl _) _
  have hb2 := hbl w2 (by rw [hgr]; exact hB2)
  have hl2 := hlk w2 (by rw [hgr]; exact hB2)
  have Hbr := hid hbr
  have HB2 := hid hB2
  have Hgr := hid hgr
  rw [hgr]
  clear hw2 hbl hlk hbr hB2 hgr
  go_wp2_with fail
  refine hb2.mono ?_
  rintro e w3 ⟨rfl, rfl⟩
  clear hb2
  go_wp2_with fail
  refine hl2.mono ?_
  rintro e w4 ⟨rfl, hB4⟩
  clear hl2
  go_upto_region 4 with (fail)
  generalize hw5 : World.alloc w4 _ = w5
  obtain ⟨gl, hgl⟩ : ∃ g, w4.heap.size = g := ⟨_, rfl⟩
  have hB5 : Below w4.heap.size w4 w5 := by rw [← hw5]; exact (Below.refl _ _).alloc (Nat.le_refl _) _
  have hbl5 : Blk w5 gl #[.int .u64 (E0 : Int), .int .i64 (a0 : Int), .int .u64 (E1 : Int), .int .i64 (a1 : Int)] 100 := by rw [← hw5, ← hgl]; exact Blk.new _ _ _
  have hbr5 : Blk w5 gr #[.int .u64 0, .int .i64 0] 30 := Hbr.out.later (hB4.trans (hB5.mono hB4.size))
  have HB5 := hid (HB2.out.trans ((hB4.trans (hB5.mono hB4.size)).mono (Nat.le_of_lt Hbr.out.lt)))
  obtain ⟨⟨x0, x1, x2, x3⟩, -⟩ := blk_four hbl5
  obtain ⟨⟨y0, y1⟩, f0, f1⟩ := blk_two hbr5
  have Hbr5 := hid hbr5
  rw [hgl]
  clear hw5 hgl hB4 hB5 hbl5 hbr5 Hbr HB2
  by_cases hE : E0 < E1
  · obtain rfl : 1 = at' := by rw [← hat]; unfold atOf; rw [if_pos hE]
    clear hat
    go_wp2
    have hw := blk_two_set Hbr5.out (.int .u64 (E1 : Int)) (.int .i64 (a1 : Int))
    refine bodyPost_ret (results_row_tmp (P := Try.prog) rfl _ _ gr _ _ (0, 0) _ rfl hw Try.underlying30 rfl (by kernel_rfl)) rfl ?_
    exact ⟨by rw [Ht.out, if_pos hE]; rfl, by rw [Hgr.out]; exact (HB5.out.setCell (by simp) _).setCell (by simp) _⟩
  · obtain rfl : 0 = at' := by rw [← hat]; unfold atOf; rw [if_neg hE]
    clear hat
    go_wp2
    have hw := blk_two_set Hbr5.out (.int .u64 (E0 : Int)) (.int .i64 (a0 : Int))
    refine bodyPost_ret (results_row_tmp (P := Try.prog) rfl _ _ gr _ _ (0, 0) _ rfl hw Try.underlying30 rfl (by kernel_rfl)) rfl ?_
    exact ⟨by rw [Ht.out, if_neg hE]; rfl, by rw [Hgr.out]; exact (HB5.out.setCell (by simp) _).setCell (by simp) _⟩
end Go.Proofs.Ytcfildbgnjhjmaa.Log
