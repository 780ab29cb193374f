import Derived.Test.YtcfildbgnjhjmaaLogB
set_option linter.unusedVariables false
set_option linter.unusedSimpArgs false
namespace Go.Proofs.Ytcfildbgnjhjmaa.Log
open Go.RowKit Go.Proofs.Ytcfildbgnjhjmaa.Kit Go.Proofs.Ytcfildbgnjhjmaa.Oct Go.Proofs.Ytcfildbgnjhjmaa.Sheet Go.Proofs.Ytcfildbgnjhjmaa.Nand

theorem raise_run {F : Nat → Prop} {w w1 W : World} {b : Nat} {N : NA} {K : Nat → Prop} (h : Run F w w1 b N K W) (ep : Int) :
    Calls Try.prog 19 #[.pointer (some ⟨b, 0, none⟩), .int .u64 ep] w1 fun e w' => e = .returned (.int .i64 (N.raise ep).2) ∧ Run F w w' b (N.raise ep).1 K W :=
  h.calls (fun F' hA => (raise_any F' b N ep w1 hA).mono fun e w' hw => ⟨hw.1, Arr.grown (w := w1) hw.2.1 w1, hw.2.2⟩)
theorem claim_fence {q E who : Nat} {N : NA} {c : Nat → List (Option (Nat × Nat))} (h : St q N c) (hE1 : 1 ≤ E) (hE : E < 281474976710656) (hw : who ≤ 1) (hf : (E : Int) < N.fence) (ht : (top (c 0) (c 1)).1 < E)
    (hl : (N.blk (atOf (best (c 0)) (best (c 1)))).pages.length < N.pages) : claimN N (c 0) (c 1) (E : Int) (who : Int) = (N, 7) := by
  obtain ⟨a, hat, ha, -⟩ := at_facts c
  have hh := h.half a ha
  rw [hat] at hl
  have hp : N.progE (a : Int) ((N.blk a).pages.length : Int) (clPage E who).length (E : Int) = 7 := by
    unfold NA.progE
    rw [atE_in a (by have := h.nb; omega) h.on, if_neg (by decide), if_neg (by omega), if_neg (by rw [clPage_len]; decide), Int.toNat_natCast, if_neg (by rw [hh]; simp), if_pos hf]
  have hpr := prog_err (N := N) (a : Int) ((N.blk a).pages.length : Int) (clPage E who) (E : Int) (by rw [hp]; decide)
  rw [hp] at hpr
  unfold claimN
  rw [if_neg (by omega), if_neg (by omega), hat, Int.toNat_natCast, Int.toNat_natCast]
  unfold goOn
  have ef : fill a (clPage E who) E 33 N = (N, some 7) := by
    unfold fill
    rw [if_pos hl, hpr, if_neg (show ¬ ((7 : Int) = 8) by decide)]
  rw [ef]

set_option maxRecDepth 100000 in
set_option maxHeartbeats 4000000 in
theorem law_fenced (x : Int) (hx : 0 ≤ x ∧ x ≤ 4294967295) (y : Int) (hy : 0 ≤ y ∧ y ≤ 65535) (w : World) :
    Calls Try.prog 6 #[.int .u32 x, .int .u16 y] w fun e w' => e = .returned (.bool true) ∧ Below w.heap.size w w' := by
  have w1 : IntKind.u64.wrap x = x := IntWalk.u64_in _ (by omega)
  have w2 : IntKind.u64.wrap y = y := IntWalk.u64_in _ (by omega)
  have w3 : IntKind.u64.wrap (1 + x) = 1 + x := IntWalk.u64_in _ (by omega)
  have w4 : IntKind.u64.wrap (1 + x + 1) = 1 + x + 1 := IntWalk.u64_in _ (by omega)
  have w5 : IntKind.u64.wrap (1 + x + 1 + y) = 1 + x + 1 + y := IntWalk.u64_in _ (by omega)
  have hnew : ∀ W, Below w.heap.size w W → _ := fun W hW => new_run 2 3 w W hW (by omega) (by omega)
  go_enter Try.func6, Try.ntmps6
  go_wp2_with fail
  refine (awake_any w).mono ?_
  rintro e w6 ⟨rfl, hB6⟩
  have hnew' := hnew w6 hB6
  clear hnew hB6
  go_wp2_with fail
  refine hnew'.mono ?_
  rintro e w7 ⟨b, rfl, hR7⟩
  clear hnew'
  have hra := raise_run hR7 (1 + x + 1 + y)
  have hst := st_new 2 3 (by omega)
  have er : (newA 2 3 []).raise (1 + x + 1 + y) = ({ newA 2 3 [] with fence := 1 + x + 1 + y }, 0) := by
    unfold NA.raise
    rw [if_neg (by show ¬ (false = true); decide), if_neg (by show ¬ (1 + x + 1 + y ≤ 0); omega)]
  rw [er] at hra
  have hst2 : St 2 { newA 2 3 [] with fence := 1 + x + 1 + y } (fun _ => []) := ⟨hst.nb, hst.on, hst.armed, hst.half, hst.bk, hst.sick⟩
  have hff : ({ newA 2 3 [] with fence := 1 + x + 1 + y } : NA).fence = 1 + x + 1 + y := rfl
  have hpp : ({ newA 2 3 [] with fence := 1 + x + 1 + y } : NA).pages = 3 := rfl
  have hb0 : (({ newA 2 3 [] with fence := 1 + x + 1 + y } : NA).blk 0).pages.length = 0 := by
    show ((newA 2 3 []).blk 0).pages.length = 0
    rw [newA_blk 2 3 [] 0 (by omega)]
    rfl
  clear er hR7 hst
  generalize ({ newA 2 3 [] with fence := 1 + x + 1 + y } : NA) = N at *
  have hE1 : ((1 + x).toNat : Int) = 1 + x := by omega
  have hE2 : ((1 + x + 1 + y).toNat : Int) = 1 + x + 1 + y := by omega
  have hcf := claim_fence (E := (1 + x).toNat) (who := 0) hst2 (by omega) (by omega) (by omega) (by rw [hff]; omega) (show 0 < _ by omega) (by show (N.blk 0).pages.length < N.pages; rw [hb0, hpp]; decide)
  rw [hE1, show ((0 : Nat) : Int) = 0 from rfl] at hcf
  have Hst := hid hst2
  have Hff := hid hff
  have Hpp := hid hpp
  have Hcf := hid hcf
  have HE2 := hid hE2
  clear hst2 hff hpp hb0 hcf hE1 hE2
  go_wp2_with fail
  refine hra.mono ?_
  rintro e w8 ⟨rfl, hR8⟩
  clear hra
  have hc1 := claim_run hR8 Hst.out (1 + x) 0 (by omega)
  rw [Hcf.out] at hc1
  clear hR8
  go_wp2_with fail
  refine hc1.mono ?_
  rintro e w9 ⟨rfl, hR9⟩
  clear hc1
  have hc2 := claim_ok hR9 Hst.out (1 + x + 1 + y).toNat 1 (by omega) (by omega) (by omega) (by rw [Hpp.out]; omega) (by rw [Hff.out]; omega) (show 0 < _ by omega)
  rw [HE2.out, show ((1 : Nat) : Int) = 1 from rfl] at hc2
  clear hR9
  go_wp2_with fail
  refine hc2.mono ?_
  rintro e w10 ⟨rfl, N', c', hR10, hs10, -, ht10⟩
  clear hc2
  have hl := last_run hR10 hs10
  rw [ht10] at hl
  have hl : Calls Try.prog 16 #[.pointer (some ⟨b, 0, none⟩)] w10 fun e w' => e = .returned (.tuple #[.agg #[.int .u64 ((1 + x + 1 + y).toNat : Int), .int .i64 1], .int .i64 0]) ∧ Below w10.heap.size w10 w' := hl
  rw [HE2.out] at hl
  have HR10 := hid hR10
  clear hR10 hs10 ht10
  go_wp2_with fail
  refine hl.mono ?_
  rintro e w11 ⟨rfl, hB11⟩
  clear hl
  go_upto_region 9 with (fail)
  generalize hw12 : World.alloc w11 _ = w12
  obtain ⟨gy, hgy⟩ : ∃ g, w11.heap.size = g := ⟨_, rfl⟩
  have hB12 : Below w11.heap.size w11 w12 := by rw [← hw12]; exact (Below.refl _ _).alloc (Nat.le_refl _) _
  have hby : Blk w12 gy #[.int .u64 (1 + x + 1 + y), .int .i64 1] 30 := by rw [← hw12, ← hgy]; exact Blk.new _ _ _
  have HB := hid (HR10.out.later (hB11.trans (hB12.mono hB11.size))).below
  obtain ⟨⟨y0, y1⟩, -⟩ := blk_two hby
  rw [hgy]
  clear hw12 hgy hB11 hB12 hby HR10
  go_wp2
  go_ret
  exact ⟨rfl, HB.out⟩
end Go.Proofs.Ytcfildbgnjhjmaa.Log
