import Derived.Test.YtcfildbgnjhjmaaLogSick
set_option linter.unusedVariables false
set_option linter.unusedSimpArgs false
namespace Go.Proofs.Ytcfildbgnjhjmaa.Log
open Go.RowKit Go.Proofs.Ytcfildbgnjhjmaa.Kit Go.Proofs.Ytcfildbgnjhjmaa.Oct Go.Proofs.Ytcfildbgnjhjmaa.Sheet Go.Proofs.Ytcfildbgnjhjmaa.Nand

theorem last_run {q : Nat} {F : Nat → Prop} {w w1 W : World} {b : Nat} {N : NA} {K : Nat → Prop} {c : Nat → List (Option (Nat × Nat))} (h : Run F w w1 b N K W) (hs : St q N c) :
    Calls Try.prog 16 #[.pointer (some ⟨b, 0, none⟩)] w1 fun e w' => e = .returned (.tuple #[.agg #[.int .u64 ((top (c 0) (c 1)).1 : Int), .int .i64 ((top (c 0) (c 1)).2 : Int)], .int .i64 0]) ∧ Below w1.heap.size w1 w' := by
  obtain ⟨F', hA⟩ := h.arr
  exact last_f hA _ _ hs.lg
theorem claim_run {q : Nat} {F : Nat → Prop} {w w1 W : World} {b : Nat} {N : NA} {K : Nat → Prop} {c : Nat → List (Option (Nat × Nat))} (h : Run F w w1 b N K W) (hs : St q N c) (E who : Int) (hE : 0 ≤ E ∧ E ≤ 18446744073709551615) :
    Calls Try.prog 15 #[.pointer (some ⟨b, 0, none⟩), .agg #[.int .u64 E, .int .i64 who]] w1 fun e w' => e = .returned (.int .i64 (claimN N (c 0) (c 1) E who).2) ∧ Run F w w' b (claimN N (c 0) (c 1) E who).1 K W :=
  h.calls (fun F' hA => claim_any F' b N (c 0) (c 1) E who hE w1 hA hs.lg)
theorem next_run {F : Nat → Prop} {w w1 W : World} {b : Nat} {N : NA} {K : Nat → Prop} (h : Run F w w1 b N K W) (i : Int) :
    Calls Try.prog 17 #[.pointer (some ⟨b, 0, none⟩), .int .i64 i] w1 fun e w' => e = .returned (.int .i64 (if N.inI i then ((N.blk i.toNat).pages.length : Int) else 0)) ∧ w' = w1 := by
  obtain ⟨F', hA⟩ := h.arr
  exact next_any F' b N i w1 hA
/-- A claim that is refused changes nothing. -/
theorem claim_no {q : Nat} {F : Nat → Prop} {w w1 W : World} {b : Nat} {N : NA} {K : Nat → Prop} {c : Nat → List (Option (Nat × Nat))} (h : Run F w w1 b N K W) (hs : St q N c) (E who : Int) (hE : 0 ≤ E ∧ E ≤ 18446744073709551615) (r : Int)
    (hr : ((E < 1 ∨ 281474976710656 ≤ E ∨ who < 0 ∨ 1 < who) ∧ r = 1) ∨ (¬ (E < 1 ∨ 281474976710656 ≤ E ∨ who < 0 ∨ 1 < who) ∧ E ≤ ((top (c 0) (c 1)).1 : Int) ∧ r = 6)) :
    Calls Try.prog 15 #[.pointer (some ⟨b, 0, none⟩), .agg #[.int .u64 E, .int .i64 who]] w1 fun e w' => e = .returned (.int .i64 r) ∧ Run F w w' b N K W := by
  have e : claimN N (c 0) (c 1) E who = (N, r) := by
    unfold claimN
    rcases hr with ⟨h1, rfl⟩ | ⟨h1, h2, rfl⟩
    · rw [if_pos h1]
    · rw [if_neg h1, if_pos h2]
  have := claim_run h hs E who hE
  rw [e] at this
  exact this
/-- A claim that is had: none is sick. -/
theorem claim_ok {F : Nat → Prop} {w w1 W : World} {b : Nat} {N : NA} {K : Nat → Prop} {c : Nat → List (Option (Nat × Nat))} (h : Run F w w1 b N K W) (hs : St 2 N c) (E who : Nat) (hE1 : 1 ≤ E) (hE : E < 281474976710656) (hw : who ≤ 1) (hnp : 1 ≤ N.pages ∧ N.pages ≤ 32) (hf : N.fence ≤ (E : Int)) (ht : (top (c 0) (c 1)).1 < E) :
    Calls Try.prog 15 #[.pointer (some ⟨b, 0, none⟩), .agg #[.int .u64 (E : Int), .int .i64 (who : Int)]] w1 fun e w' => e = .returned (.int .i64 0) ∧ ∃ N' c', Run F w w' b N' K W ∧ St 2 N' c' ∧ Fx N N' (fun j => j < 2) ∧ top (c' 0) (c' 1) = (E, who) := by
  refine (claim_run h hs (E : Int) (who : Int) (by omega)).mono ?_
  rintro e w' ⟨rfl, hR⟩
  obtain ⟨c', h1, h2, ⟨h3, h4⟩ | ⟨_, h3, _⟩⟩ := claim_st hs hE1 hE hw hnp hf ht
  · exact ⟨by rw [h3], _, c', hR, h1, h2, h4⟩
  · omega

theorem st_new (n p : Nat) (hn : 2 ≤ n) : St 2 (newA n p []) (fun _ => []) := by
  have hb : ∀ i, i < 2 → (newA n p []).blk i = newB false := fun i hi => by
    rw [newA_blk n p [] i (by omega)]
    rfl
  exact ⟨by rw [newA_len]; exact hn, rfl, rfl, fun i hi => by rw [hb i hi]; rfl, fun i hi => LBk.nil (by rw [hb i hi]; rfl), fun i hi _ => by rw [hb i hi]; exact ⟨rfl, rfl⟩⟩
theorem top_nil : top [] [] = (0, 0) := rfl
/-- A new array. -/
theorem new_run (nb pg : Nat) (w w1 : World) (hB : Below w.heap.size w w1) (hn : 1 ≤ nb ∧ nb ≤ 64) (hp : 1 ≤ pg ∧ pg ≤ 32) :
    Calls Try.prog 14 #[.int .i64 (nb : Int), .int .i64 (pg : Int), .slice none 0 0] w1 fun e w' => ∃ b, e = .returned (.tuple #[.pointer (some ⟨b, 0, none⟩), .int .i64 0]) ∧ Run (fun _ => False) w w' b (newA nb pg []) (fun _ => False) w' := by
  refine (new_any nb pg none 0 0 [] w1 hn hp (Nums.none _ _ _) (by simp)).mono ?_
  rintro e w' ⟨b, he, hA, hB2⟩
  exact ⟨b, he, Run.new hB hA (fun g hg => hg.1) hB2 _⟩

set_option maxRecDepth 100000 in
set_option maxHeartbeats 4000000 in
theorem awake_any (w : World) : Calls Try.prog 13 #[] w fun e w' => e = .returned (.bool true) ∧ Below w.heap.size w w' := by
  have hnew := new_run 4 4 w w (Below.refl _ _) (by omega) (by omega)
  go_enter Try.func13, Try.ntmps13
  go_wp2_with fail
  refine hnew.mono ?_
  rintro e w1 ⟨b, rfl, hR1⟩
  clear hnew
  have hc1 := claim_ok hR1 (st_new 4 4 (by omega)) 1 0 (by omega) (by omega) (by omega) ⟨by decide, by decide⟩ (by decide) (by decide)
  clear hR1
  go_wp2_with fail
  refine hc1.mono ?_
  rintro e w2 ⟨rfl, N2, c2, hR2, hs2, hx2, ht2⟩
  clear hc1
  have hc2 := claim_ok hR2 hs2 2 1 (by omega) (by omega) (by omega) (by rw [hx2.pages]; exact ⟨by decide, by decide⟩) (by rw [hx2.fence]; decide) (by rw [ht2]; decide)
  clear hR2 hs2 ht2
  have Hx2 := hid hx2
  clear hx2
  go_wp2_with fail
  refine hc2.mono ?_
  rintro e w3 ⟨rfl, N3, c3, hR3, hs3, hx3, ht3⟩
  clear hc2
  have hl := last_run hR3 hs3
  rw [ht3] at hl
  have HR3 := hid hR3
  have Hs3 := hid hs3
  have Ht3 := hid ht3
  clear hR3 hs3 hx3 ht3
  go_wp2_with fail
  refine hl.mono ?_
  rintro e w4 ⟨rfl, hB4⟩
  clear hl
  go_upto_region 5 with (fail)
  generalize hw5 : World.alloc w4 _ = w5
  obtain ⟨gy, hgy⟩ : ∃ g, w4.heap.size = g := ⟨_, rfl⟩
  have hB5 : Below w4.heap.size w4 w5 := by rw [← hw5]; exact (Below.refl _ _).alloc (Nat.le_refl _) _
  have hby : Blk w5 gy #[.int .u64 2, .int .i64 1] 30 := by rw [← hw5, ← hgy]; exact Blk.new _ _ _
  have hR5 := HR3.out.later (hB4.trans (hB5.mono hB4.size))
  have hc3 := claim_no hR5 Hs3.out 2 0 (by omega) 6 (.inr ⟨by omega, by rw [Ht3.out]; decide, rfl⟩)
  obtain ⟨⟨y0, y1⟩, -⟩ := blk_two hby
  rw [hgy]
  clear hw5 hgy hB4 hB5 hby hR5 HR3 Hs3
  go_wp2_with fail
  refine hc3.mono ?_
  rintro e w6 ⟨rfl, hR6⟩
  have HR6 := hid hR6
  clear hc3 hR6
  go_wp2
  go_ret
  exact ⟨rfl, HR6.out.below⟩
end Go.Proofs.Ytcfildbgnjhjmaa.Log
