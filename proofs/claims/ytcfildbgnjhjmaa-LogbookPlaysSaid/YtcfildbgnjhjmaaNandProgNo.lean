import Derived.Test.YtcfildbgnjhjmaaNandBegin
set_option linter.unusedVariables false
set_option linter.unusedSimpArgs false
namespace Go.Proofs.Ytcfildbgnjhjmaa.Nand
open Go.RowKit Go.Proofs.Ytcfildbgnjhjmaa.Kit

theorem AR.later {w w' : World} {F : Nat → Prop} {b gb : Nat} {pv : Nat → Value} {wv : Value} {N : NA} (h : AR w F b gb pv wv N) (hB : Below w.heap.size w w') : AR w' F b gb pv wv N := h.keep (fun g hg => hB.block g (h.low g hg)) hB.size
theorem atE_zero {N : NA} {i : Int} (h : N.atE i = 0) : 0 ≤ i ∧ i < N.bs.length ∧ N.off = false := by
  unfold NA.atE at h
  by_cases h1 : i < 0 ∨ N.bs.length ≤ i
  · rw [if_pos h1] at h
    cases h
  · rw [if_neg h1] at h
    refine ⟨by omega, by omega, ?_⟩
    cases ho : N.off
    · rfl
    · rw [ho] at h
      cases h
theorem atE_nat {N : NA} {i : Nat} (h : N.atE (i : Int) = 0) : i < N.bs.length ∧ N.off = false := by
  have := atE_zero h
  exact ⟨by omega, this.2.2⟩

set_option maxRecDepth 100000 in
set_option maxHeartbeats 4000000 in
theorem prog_no (F : Nat → Prop) (b gb : Nat) (pv : Nat → Value) (wv : Value) (N : NA) (i p : Int) (A : Option Addr) (n c : Nat) (ep : Int) (w : World) (h : AR w F b gb pv wv N) (hn : n ≤ 140737488355328) (he : N.progE i p n ep ≠ 0) :
    Calls Try.prog 25 #[.pointer (some ⟨b, 0, none⟩), .int .i64 i, .int .i64 p, .slice A n c, .int .u64 ep] w fun e w' => e = .returned (.int .i64 (N.progE i p n ep)) ∧ Below w.heap.size w w' := by
  by_cases ha : N.atE i = 0
  · obtain ⟨hi0, hi1, ho⟩ := atE_zero ha
    obtain ⟨i, rfl⟩ := Int.eq_ofNat_of_zero_le hi0
    have hi : i < N.bs.length := by omega
    have hat := at_ok F b gb pv wv N i w h hi ho
    have hnp := h.wf.np
    have hlen := h.wf.len i hi
    have he' : N.progE (i : Int) p n ep = if p < 0 ∨ N.pages ≤ p then 1 else if n ≠ 96 then 3 else if p ≠ (N.blk i).pages.length ∨ (N.blk i).half = true then 6 else if ep < N.fence then 7 else 0 := by
      unfold NA.progE
      rw [ha, if_neg (by simp)]
      rfl
    rw [he'] at he ⊢
    clear he' ha hi0 hi1
    obtain ⟨r, hr⟩ : ∃ r, (if p < 0 ∨ (N.pages : Int) ≤ p then (1 : Int) else if n ≠ 96 then 3 else if p ≠ ((N.blk i).pages.length : Int) ∨ (N.blk i).half = true then 6 else if ep < N.fence then 7 else 0) = r := ⟨_, rfl⟩
    rw [hr] at he ⊢
    have Hr := hid hr
    have Hne := hid he
    clear hr he
    have h1 := h.later ((Below.refl w.heap.size w).alloc (Nat.le_refl _) (.cells #[.pointer (some ⟨gb, i * 6, none⟩)] 103))
    have hb1 := Blk.new w #[.pointer (some ⟨gb, i * 6, none⟩)] 103
    have HB := hid ((Below.refl w.heap.size w).alloc (Nat.le_refl _) (.cells #[.pointer (some ⟨gb, i * 6, none⟩)] 103))
    go_enter Try.func25, Try.ntmps25
    go_wp2_with fail
    refine hat.mono ?_
    rintro e w ⟨rfl, rfl⟩
    clear hat
    go_upto_region 2 with (fail)
    obtain ⟨w1, hw1⟩ : ∃ W, W = w.alloc (.cells #[.pointer (some ⟨gb, i * 6, none⟩)] 103) := ⟨_, rfl⟩
    rw [← hw1] at h1 hb1 HB ⊢
    clear hw1
    obtain ⟨g1, hg1⟩ : ∃ g, w.heap.size = g := ⟨_, rfl⟩
    rw [hg1] at hb1 ⊢
    clear hg1 h
    obtain ⟨c0, c1, c2, -, -, -, -, -⟩ := h1.cells
    obtain ⟨⟨A', c', -, d0⟩, d1, d2, -, -, -⟩ := h1.recs i hi
    have k0 : w1.cell? ⟨g1, 0, none⟩ = some (.pointer (some ⟨gb, i * 6, none⟩)) := hb1.cell 0
    clear h1 hb1
    have hpg : (N.pages : Int) ≤ 32 := by omega
    generalize N.bs.length = nb at *
    by_cases hp0 : p < 0
    · replace Hr := hid (show (1 : Int) = r by rw [← Hr.out, if_pos (.inl hp0)])
      generalize N.pages = pgs at *
      generalize (N.blk i).pages.length = len at *
      go_wp2
      go_ret
      exact ⟨by (rw [← Hr.out]) <;> rfl, HB.out⟩
    · obtain ⟨p, rfl⟩ := Int.eq_ofNat_of_zero_le (show 0 ≤ p by omega)
      by_cases hp1 : N.pages ≤ p
      · replace Hr := hid (show (1 : Int) = r by rw [← Hr.out, if_pos (.inr (by omega))])
        have hp1' : (N.pages : Int) ≤ (p : Int) := by omega
        generalize N.pages = pgs at *
        generalize (N.blk i).pages.length = len at *
        go_wp2
        go_ret
        exact ⟨by (rw [← Hr.out]) <;> rfl, HB.out⟩
      · have hp1' : ¬ (N.pages : Int) ≤ (p : Int) := by omega
        replace Hr := hid (show (if n ≠ 96 then (3 : Int) else if (p : Int) ≠ ((N.blk i).pages.length : Int) ∨ (N.blk i).half = true then 6 else if ep < N.fence then 7 else 0) = r by rw [← Hr.out, if_neg (show ¬ ((p : Int) < 0 ∨ (N.pages : Int) ≤ p) by omega)])
        by_cases hn96 : n = 96
        · have hb1 : ((n : Int) != 96) = false := by rw [bne_eq_false_iff_eq]; omega
          replace Hr := hid (show (if (p : Int) ≠ ((N.blk i).pages.length : Int) ∨ (N.blk i).half = true then (6 : Int) else if ep < N.fence then 7 else 0) = r by rw [← Hr.out, if_neg (show ¬ (n ≠ 96) by simpa using hn96)])
          clear hn96
          by_cases hpl : p = (N.blk i).pages.length
          · have hb2 : ((p : Int) != ((N.blk i).pages.length : Int)) = false := by rw [bne_eq_false_iff_eq]; omega
            by_cases hh : (N.blk i).half = true
            · replace Hr := hid (show (6 : Int) = r by rw [← Hr.out, if_pos (show (p : Int) ≠ ((N.blk i).pages.length : Int) ∨ (N.blk i).half = true from .inr hh)])
              rw [hh] at d2
              clear hpl hh
              generalize N.pages = pgs at *
              generalize (N.blk i).pages.length = len at *
              go_wp2
              go_ret
              exact ⟨by (rw [← Hr.out]) <;> rfl, HB.out⟩
            · replace Hr := hid (show (if ep < N.fence then (7 : Int) else 0) = r by rw [← Hr.out, if_neg (show ¬ ((p : Int) ≠ ((N.blk i).pages.length : Int) ∨ (N.blk i).half = true) from (by rintro (h | h); exact h (by omega); exact hh h))])
              rw [Bool.not_eq_true] at hh
              rw [hh] at d2
              by_cases hf : ep < N.fence
              · replace Hr := hid (show (7 : Int) = r by rw [← Hr.out, if_pos hf])
                have hfd : decide (ep < N.fence) = true := decide_eq_true hf
                clear hpl hh
                generalize N.pages = pgs at *
                generalize (N.blk i).pages.length = len at *
                generalize N.fence = fe at *
                go_wp2
                go_ret
                exact ⟨by (rw [← Hr.out]) <;> rfl, HB.out⟩
              · exact absurd (by rw [← Hr.out, if_neg hf]) Hne.out
          · have hb2 : ((p : Int) != ((N.blk i).pages.length : Int)) = true := by rw [bne_iff_ne]; omega
            replace Hr := hid (show (6 : Int) = r by rw [← Hr.out, if_pos (show (p : Int) ≠ ((N.blk i).pages.length : Int) ∨ (N.blk i).half = true from .inl (by omega))])
            generalize N.pages = pgs at *
            generalize (N.blk i).pages.length = len at *
            go_wp2
            go_ret
            exact ⟨by (rw [← Hr.out]) <;> rfl, HB.out⟩
        · have hb1 : ((n : Int) != 96) = true := by rw [bne_iff_ne]; omega
          replace Hr := hid (show (3 : Int) = r by rw [← Hr.out, if_pos hn96])
          generalize N.pages = pgs at *
          generalize (N.blk i).pages.length = len at *
          go_wp2
          go_ret
          exact ⟨by (rw [← Hr.out]) <;> rfl, HB.out⟩
  · have hat := at_no F b gb pv wv N i w h ha
    have he' : N.progE i p n ep = N.atE i := by
      unfold NA.progE
      rw [if_pos ha]
    rw [he'] at he ⊢
    clear he' he
    obtain ⟨r, hr⟩ : ∃ r, N.atE i = r := ⟨_, rfl⟩
    rw [hr] at hat ha ⊢
    have hb : (r != 0) = true := by rw [bne_iff_ne]; exact ha
    have HB := hid ((Below.refl w.heap.size w).alloc (Nat.le_refl _) (.cells #[.pointer none] 103))
    clear hr h
    go_enter Try.func25, Try.ntmps25
    go_wp2_with fail
    refine hat.mono ?_
    rintro e w ⟨rfl, rfl⟩
    clear hat
    go_wp2
    go_ret
    exact ⟨rfl, HB.out⟩
end Go.Proofs.Ytcfildbgnjhjmaa.Nand
