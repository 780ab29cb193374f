import Derived.Test.YtcfildbgnjhjmaaNandRestart
set_option linter.unusedVariables false
set_option linter.unusedSimpArgs false
namespace Go.Proofs.Ytcfildbgnjhjmaa.Nand
open Go.RowKit Go.Proofs.Ytcfildbgnjhjmaa.Kit

def NA.page (N : NA) (i p : Int) : List Int := (N.blk i.toNat).pages.getD p.toNat []
theorem Arr.grown {w w' : World} {F : Nat → Prop} {b : Nat} {N : NA} (h : Arr w' F b N) (w : World) : Arr w' (grow F w w') b N := by
  obtain ⟨gb, pv, wv, h⟩ := h
  exact ⟨gb, pv, wv, h.grown w⟩
/-- Why nothing is read at an address that is known to be one of a block. -/
def NA.readE2 (N : NA) (i : Nat) (p : Int) : Int := if p < 0 ∨ N.pages ≤ p then 1 else if (N.blk i).pages.length ≤ p then 5 else if (N.blk i).half then 4 else 0
theorem readE_eq {N : NA} {i : Nat} {p : Int} (h : N.atE (i : Int) = 0) : N.readE (i : Int) p = N.readE2 i p := by
  unfold NA.readE NA.readE2
  rw [if_neg (by rw [h]; simp)]
  rfl
theorem readE_no {N : NA} {i p : Int} (h : N.atE i ≠ 0) : N.readE i p = N.atE i := by
  unfold NA.readE
  rw [if_pos h]
theorem readE_ok {N : NA} {i p : Int} (h : N.readE i p = 0) : N.atE i = 0 ∧ 0 ≤ p ∧ p < N.pages ∧ p < (N.blk i.toNat).pages.length ∧ (N.blk i.toNat).half = false := by
  unfold NA.readE at h
  by_cases h0 : N.atE i = 0
  · rw [if_neg (by rw [h0]; simp)] at h
    by_cases h1 : p < 0 ∨ N.pages ≤ p
    · rw [if_pos h1] at h
      cases h
    · rw [if_neg h1] at h
      by_cases h2 : ((N.blk i.toNat).pages.length : Int) ≤ p
      · rw [if_pos h2] at h
        cases h
      · rw [if_neg h2] at h
        cases hh : (N.blk i.toNat).half
        · exact ⟨h0, by omega, by omega, by omega, rfl⟩
        · rw [hh] at h
          cases h
  · rw [if_pos h0] at h
    exact absurd h h0

set_option maxHeartbeats 4000000 in
theorem read_no (F : Nat → Prop) (b : Nat) (N : NA) (i p : Int) (w : World) (h : Arr w F b N) (he : N.readE i p ≠ 0) :
    Calls Try.prog 65 #[.pointer (some ⟨b, 0, none⟩), .int .i64 i, .int .i64 p] w fun e w' => e = .returned (.tuple #[.slice none 0 0, .int .i64 (N.readE i p)]) ∧ w' = w := by
  obtain ⟨gb, pv, wv, h⟩ := h
  by_cases ha : N.atE i = 0
  · obtain ⟨hi0, hi1, ho⟩ := atE_zero ha
    obtain ⟨i, rfl⟩ := Int.eq_ofNat_of_zero_le hi0
    have hi : i < N.bs.length := by omega
    have hat := at_ok F b gb pv wv N i w h hi ho
    rw [readE_eq ha] at he ⊢
    obtain ⟨r, hr⟩ : ∃ r, N.readE2 i p = r := ⟨_, rfl⟩
    rw [hr] at he ⊢
    unfold NA.readE2 at hr
    have hnp := h.wf.np
    have hlen := h.wf.len i hi
    obtain ⟨-, c1, -, -, -, -, -, -⟩ := h.cells
    obtain ⟨⟨A', c', -, d0⟩, -, d2, -, -, -⟩ := h.recs i hi
    clear h ha hi0 hi1
    have hpg : (N.pages : Int) ≤ 32 := by omega
    by_cases hp0 : p < 0
    · have Hr := hid (show (1 : Int) = r by rw [← hr, if_pos (.inl hp0)])
      clear hr
      generalize N.pages = pgs at *
      generalize (N.blk i).pages.length = len at *
      go_enter Try.func65, Try.ntmps65
      go_wp2_with fail
      refine hat.mono ?_
      rintro e w ⟨rfl, rfl⟩
      clear hat
      go_wp2
      go_ret2
      exact ⟨by (rw [← Hr.out]) <;> rfl, rfl⟩
    · obtain ⟨p, rfl⟩ := Int.eq_ofNat_of_zero_le (show 0 ≤ p by omega)
      by_cases hp1 : N.pages ≤ p
      · have Hr := hid (show (1 : Int) = r by rw [← hr, if_pos (.inr (by omega))])
        have hp1' : (N.pages : Int) ≤ (p : Int) := by omega
        clear hr
        generalize N.pages = pgs at *
        generalize (N.blk i).pages.length = len at *
        go_enter Try.func65, Try.ntmps65
        go_wp2_with fail
        refine hat.mono ?_
        rintro e w ⟨rfl, rfl⟩
        clear hat
        go_wp2
        go_ret2
        exact ⟨by (rw [← Hr.out]) <;> rfl, rfl⟩
      · have hp1' : ¬ (N.pages : Int) ≤ (p : Int) := by omega
        rw [if_neg (show ¬ ((p : Int) < 0 ∨ (N.pages : Int) ≤ p) by omega)] at hr
        by_cases hpl : (N.blk i).pages.length ≤ p
        · have Hr := hid (show (5 : Int) = r by rw [← hr, if_pos (by omega)])
          have hpl' : ((N.blk i).pages.length : Int) ≤ (p : Int) := by omega
          clear hr
          generalize N.pages = pgs at *
          generalize (N.blk i).pages.length = len at *
          go_enter Try.func65, Try.ntmps65
          go_wp2_with fail
          refine hat.mono ?_
          rintro e w ⟨rfl, rfl⟩
          clear hat
          go_wp2
          go_ret2
          exact ⟨by (rw [← Hr.out]) <;> rfl, rfl⟩
        · have hpl' : ¬ ((N.blk i).pages.length : Int) ≤ (p : Int) := by omega
          rw [if_neg (by omega)] at hr
          cases hh : (N.blk i).half
          · rw [hh] at hr
            exact absurd hr.symm he
          · rw [hh] at hr d2
            have Hr := hid (show (4 : Int) = r from hr)
            clear hr hh
            generalize N.pages = pgs at *
            generalize (N.blk i).pages.length = len at *
            go_enter Try.func65, Try.ntmps65
            go_wp2_with fail
            refine hat.mono ?_
            rintro e w ⟨rfl, rfl⟩
            clear hat
            go_wp2
            go_ret2
            exact ⟨by (rw [← Hr.out]) <;> rfl, rfl⟩
  · have hat := at_no F b gb pv wv N i w h ha
    rw [readE_no ha] at he ⊢
    obtain ⟨r, hr⟩ : ∃ r, N.atE i = r := ⟨_, rfl⟩
    rw [hr] at hat ha ⊢
    have hb : (r != 0) = true := by rw [bne_iff_ne]; exact ha
    clear hr h he
    go_enter Try.func65, Try.ntmps65
    go_wp2_with fail
    refine hat.mono ?_
    rintro e w ⟨rfl, rfl⟩
    clear hat
    go_wp2
    go_ret2
    exact ⟨rfl, rfl⟩
theorem read_nil (i p : Int) (w : World) : Calls Try.prog 65 #[.pointer none, .int .i64 i, .int .i64 p] w fun e w' => e = .returned (.tuple #[.slice none 0 0, .int .i64 5]) ∧ w' = w := by
  have hat := at_nil i w
  go_enter Try.func65, Try.ntmps65
  go_wp2_with fail
  refine hat.mono ?_
  rintro e w ⟨rfl, rfl⟩
  go_wp2
  go_ret2
  exact ⟨rfl, rfl⟩
set_option maxHeartbeats 4000000 in
theorem read_yes (F : Nat → Prop) (b : Nat) (N : NA) (i p : Int) (w : World) (h : Arr w F b N) (he : N.readE i p = 0) :
    Calls Try.prog 65 #[.pointer (some ⟨b, 0, none⟩), .int .i64 i, .int .i64 p] w fun e w' => ∃ A c, e = .returned (.tuple #[.slice A 96 c, .int .i64 0]) ∧ w'.ownsRow w.heap.size 5 1 (.slice A 96 c) 96 ((N.page i p).map (Value.int .u8)) ∧ Below w.heap.size w w' := by
  obtain ⟨gb, pv, wv, h⟩ := h
  obtain ⟨ha, hp0, hp1, hp2, hh⟩ := readE_ok he
  obtain ⟨hi0, hi1, ho⟩ := atE_zero ha
  obtain ⟨i, rfl⟩ := Int.eq_ofNat_of_zero_le hi0
  obtain ⟨p, rfl⟩ := Int.eq_ofNat_of_zero_le hp0
  rw [show ((i : Int)).toNat = i by omega] at hp2 hh
  unfold NA.page
  rw [show ((i : Int)).toNat = i by omega, show ((p : Int)).toNat = p by omega]
  have hi : i < N.bs.length := by omega
  have hp2' : p < (N.blk i).pages.length := by omega
  have hat := at_ok F b gb pv wv N i w h hi ho
  obtain ⟨-, c1, -, -, -, -, -, -⟩ := h.cells
  obtain ⟨⟨A', c', hpe, d0⟩, -, d2, -, -, -⟩ := h.recs i hi
  rw [hh] at d2
  obtain ⟨xs, ho1, hf1, hpg⟩ := h.pgs i hi
  obtain ⟨u, hu, hul, hub⟩ := hpg p hp2'
  obtain ⟨Au, cu, hue⟩ := own_slice hub.1
  rw [hul] at hue
  subst hue
  rw [hpe] at ho1
  obtain ⟨g, cap, hge, -, -⟩ := World.ownsRow.form ho1 (by omega)
  injection hge with hA _ hc
  subst hA hc
  have hcell : w.cell? ⟨g, p, none⟩ = some (.slice Au 96 cu) := by
    have := ho1.cells (g := g) rfl p (.slice Au 96 cu) hu
    rwa [WideShapes.add_plain, Nat.zero_add] at this
  have hn96 := own_reads (k := .u8) (by have := hub.1; rw [hul] at this; exact this) hub.2.1
  have hcl := clone_own Au 96 cu _ w hn96.2 (by decide) (by decide)
  have hnp := h.wf.np
  have hlen := h.wf.len i hi
  have hle32 : (N.blk i).pages.length ≤ 32 := by omega
  have hpI : (p : Int) < ((N.blk i).pages.length : Int) := hp2
  clear h hpg hub ho1 hu hul hn96 hf1 hh ha hi0 hp0
  generalize (N.blk i).pages.getD p [] = pg at *
  generalize (N.blk i).pages.length = len at *
  generalize N.pages = pgs at *
  go_enter Try.func65, Try.ntmps65
  go_wp2_with fail
  refine hat.mono ?_
  rintro e w ⟨rfl, rfl⟩
  clear hat
  go_wp2_with fail
  refine hcl.mono ?_
  rintro e w' ⟨A2, c2, rfl, ho2, hB2⟩
  replace ho2 := hid ho2
  replace hB2 := hid hB2
  clear hcl
  go_wp2
  go_ret2
  exact ⟨A2, c2, rfl, ho2.out, hB2.out⟩

theorem prog_eq {N : NA} {i p : Nat} {q : List Int} {ep : Int} (h : N.progE (i : Int) (p : Int) q.length ep = 0) : N.prog (i : Int) (p : Int) q ep =
    if (N.begun i).off then ({ N.begun i with way := some ⟨i, some q, ((N.begun i).blk i).dead⟩ }, 9)
    else if ((N.begun i).blk i).dead then ((N.begun i).setB i { ((N.begun i).blk i).add (tornL q 0) with failed := true }, 8)
    else ((N.begun i).setB i (((N.begun i).blk i).add q), 0) := by
  unfold NA.prog
  rw [if_neg (by rw [h]; simp)]
  rfl
theorem progE_ok {N : NA} {i p : Int} {n : Nat} {ep : Int} (h : N.progE i p n ep = 0) : N.atE i = 0 ∧ 0 ≤ p ∧ p < N.pages ∧ n = 96 ∧ p = (N.blk i.toNat).pages.length ∧ (N.blk i.toNat).half = false ∧ N.fence ≤ ep := by
  unfold NA.progE at h
  by_cases h0 : N.atE i = 0
  · rw [if_neg (by rw [h0]; simp)] at h
    by_cases h1 : p < 0 ∨ N.pages ≤ p
    · rw [if_pos h1] at h
      cases h
    · rw [if_neg h1] at h
      by_cases h2 : n ≠ 96
      · rw [if_pos h2] at h
        cases h
      · rw [if_neg h2] at h
        by_cases h3 : p ≠ (N.blk i.toNat).pages.length ∨ (N.blk i.toNat).half = true
        · rw [if_pos h3] at h
          cases h
        · rw [if_neg h3] at h
          by_cases h4 : ep < N.fence
          · rw [if_pos h4] at h
            cases h
          · refine ⟨h0, by omega, by omega, by omega, ?_, ?_, by omega⟩
            · exact Classical.byContradiction fun e => h3 (.inl e)
            · cases hh : (N.blk i.toNat).half
              · rfl
              · exact absurd (.inr hh) h3
  · rw [if_pos h0] at h
    exact absurd h h0
theorem program_any (F : Nat → Prop) (b : Nat) (N : NA) (i p : Int) (A : Option Addr) (n c : Nat) (q : List Int) (ep : Int) (w : World) (h : Arr w F b N) (hz : Nums w .u8 A n q) (hn : n ≤ 140737488355328) :
    Calls Try.prog 25 #[.pointer (some ⟨b, 0, none⟩), .int .i64 i, .int .i64 p, .slice A n c, .int .u64 ep] w fun e w' => e = .returned (.int .i64 (N.prog i p q ep).2) ∧ Arr w' (grow F w w') b (N.prog i p q ep).1 ∧ Fr F w w' := by
  obtain ⟨gb, pv, wv, h⟩ := h
  by_cases he : N.progE i p n ep = 0
  · obtain ⟨ha, hp0, hp1, rfl, hpl, hh, hf⟩ := progE_ok he
    obtain ⟨hi0, hi1, ho⟩ := atE_zero ha
    obtain ⟨i, rfl⟩ := Int.eq_ofNat_of_zero_le hi0
    obtain ⟨p, rfl⟩ := Int.eq_ofNat_of_zero_le hp0
    rw [show ((i : Int)).toNat = i by omega] at hpl hh
    rw [prog_eq (by rw [hz.len]; exact he)]
    have hyp : N.atE (i : Int) = 0 ∧ (p = (N.blk i).pages.length ∧ p < N.pages) ∧ (N.blk i).half = false ∧ N.fence ≤ ep := ⟨ha, ⟨by omega, by omega⟩, hh, hf⟩
    cases ho2 : (N.begun i).off
    · cases hd : ((N.begun i).blk i).dead
      · rw [if_neg (by simp), if_neg (by simp)]
        exact prog_on F b gb pv wv N i p A c q ep w h hz hyp ho2 hd
      · rw [if_neg (by simp), if_pos rfl]
        exact prog_dead F b gb pv wv N i p A c q ep w h hz hyp ho2 hd
    · rw [if_pos rfl]
      exact prog_off F b gb pv wv N i p A c q ep w h hz hyp ho2
  · have e1 : N.prog i p q ep = (N, N.progE i p n ep) := by
      unfold NA.prog
      rw [hz.len, if_pos he]
    rw [e1]
    refine (prog_no F b gb pv wv N i p A n c ep w h hn he).mono fun e w' hw => ?_
    exact ⟨hw.1, ⟨gb, pv, wv, (h.later hw.2).grown w⟩, Fr.of_below hw.2⟩
theorem program_nil (i p : Int) (A : Option Addr) (n c : Nat) (ep : Int) (w : World) : Calls Try.prog 25 #[.pointer none, .int .i64 i, .int .i64 p, .slice A n c, .int .u64 ep] w fun e w' => e = .returned (.int .i64 5) ∧ Below w.heap.size w w' := by
  have hat := at_nil i w
  have HB := hid ((Below.refl w.heap.size w).alloc (Nat.le_refl _) (.cells #[.pointer none] 103))
  go_enter Try.func25, Try.ntmps25
  go_wp2_with fail
  refine hat.mono ?_
  rintro e w ⟨rfl, rfl⟩
  go_wp2
  go_ret
  exact ⟨rfl, HB.out⟩
theorem erase_any (F : Nat → Prop) (b : Nat) (N : NA) (i ep : Int) (w : World) (h : Arr w F b N) :
    Calls Try.prog 29 #[.pointer (some ⟨b, 0, none⟩), .int .i64 i, .int .u64 ep] w fun e w' => e = .returned (.int .i64 (N.erase i ep).2) ∧ Arr w' (grow F w w') b (N.erase i ep).1 ∧ Fr F w w' := by
  obtain ⟨gb, pv, wv, h⟩ := h
  by_cases he : N.eraseE i ep = 0
  · have ha : N.atE i = 0 ∧ N.fence ≤ ep := by
      unfold NA.eraseE at he
      by_cases h0 : N.atE i = 0
      · rw [if_neg (by rw [h0]; simp)] at he
        by_cases h1 : ep < N.fence
        · rw [if_pos h1] at he
          cases he
        · exact ⟨h0, by omega⟩
      · rw [if_pos h0] at he
        exact absurd he h0
    obtain ⟨hi0, hi1, ho⟩ := atE_zero ha.1
    obtain ⟨i, rfl⟩ := Int.eq_ofNat_of_zero_le hi0
    exact erase_go F b gb pv wv N i ep w h (by omega) ho ha.2
  · have e1 : N.erase i ep = (N, N.eraseE i ep) := by
      unfold NA.erase
      rw [if_pos he]
    rw [e1]
    refine (erase_no F b gb pv wv N i ep w h he).mono fun e w' hw => ?_
    exact ⟨hw.1, ⟨gb, pv, wv, (h.later hw.2).grown w⟩, Fr.of_below hw.2⟩
theorem erase_nil (i : Int) (ep : Int) (w : World) : Calls Try.prog 29 #[.pointer none, .int .i64 i, .int .u64 ep] w fun e w' => e = .returned (.int .i64 5) ∧ Below w.heap.size w w' := by
  have hat := at_nil i w
  have HB := hid ((Below.refl w.heap.size w).alloc (Nat.le_refl _) (.cells #[.pointer none] 103))
  go_enter Try.func29, Try.ntmps29
  go_wp2_with fail
  refine hat.mono ?_
  rintro e w ⟨rfl, rfl⟩
  go_wp2
  go_ret
  exact ⟨rfl, HB.out⟩
end Go.Proofs.Ytcfildbgnjhjmaa.Nand
