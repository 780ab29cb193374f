import Derived.Test.YtpcbpljdiacbmaaJNandA
import Derived.Deep.DeepCutAuto
import Derived.Laws.MakeOwn
set_option linter.unusedVariables false
set_option linter.unusedSimpArgs false
namespace Go.Proofs.Ytpcbpljdiacbmaa.Nand
open Go.RowKit Go.Proofs.Ytpcbpljdiacbmaa.Kit

end Go.Proofs.Ytpcbpljdiacbmaa.Nand

set_option linter.unusedVariables false
set_option linter.unusedSimpArgs false
namespace Go.Proofs.Ytpcbpljdiacbmaa.Nand
open Go.RowKit Go.Proofs.Ytpcbpljdiacbmaa.Kit

theorem AQ.grown {w' : World} {F : Nat → Prop} {b gb : Nat} {pv : Nat → Value} {wv : Value} {N : NA} (h : AQ w' F b gb pv wv N) (w : World) : AQ w' (grow F w w') b gb pv wv N :=
  h.mono (fun g hg => .inl hg) (fun g hg => by rcases hg with hg | hg; exact h.low g hg; exact hg.2)
end Go.Proofs.Ytpcbpljdiacbmaa.Nand

set_option linter.unusedVariables false
set_option linter.unusedSimpArgs false
namespace Go.Proofs.Ytpcbpljdiacbmaa.Nand
open Go.RowKit Go.Proofs.Ytpcbpljdiacbmaa.Kit

def NA.page (N : NA) (i p : Int) : List Int := (N.blk i.toNat).pages.getD p.toNat []
theorem Arr.grown {w w' : World} {F : Nat → Prop} {b : Nat} {N : NA} (h : Arr w' F b N) (w : World) : Arr w' (grow F w w') b N := by
  obtain ⟨gb, pv, wv, h⟩ := h
  exact ⟨gb, pv, wv, h.grown w⟩
/-- Why nothing is read at an address that is known to be one of a block. -/
def NA.readE2 (N : NA) (i : Nat) (p : Int) : Int := if p < 0 ∨ N.pages ≤ p then 1 else if (N.blk i).pages.length ≤ p then 5 else if (N.blk i).half then 4 else 0
theorem readE_eq {N : NA} {i : Nat} {p : Int} (h : N.atE (i : Int) = 0) : N.readE (i : Int) p = N.readE2 i p := by
  unfold NA.readE NA.readE2
  rw [if_neg (by rw [h]; simp)]
  rfl
theorem readE_no {N : NA} {i p : Int} (h : N.atE i ≠ 0) : N.readE i p = N.atE i := by
  unfold NA.readE
  rw [if_pos h]
theorem readE_ok {N : NA} {i p : Int} (h : N.readE i p = 0) : N.atE i = 0 ∧ 0 ≤ p ∧ p < N.pages ∧ p < (N.blk i.toNat).pages.length ∧ (N.blk i.toNat).half = false := by
  unfold NA.readE at h
  by_cases h0 : N.atE i = 0
  · rw [if_neg (by rw [h0]; simp)] at h
    by_cases h1 : p < 0 ∨ N.pages ≤ p
    · rw [if_pos h1] at h
      cases h
    · rw [if_neg h1] at h
      by_cases h2 : ((N.blk i.toNat).pages.length : Int) ≤ p
      · rw [if_pos h2] at h
        cases h
      · rw [if_neg h2] at h
        cases hh : (N.blk i.toNat).half
        · exact ⟨h0, by omega, by omega, by omega, rfl⟩
        · rw [hh] at h
          cases h
  · rw [if_pos h0] at h
    exact absurd h h0

set_option maxHeartbeats 4000000 in
theorem read_no (F : Nat → Prop) (b : Nat) (N : NA) (i p : Int) (w : World) (h : Arr w F b N) (he : N.readE i p ≠ 0) :
    Calls Try.prog 32 #[.pointer (some ⟨b, 0, none⟩), .int .i64 i, .int .i64 p] w fun e w' => e = .returned (.tuple #[.slice none 0 0, .int .i64 (N.readE i p)]) ∧ w' = w := by
  obtain ⟨gb, pv, wv, h⟩ := h
  by_cases ha : N.atE i = 0
  · obtain ⟨hi0, hi1, ho⟩ := atE_zero ha
    obtain ⟨i, rfl⟩ := Int.eq_ofNat_of_zero_le hi0
    have hi : i < N.bs.length := by omega
    have hat := at_ok F b gb pv wv N i w h hi ho
    rw [readE_eq ha] at he ⊢
    obtain ⟨r, hr⟩ : ∃ r, N.readE2 i p = r := ⟨_, rfl⟩
    rw [hr] at he ⊢
    unfold NA.readE2 at hr
    have hnp := h.wf.np
    have hlen := h.wf.len i hi
    obtain ⟨-, c1, -, -, -, -, -, -⟩ := h.cells
    obtain ⟨⟨A', c', -, d0⟩, -, d2, -, -, -⟩ := h.recs i hi
    clear h ha hi0 hi1
    have hpg : (N.pages : Int) ≤ 32 := by omega
    by_cases hp0 : p < 0
    · have Hr := hid (show (1 : Int) = r by rw [← hr, if_pos (.inl hp0)])
      clear hr
      generalize N.pages = pgs at *
      generalize (N.blk i).pages.length = len at *
      go_enter Try.func32, Try.ntmps32
      go_wp2_with fail
      refine hat.mono ?_
      rintro e w ⟨rfl, rfl⟩
      clear hat
      go_wp2
      go_ret2
      exact ⟨by (rw [← Hr.out]) <;> rfl, rfl⟩
    · obtain ⟨p, rfl⟩ := Int.eq_ofNat_of_zero_le (show 0 ≤ p by omega)
      by_cases hp1 : N.pages ≤ p
      · have Hr := hid (show (1 : Int) = r by rw [← hr, if_pos (.inr (by omega))])
        have hp1' : (N.pages : Int) ≤ (p : Int) := by omega
        clear hr
        generalize N.pages = pgs at *
        generalize (N.blk i).pages.length = len at *
        go_enter Try.func32, Try.ntmps32
        go_wp2_with fail
        refine hat.mono ?_
        rintro e w ⟨rfl, rfl⟩
        clear hat
        go_wp2
        go_ret2
        exact ⟨by (rw [← Hr.out]) <;> rfl, rfl⟩
      · have hp1' : ¬ (N.pages : Int) ≤ (p : Int) := by omega
        rw [if_neg (show ¬ ((p : Int) < 0 ∨ (N.pages : Int) ≤ p) by omega)] at hr
        by_cases hpl : (N.blk i).pages.length ≤ p
        · have Hr := hid (show (5 : Int) = r by rw [← hr, if_pos (by omega)])
          have hpl' : ((N.blk i).pages.length : Int) ≤ (p : Int) := by omega
          clear hr
          generalize N.pages = pgs at *
          generalize (N.blk i).pages.length = len at *
          go_enter Try.func32, Try.ntmps32
          go_wp2_with fail
          refine hat.mono ?_
          rintro e w ⟨rfl, rfl⟩
          clear hat
          go_wp2
          go_ret2
          exact ⟨by (rw [← Hr.out]) <;> rfl, rfl⟩
        · have hpl' : ¬ ((N.blk i).pages.length : Int) ≤ (p : Int) := by omega
          rw [if_neg (by omega)] at hr
          cases hh : (N.blk i).half
          · rw [hh] at hr
            exact absurd hr.symm he
          · rw [hh] at hr d2
            have Hr := hid (show (4 : Int) = r from hr)
            clear hr hh
            generalize N.pages = pgs at *
            generalize (N.blk i).pages.length = len at *
            go_enter Try.func32, Try.ntmps32
            go_wp2_with fail
            refine hat.mono ?_
            rintro e w ⟨rfl, rfl⟩
            clear hat
            go_wp2
            go_ret2
            exact ⟨by (rw [← Hr.out]) <;> rfl, rfl⟩
  · have hat := at_no F b gb pv wv N i w h ha
    rw [readE_no ha] at he ⊢
    obtain ⟨r, hr⟩ : ∃ r, N.atE i = r := ⟨_, rfl⟩
    rw [hr] at hat ha ⊢
    have hb : (r != 0) = true := by rw [bne_iff_ne]; exact ha
    clear hr h he
    go_enter Try.func32, Try.ntmps32
    go_wp2_with fail
    refine hat.mono ?_
    rintro e w ⟨rfl, rfl⟩
    clear hat
    go_wp2
    go_ret2
    exact ⟨rfl, rfl⟩
set_option maxHeartbeats 4000000 in
theorem read_yes (F : Nat → Prop) (b : Nat) (N : NA) (i p : Int) (w : World) (h : Arr w F b N) (he : N.readE i p = 0) :
    Calls Try.prog 32 #[.pointer (some ⟨b, 0, none⟩), .int .i64 i, .int .i64 p] w fun e w' => ∃ A c, e = .returned (.tuple #[.slice A 96 c, .int .i64 0]) ∧ w'.ownsRow w.heap.size 5 1 (.slice A 96 c) 96 ((N.page i p).map (Value.int .u8)) ∧ Below w.heap.size w w' := by
  obtain ⟨gb, pv, wv, h⟩ := h
  obtain ⟨ha, hp0, hp1, hp2, hh⟩ := readE_ok he
  obtain ⟨hi0, hi1, ho⟩ := atE_zero ha
  obtain ⟨i, rfl⟩ := Int.eq_ofNat_of_zero_le hi0
  obtain ⟨p, rfl⟩ := Int.eq_ofNat_of_zero_le hp0
  rw [show ((i : Int)).toNat = i by omega] at hp2 hh
  unfold NA.page
  rw [show ((i : Int)).toNat = i by omega, show ((p : Int)).toNat = p by omega]
  have hi : i < N.bs.length := by omega
  have hp2' : p < (N.blk i).pages.length := by omega
  have hat := at_ok F b gb pv wv N i w h hi ho
  obtain ⟨-, c1, -, -, -, -, -, -⟩ := h.cells
  obtain ⟨⟨A', c', hpe, d0⟩, -, d2, -, -, -⟩ := h.recs i hi
  rw [hh] at d2
  obtain ⟨xs, ho1, hf1, hpg⟩ := h.pgs i hi
  obtain ⟨u, hu, hul, hub⟩ := hpg p hp2'
  obtain ⟨Au, cu, hue⟩ := own_slice hub.1
  rw [hul] at hue
  subst hue
  rw [hpe] at ho1
  obtain ⟨g, cap, hge, -, -⟩ := World.ownsRow.form ho1 (by omega)
  injection hge with hA _ hc
  subst hA hc
  have hcell : w.cell? ⟨g, p, none⟩ = some (.slice Au 96 cu) := by
    have := ho1.cells (g := g) rfl p (.slice Au 96 cu) hu
    rwa [WideShapes.add_plain, Nat.zero_add] at this
  have hn96 := own_reads (k := .u8) (by have := hub.1; rw [hul] at this; exact this) hub.2.1
  have hcl := clone_own Au 96 cu _ w hn96.2 (by decide) (by decide)
  have hnp := h.wf.np
  have hlen := h.wf.len i hi
  have hle32 : (N.blk i).pages.length ≤ 32 := by omega
  have hpI : (p : Int) < ((N.blk i).pages.length : Int) := hp2
  clear h hpg hub ho1 hu hul hn96 hf1 hh ha hi0 hp0
  generalize (N.blk i).pages.getD p [] = pg at *
  generalize (N.blk i).pages.length = len at *
  generalize N.pages = pgs at *
  go_enter Try.func32, Try.ntmps32
  go_wp2_with fail
  refine hat.mono ?_
  rintro e w ⟨rfl, rfl⟩
  clear hat
  go_wp2_with fail
  refine hcl.mono ?_
  rintro e w' ⟨A2, c2, rfl, ho2, hB2⟩
  replace ho2 := hid ho2
  replace hB2 := hid hB2
  clear hcl
  go_wp2
  go_ret2
  exact ⟨A2, c2, rfl, ho2.out, hB2.out⟩

theorem prog_eq {N : NA} {i p : Nat} {q : List Int} {ep : Int} (h : N.progE (i : Int) (p : Int) q.length ep = 0) : N.prog (i : Int) (p : Int) q ep =
    if (N.begun i).off then ({ N.begun i with way := some ⟨i, some q, ((N.begun i).blk i).dead⟩ }, 9)
    else if ((N.begun i).blk i).dead then ((N.begun i).setB i { ((N.begun i).blk i).add (tornL q 0) with failed := true }, 8)
    else ((N.begun i).setB i (((N.begun i).blk i).add q), 0) := by
  unfold NA.prog
  rw [if_neg (by rw [h]; simp)]
  rfl
theorem progE_ok {N : NA} {i p : Int} {n : Nat} {ep : Int} (h : N.progE i p n ep = 0) : N.atE i = 0 ∧ 0 ≤ p ∧ p < N.pages ∧ n = 96 ∧ p = (N.blk i.toNat).pages.length ∧ (N.blk i.toNat).half = false ∧ N.fence ≤ ep := by
  unfold NA.progE at h
  by_cases h0 : N.atE i = 0
  · rw [if_neg (by rw [h0]; simp)] at h
    by_cases h1 : p < 0 ∨ N.pages ≤ p
    · rw [if_pos h1] at h
      cases h
    · rw [if_neg h1] at h
      by_cases h2 : n ≠ 96
      · rw [if_pos h2] at h
        cases h
      · rw [if_neg h2] at h
        by_cases h3 : p ≠ (N.blk i.toNat).pages.length ∨ (N.blk i.toNat).half = true
        · rw [if_pos h3] at h
          cases h
        · rw [if_neg h3] at h
          by_cases h4 : ep < N.fence
          · rw [if_pos h4] at h
            cases h
          · refine ⟨h0, by omega, by omega, by omega, ?_, ?_, by omega⟩
            · exact Classical.byContradiction fun e => h3 (.inl e)
            · cases hh : (N.blk i.toNat).half
              · rfl
              · exact absurd (.inr hh) h3
  · rw [if_pos h0] at h
    exact absurd h h0
theorem program_any (F : Nat → Prop) (b : Nat) (N : NA) (i p : Int) (A : Option Addr) (n c : Nat) (q : List Int) (ep : Int) (w : World) (h : Arr w F b N) (hz : Nums w .u8 A n q) (hn : n ≤ 140737488355328) :
    Calls Try.prog 79 #[.pointer (some ⟨b, 0, none⟩), .int .i64 i, .int .i64 p, .slice A n c, .int .u64 ep] w fun e w' => e = .returned (.int .i64 (N.prog i p q ep).2) ∧ Arr w' (grow F w w') b (N.prog i p q ep).1 ∧ Fr F w w' := by
  obtain ⟨gb, pv, wv, h⟩ := h
  by_cases he : N.progE i p n ep = 0
  · obtain ⟨ha, hp0, hp1, rfl, hpl, hh, hf⟩ := progE_ok he
    obtain ⟨hi0, hi1, ho⟩ := atE_zero ha
    obtain ⟨i, rfl⟩ := Int.eq_ofNat_of_zero_le hi0
    obtain ⟨p, rfl⟩ := Int.eq_ofNat_of_zero_le hp0
    rw [show ((i : Int)).toNat = i by omega] at hpl hh
    rw [prog_eq (by rw [hz.len]; exact he)]
    have hyp : N.atE (i : Int) = 0 ∧ (p = (N.blk i).pages.length ∧ p < N.pages) ∧ (N.blk i).half = false ∧ N.fence ≤ ep := ⟨ha, ⟨by omega, by omega⟩, hh, hf⟩
    cases ho2 : (N.begun i).off
    · cases hd : ((N.begun i).blk i).dead
      · rw [if_neg (by simp), if_neg (by simp)]
        exact prog_on F b gb pv wv N i p A c q ep w h hz hyp ho2 hd
      · rw [if_neg (by simp), if_pos rfl]
        exact prog_dead F b gb pv wv N i p A c q ep w h hz hyp ho2 hd
    · rw [if_pos rfl]
      exact prog_off F b gb pv wv N i p A c q ep w h hz hyp ho2
  · have e1 : N.prog i p q ep = (N, N.progE i p n ep) := by
      unfold NA.prog
      rw [hz.len, if_pos he]
    rw [e1]
    refine (prog_no F b gb pv wv N i p A n c ep w h hn he).mono fun e w' hw => ?_
    exact ⟨hw.1, ⟨gb, pv, wv, (h.later hw.2).grown w⟩, Fr.of_below hw.2⟩
theorem erase_any (F : Nat → Prop) (b : Nat) (N : NA) (i ep : Int) (w : World) (h : Arr w F b N) :
    Calls Try.prog 64 #[.pointer (some ⟨b, 0, none⟩), .int .i64 i, .int .u64 ep] w fun e w' => e = .returned (.int .i64 (N.erase i ep).2) ∧ Arr w' (grow F w w') b (N.erase i ep).1 ∧ Fr F w w' := by
  obtain ⟨gb, pv, wv, h⟩ := h
  by_cases he : N.eraseE i ep = 0
  · have ha : N.atE i = 0 ∧ N.fence ≤ ep := by
      unfold NA.eraseE at he
      by_cases h0 : N.atE i = 0
      · rw [if_neg (by rw [h0]; simp)] at he
        by_cases h1 : ep < N.fence
        · rw [if_pos h1] at he
          cases he
        · exact ⟨h0, by omega⟩
      · rw [if_pos h0] at he
        exact absurd he h0
    obtain ⟨hi0, hi1, ho⟩ := atE_zero ha.1
    obtain ⟨i, rfl⟩ := Int.eq_ofNat_of_zero_le hi0
    exact erase_go F b gb pv wv N i ep w h (by omega) ho ha.2
  · have e1 : N.erase i ep = (N, N.eraseE i ep) := by
      unfold NA.erase
      rw [if_pos he]
    rw [e1]
    refine (erase_no F b gb pv wv N i ep w h he).mono fun e w' hw => ?_
    exact ⟨hw.1, ⟨gb, pv, wv, (h.later hw.2).grown w⟩, Fr.of_below hw.2⟩
end Go.Proofs.Ytpcbpljdiacbmaa.Nand

set_option linter.unusedVariables false
set_option linter.unusedSimpArgs false
namespace Go.Proofs.Ytpcbpljdiacbmaa.Nand
open Go.RowKit Go.Proofs.Ytpcbpljdiacbmaa.Kit

theorem newA_len (n p : Nat) (bad : List Int) : (newA n p bad).bs.length = n := by simp [newA]
theorem newA_blk (n p : Nat) (bad : List Int) (i : Nat) (h : i < n) : (newA n p bad).blk i = newB (decide ((i : Int) ∈ bad)) := by
  unfold NA.blk newA
  simp only
  rw [List.getD_eq_getElem?_getD, List.getElem?_map, List.getElem?_range h]
  rfl
theorem newA_snoc (n p : Nat) (bad : List Int) (x : Nat) (h : x < n) : (newA n p bad).setB x { (newA n p bad).blk x with dead := true, failed := true } = newA n p (bad ++ [(x : Int)]) := by
  unfold NA.setB
  rw [newA_blk n p bad x h]
  unfold newA
  simp only
  congr 1
  refine List.ext_getElem (by simp) (fun j h1 h2 => ?_)
  have hj : j < n := by simpa using h2
  rw [List.getElem_set]
  simp only [List.getElem_map, List.getElem_range]
  by_cases e : x = j
  · subst e
    rw [if_pos rfl]
    unfold newB
    simp
  · rw [if_neg e]
    congr 1
    have e2 : ((j : Int) ∈ bad ++ [(x : Int)]) ↔ ((j : Int) ∈ bad) := by
      rw [List.mem_append, List.mem_singleton]
      constructor
      · rintro (h | h)
        · exact h
        · omega
      · exact .inl
    simp only [e2]
theorem newA_wf (n p : Nat) (bad : List Int) (hn : 1 ≤ n ∧ n ≤ 64) (hp : 1 ≤ p ∧ p ≤ 32) : (newA n p bad).Wf := by
  refine ⟨by rw [newA_len]; exact hn, hp, fun i hi => ?_, (fun u hu => nomatch hu), Nat.zero_le _, fun i hi => ?_⟩
  · rw [newA_len] at hi
    rw [newA_blk n p bad i hi]
    exact Nat.zero_le _
  · rw [newA_len] at hi
    rw [newA_blk n p bad i hi]
    exact Nat.zero_le _
def zB : Array Value := #[.slice none 0 0, .int .i64 0, .bool false, .bool false, .bool false, .int .i64 0]
def newF (w w' : World) : Nat → Prop := fun g => w.heap.size ≤ g ∧ g < w'.heap.size
theorem newAR (w W : World) (n p : Nat) (hn : 1 ≤ n ∧ n ≤ 64) (hp : 1 ≤ p ∧ p ≤ 32) (hg : Blk W w.heap.size (madeCells zB (n * 6)) 70) (hb : Blk W (w.heap.size + 1) (hdOf w.heap.size (newA n p []) .nilFunc) 67) : AR W (newF w W) (w.heap.size + 1) w.heap.size (fun _ => .slice none 0 0) .nilFunc (newA n p []) := by
  have h1 := hg.lt
  have h2 := hb.lt
  refine ⟨hb, ⟨_, hg, by rw [newA_len]; simp [size_madeCells], fun i hi k v hv => ?_⟩, fun i hi => ?_, fun i j _ _ _ g hg => (nomatch hg), rfl, ⟨by omega, h2⟩, ⟨Nat.le_refl _, h1⟩, fun g hg => hg.2, newA_wf n p [] hn hp⟩
  · rw [newA_len] at hi
    have hk := recOf_lt hv
    rw [show (newA n p []).bs.getD i default = (newA n p []).blk i from rfl, newA_blk n p [] i hi] at hv
    have hsz : i * 6 + k < n * 6 := by omega
    have : (madeCells zB (n * 6))[i * 6 + k]? = some ((recOf (.slice none 0 0) (newB false))[k]'(by exact hk)) := by
      rw [Array.getElem?_eq_getElem (by simp [size_madeCells]; exact hsz)]
      congr 1
      have hm : (i * 6 + k) % 6 = k := by omega
      have hz6 : zB.size = 6 := rfl
      have : k = 0 ∨ k = 1 ∨ k = 2 ∨ k = 3 ∨ k = 4 ∨ k = 5 := by omega
      rcases this with rfl | rfl | rfl | rfl | rfl | rfl <;> simp [madeCells, hz6, hm, zB, recOf, newB]
    rw [this]
    rw [← hv]
    simp only [List.not_mem_nil, decide_false]
    exact (List.getElem?_eq_getElem hk).symm
  · rw [newA_len] at hi
    rw [newA_blk n p [] i hi]
    exact nilPages _ _

set_option maxRecDepth 100000 in
set_option maxHeartbeats 8000000 in
theorem new_any (nb pg : Nat) (A : Option Addr) (m c : Nat) (bad : List Int) (w : World) (hn : 1 ≤ nb ∧ nb ≤ 64) (hp : 1 ≤ pg ∧ pg ≤ 32) (hz : Nums w .i64 A m bad) (hbad : ∀ x ∈ bad, 0 ≤ x ∧ x < (nb : Int)) :
    Calls Try.prog 15 #[.int .i64 (nb : Int), .int .i64 (pg : Int), .slice A m c] w fun e w' => ∃ b, e = .returned (.tuple #[.pointer (some ⟨b, 0, none⟩), .int .i64 0]) ∧ Arr w' (newF w w') b (newA nb pg bad) ∧ Below w.heap.size w w' := by
  obtain ⟨i0, hi0, hz0⟩ : ∃ i : TypeInfo, Try.prog.info? 70 = some i ∧ i.zero = some (.agg zB) ∧ i.size = 6 ∧ i.bytes ≤ 64 := ⟨_, rfl, rfl, rfl, by decide⟩
  have m0 : ∀ W : World, (Instr.makeSlice 64 (.int .i64 (nb : Int)) (.int .i64 (nb : Int))).run Try.prog W = .ok (.slice (some ⟨W.heap.size, 0, none⟩) nb nb) (W.alloc (.cells (madeCells zB (nb * 6)) 70)) := fun W => by
    have := run_make (P := Try.prog) W 64 70 i0 _ Try.underlying64 hi0 hz0.1 .i64 .i64 (nb : Int) (nb : Int) (by omega) (Int.le_refl _) (by have := hz0.2.2; have h2 : (i0.bytes : Int) * (nb : Int) ≤ 64 * 64 := Int.mul_le_mul (by omega) (by omega) (by omega) (by omega); omega) (by omega)
    rw [hz0.2.1, Int.toNat_natCast] at this
    exact this
  clear hi0 hz0
  have h1 : (1 : Int) ≤ (nb : Int) := by omega
  have h2 : (nb : Int) ≤ 64 := by omega
  have h3 : (1 : Int) ≤ (pg : Int) := by omega
  have h4 : (pg : Int) ≤ 32 := by omega
  have hm := hz.most
  have Hl := hid hz.len
  have Hz := hid hz
  have HAR := hid (newAR w)
  have Hbad := hid hbad
  clear hz hbad
  go_enter Try.func15, Try.ntmps15
  go_upto_region 4 with (fail)
  obtain ⟨gb, hgb⟩ : ∃ g, w.heap.size = g := ⟨_, rfl⟩
  obtain ⟨zz, hzz⟩ : ∃ z, madeCells zB (nb * 6) = z := ⟨_, rfl⟩
  obtain ⟨w2, hw2⟩ : ∃ W, (w.alloc (.cells (madeCells zB (nb * 6)) 70)).alloc (.cells (hdOf w.heap.size (newA nb pg []) .nilFunc) 67) = W := ⟨_, rfl⟩
  have hA2 : AR w2 (newF w w2) (w.heap.size + 1) w.heap.size (fun _ => .slice none 0 0) .nilFunc (newA nb pg []) := by
    rw [← hw2]
    refine HAR.out _ nb pg hn hp ((Blk.new w _ _).alloc _) ?_
    have := Blk.new (w.alloc (.cells (madeCells zB (nb * 6)) 70)) (hdOf w.heap.size (newA nb pg []) .nilFunc) 67
    simpa using this
  have hB2 : Below w.heap.size w w2 := by rw [← hw2]; exact ((Below.refl _ _).alloc (Nat.le_refl _) _).alloc (by simp) _
  have hgoal : (w.alloc (.cells (madeCells zB (nb * 6)) 70)).alloc (.cells #[.slice (some ⟨w.heap.size, 0, none⟩) nb nb, .int .i64 (pg : Int), .int .u64 0, .int .i64 0, .int .i64 0, .bool false, .int .i64 0, .nilFunc] 67) = w2 := by
    rw [← hw2]
    unfold hdOf
    rw [newA_len]
    rfl
  rw [hgoal]
  clear hgoal hw2 hzz m0
  rw [hgb] at hA2 ⊢
  have Hgb := hid hgb
  clear hgb
  obtain ⟨b, hb⟩ : ∃ b, gb + 1 = b := ⟨_, rfl⟩
  rw [hb] at hA2 ⊢
  clear hb
  go_wp2
  go_loopw [32] (fun i w' => ∃ k : Nat, k ≤ m ∧ i = .int .i64 (k : Int) ∧ AR w' (newF w w') b gb (fun _ => .slice none 0 0) .nilFunc (newA nb pg (bad.take k)) ∧ Below w.heap.size w w') (fun i _ => m - (intOf i).toNat)
  case atStart => exact ⟨0, by omega, rfl, hA2, hB2⟩
  case round =>
    clear hA2 hB2
    obtain ⟨k, hk, rfl, hA, hB⟩ := hrel
    by_cases hlt : k < m
    · obtain ⟨bz, oz, rfl, hcz⟩ := (Hz.out.below hB).at_ k hlt
      have hmem : bad.getD k 0 ∈ bad := by
        rw [List.getD_eq_getElem?_getD, List.getElem?_eq_getElem (by rw [Hl.out]; exact hlt)]
        exact List.getElem_mem _
      obtain ⟨hx0, hx1⟩ := Hbad.out _ hmem
      obtain ⟨x, hx⟩ := Int.eq_ofNat_of_zero_le hx0
      have htk : bad.take (k + 1) = bad.take k ++ [(x : Int)] := by
        rw [List.take_succ_eq_append_getElem (by rw [Hl.out]; exact hlt), ← hx, List.getD_eq_getElem?_getD, List.getElem?_eq_getElem (by rw [Hl.out]; exact hlt)]
        rfl
      rw [hx] at hcz hx1
      have hxn : x < nb := by omega
      have hxl : x < (newA nb pg (bad.take k)).bs.length := by rw [newA_len]; exact hxn
      have k0 : wr.cell? ⟨b, 0, none⟩ = some (.slice (some ⟨gb, 0, none⟩) nb nb) := by
        have := hA.hd.cell 0
        rw [show (hdOf gb (newA nb pg (bad.take k)) Value.nilFunc)[0]? = some (.slice (some ⟨gb, 0, none⟩) (newA nb pg (bad.take k)).bs.length (newA nb pg (bad.take k)).bs.length) from rfl, newA_len] at this
        exact this
      obtain ⟨-, -, -, d3, d4, -⟩ := hA.recs x hxl
      rw [newA_blk nb pg _ x hxn] at d3 d4
      have f3 := hA.row.free (x * 6 + 3)
      have f4 := hA.row.free (x * 6 + 4)
      generalize hdv : decide ((x : Int) ∈ bad.take k) = dv at d3 d4
      have d3 : wr.cell? ⟨gb, x * 6 + 3, none⟩ = some (.bool dv) := d3
      have d4 : wr.cell? ⟨gb, x * 6 + 4, none⟩ = some (.bool dv) := d4
      have wfx : ∀ y : NB, y.pages = [] → y.doom = 0 → ((newA nb pg (bad.take k)).setB x y).Wf := fun y h1 h2 => hA.wf.setB x y hxl (by rw [h1, newA_blk nb pg _ x hxn]; rfl) (by rw [h2]; exact Nat.zero_le _)
      have hA1 := hA.setRec x 3 (.bool true) { (newA nb pg (bad.take k)).blk x with dead := true } hxl (by decide) rfl rfl (wfx _ (by rw [newA_blk nb pg _ x hxn]; rfl) (by rw [newA_blk nb pg _ x hxn]; rfl))
      have hA2 := hA1.setRec x 4 (.bool true) { (newA nb pg (bad.take k)).blk x with dead := true, failed := true } (by rw [len_set]; exact hxl) (by decide) (by rw [blk_set _ _ _ hxl, if_pos rfl]; rfl) (by rw [blk_set _ _ _ hxl, if_pos rfl]) (by rw [setB_setB]; exact wfx _ (by rw [newA_blk nb pg _ x hxn]; rfl) (by rw [newA_blk nb pg _ x hxn]; rfl))
      rw [setB_setB, newA_snoc nb pg _ x hxn, ← htk] at hA2
      have HS1 := hid (show (wr.setCell ⟨gb, x * 6 + 3, none⟩ (.bool true)).cell? ⟨b, 0, none⟩ = some (.slice (some ⟨gb, 0, none⟩) nb nb) from by
        have := hA1.hd.cell 0
        rw [show (hdOf gb ((newA nb pg (bad.take k)).setB x { (newA nb pg (bad.take k)).blk x with dead := true }) Value.nilFunc)[0]? = some (.slice (some ⟨gb, 0, none⟩) ((newA nb pg (bad.take k)).setB x { (newA nb pg (bad.take k)).blk x with dead := true }).bs.length ((newA nb pg (bad.take k)).setB x { (newA nb pg (bad.take k)).blk x with dead := true }).bs.length) from rfl, len_set, newA_len] at this
        exact this)
      have HS2 := hid (show ((wr.setCell ⟨gb, x * 6 + 3, none⟩ (.bool true)).setCell ⟨gb, x * 6 + 4, none⟩ (.bool true)).cell? ⟨b, 0, none⟩ = some (.slice (some ⟨gb, 0, none⟩) nb nb) from by
        have := hA2.hd.cell 0
        rw [show (hdOf gb (newA nb pg (bad.take (k + 1))) Value.nilFunc)[0]? = some (.slice (some ⟨gb, 0, none⟩) (newA nb pg (bad.take (k + 1))).bs.length (newA nb pg (bad.take (k + 1))).bs.length) from rfl, newA_len] at this
        exact this)
      have hgb0 : w.heap.size ≤ gb := by rw [Hgb.out]; exact Nat.le_refl _
      have HB2 := hid (((hB.setCell (p := (⟨gb, x * 6 + 3, none⟩ : Addr)) hgb0 (.bool true)).setCell (p := (⟨gb, x * 6 + 4, none⟩ : Addr)) hgb0 (.bool true)).drewB 1)
      have HA2 := hid (show AR (((wr.setCell ⟨gb, x * 6 + 3, none⟩ (.bool true)).setCell ⟨gb, x * 6 + 4, none⟩ (.bool true)).drewN 1) (newF w (((wr.setCell ⟨gb, x * 6 + 3, none⟩ (.bool true)).setCell ⟨gb, x * 6 + 4, none⟩ (.bool true)).drewN 1)) b gb (fun _ => .slice none 0 0) .nilFunc (newA nb pg (bad.take (k + 1))) from by
        have e : newF w (((wr.setCell ⟨gb, x * 6 + 3, none⟩ (.bool true)).setCell ⟨gb, x * 6 + 4, none⟩ (.bool true)).drewN 1) = newF w wr := by
          unfold newF
          rw [show (((wr.setCell ⟨gb, x * 6 + 3, none⟩ (.bool true)).setCell ⟨gb, x * 6 + 4, none⟩ (.bool true)).drewN 1).heap.size = wr.heap.size from by rw [show ∀ W : World, (W.drewN 1).heap.size = W.heap.size from fun _ => rfl, size_set, size_set]]
        rw [e]
        exact hA2.drewN 1)
      have hxI : (x : Int) < (nb : Int) := by omega
      clear hA hA1 hA2 hB wfx hdv hmem hx hx0 htk hxl
      go_wp2_with fail
      refine wp_region_held_drew (S := (fun w' => w'.cell? ⟨b, 0, none⟩ = some (.slice (some ⟨gb, 0, none⟩) nb nb))) (by kernel_rfl) ?hSnewNz (fun hHeld => ?restNz)
      case hSnewNz => ((try dsimp only); exact k0)
      refine wpAnyH_take (i := 0) (oi := ?oiNt2x0) (v := ?vNt2x0) ?hoNt2x0 ?h1Nt2x0 ?h2Nt2x0 ?h3Nt2x0 ?hqNt2x0 (Or.inl ⟨?h4Nt2x0, ?hyNt2x0⟩) (by assumption) ?restNt2x0
      case hoNt2x0 => (simp only [List.getElem?_toArray, List.getElem?_cons_zero, List.getElem?_cons_succ]; rfl)
      case h1Nt2x0 => kernel_rfl
      case h2Nt2x0 => kernel_rfl
      case h3Nt2x0 => kernel_rfl
      case h4Nt2x0 => rfl
      case hqNt2x0 => exact fun _ _ _ h => h
      case hyNt2x0 => (intro w hSw; (try dsimp only at hSw); go_simp <;> with_reducible rfl)
      (try simp only [Act.put, List.setIfInBounds_toArray, List.set_cons_zero, List.set_cons_succ])
      refine wpAnyH_take (i := 1) (oi := ?oiNt4x1) (v := ?vNt4x1) ?hoNt4x1 ?h1Nt4x1 ?h2Nt4x1 ?h3Nt4x1 ?hqNt4x1 (Or.inl ⟨?h4Nt4x1, ?hyNt4x1⟩) (by assumption) ?restNt4x1
      case hoNt4x1 => (simp only [List.getElem?_toArray, List.getElem?_cons_zero, List.getElem?_cons_succ]; rfl)
      case h1Nt4x1 => kernel_rfl
      case h2Nt4x1 => kernel_rfl
      case h3Nt4x1 => kernel_rfl
      case h4Nt4x1 => rfl
      case hqNt4x1 => exact fun _ _ _ h => h
      case hyNt4x1 => (intro w hSw; (try dsimp only at hSw); go_simp <;> with_reducible rfl)
      (try simp only [Act.put, List.setIfInBounds_toArray, List.set_cons_zero, List.set_cons_succ])
      refine wpAnyH_take (i := 2) (oi := ?oiNt6x2) (v := ?vNt6x2) ?hoNt6x2 ?h1Nt6x2 ?h2Nt6x2 ?h3Nt6x2 ?hqNt6x2 (Or.inl ⟨?h4Nt6x2, ?hyNt6x2⟩) (by assumption) ?restNt6x2
      case hoNt6x2 => (simp only [List.getElem?_toArray, List.getElem?_cons_zero, List.getElem?_cons_succ]; rfl)
      case h1Nt6x2 => kernel_rfl
      case h2Nt6x2 => kernel_rfl
      case h3Nt6x2 => kernel_rfl
      case h4Nt6x2 => rfl
      case hqNt6x2 => exact fun _ _ _ h => h
      case hyNt6x2 => (intro w hSw; (try dsimp only at hSw); go_simp <;> with_reducible rfl)
      (try simp only [Act.put, List.setIfInBounds_toArray, List.set_cons_zero, List.set_cons_succ])
      refine wpAnyH_take (i := 3) (oi := ?oiNt8x3) (v := ?vNt8x3) ?hoNt8x3 ?h1Nt8x3 ?h2Nt8x3 ?h3Nt8x3 ?hqNt8x3 (Or.inl ⟨?h4Nt8x3, ?hyNt8x3⟩) (by assumption) ?restNt8x3
      case hoNt8x3 => (simp only [List.getElem?_toArray, List.getElem?_cons_zero, List.getElem?_cons_succ]; rfl)
      case h1Nt8x3 => kernel_rfl
      case h2Nt8x3 => kernel_rfl
      case h3Nt8x3 => kernel_rfl
      case h4Nt8x3 => rfl
      case hqNt8x3 => exact fun _ _ _ h => h
      case hyNt8x3 => (intro w hSw; (try dsimp only at hSw); go_simp <;> with_reducible rfl)
      (try simp only [Act.put, List.setIfInBounds_toArray, List.set_cons_zero, List.set_cons_succ])
      refine wpAnyH_take (i := 4) (oi := ?oiNt10x4) (v := ?vNt10x4) ?hoNt10x4 ?h1Nt10x4 ?h2Nt10x4 ?h3Nt10x4 ?hqNt10x4 (Or.inl ⟨?h4Nt10x4, ?hyNt10x4⟩) (by assumption) ?restNt10x4
      case hoNt10x4 => (simp only [List.getElem?_toArray, List.getElem?_cons_zero, List.getElem?_cons_succ]; rfl)
      case h1Nt10x4 => kernel_rfl
      case h2Nt10x4 => kernel_rfl
      case h3Nt10x4 => kernel_rfl
      case h4Nt10x4 => rfl
      case hqNt10x4 => exact fun _ _ _ h => h
      case hyNt10x4 => (intro w hSw; (try dsimp only at hSw); go_simp <;> with_reducible rfl)
      (try simp only [Act.put, List.setIfInBounds_toArray, List.set_cons_zero, List.set_cons_succ])
      refine wpAnyH_take (i := 5) (oi := ?oiNt12x5) (v := ?vNt12x5) ?hoNt12x5 ?h1Nt12x5 ?h2Nt12x5 ?h3Nt12x5 ?hqNt12x5 (Or.inl ⟨?h4Nt12x5, ?hyNt12x5⟩) (by assumption) ?restNt12x5
      case hoNt12x5 => (simp only [List.getElem?_toArray, List.getElem?_cons_zero, List.getElem?_cons_succ]; rfl)
      case h1Nt12x5 => kernel_rfl
      case h2Nt12x5 => kernel_rfl
      case h3Nt12x5 => kernel_rfl
      case h4Nt12x5 => rfl
      case hqNt12x5 => exact fun _ _ _ h => h
      case hyNt12x5 => (intro w hSw; (try dsimp only at hSw); go_simp <;> with_reducible rfl)
      (try simp only [Act.put, List.setIfInBounds_toArray, List.set_cons_zero, List.set_cons_succ])
      refine wpAnyH_take (i := 6) (oi := ?oiNt14x6) (v := ?vNt14x6) ?hoNt14x6 ?h1Nt14x6 ?h2Nt14x6 ?h3Nt14x6 ?hqNt14x6 (Or.inl ⟨?h4Nt14x6, ?hyNt14x6⟩) (by assumption) ?restNt14x6
      case hoNt14x6 => (simp only [List.getElem?_toArray, List.getElem?_cons_zero, List.getElem?_cons_succ]; rfl)
      case h1Nt14x6 => kernel_rfl
      case h2Nt14x6 => kernel_rfl
      case h3Nt14x6 => kernel_rfl
      case h4Nt14x6 => rfl
      case hqNt14x6 => exact fun _ _ _ h => h
      case hyNt14x6 => (intro w hSw; (try dsimp only at hSw); go_simp <;> with_reducible rfl)
      (try simp only [Act.put, List.setIfInBounds_toArray, List.set_cons_zero, List.set_cons_succ])
      refine wpAnyH_take (i := 7) (oi := ?oiNt16x7) (v := ?vNt16x7) ?hoNt16x7 ?h1Nt16x7 ?h2Nt16x7 ?h3Nt16x7 ?hqNt16x7 (Or.inl ⟨?h4Nt16x7, ?hyNt16x7⟩) (by assumption) ?restNt16x7
      case hoNt16x7 => (simp only [List.getElem?_toArray, List.getElem?_cons_zero, List.getElem?_cons_succ]; rfl)
      case h1Nt16x7 => kernel_rfl
      case h2Nt16x7 => kernel_rfl
      case h3Nt16x7 => kernel_rfl
      case h4Nt16x7 => rfl
      case hqNt16x7 => exact fun _ _ _ h => h
      case hyNt16x7 => (intro w hSw; (try dsimp only at hSw); go_simp <;> with_reducible rfl)
      (try simp only [Act.put, List.setIfInBounds_toArray, List.set_cons_zero, List.set_cons_succ])
      refine wpAnyH_take (i := 8) (oi := ?oiNt18x8) (v := ?vNt18x8) ?hoNt18x8 ?h1Nt18x8 ?h2Nt18x8 ?h3Nt18x8 ?hqNt18x8 (Or.inl ⟨?h4Nt18x8, ?hyNt18x8⟩) (by assumption) ?restNt18x8
      case hoNt18x8 => (simp only [List.getElem?_toArray, List.getElem?_cons_zero, List.getElem?_cons_succ]; rfl)
      case h1Nt18x8 => kernel_rfl
      case h2Nt18x8 => kernel_rfl
      case h3Nt18x8 => kernel_rfl
      case h4Nt18x8 => rfl
      case hqNt18x8 => exact fun _ _ _ h => h
      case hyNt18x8 => (intro w hSw; (try dsimp only at hSw); go_simp <;> with_reducible rfl)
      (try simp only [Act.put, List.setIfInBounds_toArray, List.set_cons_zero, List.set_cons_succ])
      refine wpAnyH_take (i := 9) (oi := ?oiNt20x9) (v := ?vNt20x9) ?hoNt20x9 ?h1Nt20x9 ?h2Nt20x9 ?h3Nt20x9 ?hqNt20x9 (Or.inl ⟨?h4Nt20x9, ?hyNt20x9⟩) (by assumption) ?restNt20x9
      case hoNt20x9 => (simp only [List.getElem?_toArray, List.getElem?_cons_zero, List.getElem?_cons_succ]; rfl)
      case h1Nt20x9 => kernel_rfl
      case h2Nt20x9 => kernel_rfl
      case h3Nt20x9 => kernel_rfl
      case h4Nt20x9 => rfl
      case hqNt20x9 => exact fun _ _ _ h => h
      case hyNt20x9 => (intro w hSw; (try dsimp only at hSw); go_simp <;> with_reducible rfl)
      (try simp only [Act.put, List.setIfInBounds_toArray, List.set_cons_zero, List.set_cons_succ])
      refine wpAnyH_take (i := 10) (oi := ?oiNt22x10) (v := ?vNt22x10) ?hoNt22x10 ?h1Nt22x10 ?h2Nt22x10 ?h3Nt22x10 ?hqNt22x10 (Or.inl ⟨?h4Nt22x10, ?hyNt22x10⟩) (by assumption) ?restNt22x10
      case hoNt22x10 => (simp only [List.getElem?_toArray, List.getElem?_cons_zero, List.getElem?_cons_succ]; rfl)
      case h1Nt22x10 => kernel_rfl
      case h2Nt22x10 => kernel_rfl
      case h3Nt22x10 => kernel_rfl
      case h4Nt22x10 => rfl
      case hqNt22x10 => exact fun _ _ _ h => h
      case hyNt22x10 => (intro w hSw; (try dsimp only at hSw); go_simp <;> with_reducible rfl)
      (try simp only [Act.put, List.setIfInBounds_toArray, List.set_cons_zero, List.set_cons_succ])
      refine wpAnyH_take (i := 11) (oi := ?oiNt24x11) (v := ?vNt24x11) ?hoNt24x11 ?h1Nt24x11 ?h2Nt24x11 ?h3Nt24x11 ?hqNt24x11 (Or.inl ⟨?h4Nt24x11, ?hyNt24x11⟩) (by assumption) ?restNt24x11
      case hoNt24x11 => (simp only [List.getElem?_toArray, List.getElem?_cons_zero, List.getElem?_cons_succ]; rfl)
      case h1Nt24x11 => kernel_rfl
      case h2Nt24x11 => kernel_rfl
      case h3Nt24x11 => kernel_rfl
      case h4Nt24x11 => rfl
      case hqNt24x11 => exact fun _ _ _ h => h
      case hyNt24x11 => (intro w hSw; (try dsimp only at hSw); go_simp <;> with_reducible rfl)
      (try simp only [Act.put, List.setIfInBounds_toArray, List.set_cons_zero, List.set_cons_succ])
      refine wpAnyH_ready (rs := [12]) (by kernel_rfl) (by simp) ?_
      refine AllReadyH.cons (o := ?oiNq25) ?hoNq25 (fun K hK => ?restNq25) ?moreNq25
      case moreNq25 => exact AllReadyH.nil
      case hoNq25 => (simp only [List.getElem?_toArray, List.getElem?_cons_zero, List.getElem?_cons_succ]; rfl)
      go_simp
      refine hK.out _ _ ?hSnewNhq25 (fun hHeld => ?restNhq25)
      case hSnewNhq25 => ((try dsimp only); exact HS1.out)
      clear hK K
      (try simp only [Act.put, List.setIfInBounds_toArray, List.set_cons_zero, List.set_cons_succ])
      refine wpAnyH_take (i := 13) (oi := ?oiNt27x13) (v := ?vNt27x13) ?hoNt27x13 ?h1Nt27x13 ?h2Nt27x13 ?h3Nt27x13 ?hqNt27x13 (Or.inl ⟨?h4Nt27x13, ?hyNt27x13⟩) (by assumption) ?restNt27x13
      case hoNt27x13 => (simp only [List.getElem?_toArray, List.getElem?_cons_zero, List.getElem?_cons_succ]; rfl)
      case h1Nt27x13 => kernel_rfl
      case h2Nt27x13 => kernel_rfl
      case h3Nt27x13 => kernel_rfl
      case h4Nt27x13 => rfl
      case hqNt27x13 => exact fun _ _ _ h => h
      case hyNt27x13 => (intro w hSw; (try dsimp only at hSw); go_simp <;> with_reducible rfl)
      (try simp only [Act.put, List.setIfInBounds_toArray, List.set_cons_zero, List.set_cons_succ])
      refine wpAnyH_take (i := 14) (oi := ?oiNt29x14) (v := ?vNt29x14) ?hoNt29x14 ?h1Nt29x14 ?h2Nt29x14 ?h3Nt29x14 ?hqNt29x14 (Or.inl ⟨?h4Nt29x14, ?hyNt29x14⟩) (by assumption) ?restNt29x14
      case hoNt29x14 => (simp only [List.getElem?_toArray, List.getElem?_cons_zero, List.getElem?_cons_succ]; rfl)
      case h1Nt29x14 => kernel_rfl
      case h2Nt29x14 => kernel_rfl
      case h3Nt29x14 => kernel_rfl
      case h4Nt29x14 => rfl
      case hqNt29x14 => exact fun _ _ _ h => h
      case hyNt29x14 => (intro w hSw; (try dsimp only at hSw); go_simp <;> with_reducible rfl)
      (try simp only [Act.put, List.setIfInBounds_toArray, List.set_cons_zero, List.set_cons_succ])
      refine wpAnyH_ready (rs := [15]) (by kernel_rfl) (by simp) ?_
      refine AllReadyH.cons (o := ?oiNq30) ?hoNq30 (fun K hK => ?restNq30) ?moreNq30
      case moreNq30 => exact AllReadyH.nil
      case hoNq30 => (simp only [List.getElem?_toArray, List.getElem?_cons_zero, List.getElem?_cons_succ]; rfl)
      go_simp
      refine hK.out _ _ ?hSnewNhq30 (fun hHeld => ?restNhq30)
      case hSnewNhq30 => ((try dsimp only); exact HS2.out)
      clear hK K
      (try simp only [Act.put, List.setIfInBounds_toArray, List.set_cons_zero, List.set_cons_succ])
      refine wpAnyH_done (by kernel_rfl) ?_ _
      clear k0 d3 d4 f3 f4 HS1 HS2
      go_wp2
      go_roundw
      case rel => exact ⟨k + 1, by omega, by go_num, HA2.out, HB2.out⟩
      case measure => simp [intOf]; omega
    · have hkm : bad.take k = bad := List.take_of_length_le (by rw [Hl.out]; omega)
      rw [hkm] at hA
      replace hA := hid hA
      clear hkm
      go_wp2
      go_ret2
      exact ⟨b, rfl, ⟨gb, _, _, hA.out⟩, hB⟩
end Go.Proofs.Ytpcbpljdiacbmaa.Nand

set_option linter.unusedVariables false
set_option linter.unusedSimpArgs false
namespace Go.Proofs.Ytpcbpljdiacbmaa.Nand
open Go.RowKit Go.Proofs.Ytpcbpljdiacbmaa.Kit

/-- One array, all of it above what there was at w0. -/
def ArrB (w0 w : World) (b : Nat) (N : NA) : Prop := ∃ F, Arr w F b N ∧ (∀ g, F g → w0.heap.size ≤ g) ∧ Below w0.heap.size w0 w
theorem ArrB.bel {w0 w : World} {b : Nat} {N : NA} (h : ArrB w0 w b N) : Below w0.heap.size w0 w := by
  obtain ⟨F, h1, h2, h3⟩ := h
  exact h3
theorem ArrB.wf {w0 w : World} {b : Nat} {N : NA} (h : ArrB w0 w b N) : N.Wf := by
  obtain ⟨F, h1, h2, h3⟩ := h
  exact h1.wf
theorem ArrB.later {w0 w w' : World} {b : Nat} {N : NA} (h : ArrB w0 w b N) (hB : Below w.heap.size w w') : ArrB w0 w' b N := by
  obtain ⟨F, h1, h2, h3⟩ := h
  exact ⟨F, h1.later hB, h2, h3.trans (hB.mono h3.size)⟩
theorem ArrB.step {w0 w w' : World} {b : Nat} {N : NA} {F : Nat → Prop} (h2 : ∀ g, F g → w0.heap.size ≤ g) (h3 : Below w0.heap.size w0 w) (h : Arr w' (grow F w w') b N) (hf : Fr F w w') : ArrB w0 w' b N :=
  ⟨_, h, fun g hg => by rcases hg with hg | hg; exact h2 g hg; exact Nat.le_trans h3.size hg.1, h3.trans (hf.below h3.size h2)⟩
theorem ArrB.same {w0 w w' : World} {b : Nat} {N : NA} {F : Nat → Prop} (h2 : ∀ g, F g → w0.heap.size ≤ g) (h3 : Below w0.heap.size w0 w) (h : Arr w' F b N) (hf : Fr F w w') : ArrB w0 w' b N :=
  ⟨_, h, h2, h3.trans (hf.below h3.size h2)⟩
end Go.Proofs.Ytpcbpljdiacbmaa.Nand

set_option linter.unusedVariables false
set_option linter.unusedSimpArgs false
namespace Go.Proofs.Ytpcbpljdiacbmaa.Nand
open Go.RowKit Go.Proofs.Ytpcbpljdiacbmaa.Kit

/-! What the operations come to where nothing is armed. -/
def NA.opd (N : NA) : NA := { N with ops := wrap64 (N.ops + 1) }
theorem tick_calm (x : NB) (h : x.doom = 0) : x.tick = x := by
  unfold NB.tick
  rw [h]
  cases x
  simp at h
  subst h
  simp
theorem setB_self (N : NA) (i : Nat) (hi : i < N.bs.length) : N.setB i (N.blk i) = N := by
  unfold NA.setB NA.blk
  rw [List.getD_eq_getElem?_getD, List.getElem?_eq_getElem hi]
  simp
theorem begun_calm {N : NA} (i : Nat) (hi : i < N.bs.length) (ha : N.armed = 0) (ho : N.off = false) (hd : (N.blk i).doom = 0) : N.begun i = N.opd := by
  unfold NA.begun
  rw [tick_calm _ hd]
  have e : N.tick = N.opd := by
    unfold NA.tick NA.opd
    rw [ha, ho]
    rfl
  rw [e]
  exact setB_self N.opd i hi
theorem atE_in {N : NA} (i : Nat) (hi : i < N.bs.length) (ho : N.off = false) : N.atE (i : Int) = 0 := by
  unfold NA.atE
  rw [if_neg (by omega), ho]
  rfl
theorem progE_in {N : NA} (i p : Nat) (n : Nat) (ep : Int) (hi : i < N.bs.length) (ho : N.off = false) (hp : p = (N.blk i).pages.length) (hp2 : p < N.pages) (hn : n = 96) (hh : (N.blk i).half = false) (hf : N.fence ≤ ep) : N.progE (i : Int) (p : Int) n ep = 0 := by
  unfold NA.progE
  rw [if_neg (by rw [atE_in i hi ho]; simp), if_neg (by omega), if_neg (by rw [hn]; simp), if_neg (by rw [show ((i : Int)).toNat = i by omega, hh]; simp; omega), if_neg (by omega)]
theorem prog_calm {N : NA} (i p : Nat) (q : List Int) (ep : Int) (hi : i < N.bs.length) (ha : N.armed = 0) (ho : N.off = false) (hd : (N.blk i).doom = 0) (hdd : (N.blk i).dead = false) (hp : p = (N.blk i).pages.length) (hp2 : p < N.pages) (hn : q.length = 96) (hh : (N.blk i).half = false) (hf : N.fence ≤ ep) :
    N.prog (i : Int) (p : Int) q ep = (N.opd.setB i ((N.blk i).add q), 0) := by
  rw [prog_eq (progE_in i p q.length ep hi ho hp hp2 hn hh hf), begun_calm i hi ha ho hd]
  rw [if_neg (by rw [show N.opd.off = N.off from rfl, ho]; simp), if_neg (by rw [show (N.opd.blk i).dead = (N.blk i).dead from rfl, hdd]; simp)]
  rfl
theorem prog_err {N : NA} (i p : Int) (q : List Int) (ep : Int) (h : N.progE i p q.length ep ≠ 0) : N.prog i p q ep = (N, N.progE i p q.length ep) := by
  unfold NA.prog
  rw [if_pos h]
theorem erase_eq {N : NA} {i : Nat} {ep : Int} (hi : i < N.bs.length) (ho : N.off = false) (hf : N.fence ≤ ep) : N.erase (i : Int) ep = if (N.begun i).off then ({ N.begun i with way := some ⟨i, none, ((N.begun i).blk i).dead⟩ }, 9) else if ((N.begun i).blk i).dead then ((N.begun i).setB i { ((N.begun i).blk i) with failed := true }, 8) else ((N.begun i).setB i ((N.begun i).blk i).clean, 0) := by
  have h1 : N.eraseE (i : Int) ep = 0 := by
    unfold NA.eraseE
    rw [if_neg (by rw [atE_in i hi ho]; simp), if_neg (by omega)]
  unfold NA.erase
  rw [if_neg (by rw [h1]; simp)]
  rfl
theorem erase_calm {N : NA} (i : Nat) (ep : Int) (hi : i < N.bs.length) (ha : N.armed = 0) (ho : N.off = false) (hd : (N.blk i).doom = 0) (hdd : (N.blk i).dead = false) (hf : N.fence ≤ ep) :
    N.erase (i : Int) ep = (N.opd.setB i (N.blk i).clean, 0) := by
  rw [erase_eq hi ho hf, begun_calm i hi ha ho hd]
  rw [if_neg (by rw [show N.opd.off = N.off from rfl, ho]; simp), if_neg (by rw [show (N.opd.blk i).dead = (N.blk i).dead from rfl, hdd]; simp)]
  rfl
end Go.Proofs.Ytpcbpljdiacbmaa.Nand

set_option linter.unusedVariables false
set_option linter.unusedSimpArgs false
namespace Go.Proofs.Ytpcbpljdiacbmaa.Nand
open Go.RowKit Go.Proofs.Ytpcbpljdiacbmaa.Kit

/-- Since w (of which but F may have changed): the array stands as M; the blocks K, which are the caller's own, are as they are in W. -/
def Run (F : Nat → Prop) (w w' : World) (b : Nat) (M : NA) (K : Nat → Prop) (W : World) : Prop :=
  ∃ F', Arr w' F' b M ∧ (∀ g, F' g → F g ∨ w.heap.size ≤ g) ∧ Fr F w w' ∧ ∀ g, K g → ¬ F' g ∧ w.heap.size ≤ g ∧ g < w'.heap.size ∧ w'.heap[g]? = W.heap[g]?
theorem heap_lt {w : World} {g : Nat} {x : Obj} (h : w.heap[g]? = some x) : g < w.heap.size := (Array.getElem?_eq_some_iff.1 h).1
theorem Run.start {F : Nat → Prop} {w : World} {b : Nat} {M : NA} (h : Arr w F b M) (W : World) : Run F w w b M (fun _ => False) W :=
  ⟨F, h, fun g hg => .inl hg, Fr.refl _ _, fun _ hg => hg.elim⟩
/-- A new array: none of what there was has changed. -/
theorem Run.new {w w1 w2 : World} {b : Nat} {M : NA} {F1 : Nat → Prop} (hB : Below w.heap.size w w1) (h : Arr w2 F1 b M) (hF : ∀ g, F1 g → w1.heap.size ≤ g) (hB2 : Below w1.heap.size w1 w2) (W : World) : Run (fun _ => False) w w2 b M (fun _ => False) W :=
  ⟨F1, h, fun g hg => .inr (Nat.le_trans hB.size (hF g hg)), Fr.of_below (hB.trans (hB2.mono hB.size)), fun _ hg => hg.elim⟩
theorem Run.arr {F : Nat → Prop} {w w' W : World} {b : Nat} {M : NA} {K : Nat → Prop} (h : Run F w w' b M K W) : ∃ F', Arr w' F' b M := by
  obtain ⟨F', h1, -⟩ := h
  exact ⟨F', h1⟩
theorem Run.wf {F : Nat → Prop} {w w' W : World} {b : Nat} {M : NA} {K : Nat → Prop} (h : Run F w w' b M K W) : M.Wf := by
  obtain ⟨F', h1, -⟩ := h
  exact h1.wf
theorem Run.size {F : Nat → Prop} {w w' W : World} {b : Nat} {M : NA} {K : Nat → Prop} (h : Run F w w' b M K W) : w.heap.size ≤ w'.heap.size := by
  obtain ⟨F', -, -, h1, -⟩ := h
  exact h1.size
theorem Run.fin {F : Nat → Prop} {w w' W : World} {b : Nat} {M : NA} {K : Nat → Prop} (h : Run F w w' b M K W) (hl : ∀ g, F g → g < w.heap.size) : Arr w' (grow F w w') b M ∧ Fr F w w' := by
  obtain ⟨F', ⟨gb, pv, wv, h1⟩, h2, h3, -⟩ := h
  refine ⟨⟨gb, pv, wv, h1.mono (fun g hg => ?_) (fun g hg => ?_)⟩, h3⟩
  · rcases h2 g hg with h | h
    · exact .inl h
    · exact .inr ⟨h, h1.low g hg⟩
  · rcases hg with hg | hg
    · exact Nat.lt_of_lt_of_le (hl g hg) h3.size
    · exact hg.2
theorem Run.below {w w' W : World} {b : Nat} {M : NA} {K : Nat → Prop} (h : Run (fun _ => False) w w' b M K W) : Below w.heap.size w w' := by
  obtain ⟨F', -, -, h1, -⟩ := h
  exact h1.below (Nat.le_refl _) (fun _ hg => hg.elim)
theorem Run.later {F : Nat → Prop} {w w1 w2 W : World} {b : Nat} {M : NA} {K : Nat → Prop} (h : Run F w w1 b M K W) (hB : Below w1.heap.size w1 w2) : Run F w w2 b M K W := by
  obtain ⟨F', h1, h2, h3, h4⟩ := h
  exact ⟨F', h1.later hB, h2, h3.trans (Fr.of_below (F := fun _ => False) hB) (fun _ _ x => x.elim), fun g hg => ⟨(h4 g hg).1, (h4 g hg).2.1, Nat.lt_of_lt_of_le (h4 g hg).2.2.1 hB.size, (hB.block g (h4 g hg).2.2.1).trans (h4 g hg).2.2.2⟩⟩
/-- What was made since is the caller's own as well. -/
theorem Run.own {F : Nat → Prop} {w w1 w2 W : World} {b : Nat} {M : NA} {K : Nat → Prop} (h : Run F w w1 b M K W) (hB : Below w1.heap.size w1 w2) : Run F w w2 b M (fun g => K g ∨ (w1.heap.size ≤ g ∧ g < w2.heap.size)) w2 := by
  have hl := h.later hB
  obtain ⟨F', h1, h2, h3, h4⟩ := h
  obtain ⟨-, -, -, h3', -⟩ := hl
  refine ⟨F', h1.later hB, h2, h3', fun g hg => ?_⟩
  rcases hg with hg | ⟨hg1, hg2⟩
  · exact ⟨(h4 g hg).1, (h4 g hg).2.1, Nat.lt_of_lt_of_le (h4 g hg).2.2.1 hB.size, rfl⟩
  · exact ⟨fun x => absurd (h1.low g x) (by omega), Nat.le_trans h3.size hg1, hg2, rfl⟩
theorem Run.less {F : Nat → Prop} {w w' W : World} {b : Nat} {M : NA} {K K' : Nat → Prop} (h : Run F w w' b M K W) (hK : ∀ g, K' g → K g) : Run F w w' b M K' W := by
  obtain ⟨F', h1, h2, h3, h4⟩ := h
  exact ⟨F', h1, h2, h3, fun g hg => h4 g (hK g hg)⟩
theorem Run.now {F : Nat → Prop} {w w' W : World} {b : Nat} {M : NA} {K : Nat → Prop} (h : Run F w w' b M K W) : Run F w w' b M K w' := by
  obtain ⟨F', h1, h2, h3, h4⟩ := h
  exact ⟨F', h1, h2, h3, fun g hg => ⟨(h4 g hg).1, (h4 g hg).2.1, (h4 g hg).2.2.1, rfl⟩⟩
/-- The caller stores to a block of his own. -/
theorem Run.store {F : Nat → Prop} {w w' W : World} {b : Nat} {M : NA} {K : Nat → Prop} (h : Run F w w' b M K W) (g i : Nat) (v : Value) (hg : K g) : Run F w (w'.setCell ⟨g, i, none⟩ v) b M K (w'.setCell ⟨g, i, none⟩ v) := by
  obtain ⟨F', h1, h2, h3, h4⟩ := h
  refine ⟨F', h1.keep (fun k hk => Below.heap_setCell w' ⟨g, i, none⟩ v k (fun e => (h4 g hg).1 (by rw [← show k = g from e]; exact hk))) (by rw [size_set]; exact Nat.le_refl _), h2, h3.set g i v (.inr (h4 g hg).2.1), fun k hk => ⟨(h4 k hk).1, (h4 k hk).2.1, by rw [size_set]; exact (h4 k hk).2.2.1, rfl⟩⟩
/-- An operation with the array. -/
theorem Run.step {F F' : Nat → Prop} {w w1 w2 W : World} {b : Nat} {M' : NA} {K : Nat → Prop} (h2 : ∀ g, F' g → F g ∨ w.heap.size ≤ g) (h3 : Fr F w w1) (h4 : ∀ g, K g → ¬ F' g ∧ w.heap.size ≤ g ∧ g < w1.heap.size ∧ w1.heap[g]? = W.heap[g]?) (hA : Arr w2 (grow F' w1 w2) b M') (hf : Fr F' w1 w2) : Run F w w2 b M' K W :=
  ⟨_, hA, fun g hg => by
      rcases hg with hg | hg
      · exact h2 g hg
      · exact .inr (Nat.le_trans h3.size hg.1), h3.trans hf (fun g hg x => by
      rcases h2 g x with h | h
      · exact h
      · omega), fun g hg => ⟨fun x => by
      rcases x with x | x
      · exact (h4 g hg).1 x
      · exact absurd (h4 g hg).2.2.1 (by omega), (h4 g hg).2.1, Nat.lt_of_lt_of_le (h4 g hg).2.2.1 hf.size, (hf.block g (h4 g hg).2.2.1 (h4 g hg).1).trans (h4 g hg).2.2.2⟩⟩
theorem Run.calls {P : Program} {fn : FuncId} {args : Array Value} {F : Nat → Prop} {w w1 W : World} {b : Nat} {M M' : NA} {K : Nat → Prop} {R : Ending → Prop} (h : Run F w w1 b M K W)
    (hc : ∀ F', Arr w1 F' b M → Calls P fn args w1 fun e w' => R e ∧ Arr w' (grow F' w1 w') b M' ∧ Fr F' w1 w') : Calls P fn args w1 fun e w' => R e ∧ Run F w w' b M' K W := by
  obtain ⟨F', h1, h2, h3, h4⟩ := h
  refine (hc F' h1).mono ?_
  rintro e w' ⟨he, hA, hf⟩
  exact ⟨he, Run.step h2 h3 h4 hA hf⟩
theorem Run.reads {P : Program} {fn : FuncId} {args : Array Value} {F : Nat → Prop} {w w1 W : World} {b : Nat} {M : NA} {K : Nat → Prop} {R : Ending → World → Prop} (h : Run F w w1 b M K W)
    (hc : ∀ F', Arr w1 F' b M → Calls P fn args w1 fun e w' => R e w' ∧ Below w1.heap.size w1 w') : Calls P fn args w1 fun e w' => R e w' ∧ Below w1.heap.size w1 w' := by
  obtain ⟨F', h1, h2, h3, h4⟩ := h
  exact hc F' h1
theorem Run.blk {F : Nat → Prop} {w w' W : World} {b g : Nat} {M : NA} {K : Nat → Prop} {cs : Array Value} {T : TypeId} (h : Run F w w' b M K W) (hg : K g) (hb : Blk W g cs T) : Blk w' g cs T := by
  obtain ⟨F', h1, h2, h3, h4⟩ := h
  unfold Blk at *
  rw [(h4 g hg).2.2.2]
  exact hb
theorem Run.row {F : Nat → Prop} {w w' W : World} {b base n size : Nat} {M : NA} {K : Nat → Prop} {e : TypeId} {v : Value} {xs : List Value} (h : Run F w w' b M K W) (hg : ∀ g, v.ownBlock = some g → K g) (hb : W.ownsRow base e size v n xs) : w'.ownsRow base e size v n xs := by
  obtain ⟨F', h1, h2, h3, h4⟩ := h
  exact own_keep hb (fun g e => (h4 g (hg g e)).2.2.2)
end Go.Proofs.Ytpcbpljdiacbmaa.Nand
