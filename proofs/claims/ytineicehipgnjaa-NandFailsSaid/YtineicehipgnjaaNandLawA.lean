import Derived.Test.YtineicehipgnjaaNandActs
set_option linter.unusedVariables false
set_option linter.unusedSimpArgs false
namespace Go.Proofs.Ytineicehipgnjaa.Nand
open Go.RowKit Go.Proofs.Ytineicehipgnjaa.Kit

/-- One array, and a block of the caller's own that it does not touch. -/
def ArrX (w0 w : World) (b : Nat) (N : NA) (g : Nat) (cs : Array Value) (T : TypeId) : Prop := ∃ F, Arr w F b N ∧ (∀ x, F x → w0.heap.size ≤ x) ∧ Below w0.heap.size w0 w ∧ ¬ F g ∧ Blk w g cs T
theorem blk_lt {w : World} {g : Nat} {cs : Array Value} {T : TypeId} (h : Blk w g cs T) : g < w.heap.size := by
  unfold Blk at h
  exact (Array.getElem?_eq_some_iff.1 h).1
theorem ArrX.of {w0 w w' : World} {b g : Nat} {N : NA} {cs : Array Value} {T : TypeId} (h : ArrB w0 w b N) (hB : Below w.heap.size w w') (hg : w.heap.size ≤ g) (hb : Blk w' g cs T) : ArrX w0 w' b N g cs T := by
  obtain ⟨F, h1, h2, h3⟩ := h
  exact ⟨F, h1.later hB, h2, h3.trans (hB.mono h3.size), fun x => by have := h1.low g x; omega, hb⟩
theorem ArrX.later {w0 w w' : World} {b g : Nat} {N : NA} {cs : Array Value} {T : TypeId} (h : ArrX w0 w b N g cs T) (hB : Below w.heap.size w w') : ArrX w0 w' b N g cs T := by
  obtain ⟨F, h1, h2, h3, h4, h5⟩ := h
  exact ⟨F, h1.later hB, h2, h3.trans (hB.mono h3.size), h4, (hB.block g (blk_lt h5)).trans h5⟩
theorem ArrX.blk {w0 w : World} {b g : Nat} {N : NA} {cs : Array Value} {T : TypeId} (h : ArrX w0 w b N g cs T) : Blk w g cs T := by
  obtain ⟨F, h1, h2, h3, h4, h5⟩ := h
  exact h5
theorem ArrX.arrB {w0 w : World} {b g : Nat} {N : NA} {cs : Array Value} {T : TypeId} (h : ArrX w0 w b N g cs T) : ArrB w0 w b N := by
  obtain ⟨F, h1, h2, h3, h4, h5⟩ := h
  exact ⟨F, h1, h2, h3⟩
theorem ArrX.step {w0 w w' : World} {b g : Nat} {N : NA} {cs : Array Value} {T : TypeId} {F : Nat → Prop} (h2 : ∀ g, F g → w0.heap.size ≤ g) (h3 : Below w0.heap.size w0 w) (h4 : ¬ F g) (h5 : Blk w g cs T) (h : Arr w' (grow F w w') b N) (hf : Fr F w w') : ArrX w0 w' b N g cs T :=
  ⟨_, h, fun g hg => by rcases hg with hg | hg; exact h2 g hg; exact Nat.le_trans h3.size hg.1, h3.trans (hf.below h3.size h2), fun x => by
    rcases x with x | x
    · exact h4 x
    · have := blk_lt h5
      omega, (hf.block g (blk_lt h5) h4).trans h5⟩
theorem program_x {w0 w : World} {b g : Nat} {N : NA} {cs : Array Value} {T : TypeId} (h : ArrX w0 w b N g cs T) (i p : Int) (A : Option Addr) (n c : Nat) (q : List Int) (ep : Int) (hz : Nums w .u8 A n q) (hn : n ≤ 140737488355328) :
    Calls Try.prog 14 #[.pointer (some ⟨b, 0, none⟩), .int .i64 i, .int .i64 p, .slice A n c, .int .u64 ep] w fun e w' => e = .returned (.int .i64 (N.prog i p q ep).2) ∧ ArrX w0 w' b (N.prog i p q ep).1 g cs T := by
  obtain ⟨F, h1, h2, h3, h4, h5⟩ := h
  refine (program_any F b N i p A n c q ep w h1 hz hn).mono ?_
  rintro e w' ⟨he, ha, hf⟩
  exact ⟨he, ArrX.step h2 h3 h4 h5 ha hf⟩
theorem erase_x {w0 w : World} {b g : Nat} {N : NA} {cs : Array Value} {T : TypeId} (h : ArrX w0 w b N g cs T) (i ep : Int) :
    Calls Try.prog 16 #[.pointer (some ⟨b, 0, none⟩), .int .i64 i, .int .u64 ep] w fun e w' => e = .returned (.int .i64 (N.erase i ep).2) ∧ ArrX w0 w' b (N.erase i ep).1 g cs T := by
  obtain ⟨F, h1, h2, h3, h4, h5⟩ := h
  refine (erase_any F b N i ep w h1).mono ?_
  rintro e w' ⟨he, ha, hf⟩
  exact ⟨he, ArrX.step h2 h3 h4 h5 ha hf⟩

/-! The plain law: block 2 stays. -/
structure ApI (N : NA) : Prop where
  len : N.bs.length = 3
  pages : N.pages = 4
  off : N.off = false
  armed : N.armed = 0
  blk : N.blk 2 = gB [pgL 7]
theorem ap_set {N : NA} (h : ApI N) (j : Nat) (hj : j < 2) (x : NB) : ApI (N.setB j x) := by
  refine ⟨by rw [len_set]; exact h.len, h.pages, h.off, h.armed, ?_⟩
  rw [blk_set j 2 x (by rw [h.len]; omega), if_neg (by omega)]
  exact h.blk
theorem ap_begun {N : NA} (h : ApI N) (j : Nat) (hj : j < 2) : ApI (N.begun j) := by
  have ht : ApI N.tick := ⟨h.len, h.pages, by show (N.armed == 1) = false; rw [h.armed]; rfl, by show N.armed - 1 = 0; rw [h.armed], h.blk⟩
  exact ap_set ht j hj _
theorem ap_prog {N : NA} (h : ApI N) (j : Nat) (p : Int) (q : List Int) (ep : Int) (hj : j < 2) : ApI (N.prog (j : Int) p q ep).1 := by
  unfold NA.prog
  split
  · exact h
  · have hb := ap_begun h j hj
    rw [show ((j : Int)).toNat = j by omega]
    dsimp only
    rw [if_neg (by rw [hb.off]; simp)]
    split
    · exact ap_set hb j hj _
    · exact ap_set hb j hj _
theorem ap_erase {N : NA} (h : ApI N) (j : Nat) (ep : Int) (hj : j < 2) : ApI (N.erase (j : Int) ep).1 := by
  unfold NA.erase
  split
  · exact h
  · have hb := ap_begun h j hj
    rw [show ((j : Int)).toNat = j by omega]
    dsimp only
    rw [if_neg (by rw [hb.off]; simp)]
    split
    · exact ap_set hb j hj _
    · exact ap_set hb j hj _
theorem ap_doom {N : NA} (h : ApI N) (j : Nat) (n : Int) (hj : j < 2) : ApI (N.doomed (j : Int) n).1 := by
  unfold NA.doomed
  split
  · exact h
  · rw [show ((j : Int)).toNat = j by omega]
    exact ap_set h j hj _
theorem ap_start : ApI ((newA 3 4 []).prog 2 0 (pgL 7) 0).1 := by
  have e := prog_calm (N := newA 3 4 []) 2 0 (pgL 7) 0 (by decide) rfl rfl rfl rfl rfl (by decide) (pgL_len 7) rfl (by decide)
  have e2 : (newA 3 4 []).prog 2 0 (pgL 7) 0 = (⟨[gB [], gB [], gB [pgL 7]], 4, 0, 0, 0, false, 1, none⟩, 0) := e.trans (by kernel_rfl)
  rw [e2]
  exact ⟨rfl, rfl, rfl, rfl, rfl⟩
theorem ApI.end_ {N : NA} (h : ApI N) : N.readE 2 0 = 0 ∧ N.page 2 0 = pgL 7 ∧ (if N.inI 2 then ((N.blk (2 : Int).toNat).pages.length : Int) else 0) = 1 ∧ (if N.inI 2 then (N.blk (2 : Int).toNat).erases else 0) = 0 ∧ (if N.inI 2 then (N.blk (2 : Int).toNat).failed else false) = false := by
  have hi : N.inI ((2 : Nat) : Int) = true := NA.inI_nat N 2 (by rw [h.len]; omega)
  have hi2 : N.inI 2 = true := hi
  have hb : N.blk (2 : Int).toNat = gB [pgL 7] := h.blk
  rw [if_pos hi2, if_pos hi2, if_pos hi2, hb]
  refine ⟨?_, ?_, rfl, rfl, rfl⟩
  · unfold NA.readE
    have ha : N.atE 2 = 0 := atE_in (N := N) 2 (by rw [h.len]; omega) h.off
    rw [if_neg (by rw [ha]; simp), if_neg (by rw [h.pages]; omega), hb, if_neg (by show ¬ (((1 : Nat) : Int) ≤ 0); omega), if_neg (by show ¬ (false = true); simp)]
  · unfold NA.page
    rw [hb]
    rfl

set_option maxRecDepth 100000 in
set_option maxHeartbeats 16000000 in
theorem law_apart (C : Option Addr) (mm d : Nat) (ys : Nat → NAct) (w : World) (hy : Recs w C mm 8 NAct.enc NAct.ok ys) :
    Calls Try.prog 8 #[.slice C mm d] w fun e w' => e = .returned (.bool true) ∧ Below w.heap.size w w' := by
  have hm := hy.most
  have Hy := hid hy
  clear hy
  go_enter Try.func8, Try.ntmps8
  go_wp2_with fail
  refine (awake_any w).mono ?_
  rintro e w1 ⟨rfl, hB1⟩
  go_wp2_with fail
  refine (new_b w 3 4 none 0 0 [] w1 hB1 (by omega) (by omega) (Nums.none _ _ _) (by simp)).mono ?_
  rintro e w2 ⟨b, rfl, h2⟩
  replace h2 := hid h2
  clear hB1
  go_wp2_with fail
  refine (page_b h2.out 7 (by omega)).mono ?_
  rintro e w3 ⟨g3, rfl, hz3, h3, -, -, -⟩
  have hp := program_b h3 2 0 _ 96 96 _ 0 hz3 (by decide)
  clear h2 h3 hz3
  go_wp2_with fail
  refine hp.mono ?_
  rintro e w4 ⟨rfl, h4⟩
  replace h4 := hid h4
  clear hp
  go_wp2
  go_loopw [5] (fun i w' => ∃ (k : Nat) (N : NA), k ≤ mm ∧ k ≤ 60 ∧ i = .int .i64 (k : Int) ∧ ApI N ∧ ArrB w w' b N) (fun i _ => 60 - (intOf i).toNat)
  case atStart => exact ⟨0, _, by omega, by omega, rfl, ap_start, h4.out⟩
  case round =>
    clear h4
    obtain ⟨k, N, hk, hk60, rfl, hI, hA⟩ := hrel
    replace hI := hid hI
    by_cases hlt : k < mm ∧ k < 60
    · obtain ⟨hlt, hlt60⟩ := hlt
      obtain ⟨bs, os, rfl, hcs⟩ := (Hy.out.below hA.bel (fun _ h => h)).at_ k hlt
      obtain ⟨x0, x1, x2, x3, x4, x5, x6, x7⟩ := NAct.cells hcs
      obtain ⟨⟨hk0, hk255⟩, hbb, -, -⟩ := Hy.out.ok k hlt
      replace hA := hid hA
      clear hcs
      go_upto_region 9 with (fail)
      generalize hw5 : World.alloc wr _ = w5
      obtain ⟨ga, hga⟩ : ∃ g, wr.heap.size = g := ⟨_, rfl⟩
      have hba : Blk w5 wr.heap.size (NAct.enc (ys k)).toArray 43 := by rw [← hw5]; exact Blk.new _ _ _
      have hB5 : Below wr.heap.size wr w5 := by rw [← hw5]; exact (Below.refl _ _).alloc (Nat.le_refl _) _
      have hX5 := hid (ArrX.of hA.out hB5 (Nat.le_refl _) hba)
      rw [hga] at hba hX5 ⊢
      have z0 : w5.cell? ⟨ga, 0, none⟩ = some (.int .u8 (ys k).kind) := hba.cell 0
      have z1 : w5.cell? ⟨ga, 1, none⟩ = some (.int .i64 (ys k).i) := hba.cell 1
      have z4 : w5.cell? ⟨ga, 4, none⟩ = some (.int .u8 (ys k).b) := hba.cell 4
      clear hw5 hga hA hB5 hba x0 x1 x2 x3 x4 x5 x6 x7
      obtain ⟨j, hj, hjq⟩ := umod_nat (ys k).i 2 (by omega)
      replace hjq : (IntKind.u64.wrap (ys k).i).tmod 2 = (j : Int) := hjq
      have hjw : IntKind.i64.wrap (j : Int) = (j : Int) := IntWalk.i64_in _ (by omega)
      obtain ⟨pn, hpn0⟩ : ∃ pn, pn = (if N.inI (j : Int) then ((N.blk ((j : Int)).toNat).pages.length : Int) else 0) := ⟨_, rfl⟩
      have hBd : Below w5.heap.size w5 w5.drew := below_drewN (Below.refl _ _) 1
      have hnxt := next_b (hX5.out.later hBd).arrB (j : Int)
      rw [← hpn0] at hnxt
      obtain ⟨cs, hcs⟩ : ∃ cs, cs = (NAct.enc (ys k)).toArray := ⟨_, rfl⟩
      have hc4 : cs[4]? = some (.int .u8 (ys k).b) := by rw [hcs]; rfl
      rw [← hcs] at hX5
      have hnxt2 := hid hnxt
      clear hnxt hpn0 hcs
      have hkd : (ys k).kind.tmod 4 = 0 ∨ (ys k).kind.tmod 4 = 1 ∨ (ys k).kind.tmod 4 = 2 ∨ (ys k).kind.tmod 4 = 3 := by
        rw [Int.tmod_eq_emod_of_nonneg hk0]; omega
      generalize (ys k).i = yi at *
      generalize (ys k).kind = yk at *
      generalize (ys k).b = yb at *
      have hyb0 := hbb.1
      have hyb1 := hbb.2
      have hbw : IntKind.i64.wrap yb = yb := IntWalk.i64_in _ (by omega)
      have hbw2 : IntKind.i64.wrap (1 + yb) = 1 + yb := IntWalk.i64_in _ (by omega)
      rcases hkd with hkd | hkd | hkd | hkd
      · have hnxt := hnxt2.out
        clear hk0 hk255 hnxt2
        go_upto_region 14 with (fail)
        refine wp_region_held_drew (S := (fun w' => w'.cell? ⟨ga, 4, none⟩ = some (.int .u8 yb))) (by kernel_rfl) ?hSnewAaz (fun hHeld => ?restAaz)
        case hSnewAaz => ((try dsimp only); exact ((hX5.out.later hBd).blk.cell 4).trans hc4)
        refine wpAnyH_take (i := 0) (oi := ?oiAat2x0) (v := ?vAat2x0) ?hoAat2x0 ?h1Aat2x0 ?h2Aat2x0 ?h3Aat2x0 ?hqAat2x0 (Or.inl ⟨?h4Aat2x0, ?hyAat2x0⟩) (by assumption) ?restAat2x0
        case hoAat2x0 => (simp only [List.getElem?_toArray, List.getElem?_cons_zero, List.getElem?_cons_succ]; rfl)
        case h1Aat2x0 => kernel_rfl
        case h2Aat2x0 => kernel_rfl
        case h3Aat2x0 => kernel_rfl
        case h4Aat2x0 => rfl
        case hqAat2x0 => exact fun _ _ _ h => h
        case hyAat2x0 => (intro w hSw; (try dsimp only at hSw); go_simp <;> with_reducible rfl)
        (try simp only [Act.put, List.setIfInBounds_toArray, List.set_cons_zero, List.set_cons_succ])
        refine wpAnyH_take (i := 1) (oi := ?oiAat4x1) (v := ?vAat4x1) ?hoAat4x1 ?h1Aat4x1 ?h2Aat4x1 ?h3Aat4x1 ?hqAat4x1 (Or.inl ⟨?h4Aat4x1, ?hyAat4x1⟩) (by assumption) ?restAat4x1
        case hoAat4x1 => (simp only [List.getElem?_toArray, List.getElem?_cons_zero, List.getElem?_cons_succ]; rfl)
        case h1Aat4x1 => kernel_rfl
        case h2Aat4x1 => kernel_rfl
        case h3Aat4x1 => kernel_rfl
        case h4Aat4x1 => rfl
        case hqAat4x1 => exact fun _ _ _ h => h
        case hyAat4x1 => (intro w hSw; (try dsimp only at hSw); go_simp <;> with_reducible rfl)
        (try simp only [Act.put, List.setIfInBounds_toArray, List.set_cons_zero, List.set_cons_succ])
        refine wpAnyH_take (i := 2) (oi := ?oiAat6x2) (v := ?vAat6x2) ?hoAat6x2 ?h1Aat6x2 ?h2Aat6x2 ?h3Aat6x2 ?hqAat6x2 (Or.inl ⟨?h4Aat6x2, ?hyAat6x2⟩) (by assumption) ?restAat6x2
        case hoAat6x2 => (simp only [List.getElem?_toArray, List.getElem?_cons_zero, List.getElem?_cons_succ]; rfl)
        case h1Aat6x2 => kernel_rfl
        case h2Aat6x2 => kernel_rfl
        case h3Aat6x2 => kernel_rfl
        case h4Aat6x2 => rfl
        case hqAat6x2 => exact fun _ _ _ h => h
        case hyAat6x2 => (intro w hSw; (try dsimp only at hSw); go_simp <;> with_reducible rfl)
        (try simp only [Act.put, List.setIfInBounds_toArray, List.set_cons_zero, List.set_cons_succ])
        refine wpAnyH_take (i := 3) (oi := ?oiAat8x3) (v := ?vAat8x3) ?hoAat8x3 ?h1Aat8x3 ?h2Aat8x3 ?h3Aat8x3 ?hqAat8x3 (Or.inl ⟨?h4Aat8x3, ?hyAat8x3⟩) (by assumption) ?restAat8x3
        case hoAat8x3 => (simp only [List.getElem?_toArray, List.getElem?_cons_zero, List.getElem?_cons_succ]; rfl)
        case h1Aat8x3 => kernel_rfl
        case h2Aat8x3 => kernel_rfl
        case h3Aat8x3 => kernel_rfl
        case h4Aat8x3 => rfl
        case hqAat8x3 => exact fun _ _ _ h => h
        case hyAat8x3 => (intro w hSw; (try dsimp only at hSw); go_simp <;> with_reducible rfl)
        (try simp only [Act.put, List.setIfInBounds_toArray, List.set_cons_zero, List.set_cons_succ])
        refine wpAnyH_take (i := 5) (oi := ?oiAat10x5) (v := ?vAat10x5) ?hoAat10x5 ?h1Aat10x5 ?h2Aat10x5 ?h3Aat10x5 ?hqAat10x5 (Or.inl ⟨?h4Aat10x5, ?hyAat10x5⟩) (by assumption) ?restAat10x5
        case hoAat10x5 => (simp only [List.getElem?_toArray, List.getElem?_cons_zero, List.getElem?_cons_succ]; rfl)
        case h1Aat10x5 => kernel_rfl
        case h2Aat10x5 => kernel_rfl
        case h3Aat10x5 => kernel_rfl
        case h4Aat10x5 => rfl
        case hqAat10x5 => exact fun _ _ _ h => h
        case hyAat10x5 => (intro w hSw; (try dsimp only at hSw); go_simp <;> with_reducible rfl)
        (try simp only [Act.put, List.setIfInBounds_toArray, List.set_cons_zero, List.set_cons_succ])
        refine wpAnyH_take (i := 6) (oi := ?oiAat12x6) (v := ?vAat12x6) ?hoAat12x6 ?h1Aat12x6 ?h2Aat12x6 ?h3Aat12x6 ?hqAat12x6 (Or.inl ⟨?h4Aat12x6, ?hyAat12x6⟩) (by assumption) ?restAat12x6
        case hoAat12x6 => (simp only [List.getElem?_toArray, List.getElem?_cons_zero, List.getElem?_cons_succ]; rfl)
        case h1Aat12x6 => kernel_rfl
        case h2Aat12x6 => kernel_rfl
        case h3Aat12x6 => kernel_rfl
        case h4Aat12x6 => rfl
        case hqAat12x6 => exact fun _ _ _ h => h
        case hyAat12x6 => (intro w hSw; (try dsimp only at hSw); go_simp <;> with_reducible rfl)
        (try simp only [Act.put, List.setIfInBounds_toArray, List.set_cons_zero, List.set_cons_succ])
        refine wpAnyH_ready (rs := [4]) (by kernel_rfl) (by simp) ?_
        refine AllReadyH.cons (o := ?oiAaq13) ?hoAaq13 (fun K hK => ?restAaq13) ?moreAaq13
        case moreAaq13 => exact AllReadyH.nil
        case hoAaq13 => (simp only [List.getElem?_toArray, List.getElem?_cons_zero, List.getElem?_cons_succ]; rfl)
        go_simp
        refine hnxt.mono ?_
        rintro e wn ⟨rfl, rfl⟩
        try go_wp2_with fail
        refine hK.out _ _ ?hSnewAahq13 (fun hHeld => ?restAahq13)
        case hSnewAahq13 => ((try dsimp only); exact ((hX5.out.later hBd).blk.cell 4).trans hc4)
        clear hK K
        (try simp only [Act.put, List.setIfInBounds_toArray, List.set_cons_zero, List.set_cons_succ])
        refine wpAnyH_ready (rs := [7]) (by kernel_rfl) (by simp) ?_
        refine AllReadyH.cons (o := ?oiAaq14) ?hoAaq14 (fun K hK => ?restAaq14) ?moreAaq14
        case moreAaq14 => exact AllReadyH.nil
        case hoAaq14 => (simp only [List.getElem?_toArray, List.getElem?_cons_zero, List.getElem?_cons_succ]; rfl)
        go_simp
        refine (page_any yb _ hbb).mono ?_
        rintro e w6 ⟨g6, rfl, hb6, hg6, hB6⟩
        have hX6 := (hX5.out.later hBd).later hB6
        have hz6 := nums_lit hb6 (pgL_len _) (pgL_wf yb)
        have hpn := program_x hX6 (j : Int) pn (some ⟨g6, 0, none⟩) 96 96 _ 0 hz6 (by decide)
        try go_wp2_with fail
        refine hK.out _ _ ?hSnewAahq14 (fun hHeld => ?restAahq14)
        case hSnewAahq14 => ((try dsimp only); exact (hX6.blk.cell 4).trans hc4)
        clear hK K
        (try simp only [Act.put, List.setIfInBounds_toArray, List.set_cons_zero, List.set_cons_succ])
        refine wpAnyH_ready (rs := [8]) (by kernel_rfl) (by simp) ?_
        refine AllReadyH.cons (o := ?oiAaq15) ?hoAaq15 (fun K hK => ?restAaq15) ?moreAaq15
        case moreAaq15 => exact AllReadyH.nil
        case hoAaq15 => (simp only [List.getElem?_toArray, List.getElem?_cons_zero, List.getElem?_cons_succ]; rfl)
        go_simp
        refine hpn.mono ?_
        rintro e w7 ⟨rfl, hX7⟩
        try go_wp2_with fail
        refine hK.out _ _ ?hSnewAahq15 (fun hHeld => ?restAahq15)
        case hSnewAahq15 => ((try dsimp only); exact (hX7.blk.cell 4).trans hc4)
        clear hK K
        (try simp only [Act.put, List.setIfInBounds_toArray, List.set_cons_zero, List.set_cons_succ])
        refine wpAnyH_done (by kernel_rfl) ?_ _
        clear hpn hnxt hX6 hz6 hb6 hB6 hBd hX5 hg6
        have hI7 := hid (ap_prog hI.out j pn (pgL yb) 0 hj)
        generalize hN7 : (N.prog (j : Int) pn (pgL yb) 0).1 = N7 at *
        have hf7 := hid hX7.arrB
        clear hX7 hN7 z0 z1 z4
        go_wp2
        go_roundw
        case rel => exact ⟨k + 1, _, by omega, by omega, by go_num, hI7.out, hf7.out⟩
        case measure => simp [intOf]; omega
      · have hnxt := hnxt2.out
        clear hk0 hk255 hnxt2
        go_upto_region 14 with (fail)
        refine wp_region_held_drew (S := (fun w' => w'.cell? ⟨ga, 4, none⟩ = some (.int .u8 yb))) (by kernel_rfl) ?hSnewAbz (fun hHeld => ?restAbz)
        case hSnewAbz => ((try dsimp only); exact ((hX5.out.later hBd).blk.cell 4).trans hc4)
        refine wpAnyH_take (i := 0) (oi := ?oiAbt17x0) (v := ?vAbt17x0) ?hoAbt17x0 ?h1Abt17x0 ?h2Abt17x0 ?h3Abt17x0 ?hqAbt17x0 (Or.inl ⟨?h4Abt17x0, ?hyAbt17x0⟩) (by assumption) ?restAbt17x0
        case hoAbt17x0 => (simp only [List.getElem?_toArray, List.getElem?_cons_zero, List.getElem?_cons_succ]; rfl)
        case h1Abt17x0 => kernel_rfl
        case h2Abt17x0 => kernel_rfl
        case h3Abt17x0 => kernel_rfl
        case h4Abt17x0 => rfl
        case hqAbt17x0 => exact fun _ _ _ h => h
        case hyAbt17x0 => (intro w hSw; (try dsimp only at hSw); go_simp <;> with_reducible rfl)
        (try simp only [Act.put, List.setIfInBounds_toArray, List.set_cons_zero, List.set_cons_succ])
        refine wpAnyH_take (i := 1) (oi := ?oiAbt19x1) (v := ?vAbt19x1) ?hoAbt19x1 ?h1Abt19x1 ?h2Abt19x1 ?h3Abt19x1 ?hqAbt19x1 (Or.inl ⟨?h4Abt19x1, ?hyAbt19x1⟩) (by assumption) ?restAbt19x1
        case hoAbt19x1 => (simp only [List.getElem?_toArray, List.getElem?_cons_zero, List.getElem?_cons_succ]; rfl)
        case h1Abt19x1 => kernel_rfl
        case h2Abt19x1 => kernel_rfl
        case h3Abt19x1 => kernel_rfl
        case h4Abt19x1 => rfl
        case hqAbt19x1 => exact fun _ _ _ h => h
        case hyAbt19x1 => (intro w hSw; (try dsimp only at hSw); go_simp <;> with_reducible rfl)
        (try simp only [Act.put, List.setIfInBounds_toArray, List.set_cons_zero, List.set_cons_succ])
        refine wpAnyH_take (i := 2) (oi := ?oiAbt21x2) (v := ?vAbt21x2) ?hoAbt21x2 ?h1Abt21x2 ?h2Abt21x2 ?h3Abt21x2 ?hqAbt21x2 (Or.inl ⟨?h4Abt21x2, ?hyAbt21x2⟩) (by assumption) ?restAbt21x2
        case hoAbt21x2 => (simp only [List.getElem?_toArray, List.getElem?_cons_zero, List.getElem?_cons_succ]; rfl)
        case h1Abt21x2 => kernel_rfl
        case h2Abt21x2 => kernel_rfl
        case h3Abt21x2 => kernel_rfl
        case h4Abt21x2 => rfl
        case hqAbt21x2 => exact fun _ _ _ h => h
        case hyAbt21x2 => (intro w hSw; (try dsimp only at hSw); go_simp <;> with_reducible rfl)
        (try simp only [Act.put, List.setIfInBounds_toArray, List.set_cons_zero, List.set_cons_succ])
        refine wpAnyH_take (i := 3) (oi := ?oiAbt23x3) (v := ?vAbt23x3) ?hoAbt23x3 ?h1Abt23x3 ?h2Abt23x3 ?h3Abt23x3 ?hqAbt23x3 (Or.inl ⟨?h4Abt23x3, ?hyAbt23x3⟩) (by assumption) ?restAbt23x3
        case hoAbt23x3 => (simp only [List.getElem?_toArray, List.getElem?_cons_zero, List.getElem?_cons_succ]; rfl)
        case h1Abt23x3 => kernel_rfl
        case h2Abt23x3 => kernel_rfl
        case h3Abt23x3 => kernel_rfl
        case h4Abt23x3 => rfl
        case hqAbt23x3 => exact fun _ _ _ h => h
        case hyAbt23x3 => (intro w hSw; (try dsimp only at hSw); go_simp <;> with_reducible rfl)
        (try simp only [Act.put, List.setIfInBounds_toArray, List.set_cons_zero, List.set_cons_succ])
        refine wpAnyH_take (i := 5) (oi := ?oiAbt25x5) (v := ?vAbt25x5) ?hoAbt25x5 ?h1Abt25x5 ?h2Abt25x5 ?h3Abt25x5 ?hqAbt25x5 (Or.inl ⟨?h4Abt25x5, ?hyAbt25x5⟩) (by assumption) ?restAbt25x5
        case hoAbt25x5 => (simp only [List.getElem?_toArray, List.getElem?_cons_zero, List.getElem?_cons_succ]; rfl)
        case h1Abt25x5 => kernel_rfl
        case h2Abt25x5 => kernel_rfl
        case h3Abt25x5 => kernel_rfl
        case h4Abt25x5 => rfl
        case hqAbt25x5 => exact fun _ _ _ h => h
        case hyAbt25x5 => (intro w hSw; (try dsimp only at hSw); go_simp <;> with_reducible rfl)
        (try simp only [Act.put, List.setIfInBounds_toArray, List.set_cons_zero, List.set_cons_succ])
        refine wpAnyH_take (i := 6) (oi := ?oiAbt27x6) (v := ?vAbt27x6) ?hoAbt27x6 ?h1Abt27x6 ?h2Abt27x6 ?h3Abt27x6 ?hqAbt27x6 (Or.inl ⟨?h4Abt27x6, ?hyAbt27x6⟩) (by assumption) ?restAbt27x6
        case hoAbt27x6 => (simp only [List.getElem?_toArray, List.getElem?_cons_zero, List.getElem?_cons_succ]; rfl)
        case h1Abt27x6 => kernel_rfl
        case h2Abt27x6 => kernel_rfl
        case h3Abt27x6 => kernel_rfl
        case h4Abt27x6 => rfl
        case hqAbt27x6 => exact fun _ _ _ h => h
        case hyAbt27x6 => (intro w hSw; (try dsimp only at hSw); go_simp <;> with_reducible rfl)
        (try simp only [Act.put, List.setIfInBounds_toArray, List.set_cons_zero, List.set_cons_succ])
        refine wpAnyH_ready (rs := [4]) (by kernel_rfl) (by simp) ?_
        refine AllReadyH.cons (o := ?oiAbq28) ?hoAbq28 (fun K hK => ?restAbq28) ?moreAbq28
        case moreAbq28 => exact AllReadyH.nil
        case hoAbq28 => (simp only [List.getElem?_toArray, List.getElem?_cons_zero, List.getElem?_cons_succ]; rfl)
        go_simp
        refine hnxt.mono ?_
        rintro e wn ⟨rfl, rfl⟩
        try go_wp2_with fail
        refine hK.out _ _ ?hSnewAbhq28 (fun hHeld => ?restAbhq28)
        case hSnewAbhq28 => ((try dsimp only); exact ((hX5.out.later hBd).blk.cell 4).trans hc4)
        clear hK K
        (try simp only [Act.put, List.setIfInBounds_toArray, List.set_cons_zero, List.set_cons_succ])
        refine wpAnyH_ready (rs := [7]) (by kernel_rfl) (by simp) ?_
        refine AllReadyH.cons (o := ?oiAbq29) ?hoAbq29 (fun K hK => ?restAbq29) ?moreAbq29
        case moreAbq29 => exact AllReadyH.nil
        case hoAbq29 => (simp only [List.getElem?_toArray, List.getElem?_cons_zero, List.getElem?_cons_succ]; rfl)
        go_simp
        refine (page_any yb _ hbb).mono ?_
        rintro e w6 ⟨g6, rfl, hb6, hg6, hB6⟩
        have hX6 := (hX5.out.later hBd).later hB6
        have hz6 := nums_lit hb6 (pgL_len _) (pgL_wf yb)
        have hpn := program_x hX6 (j : Int) pn (some ⟨g6, 0, none⟩) 96 96 _ 0 hz6 (by decide)
        try go_wp2_with fail
        refine hK.out _ _ ?hSnewAbhq29 (fun hHeld => ?restAbhq29)
        case hSnewAbhq29 => ((try dsimp only); exact (hX6.blk.cell 4).trans hc4)
        clear hK K
        (try simp only [Act.put, List.setIfInBounds_toArray, List.set_cons_zero, List.set_cons_succ])
        refine wpAnyH_ready (rs := [8]) (by kernel_rfl) (by simp) ?_
        refine AllReadyH.cons (o := ?oiAbq30) ?hoAbq30 (fun K hK => ?restAbq30) ?moreAbq30
        case moreAbq30 => exact AllReadyH.nil
        case hoAbq30 => (simp only [List.getElem?_toArray, List.getElem?_cons_zero, List.getElem?_cons_succ]; rfl)
        go_simp
        refine hpn.mono ?_
        rintro e w7 ⟨rfl, hX7⟩
        try go_wp2_with fail
        refine hK.out _ _ ?hSnewAbhq30 (fun hHeld => ?restAbhq30)
        case hSnewAbhq30 => ((try dsimp only); exact (hX7.blk.cell 4).trans hc4)
        clear hK K
        (try simp only [Act.put, List.setIfInBounds_toArray, List.set_cons_zero, List.set_cons_succ])
        refine wpAnyH_done (by kernel_rfl) ?_ _
        clear hpn hnxt hX6 hz6 hb6 hB6 hBd hX5 hg6
        have hI7 := hid (ap_prog hI.out j pn (pgL yb) 0 hj)
        generalize hN7 : (N.prog (j : Int) pn (pgL yb) 0).1 = N7 at *
        have hf7 := hid hX7.arrB
        clear hX7 hN7 z0 z1 z4
        go_wp2
        go_roundw
        case rel => exact ⟨k + 1, _, by omega, by omega, by go_num, hI7.out, hf7.out⟩
        case measure => simp [intOf]; omega
      · have hen := erase_x hX5.out (j : Int) 0
        clear hk0 hk255 hnxt2 hBd
        go_wp2_with fail
        refine hen.mono ?_
        rintro e w7 ⟨rfl, hX7⟩
        clear hen hX5
        have hI7 := hid (ap_erase hI.out j 0 hj)
        generalize hN7 : (N.erase (j : Int) 0).1 = N7 at *
        have hf7 := hid hX7.arrB
        clear hX7 hN7 z0 z1 z4
        go_wp2
        go_roundw
        case rel => exact ⟨k + 1, _, by omega, by omega, by go_num, hI7.out, hf7.out⟩
        case measure => simp [intOf]; omega
      · have hdm := doom_b hX5.out.arrB (j : Int) (1 + yb) (by omega)
        clear hk0 hk255 hnxt2 hBd
        go_wp2_with fail
        refine hdm.mono ?_
        rintro e w8 ⟨rfl, h8⟩
        have hI8 := hid (ap_doom hI.out j (1 + yb) (by omega))
        have hf8 := hid h8
        clear h8 hdm hX5 z0 z1 z4
        go_wp2
        go_roundw
        case rel => exact ⟨k + 1, _, by omega, by omega, by go_num, hI8.out, hf8.out⟩
        case measure => simp [intOf]; omega
    · replace hA := hid hA
      by_cases hk1 : k < mm
      · have hk60 : ¬ k < 60 := fun h => hlt ⟨hk1, h⟩
        clear hlt
        obtain ⟨x0, x1, x2, x3, x4⟩ := hI.out.end_
        have hrd := read_yes_b hA.out 2 0 x0
        rw [x1] at hrd
        have Hx2 := hid x2
        have Hx3 := hid x3
        have Hx4 := hid x4
        clear x0 x1 x2 x3 x4
        go_wp2_with fail
        refine hrd.mono ?_
        rintro e w6 ⟨A6, c6, rfl, ho6, h6, hB6⟩
        have hz6 := (own_reads ho6 (pgL_wf 7)).2
        have HA := hid h6
        have HC6 := hid (fun (W : World) (hW : Below w6.heap.size w6 W) => conv_str (c := c6) (hz6.below hW))
        have hBd : Below w6.heap.size w6 w6.drew := below_drewN (Below.refl _ _) 1
        have hse := str_eq_true (show pgL 7 = pgL 7 from rfl)
        clear ho6 hB6 hA h6 hz6 hrd
        go_upto_region 18 with (fail)
        refine wp_region_held_drew (S := (fun w' => (convert 27 9 (.slice A6 96 c6)).run Try.prog w' = .ok (.string (strOfNums (pgL 7))) w')) (by kernel_rfl) ?hSnewAmz (fun hHeld => ?restAmz)
        case hSnewAmz => ((try dsimp only); exact HC6.out _ hBd)
        refine wpAnyH_take (i := 0) (oi := ?oiAmt32x0) (v := ?vAmt32x0) ?hoAmt32x0 ?h1Amt32x0 ?h2Amt32x0 ?h3Amt32x0 ?hqAmt32x0 (Or.inl ⟨?h4Amt32x0, ?hyAmt32x0⟩) (by assumption) ?restAmt32x0
        case hoAmt32x0 => (simp only [List.getElem?_toArray, List.getElem?_cons_zero, List.getElem?_cons_succ]; rfl)
        case h1Amt32x0 => kernel_rfl
        case h2Amt32x0 => kernel_rfl
        case h3Amt32x0 => kernel_rfl
        case h4Amt32x0 => rfl
        case hqAmt32x0 => exact fun _ _ _ h => h
        case hyAmt32x0 => (intro w hSw; (try dsimp only at hSw); go_simp <;> with_reducible rfl)
        (try simp only [Act.put, List.setIfInBounds_toArray, List.set_cons_zero, List.set_cons_succ])
        refine wpAnyH_take (i := 1) (oi := ?oiAmt34x1) (v := ?vAmt34x1) ?hoAmt34x1 ?h1Amt34x1 ?h2Amt34x1 ?h3Amt34x1 ?hqAmt34x1 (Or.inl ⟨?h4Amt34x1, ?hyAmt34x1⟩) (by assumption) ?restAmt34x1
        case hoAmt34x1 => (simp only [List.getElem?_toArray, List.getElem?_cons_zero, List.getElem?_cons_succ]; rfl)
        case h1Amt34x1 => kernel_rfl
        case h2Amt34x1 => kernel_rfl
        case h3Amt34x1 => kernel_rfl
        case h4Amt34x1 => rfl
        case hqAmt34x1 => exact fun _ _ _ h => h
        case hyAmt34x1 => (intro w hSw; (try dsimp only at hSw); go_simp <;> with_reducible rfl)
        (try simp only [Act.put, List.setIfInBounds_toArray, List.set_cons_zero, List.set_cons_succ])
        refine wpAnyH_take (i := 2) (oi := ?oiAmt36x2) (v := ?vAmt36x2) ?hoAmt36x2 ?h1Amt36x2 ?h2Amt36x2 ?h3Amt36x2 ?hqAmt36x2 (Or.inl ⟨?h4Amt36x2, ?hyAmt36x2⟩) (by assumption) ?restAmt36x2
        case hoAmt36x2 => (simp only [List.getElem?_toArray, List.getElem?_cons_zero, List.getElem?_cons_succ]; rfl)
        case h1Amt36x2 => kernel_rfl
        case h2Amt36x2 => kernel_rfl
        case h3Amt36x2 => kernel_rfl
        case h4Amt36x2 => rfl
        case hqAmt36x2 => exact fun _ _ _ h => h
        case hyAmt36x2 => (intro w hSw; (try dsimp only at hSw); go_simp <;> with_reducible rfl)
        (try simp only [Act.put, List.setIfInBounds_toArray, List.set_cons_zero, List.set_cons_succ])
        refine wpAnyH_take (i := 3) (oi := ?oiAmt38x3) (v := ?vAmt38x3) ?hoAmt38x3 ?h1Amt38x3 ?h2Amt38x3 ?h3Amt38x3 ?hqAmt38x3 (Or.inl ⟨?h4Amt38x3, ?hyAmt38x3⟩) (by assumption) ?restAmt38x3
        case hoAmt38x3 => (simp only [List.getElem?_toArray, List.getElem?_cons_zero, List.getElem?_cons_succ]; rfl)
        case h1Amt38x3 => kernel_rfl
        case h2Amt38x3 => kernel_rfl
        case h3Amt38x3 => kernel_rfl
        case h4Amt38x3 => rfl
        case hqAmt38x3 => exact fun _ _ _ h => h
        case hyAmt38x3 => (intro w hSw; (try dsimp only at hSw); go_simp <;> with_reducible rfl)
        (try simp only [Act.put, List.setIfInBounds_toArray, List.set_cons_zero, List.set_cons_succ])
        refine wpAnyH_take (i := 4) (oi := ?oiAmt40x4) (v := ?vAmt40x4) ?hoAmt40x4 ?h1Amt40x4 ?h2Amt40x4 ?h3Amt40x4 ?hqAmt40x4 (Or.inl ⟨?h4Amt40x4, ?hyAmt40x4⟩) (by assumption) ?restAmt40x4
        case hoAmt40x4 => (simp only [List.getElem?_toArray, List.getElem?_cons_zero, List.getElem?_cons_succ]; rfl)
        case h1Amt40x4 => kernel_rfl
        case h2Amt40x4 => kernel_rfl
        case h3Amt40x4 => kernel_rfl
        case h4Amt40x4 => rfl
        case hqAmt40x4 => exact fun _ _ _ h => h
        case hyAmt40x4 => (intro w hSw; (try dsimp only at hSw); go_simp <;> with_reducible rfl)
        (try simp only [Act.put, List.setIfInBounds_toArray, List.set_cons_zero, List.set_cons_succ])
        refine wpAnyH_ready (rs := [5]) (by kernel_rfl) (by simp) ?_
        refine AllReadyH.cons (o := ?oiAmq41) ?hoAmq41 (fun K hK => ?restAmq41) ?moreAmq41
        case moreAmq41 => exact AllReadyH.nil
        case hoAmq41 => (simp only [List.getElem?_toArray, List.getElem?_cons_zero, List.getElem?_cons_succ]; rfl)
        go_simp
        refine (page_any 7 _ (by omega)).mono ?_
        rintro e w9 ⟨g9, rfl, hb9, hg9, hB9⟩
        have hB9' : Below w6.heap.size w6 w9 := hBd.trans hB9
        have hcv9 := conv_str (c := 96) (nums_lit hb9 (pgL_len 7) (pgL_wf 7))
        have h9 := HA.out.later hB9'
        have hnx := next_b h9 2
        have her := erases_b h9 2
        have hfl := failed_b h9 2
        rw [Hx2.out] at hnx
        rw [Hx3.out] at her
        rw [Hx4.out] at hfl
        try go_wp2_with fail
        refine hK.out _ _ ?hSnewAmhq41 (fun hHeld => ?restAmhq41)
        case hSnewAmhq41 => ((try dsimp only); exact HC6.out _ hB9')
        clear hK K
        (try simp only [Act.put, List.setIfInBounds_toArray, List.set_cons_zero, List.set_cons_succ])
        refine held_switch (fun w' => (convert 27 9 (.slice A6 96 c6)).run Try.prog w' = .ok (.string (strOfNums (pgL 7))) w' ∧ (convert 27 9 (.slice (some ⟨g9, 0, none⟩) 96 96)).run Try.prog w' = .ok (.string (strOfNums (pgL 7))) w') (fun w h => h.1) ?hSnewAmsa42 (fun hHeld => ?restAmsa42)
        case hSnewAmsa42 => ((try dsimp only); exact ⟨HC6.out _ hB9', hcv9⟩)
        refine wpAnyH_take (i := 6) (oi := ?oiAmt44x6) (v := ?vAmt44x6) ?hoAmt44x6 ?h1Amt44x6 ?h2Amt44x6 ?h3Amt44x6 ?hqAmt44x6 (Or.inl ⟨?h4Amt44x6, ?hyAmt44x6⟩) (by assumption) ?restAmt44x6
        case hoAmt44x6 => (simp only [List.getElem?_toArray, List.getElem?_cons_zero, List.getElem?_cons_succ]; rfl)
        case h1Amt44x6 => kernel_rfl
        case h2Amt44x6 => kernel_rfl
        case h3Amt44x6 => kernel_rfl
        case h4Amt44x6 => rfl
        case hqAmt44x6 => exact fun _ _ _ h => h
        case hyAmt44x6 => (intro w hSw; (try dsimp only at hSw); go_simp <;> with_reducible rfl)
        (try simp only [Act.put, List.setIfInBounds_toArray, List.set_cons_zero, List.set_cons_succ])
        refine wpAnyH_take (i := 7) (oi := ?oiAmt46x7) (v := ?vAmt46x7) ?hoAmt46x7 ?h1Amt46x7 ?h2Amt46x7 ?h3Amt46x7 ?hqAmt46x7 (Or.inl ⟨?h4Amt46x7, ?hyAmt46x7⟩) (by assumption) ?restAmt46x7
        case hoAmt46x7 => (simp only [List.getElem?_toArray, List.getElem?_cons_zero, List.getElem?_cons_succ]; rfl)
        case h1Amt46x7 => kernel_rfl
        case h2Amt46x7 => kernel_rfl
        case h3Amt46x7 => kernel_rfl
        case h4Amt46x7 => rfl
        case hqAmt46x7 => exact fun _ _ _ h => h
        case hyAmt46x7 => (intro w hSw; (try dsimp only at hSw); go_simp <;> with_reducible rfl)
        (try simp only [Act.put, List.setIfInBounds_toArray, List.set_cons_zero, List.set_cons_succ])
        refine wpAnyH_take (i := 8) (oi := ?oiAmt48x8) (v := ?vAmt48x8) ?hoAmt48x8 ?h1Amt48x8 ?h2Amt48x8 ?h3Amt48x8 ?hqAmt48x8 (Or.inl ⟨?h4Amt48x8, ?hyAmt48x8⟩) (by assumption) ?restAmt48x8
        case hoAmt48x8 => (simp only [List.getElem?_toArray, List.getElem?_cons_zero, List.getElem?_cons_succ]; rfl)
        case h1Amt48x8 => kernel_rfl
        case h2Amt48x8 => kernel_rfl
        case h3Amt48x8 => kernel_rfl
        case h4Amt48x8 => rfl
        case hqAmt48x8 => exact fun _ _ _ h => h
        case hyAmt48x8 => (intro w hSw; (try dsimp only at hSw); go_simp <;> with_reducible rfl)
        (try simp only [Act.put, List.setIfInBounds_toArray, List.set_cons_zero, List.set_cons_succ])
        refine wpAnyH_take (i := 9) (oi := ?oiAmt50x9) (v := ?vAmt50x9) ?hoAmt50x9 ?h1Amt50x9 ?h2Amt50x9 ?h3Amt50x9 ?hqAmt50x9 (Or.inl ⟨?h4Amt50x9, ?hyAmt50x9⟩) (by assumption) ?restAmt50x9
        case hoAmt50x9 => (simp only [List.getElem?_toArray, List.getElem?_cons_zero, List.getElem?_cons_succ]; rfl)
        case h1Amt50x9 => kernel_rfl
        case h2Amt50x9 => kernel_rfl
        case h3Amt50x9 => kernel_rfl
        case h4Amt50x9 => rfl
        case hqAmt50x9 => exact fun _ _ _ h => h
        case hyAmt50x9 => (intro w hSw; (try dsimp only at hSw); go_simp <;> with_reducible rfl)
        (try simp only [Act.put, List.setIfInBounds_toArray, List.set_cons_zero, List.set_cons_succ])
        refine wpAnyH_take (i := 10) (oi := ?oiAmt52x10) (v := ?vAmt52x10) ?hoAmt52x10 ?h1Amt52x10 ?h2Amt52x10 ?h3Amt52x10 ?hqAmt52x10 (Or.inl ⟨?h4Amt52x10, ?hyAmt52x10⟩) (by assumption) ?restAmt52x10
        case hoAmt52x10 => (simp only [List.getElem?_toArray, List.getElem?_cons_zero, List.getElem?_cons_succ]; rfl)
        case h1Amt52x10 => kernel_rfl
        case h2Amt52x10 => kernel_rfl
        case h3Amt52x10 => kernel_rfl
        case h4Amt52x10 => rfl
        case hqAmt52x10 => exact fun _ _ _ h => h
        case hyAmt52x10 => (intro w hSw; (try dsimp only at hSw); go_simp <;> with_reducible rfl)
        (try simp only [Act.put, List.setIfInBounds_toArray, List.set_cons_zero, List.set_cons_succ])
        refine wpAnyH_ready (rs := [11]) (by kernel_rfl) (by simp) ?_
        refine AllReadyH.cons (o := ?oiAmq53) ?hoAmq53 (fun K hK => ?restAmq53) ?moreAmq53
        case moreAmq53 => exact AllReadyH.nil
        case hoAmq53 => (simp only [List.getElem?_toArray, List.getElem?_cons_zero, List.getElem?_cons_succ]; rfl)
        go_simp
        refine hnx.mono ?_
        rintro e w9 ⟨rfl, rfl⟩
        try go_wp2_with fail
        refine hK.out _ _ ?hSnewAmhq53 (fun hHeld => ?restAmhq53)
        case hSnewAmhq53 => ((try dsimp only); exact ⟨HC6.out _ hB9', hcv9⟩)
        clear hK K
        (try simp only [Act.put, List.setIfInBounds_toArray, List.set_cons_zero, List.set_cons_succ])
        refine wpAnyH_take (i := 12) (oi := ?oiAmt55x12) (v := ?vAmt55x12) ?hoAmt55x12 ?h1Amt55x12 ?h2Amt55x12 ?h3Amt55x12 ?hqAmt55x12 (Or.inl ⟨?h4Amt55x12, ?hyAmt55x12⟩) (by assumption) ?restAmt55x12
        case hoAmt55x12 => (simp only [List.getElem?_toArray, List.getElem?_cons_zero, List.getElem?_cons_succ]; rfl)
        case h1Amt55x12 => kernel_rfl
        case h2Amt55x12 => kernel_rfl
        case h3Amt55x12 => kernel_rfl
        case h4Amt55x12 => rfl
        case hqAmt55x12 => exact fun _ _ _ h => h
        case hyAmt55x12 => (intro w hSw; (try dsimp only at hSw); go_simp <;> with_reducible rfl)
        (try simp only [Act.put, List.setIfInBounds_toArray, List.set_cons_zero, List.set_cons_succ])
        refine wpAnyH_take (i := 13) (oi := ?oiAmt57x13) (v := ?vAmt57x13) ?hoAmt57x13 ?h1Amt57x13 ?h2Amt57x13 ?h3Amt57x13 ?hqAmt57x13 (Or.inl ⟨?h4Amt57x13, ?hyAmt57x13⟩) (by assumption) ?restAmt57x13
        case hoAmt57x13 => (simp only [List.getElem?_toArray, List.getElem?_cons_zero, List.getElem?_cons_succ]; rfl)
        case h1Amt57x13 => kernel_rfl
        case h2Amt57x13 => kernel_rfl
        case h3Amt57x13 => kernel_rfl
        case h4Amt57x13 => rfl
        case hqAmt57x13 => exact fun _ _ _ h => h
        case hyAmt57x13 => (intro w hSw; (try dsimp only at hSw); go_simp <;> with_reducible rfl)
        (try simp only [Act.put, List.setIfInBounds_toArray, List.set_cons_zero, List.set_cons_succ])
        refine wpAnyH_take (i := 14) (oi := ?oiAmt59x14) (v := ?vAmt59x14) ?hoAmt59x14 ?h1Amt59x14 ?h2Amt59x14 ?h3Amt59x14 ?hqAmt59x14 (Or.inl ⟨?h4Amt59x14, ?hyAmt59x14⟩) (by assumption) ?restAmt59x14
        case hoAmt59x14 => (simp only [List.getElem?_toArray, List.getElem?_cons_zero, List.getElem?_cons_succ]; rfl)
        case h1Amt59x14 => kernel_rfl
        case h2Amt59x14 => kernel_rfl
        case h3Amt59x14 => kernel_rfl
        case h4Amt59x14 => rfl
        case hqAmt59x14 => exact fun _ _ _ h => h
        case hyAmt59x14 => (intro w hSw; (try dsimp only at hSw); go_simp <;> with_reducible rfl)
        (try simp only [Act.put, List.setIfInBounds_toArray, List.set_cons_zero, List.set_cons_succ])
        refine wpAnyH_take (i := 15) (oi := ?oiAmt61x15) (v := ?vAmt61x15) ?hoAmt61x15 ?h1Amt61x15 ?h2Amt61x15 ?h3Amt61x15 ?hqAmt61x15 (Or.inl ⟨?h4Amt61x15, ?hyAmt61x15⟩) (by assumption) ?restAmt61x15
        case hoAmt61x15 => (simp only [List.getElem?_toArray, List.getElem?_cons_zero, List.getElem?_cons_succ]; rfl)
        case h1Amt61x15 => kernel_rfl
        case h2Amt61x15 => kernel_rfl
        case h3Amt61x15 => kernel_rfl
        case h4Amt61x15 => rfl
        case hqAmt61x15 => exact fun _ _ _ h => h
        case hyAmt61x15 => (intro w hSw; (try dsimp only at hSw); go_simp <;> with_reducible rfl)
        (try simp only [Act.put, List.setIfInBounds_toArray, List.set_cons_zero, List.set_cons_succ])
        refine wpAnyH_ready (rs := [16]) (by kernel_rfl) (by simp) ?_
        refine AllReadyH.cons (o := ?oiAmq62) ?hoAmq62 (fun K hK => ?restAmq62) ?moreAmq62
        case moreAmq62 => exact AllReadyH.nil
        case hoAmq62 => (simp only [List.getElem?_toArray, List.getElem?_cons_zero, List.getElem?_cons_succ]; rfl)
        go_simp
        refine her.mono ?_
        rintro e w9 ⟨rfl, rfl⟩
        try go_wp2_with fail
        refine hK.out _ _ ?hSnewAmhq62 (fun hHeld => ?restAmhq62)
        case hSnewAmhq62 => ((try dsimp only); exact ⟨HC6.out _ hB9', hcv9⟩)
        clear hK K
        (try simp only [Act.put, List.setIfInBounds_toArray, List.set_cons_zero, List.set_cons_succ])
        refine wpAnyH_take (i := 17) (oi := ?oiAmt64x17) (v := ?vAmt64x17) ?hoAmt64x17 ?h1Amt64x17 ?h2Amt64x17 ?h3Amt64x17 ?hqAmt64x17 (Or.inl ⟨?h4Amt64x17, ?hyAmt64x17⟩) (by assumption) ?restAmt64x17
        case hoAmt64x17 => (simp only [List.getElem?_toArray, List.getElem?_cons_zero, List.getElem?_cons_succ]; rfl)
        case h1Amt64x17 => kernel_rfl
        case h2Amt64x17 => kernel_rfl
        case h3Amt64x17 => kernel_rfl
        case h4Amt64x17 => rfl
        case hqAmt64x17 => exact fun _ _ _ h => h
        case hyAmt64x17 => (intro w hSw; (try dsimp only at hSw); go_simp <;> with_reducible rfl)
        (try simp only [Act.put, List.setIfInBounds_toArray, List.set_cons_zero, List.set_cons_succ])
        refine wpAnyH_take (i := 18) (oi := ?oiAmt66x18) (v := ?vAmt66x18) ?hoAmt66x18 ?h1Amt66x18 ?h2Amt66x18 ?h3Amt66x18 ?hqAmt66x18 (Or.inl ⟨?h4Amt66x18, ?hyAmt66x18⟩) (by assumption) ?restAmt66x18
        case hoAmt66x18 => (simp only [List.getElem?_toArray, List.getElem?_cons_zero, List.getElem?_cons_succ]; rfl)
        case h1Amt66x18 => kernel_rfl
        case h2Amt66x18 => kernel_rfl
        case h3Amt66x18 => kernel_rfl
        case h4Amt66x18 => rfl
        case hqAmt66x18 => exact fun _ _ _ h => h
        case hyAmt66x18 => (intro w hSw; (try dsimp only at hSw); go_simp <;> with_reducible rfl)
        (try simp only [Act.put, List.setIfInBounds_toArray, List.set_cons_zero, List.set_cons_succ])
        refine wpAnyH_take (i := 19) (oi := ?oiAmt68x19) (v := ?vAmt68x19) ?hoAmt68x19 ?h1Amt68x19 ?h2Amt68x19 ?h3Amt68x19 ?hqAmt68x19 (Or.inl ⟨?h4Amt68x19, ?hyAmt68x19⟩) (by assumption) ?restAmt68x19
        case hoAmt68x19 => (simp only [List.getElem?_toArray, List.getElem?_cons_zero, List.getElem?_cons_succ]; rfl)
        case h1Amt68x19 => kernel_rfl
        case h2Amt68x19 => kernel_rfl
        case h3Amt68x19 => kernel_rfl
        case h4Amt68x19 => rfl
        case hqAmt68x19 => exact fun _ _ _ h => h
        case hyAmt68x19 => (intro w hSw; (try dsimp only at hSw); go_simp <;> with_reducible rfl)
        (try simp only [Act.put, List.setIfInBounds_toArray, List.set_cons_zero, List.set_cons_succ])
        refine wpAnyH_take (i := 20) (oi := ?oiAmt70x20) (v := ?vAmt70x20) ?hoAmt70x20 ?h1Amt70x20 ?h2Amt70x20 ?h3Amt70x20 ?hqAmt70x20 (Or.inl ⟨?h4Amt70x20, ?hyAmt70x20⟩) (by assumption) ?restAmt70x20
        case hoAmt70x20 => (simp only [List.getElem?_toArray, List.getElem?_cons_zero, List.getElem?_cons_succ]; rfl)
        case h1Amt70x20 => kernel_rfl
        case h2Amt70x20 => kernel_rfl
        case h3Amt70x20 => kernel_rfl
        case h4Amt70x20 => rfl
        case hqAmt70x20 => exact fun _ _ _ h => h
        case hyAmt70x20 => (intro w hSw; (try dsimp only at hSw); go_simp <;> with_reducible rfl)
        (try simp only [Act.put, List.setIfInBounds_toArray, List.set_cons_zero, List.set_cons_succ])
        refine wpAnyH_ready (rs := [21]) (by kernel_rfl) (by simp) ?_
        refine AllReadyH.cons (o := ?oiAmq71) ?hoAmq71 (fun K hK => ?restAmq71) ?moreAmq71
        case moreAmq71 => exact AllReadyH.nil
        case hoAmq71 => (simp only [List.getElem?_toArray, List.getElem?_cons_zero, List.getElem?_cons_succ]; rfl)
        go_simp
        refine hfl.mono ?_
        rintro e w9 ⟨rfl, rfl⟩
        try go_wp2_with fail
        refine hK.out _ _ ?hSnewAmhq71 (fun hHeld => ?restAmhq71)
        case hSnewAmhq71 => ((try dsimp only); exact ⟨HC6.out _ hB9', hcv9⟩)
        clear hK K
        (try simp only [Act.put, List.setIfInBounds_toArray, List.set_cons_zero, List.set_cons_succ])
        refine wpAnyH_take (i := 22) (oi := ?oiAmt73x22) (v := ?vAmt73x22) ?hoAmt73x22 ?h1Amt73x22 ?h2Amt73x22 ?h3Amt73x22 ?hqAmt73x22 (Or.inl ⟨?h4Amt73x22, ?hyAmt73x22⟩) (by assumption) ?restAmt73x22
        case hoAmt73x22 => (simp only [List.getElem?_toArray, List.getElem?_cons_zero, List.getElem?_cons_succ]; rfl)
        case h1Amt73x22 => kernel_rfl
        case h2Amt73x22 => kernel_rfl
        case h3Amt73x22 => kernel_rfl
        case h4Amt73x22 => rfl
        case hqAmt73x22 => exact fun _ _ _ h => h
        case hyAmt73x22 => (intro w hSw; (try dsimp only at hSw); go_simp <;> with_reducible rfl)
        (try simp only [Act.put, List.setIfInBounds_toArray, List.set_cons_zero, List.set_cons_succ])
        refine wpAnyH_take (i := 23) (oi := ?oiAmt75x23) (v := ?vAmt75x23) ?hoAmt75x23 ?h1Amt75x23 ?h2Amt75x23 ?h3Amt75x23 ?hqAmt75x23 (Or.inl ⟨?h4Amt75x23, ?hyAmt75x23⟩) (by assumption) ?restAmt75x23
        case hoAmt75x23 => (simp only [List.getElem?_toArray, List.getElem?_cons_zero, List.getElem?_cons_succ]; rfl)
        case h1Amt75x23 => kernel_rfl
        case h2Amt75x23 => kernel_rfl
        case h3Amt75x23 => kernel_rfl
        case h4Amt75x23 => rfl
        case hqAmt75x23 => exact fun _ _ _ h => h
        case hyAmt75x23 => (intro w hSw; (try dsimp only at hSw); go_simp <;> with_reducible rfl)
        (try simp only [Act.put, List.setIfInBounds_toArray, List.set_cons_zero, List.set_cons_succ])
        refine wpAnyH_take (i := 24) (oi := ?oiAmt77x24) (v := ?vAmt77x24) ?hoAmt77x24 ?h1Amt77x24 ?h2Amt77x24 ?h3Amt77x24 ?hqAmt77x24 (Or.inl ⟨?h4Amt77x24, ?hyAmt77x24⟩) (by assumption) ?restAmt77x24
        case hoAmt77x24 => (simp only [List.getElem?_toArray, List.getElem?_cons_zero, List.getElem?_cons_succ]; rfl)
        case h1Amt77x24 => kernel_rfl
        case h2Amt77x24 => kernel_rfl
        case h3Amt77x24 => kernel_rfl
        case h4Amt77x24 => rfl
        case hqAmt77x24 => exact fun _ _ _ h => h
        case hyAmt77x24 => (intro w hSw; (try dsimp only at hSw); go_simp <;> with_reducible rfl)
        (try simp only [Act.put, List.setIfInBounds_toArray, List.set_cons_zero, List.set_cons_succ])
        refine wpAnyH_done (by kernel_rfl) ?_ _
        have hfin := hid (h9.bel)
        clear hcv9 hB9' HC6 HA h9 hnx her hfl
        go_wp2
        go_ret
        exact ⟨rfl, hfin.out⟩
      · clear hlt
        obtain ⟨x0, x1, x2, x3, x4⟩ := hI.out.end_
        have hrd := read_yes_b hA.out 2 0 x0
        rw [x1] at hrd
        have Hx2 := hid x2
        have Hx3 := hid x3
        have Hx4 := hid x4
        clear x0 x1 x2 x3 x4
        go_wp2_with fail
        refine hrd.mono ?_
        rintro e w6 ⟨A6, c6, rfl, ho6, h6, hB6⟩
        have hz6 := (own_reads ho6 (pgL_wf 7)).2
        have HA := hid h6
        have HC6 := hid (fun (W : World) (hW : Below w6.heap.size w6 W) => conv_str (c := c6) (hz6.below hW))
        have hBd : Below w6.heap.size w6 w6.drew := below_drewN (Below.refl _ _) 1
        have hse := str_eq_true (show pgL 7 = pgL 7 from rfl)
        clear ho6 hB6 hA h6 hz6 hrd
        go_upto_region 18 with (fail)
        refine wp_region_held_drew (S := (fun w' => (convert 27 9 (.slice A6 96 c6)).run Try.prog w' = .ok (.string (strOfNums (pgL 7))) w')) (by kernel_rfl) ?hSnewAnz (fun hHeld => ?restAnz)
        case hSnewAnz => ((try dsimp only); exact HC6.out _ hBd)
        refine wpAnyH_take (i := 0) (oi := ?oiAnt79x0) (v := ?vAnt79x0) ?hoAnt79x0 ?h1Ant79x0 ?h2Ant79x0 ?h3Ant79x0 ?hqAnt79x0 (Or.inl ⟨?h4Ant79x0, ?hyAnt79x0⟩) (by assumption) ?restAnt79x0
        case hoAnt79x0 => (simp only [List.getElem?_toArray, List.getElem?_cons_zero, List.getElem?_cons_succ]; rfl)
        case h1Ant79x0 => kernel_rfl
        case h2Ant79x0 => kernel_rfl
        case h3Ant79x0 => kernel_rfl
        case h4Ant79x0 => rfl
        case hqAnt79x0 => exact fun _ _ _ h => h
        case hyAnt79x0 => (intro w hSw; (try dsimp only at hSw); go_simp <;> with_reducible rfl)
        (try simp only [Act.put, List.setIfInBounds_toArray, List.set_cons_zero, List.set_cons_succ])
        refine wpAnyH_take (i := 1) (oi := ?oiAnt81x1) (v := ?vAnt81x1) ?hoAnt81x1 ?h1Ant81x1 ?h2Ant81x1 ?h3Ant81x1 ?hqAnt81x1 (Or.inl ⟨?h4Ant81x1, ?hyAnt81x1⟩) (by assumption) ?restAnt81x1
        case hoAnt81x1 => (simp only [List.getElem?_toArray, List.getElem?_cons_zero, List.getElem?_cons_succ]; rfl)
        case h1Ant81x1 => kernel_rfl
        case h2Ant81x1 => kernel_rfl
        case h3Ant81x1 => kernel_rfl
        case h4Ant81x1 => rfl
        case hqAnt81x1 => exact fun _ _ _ h => h
        case hyAnt81x1 => (intro w hSw; (try dsimp only at hSw); go_simp <;> with_reducible rfl)
        (try simp only [Act.put, List.setIfInBounds_toArray, List.set_cons_zero, List.set_cons_succ])
        refine wpAnyH_take (i := 2) (oi := ?oiAnt83x2) (v := ?vAnt83x2) ?hoAnt83x2 ?h1Ant83x2 ?h2Ant83x2 ?h3Ant83x2 ?hqAnt83x2 (Or.inl ⟨?h4Ant83x2, ?hyAnt83x2⟩) (by assumption) ?restAnt83x2
        case hoAnt83x2 => (simp only [List.getElem?_toArray, List.getElem?_cons_zero, List.getElem?_cons_succ]; rfl)
        case h1Ant83x2 => kernel_rfl
        case h2Ant83x2 => kernel_rfl
        case h3Ant83x2 => kernel_rfl
        case h4Ant83x2 => rfl
        case hqAnt83x2 => exact fun _ _ _ h => h
        case hyAnt83x2 => (intro w hSw; (try dsimp only at hSw); go_simp <;> with_reducible rfl)
        (try simp only [Act.put, List.setIfInBounds_toArray, List.set_cons_zero, List.set_cons_succ])
        refine wpAnyH_take (i := 3) (oi := ?oiAnt85x3) (v := ?vAnt85x3) ?hoAnt85x3 ?h1Ant85x3 ?h2Ant85x3 ?h3Ant85x3 ?hqAnt85x3 (Or.inl ⟨?h4Ant85x3, ?hyAnt85x3⟩) (by assumption) ?restAnt85x3
        case hoAnt85x3 => (simp only [List.getElem?_toArray, List.getElem?_cons_zero, List.getElem?_cons_succ]; rfl)
        case h1Ant85x3 => kernel_rfl
        case h2Ant85x3 => kernel_rfl
        case h3Ant85x3 => kernel_rfl
        case h4Ant85x3 => rfl
        case hqAnt85x3 => exact fun _ _ _ h => h
        case hyAnt85x3 => (intro w hSw; (try dsimp only at hSw); go_simp <;> with_reducible rfl)
        (try simp only [Act.put, List.setIfInBounds_toArray, List.set_cons_zero, List.set_cons_succ])
        refine wpAnyH_take (i := 4) (oi := ?oiAnt87x4) (v := ?vAnt87x4) ?hoAnt87x4 ?h1Ant87x4 ?h2Ant87x4 ?h3Ant87x4 ?hqAnt87x4 (Or.inl ⟨?h4Ant87x4, ?hyAnt87x4⟩) (by assumption) ?restAnt87x4
        case hoAnt87x4 => (simp only [List.getElem?_toArray, List.getElem?_cons_zero, List.getElem?_cons_succ]; rfl)
        case h1Ant87x4 => kernel_rfl
        case h2Ant87x4 => kernel_rfl
        case h3Ant87x4 => kernel_rfl
        case h4Ant87x4 => rfl
        case hqAnt87x4 => exact fun _ _ _ h => h
        case hyAnt87x4 => (intro w hSw; (try dsimp only at hSw); go_simp <;> with_reducible rfl)
        (try simp only [Act.put, List.setIfInBounds_toArray, List.set_cons_zero, List.set_cons_succ])
        refine wpAnyH_ready (rs := [5]) (by kernel_rfl) (by simp) ?_
        refine AllReadyH.cons (o := ?oiAnq88) ?hoAnq88 (fun K hK => ?restAnq88) ?moreAnq88
        case moreAnq88 => exact AllReadyH.nil
        case hoAnq88 => (simp only [List.getElem?_toArray, List.getElem?_cons_zero, List.getElem?_cons_succ]; rfl)
        go_simp
        refine (page_any 7 _ (by omega)).mono ?_
        rintro e w9 ⟨g9, rfl, hb9, hg9, hB9⟩
        have hB9' : Below w6.heap.size w6 w9 := hBd.trans hB9
        have hcv9 := conv_str (c := 96) (nums_lit hb9 (pgL_len 7) (pgL_wf 7))
        have h9 := HA.out.later hB9'
        have hnx := next_b h9 2
        have her := erases_b h9 2
        have hfl := failed_b h9 2
        rw [Hx2.out] at hnx
        rw [Hx3.out] at her
        rw [Hx4.out] at hfl
        try go_wp2_with fail
        refine hK.out _ _ ?hSnewAnhq88 (fun hHeld => ?restAnhq88)
        case hSnewAnhq88 => ((try dsimp only); exact HC6.out _ hB9')
        clear hK K
        (try simp only [Act.put, List.setIfInBounds_toArray, List.set_cons_zero, List.set_cons_succ])
        refine held_switch (fun w' => (convert 27 9 (.slice A6 96 c6)).run Try.prog w' = .ok (.string (strOfNums (pgL 7))) w' ∧ (convert 27 9 (.slice (some ⟨g9, 0, none⟩) 96 96)).run Try.prog w' = .ok (.string (strOfNums (pgL 7))) w') (fun w h => h.1) ?hSnewAnsa89 (fun hHeld => ?restAnsa89)
        case hSnewAnsa89 => ((try dsimp only); exact ⟨HC6.out _ hB9', hcv9⟩)
        refine wpAnyH_take (i := 6) (oi := ?oiAnt91x6) (v := ?vAnt91x6) ?hoAnt91x6 ?h1Ant91x6 ?h2Ant91x6 ?h3Ant91x6 ?hqAnt91x6 (Or.inl ⟨?h4Ant91x6, ?hyAnt91x6⟩) (by assumption) ?restAnt91x6
        case hoAnt91x6 => (simp only [List.getElem?_toArray, List.getElem?_cons_zero, List.getElem?_cons_succ]; rfl)
        case h1Ant91x6 => kernel_rfl
        case h2Ant91x6 => kernel_rfl
        case h3Ant91x6 => kernel_rfl
        case h4Ant91x6 => rfl
        case hqAnt91x6 => exact fun _ _ _ h => h
        case hyAnt91x6 => (intro w hSw; (try dsimp only at hSw); go_simp <;> with_reducible rfl)
        (try simp only [Act.put, List.setIfInBounds_toArray, List.set_cons_zero, List.set_cons_succ])
        refine wpAnyH_take (i := 7) (oi := ?oiAnt93x7) (v := ?vAnt93x7) ?hoAnt93x7 ?h1Ant93x7 ?h2Ant93x7 ?h3Ant93x7 ?hqAnt93x7 (Or.inl ⟨?h4Ant93x7, ?hyAnt93x7⟩) (by assumption) ?restAnt93x7
        case hoAnt93x7 => (simp only [List.getElem?_toArray, List.getElem?_cons_zero, List.getElem?_cons_succ]; rfl)
        case h1Ant93x7 => kernel_rfl
        case h2Ant93x7 => kernel_rfl
        case h3Ant93x7 => kernel_rfl
        case h4Ant93x7 => rfl
        case hqAnt93x7 => exact fun _ _ _ h => h
        case hyAnt93x7 => (intro w hSw; (try dsimp only at hSw); go_simp <;> with_reducible rfl)
        (try simp only [Act.put, List.setIfInBounds_toArray, List.set_cons_zero, List.set_cons_succ])
        refine wpAnyH_take (i := 8) (oi := ?oiAnt95x8) (v := ?vAnt95x8) ?hoAnt95x8 ?h1Ant95x8 ?h2Ant95x8 ?h3Ant95x8 ?hqAnt95x8 (Or.inl ⟨?h4Ant95x8, ?hyAnt95x8⟩) (by assumption) ?restAnt95x8
        case hoAnt95x8 => (simp only [List.getElem?_toArray, List.getElem?_cons_zero, List.getElem?_cons_succ]; rfl)
        case h1Ant95x8 => kernel_rfl
        case h2Ant95x8 => kernel_rfl
        case h3Ant95x8 => kernel_rfl
        case h4Ant95x8 => rfl
        case hqAnt95x8 => exact fun _ _ _ h => h
        case hyAnt95x8 => (intro w hSw; (try dsimp only at hSw); go_simp <;> with_reducible rfl)
        (try simp only [Act.put, List.setIfInBounds_toArray, List.set_cons_zero, List.set_cons_succ])
        refine wpAnyH_take (i := 9) (oi := ?oiAnt97x9) (v := ?vAnt97x9) ?hoAnt97x9 ?h1Ant97x9 ?h2Ant97x9 ?h3Ant97x9 ?hqAnt97x9 (Or.inl ⟨?h4Ant97x9, ?hyAnt97x9⟩) (by assumption) ?restAnt97x9
        case hoAnt97x9 => (simp only [List.getElem?_toArray, List.getElem?_cons_zero, List.getElem?_cons_succ]; rfl)
        case h1Ant97x9 => kernel_rfl
        case h2Ant97x9 => kernel_rfl
        case h3Ant97x9 => kernel_rfl
        case h4Ant97x9 => rfl
        case hqAnt97x9 => exact fun _ _ _ h => h
        case hyAnt97x9 => (intro w hSw; (try dsimp only at hSw); go_simp <;> with_reducible rfl)
        (try simp only [Act.put, List.setIfInBounds_toArray, List.set_cons_zero, List.set_cons_succ])
        refine wpAnyH_take (i := 10) (oi := ?oiAnt99x10) (v := ?vAnt99x10) ?hoAnt99x10 ?h1Ant99x10 ?h2Ant99x10 ?h3Ant99x10 ?hqAnt99x10 (Or.inl ⟨?h4Ant99x10, ?hyAnt99x10⟩) (by assumption) ?restAnt99x10
        case hoAnt99x10 => (simp only [List.getElem?_toArray, List.getElem?_cons_zero, List.getElem?_cons_succ]; rfl)
        case h1Ant99x10 => kernel_rfl
        case h2Ant99x10 => kernel_rfl
        case h3Ant99x10 => kernel_rfl
        case h4Ant99x10 => rfl
        case hqAnt99x10 => exact fun _ _ _ h => h
        case hyAnt99x10 => (intro w hSw; (try dsimp only at hSw); go_simp <;> with_reducible rfl)
        (try simp only [Act.put, List.setIfInBounds_toArray, List.set_cons_zero, List.set_cons_succ])
        refine wpAnyH_ready (rs := [11]) (by kernel_rfl) (by simp) ?_
        refine AllReadyH.cons (o := ?oiAnq100) ?hoAnq100 (fun K hK => ?restAnq100) ?moreAnq100
        case moreAnq100 => exact AllReadyH.nil
        case hoAnq100 => (simp only [List.getElem?_toArray, List.getElem?_cons_zero, List.getElem?_cons_succ]; rfl)
        go_simp
        refine hnx.mono ?_
        rintro e w9 ⟨rfl, rfl⟩
        try go_wp2_with fail
        refine hK.out _ _ ?hSnewAnhq100 (fun hHeld => ?restAnhq100)
        case hSnewAnhq100 => ((try dsimp only); exact ⟨HC6.out _ hB9', hcv9⟩)
        clear hK K
        (try simp only [Act.put, List.setIfInBounds_toArray, List.set_cons_zero, List.set_cons_succ])
        refine wpAnyH_take (i := 12) (oi := ?oiAnt102x12) (v := ?vAnt102x12) ?hoAnt102x12 ?h1Ant102x12 ?h2Ant102x12 ?h3Ant102x12 ?hqAnt102x12 (Or.inl ⟨?h4Ant102x12, ?hyAnt102x12⟩) (by assumption) ?restAnt102x12
        case hoAnt102x12 => (simp only [List.getElem?_toArray, List.getElem?_cons_zero, List.getElem?_cons_succ]; rfl)
        case h1Ant102x12 => kernel_rfl
        case h2Ant102x12 => kernel_rfl
        case h3Ant102x12 => kernel_rfl
        case h4Ant102x12 => rfl
        case hqAnt102x12 => exact fun _ _ _ h => h
        case hyAnt102x12 => (intro w hSw; (try dsimp only at hSw); go_simp <;> with_reducible rfl)
        (try simp only [Act.put, List.setIfInBounds_toArray, List.set_cons_zero, List.set_cons_succ])
        refine wpAnyH_take (i := 13) (oi := ?oiAnt104x13) (v := ?vAnt104x13) ?hoAnt104x13 ?h1Ant104x13 ?h2Ant104x13 ?h3Ant104x13 ?hqAnt104x13 (Or.inl ⟨?h4Ant104x13, ?hyAnt104x13⟩) (by assumption) ?restAnt104x13
        case hoAnt104x13 => (simp only [List.getElem?_toArray, List.getElem?_cons_zero, List.getElem?_cons_succ]; rfl)
        case h1Ant104x13 => kernel_rfl
        case h2Ant104x13 => kernel_rfl
        case h3Ant104x13 => kernel_rfl
        case h4Ant104x13 => rfl
        case hqAnt104x13 => exact fun _ _ _ h => h
        case hyAnt104x13 => (intro w hSw; (try dsimp only at hSw); go_simp <;> with_reducible rfl)
        (try simp only [Act.put, List.setIfInBounds_toArray, List.set_cons_zero, List.set_cons_succ])
        refine wpAnyH_take (i := 14) (oi := ?oiAnt106x14) (v := ?vAnt106x14) ?hoAnt106x14 ?h1Ant106x14 ?h2Ant106x14 ?h3Ant106x14 ?hqAnt106x14 (Or.inl ⟨?h4Ant106x14, ?hyAnt106x14⟩) (by assumption) ?restAnt106x14
        case hoAnt106x14 => (simp only [List.getElem?_toArray, List.getElem?_cons_zero, List.getElem?_cons_succ]; rfl)
        case h1Ant106x14 => kernel_rfl
        case h2Ant106x14 => kernel_rfl
        case h3Ant106x14 => kernel_rfl
        case h4Ant106x14 => rfl
        case hqAnt106x14 => exact fun _ _ _ h => h
        case hyAnt106x14 => (intro w hSw; (try dsimp only at hSw); go_simp <;> with_reducible rfl)
        (try simp only [Act.put, List.setIfInBounds_toArray, List.set_cons_zero, List.set_cons_succ])
        refine wpAnyH_take (i := 15) (oi := ?oiAnt108x15) (v := ?vAnt108x15) ?hoAnt108x15 ?h1Ant108x15 ?h2Ant108x15 ?h3Ant108x15 ?hqAnt108x15 (Or.inl ⟨?h4Ant108x15, ?hyAnt108x15⟩) (by assumption) ?restAnt108x15
        case hoAnt108x15 => (simp only [List.getElem?_toArray, List.getElem?_cons_zero, List.getElem?_cons_succ]; rfl)
        case h1Ant108x15 => kernel_rfl
        case h2Ant108x15 => kernel_rfl
        case h3Ant108x15 => kernel_rfl
        case h4Ant108x15 => rfl
        case hqAnt108x15 => exact fun _ _ _ h => h
        case hyAnt108x15 => (intro w hSw; (try dsimp only at hSw); go_simp <;> with_reducible rfl)
        (try simp only [Act.put, List.setIfInBounds_toArray, List.set_cons_zero, List.set_cons_succ])
        refine wpAnyH_ready (rs := [16]) (by kernel_rfl) (by simp) ?_
        refine AllReadyH.cons (o := ?oiAnq109) ?hoAnq109 (fun K hK => ?restAnq109) ?moreAnq109
        case moreAnq109 => exact AllReadyH.nil
        case hoAnq109 => (simp only [List.getElem?_toArray, List.getElem?_cons_zero, List.getElem?_cons_succ]; rfl)
        go_simp
        refine her.mono ?_
        rintro e w9 ⟨rfl, rfl⟩
        try go_wp2_with fail
        refine hK.out _ _ ?hSnewAnhq109 (fun hHeld => ?restAnhq109)
        case hSnewAnhq109 => ((try dsimp only); exact ⟨HC6.out _ hB9', hcv9⟩)
        clear hK K
        (try simp only [Act.put, List.setIfInBounds_toArray, List.set_cons_zero, List.set_cons_succ])
        refine wpAnyH_take (i := 17) (oi := ?oiAnt111x17) (v := ?vAnt111x17) ?hoAnt111x17 ?h1Ant111x17 ?h2Ant111x17 ?h3Ant111x17 ?hqAnt111x17 (Or.inl ⟨?h4Ant111x17, ?hyAnt111x17⟩) (by assumption) ?restAnt111x17
        case hoAnt111x17 => (simp only [List.getElem?_toArray, List.getElem?_cons_zero, List.getElem?_cons_succ]; rfl)
        case h1Ant111x17 => kernel_rfl
        case h2Ant111x17 => kernel_rfl
        case h3Ant111x17 => kernel_rfl
        case h4Ant111x17 => rfl
        case hqAnt111x17 => exact fun _ _ _ h => h
        case hyAnt111x17 => (intro w hSw; (try dsimp only at hSw); go_simp <;> with_reducible rfl)
        (try simp only [Act.put, List.setIfInBounds_toArray, List.set_cons_zero, List.set_cons_succ])
        refine wpAnyH_take (i := 18) (oi := ?oiAnt113x18) (v := ?vAnt113x18) ?hoAnt113x18 ?h1Ant113x18 ?h2Ant113x18 ?h3Ant113x18 ?hqAnt113x18 (Or.inl ⟨?h4Ant113x18, ?hyAnt113x18⟩) (by assumption) ?restAnt113x18
        case hoAnt113x18 => (simp only [List.getElem?_toArray, List.getElem?_cons_zero, List.getElem?_cons_succ]; rfl)
        case h1Ant113x18 => kernel_rfl
        case h2Ant113x18 => kernel_rfl
        case h3Ant113x18 => kernel_rfl
        case h4Ant113x18 => rfl
        case hqAnt113x18 => exact fun _ _ _ h => h
        case hyAnt113x18 => (intro w hSw; (try dsimp only at hSw); go_simp <;> with_reducible rfl)
        (try simp only [Act.put, List.setIfInBounds_toArray, List.set_cons_zero, List.set_cons_succ])
        refine wpAnyH_take (i := 19) (oi := ?oiAnt115x19) (v := ?vAnt115x19) ?hoAnt115x19 ?h1Ant115x19 ?h2Ant115x19 ?h3Ant115x19 ?hqAnt115x19 (Or.inl ⟨?h4Ant115x19, ?hyAnt115x19⟩) (by assumption) ?restAnt115x19
        case hoAnt115x19 => (simp only [List.getElem?_toArray, List.getElem?_cons_zero, List.getElem?_cons_succ]; rfl)
        case h1Ant115x19 => kernel_rfl
        case h2Ant115x19 => kernel_rfl
        case h3Ant115x19 => kernel_rfl
        case h4Ant115x19 => rfl
        case hqAnt115x19 => exact fun _ _ _ h => h
        case hyAnt115x19 => (intro w hSw; (try dsimp only at hSw); go_simp <;> with_reducible rfl)
        (try simp only [Act.put, List.setIfInBounds_toArray, List.set_cons_zero, List.set_cons_succ])
        refine wpAnyH_take (i := 20) (oi := ?oiAnt117x20) (v := ?vAnt117x20) ?hoAnt117x20 ?h1Ant117x20 ?h2Ant117x20 ?h3Ant117x20 ?hqAnt117x20 (Or.inl ⟨?h4Ant117x20, ?hyAnt117x20⟩) (by assumption) ?restAnt117x20
        case hoAnt117x20 => (simp only [List.getElem?_toArray, List.getElem?_cons_zero, List.getElem?_cons_succ]; rfl)
        case h1Ant117x20 => kernel_rfl
        case h2Ant117x20 => kernel_rfl
        case h3Ant117x20 => kernel_rfl
        case h4Ant117x20 => rfl
        case hqAnt117x20 => exact fun _ _ _ h => h
        case hyAnt117x20 => (intro w hSw; (try dsimp only at hSw); go_simp <;> with_reducible rfl)
        (try simp only [Act.put, List.setIfInBounds_toArray, List.set_cons_zero, List.set_cons_succ])
        refine wpAnyH_ready (rs := [21]) (by kernel_rfl) (by simp) ?_
        refine AllReadyH.cons (o := ?oiAnq118) ?hoAnq118 (fun K hK => ?restAnq118) ?moreAnq118
        case moreAnq118 => exact AllReadyH.nil
        case hoAnq118 => (simp only [List.getElem?_toArray, List.getElem?_cons_zero, List.getElem?_cons_succ]; rfl)
        go_simp
        refine hfl.mono ?_
        rintro e w9 ⟨rfl, rfl⟩
        try go_wp2_with fail
        refine hK.out _ _ ?hSnewAnhq118 (fun hHeld => ?restAnhq118)
        case hSnewAnhq118 => ((try dsimp only); exact ⟨HC6.out _ hB9', hcv9⟩)
        clear hK K
        (try simp only [Act.put, List.setIfInBounds_toArray, List.set_cons_zero, List.set_cons_succ])
        refine wpAnyH_take (i := 22) (oi := ?oiAnt120x22) (v := ?vAnt120x22) ?hoAnt120x22 ?h1Ant120x22 ?h2Ant120x22 ?h3Ant120x22 ?hqAnt120x22 (Or.inl ⟨?h4Ant120x22, ?hyAnt120x22⟩) (by assumption) ?restAnt120x22
        case hoAnt120x22 => (simp only [List.getElem?_toArray, List.getElem?_cons_zero, List.getElem?_cons_succ]; rfl)
        case h1Ant120x22 => kernel_rfl
        case h2Ant120x22 => kernel_rfl
        case h3Ant120x22 => kernel_rfl
        case h4Ant120x22 => rfl
        case hqAnt120x22 => exact fun _ _ _ h => h
        case hyAnt120x22 => (intro w hSw; (try dsimp only at hSw); go_simp <;> with_reducible rfl)
        (try simp only [Act.put, List.setIfInBounds_toArray, List.set_cons_zero, List.set_cons_succ])
        refine wpAnyH_take (i := 23) (oi := ?oiAnt122x23) (v := ?vAnt122x23) ?hoAnt122x23 ?h1Ant122x23 ?h2Ant122x23 ?h3Ant122x23 ?hqAnt122x23 (Or.inl ⟨?h4Ant122x23, ?hyAnt122x23⟩) (by assumption) ?restAnt122x23
        case hoAnt122x23 => (simp only [List.getElem?_toArray, List.getElem?_cons_zero, List.getElem?_cons_succ]; rfl)
        case h1Ant122x23 => kernel_rfl
        case h2Ant122x23 => kernel_rfl
        case h3Ant122x23 => kernel_rfl
        case h4Ant122x23 => rfl
        case hqAnt122x23 => exact fun _ _ _ h => h
        case hyAnt122x23 => (intro w hSw; (try dsimp only at hSw); go_simp <;> with_reducible rfl)
        (try simp only [Act.put, List.setIfInBounds_toArray, List.set_cons_zero, List.set_cons_succ])
        refine wpAnyH_take (i := 24) (oi := ?oiAnt124x24) (v := ?vAnt124x24) ?hoAnt124x24 ?h1Ant124x24 ?h2Ant124x24 ?h3Ant124x24 ?hqAnt124x24 (Or.inl ⟨?h4Ant124x24, ?hyAnt124x24⟩) (by assumption) ?restAnt124x24
        case hoAnt124x24 => (simp only [List.getElem?_toArray, List.getElem?_cons_zero, List.getElem?_cons_succ]; rfl)
        case h1Ant124x24 => kernel_rfl
        case h2Ant124x24 => kernel_rfl
        case h3Ant124x24 => kernel_rfl
        case h4Ant124x24 => rfl
        case hqAnt124x24 => exact fun _ _ _ h => h
        case hyAnt124x24 => (intro w hSw; (try dsimp only at hSw); go_simp <;> with_reducible rfl)
        (try simp only [Act.put, List.setIfInBounds_toArray, List.set_cons_zero, List.set_cons_succ])
        refine wpAnyH_done (by kernel_rfl) ?_ _
        have hfin := hid (h9.bel)
        clear hcv9 hB9' HC6 HA h9 hnx her hfl
        go_wp2
        go_ret
        exact ⟨rfl, hfin.out⟩
end Go.Proofs.Ytineicehipgnjaa.Nand
