import Derived.Test.YtcfildbgnjhjmaaLogLast
set_option linter.unusedVariables false
set_option linter.unusedSimpArgs false
namespace Go.Proofs.Ytcfildbgnjhjmaa.Log
open Go.RowKit Go.Proofs.Ytcfildbgnjhjmaa.Kit Go.Proofs.Ytcfildbgnjhjmaa.Oct Go.Proofs.Ytcfildbgnjhjmaa.Sheet Go.Proofs.Ytcfildbgnjhjmaa.Nand

/-- Pages are programmed on block i as long as it fails and has room. -/
def fill (i : Nat) (pg : List Int) (ep : Int) : Nat → NA → NA × Option Int
  | 0, N => (N, none)
  | k + 1, N => if (N.blk i).pages.length < N.pages then
      (if (N.prog (i : Int) ((N.blk i).pages.length : Int) pg ep).2 = 8 then fill i pg ep k (N.prog (i : Int) ((N.blk i).pages.length : Int) pg ep).1
       else ((N.prog (i : Int) ((N.blk i).pages.length : Int) pg ep).1, some (N.prog (i : Int) ((N.blk i).pages.length : Int) pg ep).2)) else (N, none)
theorem fill_full {i : Nat} {pg : List Int} {ep : Int} {N : NA} (k : Nat) (h : ¬ (N.blk i).pages.length < N.pages) : fill i pg ep k N = (N, none) := by
  cases k with
  | zero => rfl
  | succ k => unfold fill; rw [if_neg h]
def other (i : Nat) (pg : List Int) (ep : Int) (M : NA) : NA × Int :=
  if (M.erase ((1 - i : Nat) : Int) ep).2 = 0 then (M.erase ((1 - i : Nat) : Int) ep).1.prog ((1 - i : Nat) : Int) 0 pg ep else M.erase ((1 - i : Nat) : Int) ep
def goOn (i : Nat) (pg : List Int) (ep : Int) (N : NA) : NA × Int :=
  match (fill i pg ep 33 N).2 with
  | some e => ((fill i pg ep 33 N).1, e)
  | none => other i pg ep (fill i pg ep 33 N).1
def clPage (E who : Nat) : List Int := page 3 E E who 0 []
def claimN (N : NA) (c0 c1 : List (Option (Nat × Nat))) (E who : Int) : NA × Int :=
  if E < 1 ∨ 281474976710656 ≤ E ∨ who < 0 ∨ 1 < who then (N, 1)
  else if E ≤ ((top c0 c1).1 : Int) then (N, 6)
  else goOn (atOf (best c0) (best c1)) (clPage E.toNat who.toNat) E N
theorem top_at (c0 c1 : List (Option (Nat × Nat))) : top c0 c1 = if atOf (best c0) (best c1) = 1 then best c1 else best c0 := by
  unfold top atOf
  by_cases h : (best c0).1 < (best c1).1
  · rw [if_pos h, if_pos h, if_pos rfl]
  · rw [if_neg h, if_neg h, if_neg (by decide)]

/-- What a programming that fails leaves. -/
theorem prog_eight {N : NA} {i : Nat} {q : List Int} {ep : Int} (hi : i < N.bs.length) (hh : (N.blk i).half = false) :
    (N.prog (i : Int) ((N.blk i).pages.length : Int) q ep).2 ≠ 6 ∧
    ((N.prog (i : Int) ((N.blk i).pages.length : Int) q ep).2 = 8 → (N.prog (i : Int) ((N.blk i).pages.length : Int) q ep).1.pages = N.pages ∧ (N.prog (i : Int) ((N.blk i).pages.length : Int) q ep).1.bs.length = N.bs.length ∧ ((N.prog (i : Int) ((N.blk i).pages.length : Int) q ep).1.blk i).pages.length = (N.blk i).pages.length + 1 ∧ ((N.prog (i : Int) ((N.blk i).pages.length : Int) q ep).1.blk i).half = false) := by
  have hE : N.progE (i : Int) ((N.blk i).pages.length : Int) q.length ep ≠ 6 ∧ N.progE (i : Int) ((N.blk i).pages.length : Int) q.length ep ≠ 8 := by
    unfold NA.progE NA.atE
    rw [Int.toNat_natCast, hh]
    repeat' split
    all_goals first | (constructor <;> decide) | (simp at *)
  by_cases h0 : N.progE (i : Int) ((N.blk i).pages.length : Int) q.length ep = 0
  · rw [prog_eq h0]
    split
    · exact ⟨show (9 : Int) ≠ 6 by decide, fun h => absurd h (show ¬ ((9 : Int) = 8) by decide)⟩
    · split
      · refine ⟨show (8 : Int) ≠ 6 by decide, fun _ => ⟨rfl, by rw [len_set, len_begun], ?_, ?_⟩⟩
        · rw [blk_set _ _ _ (by rw [len_begun]; exact hi), if_pos rfl]
          show (((N.begun i).blk i).add _).pages.length = _
          rw [blk_begun i i hi, if_pos rfl]
          show ((N.blk i).pages ++ [_]).length = _
          rw [List.length_append]
          rfl
        · rw [blk_set _ _ _ (by rw [len_begun]; exact hi), if_pos rfl]
          show ((N.begun i).blk i).half = false
          rw [blk_begun i i hi, if_pos rfl]
          exact hh
      · exact ⟨show (0 : Int) ≠ 6 by decide, fun h => absurd h (show ¬ ((0 : Int) = 8) by decide)⟩
  · rw [prog_err _ _ _ _ h0]
    exact ⟨hE.1, fun h => absurd h hE.2⟩

set_option maxRecDepth 100000 in
set_option maxHeartbeats 8000000 in
theorem claim_any (F : Nat → Prop) (b : Nat) (N : NA) (c0 c1 : List (Option (Nat × Nat))) (E who : Int) (hE : 0 ≤ E ∧ E ≤ 18446744073709551615) (w : World) (h : Arr w F b N) (hg : LG N c0 c1) :
    Calls Try.prog 15 #[.pointer (some ⟨b, 0, none⟩), .agg #[.int .u64 E, .int .i64 who]] w fun e w' => e = .returned (.int .i64 (claimN N c0 c1 E who).2) ∧ Arr w' (grow F w w') b (claimN N c0 c1 E who).1 ∧ Fr F w w' := by
  have hbl : ∀ W, Below w.heap.size w W → Calls Try.prog 37 #[.pointer (some ⟨b, 0, none⟩)] W fun e w' => e = .returned (.int .i64 (N.bs.length : Int)) ∧ w' = W := fun W hW => blocks_any F b N W (h.later hW)
  have hnb : (2 : Int) ≤ (N.bs.length : Int) := by have := hg.nb; omega
  have hend : ∀ W, Below w.heap.size w W → Arr W (grow F w W) b N ∧ Fr F w W := fun W hW => ⟨Arr.grown (w := w) (h.later hW) w, Fr.of_below hW⟩
  go_enter Try.func15, Try.ntmps15
  go_upto_region 1 with (fail)
  obtain ⟨gx, hgx⟩ : ∃ g, w.heap.size = g := ⟨_, rfl⟩
  generalize hw2 : World.alloc w _ = w2
  have hbx : Blk w2 gx #[.int .u64 E, .int .i64 who] 30 := by rw [← hw2, ← hgx]; exact Blk.new w _ _
  have hB2 : Below w.heap.size w w2 := by rw [← hw2]; exact (Below.refl _ _).alloc (Nat.le_refl _) _
  obtain ⟨⟨x0, x1⟩, -⟩ := blk_two hbx
  have hb2 := hbl w2 hB2
  generalize (N.bs.length : Int) = nb at hb2 hnb
  have Hbx := hid hbx
  have HB2 := hid hB2
  have H := hid h
  have Hg := hid hg
  have Hgx := hid hgx
  rw [hgx]
  clear hw2 hbl hbx hB2 h hg hgx
  have Hend := hid hend
  clear hend
  go_wp2_with fail
  refine hb2.mono ?_
  rintro e w3 ⟨rfl, rfl⟩
  clear hb2
  by_cases hbad : E < 1 ∨ 281474976710656 ≤ E ∨ who < 0 ∨ 1 < who
  · have hcl : claimN N c0 c1 E who = (N, 1) := by unfold claimN; rw [if_pos hbad]
    have Hcl := hid hcl
    have hc4 : (E < 1) ∨ (¬ E < 1 ∧ 281474976710656 ≤ E) ∨ (¬ E < 1 ∧ ¬ 281474976710656 ≤ E ∧ who < 0) ∨ (¬ E < 1 ∧ ¬ 281474976710656 ≤ E ∧ ¬ who < 0 ∧ 1 < who) := by omega
    clear hbad hcl
    rcases hc4 with h1 | ⟨h1, h2⟩ | ⟨h1, h2, h3⟩ | ⟨h1, h2, h3, h4⟩
    all_goals
      go_wp2
      go_ret
      exact ⟨by rw [Hcl.out]; rfl, by rw [Hcl.out]; exact Hend.out _ HB2.out⟩
  · obtain ⟨n1, n2, n3, n4⟩ : ¬ E < 1 ∧ ¬ 281474976710656 ≤ E ∧ ¬ who < 0 ∧ ¬ 1 < who := by omega
    have hlk := look_f (H.out.later HB2.out) c0 c1 Hg.out
    have hcl : claimN N c0 c1 E who = if E ≤ ((top c0 c1).1 : Int) then (N, 6) else goOn (atOf (best c0) (best c1)) (clPage E.toNat who.toNat) E N := by unfold claimN; rw [if_neg hbad]
    have hta := top_at c0 c1
    have hat : atOf (best c0) (best c1) = 0 ∨ atOf (best c0) (best c1) = 1 := by unfold atOf; split; exact .inr rfl; exact .inl rfl
    have hil : atOf (best c0) (best c1) < N.bs.length := by have := Hg.out.nb; omega
    have hih : (N.blk (atOf (best c0) (best c1))).half = false := by
      rcases hat with h | h
      · rw [h]; exact Hg.out.half.1
      · rw [h]; exact Hg.out.half.2
    generalize atOf (best c0) (best c1) = at' at *
    generalize best c0 = p0 at *
    generalize best c1 = p1 at *
    obtain ⟨E0, a0⟩ := p0
    obtain ⟨E1, a1⟩ := p1
    clear hbad Hg
    go_wp2_with fail
    refine hlk.mono ?_
    rintro e w4 ⟨rfl, hB4⟩
    clear hlk
    go_upto_region 6 with (fail)
    generalize hw5 : World.alloc w4 _ = w5
    obtain ⟨gl, hgl⟩ : ∃ g, w4.heap.size = g := ⟨_, rfl⟩
    have hB5 : Below w4.heap.size w4 w5 := by rw [← hw5]; exact (Below.refl _ _).alloc (Nat.le_refl _) _
    have hbl5 : Blk w5 gl #[.int .u64 (E0 : Int), .int .i64 (a0 : Int), .int .u64 (E1 : Int), .int .i64 (a1 : Int)] 100 := by rw [← hw5, ← hgl]; exact Blk.new _ _ _
    have hB35 := hB4.trans (hB5.mono hB4.size)
    have hbx5 := Hbx.out.later hB35
    have HB5 := hid (HB2.out.trans (hB35.mono HB2.out.size))
    rw [hgl]
    obtain ⟨⟨x0, x1⟩, -⟩ := blk_two hbx5
    obtain ⟨T, hT⟩ : ∃ T, (top c0 c1).1 = T := ⟨_, rfl⟩
    have y0 : w5.cell? ⟨gl, at' * 2, none⟩ = some (.int .u64 (T : Int)) := by
      rw [← hT, hta]
      rcases hat with rfl | rfl
      · rw [if_neg (by decide)]; exact hbl5.cell 0
      · rw [if_pos rfl]; exact hbl5.cell 2
    have hatI : (at' : Int) < 2 := by omega
    rw [hT] at hcl
    have Hcl := hid hcl
    have Hbx5 := hid hbx5
    clear hw5 hgl hB4 hB5 hbl5 hB35 Hbx HB2 hbx5 hT hta hcl
    go_upto_region 8 with (fail)
    by_cases hleI : E ≤ (T : Int)
    · go_quiet (fail)
      go_wp2
      go_ret
      have e : claimN N c0 c1 E who = (N, 6) := by rw [Hcl.out, if_pos hleI]
      exact ⟨by rw [e]; rfl, by rw [e]; exact Hend.out _ (below_drewN HB5.out _)⟩
    · have hltI : (T : Int) < E := by omega
      have hcl : claimN N c0 c1 E who = goOn at' (clPage E.toNat who.toNat) E N := by rw [Hcl.out, if_neg hleI]
      obtain ⟨pg, hpg⟩ : ∃ pg, clPage E.toNat who.toNat = pg := ⟨_, rfl⟩
      have hpl : pg.length = 96 := by rw [← hpg]; exact page_len _ _ _ _ _ _ (by decide)
      have hpB : IsB pg := by rw [← hpg]; exact page_isB _ _ _ _ _ (fun x hx => by cases hx)
      have hlay : ∀ W, Calls Try.prog 26 #[.agg #[.int .u8 3, .int .u64 E, .int .u64 E, .int .i64 who, .int .i64 (-1), .slice none 0 0]] W fun e w' => ∃ v, e = .returned v ∧ OwnB w' W.heap.size v pg ∧ Below W.heap.size W w' := fun W => by
        have := lay_any 3 E.toNat E.toNat who.toNat 0 (-1) none 0 0 [] W (Nums.none _ _ _) (by omega) (by omega) (by omega) (by omega) (by omega) (by omega) (by omega)
        rw [show ((E.toNat : Nat) : Int) = E by omega, show ((who.toNat : Nat) : Int) = who by omega, show page 3 E.toNat E.toNat who.toNat 0 [] = pg from hpg] at this
        exact this
      rw [hpg] at hcl
      replace hcl := hid hcl
      clear Hcl hleI hpg
      go_quiet (fail)
      obtain ⟨w6, hw6⟩ : ∃ W, W = w5.drewN nq := ⟨_, rfl⟩
      rw [← hw6]
      have hB56 : Below w5.heap.size w5 w6 := by rw [hw6]; exact below_drewN (Below.refl _ _) _
      have HB6 := hid (HB5.out.trans (hB56.mono HB5.out.size))
      have hbx6 := Hbx5.out.later hB56
      obtain ⟨⟨x0, x1⟩, -⟩ := blk_two hbx6
      have Hbx6 := hid hbx6
      clear hw6 hB56 HB5 Hbx5 hbx6 y0
      go_wp2_with fail
      refine (hlay w6).mono ?_
      rintro e w7 ⟨v, rfl, ho, hB7⟩
      obtain ⟨P, c, e7, hc96, -⟩ := ho.reads hpB
      rw [hpl] at e7 hc96
      subst e7
      have hB7w := HB6.out.trans (hB7.mono HB6.out.size)
      have hbx7 := Hbx6.out.later hB7
      have hkx : w.heap.size ≤ gx ∧ gx < w7.heap.size := ⟨by rw [Hgx.out]; exact Nat.le_refl _, hbx7.lt⟩
      have hkp : ∀ g, (Value.slice P 96 c).ownBlock = some g → w.heap.size ≤ g ∧ g < w7.heap.size := fun g hg => ⟨Nat.le_trans HB6.out.size (own_low ho g hg), (own_block ho g hg).choose_spec.2⟩
      have Ho := hid ho
      have Hbx7 := hid hbx7
      have hR0 := hid ((Run.start H.out w).own hB7w)
      have Hkx := hid hkx
      have Hkp := hid hkp
      have HpB := hid hpB
      clear hlay HB6 ho hB7 Hbx6 hB7w hbx7 hkx hkp x0 x1 hpB
      -- what is known at any world of the run
      have hX : ∀ (W : World) (M : NA), Run F w W b M (fun g => False ∨ (w.heap.size ≤ g ∧ g < w7.heap.size)) w7 → W.cell? ⟨gx, 0, none⟩ = some (.int .u64 E) ∧ Nums W .u8 P 96 pg := fun W M hM => by
        refine ⟨(hM.blk (.inr Hkx.out) Hbx7.out).cell 0, ?_⟩
        have := hM.row (fun g hg => .inr (Hkp.out g hg)) Ho.out
        rw [hpl] at this
        exact (own_reads this (wf_of HpB.out)).2
      have hnx : ∀ (W : World) (M : NA), Run F w W b M (fun g => False ∨ (w.heap.size ≤ g ∧ g < w7.heap.size)) w7 → at' < M.bs.length → Calls Try.prog 17 #[.pointer (some ⟨b, 0, none⟩), .int .i64 (at' : Int)] W fun e w' => e = .returned (.int .i64 ((M.blk at').pages.length : Int)) ∧ w' = W := fun W M hM hi => by
        obtain ⟨F', hA⟩ := hM.arr
        have := next_any F' b M (at' : Int) W hA
        rw [show M.inI (at' : Int) = true by unfold NA.inI; simp; omega, if_pos rfl, Int.toNat_natCast] at this
        exact this
      have hps : ∀ (W : World) (M : NA), Run F w W b M (fun g => False ∨ (w.heap.size ≤ g ∧ g < w7.heap.size)) w7 → Calls Try.prog 39 #[.pointer (some ⟨b, 0, none⟩)] W fun e w' => e = .returned (.int .i64 (M.pages : Int)) ∧ w' = W := fun W M hM => by
        obtain ⟨F', hA⟩ := hM.arr
        exact pages_any F' b M W hA
      have hpr : ∀ (W : World) (M : NA) (i p : Int), Run F w W b M (fun g => False ∨ (w.heap.size ≤ g ∧ g < w7.heap.size)) w7 → Calls Try.prog 25 #[.pointer (some ⟨b, 0, none⟩), .int .i64 i, .int .i64 p, .slice P 96 c, .int .u64 E] W fun e w' => e = .returned (.int .i64 (M.prog i p pg E).2) ∧ Run F w w' b (M.prog i p pg E).1 (fun g => False ∨ (w.heap.size ≤ g ∧ g < w7.heap.size)) w7 := fun W M i p hM =>
        hM.calls (fun F' hA => program_any F' b M i p P 96 c pg E W hA (hX W M hM).2 (by decide))
      have her : ∀ (W : World) (M : NA) (i : Int), Run F w W b M (fun g => False ∨ (w.heap.size ≤ g ∧ g < w7.heap.size)) w7 → Calls Try.prog 29 #[.pointer (some ⟨b, 0, none⟩), .int .i64 i, .int .u64 E] W fun e w' => e = .returned (.int .i64 (M.erase i E).2) ∧ Run F w w' b (M.erase i E).1 (fun g => False ∨ (w.heap.size ≤ g ∧ g < w7.heap.size)) w7 := fun W M i hM =>
        hM.calls (fun F' hA => erase_any F' b M i E W hA)
      have hfin : ∀ (W : World) (M : NA), Run F w W b M (fun g => False ∨ (w.heap.size ≤ g ∧ g < w7.heap.size)) w7 → Arr W (grow F w W) b M ∧ Fr F w W := fun W M hM => hM.fin H.out.low
      generalize hR : (fun (W : World) (M : NA) => Run F w W b M (fun g => False ∨ (w.heap.size ≤ g ∧ g < w7.heap.size)) w7) = R at *
      replace hX : ∀ (W : World) (M : NA), R W M → W.cell? ⟨gx, 0, none⟩ = some (.int .u64 E) ∧ Nums W .u8 P 96 pg := by rw [← hR]; exact hX
      replace hnx : ∀ (W : World) (M : NA), R W M → at' < M.bs.length → Calls Try.prog 17 #[.pointer (some ⟨b, 0, none⟩), .int .i64 (at' : Int)] W fun e w' => e = .returned (.int .i64 ((M.blk at').pages.length : Int)) ∧ w' = W := by rw [← hR]; exact hnx
      replace hps : ∀ (W : World) (M : NA), R W M → Calls Try.prog 39 #[.pointer (some ⟨b, 0, none⟩)] W fun e w' => e = .returned (.int .i64 (M.pages : Int)) ∧ w' = W := by rw [← hR]; exact hps
      replace hpr : ∀ (W : World) (M : NA) (i p : Int), R W M → Calls Try.prog 25 #[.pointer (some ⟨b, 0, none⟩), .int .i64 i, .int .i64 p, .slice P 96 c, .int .u64 E] W fun e w' => e = .returned (.int .i64 (M.prog i p pg E).2) ∧ R w' (M.prog i p pg E).1 := by rw [← hR]; exact hpr
      replace her : ∀ (W : World) (M : NA) (i : Int), R W M → Calls Try.prog 29 #[.pointer (some ⟨b, 0, none⟩), .int .i64 i, .int .u64 E] W fun e w' => e = .returned (.int .i64 (M.erase i E).2) ∧ R w' (M.erase i E).1 := by rw [← hR]; exact her
      replace hfin : ∀ (W : World) (M : NA), R W M → Arr W (grow F w W) b M ∧ Fr F w W := by rw [← hR]; exact hfin
      have hwfR : ∀ (W : World) (M : NA), R W M → M.Wf := by rw [← hR]; exact fun W M hM => hM.wf
      replace hR0 : R w7 N := by rw [← hR]; exact hR0.out
      clear hR Ho Hbx7 Hkx Hkp H
      go_wp2_with fail
      refine (hnx w7 N hR0 hil).mono ?_
      rintro e w8 ⟨rfl, rfl⟩
      obtain ⟨f33, hf33⟩ : ∃ x, fill at' pg E 33 N = x := ⟨_, rfl⟩
      have hgo : ∀ M, f33 = (M, none) → claimN N c0 c1 E who = other at' pg E M := fun M h => by
        rw [hcl.out]; unfold goOn; rw [hf33, h]
      have hgs : ∀ M e, f33 = (M, some e) → claimN N c0 c1 E who = (M, e) := fun M e h => by
        rw [hcl.out]; unfold goOn; rw [hf33, h]
      have Hgo := hid hgo
      have Hgs := hid hgs
      have hoth : IntKind.i64.wrap (1 - (at' : Int)) = ((1 - at' : Nat) : Int) := by rw [IntWalk.i64_in _ (by omega)]; omega
      have hN33 := (hwfR _ _ hR0).np
      replace hf33 := hid hf33
      clear hgo hgs hcl hc96 x0 x1 hltI hE
      go_wp2
      go_loopw [9] (fun v w' => ∃ (M : NA) (k : Nat), M.pages ≤ (M.blk at').pages.length + k ∧ f33 = fill at' pg E k M ∧ at' < M.bs.length ∧ (M.blk at').half = false ∧ v = .int .i64 ((M.blk at').pages.length : Int) ∧ R w' M) (fun v _ => 33 - (intOf v).toNat)
      case atStart => exact ⟨N, 33, by omega, hf33.out.symm, hil, hih, rfl, hR0⟩
      case round =>
        clear hR0 hil hih hN33
        obtain ⟨M, k, hk, hfk, hil, hih, rfl, hRM⟩ := hrel
        have hwf := hwfR wr M hRM
        have hln := hwf.len at' hil
        have hnp := hwf.np
        have hX1 := (hX wr M hRM).1
        by_cases hlt : (M.blk at').pages.length < M.pages
        · obtain ⟨k, rfl⟩ : ∃ k', k = k' + 1 := ⟨k - 1, by omega⟩
          obtain ⟨he6, he8⟩ := prog_eight (q := pg) (ep := E) hil hih
          have hpr' := hpr wr M (at' : Int) ((M.blk at').pages.length : Int) hRM
          have hps' := hps wr M hRM
          unfold fill at hfk
          rw [if_pos hlt] at hfk
          generalize hrp : M.prog (at' : Int) ((M.blk at').pages.length : Int) pg E = r at *
          obtain ⟨M', e⟩ := r
          generalize hll : (M.blk at').pages.length = l at *
          have hltI : (l : Int) < (M.pages : Int) := by omega
          have he6 : e ≠ 6 := he6
          have hpr' : Calls Try.prog 25 #[.pointer (some ⟨b, 0, none⟩), .int .i64 (at' : Int), .int .i64 (l : Int), .slice P 96 c, .int .u64 E] wr fun er w' => er = .returned (.int .i64 e) ∧ R w' M' := hpr'
          have hfk : f33 = if e = 8 then fill at' pg E k M' else (M', some e) := hfk
          have he8 : e = 8 → M'.pages = M.pages ∧ M'.bs.length = M.bs.length ∧ (M'.blk at').pages.length = l + 1 ∧ (M'.blk at').half = false := he8
          generalize M.pages = mp at *
          have Hfk := hid hfk
          have He8 := hid he8
          clear hfk he8 hrp hll hRM hwf
          by_cases h8 : e = 8
          · subst h8
            obtain ⟨e1, e2, e3, e4⟩ := He8.out rfl
            have hnx' := fun W hW => hnx W M' hW (by rw [e2]; exact hil)
            rw [e3] at hnx'
            go_wp2_with fail
            refine hps'.mono ?_
            rintro e w8 ⟨rfl, rfl⟩
            clear hps'
            go_wp2_with fail
            refine hpr'.mono ?_
            rintro e w9 ⟨rfl, hR9⟩
            clear hpr' hX1
            go_wp2_with fail
            refine (hnx' w9 hR9).mono ?_
            rintro e w10 ⟨rfl, rfl⟩
            clear hnx'
            go_wp2
            go_roundw
            case rel => exact ⟨M', k, by omega, by rw [Hfk.out]; simp, by rw [e2]; exact hil, e4, by rw [e3]; rfl, hR9⟩
            case measure => simp [intOf]; omega
          · have h8b : (e == 8) = false := by rw [beq_eq_false_iff_ne]; exact h8
            have h8c : (e != 8) = true := by rw [bne_iff_ne]; exact h8
            have h6c : (e != 6) = true := by rw [bne_iff_ne]; exact he6
            have hcn := Hgs.out M' e (by rw [Hfk.out, if_neg h8])
            have Hcn := hid hcn
            clear hcn He8 Hfk he6 h8
            go_wp2_with fail
            refine hps'.mono ?_
            rintro er w8 ⟨rfl, rfl⟩
            clear hps'
            go_wp2_with fail
            refine hpr'.mono ?_
            rintro er w9 ⟨rfl, hR9⟩
            clear hpr' hX1
            go_wp2
            go_ret
            exact ⟨by rw [Hcn.out]; rfl, by rw [Hcn.out]; exact hfin _ _ hR9⟩
        · have hcn := Hgo.out M (by rw [hfk]; exact fill_full k hlt)
          have hps' := hps wr M hRM
          have her' := her wr M ((1 - at' : Nat) : Int) hRM
          have hcn : claimN N c0 c1 E who = if (M.erase ((1 - at' : Nat) : Int) E).2 = 0 then (M.erase ((1 - at' : Nat) : Int) E).1.prog ((1 - at' : Nat) : Int) 0 pg E else M.erase ((1 - at' : Nat) : Int) E := hcn
          generalize hM2 : M.erase ((1 - at' : Nat) : Int) E = r at *
          obtain ⟨M2, e2⟩ := r
          have her' : Calls Try.prog 29 #[.pointer (some ⟨b, 0, none⟩), .int .i64 ((1 - at' : Nat) : Int), .int .u64 E] wr fun e w' => e = .returned (.int .i64 e2) ∧ R w' M2 := her'
          have hcn : claimN N c0 c1 E who = if e2 = 0 then M2.prog ((1 - at' : Nat) : Int) 0 pg E else (M2, e2) := hcn
          have hgeI : (M.pages : Int) ≤ ((M.blk at').pages.length : Int) := by omega
          generalize (M.blk at').pages.length = l at *
          generalize M.pages = mp at *
          generalize (1 - at' : Nat) = oth at *
          have Hcn := hid hcn
          clear hcn hM2 hfk hRM hwf
          go_wp2_with fail
          refine hps'.mono ?_
          rintro er w8 ⟨rfl, rfl⟩
          clear hps'
          go_wp2_with fail
          refine her'.mono ?_
          rintro er w9 ⟨rfl, hR9⟩
          clear her' hX1
          by_cases h0 : e2 = 0
          · subst h0
            have hpr' := hpr w9 M2 (oth : Int) 0 hR9
            have hX2 := (hX w9 M2 hR9).1
            have hcn := Hcn.out
            rw [if_pos rfl] at hcn
            generalize hr3 : M2.prog (oth : Int) 0 pg E = r3 at *
            obtain ⟨M3, e3⟩ := r3
            have Hcn2 := hid hcn
            have hpr' : Calls Try.prog 25 #[.pointer (some ⟨b, 0, none⟩), .int .i64 (oth : Int), .int .i64 0, .slice P 96 c, .int .u64 E] w9 fun er w' => er = .returned (.int .i64 e3) ∧ R w' M3 := hpr'
            clear hcn Hcn hr3
            go_wp2_with fail
            refine hpr'.mono ?_
            rintro er w10 ⟨rfl, hR10⟩
            clear hpr' hX2
            go_wp2
            go_ret
            exact ⟨by rw [Hcn2.out]; rfl, by rw [Hcn2.out]; exact hfin _ _ hR10⟩
          · have h0b : (e2 == 0) = false := by rw [beq_eq_false_iff_ne]; exact h0
            have h0c : (e2 != 0) = true := by rw [bne_iff_ne]; exact h0
            have hcn := Hcn.out
            rw [if_neg h0] at hcn
            have Hcn2 := hid hcn
            clear hcn Hcn h0
            go_wp2
            go_ret
            exact ⟨by rw [Hcn2.out]; rfl, by rw [Hcn2.out]; exact hfin _ _ hR9⟩
end Go.Proofs.Ytcfildbgnjhjmaa.Log
