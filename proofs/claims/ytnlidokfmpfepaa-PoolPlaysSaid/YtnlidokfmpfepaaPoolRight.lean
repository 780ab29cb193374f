import Derived.Test.YtnlidokfmpfepaaPoolLeast
import Derived.BigRegion
import Derived.StillTailTactics
import Derived.Deep.DeepCutAuto
import Derived.Deep.RegionHeld3
import Derived.Deep.WholeRow
import Derived.Laws.Tables
set_option linter.unusedVariables false
set_option linter.unusedSimpArgs false
namespace Go.Proofs.Ytnlidokfmpfepaa.Pool
open Go.RowKit Go.Proofs.Ytnlidokfmpfepaa.Kit Go.Maps

/-- The law's own two tables say what the pool's map says. -/
structure Rel (hs : List (Option Nat)) (hv : List Nat) (bs : List Bool) (xs : List Int) : Prop where
  lh : hv.length = 64
  lb : bs.length = 64
  eq : ∀ k, k < 64 → hs.getD k none = if bs.getD k false = true then some (hv.getD k 0) else none
  le : ∀ k, hv.getD k 0 ≤ 3
  one : ∀ j k, j < 64 → k < 64 → hs.getD j none = some 2 → hs.getD k none = some 2 → j = k
  mem : ∀ k : Nat, k < 64 → ((k : Int) ∈ xs ↔ bs.getD k false = true)
def cntk (hs : List (Option Nat)) (v k : Nat) : Nat := (List.range k).countP (fun i => hs.getD i none == some v)
theorem cntk_succ (hs : List (Option Nat)) (v k : Nat) : cntk hs v (k + 1) = cntk hs v k + if hs.getD k none = some v then 1 else 0 := by
  unfold cntk
  rw [List.range_succ, List.countP_append, List.countP_cons, List.countP_nil, Nat.zero_add]
  simp only [beq_iff_eq]
theorem cntk_le (hs : List (Option Nat)) (v k : Nat) : cntk hs v k ≤ k := by
  unfold cntk
  exact Nat.le_trans List.countP_le_length (by simp)
def tal (hs : List (Option Nat)) (k : Nat) : List Int := [(cntk hs 0 k : Int), (cntk hs 1 k : Int), (cntk hs 2 k : Int), (cntk hs 3 k : Int)]
theorem tal_none (hs : List (Option Nat)) (k : Nat) (h : hs.getD k none = none) : tal hs (k + 1) = tal hs k := by
  unfold tal
  rw [cntk_succ, cntk_succ, cntk_succ, cntk_succ, h]
  rfl
theorem tal_some (hs : List (Option Nat)) (k v : Nat) (h : hs.getD k none = some v) (hv : v ≤ 3) : tal hs (k + 1) = (tal hs k).set v ((tal hs k).getD v 0 + 1) := by
  unfold tal
  rw [cntk_succ, cntk_succ, cntk_succ, cntk_succ, h]
  have : v = 0 ∨ v = 1 ∨ v = 2 ∨ v = 3 := by omega
  rcases this with rfl | rfl | rfl | rfl <;> simp
theorem tal_at (hs : List (Option Nat)) (k v : Nat) (hv : v ≤ 3) : (tal hs k).getD v 0 = (cntk hs v k : Int) := by
  have : v = 0 ∨ v = 1 ∨ v = 2 ∨ v = 3 := by omega
  rcases this with rfl | rfl | rfl | rfl <;> rfl
def openL (hs : List (Option Nat)) : Nat → Int
  | 0 => -1
  | k + 1 => if hs.getD k none = some 2 then (k : Int) else openL hs k
theorem openL_spec (hs : List (Option Nat)) : ∀ k, (openL hs k = -1 ∧ ∀ j, j < k → hs.getD j none ≠ some 2) ∨ ∃ j, j < k ∧ openL hs k = (j : Int) ∧ hs.getD j none = some 2 := by
  intro k
  induction k with
  | zero => exact .inl ⟨rfl, fun j hj => absurd hj (by omega)⟩
  | succ k ih =>
    unfold openL
    by_cases h : hs.getD k none = some 2
    · rw [if_pos h]
      exact .inr ⟨k, by omega, rfl, h⟩
    · rw [if_neg h]
      rcases ih with ⟨h1, h2⟩ | ⟨j, h1, h2, h3⟩
      · refine .inl ⟨h1, fun j hj => ?_⟩
        rcases Nat.lt_succ_iff_lt_or_eq.1 hj with h' | rfl
        · exact h2 j h'
        · exact h
      · exact .inr ⟨j, by omega, h2, h3⟩
theorem fOpen_eq {hs : List (Option Nat)} {hv : List Nat} {bs : List Bool} {xs : List Int} (R : Rel hs hv bs xs) : (fOpen xs hs = none ∧ openL hs 64 = -1) ∨ ∃ o : Nat, o < 64 ∧ fOpen xs hs = some (o : Int) ∧ openL hs 64 = (o : Int) ∧ hs.getD o none = some 2 := by
  rcases openL_spec hs 64 with ⟨h1, h2⟩ | ⟨j, h1, h2, h3⟩
  · refine .inl ⟨?_, h1⟩
    cases ho : fOpen xs hs with
    | none => rfl
    | some o =>
      have := (fOpen_mem xs hs o ho).2
      unfold hAt at this
      split at this
      · exact absurd this (h2 _ (by omega))
      · cases this
  · have hj := R.eq j h1
    rw [h3] at hj
    have hb : bs.getD j false = true := by
      cases hb : bs.getD j false
      · rw [hb] at hj
        simp at hj
      · rfl
    have hm := (R.mem j h1).2 hb
    refine .inr ⟨j, h1, ?_, h2, h3⟩
    cases ho : fOpen xs hs with
    | none =>
      unfold fOpen at ho
      rw [List.find?_eq_none] at ho
      have := ho _ hm
      rw [hAt_nat hs j h1, h3] at this
      simp at this
    | some o =>
      have := (fOpen_mem xs hs o ho).2
      unfold hAt at this
      split at this
      · have e := R.one _ _ (by omega) h1 this h3
        congr 1
        omega
      · cases this

theorem right_rows (w : World) (gh gi : Nat) (hv : List Nat) (bs : List Bool) (hH : Blk w gh (hv.map (fun x : Nat => Value.int .u8 (x : Int))).toArray 5) (hI : Blk w gi (bs.map Value.bool).toArray 4) (k : Nat) (h1 : k < hv.length) (h2 : k < bs.length) :
    w.cell? ⟨gh, k, none⟩ = some (.int .u8 ((hv.getD k 0 : Nat) : Int)) ∧ w.cell? ⟨gi, k, none⟩ = some (.bool (bs.getD k false)) := by
  rw [hH.cell, hI.cell]
  simp [List.getD_eq_getElem?_getD, List.getElem?_eq_getElem h1, List.getElem?_eq_getElem h2]

set_option maxRecDepth 100000 in
set_option maxHeartbeats 16000000 in
theorem right_any (b g n : Nat) (A : Option Addr) (m c : Nat) (xs : List Int) (hs : List (Option Nat)) (gh gi : Nat) (hv : List Nat) (bs : List Bool) (w : World) (h : PS w b g n A m c xs hs)
    (hH : Blk w gh (hv.map (fun x : Nat => Value.int .u8 (x : Int))).toArray 5) (hI : Blk w gi (bs.map Value.bool).toArray 4) (R : Rel hs hv bs xs) :
    Calls Try.prog 20 #[.pointer (some ⟨b, 0, none⟩), .slice (some ⟨gh, 0, none⟩) 64 64, .slice (some ⟨gi, 0, none⟩) 64 64] w fun e w' => e = .returned (.bool true) ∧ Below w.heap.size w w' := by
  have Hp := hid h
  have HH := hid hH
  have HI := hid hI
  have HR := hid R
  clear h hH hI R
  go_enter Try.func20, Try.ntmps20
  go_upto_region 2 with (refine wpList_store_row (by rfl) 76 _ _ (by rfl) w.heap.size (List.replicate 4 (Value.int .i64 0)).toArray (by rfl) (by rfl) 76 (List.replicate 4 (Value.int .i64 0)).toArray (heap_alloc_new w _) (by kernel_rfl) rfl (by kernel_rfl) ?_)
  generalize hw : World.setRow _ w.heap.size _ = w3
  have hb3 : Blk w3 w.heap.size ((tal hs 0).map (Value.int .i64)).toArray 76 := by
    rw [← hw]
    exact (congrArg (fun W : World => W.heap[w.heap.size]?) (World.setRow_alloc_new w (List.replicate 4 (Value.int .i64 0)).toArray (List.replicate 4 (Value.int .i64 0)).toArray 76)).trans (Blk.new w _ _)
  have hB3 : Below w.heap.size w w3 := by
    rw [← hw]
    show Below w.heap.size w ((w.alloc (.cells (List.replicate 4 (Value.int .i64 0)).toArray 76)).setRow w.heap.size (List.replicate 4 (Value.int .i64 0)).toArray)
    rw [World.setRow_alloc_new]
    exact (Below.refl _ _).alloc (Nat.le_refl _) _
  clear hw
  obtain ⟨gn, hgn⟩ : ∃ g, w.heap.size = g := ⟨_, rfl⟩
  rw [hgn] at hb3 hB3 ⊢
  have Hgn := hid hgn
  clear hgn
  go_wp2
  go_loopw [8, 9] (fun o i w' => ∃ k : Nat, k ≤ 64 ∧ i = .int .i64 (k : Int) ∧ o = .int .i64 (openL hs k) ∧ Blk w' gn ((tal hs k).map (Value.int .i64)).toArray 76 ∧ Below gn w w') (fun _ i _ => 64 - (intOf i).toNat)
  case atStart => exact ⟨0, by omega, rfl, rfl, hb3, hB3⟩
  case round =>
    clear hb3 hB3
    obtain ⟨k, hk, rfl, rfl, hbn, hB⟩ := hrel
    have hBw : Below w.heap.size w wr := by rw [Hgn.out]; exact hB
    have hBd : Below w.heap.size w (wr.drewN 1) := below_drewN hBw 1
    by_cases hlt : k < 64
    · have hhow := how_any b g n A m c xs hs (k : Int) wr (Hp.out.later hBw) (i64wf_of (by omega))
      have hhowd := how_any b g n A m c xs hs (k : Int) (wr.drewN 1) (Hp.out.later hBd) (i64wf_of (by omega))
      obtain ⟨hch, hci⟩ := right_rows wr gh gi hv bs (HH.out.later hBw) (HI.out.later hBw) k (by rw [HR.out.lh]; exact hlt) (by rw [HR.out.lb]; exact hlt)
      have heq := HR.out.eq k hlt
      have hle := HR.out.le k
      have hop : openL hs (k + 1) = if hs.getD k none = some 2 then (k : Int) else openL hs k := rfl
      rw [hAt_nat hs k hlt] at hhow hhowd
      have htn := tal_none hs k
      have hts := tal_some hs k
      obtain ⟨v, hvk⟩ : ∃ v, hv.getD k 0 = v := ⟨_, rfl⟩
      rw [hvk] at hch hle heq
      have hvk := hid hvk
      have heq' : Hid (bs.getD k false = true → hs.getD k none = some v) := hid (fun hb => by rw [heq, if_pos hb])
      have hki : (k : Int) < 64 := by omega
      cases hbk : bs.getD k false
      · rw [hbk] at hci heq
        rw [if_neg (by simp)] at heq
        rw [heq] at hhow hop
        rw [if_neg (by simp)] at hop
        have htn := hid (htn heq)
        have Hop := hid hop
        have hhow : Calls Try.prog 21 #[.pointer (some ⟨b, 0, none⟩), .int .i64 (k : Int)] wr fun e w' => e = .returned (.int .u8 3) ∧ w' = wr := hhow
        generalize openL hs k = o at *
        clear hts heq hhowd hch hop hbk
        go_wp2_with fail
        refine hhow.mono ?_
        rintro e w' ⟨rfl, rfl⟩
        clear hhow hci
        go_wp2
        go_roundw
        case rel => exact ⟨k + 1, by omega, by go_num, by rw [Hop.out], by rw [htn.out]; exact hbn, hB⟩
        case measure => simp [intOf]; omega
      · rw [hbk] at hci heq
        rw [if_pos rfl] at heq
        rw [heq] at hop
        have hts := hid (hts v heq hle)
        have hta := tal_at hs k v hle
        have hcl := cntk_le hs v k
        have Hop := hid hop
        have hcn : wr.cell? ⟨gn, v, none⟩ = some (.int .i64 ((tal hs k).getD v 0)) := by
          rw [hbn.cell]
          have : v < (tal hs k).length := by show v < 4; omega
          simp [List.getD_eq_getElem?_getD, List.getElem?_eq_getElem this]
        have hfn := hbn.free v
        rw [hta] at hcn hts
        have hb4 := hbn.set v (.int .i64 ((cntk hs v k : Int) + 1))
        have hb4' := hid (show Blk (wr.setCell ⟨gn, v, none⟩ (.int .i64 ((cntk hs v k : Int) + 1))) gn ((tal hs (k + 1)).map (Value.int .i64)).toArray 76 from by
          rw [hts.out, List.map_set]
          simpa using hb4)
        have hB4 := hid (hB.setCell (p := (⟨gn, v, none⟩ : Addr)) (Nat.le_refl _) (.int .i64 ((cntk hs v k : Int) + 1)))
        have hvl : (v : Int) < 4 := by omega
        have hbk := hid hbk
        clear hhow hhowd hop hb4 hbn htn hta hts heq
        generalize openL hs k = o at *
        generalize cntk hs v k = cc at *
        go_upto_region 10 with (fail)
        obtain ⟨w4, hw4⟩ : ∃ W, W = wr.setCell ⟨gn, v, none⟩ (.int .i64 ((cc : Int) + 1)) := ⟨_, rfl⟩
        rw [← hw4] at hb4' hB4 ⊢
        have hBw4 : Below w.heap.size w w4 := by rw [Hgn.out]; exact hB4.out
        have hBd4 : Below w.heap.size w (w4.drewN 1) := below_drewN hBw4 1
        have hhow := how_any b g n A m c xs hs (k : Int) (w4.drewN 1) (Hp.out.later hBd4) (i64wf_of (by omega))
        obtain ⟨hch, -⟩ := right_rows w4 gh gi hv bs (HH.out.later hBw4) (HI.out.later hBw4) k (by rw [HR.out.lh]; exact hlt) (by rw [HR.out.lb]; exact hlt)
        rw [hAt_nat hs k hlt, heq'.out hbk.out] at hhow
        rw [hvk.out] at hch
        have hhow : Calls Try.prog 21 #[.pointer (some ⟨b, 0, none⟩), .int .i64 (k : Int)] (w4.drewN 1) fun e w' => e = .returned (.int .u8 (v : Int)) ∧ w' = w4.drewN 1 := hhow
        have hue : ((v : Int) == (v : Int)) = true := by simp
        clear hw4 hcn hfn hci hB hBw hBd
        by_cases h2 : v = 2
        · subst h2
          rw [if_pos rfl] at Hop
          have hch : w4.cell? ⟨gh, k, none⟩ = some (.int .u8 2) := hch
          have hhow : Calls Try.prog 21 #[.pointer (some ⟨b, 0, none⟩), .int .i64 (k : Int)] (w4.drewN 1) fun e w' => e = .returned (.int .u8 2) ∧ w' = w4.drewN 1 := hhow
          go_upto_region 12 with (fail)
          refine wp_region_held_drew (S := (fun w' => w'.cell? ⟨gh, k, none⟩ = some (.int .u8 2))) (by kernel_rfl) ?hSnewBz (fun hHeld => ?restBz)
          case hSnewBz => ((try dsimp only); exact hch)
          refine wpAnyH_take (i := 0) (oi := ?oiBx0) (v := ?vBx0) ?hoBx0 ?h1Bx0 ?h2Bx0 ?h3Bx0 ?hqBx0 (Or.inl ⟨?h4Bx0, ?hyBx0⟩) (by assumption) ?restBx0
          case hoBx0 => (simp only [List.getElem?_toArray, List.getElem?_cons_zero, List.getElem?_cons_succ]; rfl)
          case h1Bx0 => kernel_rfl
          case h2Bx0 => kernel_rfl
          case h3Bx0 => kernel_rfl
          case h4Bx0 => rfl
          case hqBx0 => exact fun _ _ _ h => h
          case hyBx0 => (intro w hSw; (try dsimp only at hSw); go_simp <;> with_reducible rfl)
          (try simp only [Act.put, List.setIfInBounds_toArray, List.set_cons_zero, List.set_cons_succ])
          refine wpAnyH_take (i := 1) (oi := ?oiBx1) (v := ?vBx1) ?hoBx1 ?h1Bx1 ?h2Bx1 ?h3Bx1 ?hqBx1 (Or.inl ⟨?h4Bx1, ?hyBx1⟩) (by assumption) ?restBx1
          case hoBx1 => (simp only [List.getElem?_toArray, List.getElem?_cons_zero, List.getElem?_cons_succ]; rfl)
          case h1Bx1 => kernel_rfl
          case h2Bx1 => kernel_rfl
          case h3Bx1 => kernel_rfl
          case h4Bx1 => rfl
          case hqBx1 => exact fun _ _ _ h => h
          case hyBx1 => (intro w hSw; (try dsimp only at hSw); go_simp <;> with_reducible rfl)
          (try simp only [Act.put, List.setIfInBounds_toArray, List.set_cons_zero, List.set_cons_succ])
          refine wpAnyH_take (i := 3) (oi := ?oiBx3) (v := ?vBx3) ?hoBx3 ?h1Bx3 ?h2Bx3 ?h3Bx3 ?hqBx3 (Or.inl ⟨?h4Bx3, ?hyBx3⟩) (by assumption) ?restBx3
          case hoBx3 => (simp only [List.getElem?_toArray, List.getElem?_cons_zero, List.getElem?_cons_succ]; rfl)
          case h1Bx3 => kernel_rfl
          case h2Bx3 => kernel_rfl
          case h3Bx3 => kernel_rfl
          case h4Bx3 => rfl
          case hqBx3 => exact fun _ _ _ h => h
          case hyBx3 => (intro w hSw; (try dsimp only at hSw); go_simp <;> with_reducible rfl)
          (try simp only [Act.put, List.setIfInBounds_toArray, List.set_cons_zero, List.set_cons_succ])
          refine wpAnyH_take (i := 4) (oi := ?oiBx4) (v := ?vBx4) ?hoBx4 ?h1Bx4 ?h2Bx4 ?h3Bx4 ?hqBx4 (Or.inl ⟨?h4Bx4, ?hyBx4⟩) (by assumption) ?restBx4
          case hoBx4 => (simp only [List.getElem?_toArray, List.getElem?_cons_zero, List.getElem?_cons_succ]; rfl)
          case h1Bx4 => kernel_rfl
          case h2Bx4 => kernel_rfl
          case h3Bx4 => kernel_rfl
          case h4Bx4 => rfl
          case hqBx4 => exact fun _ _ _ h => h
          case hyBx4 => (intro w hSw; (try dsimp only at hSw); go_simp <;> with_reducible rfl)
          (try simp only [Act.put, List.setIfInBounds_toArray, List.set_cons_zero, List.set_cons_succ])
          refine wpAnyH_take (i := 5) (oi := ?oiBx5) (v := ?vBx5) ?hoBx5 ?h1Bx5 ?h2Bx5 ?h3Bx5 ?hqBx5 (Or.inl ⟨?h4Bx5, ?hyBx5⟩) (by assumption) ?restBx5
          case hoBx5 => (simp only [List.getElem?_toArray, List.getElem?_cons_zero, List.getElem?_cons_succ]; rfl)
          case h1Bx5 => kernel_rfl
          case h2Bx5 => kernel_rfl
          case h3Bx5 => kernel_rfl
          case h4Bx5 => rfl
          case hqBx5 => exact fun _ _ _ h => h
          case hyBx5 => (intro w hSw; (try dsimp only at hSw); go_simp <;> with_reducible rfl)
          (try simp only [Act.put, List.setIfInBounds_toArray, List.set_cons_zero, List.set_cons_succ])
          refine wpAnyH_take (i := 6) (oi := ?oiBx6) (v := ?vBx6) ?hoBx6 ?h1Bx6 ?h2Bx6 ?h3Bx6 ?hqBx6 (Or.inl ⟨?h4Bx6, ?hyBx6⟩) (by assumption) ?restBx6
          case hoBx6 => (simp only [List.getElem?_toArray, List.getElem?_cons_zero, List.getElem?_cons_succ]; rfl)
          case h1Bx6 => kernel_rfl
          case h2Bx6 => kernel_rfl
          case h3Bx6 => kernel_rfl
          case h4Bx6 => rfl
          case hqBx6 => exact fun _ _ _ h => h
          case hyBx6 => (intro w hSw; (try dsimp only at hSw); go_simp <;> with_reducible rfl)
          (try simp only [Act.put, List.setIfInBounds_toArray, List.set_cons_zero, List.set_cons_succ])
          refine wpAnyH_ready (rs := [2]) (by kernel_rfl) (by simp) ?_
          refine AllReadyH.cons (o := ?oiBx2) ?hoBx2 (fun K hK => ?restBx2) ?moreBx2
          case moreBx2 => exact AllReadyH.nil
          case hoBx2 => (simp only [List.getElem?_toArray, List.getElem?_cons_zero, List.getElem?_cons_succ]; rfl)
          go_simp
          refine (hhow).mono ?_
          rintro e w' ⟨rfl, rfl⟩
          try go_wp2_with fail
          refine hK.out _ _ ?hSnewBy2 (fun hHeld => ?restBy2)
          case hSnewBy2 => ((try dsimp only); exact hch)
          clear hK K
          (try simp only [Act.put, List.setIfInBounds_toArray, List.set_cons_zero, List.set_cons_succ])
          refine wpAnyH_take (i := 7) (oi := ?oiBx7) (v := ?vBx7) ?hoBx7 ?h1Bx7 ?h2Bx7 ?h3Bx7 ?hqBx7 (Or.inl ⟨?h4Bx7, ?hyBx7⟩) (by assumption) ?restBx7
          case hoBx7 => (simp only [List.getElem?_toArray, List.getElem?_cons_zero, List.getElem?_cons_succ]; rfl)
          case h1Bx7 => kernel_rfl
          case h2Bx7 => kernel_rfl
          case h3Bx7 => kernel_rfl
          case h4Bx7 => rfl
          case hqBx7 => exact fun _ _ _ h => h
          case hyBx7 => (intro w hSw; (try dsimp only at hSw); go_simp <;> with_reducible rfl)
          (try simp only [Act.put, List.setIfInBounds_toArray, List.set_cons_zero, List.set_cons_succ])
          refine wpAnyH_done (by kernel_rfl) ?_ _
          clear hhow hch
          obtain ⟨wx, hwx⟩ : ∃ W, w4.drewN 1 = W := ⟨_, rfl⟩
          have hgoal : w4.drew = wx := hwx
          have hBx := hid (show Below gn w wx from by rw [← hwx]; exact below_drewN hB4.out 1)
          have hbx := hid (show Blk wx gn ((tal hs (k + 1)).map (Value.int .i64)).toArray 76 from by rw [← hwx]; exact hb4'.out.drewN 1)
          first | rw [hgoal] | rw [hwx]
          clear hwx hgoal hb4' hB4 hBw4 hBd4
          go_wp2
          go_roundw
          case rel => exact ⟨k + 1, by omega, by go_num, by rw [Hop.out], hbx.out, hBx.out⟩
          case measure => simp [intOf]; omega
        · rw [if_neg (fun h => h2 (by injection h))] at Hop
          have hu2 : ((v : Int) == 2) = false := by rw [beq_eq_false_iff_ne]; omega
          go_upto_region 12 with (fail)
          refine wp_region_held_drew (S := (fun w' => w'.cell? ⟨gh, k, none⟩ = some (.int .u8 (v : Int)))) (by kernel_rfl) ?hSnewAz (fun hHeld => ?restAz)
          case hSnewAz => ((try dsimp only); exact hch)
          refine wpAnyH_take (i := 0) (oi := ?oiAx0) (v := ?vAx0) ?hoAx0 ?h1Ax0 ?h2Ax0 ?h3Ax0 ?hqAx0 (Or.inl ⟨?h4Ax0, ?hyAx0⟩) (by assumption) ?restAx0
          case hoAx0 => (simp only [List.getElem?_toArray, List.getElem?_cons_zero, List.getElem?_cons_succ]; rfl)
          case h1Ax0 => kernel_rfl
          case h2Ax0 => kernel_rfl
          case h3Ax0 => kernel_rfl
          case h4Ax0 => rfl
          case hqAx0 => exact fun _ _ _ h => h
          case hyAx0 => (intro w hSw; (try dsimp only at hSw); go_simp <;> with_reducible rfl)
          (try simp only [Act.put, List.setIfInBounds_toArray, List.set_cons_zero, List.set_cons_succ])
          refine wpAnyH_take (i := 1) (oi := ?oiAx1) (v := ?vAx1) ?hoAx1 ?h1Ax1 ?h2Ax1 ?h3Ax1 ?hqAx1 (Or.inl ⟨?h4Ax1, ?hyAx1⟩) (by assumption) ?restAx1
          case hoAx1 => (simp only [List.getElem?_toArray, List.getElem?_cons_zero, List.getElem?_cons_succ]; rfl)
          case h1Ax1 => kernel_rfl
          case h2Ax1 => kernel_rfl
          case h3Ax1 => kernel_rfl
          case h4Ax1 => rfl
          case hqAx1 => exact fun _ _ _ h => h
          case hyAx1 => (intro w hSw; (try dsimp only at hSw); go_simp <;> with_reducible rfl)
          (try simp only [Act.put, List.setIfInBounds_toArray, List.set_cons_zero, List.set_cons_succ])
          refine wpAnyH_take (i := 3) (oi := ?oiAx3) (v := ?vAx3) ?hoAx3 ?h1Ax3 ?h2Ax3 ?h3Ax3 ?hqAx3 (Or.inl ⟨?h4Ax3, ?hyAx3⟩) (by assumption) ?restAx3
          case hoAx3 => (simp only [List.getElem?_toArray, List.getElem?_cons_zero, List.getElem?_cons_succ]; rfl)
          case h1Ax3 => kernel_rfl
          case h2Ax3 => kernel_rfl
          case h3Ax3 => kernel_rfl
          case h4Ax3 => rfl
          case hqAx3 => exact fun _ _ _ h => h
          case hyAx3 => (intro w hSw; (try dsimp only at hSw); go_simp <;> with_reducible rfl)
          (try simp only [Act.put, List.setIfInBounds_toArray, List.set_cons_zero, List.set_cons_succ])
          refine wpAnyH_take (i := 4) (oi := ?oiAx4) (v := ?vAx4) ?hoAx4 ?h1Ax4 ?h2Ax4 ?h3Ax4 ?hqAx4 (Or.inl ⟨?h4Ax4, ?hyAx4⟩) (by assumption) ?restAx4
          case hoAx4 => (simp only [List.getElem?_toArray, List.getElem?_cons_zero, List.getElem?_cons_succ]; rfl)
          case h1Ax4 => kernel_rfl
          case h2Ax4 => kernel_rfl
          case h3Ax4 => kernel_rfl
          case h4Ax4 => rfl
          case hqAx4 => exact fun _ _ _ h => h
          case hyAx4 => (intro w hSw; (try dsimp only at hSw); go_simp <;> with_reducible rfl)
          (try simp only [Act.put, List.setIfInBounds_toArray, List.set_cons_zero, List.set_cons_succ])
          refine wpAnyH_take (i := 5) (oi := ?oiAx5) (v := ?vAx5) ?hoAx5 ?h1Ax5 ?h2Ax5 ?h3Ax5 ?hqAx5 (Or.inl ⟨?h4Ax5, ?hyAx5⟩) (by assumption) ?restAx5
          case hoAx5 => (simp only [List.getElem?_toArray, List.getElem?_cons_zero, List.getElem?_cons_succ]; rfl)
          case h1Ax5 => kernel_rfl
          case h2Ax5 => kernel_rfl
          case h3Ax5 => kernel_rfl
          case h4Ax5 => rfl
          case hqAx5 => exact fun _ _ _ h => h
          case hyAx5 => (intro w hSw; (try dsimp only at hSw); go_simp <;> with_reducible rfl)
          (try simp only [Act.put, List.setIfInBounds_toArray, List.set_cons_zero, List.set_cons_succ])
          refine wpAnyH_take (i := 6) (oi := ?oiAx6) (v := ?vAx6) ?hoAx6 ?h1Ax6 ?h2Ax6 ?h3Ax6 ?hqAx6 (Or.inl ⟨?h4Ax6, ?hyAx6⟩) (by assumption) ?restAx6
          case hoAx6 => (simp only [List.getElem?_toArray, List.getElem?_cons_zero, List.getElem?_cons_succ]; rfl)
          case h1Ax6 => kernel_rfl
          case h2Ax6 => kernel_rfl
          case h3Ax6 => kernel_rfl
          case h4Ax6 => rfl
          case hqAx6 => exact fun _ _ _ h => h
          case hyAx6 => (intro w hSw; (try dsimp only at hSw); go_simp <;> with_reducible rfl)
          (try simp only [Act.put, List.setIfInBounds_toArray, List.set_cons_zero, List.set_cons_succ])
          refine wpAnyH_ready (rs := [2]) (by kernel_rfl) (by simp) ?_
          refine AllReadyH.cons (o := ?oiAx2) ?hoAx2 (fun K hK => ?restAx2) ?moreAx2
          case moreAx2 => exact AllReadyH.nil
          case hoAx2 => (simp only [List.getElem?_toArray, List.getElem?_cons_zero, List.getElem?_cons_succ]; rfl)
          go_simp
          refine (hhow).mono ?_
          rintro e w' ⟨rfl, rfl⟩
          try go_wp2_with fail
          refine hK.out _ _ ?hSnewAy2 (fun hHeld => ?restAy2)
          case hSnewAy2 => ((try dsimp only); exact hch)
          clear hK K
          (try simp only [Act.put, List.setIfInBounds_toArray, List.set_cons_zero, List.set_cons_succ])
          refine wpAnyH_take (i := 7) (oi := ?oiAx7) (v := ?vAx7) ?hoAx7 ?h1Ax7 ?h2Ax7 ?h3Ax7 ?hqAx7 (Or.inl ⟨?h4Ax7, ?hyAx7⟩) (by assumption) ?restAx7
          case hoAx7 => (simp only [List.getElem?_toArray, List.getElem?_cons_zero, List.getElem?_cons_succ]; rfl)
          case h1Ax7 => kernel_rfl
          case h2Ax7 => kernel_rfl
          case h3Ax7 => kernel_rfl
          case h4Ax7 => rfl
          case hqAx7 => exact fun _ _ _ h => h
          case hyAx7 => (intro w hSw; (try dsimp only at hSw); go_simp <;> with_reducible rfl)
          (try simp only [Act.put, List.setIfInBounds_toArray, List.set_cons_zero, List.set_cons_succ])
          refine wpAnyH_done (by kernel_rfl) ?_ _
          clear hhow hch
          obtain ⟨wx, hwx⟩ : ∃ W, w4.drewN 1 = W := ⟨_, rfl⟩
          have hgoal : w4.drew = wx := hwx
          have hBx := hid (show Below gn w wx from by rw [← hwx]; exact below_drewN hB4.out 1)
          have hbx := hid (show Blk wx gn ((tal hs (k + 1)).map (Value.int .i64)).toArray 76 from by rw [← hwx]; exact hb4'.out.drewN 1)
          first | rw [hgoal] | rw [hwx]
          clear hwx hgoal hb4' hB4 hBw4 hBd4
          go_wp2
          go_roundw
          case rel => exact ⟨k + 1, by omega, by go_num, by rw [Hop.out], hbx.out, hBx.out⟩
          case measure => simp [intOf]; omega
    · obtain rfl : k = 64 := by omega
      have HS := hid (fun (W : World) (hW : Below wr.heap.size wr W) => (by
        have hb := hbn.later hW
        exact ⟨hb.cell 0, hb.cell 1, hb.cell 2, hb.cell 3⟩ : W.cell? ⟨gn, 0, none⟩ = some (.int .i64 (cntH hs 0 : Int)) ∧ W.cell? ⟨gn, 1, none⟩ = some (.int .i64 (cntH hs 1 : Int)) ∧ W.cell? ⟨gn, 2, none⟩ = some (.int .i64 (cntH hs 2 : Int)) ∧ W.cell? ⟨gn, 3, none⟩ = some (.int .i64 (cntH hs 3 : Int))))
      have hop := open_any b g n A m c xs hs wr (Hp.out.later hBw)
      have Hct := hid (fun (v : Nat) (hv : v < 4) (W : World) (hW : Below wr.heap.size wr W) => count_any b g n A m c xs hs v W ((Hp.out.later hBw).later hW) (by omega))
      have hfo := fOpen_eq HR.out
      clear hbn hBd hB
      have hBd : Below wr.heap.size wr (wr.drewN 1) := below_drewN (Below.refl _ _) 1
      have e0 : ((cntH hs 0 : Int) == (cntH hs 0 : Int)) = true := by simp
      have e1 : ((cntH hs 1 : Int) == (cntH hs 1 : Int)) = true := by simp
      have e2 : ((cntH hs 2 : Int) == (cntH hs 2 : Int)) = true := by simp
      have e3 : ((cntH hs 3 : Int) == (cntH hs 3 : Int)) = true := by simp
      rcases hfo with ⟨f1, f2⟩ | ⟨o, ho, f1, f2, -⟩
      · rw [f1] at hop
        rw [f2]
        clear f1 f2 hk hlt
        have hop : Calls Try.prog 27 #[.pointer (some ⟨b, 0, none⟩)] wr fun e w' => e = .returned (.tuple #[.int .i64 0, .bool false]) ∧ w' = wr := hop
        go_wp2_with fail
        refine hop.mono ?_
        rintro e w' ⟨rfl, rfl⟩
        clear hop
        go_upto_region 15 with (fail)
        refine wp_region_held_drew (S := (fun w' => w'.cell? ⟨gn, 0, none⟩ = some (.int .i64 (cntH hs 0 : Int)) ∧ w'.cell? ⟨gn, 1, none⟩ = some (.int .i64 (cntH hs 1 : Int)) ∧ w'.cell? ⟨gn, 2, none⟩ = some (.int .i64 (cntH hs 2 : Int)) ∧ w'.cell? ⟨gn, 3, none⟩ = some (.int .i64 (cntH hs 3 : Int)))) (by kernel_rfl) ?hSnewNz (fun hHeld => ?restNz)
        case hSnewNz => ((try dsimp only); exact HS.out _ hBd)
        refine wpAnyH_take (i := 0) (oi := ?oiNx0) (v := ?vNx0) ?hoNx0 ?h1Nx0 ?h2Nx0 ?h3Nx0 ?hqNx0 (Or.inl ⟨?h4Nx0, ?hyNx0⟩) (by assumption) ?restNx0
        case hoNx0 => (simp only [List.getElem?_toArray, List.getElem?_cons_zero, List.getElem?_cons_succ]; rfl)
        case h1Nx0 => kernel_rfl
        case h2Nx0 => kernel_rfl
        case h3Nx0 => kernel_rfl
        case h4Nx0 => rfl
        case hqNx0 => exact fun _ _ _ h => h
        case hyNx0 => (intro w hSw; (try dsimp only at hSw); go_simp <;> with_reducible rfl)
        (try simp only [Act.put, List.setIfInBounds_toArray, List.set_cons_zero, List.set_cons_succ])
        refine wpAnyH_take (i := 1) (oi := ?oiNx1) (v := ?vNx1) ?hoNx1 ?h1Nx1 ?h2Nx1 ?h3Nx1 ?hqNx1 (Or.inl ⟨?h4Nx1, ?hyNx1⟩) (by assumption) ?restNx1
        case hoNx1 => (simp only [List.getElem?_toArray, List.getElem?_cons_zero, List.getElem?_cons_succ]; rfl)
        case h1Nx1 => kernel_rfl
        case h2Nx1 => kernel_rfl
        case h3Nx1 => kernel_rfl
        case h4Nx1 => rfl
        case hqNx1 => exact fun _ _ _ h => h
        case hyNx1 => (intro w hSw; (try dsimp only at hSw); go_simp <;> with_reducible rfl)
        (try simp only [Act.put, List.setIfInBounds_toArray, List.set_cons_zero, List.set_cons_succ])
        refine wpAnyH_take (i := 2) (oi := ?oiNx2) (v := ?vNx2) ?hoNx2 ?h1Nx2 ?h2Nx2 ?h3Nx2 ?hqNx2 (Or.inl ⟨?h4Nx2, ?hyNx2⟩) (by assumption) ?restNx2
        case hoNx2 => (simp only [List.getElem?_toArray, List.getElem?_cons_zero, List.getElem?_cons_succ]; rfl)
        case h1Nx2 => kernel_rfl
        case h2Nx2 => kernel_rfl
        case h3Nx2 => kernel_rfl
        case h4Nx2 => rfl
        case hqNx2 => exact fun _ _ _ h => h
        case hyNx2 => (intro w hSw; (try dsimp only at hSw); go_simp <;> with_reducible rfl)
        (try simp only [Act.put, List.setIfInBounds_toArray, List.set_cons_zero, List.set_cons_succ])
        refine wpAnyH_take (i := 3) (oi := ?oiNx3) (v := ?vNx3) ?hoNx3 ?h1Nx3 ?h2Nx3 ?h3Nx3 ?hqNx3 (Or.inl ⟨?h4Nx3, ?hyNx3⟩) (by assumption) ?restNx3
        case hoNx3 => (simp only [List.getElem?_toArray, List.getElem?_cons_zero, List.getElem?_cons_succ]; rfl)
        case h1Nx3 => kernel_rfl
        case h2Nx3 => kernel_rfl
        case h3Nx3 => kernel_rfl
        case h4Nx3 => rfl
        case hqNx3 => exact fun _ _ _ h => h
        case hyNx3 => (intro w hSw; (try dsimp only at hSw); go_simp <;> with_reducible rfl)
        (try simp only [Act.put, List.setIfInBounds_toArray, List.set_cons_zero, List.set_cons_succ])
        refine wpAnyH_take (i := 4) (oi := ?oiNx4) (v := ?vNx4) ?hoNx4 ?h1Nx4 ?h2Nx4 ?h3Nx4 ?hqNx4 (Or.inl ⟨?h4Nx4, ?hyNx4⟩) (by assumption) ?restNx4
        case hoNx4 => (simp only [List.getElem?_toArray, List.getElem?_cons_zero, List.getElem?_cons_succ]; rfl)
        case h1Nx4 => kernel_rfl
        case h2Nx4 => kernel_rfl
        case h3Nx4 => kernel_rfl
        case h4Nx4 => rfl
        case hqNx4 => exact fun _ _ _ h => h
        case hyNx4 => (intro w hSw; (try dsimp only at hSw); go_simp <;> with_reducible rfl)
        (try simp only [Act.put, List.setIfInBounds_toArray, List.set_cons_zero, List.set_cons_succ])
        refine wpAnyH_take (i := 5) (oi := ?oiNx5) (v := ?vNx5) ?hoNx5 ?h1Nx5 ?h2Nx5 ?h3Nx5 ?hqNx5 (Or.inl ⟨?h4Nx5, ?hyNx5⟩) (by assumption) ?restNx5
        case hoNx5 => (simp only [List.getElem?_toArray, List.getElem?_cons_zero, List.getElem?_cons_succ]; rfl)
        case h1Nx5 => kernel_rfl
        case h2Nx5 => kernel_rfl
        case h3Nx5 => kernel_rfl
        case h4Nx5 => rfl
        case hqNx5 => exact fun _ _ _ h => h
        case hyNx5 => (intro w hSw; (try dsimp only at hSw); go_simp <;> with_reducible rfl)
        (try simp only [Act.put, List.setIfInBounds_toArray, List.set_cons_zero, List.set_cons_succ])
        refine wpAnyH_take (i := 6) (oi := ?oiNx6) (v := ?vNx6) ?hoNx6 ?h1Nx6 ?h2Nx6 ?h3Nx6 ?hqNx6 (Or.inl ⟨?h4Nx6, ?hyNx6⟩) (by assumption) ?restNx6
        case hoNx6 => (simp only [List.getElem?_toArray, List.getElem?_cons_zero, List.getElem?_cons_succ]; rfl)
        case h1Nx6 => kernel_rfl
        case h2Nx6 => kernel_rfl
        case h3Nx6 => kernel_rfl
        case h4Nx6 => rfl
        case hqNx6 => exact fun _ _ _ h => h
        case hyNx6 => (intro w hSw; (try dsimp only at hSw); go_simp <;> with_reducible rfl)
        (try simp only [Act.put, List.setIfInBounds_toArray, List.set_cons_zero, List.set_cons_succ])
        refine wpAnyH_take (i := 7) (oi := ?oiNx7) (v := ?vNx7) ?hoNx7 ?h1Nx7 ?h2Nx7 ?h3Nx7 ?hqNx7 (Or.inl ⟨?h4Nx7, ?hyNx7⟩) (by assumption) ?restNx7
        case hoNx7 => (simp only [List.getElem?_toArray, List.getElem?_cons_zero, List.getElem?_cons_succ]; rfl)
        case h1Nx7 => kernel_rfl
        case h2Nx7 => kernel_rfl
        case h3Nx7 => kernel_rfl
        case h4Nx7 => rfl
        case hqNx7 => exact fun _ _ _ h => h
        case hyNx7 => (intro w hSw; (try dsimp only at hSw); go_simp <;> with_reducible rfl)
        (try simp only [Act.put, List.setIfInBounds_toArray, List.set_cons_zero, List.set_cons_succ])
        refine wpAnyH_take (i := 8) (oi := ?oiNk8) (v := undef) ?hoNk8 ?h1Nk8 ?h2Nk8 ?h3Nk8 ?hqNk8 (Or.inr ⟨?h4Nk8, rfl⟩) (by assumption) ?restNk8
        case hoNk8 => (simp only [List.getElem?_toArray, List.getElem?_cons_zero, List.getElem?_cons_succ]; rfl)
        case h1Nk8 => kernel_rfl
        case h2Nk8 => kernel_rfl
        case h3Nk8 => kernel_rfl
        case h4Nk8 => rfl
        case hqNk8 => exact fun _ _ _ h => h
        (try simp only [Act.put, List.setIfInBounds_toArray, List.set_cons_zero, List.set_cons_succ])
        refine wpAnyH_take (i := 9) (oi := ?oiNk9) (v := undef) ?hoNk9 ?h1Nk9 ?h2Nk9 ?h3Nk9 ?hqNk9 (Or.inr ⟨?h4Nk9, rfl⟩) (by assumption) ?restNk9
        case hoNk9 => (simp only [List.getElem?_toArray, List.getElem?_cons_zero, List.getElem?_cons_succ]; rfl)
        case h1Nk9 => kernel_rfl
        case h2Nk9 => kernel_rfl
        case h3Nk9 => kernel_rfl
        case h4Nk9 => rfl
        case hqNk9 => exact fun _ _ _ h => h
        (try simp only [Act.put, List.setIfInBounds_toArray, List.set_cons_zero, List.set_cons_succ])
        refine wpAnyH_take (i := 10) (oi := ?oiNk10) (v := undef) ?hoNk10 ?h1Nk10 ?h2Nk10 ?h3Nk10 ?hqNk10 (Or.inr ⟨?h4Nk10, rfl⟩) (by assumption) ?restNk10
        case hoNk10 => (simp only [List.getElem?_toArray, List.getElem?_cons_zero, List.getElem?_cons_succ]; rfl)
        case h1Nk10 => kernel_rfl
        case h2Nk10 => kernel_rfl
        case h3Nk10 => kernel_rfl
        case h4Nk10 => rfl
        case hqNk10 => exact fun _ _ _ h => h
        (try simp only [Act.put, List.setIfInBounds_toArray, List.set_cons_zero, List.set_cons_succ])
        refine wpAnyH_take (i := 11) (oi := ?oiNx11) (v := ?vNx11) ?hoNx11 ?h1Nx11 ?h2Nx11 ?h3Nx11 ?hqNx11 (Or.inl ⟨?h4Nx11, ?hyNx11⟩) (by assumption) ?restNx11
        case hoNx11 => (simp only [List.getElem?_toArray, List.getElem?_cons_zero, List.getElem?_cons_succ]; rfl)
        case h1Nx11 => kernel_rfl
        case h2Nx11 => kernel_rfl
        case h3Nx11 => kernel_rfl
        case h4Nx11 => rfl
        case hqNx11 => exact fun _ _ _ h => h
        case hyNx11 => (intro w hSw; (try dsimp only at hSw); go_simp <;> with_reducible rfl)
        (try simp only [Act.put, List.setIfInBounds_toArray, List.set_cons_zero, List.set_cons_succ])
        refine wpAnyH_take (i := 12) (oi := ?oiNx12) (v := ?vNx12) ?hoNx12 ?h1Nx12 ?h2Nx12 ?h3Nx12 ?hqNx12 (Or.inl ⟨?h4Nx12, ?hyNx12⟩) (by assumption) ?restNx12
        case hoNx12 => (simp only [List.getElem?_toArray, List.getElem?_cons_zero, List.getElem?_cons_succ]; rfl)
        case h1Nx12 => kernel_rfl
        case h2Nx12 => kernel_rfl
        case h3Nx12 => kernel_rfl
        case h4Nx12 => rfl
        case hqNx12 => exact fun _ _ _ h => h
        case hyNx12 => (intro w hSw; (try dsimp only at hSw); go_simp <;> with_reducible rfl)
        (try simp only [Act.put, List.setIfInBounds_toArray, List.set_cons_zero, List.set_cons_succ])
        refine wpAnyH_take (i := 13) (oi := ?oiNx13) (v := ?vNx13) ?hoNx13 ?h1Nx13 ?h2Nx13 ?h3Nx13 ?hqNx13 (Or.inl ⟨?h4Nx13, ?hyNx13⟩) (by assumption) ?restNx13
        case hoNx13 => (simp only [List.getElem?_toArray, List.getElem?_cons_zero, List.getElem?_cons_succ]; rfl)
        case h1Nx13 => kernel_rfl
        case h2Nx13 => kernel_rfl
        case h3Nx13 => kernel_rfl
        case h4Nx13 => rfl
        case hqNx13 => exact fun _ _ _ h => h
        case hyNx13 => (intro w hSw; (try dsimp only at hSw); go_simp <;> with_reducible rfl)
        (try simp only [Act.put, List.setIfInBounds_toArray, List.set_cons_zero, List.set_cons_succ])
        refine wpAnyH_take (i := 14) (oi := ?oiNx14) (v := ?vNx14) ?hoNx14 ?h1Nx14 ?h2Nx14 ?h3Nx14 ?hqNx14 (Or.inl ⟨?h4Nx14, ?hyNx14⟩) (by assumption) ?restNx14
        case hoNx14 => (simp only [List.getElem?_toArray, List.getElem?_cons_zero, List.getElem?_cons_succ]; rfl)
        case h1Nx14 => kernel_rfl
        case h2Nx14 => kernel_rfl
        case h3Nx14 => kernel_rfl
        case h4Nx14 => rfl
        case hqNx14 => exact fun _ _ _ h => h
        case hyNx14 => (intro w hSw; (try dsimp only at hSw); go_simp <;> with_reducible rfl)
        (try simp only [Act.put, List.setIfInBounds_toArray, List.set_cons_zero, List.set_cons_succ])
        refine wpAnyH_take (i := 16) (oi := ?oiNx16) (v := ?vNx16) ?hoNx16 ?h1Nx16 ?h2Nx16 ?h3Nx16 ?hqNx16 (Or.inl ⟨?h4Nx16, ?hyNx16⟩) (by assumption) ?restNx16
        case hoNx16 => (simp only [List.getElem?_toArray, List.getElem?_cons_zero, List.getElem?_cons_succ]; rfl)
        case h1Nx16 => kernel_rfl
        case h2Nx16 => kernel_rfl
        case h3Nx16 => kernel_rfl
        case h4Nx16 => rfl
        case hqNx16 => exact fun _ _ _ h => h
        case hyNx16 => (intro w hSw; (try dsimp only at hSw); go_simp <;> with_reducible rfl)
        (try simp only [Act.put, List.setIfInBounds_toArray, List.set_cons_zero, List.set_cons_succ])
        refine wpAnyH_take (i := 17) (oi := ?oiNx17) (v := ?vNx17) ?hoNx17 ?h1Nx17 ?h2Nx17 ?h3Nx17 ?hqNx17 (Or.inl ⟨?h4Nx17, ?hyNx17⟩) (by assumption) ?restNx17
        case hoNx17 => (simp only [List.getElem?_toArray, List.getElem?_cons_zero, List.getElem?_cons_succ]; rfl)
        case h1Nx17 => kernel_rfl
        case h2Nx17 => kernel_rfl
        case h3Nx17 => kernel_rfl
        case h4Nx17 => rfl
        case hqNx17 => exact fun _ _ _ h => h
        case hyNx17 => (intro w hSw; (try dsimp only at hSw); go_simp <;> with_reducible rfl)
        (try simp only [Act.put, List.setIfInBounds_toArray, List.set_cons_zero, List.set_cons_succ])
        refine wpAnyH_ready (rs := [15]) (by kernel_rfl) (by simp) ?_
        refine AllReadyH.cons (o := ?oiNx15) ?hoNx15 (fun K hK => ?restNx15) ?moreNx15
        case moreNx15 => exact AllReadyH.nil
        case hoNx15 => (simp only [List.getElem?_toArray, List.getElem?_cons_zero, List.getElem?_cons_succ]; rfl)
        go_simp
        refine (Hct.out 0 (by decide) _ hBd).mono ?_
        rintro e w' ⟨rfl, hY1⟩
        have hX1 := hBd.trans (hY1.mono hBd.size)
        clear hY1
        try go_wp2_with fail
        refine hK.out _ _ ?hSnewNy15 (fun hHeld => ?restNy15)
        case hSnewNy15 => ((try dsimp only); exact HS.out _ hX1)
        clear hK K
        (try simp only [Act.put, List.setIfInBounds_toArray, List.set_cons_zero, List.set_cons_succ])
        refine wpAnyH_take (i := 18) (oi := ?oiNx18) (v := ?vNx18) ?hoNx18 ?h1Nx18 ?h2Nx18 ?h3Nx18 ?hqNx18 (Or.inl ⟨?h4Nx18, ?hyNx18⟩) (by assumption) ?restNx18
        case hoNx18 => (simp only [List.getElem?_toArray, List.getElem?_cons_zero, List.getElem?_cons_succ]; rfl)
        case h1Nx18 => kernel_rfl
        case h2Nx18 => kernel_rfl
        case h3Nx18 => kernel_rfl
        case h4Nx18 => rfl
        case hqNx18 => exact fun _ _ _ h => h
        case hyNx18 => (intro w hSw; (try dsimp only at hSw); go_simp <;> with_reducible rfl)
        (try simp only [Act.put, List.setIfInBounds_toArray, List.set_cons_zero, List.set_cons_succ])
        refine wpAnyH_take (i := 19) (oi := ?oiNx19) (v := ?vNx19) ?hoNx19 ?h1Nx19 ?h2Nx19 ?h3Nx19 ?hqNx19 (Or.inl ⟨?h4Nx19, ?hyNx19⟩) (by assumption) ?restNx19
        case hoNx19 => (simp only [List.getElem?_toArray, List.getElem?_cons_zero, List.getElem?_cons_succ]; rfl)
        case h1Nx19 => kernel_rfl
        case h2Nx19 => kernel_rfl
        case h3Nx19 => kernel_rfl
        case h4Nx19 => rfl
        case hqNx19 => exact fun _ _ _ h => h
        case hyNx19 => (intro w hSw; (try dsimp only at hSw); go_simp <;> with_reducible rfl)
        (try simp only [Act.put, List.setIfInBounds_toArray, List.set_cons_zero, List.set_cons_succ])
        refine wpAnyH_take (i := 20) (oi := ?oiNx20) (v := ?vNx20) ?hoNx20 ?h1Nx20 ?h2Nx20 ?h3Nx20 ?hqNx20 (Or.inl ⟨?h4Nx20, ?hyNx20⟩) (by assumption) ?restNx20
        case hoNx20 => (simp only [List.getElem?_toArray, List.getElem?_cons_zero, List.getElem?_cons_succ]; rfl)
        case h1Nx20 => kernel_rfl
        case h2Nx20 => kernel_rfl
        case h3Nx20 => kernel_rfl
        case h4Nx20 => rfl
        case hqNx20 => exact fun _ _ _ h => h
        case hyNx20 => (intro w hSw; (try dsimp only at hSw); go_simp <;> with_reducible rfl)
        (try simp only [Act.put, List.setIfInBounds_toArray, List.set_cons_zero, List.set_cons_succ])
        refine wpAnyH_take (i := 21) (oi := ?oiNx21) (v := ?vNx21) ?hoNx21 ?h1Nx21 ?h2Nx21 ?h3Nx21 ?hqNx21 (Or.inl ⟨?h4Nx21, ?hyNx21⟩) (by assumption) ?restNx21
        case hoNx21 => (simp only [List.getElem?_toArray, List.getElem?_cons_zero, List.getElem?_cons_succ]; rfl)
        case h1Nx21 => kernel_rfl
        case h2Nx21 => kernel_rfl
        case h3Nx21 => kernel_rfl
        case h4Nx21 => rfl
        case hqNx21 => exact fun _ _ _ h => h
        case hyNx21 => (intro w hSw; (try dsimp only at hSw); go_simp <;> with_reducible rfl)
        (try simp only [Act.put, List.setIfInBounds_toArray, List.set_cons_zero, List.set_cons_succ])
        refine wpAnyH_take (i := 23) (oi := ?oiNx23) (v := ?vNx23) ?hoNx23 ?h1Nx23 ?h2Nx23 ?h3Nx23 ?hqNx23 (Or.inl ⟨?h4Nx23, ?hyNx23⟩) (by assumption) ?restNx23
        case hoNx23 => (simp only [List.getElem?_toArray, List.getElem?_cons_zero, List.getElem?_cons_succ]; rfl)
        case h1Nx23 => kernel_rfl
        case h2Nx23 => kernel_rfl
        case h3Nx23 => kernel_rfl
        case h4Nx23 => rfl
        case hqNx23 => exact fun _ _ _ h => h
        case hyNx23 => (intro w hSw; (try dsimp only at hSw); go_simp <;> with_reducible rfl)
        (try simp only [Act.put, List.setIfInBounds_toArray, List.set_cons_zero, List.set_cons_succ])
        refine wpAnyH_take (i := 24) (oi := ?oiNx24) (v := ?vNx24) ?hoNx24 ?h1Nx24 ?h2Nx24 ?h3Nx24 ?hqNx24 (Or.inl ⟨?h4Nx24, ?hyNx24⟩) (by assumption) ?restNx24
        case hoNx24 => (simp only [List.getElem?_toArray, List.getElem?_cons_zero, List.getElem?_cons_succ]; rfl)
        case h1Nx24 => kernel_rfl
        case h2Nx24 => kernel_rfl
        case h3Nx24 => kernel_rfl
        case h4Nx24 => rfl
        case hqNx24 => exact fun _ _ _ h => h
        case hyNx24 => (intro w hSw; (try dsimp only at hSw); go_simp <;> with_reducible rfl)
        (try simp only [Act.put, List.setIfInBounds_toArray, List.set_cons_zero, List.set_cons_succ])
        refine wpAnyH_ready (rs := [22]) (by kernel_rfl) (by simp) ?_
        refine AllReadyH.cons (o := ?oiNx22) ?hoNx22 (fun K hK => ?restNx22) ?moreNx22
        case moreNx22 => exact AllReadyH.nil
        case hoNx22 => (simp only [List.getElem?_toArray, List.getElem?_cons_zero, List.getElem?_cons_succ]; rfl)
        go_simp
        refine (Hct.out 1 (by decide) _ hX1).mono ?_
        rintro e w' ⟨rfl, hY2⟩
        have hX2 := hX1.trans (hY2.mono hX1.size)
        clear hY2
        try go_wp2_with fail
        refine hK.out _ _ ?hSnewNy22 (fun hHeld => ?restNy22)
        case hSnewNy22 => ((try dsimp only); exact HS.out _ hX2)
        clear hK K
        (try simp only [Act.put, List.setIfInBounds_toArray, List.set_cons_zero, List.set_cons_succ])
        refine wpAnyH_take (i := 25) (oi := ?oiNx25) (v := ?vNx25) ?hoNx25 ?h1Nx25 ?h2Nx25 ?h3Nx25 ?hqNx25 (Or.inl ⟨?h4Nx25, ?hyNx25⟩) (by assumption) ?restNx25
        case hoNx25 => (simp only [List.getElem?_toArray, List.getElem?_cons_zero, List.getElem?_cons_succ]; rfl)
        case h1Nx25 => kernel_rfl
        case h2Nx25 => kernel_rfl
        case h3Nx25 => kernel_rfl
        case h4Nx25 => rfl
        case hqNx25 => exact fun _ _ _ h => h
        case hyNx25 => (intro w hSw; (try dsimp only at hSw); go_simp <;> with_reducible rfl)
        (try simp only [Act.put, List.setIfInBounds_toArray, List.set_cons_zero, List.set_cons_succ])
        refine wpAnyH_take (i := 26) (oi := ?oiNx26) (v := ?vNx26) ?hoNx26 ?h1Nx26 ?h2Nx26 ?h3Nx26 ?hqNx26 (Or.inl ⟨?h4Nx26, ?hyNx26⟩) (by assumption) ?restNx26
        case hoNx26 => (simp only [List.getElem?_toArray, List.getElem?_cons_zero, List.getElem?_cons_succ]; rfl)
        case h1Nx26 => kernel_rfl
        case h2Nx26 => kernel_rfl
        case h3Nx26 => kernel_rfl
        case h4Nx26 => rfl
        case hqNx26 => exact fun _ _ _ h => h
        case hyNx26 => (intro w hSw; (try dsimp only at hSw); go_simp <;> with_reducible rfl)
        (try simp only [Act.put, List.setIfInBounds_toArray, List.set_cons_zero, List.set_cons_succ])
        refine wpAnyH_take (i := 27) (oi := ?oiNx27) (v := ?vNx27) ?hoNx27 ?h1Nx27 ?h2Nx27 ?h3Nx27 ?hqNx27 (Or.inl ⟨?h4Nx27, ?hyNx27⟩) (by assumption) ?restNx27
        case hoNx27 => (simp only [List.getElem?_toArray, List.getElem?_cons_zero, List.getElem?_cons_succ]; rfl)
        case h1Nx27 => kernel_rfl
        case h2Nx27 => kernel_rfl
        case h3Nx27 => kernel_rfl
        case h4Nx27 => rfl
        case hqNx27 => exact fun _ _ _ h => h
        case hyNx27 => (intro w hSw; (try dsimp only at hSw); go_simp <;> with_reducible rfl)
        (try simp only [Act.put, List.setIfInBounds_toArray, List.set_cons_zero, List.set_cons_succ])
        refine wpAnyH_take (i := 28) (oi := ?oiNx28) (v := ?vNx28) ?hoNx28 ?h1Nx28 ?h2Nx28 ?h3Nx28 ?hqNx28 (Or.inl ⟨?h4Nx28, ?hyNx28⟩) (by assumption) ?restNx28
        case hoNx28 => (simp only [List.getElem?_toArray, List.getElem?_cons_zero, List.getElem?_cons_succ]; rfl)
        case h1Nx28 => kernel_rfl
        case h2Nx28 => kernel_rfl
        case h3Nx28 => kernel_rfl
        case h4Nx28 => rfl
        case hqNx28 => exact fun _ _ _ h => h
        case hyNx28 => (intro w hSw; (try dsimp only at hSw); go_simp <;> with_reducible rfl)
        (try simp only [Act.put, List.setIfInBounds_toArray, List.set_cons_zero, List.set_cons_succ])
        refine wpAnyH_take (i := 30) (oi := ?oiNx30) (v := ?vNx30) ?hoNx30 ?h1Nx30 ?h2Nx30 ?h3Nx30 ?hqNx30 (Or.inl ⟨?h4Nx30, ?hyNx30⟩) (by assumption) ?restNx30
        case hoNx30 => (simp only [List.getElem?_toArray, List.getElem?_cons_zero, List.getElem?_cons_succ]; rfl)
        case h1Nx30 => kernel_rfl
        case h2Nx30 => kernel_rfl
        case h3Nx30 => kernel_rfl
        case h4Nx30 => rfl
        case hqNx30 => exact fun _ _ _ h => h
        case hyNx30 => (intro w hSw; (try dsimp only at hSw); go_simp <;> with_reducible rfl)
        (try simp only [Act.put, List.setIfInBounds_toArray, List.set_cons_zero, List.set_cons_succ])
        refine wpAnyH_take (i := 31) (oi := ?oiNx31) (v := ?vNx31) ?hoNx31 ?h1Nx31 ?h2Nx31 ?h3Nx31 ?hqNx31 (Or.inl ⟨?h4Nx31, ?hyNx31⟩) (by assumption) ?restNx31
        case hoNx31 => (simp only [List.getElem?_toArray, List.getElem?_cons_zero, List.getElem?_cons_succ]; rfl)
        case h1Nx31 => kernel_rfl
        case h2Nx31 => kernel_rfl
        case h3Nx31 => kernel_rfl
        case h4Nx31 => rfl
        case hqNx31 => exact fun _ _ _ h => h
        case hyNx31 => (intro w hSw; (try dsimp only at hSw); go_simp <;> with_reducible rfl)
        (try simp only [Act.put, List.setIfInBounds_toArray, List.set_cons_zero, List.set_cons_succ])
        refine wpAnyH_ready (rs := [29]) (by kernel_rfl) (by simp) ?_
        refine AllReadyH.cons (o := ?oiNx29) ?hoNx29 (fun K hK => ?restNx29) ?moreNx29
        case moreNx29 => exact AllReadyH.nil
        case hoNx29 => (simp only [List.getElem?_toArray, List.getElem?_cons_zero, List.getElem?_cons_succ]; rfl)
        go_simp
        refine (Hct.out 2 (by decide) _ hX2).mono ?_
        rintro e w' ⟨rfl, hY3⟩
        have hX3 := hX2.trans (hY3.mono hX2.size)
        clear hY3
        try go_wp2_with fail
        refine hK.out _ _ ?hSnewNy29 (fun hHeld => ?restNy29)
        case hSnewNy29 => ((try dsimp only); exact HS.out _ hX3)
        clear hK K
        (try simp only [Act.put, List.setIfInBounds_toArray, List.set_cons_zero, List.set_cons_succ])
        refine wpAnyH_take (i := 32) (oi := ?oiNx32) (v := ?vNx32) ?hoNx32 ?h1Nx32 ?h2Nx32 ?h3Nx32 ?hqNx32 (Or.inl ⟨?h4Nx32, ?hyNx32⟩) (by assumption) ?restNx32
        case hoNx32 => (simp only [List.getElem?_toArray, List.getElem?_cons_zero, List.getElem?_cons_succ]; rfl)
        case h1Nx32 => kernel_rfl
        case h2Nx32 => kernel_rfl
        case h3Nx32 => kernel_rfl
        case h4Nx32 => rfl
        case hqNx32 => exact fun _ _ _ h => h
        case hyNx32 => (intro w hSw; (try dsimp only at hSw); go_simp <;> with_reducible rfl)
        (try simp only [Act.put, List.setIfInBounds_toArray, List.set_cons_zero, List.set_cons_succ])
        refine wpAnyH_take (i := 33) (oi := ?oiNx33) (v := ?vNx33) ?hoNx33 ?h1Nx33 ?h2Nx33 ?h3Nx33 ?hqNx33 (Or.inl ⟨?h4Nx33, ?hyNx33⟩) (by assumption) ?restNx33
        case hoNx33 => (simp only [List.getElem?_toArray, List.getElem?_cons_zero, List.getElem?_cons_succ]; rfl)
        case h1Nx33 => kernel_rfl
        case h2Nx33 => kernel_rfl
        case h3Nx33 => kernel_rfl
        case h4Nx33 => rfl
        case hqNx33 => exact fun _ _ _ h => h
        case hyNx33 => (intro w hSw; (try dsimp only at hSw); go_simp <;> with_reducible rfl)
        (try simp only [Act.put, List.setIfInBounds_toArray, List.set_cons_zero, List.set_cons_succ])
        refine wpAnyH_take (i := 34) (oi := ?oiNx34) (v := ?vNx34) ?hoNx34 ?h1Nx34 ?h2Nx34 ?h3Nx34 ?hqNx34 (Or.inl ⟨?h4Nx34, ?hyNx34⟩) (by assumption) ?restNx34
        case hoNx34 => (simp only [List.getElem?_toArray, List.getElem?_cons_zero, List.getElem?_cons_succ]; rfl)
        case h1Nx34 => kernel_rfl
        case h2Nx34 => kernel_rfl
        case h3Nx34 => kernel_rfl
        case h4Nx34 => rfl
        case hqNx34 => exact fun _ _ _ h => h
        case hyNx34 => (intro w hSw; (try dsimp only at hSw); go_simp <;> with_reducible rfl)
        (try simp only [Act.put, List.setIfInBounds_toArray, List.set_cons_zero, List.set_cons_succ])
        refine wpAnyH_take (i := 35) (oi := ?oiNx35) (v := ?vNx35) ?hoNx35 ?h1Nx35 ?h2Nx35 ?h3Nx35 ?hqNx35 (Or.inl ⟨?h4Nx35, ?hyNx35⟩) (by assumption) ?restNx35
        case hoNx35 => (simp only [List.getElem?_toArray, List.getElem?_cons_zero, List.getElem?_cons_succ]; rfl)
        case h1Nx35 => kernel_rfl
        case h2Nx35 => kernel_rfl
        case h3Nx35 => kernel_rfl
        case h4Nx35 => rfl
        case hqNx35 => exact fun _ _ _ h => h
        case hyNx35 => (intro w hSw; (try dsimp only at hSw); go_simp <;> with_reducible rfl)
        (try simp only [Act.put, List.setIfInBounds_toArray, List.set_cons_zero, List.set_cons_succ])
        refine wpAnyH_take (i := 37) (oi := ?oiNx37) (v := ?vNx37) ?hoNx37 ?h1Nx37 ?h2Nx37 ?h3Nx37 ?hqNx37 (Or.inl ⟨?h4Nx37, ?hyNx37⟩) (by assumption) ?restNx37
        case hoNx37 => (simp only [List.getElem?_toArray, List.getElem?_cons_zero, List.getElem?_cons_succ]; rfl)
        case h1Nx37 => kernel_rfl
        case h2Nx37 => kernel_rfl
        case h3Nx37 => kernel_rfl
        case h4Nx37 => rfl
        case hqNx37 => exact fun _ _ _ h => h
        case hyNx37 => (intro w hSw; (try dsimp only at hSw); go_simp <;> with_reducible rfl)
        (try simp only [Act.put, List.setIfInBounds_toArray, List.set_cons_zero, List.set_cons_succ])
        refine wpAnyH_take (i := 38) (oi := ?oiNx38) (v := ?vNx38) ?hoNx38 ?h1Nx38 ?h2Nx38 ?h3Nx38 ?hqNx38 (Or.inl ⟨?h4Nx38, ?hyNx38⟩) (by assumption) ?restNx38
        case hoNx38 => (simp only [List.getElem?_toArray, List.getElem?_cons_zero, List.getElem?_cons_succ]; rfl)
        case h1Nx38 => kernel_rfl
        case h2Nx38 => kernel_rfl
        case h3Nx38 => kernel_rfl
        case h4Nx38 => rfl
        case hqNx38 => exact fun _ _ _ h => h
        case hyNx38 => (intro w hSw; (try dsimp only at hSw); go_simp <;> with_reducible rfl)
        (try simp only [Act.put, List.setIfInBounds_toArray, List.set_cons_zero, List.set_cons_succ])
        refine wpAnyH_ready (rs := [36]) (by kernel_rfl) (by simp) ?_
        refine AllReadyH.cons (o := ?oiNx36) ?hoNx36 (fun K hK => ?restNx36) ?moreNx36
        case moreNx36 => exact AllReadyH.nil
        case hoNx36 => (simp only [List.getElem?_toArray, List.getElem?_cons_zero, List.getElem?_cons_succ]; rfl)
        go_simp
        refine (Hct.out 3 (by decide) _ hX3).mono ?_
        rintro e w' ⟨rfl, hY4⟩
        have hX4 := hX3.trans (hY4.mono hX3.size)
        clear hY4
        try go_wp2_with fail
        refine hK.out _ _ ?hSnewNy36 (fun hHeld => ?restNy36)
        case hSnewNy36 => ((try dsimp only); exact HS.out _ hX4)
        clear hK K
        (try simp only [Act.put, List.setIfInBounds_toArray, List.set_cons_zero, List.set_cons_succ])
        refine wpAnyH_take (i := 39) (oi := ?oiNx39) (v := ?vNx39) ?hoNx39 ?h1Nx39 ?h2Nx39 ?h3Nx39 ?hqNx39 (Or.inl ⟨?h4Nx39, ?hyNx39⟩) (by assumption) ?restNx39
        case hoNx39 => (simp only [List.getElem?_toArray, List.getElem?_cons_zero, List.getElem?_cons_succ]; rfl)
        case h1Nx39 => kernel_rfl
        case h2Nx39 => kernel_rfl
        case h3Nx39 => kernel_rfl
        case h4Nx39 => rfl
        case hqNx39 => exact fun _ _ _ h => h
        case hyNx39 => (intro w hSw; (try dsimp only at hSw); go_simp <;> with_reducible rfl)
        (try simp only [Act.put, List.setIfInBounds_toArray, List.set_cons_zero, List.set_cons_succ])
        refine wpAnyH_take (i := 40) (oi := ?oiNx40) (v := ?vNx40) ?hoNx40 ?h1Nx40 ?h2Nx40 ?h3Nx40 ?hqNx40 (Or.inl ⟨?h4Nx40, ?hyNx40⟩) (by assumption) ?restNx40
        case hoNx40 => (simp only [List.getElem?_toArray, List.getElem?_cons_zero, List.getElem?_cons_succ]; rfl)
        case h1Nx40 => kernel_rfl
        case h2Nx40 => kernel_rfl
        case h3Nx40 => kernel_rfl
        case h4Nx40 => rfl
        case hqNx40 => exact fun _ _ _ h => h
        case hyNx40 => (intro w hSw; (try dsimp only at hSw); go_simp <;> with_reducible rfl)
        (try simp only [Act.put, List.setIfInBounds_toArray, List.set_cons_zero, List.set_cons_succ])
        refine wpAnyH_take (i := 41) (oi := ?oiNx41) (v := ?vNx41) ?hoNx41 ?h1Nx41 ?h2Nx41 ?h3Nx41 ?hqNx41 (Or.inl ⟨?h4Nx41, ?hyNx41⟩) (by assumption) ?restNx41
        case hoNx41 => (simp only [List.getElem?_toArray, List.getElem?_cons_zero, List.getElem?_cons_succ]; rfl)
        case h1Nx41 => kernel_rfl
        case h2Nx41 => kernel_rfl
        case h3Nx41 => kernel_rfl
        case h4Nx41 => rfl
        case hqNx41 => exact fun _ _ _ h => h
        case hyNx41 => (intro w hSw; (try dsimp only at hSw); go_simp <;> with_reducible rfl)
        (try simp only [Act.put, List.setIfInBounds_toArray, List.set_cons_zero, List.set_cons_succ])
        refine wpAnyH_done (by kernel_rfl) ?_ _
        clear Hct HS e0 e1 e2 e3
        go_wp2
        go_ret
        exact ⟨rfl, hBw.trans (hX4.mono hBw.size)⟩
      · rw [f1] at hop
        rw [f2]
        clear f1 f2 hk hlt
        have hop : Calls Try.prog 27 #[.pointer (some ⟨b, 0, none⟩)] wr fun e w' => e = .returned (.tuple #[.int .i64 (o : Int), .bool true]) ∧ w' = wr := hop
        have ho0 : (0 : Int) ≤ (o : Int) := by omega
        have eo : ((o : Int) == (o : Int)) = true := by simp
        go_wp2_with fail
        refine hop.mono ?_
        rintro e w' ⟨rfl, rfl⟩
        clear hop
        go_upto_region 15 with (fail)
        refine wp_region_held_drew (S := (fun w' => w'.cell? ⟨gn, 0, none⟩ = some (.int .i64 (cntH hs 0 : Int)) ∧ w'.cell? ⟨gn, 1, none⟩ = some (.int .i64 (cntH hs 1 : Int)) ∧ w'.cell? ⟨gn, 2, none⟩ = some (.int .i64 (cntH hs 2 : Int)) ∧ w'.cell? ⟨gn, 3, none⟩ = some (.int .i64 (cntH hs 3 : Int)))) (by kernel_rfl) ?hSnewSz (fun hHeld => ?restSz)
        case hSnewSz => ((try dsimp only); exact HS.out _ hBd)
        refine wpAnyH_take (i := 0) (oi := ?oiSx0) (v := ?vSx0) ?hoSx0 ?h1Sx0 ?h2Sx0 ?h3Sx0 ?hqSx0 (Or.inl ⟨?h4Sx0, ?hySx0⟩) (by assumption) ?restSx0
        case hoSx0 => (simp only [List.getElem?_toArray, List.getElem?_cons_zero, List.getElem?_cons_succ]; rfl)
        case h1Sx0 => kernel_rfl
        case h2Sx0 => kernel_rfl
        case h3Sx0 => kernel_rfl
        case h4Sx0 => rfl
        case hqSx0 => exact fun _ _ _ h => h
        case hySx0 => (intro w hSw; (try dsimp only at hSw); go_simp <;> with_reducible rfl)
        (try simp only [Act.put, List.setIfInBounds_toArray, List.set_cons_zero, List.set_cons_succ])
        refine wpAnyH_take (i := 1) (oi := ?oiSx1) (v := ?vSx1) ?hoSx1 ?h1Sx1 ?h2Sx1 ?h3Sx1 ?hqSx1 (Or.inl ⟨?h4Sx1, ?hySx1⟩) (by assumption) ?restSx1
        case hoSx1 => (simp only [List.getElem?_toArray, List.getElem?_cons_zero, List.getElem?_cons_succ]; rfl)
        case h1Sx1 => kernel_rfl
        case h2Sx1 => kernel_rfl
        case h3Sx1 => kernel_rfl
        case h4Sx1 => rfl
        case hqSx1 => exact fun _ _ _ h => h
        case hySx1 => (intro w hSw; (try dsimp only at hSw); go_simp <;> with_reducible rfl)
        (try simp only [Act.put, List.setIfInBounds_toArray, List.set_cons_zero, List.set_cons_succ])
        refine wpAnyH_take (i := 2) (oi := ?oiSx2) (v := ?vSx2) ?hoSx2 ?h1Sx2 ?h2Sx2 ?h3Sx2 ?hqSx2 (Or.inl ⟨?h4Sx2, ?hySx2⟩) (by assumption) ?restSx2
        case hoSx2 => (simp only [List.getElem?_toArray, List.getElem?_cons_zero, List.getElem?_cons_succ]; rfl)
        case h1Sx2 => kernel_rfl
        case h2Sx2 => kernel_rfl
        case h3Sx2 => kernel_rfl
        case h4Sx2 => rfl
        case hqSx2 => exact fun _ _ _ h => h
        case hySx2 => (intro w hSw; (try dsimp only at hSw); go_simp <;> with_reducible rfl)
        (try simp only [Act.put, List.setIfInBounds_toArray, List.set_cons_zero, List.set_cons_succ])
        refine wpAnyH_take (i := 3) (oi := ?oiSx3) (v := ?vSx3) ?hoSx3 ?h1Sx3 ?h2Sx3 ?h3Sx3 ?hqSx3 (Or.inl ⟨?h4Sx3, ?hySx3⟩) (by assumption) ?restSx3
        case hoSx3 => (simp only [List.getElem?_toArray, List.getElem?_cons_zero, List.getElem?_cons_succ]; rfl)
        case h1Sx3 => kernel_rfl
        case h2Sx3 => kernel_rfl
        case h3Sx3 => kernel_rfl
        case h4Sx3 => rfl
        case hqSx3 => exact fun _ _ _ h => h
        case hySx3 => (intro w hSw; (try dsimp only at hSw); go_simp <;> with_reducible rfl)
        (try simp only [Act.put, List.setIfInBounds_toArray, List.set_cons_zero, List.set_cons_succ])
        refine wpAnyH_take (i := 4) (oi := ?oiSx4) (v := ?vSx4) ?hoSx4 ?h1Sx4 ?h2Sx4 ?h3Sx4 ?hqSx4 (Or.inl ⟨?h4Sx4, ?hySx4⟩) (by assumption) ?restSx4
        case hoSx4 => (simp only [List.getElem?_toArray, List.getElem?_cons_zero, List.getElem?_cons_succ]; rfl)
        case h1Sx4 => kernel_rfl
        case h2Sx4 => kernel_rfl
        case h3Sx4 => kernel_rfl
        case h4Sx4 => rfl
        case hqSx4 => exact fun _ _ _ h => h
        case hySx4 => (intro w hSw; (try dsimp only at hSw); go_simp <;> with_reducible rfl)
        (try simp only [Act.put, List.setIfInBounds_toArray, List.set_cons_zero, List.set_cons_succ])
        refine wpAnyH_take (i := 5) (oi := ?oiSx5) (v := ?vSx5) ?hoSx5 ?h1Sx5 ?h2Sx5 ?h3Sx5 ?hqSx5 (Or.inl ⟨?h4Sx5, ?hySx5⟩) (by assumption) ?restSx5
        case hoSx5 => (simp only [List.getElem?_toArray, List.getElem?_cons_zero, List.getElem?_cons_succ]; rfl)
        case h1Sx5 => kernel_rfl
        case h2Sx5 => kernel_rfl
        case h3Sx5 => kernel_rfl
        case h4Sx5 => rfl
        case hqSx5 => exact fun _ _ _ h => h
        case hySx5 => (intro w hSw; (try dsimp only at hSw); go_simp <;> with_reducible rfl)
        (try simp only [Act.put, List.setIfInBounds_toArray, List.set_cons_zero, List.set_cons_succ])
        refine wpAnyH_take (i := 6) (oi := ?oiSx6) (v := ?vSx6) ?hoSx6 ?h1Sx6 ?h2Sx6 ?h3Sx6 ?hqSx6 (Or.inl ⟨?h4Sx6, ?hySx6⟩) (by assumption) ?restSx6
        case hoSx6 => (simp only [List.getElem?_toArray, List.getElem?_cons_zero, List.getElem?_cons_succ]; rfl)
        case h1Sx6 => kernel_rfl
        case h2Sx6 => kernel_rfl
        case h3Sx6 => kernel_rfl
        case h4Sx6 => rfl
        case hqSx6 => exact fun _ _ _ h => h
        case hySx6 => (intro w hSw; (try dsimp only at hSw); go_simp <;> with_reducible rfl)
        (try simp only [Act.put, List.setIfInBounds_toArray, List.set_cons_zero, List.set_cons_succ])
        refine wpAnyH_take (i := 7) (oi := ?oiSx7) (v := ?vSx7) ?hoSx7 ?h1Sx7 ?h2Sx7 ?h3Sx7 ?hqSx7 (Or.inl ⟨?h4Sx7, ?hySx7⟩) (by assumption) ?restSx7
        case hoSx7 => (simp only [List.getElem?_toArray, List.getElem?_cons_zero, List.getElem?_cons_succ]; rfl)
        case h1Sx7 => kernel_rfl
        case h2Sx7 => kernel_rfl
        case h3Sx7 => kernel_rfl
        case h4Sx7 => rfl
        case hqSx7 => exact fun _ _ _ h => h
        case hySx7 => (intro w hSw; (try dsimp only at hSw); go_simp <;> with_reducible rfl)
        (try simp only [Act.put, List.setIfInBounds_toArray, List.set_cons_zero, List.set_cons_succ])
        refine wpAnyH_take (i := 8) (oi := ?oiSx8) (v := ?vSx8) ?hoSx8 ?h1Sx8 ?h2Sx8 ?h3Sx8 ?hqSx8 (Or.inl ⟨?h4Sx8, ?hySx8⟩) (by assumption) ?restSx8
        case hoSx8 => (simp only [List.getElem?_toArray, List.getElem?_cons_zero, List.getElem?_cons_succ]; rfl)
        case h1Sx8 => kernel_rfl
        case h2Sx8 => kernel_rfl
        case h3Sx8 => kernel_rfl
        case h4Sx8 => rfl
        case hqSx8 => exact fun _ _ _ h => h
        case hySx8 => (intro w hSw; (try dsimp only at hSw); go_simp <;> with_reducible rfl)
        (try simp only [Act.put, List.setIfInBounds_toArray, List.set_cons_zero, List.set_cons_succ])
        refine wpAnyH_take (i := 9) (oi := ?oiSx9) (v := ?vSx9) ?hoSx9 ?h1Sx9 ?h2Sx9 ?h3Sx9 ?hqSx9 (Or.inl ⟨?h4Sx9, ?hySx9⟩) (by assumption) ?restSx9
        case hoSx9 => (simp only [List.getElem?_toArray, List.getElem?_cons_zero, List.getElem?_cons_succ]; rfl)
        case h1Sx9 => kernel_rfl
        case h2Sx9 => kernel_rfl
        case h3Sx9 => kernel_rfl
        case h4Sx9 => rfl
        case hqSx9 => exact fun _ _ _ h => h
        case hySx9 => (intro w hSw; (try dsimp only at hSw); go_simp <;> with_reducible rfl)
        (try simp only [Act.put, List.setIfInBounds_toArray, List.set_cons_zero, List.set_cons_succ])
        refine wpAnyH_take (i := 10) (oi := ?oiSx10) (v := ?vSx10) ?hoSx10 ?h1Sx10 ?h2Sx10 ?h3Sx10 ?hqSx10 (Or.inl ⟨?h4Sx10, ?hySx10⟩) (by assumption) ?restSx10
        case hoSx10 => (simp only [List.getElem?_toArray, List.getElem?_cons_zero, List.getElem?_cons_succ]; rfl)
        case h1Sx10 => kernel_rfl
        case h2Sx10 => kernel_rfl
        case h3Sx10 => kernel_rfl
        case h4Sx10 => rfl
        case hqSx10 => exact fun _ _ _ h => h
        case hySx10 => (intro w hSw; (try dsimp only at hSw); go_simp <;> with_reducible rfl)
        (try simp only [Act.put, List.setIfInBounds_toArray, List.set_cons_zero, List.set_cons_succ])
        refine wpAnyH_take (i := 11) (oi := ?oiSx11) (v := ?vSx11) ?hoSx11 ?h1Sx11 ?h2Sx11 ?h3Sx11 ?hqSx11 (Or.inl ⟨?h4Sx11, ?hySx11⟩) (by assumption) ?restSx11
        case hoSx11 => (simp only [List.getElem?_toArray, List.getElem?_cons_zero, List.getElem?_cons_succ]; rfl)
        case h1Sx11 => kernel_rfl
        case h2Sx11 => kernel_rfl
        case h3Sx11 => kernel_rfl
        case h4Sx11 => rfl
        case hqSx11 => exact fun _ _ _ h => h
        case hySx11 => (intro w hSw; (try dsimp only at hSw); go_simp <;> with_reducible rfl)
        (try simp only [Act.put, List.setIfInBounds_toArray, List.set_cons_zero, List.set_cons_succ])
        refine wpAnyH_take (i := 12) (oi := ?oiSx12) (v := ?vSx12) ?hoSx12 ?h1Sx12 ?h2Sx12 ?h3Sx12 ?hqSx12 (Or.inl ⟨?h4Sx12, ?hySx12⟩) (by assumption) ?restSx12
        case hoSx12 => (simp only [List.getElem?_toArray, List.getElem?_cons_zero, List.getElem?_cons_succ]; rfl)
        case h1Sx12 => kernel_rfl
        case h2Sx12 => kernel_rfl
        case h3Sx12 => kernel_rfl
        case h4Sx12 => rfl
        case hqSx12 => exact fun _ _ _ h => h
        case hySx12 => (intro w hSw; (try dsimp only at hSw); go_simp <;> with_reducible rfl)
        (try simp only [Act.put, List.setIfInBounds_toArray, List.set_cons_zero, List.set_cons_succ])
        refine wpAnyH_take (i := 13) (oi := ?oiSx13) (v := ?vSx13) ?hoSx13 ?h1Sx13 ?h2Sx13 ?h3Sx13 ?hqSx13 (Or.inl ⟨?h4Sx13, ?hySx13⟩) (by assumption) ?restSx13
        case hoSx13 => (simp only [List.getElem?_toArray, List.getElem?_cons_zero, List.getElem?_cons_succ]; rfl)
        case h1Sx13 => kernel_rfl
        case h2Sx13 => kernel_rfl
        case h3Sx13 => kernel_rfl
        case h4Sx13 => rfl
        case hqSx13 => exact fun _ _ _ h => h
        case hySx13 => (intro w hSw; (try dsimp only at hSw); go_simp <;> with_reducible rfl)
        (try simp only [Act.put, List.setIfInBounds_toArray, List.set_cons_zero, List.set_cons_succ])
        refine wpAnyH_take (i := 14) (oi := ?oiSx14) (v := ?vSx14) ?hoSx14 ?h1Sx14 ?h2Sx14 ?h3Sx14 ?hqSx14 (Or.inl ⟨?h4Sx14, ?hySx14⟩) (by assumption) ?restSx14
        case hoSx14 => (simp only [List.getElem?_toArray, List.getElem?_cons_zero, List.getElem?_cons_succ]; rfl)
        case h1Sx14 => kernel_rfl
        case h2Sx14 => kernel_rfl
        case h3Sx14 => kernel_rfl
        case h4Sx14 => rfl
        case hqSx14 => exact fun _ _ _ h => h
        case hySx14 => (intro w hSw; (try dsimp only at hSw); go_simp <;> with_reducible rfl)
        (try simp only [Act.put, List.setIfInBounds_toArray, List.set_cons_zero, List.set_cons_succ])
        refine wpAnyH_take (i := 16) (oi := ?oiSx16) (v := ?vSx16) ?hoSx16 ?h1Sx16 ?h2Sx16 ?h3Sx16 ?hqSx16 (Or.inl ⟨?h4Sx16, ?hySx16⟩) (by assumption) ?restSx16
        case hoSx16 => (simp only [List.getElem?_toArray, List.getElem?_cons_zero, List.getElem?_cons_succ]; rfl)
        case h1Sx16 => kernel_rfl
        case h2Sx16 => kernel_rfl
        case h3Sx16 => kernel_rfl
        case h4Sx16 => rfl
        case hqSx16 => exact fun _ _ _ h => h
        case hySx16 => (intro w hSw; (try dsimp only at hSw); go_simp <;> with_reducible rfl)
        (try simp only [Act.put, List.setIfInBounds_toArray, List.set_cons_zero, List.set_cons_succ])
        refine wpAnyH_take (i := 17) (oi := ?oiSx17) (v := ?vSx17) ?hoSx17 ?h1Sx17 ?h2Sx17 ?h3Sx17 ?hqSx17 (Or.inl ⟨?h4Sx17, ?hySx17⟩) (by assumption) ?restSx17
        case hoSx17 => (simp only [List.getElem?_toArray, List.getElem?_cons_zero, List.getElem?_cons_succ]; rfl)
        case h1Sx17 => kernel_rfl
        case h2Sx17 => kernel_rfl
        case h3Sx17 => kernel_rfl
        case h4Sx17 => rfl
        case hqSx17 => exact fun _ _ _ h => h
        case hySx17 => (intro w hSw; (try dsimp only at hSw); go_simp <;> with_reducible rfl)
        (try simp only [Act.put, List.setIfInBounds_toArray, List.set_cons_zero, List.set_cons_succ])
        refine wpAnyH_ready (rs := [15]) (by kernel_rfl) (by simp) ?_
        refine AllReadyH.cons (o := ?oiSx15) ?hoSx15 (fun K hK => ?restSx15) ?moreSx15
        case moreSx15 => exact AllReadyH.nil
        case hoSx15 => (simp only [List.getElem?_toArray, List.getElem?_cons_zero, List.getElem?_cons_succ]; rfl)
        go_simp
        refine (Hct.out 0 (by decide) _ hBd).mono ?_
        rintro e w' ⟨rfl, hY1⟩
        have hX1 := hBd.trans (hY1.mono hBd.size)
        clear hY1
        try go_wp2_with fail
        refine hK.out _ _ ?hSnewSy15 (fun hHeld => ?restSy15)
        case hSnewSy15 => ((try dsimp only); exact HS.out _ hX1)
        clear hK K
        (try simp only [Act.put, List.setIfInBounds_toArray, List.set_cons_zero, List.set_cons_succ])
        refine wpAnyH_take (i := 18) (oi := ?oiSx18) (v := ?vSx18) ?hoSx18 ?h1Sx18 ?h2Sx18 ?h3Sx18 ?hqSx18 (Or.inl ⟨?h4Sx18, ?hySx18⟩) (by assumption) ?restSx18
        case hoSx18 => (simp only [List.getElem?_toArray, List.getElem?_cons_zero, List.getElem?_cons_succ]; rfl)
        case h1Sx18 => kernel_rfl
        case h2Sx18 => kernel_rfl
        case h3Sx18 => kernel_rfl
        case h4Sx18 => rfl
        case hqSx18 => exact fun _ _ _ h => h
        case hySx18 => (intro w hSw; (try dsimp only at hSw); go_simp <;> with_reducible rfl)
        (try simp only [Act.put, List.setIfInBounds_toArray, List.set_cons_zero, List.set_cons_succ])
        refine wpAnyH_take (i := 19) (oi := ?oiSx19) (v := ?vSx19) ?hoSx19 ?h1Sx19 ?h2Sx19 ?h3Sx19 ?hqSx19 (Or.inl ⟨?h4Sx19, ?hySx19⟩) (by assumption) ?restSx19
        case hoSx19 => (simp only [List.getElem?_toArray, List.getElem?_cons_zero, List.getElem?_cons_succ]; rfl)
        case h1Sx19 => kernel_rfl
        case h2Sx19 => kernel_rfl
        case h3Sx19 => kernel_rfl
        case h4Sx19 => rfl
        case hqSx19 => exact fun _ _ _ h => h
        case hySx19 => (intro w hSw; (try dsimp only at hSw); go_simp <;> with_reducible rfl)
        (try simp only [Act.put, List.setIfInBounds_toArray, List.set_cons_zero, List.set_cons_succ])
        refine wpAnyH_take (i := 20) (oi := ?oiSx20) (v := ?vSx20) ?hoSx20 ?h1Sx20 ?h2Sx20 ?h3Sx20 ?hqSx20 (Or.inl ⟨?h4Sx20, ?hySx20⟩) (by assumption) ?restSx20
        case hoSx20 => (simp only [List.getElem?_toArray, List.getElem?_cons_zero, List.getElem?_cons_succ]; rfl)
        case h1Sx20 => kernel_rfl
        case h2Sx20 => kernel_rfl
        case h3Sx20 => kernel_rfl
        case h4Sx20 => rfl
        case hqSx20 => exact fun _ _ _ h => h
        case hySx20 => (intro w hSw; (try dsimp only at hSw); go_simp <;> with_reducible rfl)
        (try simp only [Act.put, List.setIfInBounds_toArray, List.set_cons_zero, List.set_cons_succ])
        refine wpAnyH_take (i := 21) (oi := ?oiSx21) (v := ?vSx21) ?hoSx21 ?h1Sx21 ?h2Sx21 ?h3Sx21 ?hqSx21 (Or.inl ⟨?h4Sx21, ?hySx21⟩) (by assumption) ?restSx21
        case hoSx21 => (simp only [List.getElem?_toArray, List.getElem?_cons_zero, List.getElem?_cons_succ]; rfl)
        case h1Sx21 => kernel_rfl
        case h2Sx21 => kernel_rfl
        case h3Sx21 => kernel_rfl
        case h4Sx21 => rfl
        case hqSx21 => exact fun _ _ _ h => h
        case hySx21 => (intro w hSw; (try dsimp only at hSw); go_simp <;> with_reducible rfl)
        (try simp only [Act.put, List.setIfInBounds_toArray, List.set_cons_zero, List.set_cons_succ])
        refine wpAnyH_take (i := 23) (oi := ?oiSx23) (v := ?vSx23) ?hoSx23 ?h1Sx23 ?h2Sx23 ?h3Sx23 ?hqSx23 (Or.inl ⟨?h4Sx23, ?hySx23⟩) (by assumption) ?restSx23
        case hoSx23 => (simp only [List.getElem?_toArray, List.getElem?_cons_zero, List.getElem?_cons_succ]; rfl)
        case h1Sx23 => kernel_rfl
        case h2Sx23 => kernel_rfl
        case h3Sx23 => kernel_rfl
        case h4Sx23 => rfl
        case hqSx23 => exact fun _ _ _ h => h
        case hySx23 => (intro w hSw; (try dsimp only at hSw); go_simp <;> with_reducible rfl)
        (try simp only [Act.put, List.setIfInBounds_toArray, List.set_cons_zero, List.set_cons_succ])
        refine wpAnyH_take (i := 24) (oi := ?oiSx24) (v := ?vSx24) ?hoSx24 ?h1Sx24 ?h2Sx24 ?h3Sx24 ?hqSx24 (Or.inl ⟨?h4Sx24, ?hySx24⟩) (by assumption) ?restSx24
        case hoSx24 => (simp only [List.getElem?_toArray, List.getElem?_cons_zero, List.getElem?_cons_succ]; rfl)
        case h1Sx24 => kernel_rfl
        case h2Sx24 => kernel_rfl
        case h3Sx24 => kernel_rfl
        case h4Sx24 => rfl
        case hqSx24 => exact fun _ _ _ h => h
        case hySx24 => (intro w hSw; (try dsimp only at hSw); go_simp <;> with_reducible rfl)
        (try simp only [Act.put, List.setIfInBounds_toArray, List.set_cons_zero, List.set_cons_succ])
        refine wpAnyH_ready (rs := [22]) (by kernel_rfl) (by simp) ?_
        refine AllReadyH.cons (o := ?oiSx22) ?hoSx22 (fun K hK => ?restSx22) ?moreSx22
        case moreSx22 => exact AllReadyH.nil
        case hoSx22 => (simp only [List.getElem?_toArray, List.getElem?_cons_zero, List.getElem?_cons_succ]; rfl)
        go_simp
        refine (Hct.out 1 (by decide) _ hX1).mono ?_
        rintro e w' ⟨rfl, hY2⟩
        have hX2 := hX1.trans (hY2.mono hX1.size)
        clear hY2
        try go_wp2_with fail
        refine hK.out _ _ ?hSnewSy22 (fun hHeld => ?restSy22)
        case hSnewSy22 => ((try dsimp only); exact HS.out _ hX2)
        clear hK K
        (try simp only [Act.put, List.setIfInBounds_toArray, List.set_cons_zero, List.set_cons_succ])
        refine wpAnyH_take (i := 25) (oi := ?oiSx25) (v := ?vSx25) ?hoSx25 ?h1Sx25 ?h2Sx25 ?h3Sx25 ?hqSx25 (Or.inl ⟨?h4Sx25, ?hySx25⟩) (by assumption) ?restSx25
        case hoSx25 => (simp only [List.getElem?_toArray, List.getElem?_cons_zero, List.getElem?_cons_succ]; rfl)
        case h1Sx25 => kernel_rfl
        case h2Sx25 => kernel_rfl
        case h3Sx25 => kernel_rfl
        case h4Sx25 => rfl
        case hqSx25 => exact fun _ _ _ h => h
        case hySx25 => (intro w hSw; (try dsimp only at hSw); go_simp <;> with_reducible rfl)
        (try simp only [Act.put, List.setIfInBounds_toArray, List.set_cons_zero, List.set_cons_succ])
        refine wpAnyH_take (i := 26) (oi := ?oiSx26) (v := ?vSx26) ?hoSx26 ?h1Sx26 ?h2Sx26 ?h3Sx26 ?hqSx26 (Or.inl ⟨?h4Sx26, ?hySx26⟩) (by assumption) ?restSx26
        case hoSx26 => (simp only [List.getElem?_toArray, List.getElem?_cons_zero, List.getElem?_cons_succ]; rfl)
        case h1Sx26 => kernel_rfl
        case h2Sx26 => kernel_rfl
        case h3Sx26 => kernel_rfl
        case h4Sx26 => rfl
        case hqSx26 => exact fun _ _ _ h => h
        case hySx26 => (intro w hSw; (try dsimp only at hSw); go_simp <;> with_reducible rfl)
        (try simp only [Act.put, List.setIfInBounds_toArray, List.set_cons_zero, List.set_cons_succ])
        refine wpAnyH_take (i := 27) (oi := ?oiSx27) (v := ?vSx27) ?hoSx27 ?h1Sx27 ?h2Sx27 ?h3Sx27 ?hqSx27 (Or.inl ⟨?h4Sx27, ?hySx27⟩) (by assumption) ?restSx27
        case hoSx27 => (simp only [List.getElem?_toArray, List.getElem?_cons_zero, List.getElem?_cons_succ]; rfl)
        case h1Sx27 => kernel_rfl
        case h2Sx27 => kernel_rfl
        case h3Sx27 => kernel_rfl
        case h4Sx27 => rfl
        case hqSx27 => exact fun _ _ _ h => h
        case hySx27 => (intro w hSw; (try dsimp only at hSw); go_simp <;> with_reducible rfl)
        (try simp only [Act.put, List.setIfInBounds_toArray, List.set_cons_zero, List.set_cons_succ])
        refine wpAnyH_take (i := 28) (oi := ?oiSx28) (v := ?vSx28) ?hoSx28 ?h1Sx28 ?h2Sx28 ?h3Sx28 ?hqSx28 (Or.inl ⟨?h4Sx28, ?hySx28⟩) (by assumption) ?restSx28
        case hoSx28 => (simp only [List.getElem?_toArray, List.getElem?_cons_zero, List.getElem?_cons_succ]; rfl)
        case h1Sx28 => kernel_rfl
        case h2Sx28 => kernel_rfl
        case h3Sx28 => kernel_rfl
        case h4Sx28 => rfl
        case hqSx28 => exact fun _ _ _ h => h
        case hySx28 => (intro w hSw; (try dsimp only at hSw); go_simp <;> with_reducible rfl)
        (try simp only [Act.put, List.setIfInBounds_toArray, List.set_cons_zero, List.set_cons_succ])
        refine wpAnyH_take (i := 30) (oi := ?oiSx30) (v := ?vSx30) ?hoSx30 ?h1Sx30 ?h2Sx30 ?h3Sx30 ?hqSx30 (Or.inl ⟨?h4Sx30, ?hySx30⟩) (by assumption) ?restSx30
        case hoSx30 => (simp only [List.getElem?_toArray, List.getElem?_cons_zero, List.getElem?_cons_succ]; rfl)
        case h1Sx30 => kernel_rfl
        case h2Sx30 => kernel_rfl
        case h3Sx30 => kernel_rfl
        case h4Sx30 => rfl
        case hqSx30 => exact fun _ _ _ h => h
        case hySx30 => (intro w hSw; (try dsimp only at hSw); go_simp <;> with_reducible rfl)
        (try simp only [Act.put, List.setIfInBounds_toArray, List.set_cons_zero, List.set_cons_succ])
        refine wpAnyH_take (i := 31) (oi := ?oiSx31) (v := ?vSx31) ?hoSx31 ?h1Sx31 ?h2Sx31 ?h3Sx31 ?hqSx31 (Or.inl ⟨?h4Sx31, ?hySx31⟩) (by assumption) ?restSx31
        case hoSx31 => (simp only [List.getElem?_toArray, List.getElem?_cons_zero, List.getElem?_cons_succ]; rfl)
        case h1Sx31 => kernel_rfl
        case h2Sx31 => kernel_rfl
        case h3Sx31 => kernel_rfl
        case h4Sx31 => rfl
        case hqSx31 => exact fun _ _ _ h => h
        case hySx31 => (intro w hSw; (try dsimp only at hSw); go_simp <;> with_reducible rfl)
        (try simp only [Act.put, List.setIfInBounds_toArray, List.set_cons_zero, List.set_cons_succ])
        refine wpAnyH_ready (rs := [29]) (by kernel_rfl) (by simp) ?_
        refine AllReadyH.cons (o := ?oiSx29) ?hoSx29 (fun K hK => ?restSx29) ?moreSx29
        case moreSx29 => exact AllReadyH.nil
        case hoSx29 => (simp only [List.getElem?_toArray, List.getElem?_cons_zero, List.getElem?_cons_succ]; rfl)
        go_simp
        refine (Hct.out 2 (by decide) _ hX2).mono ?_
        rintro e w' ⟨rfl, hY3⟩
        have hX3 := hX2.trans (hY3.mono hX2.size)
        clear hY3
        try go_wp2_with fail
        refine hK.out _ _ ?hSnewSy29 (fun hHeld => ?restSy29)
        case hSnewSy29 => ((try dsimp only); exact HS.out _ hX3)
        clear hK K
        (try simp only [Act.put, List.setIfInBounds_toArray, List.set_cons_zero, List.set_cons_succ])
        refine wpAnyH_take (i := 32) (oi := ?oiSx32) (v := ?vSx32) ?hoSx32 ?h1Sx32 ?h2Sx32 ?h3Sx32 ?hqSx32 (Or.inl ⟨?h4Sx32, ?hySx32⟩) (by assumption) ?restSx32
        case hoSx32 => (simp only [List.getElem?_toArray, List.getElem?_cons_zero, List.getElem?_cons_succ]; rfl)
        case h1Sx32 => kernel_rfl
        case h2Sx32 => kernel_rfl
        case h3Sx32 => kernel_rfl
        case h4Sx32 => rfl
        case hqSx32 => exact fun _ _ _ h => h
        case hySx32 => (intro w hSw; (try dsimp only at hSw); go_simp <;> with_reducible rfl)
        (try simp only [Act.put, List.setIfInBounds_toArray, List.set_cons_zero, List.set_cons_succ])
        refine wpAnyH_take (i := 33) (oi := ?oiSx33) (v := ?vSx33) ?hoSx33 ?h1Sx33 ?h2Sx33 ?h3Sx33 ?hqSx33 (Or.inl ⟨?h4Sx33, ?hySx33⟩) (by assumption) ?restSx33
        case hoSx33 => (simp only [List.getElem?_toArray, List.getElem?_cons_zero, List.getElem?_cons_succ]; rfl)
        case h1Sx33 => kernel_rfl
        case h2Sx33 => kernel_rfl
        case h3Sx33 => kernel_rfl
        case h4Sx33 => rfl
        case hqSx33 => exact fun _ _ _ h => h
        case hySx33 => (intro w hSw; (try dsimp only at hSw); go_simp <;> with_reducible rfl)
        (try simp only [Act.put, List.setIfInBounds_toArray, List.set_cons_zero, List.set_cons_succ])
        refine wpAnyH_take (i := 34) (oi := ?oiSx34) (v := ?vSx34) ?hoSx34 ?h1Sx34 ?h2Sx34 ?h3Sx34 ?hqSx34 (Or.inl ⟨?h4Sx34, ?hySx34⟩) (by assumption) ?restSx34
        case hoSx34 => (simp only [List.getElem?_toArray, List.getElem?_cons_zero, List.getElem?_cons_succ]; rfl)
        case h1Sx34 => kernel_rfl
        case h2Sx34 => kernel_rfl
        case h3Sx34 => kernel_rfl
        case h4Sx34 => rfl
        case hqSx34 => exact fun _ _ _ h => h
        case hySx34 => (intro w hSw; (try dsimp only at hSw); go_simp <;> with_reducible rfl)
        (try simp only [Act.put, List.setIfInBounds_toArray, List.set_cons_zero, List.set_cons_succ])
        refine wpAnyH_take (i := 35) (oi := ?oiSx35) (v := ?vSx35) ?hoSx35 ?h1Sx35 ?h2Sx35 ?h3Sx35 ?hqSx35 (Or.inl ⟨?h4Sx35, ?hySx35⟩) (by assumption) ?restSx35
        case hoSx35 => (simp only [List.getElem?_toArray, List.getElem?_cons_zero, List.getElem?_cons_succ]; rfl)
        case h1Sx35 => kernel_rfl
        case h2Sx35 => kernel_rfl
        case h3Sx35 => kernel_rfl
        case h4Sx35 => rfl
        case hqSx35 => exact fun _ _ _ h => h
        case hySx35 => (intro w hSw; (try dsimp only at hSw); go_simp <;> with_reducible rfl)
        (try simp only [Act.put, List.setIfInBounds_toArray, List.set_cons_zero, List.set_cons_succ])
        refine wpAnyH_take (i := 37) (oi := ?oiSx37) (v := ?vSx37) ?hoSx37 ?h1Sx37 ?h2Sx37 ?h3Sx37 ?hqSx37 (Or.inl ⟨?h4Sx37, ?hySx37⟩) (by assumption) ?restSx37
        case hoSx37 => (simp only [List.getElem?_toArray, List.getElem?_cons_zero, List.getElem?_cons_succ]; rfl)
        case h1Sx37 => kernel_rfl
        case h2Sx37 => kernel_rfl
        case h3Sx37 => kernel_rfl
        case h4Sx37 => rfl
        case hqSx37 => exact fun _ _ _ h => h
        case hySx37 => (intro w hSw; (try dsimp only at hSw); go_simp <;> with_reducible rfl)
        (try simp only [Act.put, List.setIfInBounds_toArray, List.set_cons_zero, List.set_cons_succ])
        refine wpAnyH_take (i := 38) (oi := ?oiSx38) (v := ?vSx38) ?hoSx38 ?h1Sx38 ?h2Sx38 ?h3Sx38 ?hqSx38 (Or.inl ⟨?h4Sx38, ?hySx38⟩) (by assumption) ?restSx38
        case hoSx38 => (simp only [List.getElem?_toArray, List.getElem?_cons_zero, List.getElem?_cons_succ]; rfl)
        case h1Sx38 => kernel_rfl
        case h2Sx38 => kernel_rfl
        case h3Sx38 => kernel_rfl
        case h4Sx38 => rfl
        case hqSx38 => exact fun _ _ _ h => h
        case hySx38 => (intro w hSw; (try dsimp only at hSw); go_simp <;> with_reducible rfl)
        (try simp only [Act.put, List.setIfInBounds_toArray, List.set_cons_zero, List.set_cons_succ])
        refine wpAnyH_ready (rs := [36]) (by kernel_rfl) (by simp) ?_
        refine AllReadyH.cons (o := ?oiSx36) ?hoSx36 (fun K hK => ?restSx36) ?moreSx36
        case moreSx36 => exact AllReadyH.nil
        case hoSx36 => (simp only [List.getElem?_toArray, List.getElem?_cons_zero, List.getElem?_cons_succ]; rfl)
        go_simp
        refine (Hct.out 3 (by decide) _ hX3).mono ?_
        rintro e w' ⟨rfl, hY4⟩
        have hX4 := hX3.trans (hY4.mono hX3.size)
        clear hY4
        try go_wp2_with fail
        refine hK.out _ _ ?hSnewSy36 (fun hHeld => ?restSy36)
        case hSnewSy36 => ((try dsimp only); exact HS.out _ hX4)
        clear hK K
        (try simp only [Act.put, List.setIfInBounds_toArray, List.set_cons_zero, List.set_cons_succ])
        refine wpAnyH_take (i := 39) (oi := ?oiSx39) (v := ?vSx39) ?hoSx39 ?h1Sx39 ?h2Sx39 ?h3Sx39 ?hqSx39 (Or.inl ⟨?h4Sx39, ?hySx39⟩) (by assumption) ?restSx39
        case hoSx39 => (simp only [List.getElem?_toArray, List.getElem?_cons_zero, List.getElem?_cons_succ]; rfl)
        case h1Sx39 => kernel_rfl
        case h2Sx39 => kernel_rfl
        case h3Sx39 => kernel_rfl
        case h4Sx39 => rfl
        case hqSx39 => exact fun _ _ _ h => h
        case hySx39 => (intro w hSw; (try dsimp only at hSw); go_simp <;> with_reducible rfl)
        (try simp only [Act.put, List.setIfInBounds_toArray, List.set_cons_zero, List.set_cons_succ])
        refine wpAnyH_take (i := 40) (oi := ?oiSx40) (v := ?vSx40) ?hoSx40 ?h1Sx40 ?h2Sx40 ?h3Sx40 ?hqSx40 (Or.inl ⟨?h4Sx40, ?hySx40⟩) (by assumption) ?restSx40
        case hoSx40 => (simp only [List.getElem?_toArray, List.getElem?_cons_zero, List.getElem?_cons_succ]; rfl)
        case h1Sx40 => kernel_rfl
        case h2Sx40 => kernel_rfl
        case h3Sx40 => kernel_rfl
        case h4Sx40 => rfl
        case hqSx40 => exact fun _ _ _ h => h
        case hySx40 => (intro w hSw; (try dsimp only at hSw); go_simp <;> with_reducible rfl)
        (try simp only [Act.put, List.setIfInBounds_toArray, List.set_cons_zero, List.set_cons_succ])
        refine wpAnyH_take (i := 41) (oi := ?oiSx41) (v := ?vSx41) ?hoSx41 ?h1Sx41 ?h2Sx41 ?h3Sx41 ?hqSx41 (Or.inl ⟨?h4Sx41, ?hySx41⟩) (by assumption) ?restSx41
        case hoSx41 => (simp only [List.getElem?_toArray, List.getElem?_cons_zero, List.getElem?_cons_succ]; rfl)
        case h1Sx41 => kernel_rfl
        case h2Sx41 => kernel_rfl
        case h3Sx41 => kernel_rfl
        case h4Sx41 => rfl
        case hqSx41 => exact fun _ _ _ h => h
        case hySx41 => (intro w hSw; (try dsimp only at hSw); go_simp <;> with_reducible rfl)
        (try simp only [Act.put, List.setIfInBounds_toArray, List.set_cons_zero, List.set_cons_succ])
        refine wpAnyH_done (by kernel_rfl) ?_ _
        clear Hct HS e0 e1 e2 e3
        go_wp2
        go_ret
        exact ⟨rfl, hBw.trans (hX4.mono hBw.size)⟩
end Go.Proofs.Ytnlidokfmpfepaa.Pool
