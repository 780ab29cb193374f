import Derived.Test.YtcfildbgnjhjmaaNandRead
import Derived.Laws.MakeOwn
set_option linter.unusedVariables false
set_option linter.unusedSimpArgs false
namespace Go.Proofs.Ytcfildbgnjhjmaa.Nand
open Go.RowKit Go.Proofs.Ytcfildbgnjhjmaa.Kit

theorem newA_len (n p : Nat) (bad : List Int) : (newA n p bad).bs.length = n := by simp [newA]
theorem newA_blk (n p : Nat) (bad : List Int) (i : Nat) (h : i < n) : (newA n p bad).blk i = newB (decide ((i : Int) ∈ bad)) := by
  unfold NA.blk newA
  simp only
  rw [List.getD_eq_getElem?_getD, List.getElem?_map, List.getElem?_range h]
  rfl
theorem newA_snoc (n p : Nat) (bad : List Int) (x : Nat) (h : x < n) : (newA n p bad).setB x { (newA n p bad).blk x with dead := true, failed := true } = newA n p (bad ++ [(x : Int)]) := by
  unfold NA.setB
  rw [newA_blk n p bad x h]
  unfold newA
  simp only
  congr 1
  refine List.ext_getElem (by simp) (fun j h1 h2 => ?_)
  have hj : j < n := by simpa using h2
  rw [List.getElem_set]
  simp only [List.getElem_map, List.getElem_range]
  by_cases e : x = j
  · subst e
    rw [if_pos rfl]
    unfold newB
    simp
  · rw [if_neg e]
    congr 1
    have e2 : ((j : Int) ∈ bad ++ [(x : Int)]) ↔ ((j : Int) ∈ bad) := by
      rw [List.mem_append, List.mem_singleton]
      constructor
      · rintro (h | h)
        · exact h
        · omega
      · exact .inl
    simp only [e2]
theorem newA_wf (n p : Nat) (bad : List Int) (hn : 1 ≤ n ∧ n ≤ 64) (hp : 1 ≤ p ∧ p ≤ 32) : (newA n p bad).Wf := by
  refine ⟨by rw [newA_len]; exact hn, hp, fun i hi => ?_, (fun u hu => nomatch hu), Nat.zero_le _, fun i hi => ?_⟩
  · rw [newA_len] at hi
    rw [newA_blk n p bad i hi]
    exact Nat.zero_le _
  · rw [newA_len] at hi
    rw [newA_blk n p bad i hi]
    exact Nat.zero_le _
def zB : Array Value := #[.slice none 0 0, .int .i64 0, .bool false, .bool false, .bool false, .int .i64 0]
def newF (w w' : World) : Nat → Prop := fun g => w.heap.size ≤ g ∧ g < w'.heap.size
theorem newAR (w W : World) (n p : Nat) (hn : 1 ≤ n ∧ n ≤ 64) (hp : 1 ≤ p ∧ p ≤ 32) (hg : Blk W w.heap.size (madeCells zB (n * 6)) 99) (hb : Blk W (w.heap.size + 1) (hdOf w.heap.size (newA n p []) .nilFunc) 96) : AR W (newF w W) (w.heap.size + 1) w.heap.size (fun _ => .slice none 0 0) .nilFunc (newA n p []) := by
  have h1 := hg.lt
  have h2 := hb.lt
  refine ⟨hb, ⟨_, hg, by rw [newA_len]; simp [size_madeCells], fun i hi k v hv => ?_⟩, fun i hi => ?_, fun i j _ _ _ g hg => (nomatch hg), rfl, ⟨by omega, h2⟩, ⟨Nat.le_refl _, h1⟩, fun g hg => hg.2, newA_wf n p [] hn hp⟩
  · rw [newA_len] at hi
    have hk := recOf_lt hv
    rw [show (newA n p []).bs.getD i default = (newA n p []).blk i from rfl, newA_blk n p [] i hi] at hv
    have hsz : i * 6 + k < n * 6 := by omega
    have : (madeCells zB (n * 6))[i * 6 + k]? = some ((recOf (.slice none 0 0) (newB false))[k]'(by exact hk)) := by
      rw [Array.getElem?_eq_getElem (by simp [size_madeCells]; exact hsz)]
      congr 1
      have hm : (i * 6 + k) % 6 = k := by omega
      have hz6 : zB.size = 6 := rfl
      have : k = 0 ∨ k = 1 ∨ k = 2 ∨ k = 3 ∨ k = 4 ∨ k = 5 := by omega
      rcases this with rfl | rfl | rfl | rfl | rfl | rfl <;> simp [madeCells, hz6, hm, zB, recOf, newB]
    rw [this]
    rw [← hv]
    simp only [List.not_mem_nil, decide_false]
    exact (List.getElem?_eq_getElem hk).symm
  · rw [newA_len] at hi
    rw [newA_blk n p [] i hi]
    exact nilPages _ _

set_option maxRecDepth 100000 in
set_option maxHeartbeats 8000000 in
theorem new_any (nb pg : Nat) (A : Option Addr) (m c : Nat) (bad : List Int) (w : World) (hn : 1 ≤ nb ∧ nb ≤ 64) (hp : 1 ≤ pg ∧ pg ≤ 32) (hz : Nums w .i64 A m bad) (hbad : ∀ x ∈ bad, 0 ≤ x ∧ x < (nb : Int)) :
    Calls Try.prog 14 #[.int .i64 (nb : Int), .int .i64 (pg : Int), .slice A m c] w fun e w' => ∃ b, e = .returned (.tuple #[.pointer (some ⟨b, 0, none⟩), .int .i64 0]) ∧ Arr w' (newF w w') b (newA nb pg bad) ∧ Below w.heap.size w w' := by
  obtain ⟨i0, hi0, hz0⟩ : ∃ i : TypeInfo, Try.prog.info? 99 = some i ∧ i.zero = some (.agg zB) ∧ i.size = 6 ∧ i.bytes ≤ 64 := ⟨_, rfl, rfl, rfl, by decide⟩
  have m0 : ∀ W : World, (Instr.makeSlice 93 (.int .i64 (nb : Int)) (.int .i64 (nb : Int))).run Try.prog W = .ok (.slice (some ⟨W.heap.size, 0, none⟩) nb nb) (W.alloc (.cells (madeCells zB (nb * 6)) 99)) := fun W => by
    have := run_make (P := Try.prog) W 93 99 i0 _ Try.underlying93 hi0 hz0.1 .i64 .i64 (nb : Int) (nb : Int) (by omega) (Int.le_refl _) (by have := hz0.2.2; have h2 : (i0.bytes : Int) * (nb : Int) ≤ 64 * 64 := Int.mul_le_mul (by omega) (by omega) (by omega) (by omega); omega) (by omega)
    rw [hz0.2.1, Int.toNat_natCast] at this
    exact this
  clear hi0 hz0
  have h1 : (1 : Int) ≤ (nb : Int) := by omega
  have h2 : (nb : Int) ≤ 64 := by omega
  have h3 : (1 : Int) ≤ (pg : Int) := by omega
  have h4 : (pg : Int) ≤ 32 := by omega
  have hm := hz.most
  have Hl := hid hz.len
  have Hz := hid hz
  have HAR := hid (newAR w)
  have Hbad := hid hbad
  clear hz hbad
  go_enter Try.func14, Try.ntmps14
  go_upto_region 4 with (fail)
  obtain ⟨gb, hgb⟩ : ∃ g, w.heap.size = g := ⟨_, rfl⟩
  obtain ⟨zz, hzz⟩ : ∃ z, madeCells zB (nb * 6) = z := ⟨_, rfl⟩
  obtain ⟨w2, hw2⟩ : ∃ W, (w.alloc (.cells (madeCells zB (nb * 6)) 99)).alloc (.cells (hdOf w.heap.size (newA nb pg []) .nilFunc) 96) = W := ⟨_, rfl⟩
  have hA2 : AR w2 (newF w w2) (w.heap.size + 1) w.heap.size (fun _ => .slice none 0 0) .nilFunc (newA nb pg []) := by
    rw [← hw2]
    refine HAR.out _ nb pg hn hp ((Blk.new w _ _).alloc _) ?_
    have := Blk.new (w.alloc (.cells (madeCells zB (nb * 6)) 99)) (hdOf w.heap.size (newA nb pg []) .nilFunc) 96
    simpa using this
  have hB2 : Below w.heap.size w w2 := by rw [← hw2]; exact ((Below.refl _ _).alloc (Nat.le_refl _) _).alloc (by simp) _
  have hgoal : (w.alloc (.cells (madeCells zB (nb * 6)) 99)).alloc (.cells #[.slice (some ⟨w.heap.size, 0, none⟩) nb nb, .int .i64 (pg : Int), .int .u64 0, .int .i64 0, .int .i64 0, .bool false, .int .i64 0, .nilFunc] 96) = w2 := by
    rw [← hw2]
    unfold hdOf
    rw [newA_len]
    rfl
  rw [hgoal]
  clear hgoal hw2 hzz m0
  rw [hgb] at hA2 ⊢
  have Hgb := hid hgb
  clear hgb
  obtain ⟨b, hb⟩ : ∃ b, gb + 1 = b := ⟨_, rfl⟩
  rw [hb] at hA2 ⊢
  clear hb
  go_wp2
  go_loopw [32] (fun i w' => ∃ k : Nat, k ≤ m ∧ i = .int .i64 (k : Int) ∧ AR w' (newF w w') b gb (fun _ => .slice none 0 0) .nilFunc (newA nb pg (bad.take k)) ∧ Below w.heap.size w w') (fun i _ => m - (intOf i).toNat)
  case atStart => exact ⟨0, by omega, rfl, hA2, hB2⟩
  case round =>
    clear hA2 hB2
    obtain ⟨k, hk, rfl, hA, hB⟩ := hrel
    by_cases hlt : k < m
    · obtain ⟨bz, oz, rfl, hcz⟩ := (Hz.out.below hB).at_ k hlt
      have hmem : bad.getD k 0 ∈ bad := by
        rw [List.getD_eq_getElem?_getD, List.getElem?_eq_getElem (by rw [Hl.out]; exact hlt)]
        exact List.getElem_mem _
      obtain ⟨hx0, hx1⟩ := Hbad.out _ hmem
      obtain ⟨x, hx⟩ := Int.eq_ofNat_of_zero_le hx0
      have htk : bad.take (k + 1) = bad.take k ++ [(x : Int)] := by
        rw [List.take_succ_eq_append_getElem (by rw [Hl.out]; exact hlt), ← hx, List.getD_eq_getElem?_getD, List.getElem?_eq_getElem (by rw [Hl.out]; exact hlt)]
        rfl
      rw [hx] at hcz hx1
      have hxn : x < nb := by omega
      have hxl : x < (newA nb pg (bad.take k)).bs.length := by rw [newA_len]; exact hxn
      have k0 : wr.cell? ⟨b, 0, none⟩ = some (.slice (some ⟨gb, 0, none⟩) nb nb) := by
        have := hA.hd.cell 0
        rw [show (hdOf gb (newA nb pg (bad.take k)) Value.nilFunc)[0]? = some (.slice (some ⟨gb, 0, none⟩) (newA nb pg (bad.take k)).bs.length (newA nb pg (bad.take k)).bs.length) from rfl, newA_len] at this
        exact this
      obtain ⟨-, -, -, d3, d4, -⟩ := hA.recs x hxl
      rw [newA_blk nb pg _ x hxn] at d3 d4
      have f3 := hA.row.free (x * 6 + 3)
      have f4 := hA.row.free (x * 6 + 4)
      generalize hdv : decide ((x : Int) ∈ bad.take k) = dv at d3 d4
      have d3 : wr.cell? ⟨gb, x * 6 + 3, none⟩ = some (.bool dv) := d3
      have d4 : wr.cell? ⟨gb, x * 6 + 4, none⟩ = some (.bool dv) := d4
      have wfx : ∀ y : NB, y.pages = [] → y.doom = 0 → ((newA nb pg (bad.take k)).setB x y).Wf := fun y h1 h2 => hA.wf.setB x y hxl (by rw [h1, newA_blk nb pg _ x hxn]; rfl) (by rw [h2]; exact Nat.zero_le _)
      have hA1 := hA.setRec x 3 (.bool true) { (newA nb pg (bad.take k)).blk x with dead := true } hxl (by decide) rfl rfl (wfx _ (by rw [newA_blk nb pg _ x hxn]; rfl) (by rw [newA_blk nb pg _ x hxn]; rfl))
      have hA2 := hA1.setRec x 4 (.bool true) { (newA nb pg (bad.take k)).blk x with dead := true, failed := true } (by rw [len_set]; exact hxl) (by decide) (by rw [blk_set _ _ _ hxl, if_pos rfl]; rfl) (by rw [blk_set _ _ _ hxl, if_pos rfl]) (by rw [setB_setB]; exact wfx _ (by rw [newA_blk nb pg _ x hxn]; rfl) (by rw [newA_blk nb pg _ x hxn]; rfl))
      rw [setB_setB, newA_snoc nb pg _ x hxn, ← htk] at hA2
      have HS1 := hid (show (wr.setCell ⟨gb, x * 6 + 3, none⟩ (.bool true)).cell? ⟨b, 0, none⟩ = some (.slice (some ⟨gb, 0, none⟩) nb nb) from by
        have := hA1.hd.cell 0
        rw [show (hdOf gb ((newA nb pg (bad.take k)).setB x { (newA nb pg (bad.take k)).blk x with dead := true }) Value.nilFunc)[0]? = some (.slice (some ⟨gb, 0, none⟩) ((newA nb pg (bad.take k)).setB x { (newA nb pg (bad.take k)).blk x with dead := true }).bs.length ((newA nb pg (bad.take k)).setB x { (newA nb pg (bad.take k)).blk x with dead := true }).bs.length) from rfl, len_set, newA_len] at this
        exact this)
      have HS2 := hid (show ((wr.setCell ⟨gb, x * 6 + 3, none⟩ (.bool true)).setCell ⟨gb, x * 6 + 4, none⟩ (.bool true)).cell? ⟨b, 0, none⟩ = some (.slice (some ⟨gb, 0, none⟩) nb nb) from by
        have := hA2.hd.cell 0
        rw [show (hdOf gb (newA nb pg (bad.take (k + 1))) Value.nilFunc)[0]? = some (.slice (some ⟨gb, 0, none⟩) (newA nb pg (bad.take (k + 1))).bs.length (newA nb pg (bad.take (k + 1))).bs.length) from rfl, newA_len] at this
        exact this)
      have hgb0 : w.heap.size ≤ gb := by rw [Hgb.out]; exact Nat.le_refl _
      have HB2 := hid (((hB.setCell (p := (⟨gb, x * 6 + 3, none⟩ : Addr)) hgb0 (.bool true)).setCell (p := (⟨gb, x * 6 + 4, none⟩ : Addr)) hgb0 (.bool true)).drewB 1)
      have HA2 := hid (show AR (((wr.setCell ⟨gb, x * 6 + 3, none⟩ (.bool true)).setCell ⟨gb, x * 6 + 4, none⟩ (.bool true)).drewN 1) (newF w (((wr.setCell ⟨gb, x * 6 + 3, none⟩ (.bool true)).setCell ⟨gb, x * 6 + 4, none⟩ (.bool true)).drewN 1)) b gb (fun _ => .slice none 0 0) .nilFunc (newA nb pg (bad.take (k + 1))) from by
        have e : newF w (((wr.setCell ⟨gb, x * 6 + 3, none⟩ (.bool true)).setCell ⟨gb, x * 6 + 4, none⟩ (.bool true)).drewN 1) = newF w wr := by
          unfold newF
          rw [show (((wr.setCell ⟨gb, x * 6 + 3, none⟩ (.bool true)).setCell ⟨gb, x * 6 + 4, none⟩ (.bool true)).drewN 1).heap.size = wr.heap.size from by rw [show ∀ W : World, (W.drewN 1).heap.size = W.heap.size from fun _ => rfl, size_set, size_set]]
        rw [e]
        exact hA2.drewN 1)
      have hxI : (x : Int) < (nb : Int) := by omega
      clear hA hA1 hA2 hB wfx hdv hmem hx hx0 htk hxl
      go_wp2_with fail
      refine wp_region_held_drew (S := (fun w' => w'.cell? ⟨b, 0, none⟩ = some (.slice (some ⟨gb, 0, none⟩) nb nb))) (by kernel_rfl) ?hSnewNz (fun hHeld => ?restNz)
      case hSnewNz => ((try dsimp only); exact k0)
      refine wpAnyH_take (i := 0) (oi := ?oiNt2x0) (v := ?vNt2x0) ?hoNt2x0 ?h1Nt2x0 ?h2Nt2x0 ?h3Nt2x0 ?hqNt2x0 (Or.inl ⟨?h4Nt2x0, ?hyNt2x0⟩) (by assumption) ?restNt2x0
      case hoNt2x0 => (simp only [List.getElem?_toArray, List.getElem?_cons_zero, List.getElem?_cons_succ]; rfl)
      case h1Nt2x0 => kernel_rfl
      case h2Nt2x0 => kernel_rfl
      case h3Nt2x0 => kernel_rfl
      case h4Nt2x0 => rfl
      case hqNt2x0 => exact fun _ _ _ h => h
      case hyNt2x0 => (intro w hSw; (try dsimp only at hSw); go_simp <;> with_reducible rfl)
      (try simp only [Act.put, List.setIfInBounds_toArray, List.set_cons_zero, List.set_cons_succ])
      refine wpAnyH_take (i := 1) (oi := ?oiNt4x1) (v := ?vNt4x1) ?hoNt4x1 ?h1Nt4x1 ?h2Nt4x1 ?h3Nt4x1 ?hqNt4x1 (Or.inl ⟨?h4Nt4x1, ?hyNt4x1⟩) (by assumption) ?restNt4x1
      case hoNt4x1 => (simp only [List.getElem?_toArray, List.getElem?_cons_zero, List.getElem?_cons_succ]; rfl)
      case h1Nt4x1 => kernel_rfl
      case h2Nt4x1 => kernel_rfl
      case h3Nt4x1 => kernel_rfl
      case h4Nt4x1 => rfl
      case hqNt4x1 => exact fun _ _ _ h => h
      case hyNt4x1 => (intro w hSw; (try dsimp only at hSw); go_simp <;> with_reducible rfl)
      (try simp only [Act.put, List.setIfInBounds_toArray, List.set_cons_zero, List.set_cons_succ])
      refine wpAnyH_take (i := 2) (oi := ?oiNt6x2) (v := ?vNt6x2) ?hoNt6x2 ?h1Nt6x2 ?h2Nt6x2 ?h3Nt6x2 ?hqNt6x2 (Or.inl ⟨?h4Nt6x2, ?hyNt6x2⟩) (by assumption) ?restNt6x2
      case hoNt6x2 => (simp only [List.getElem?_toArray, List.getElem?_cons_zero, List.getElem?_cons_succ]; rfl)
      case h1Nt6x2 => kernel_rfl
      case h2Nt6x2 => kernel_rfl
      case h3Nt6x2 => kernel_rfl
      case h4Nt6x2 => rfl
      case hqNt6x2 => exact fun _ _ _ h => h
      case hyNt6x2 => (intro w hSw; (try dsimp only at hSw); go_simp <;> with_reducible rfl)
      (try simp only [Act.put, List.setIfInBounds_toArray, List.set_cons_zero, List.set_cons_succ])
      refine wpAnyH_take (i := 3) (oi := ?oiNt8x3) (v := ?vNt8x3) ?hoNt8x3 ?h1Nt8x3 ?h2Nt8x3 ?h3Nt8x3 ?hqNt8x3 (Or.inl ⟨?h4Nt8x3, ?hyNt8x3⟩) (by assumption) ?restNt8x3
      case hoNt8x3 => (simp only [List.getElem?_toArray, List.getElem?_cons_zero, List.getElem?_cons_succ]; rfl)
      case h1Nt8x3 => kernel_rfl
      case h2Nt8x3 => kernel_rfl
      case h3Nt8x3 => kernel_rfl
      case h4Nt8x3 => rfl
      case hqNt8x3 => exact fun _ _ _ h => h
      case hyNt8x3 => (intro w hSw; (try dsimp only at hSw); go_simp <;> with_reducible rfl)
      (try simp only [Act.put, List.setIfInBounds_toArray, List.set_cons_zero, List.set_cons_succ])
      refine wpAnyH_take (i := 4) (oi := ?oiNt10x4) (v := ?vNt10x4) ?hoNt10x4 ?h1Nt10x4 ?h2Nt10x4 ?h3Nt10x4 ?hqNt10x4 (Or.inl ⟨?h4Nt10x4, ?hyNt10x4⟩) (by assumption) ?restNt10x4
      case hoNt10x4 => (simp only [List.getElem?_toArray, List.getElem?_cons_zero, List.getElem?_cons_succ]; rfl)
      case h1Nt10x4 => kernel_rfl
      case h2Nt10x4 => kernel_rfl
      case h3Nt10x4 => kernel_rfl
      case h4Nt10x4 => rfl
      case hqNt10x4 => exact fun _ _ _ h => h
      case hyNt10x4 => (intro w hSw; (try dsimp only at hSw); go_simp <;> with_reducible rfl)
      (try simp only [Act.put, List.setIfInBounds_toArray, List.set_cons_zero, List.set_cons_succ])
      refine wpAnyH_take (i := 5) (oi := ?oiNt12x5) (v := ?vNt12x5) ?hoNt12x5 ?h1Nt12x5 ?h2Nt12x5 ?h3Nt12x5 ?hqNt12x5 (Or.inl ⟨?h4Nt12x5, ?hyNt12x5⟩) (by assumption) ?restNt12x5
      case hoNt12x5 => (simp only [List.getElem?_toArray, List.getElem?_cons_zero, List.getElem?_cons_succ]; rfl)
      case h1Nt12x5 => kernel_rfl
      case h2Nt12x5 => kernel_rfl
      case h3Nt12x5 => kernel_rfl
      case h4Nt12x5 => rfl
      case hqNt12x5 => exact fun _ _ _ h => h
      case hyNt12x5 => (intro w hSw; (try dsimp only at hSw); go_simp <;> with_reducible rfl)
      (try simp only [Act.put, List.setIfInBounds_toArray, List.set_cons_zero, List.set_cons_succ])
      refine wpAnyH_take (i := 6) (oi := ?oiNt14x6) (v := ?vNt14x6) ?hoNt14x6 ?h1Nt14x6 ?h2Nt14x6 ?h3Nt14x6 ?hqNt14x6 (Or.inl ⟨?h4Nt14x6, ?hyNt14x6⟩) (by assumption) ?restNt14x6
      case hoNt14x6 => (simp only [List.getElem?_toArray, List.getElem?_cons_zero, List.getElem?_cons_succ]; rfl)
      case h1Nt14x6 => kernel_rfl
      case h2Nt14x6 => kernel_rfl
      case h3Nt14x6 => kernel_rfl
      case h4Nt14x6 => rfl
      case hqNt14x6 => exact fun _ _ _ h => h
      case hyNt14x6 => (intro w hSw; (try dsimp only at hSw); go_simp <;> with_reducible rfl)
      (try simp only [Act.put, List.setIfInBounds_toArray, List.set_cons_zero, List.set_cons_succ])
      refine wpAnyH_take (i := 7) (oi := ?oiNt16x7) (v := ?vNt16x7) ?hoNt16x7 ?h1Nt16x7 ?h2Nt16x7 ?h3Nt16x7 ?hqNt16x7 (Or.inl ⟨?h4Nt16x7, ?hyNt16x7⟩) (by assumption) ?restNt16x7
      case hoNt16x7 => (simp only [List.getElem?_toArray, List.getElem?_cons_zero, List.getElem?_cons_succ]; rfl)
      case h1Nt16x7 => kernel_rfl
      case h2Nt16x7 => kernel_rfl
      case h3Nt16x7 => kernel_rfl
      case h4Nt16x7 => rfl
      case hqNt16x7 => exact fun _ _ _ h => h
      case hyNt16x7 => (intro w hSw; (try dsimp only at hSw); go_simp <;> with_reducible rfl)
      (try simp only [Act.put, List.setIfInBounds_toArray, List.set_cons_zero, List.set_cons_succ])
      refine wpAnyH_take (i := 8) (oi := ?oiNt18x8) (v := ?vNt18x8) ?hoNt18x8 ?h1Nt18x8 ?h2Nt18x8 ?h3Nt18x8 ?hqNt18x8 (Or.inl ⟨?h4Nt18x8, ?hyNt18x8⟩) (by assumption) ?restNt18x8
      case hoNt18x8 => (simp only [List.getElem?_toArray, List.getElem?_cons_zero, List.getElem?_cons_succ]; rfl)
      case h1Nt18x8 => kernel_rfl
      case h2Nt18x8 => kernel_rfl
      case h3Nt18x8 => kernel_rfl
      case h4Nt18x8 => rfl
      case hqNt18x8 => exact fun _ _ _ h => h
      case hyNt18x8 => (intro w hSw; (try dsimp only at hSw); go_simp <;> with_reducible rfl)
      (try simp only [Act.put, List.setIfInBounds_toArray, List.set_cons_zero, List.set_cons_succ])
      refine wpAnyH_take (i := 9) (oi := ?oiNt20x9) (v := ?vNt20x9) ?hoNt20x9 ?h1Nt20x9 ?h2Nt20x9 ?h3Nt20x9 ?hqNt20x9 (Or.inl ⟨?h4Nt20x9, ?hyNt20x9⟩) (by assumption) ?restNt20x9
      case hoNt20x9 => (simp only [List.getElem?_toArray, List.getElem?_cons_zero, List.getElem?_cons_succ]; rfl)
      case h1Nt20x9 => kernel_rfl
      case h2Nt20x9 => kernel_rfl
      case h3Nt20x9 => kernel_rfl
      case h4Nt20x9 => rfl
      case hqNt20x9 => exact fun _ _ _ h => h
      case hyNt20x9 => (intro w hSw; (try dsimp only at hSw); go_simp <;> with_reducible rfl)
      (try simp only [Act.put, List.setIfInBounds_toArray, List.set_cons_zero, List.set_cons_succ])
      refine wpAnyH_take (i := 10) (oi := ?oiNt22x10) (v := ?vNt22x10) ?hoNt22x10 ?h1Nt22x10 ?h2Nt22x10 ?h3Nt22x10 ?hqNt22x10 (Or.inl ⟨?h4Nt22x10, ?hyNt22x10⟩) (by assumption) ?restNt22x10
      case hoNt22x10 => (simp only [List.getElem?_toArray, List.getElem?_cons_zero, List.getElem?_cons_succ]; rfl)
      case h1Nt22x10 => kernel_rfl
      case h2Nt22x10 => kernel_rfl
      case h3Nt22x10 => kernel_rfl
      case h4Nt22x10 => rfl
      case hqNt22x10 => exact fun _ _ _ h => h
      case hyNt22x10 => (intro w hSw; (try dsimp only at hSw); go_simp <;> with_reducible rfl)
      (try simp only [Act.put, List.setIfInBounds_toArray, List.set_cons_zero, List.set_cons_succ])
      refine wpAnyH_take (i := 11) (oi := ?oiNt24x11) (v := ?vNt24x11) ?hoNt24x11 ?h1Nt24x11 ?h2Nt24x11 ?h3Nt24x11 ?hqNt24x11 (Or.inl ⟨?h4Nt24x11, ?hyNt24x11⟩) (by assumption) ?restNt24x11
      case hoNt24x11 => (simp only [List.getElem?_toArray, List.getElem?_cons_zero, List.getElem?_cons_succ]; rfl)
      case h1Nt24x11 => kernel_rfl
      case h2Nt24x11 => kernel_rfl
      case h3Nt24x11 => kernel_rfl
      case h4Nt24x11 => rfl
      case hqNt24x11 => exact fun _ _ _ h => h
      case hyNt24x11 => (intro w hSw; (try dsimp only at hSw); go_simp <;> with_reducible rfl)
      (try simp only [Act.put, List.setIfInBounds_toArray, List.set_cons_zero, List.set_cons_succ])
      refine wpAnyH_ready (rs := [12]) (by kernel_rfl) (by simp) ?_
      refine AllReadyH.cons (o := ?oiNq25) ?hoNq25 (fun K hK => ?restNq25) ?moreNq25
      case moreNq25 => exact AllReadyH.nil
      case hoNq25 => (simp only [List.getElem?_toArray, List.getElem?_cons_zero, List.getElem?_cons_succ]; rfl)
      go_simp
      refine hK.out _ _ ?hSnewNhq25 (fun hHeld => ?restNhq25)
      case hSnewNhq25 => ((try dsimp only); exact HS1.out)
      clear hK K
      (try simp only [Act.put, List.setIfInBounds_toArray, List.set_cons_zero, List.set_cons_succ])
      refine wpAnyH_take (i := 13) (oi := ?oiNt27x13) (v := ?vNt27x13) ?hoNt27x13 ?h1Nt27x13 ?h2Nt27x13 ?h3Nt27x13 ?hqNt27x13 (Or.inl ⟨?h4Nt27x13, ?hyNt27x13⟩) (by assumption) ?restNt27x13
      case hoNt27x13 => (simp only [List.getElem?_toArray, List.getElem?_cons_zero, List.getElem?_cons_succ]; rfl)
      case h1Nt27x13 => kernel_rfl
      case h2Nt27x13 => kernel_rfl
      case h3Nt27x13 => kernel_rfl
      case h4Nt27x13 => rfl
      case hqNt27x13 => exact fun _ _ _ h => h
      case hyNt27x13 => (intro w hSw; (try dsimp only at hSw); go_simp <;> with_reducible rfl)
      (try simp only [Act.put, List.setIfInBounds_toArray, List.set_cons_zero, List.set_cons_succ])
      refine wpAnyH_take (i := 14) (oi := ?oiNt29x14) (v := ?vNt29x14) ?hoNt29x14 ?h1Nt29x14 ?h2Nt29x14 ?h3Nt29x14 ?hqNt29x14 (Or.inl ⟨?h4Nt29x14, ?hyNt29x14⟩) (by assumption) ?restNt29x14
      case hoNt29x14 => (simp only [List.getElem?_toArray, List.getElem?_cons_zero, List.getElem?_cons_succ]; rfl)
      case h1Nt29x14 => kernel_rfl
      case h2Nt29x14 => kernel_rfl
      case h3Nt29x14 => kernel_rfl
      case h4Nt29x14 => rfl
      case hqNt29x14 => exact fun _ _ _ h => h
      case hyNt29x14 => (intro w hSw; (try dsimp only at hSw); go_simp <;> with_reducible rfl)
      (try simp only [Act.put, List.setIfInBounds_toArray, List.set_cons_zero, List.set_cons_succ])
      refine wpAnyH_ready (rs := [15]) (by kernel_rfl) (by simp) ?_
      refine AllReadyH.cons (o := ?oiNq30) ?hoNq30 (fun K hK => ?restNq30) ?moreNq30
      case moreNq30 => exact AllReadyH.nil
      case hoNq30 => (simp only [List.getElem?_toArray, List.getElem?_cons_zero, List.getElem?_cons_succ]; rfl)
      go_simp
      refine hK.out _ _ ?hSnewNhq30 (fun hHeld => ?restNhq30)
      case hSnewNhq30 => ((try dsimp only); exact HS2.out)
      clear hK K
      (try simp only [Act.put, List.setIfInBounds_toArray, List.set_cons_zero, List.set_cons_succ])
      refine wpAnyH_done (by kernel_rfl) ?_ _
      clear k0 d3 d4 f3 f4 HS1 HS2
      go_wp2
      go_roundw
      case rel => exact ⟨k + 1, by omega, by go_num, HA2.out, HB2.out⟩
      case measure => simp [intOf]; omega
    · have hkm : bad.take k = bad := List.take_of_length_le (by rw [Hl.out]; omega)
      rw [hkm] at hA
      replace hA := hid hA
      clear hkm
      go_wp2
      go_ret2
      exact ⟨b, rfl, ⟨gb, _, _, hA.out⟩, hB⟩
end Go.Proofs.Ytcfildbgnjhjmaa.Nand
