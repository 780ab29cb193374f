import Derived.Test.YtineicehipgnjaaNandB
set_option linter.unusedVariables false
set_option linter.unusedSimpArgs false
namespace Go.Proofs.Ytineicehipgnjaa.Nand
open Go.RowKit Go.Proofs.Ytineicehipgnjaa.Kit

/-! The law's own pages, and its example. -/
def pgI (n : Int) (k : Nat) : Int := (n + (k : Int) * 7) % 256
def pgL (n : Int) : List Int := (List.range 96).map (pgI n)
def pgC (n : Int) (k : Nat) : List Value := ((List.range 96).map (fun j => if j < k then Value.int .u8 (pgI n j) else .int .u8 0))
theorem pgL_len (n : Int) : (pgL n).length = 96 := by simp [pgL]
theorem pgL_wf (n : Int) : ∀ x ∈ pgL n, (Lit.int .u8 x).wf = true := by
  intro x hx
  unfold pgL at hx
  obtain ⟨k, _, rfl⟩ := List.mem_map.1 hx
  unfold pgI
  simp [Lit.wf, IntKind.min, IntKind.max, IntKind.signed, IntKind.bits]
  omega
theorem pgC_zero (n : Int) : pgC n 0 = List.replicate 96 (.int .u8 0) := by
  unfold pgC
  refine List.ext_getElem (by simp only [List.length_map, List.length_range, List.length_replicate]) (fun j h1 h2 => ?_)
  rw [List.getElem_replicate]
  simp only [List.getElem_map, List.getElem_range]
  rw [if_neg (by omega)]
theorem pgC_all (n : Int) : pgC n 96 = (pgL n).map (Value.int .u8) := by
  unfold pgC pgL
  refine List.ext_getElem (by simp) (fun j h1 h2 => ?_)
  have : j < 96 := by simpa using h2
  simp [this]
theorem pgC_at (n : Int) (k : Nat) (hk : k < 96) : (pgC n k)[k]? = some (.int .u8 0) := by
  unfold pgC
  rw [List.getElem?_map, List.getElem?_range hk]
  simp
theorem pgC_set (n : Int) (k : Nat) (hk : k < 96) : (pgC n k).set k (.int .u8 (pgI n k)) = pgC n (k + 1) := by
  unfold pgC
  refine List.ext_getElem (by simp) (fun j h1 h2 => ?_)
  have hj : j < 96 := by simpa using h2
  rw [List.getElem_set]
  simp only [List.getElem_map, List.getElem_range]
  by_cases e : k = j
  · subst e
    rw [if_pos rfl, if_pos (by omega)]
  · rw [if_neg e]
    by_cases e2 : j < k
    · rw [if_pos e2, if_pos (by omega)]
    · rw [if_neg e2, if_neg (by omega)]
set_option maxHeartbeats 1000000 in
theorem page_any (n : Int) (w : World) (hn : 0 ≤ n ∧ n ≤ 255) : Calls Try.prog 13 #[.int .u8 n] w fun e w' => ∃ g, e = .returned (.slice (some ⟨g, 0, none⟩) 96 96) ∧ Blk w' g ((pgL n).map (Value.int .u8)).toArray 5 ∧ w.heap.size ≤ g ∧ Below w.heap.size w w' := by
  have hmk : ∀ W, (Instr.makeSlice 27 (.int .i64 96) (.int .i64 96)).run Try.prog W = .ok (.slice (some ⟨W.heap.size, 0, none⟩) 96 96) (W.alloc (.cells (pgC n 0).toArray 5)) := fun W => by
    rw [pgC_zero]
    kernel_rfl
  have Hn := hid (Blk.new w (pgC n 0).toArray 5)
  have HB := hid ((Below.refl w.heap.size w).alloc (Nat.le_refl _) (.cells (pgC n 0).toArray 5))
  obtain ⟨h0, h1⟩ := hn
  go_enter Try.func13, Try.ntmps13
  go_wp2
  obtain ⟨g, hg⟩ : ∃ g, w.heap.size = g := ⟨_, rfl⟩
  rw [hg] at Hn HB ⊢
  have Hg := hid hg
  clear hg
  go_loopw [4] (fun x w' => ∃ k : Nat, k ≤ 96 ∧ x = .int .i64 (k : Int) ∧ Blk w' g (pgC n k).toArray 5 ∧ Below g w w') (fun x _ => 96 - (intOf x).toNat)
  case atStart => exact ⟨0, by omega, rfl, Hn.out, HB.out⟩
  case round =>
    obtain ⟨k, hk, rfl, hb, hB⟩ := hrel
    by_cases hlt : k < 96
    · have hc : wr.cell? ⟨g, k, none⟩ = some (.int .u8 0) := by
        rw [hb.cell, List.getElem?_toArray]
        exact pgC_at n k hlt
      have hf := hb.free k
      have Hb1 := hid (show Blk (wr.setCell ⟨g, k, none⟩ (.int .u8 (pgI n k))) g (pgC n (k + 1)).toArray 5 from by
        rw [← pgC_set n k hlt]
        simpa using hb.set k (.int .u8 (pgI n k)))
      have HB1 := hid (hB.setCell (p := (⟨g, k, none⟩ : Addr)) (Nat.le_refl _) (.int .u8 (pgI n k)))
      have hkI : (k : Int) < 96 := by omega
      unfold pgI at Hb1 HB1
      clear hb hB
      go_wp2
      go_roundw
      case rel => exact ⟨k + 1, by omega, by go_num, Hb1.out, HB1.out⟩
      case measure => simp [intOf]; omega
    · obtain rfl : k = 96 := by omega
      rw [pgC_all] at hb
      have Hb := hid hb
      have HB2 := hid hB
      clear hb hB
      go_wp2
      go_ret
      exact ⟨g, rfl, Hb.out, by rw [Hg.out]; exact Nat.le_refl _, by rw [Hg.out]; exact HB2.out⟩
end Go.Proofs.Ytineicehipgnjaa.Nand
