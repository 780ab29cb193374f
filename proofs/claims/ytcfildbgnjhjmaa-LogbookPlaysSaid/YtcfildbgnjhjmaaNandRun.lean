import Derived.Test.YtcfildbgnjhjmaaNandB
import Derived.Test.YtcfildbgnjhjmaaNandCalm
set_option linter.unusedVariables false
set_option linter.unusedSimpArgs false
namespace Go.Proofs.Ytcfildbgnjhjmaa.Nand
open Go.RowKit Go.Proofs.Ytcfildbgnjhjmaa.Kit

/-- Since w (of which but F may have changed): the array stands as M; the blocks K, which are the caller's own, are as they are in W. -/
def Run (F : Nat → Prop) (w w' : World) (b : Nat) (M : NA) (K : Nat → Prop) (W : World) : Prop :=
  ∃ F', Arr w' F' b M ∧ (∀ g, F' g → F g ∨ w.heap.size ≤ g) ∧ Fr F w w' ∧ ∀ g, K g → ¬ F' g ∧ w.heap.size ≤ g ∧ g < w'.heap.size ∧ w'.heap[g]? = W.heap[g]?
theorem heap_lt {w : World} {g : Nat} {x : Obj} (h : w.heap[g]? = some x) : g < w.heap.size := (Array.getElem?_eq_some_iff.1 h).1
theorem Run.start {F : Nat → Prop} {w : World} {b : Nat} {M : NA} (h : Arr w F b M) (W : World) : Run F w w b M (fun _ => False) W :=
  ⟨F, h, fun g hg => .inl hg, Fr.refl _ _, fun _ hg => hg.elim⟩
/-- A new array: none of what there was has changed. -/
theorem Run.new {w w1 w2 : World} {b : Nat} {M : NA} {F1 : Nat → Prop} (hB : Below w.heap.size w w1) (h : Arr w2 F1 b M) (hF : ∀ g, F1 g → w1.heap.size ≤ g) (hB2 : Below w1.heap.size w1 w2) (W : World) : Run (fun _ => False) w w2 b M (fun _ => False) W :=
  ⟨F1, h, fun g hg => .inr (Nat.le_trans hB.size (hF g hg)), Fr.of_below (hB.trans (hB2.mono hB.size)), fun _ hg => hg.elim⟩
theorem Run.arr {F : Nat → Prop} {w w' W : World} {b : Nat} {M : NA} {K : Nat → Prop} (h : Run F w w' b M K W) : ∃ F', Arr w' F' b M := by
  obtain ⟨F', h1, -⟩ := h
  exact ⟨F', h1⟩
theorem Run.wf {F : Nat → Prop} {w w' W : World} {b : Nat} {M : NA} {K : Nat → Prop} (h : Run F w w' b M K W) : M.Wf := by
  obtain ⟨F', h1, -⟩ := h
  exact h1.wf
theorem Run.size {F : Nat → Prop} {w w' W : World} {b : Nat} {M : NA} {K : Nat → Prop} (h : Run F w w' b M K W) : w.heap.size ≤ w'.heap.size := by
  obtain ⟨F', -, -, h1, -⟩ := h
  exact h1.size
theorem Run.fin {F : Nat → Prop} {w w' W : World} {b : Nat} {M : NA} {K : Nat → Prop} (h : Run F w w' b M K W) (hl : ∀ g, F g → g < w.heap.size) : Arr w' (grow F w w') b M ∧ Fr F w w' := by
  obtain ⟨F', ⟨gb, pv, wv, h1⟩, h2, h3, -⟩ := h
  refine ⟨⟨gb, pv, wv, h1.mono (fun g hg => ?_) (fun g hg => ?_)⟩, h3⟩
  · rcases h2 g hg with h | h
    · exact .inl h
    · exact .inr ⟨h, h1.low g hg⟩
  · rcases hg with hg | hg
    · exact Nat.lt_of_lt_of_le (hl g hg) h3.size
    · exact hg.2
theorem Run.below {w w' W : World} {b : Nat} {M : NA} {K : Nat → Prop} (h : Run (fun _ => False) w w' b M K W) : Below w.heap.size w w' := by
  obtain ⟨F', -, -, h1, -⟩ := h
  exact h1.below (Nat.le_refl _) (fun _ hg => hg.elim)
theorem Run.later {F : Nat → Prop} {w w1 w2 W : World} {b : Nat} {M : NA} {K : Nat → Prop} (h : Run F w w1 b M K W) (hB : Below w1.heap.size w1 w2) : Run F w w2 b M K W := by
  obtain ⟨F', h1, h2, h3, h4⟩ := h
  exact ⟨F', h1.later hB, h2, h3.trans (Fr.of_below (F := fun _ => False) hB) (fun _ _ x => x.elim), fun g hg => ⟨(h4 g hg).1, (h4 g hg).2.1, Nat.lt_of_lt_of_le (h4 g hg).2.2.1 hB.size, (hB.block g (h4 g hg).2.2.1).trans (h4 g hg).2.2.2⟩⟩
/-- What was made since is the caller's own as well. -/
theorem Run.own {F : Nat → Prop} {w w1 w2 W : World} {b : Nat} {M : NA} {K : Nat → Prop} (h : Run F w w1 b M K W) (hB : Below w1.heap.size w1 w2) : Run F w w2 b M (fun g => K g ∨ (w1.heap.size ≤ g ∧ g < w2.heap.size)) w2 := by
  have hl := h.later hB
  obtain ⟨F', h1, h2, h3, h4⟩ := h
  obtain ⟨-, -, -, h3', -⟩ := hl
  refine ⟨F', h1.later hB, h2, h3', fun g hg => ?_⟩
  rcases hg with hg | ⟨hg1, hg2⟩
  · exact ⟨(h4 g hg).1, (h4 g hg).2.1, Nat.lt_of_lt_of_le (h4 g hg).2.2.1 hB.size, rfl⟩
  · exact ⟨fun x => absurd (h1.low g x) (by omega), Nat.le_trans h3.size hg1, hg2, rfl⟩
theorem Run.less {F : Nat → Prop} {w w' W : World} {b : Nat} {M : NA} {K K' : Nat → Prop} (h : Run F w w' b M K W) (hK : ∀ g, K' g → K g) : Run F w w' b M K' W := by
  obtain ⟨F', h1, h2, h3, h4⟩ := h
  exact ⟨F', h1, h2, h3, fun g hg => h4 g (hK g hg)⟩
theorem Run.now {F : Nat → Prop} {w w' W : World} {b : Nat} {M : NA} {K : Nat → Prop} (h : Run F w w' b M K W) : Run F w w' b M K w' := by
  obtain ⟨F', h1, h2, h3, h4⟩ := h
  exact ⟨F', h1, h2, h3, fun g hg => ⟨(h4 g hg).1, (h4 g hg).2.1, (h4 g hg).2.2.1, rfl⟩⟩
/-- The caller stores to a block of his own. -/
theorem Run.store {F : Nat → Prop} {w w' W : World} {b : Nat} {M : NA} {K : Nat → Prop} (h : Run F w w' b M K W) (g i : Nat) (v : Value) (hg : K g) : Run F w (w'.setCell ⟨g, i, none⟩ v) b M K (w'.setCell ⟨g, i, none⟩ v) := by
  obtain ⟨F', h1, h2, h3, h4⟩ := h
  refine ⟨F', h1.keep (fun k hk => Below.heap_setCell w' ⟨g, i, none⟩ v k (fun e => (h4 g hg).1 (by rw [← show k = g from e]; exact hk))) (by rw [size_set]; exact Nat.le_refl _), h2, h3.set g i v (.inr (h4 g hg).2.1), fun k hk => ⟨(h4 k hk).1, (h4 k hk).2.1, by rw [size_set]; exact (h4 k hk).2.2.1, rfl⟩⟩
/-- An operation with the array. -/
theorem Run.step {F F' : Nat → Prop} {w w1 w2 W : World} {b : Nat} {M' : NA} {K : Nat → Prop} (h2 : ∀ g, F' g → F g ∨ w.heap.size ≤ g) (h3 : Fr F w w1) (h4 : ∀ g, K g → ¬ F' g ∧ w.heap.size ≤ g ∧ g < w1.heap.size ∧ w1.heap[g]? = W.heap[g]?) (hA : Arr w2 (grow F' w1 w2) b M') (hf : Fr F' w1 w2) : Run F w w2 b M' K W :=
  ⟨_, hA, fun g hg => by
      rcases hg with hg | hg
      · exact h2 g hg
      · exact .inr (Nat.le_trans h3.size hg.1), h3.trans hf (fun g hg x => by
      rcases h2 g x with h | h
      · exact h
      · omega), fun g hg => ⟨fun x => by
      rcases x with x | x
      · exact (h4 g hg).1 x
      · exact absurd (h4 g hg).2.2.1 (by omega), (h4 g hg).2.1, Nat.lt_of_lt_of_le (h4 g hg).2.2.1 hf.size, (hf.block g (h4 g hg).2.2.1 (h4 g hg).1).trans (h4 g hg).2.2.2⟩⟩
theorem Run.calls {P : Program} {fn : FuncId} {args : Array Value} {F : Nat → Prop} {w w1 W : World} {b : Nat} {M M' : NA} {K : Nat → Prop} {R : Ending → Prop} (h : Run F w w1 b M K W)
    (hc : ∀ F', Arr w1 F' b M → Calls P fn args w1 fun e w' => R e ∧ Arr w' (grow F' w1 w') b M' ∧ Fr F' w1 w') : Calls P fn args w1 fun e w' => R e ∧ Run F w w' b M' K W := by
  obtain ⟨F', h1, h2, h3, h4⟩ := h
  refine (hc F' h1).mono ?_
  rintro e w' ⟨he, hA, hf⟩
  exact ⟨he, Run.step h2 h3 h4 hA hf⟩
theorem Run.reads {P : Program} {fn : FuncId} {args : Array Value} {F : Nat → Prop} {w w1 W : World} {b : Nat} {M : NA} {K : Nat → Prop} {R : Ending → World → Prop} (h : Run F w w1 b M K W)
    (hc : ∀ F', Arr w1 F' b M → Calls P fn args w1 fun e w' => R e w' ∧ Below w1.heap.size w1 w') : Calls P fn args w1 fun e w' => R e w' ∧ Below w1.heap.size w1 w' := by
  obtain ⟨F', h1, h2, h3, h4⟩ := h
  exact hc F' h1
theorem Run.blk {F : Nat → Prop} {w w' W : World} {b g : Nat} {M : NA} {K : Nat → Prop} {cs : Array Value} {T : TypeId} (h : Run F w w' b M K W) (hg : K g) (hb : Blk W g cs T) : Blk w' g cs T := by
  obtain ⟨F', h1, h2, h3, h4⟩ := h
  unfold Blk at *
  rw [(h4 g hg).2.2.2]
  exact hb
theorem Run.row {F : Nat → Prop} {w w' W : World} {b base n size : Nat} {M : NA} {K : Nat → Prop} {e : TypeId} {v : Value} {xs : List Value} (h : Run F w w' b M K W) (hg : ∀ g, v.ownBlock = some g → K g) (hb : W.ownsRow base e size v n xs) : w'.ownsRow base e size v n xs := by
  obtain ⟨F', h1, h2, h3, h4⟩ := h
  exact own_keep hb (fun g e => (h4 g (hg g e)).2.2.2)
end Go.Proofs.Ytcfildbgnjhjmaa.Nand
