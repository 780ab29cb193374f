import Derived.Test.YtcfildbgnjhjmaaRecs
set_option linter.unusedVariables false
set_option linter.unusedSimpArgs false
namespace Go.Proofs.Ytcfildbgnjhjmaa.Kit
open Go.RowKit Go.ChangeShapes Go.WideShapes Go.Deep

/-! A slice of records some of whose fields are records: each field by its cells. -/
section
variable {H : Type} {enc : TypeId × Value → H} {P : Program} {w : World} {base : Nat} {spare : Nat → Bool} {held : Bool}
theorem open_recs2 {α : Type} [Inhabited α] (en : α → List Value) (Q : World → α → Prop) {t e : TypeId} {fs : Array Field} {C : Nat} {v : Value} {d : DataW H} {ps : List MemPlace} {r : Reach} {b0 : Nat} (ht : P.underlying t = some (.slice e)) (he : P.underlying e = some (.struct fs))
    (hC : P.cellsOf e = C) (hpos : 0 < C) (hval : Value.okWide P w r b0 t v) (h : DataW.Trod enc P w base spare held t v d ps)
    (hrow : ∀ (cs : List Value) (n : Nat), cs.length = C → (∀ (j : Nat) (f : Field), fs[j]? = some f → ∃ y, DataW.trod enc P w base spare held n f.type ((cs.drop f.offset).take (P.cellsOf f.type)) = some y) → ∃ a : α, (∀ (k : Nat) (u : Value), (en a)[k]? = some u → cs[k]? = some u) ∧ Q w a) :
    ∃ A len cap xs, v = .slice A len cap ∧ len ≤ cap ∧ Recs w A len C en Q xs := by
  obtain ⟨A, len, cap, rfl⟩ := okWide_slice ht hval
  obtain ⟨fuel, hf⟩ := h
  have hf' : DataW.trod enc P w base spare held fuel t [.slice A len cap] = some (d, ps) := by simpa [Value.cells] using hf
  rcases open_slice ht hf' with h0 | ⟨a, l, c, m, n, D, Pl, hcs, hb, hl, hm, hmm, hx, hi⟩
  · have h0 := h0.1
    simp at h0
    obtain ⟨rfl, rfl, rfl⟩ := h0
    exact ⟨none, 0, 0, fun _ => default, rfl, Nat.le_refl _, ⟨by omega, fun j hj => absurd hj (by omega), fun i hi => absurd hi (by omega)⟩⟩
  · simp at hcs
    obtain ⟨rfl, rfl, rfl⟩ := hcs
    unfold maxLen at hm
    have hrec : ∀ i, ∃ x : α, i < len → (∀ k u, (en x)[k]? = some u → w.cell? (a.add (i * C + k)) = some u) ∧ Q w x := by
      intro i
      by_cases hlt : i < len
      · obtain ⟨cs', hc, ht'⟩ := hi i (by rw [hmm]; split <;> omega)
        rw [hC] at hc
        obtain ⟨ys, n', hn', hy, hlen, hyl, hfd⟩ := DataW.trod_struct he ht'
        obtain ⟨hcn, hcl, hat⟩ := World.cells?_some hc
        obtain ⟨x, hx, hq⟩ := hrow cs' n' hcl (fun j f hj => by
          have h1 := hfd j f hj
          have hjl : j < ys.length := by
            rw [hyl]
            exact (Array.getElem?_eq_some_iff.1 hj).1
          rw [List.getElem?_eq_getElem hjl] at h1
          exact ⟨_, h1⟩)
        refine ⟨x, fun _ => ⟨fun k u hk => ?_, hq⟩⟩
        have hk' := hx k u hk
        have hkl : k < C := by
          have := (List.getElem?_eq_some_iff.1 hk').1
          omega
        rw [← Go.Deep.add_add, hat k hkl, hk']
      · exact ⟨default, fun h => absurd h hlt⟩
    obtain ⟨xs, hxs⟩ := Classical.axiomOfChoice hrec
    refine ⟨_, _, _, xs, rfl, hl, ⟨by omega, fun j hj => ?_, fun i hi => (hxs i hi).2⟩⟩
    obtain ⟨b, o, spot⟩ := a
    obtain ⟨cs0, hc0, _⟩ := hi 0 (by rw [hmm]; split <;> omega)
    rw [hC] at hc0
    obtain ⟨_, hcl0, hat0⟩ := World.cells?_some hc0
    have h00 := hat0 0 hpos
    rw [List.getElem?_eq_getElem (by omega)] at h00
    have hspot : spot = none := by
      have h0 := World.cell?_spot h00
      unfold Addr.add at h0
      simpa using h0
    subst hspot
    refine ⟨b, o, rfl, fun i hi k v hk => ?_⟩
    have := (hxs i hi).1 k v hk
    rw [add_plain] at this
    rw [Nat.add_assoc]
    exact this
end
end Go.Proofs.Ytcfildbgnjhjmaa.Kit
