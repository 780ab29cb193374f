import Derived.Test.YtpcbpljdiacbmaaJKit
import Derived.Deep.Slices
import Derived.Deep.Fields
import Derived.ChangeSame
set_option linter.unusedVariables false
set_option linter.unusedSimpArgs false
namespace Go.Proofs.Ytpcbpljdiacbmaa.Kit
open Go.RowKit Go.ChangeShapes Go.WideShapes Go.Deep

theorem u64_bd (x : Int) : 0 ≤ IntKind.u64.wrap x ∧ IntKind.u64.wrap x ≤ 18446744073709551615 := by
 have e : IntKind.u64.wrap x = x % 18446744073709551616 := by
  unfold IntKind.wrap
  simp [IntKind.signed, IntKind.bits]
 rw [e]
 omega
/-- int(uint(x) % uint(n)). -/
theorem umod_nat (x : Int) (n : Nat) (h : 0 < n) : ∃ j : Nat, j < n ∧ (IntKind.u64.wrap x).tmod (n : Int) = (j : Int) := by
 have h0 := (u64_bd x).1
 rw [Int.tmod_eq_emod_of_nonneg h0]
 have h1 := Int.emod_nonneg (IntKind.u64.wrap x) (show (n : Int) ≠ 0 by omega)
 have h2 := Int.emod_lt_of_pos (IntKind.u64.wrap x) (show (0 : Int) < (n : Int) by omega)
 exact ⟨(IntKind.u64.wrap x % (n : Int)).toNat, by omega, by omega⟩

/-- A slice of records as it reads: sz cells each; enc says what stands in them; Q holds of each. -/
structure Recs {α : Type} (w : World) (A : Option Addr) (n sz : Nat) (enc : α → List Value) (Q : World → α → Prop) (xs : Nat → α) : Prop where
 most : n ≤ 9223372036854775807
 cell : ∀ j, j < n → ∃ b o, A = some ⟨b, o, none⟩ ∧ ∀ i, i < n → ∀ k v, (enc (xs i))[k]? = some v → w.cell? ⟨b, o + i * sz + k, none⟩ = some v
 ok : ∀ i, i < n → Q w (xs i)
theorem Recs.below {α : Type} {w w' : World} {A : Option Addr} {n sz : Nat} {enc : α → List Value} {Q : World → α → Prop} {xs : Nat → α} (h : Recs w A n sz enc Q xs) (hB : Below w.heap.size w w') (hQ : ∀ x, Q w x → Q w' x) : Recs w' A n sz enc Q xs := by
 refine ⟨h.most, fun j hj => ?_, fun i hi => hQ _ (h.ok i hi)⟩
 obtain ⟨b, o, e, hc⟩ := h.cell j hj
 exact ⟨b, o, e, fun i hi k v hk => (hB.cell (World.block_lt_of_cell? w _ (hc i hi k v hk))).trans (hc i hi k v hk)⟩
theorem Recs.at_ {α : Type} {w : World} {A : Option Addr} {n sz : Nat} {enc : α → List Value} {Q : World → α → Prop} {xs : Nat → α} (h : Recs w A n sz enc Q xs) (j : Nat) (hj : j < n) : ∃ b o, A = some ⟨b, o, none⟩ ∧ ∀ k v, (enc (xs j))[k]? = some v → w.cell? ⟨b, o + j * sz + k, none⟩ = some v := by
 obtain ⟨b, o, e, hc⟩ := h.cell j hj
 exact ⟨b, o, e, hc j hj⟩

section
variable {H : Type} {enc : TypeId × Value → H} {P : Program} {w : World} {base : Nat} {spare : Nat → Bool} {held : Bool}
theorem open_slice_fields {t e : TypeId} {fs : Array Field} {fuel : Nat} {cs : List Value} {x : DataW H × List MemPlace} (ht : P.underlying t = some (.slice e)) (he : P.underlying e = some (.struct fs))
  (hone : oneCellFields P fs = true) (hC : P.cellsOf e = fs.size) (h : DataW.trod enc P w base spare held fuel t cs = some x) :
  cs = [.slice none 0 0] ∨
  ∃ (a : Addr) (len cap : Nat), cs = [.slice (some a) len cap] ∧ len ≤ cap ∧ cap ≤ maxLen ∧
   ∀ i, i < len → ∃ n : Nat, ∀ (j : Nat) (f : Field), fs[j]? = some f → ∃ (v : Value) (y : DataW H × List MemPlace), w.cell? (a.add (i * fs.size + j)) = some v ∧ DataW.trod enc P w base spare held n f.type [v] = some y := by
 rcases open_slice ht h with h0 | ⟨a, len, cap, m, n, D, Pl, hcs, hb, hl, hm, hmm, hx, hi⟩
 ·exact .inl h0.1
 ·refine .inr ⟨a, len, cap, hcs, hl, hm, fun i him => ?_⟩
  obtain ⟨cs', hc, ht'⟩ := hi i (by rw [hmm]; split <;> omega)
  rw [hC] at hc
  obtain ⟨ys, n', hn', hy, hlen, hyl, hf⟩ := DataW.trod_struct he ht'
  obtain ⟨_, hcl, hat⟩ := World.cells?_some hc
  refine ⟨n', fun j f hj => ?_⟩
  obtain ⟨ho, hk⟩ := hone_of hone j f hj
  have hjl : j < fs.size := (Array.getElem?_eq_some_iff.1 hj).1
  have hcell := hat j hjl
  have hv : cs'[j]? = some (cs'[j]'(by omega)) := List.getElem?_eq_getElem (by omega)
  have h1 := hf j f hj
  rw [ho, hk] at h1
  have hone' : (cs'.drop j).take 1 = [cs'[j]'(by omega)] := by
   rw [List.drop_eq_getElem_cons (by omega)]
   rfl
  rw [hone'] at h1
  have hys : ys[j]? = some (ys[j]'(by omega)) := List.getElem?_eq_getElem (by omega)
  refine ⟨_, _, ?_, h1.trans hys⟩
  rw [← Go.Deep.add_add, hcell, hv]
theorem open_recs {α : Type} [Inhabited α] (en : α → List Value) (Q : World → α → Prop) {t e : TypeId} {fs : Array Field} {v : Value} {d : DataW H} {ps : List MemPlace} {r : Reach} {b0 : Nat} (ht : P.underlying t = some (.slice e)) (he : P.underlying e = some (.struct fs))
  (hone : oneCellFields P fs = true) (hC : P.cellsOf e = fs.size) (hpos : 0 < fs.size) (hval : Value.okWide P w r b0 t v) (h : DataW.Trod enc P w base spare held t v d ps)
  (hrow : ∀ (c : Nat → Value) (n : Nat), (∀ j f, fs[j]? = some f → ∃ y, DataW.trod enc P w base spare held n f.type [c j] = some y) → ∃ a : α, (∀ k u, (en a)[k]? = some u → k < fs.size ∧ c k = u) ∧ Q w a) :
  ∃ A len cap xs, v = .slice A len cap ∧ len ≤ cap ∧ Recs w A len fs.size en Q xs := by
 obtain ⟨A, len, cap, rfl⟩ := okWide_slice ht hval
 obtain ⟨fuel, hf⟩ := h
 have hf' : DataW.trod enc P w base spare held fuel t [.slice A len cap] = some (d, ps) := by simpa [Value.cells] using hf
 rcases open_slice_fields ht he hone hC hf' with h0 | ⟨a, l, c, hcs, hl, hm, hi⟩
 ·simp at h0
  obtain ⟨rfl, rfl, rfl⟩ := h0
  exact ⟨none, 0, 0, fun _ => default, rfl, Nat.le_refl _, ⟨by omega, fun j hj => absurd hj (by omega), fun i hi => absurd hi (by omega)⟩⟩
 ·simp at hcs
  obtain ⟨rfl, rfl, rfl⟩ := hcs
  unfold maxLen at hm
  have hrec : ∀ i, ∃ x : α, i < len → (∀ k u, (en x)[k]? = some u → w.cell? (a.add (i * fs.size + k)) = some u) ∧ Q w x := by
   intro i
   by_cases hlt : i < len
   ·obtain ⟨n, hn⟩ := hi i hlt
    have hc : ∀ j, ∃ u : Value, ∀ f, fs[j]? = some f → ∃ y, w.cell? (a.add (i * fs.size + j)) = some u ∧ DataW.trod enc P w base spare held n f.type [u] = some y := by
     intro j
     cases hfj : fs[j]? with
     | none => exact ⟨.bool false, fun f hf => by cases hf⟩
     | some f =>
      obtain ⟨u, y, h1, h2⟩ := hn j f hfj
      exact ⟨u, fun f' hf' => by cases hf'; exact ⟨y, h1, h2⟩⟩
    obtain ⟨cc, hcc⟩ := Classical.axiomOfChoice hc
    obtain ⟨x, hx, hq⟩ := hrow cc n (fun j f hj => by obtain ⟨y, _, h2⟩ := hcc j f hj; exact ⟨y, h2⟩)
    refine ⟨x, fun _ => ⟨fun k u hk => ?_, hq⟩⟩
    obtain ⟨hks, rfl⟩ := hx k u hk
    obtain ⟨y, h1, _⟩ := hcc k _ (Array.getElem?_eq_getElem hks)
    exact h1
   ·exact ⟨default, fun h => absurd h hlt⟩
  obtain ⟨xs, hxs⟩ := Classical.axiomOfChoice hrec
  refine ⟨_, _, _, xs, rfl, hl, ⟨by omega, fun j hj => ?_, fun i hi => (hxs i hi).2⟩⟩
  obtain ⟨b, o, spot⟩ := a
  obtain ⟨n0, hn0⟩ := hi 0 (by omega)
  obtain ⟨u0, y0, hc0, _⟩ := hn0 0 _ (Array.getElem?_eq_getElem hpos)
  have hspot : spot = none := by
   have h0 := World.cell?_spot hc0
   rw [show 0 * fs.size + 0 = 0 by omega] at h0
   unfold Addr.add at h0
   rw [if_pos rfl] at h0
   exact h0
  subst hspot
  refine ⟨b, o, rfl, fun i hi k v hk => ?_⟩
  have := (hxs i hi).1 k v hk
  rw [add_plain] at this
  rw [Nat.add_assoc]
  exact this
end
end Go.Proofs.Ytpcbpljdiacbmaa.Kit
