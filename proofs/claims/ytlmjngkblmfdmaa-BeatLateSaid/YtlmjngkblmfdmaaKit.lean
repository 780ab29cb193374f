import Derived.Test.YtlmjngkblmfdmaaProg
import Derived.Handy
import Derived.BigQuiet
import Derived.Deep.QuietTactic
import Derived.Deep.Slices
import Derived.KernelRfl
import Derived.SizedLaws
import Derived.ChangeSlices
set_option linter.unusedVariables false
set_option linter.unusedSimpArgs false
namespace Go.Proofs.Ytlmjngkblmfdmaa.Kit
open Go.RowKit Go.ChangeShapes Go.WideShapes

/-! Numbers of their kinds. -/
theorem wf_u8 {n : Int} (h : (Lit.int .u8 n).wf = true) : 0 ≤ n ∧ n ≤ 255 := by
  simpa [Lit.wf, IntKind.min, IntKind.max, IntKind.signed, IntKind.bits] using h
theorem wf_u16 {n : Int} (h : (Lit.int .u16 n).wf = true) : 0 ≤ n ∧ n ≤ 65535 := by
  simpa [Lit.wf, IntKind.min, IntKind.max, IntKind.signed, IntKind.bits] using h
theorem wf_u32 {n : Int} (h : (Lit.int .u32 n).wf = true) : 0 ≤ n ∧ n ≤ 4294967295 := by
  simpa [Lit.wf, IntKind.min, IntKind.max, IntKind.signed, IntKind.bits] using h
theorem wf_u64 {n : Int} (h : (Lit.int .u64 n).wf = true) : 0 ≤ n ∧ n ≤ 18446744073709551615 := by
  simpa [Lit.wf, IntKind.min, IntKind.max, IntKind.signed, IntKind.bits] using h
theorem wf_i64 {n : Int} (h : (Lit.int .i64 n).wf = true) : -9223372036854775808 ≤ n ∧ n ≤ 9223372036854775807 := by
  simpa [Lit.wf, IntKind.min, IntKind.max, IntKind.signed, IntKind.bits] using h

/-- A slice of whole numbers as it reads. -/
structure Nums (w : World) (k : IntKind) (A : Option Addr) (n : Nat) (xs : List Int) : Prop where
  len : xs.length = n
  most : n ≤ 9223372036854775807
  cell : ∀ j, j < n → ∃ b o, A = some ⟨b, o, none⟩ ∧ ∀ i, i < n → w.cell? ⟨b, o + i, none⟩ = some (.int k (xs.getD i 0))
  wf : ∀ x ∈ xs, (Lit.int k x).wf = true

theorem Nums.at_ {w : World} {k : IntKind} {A : Option Addr} {n : Nat} {xs : List Int} (h : Nums w k A n xs) (j : Nat) (hj : j < n) :
    ∃ b o, A = some ⟨b, o, none⟩ ∧ w.cell? ⟨b, o + j, none⟩ = some (.int k (xs.getD j 0)) := by
  obtain ⟨b, o, rfl, hc⟩ := h.cell j hj
  exact ⟨b, o, rfl, hc j hj⟩
theorem Nums.wf_at {w : World} {k : IntKind} {A : Option Addr} {n : Nat} {xs : List Int} (h : Nums w k A n xs) (j : Nat) (hj : j < n) : (Lit.int k (xs.getD j 0)).wf = true := by
  have := h.len
  rw [List.getD_eq_getElem?_getD, List.getElem?_eq_getElem (by omega)]
  exact h.wf _ (List.getElem_mem _)
theorem Nums.below {w w1 : World} {k : IntKind} {A : Option Addr} {n : Nat} {xs : List Int} (h : Nums w k A n xs) (hb : Below w.heap.size w w1) : Nums w1 k A n xs :=
  ⟨h.len, h.most, fun j hj => by
    obtain ⟨b, o, e, hc⟩ := h.cell j hj
    exact ⟨b, o, e, fun i hi => (hb.cell (World.block_lt_of_cell? w _ (hc i hi))).trans (hc i hi)⟩, h.wf⟩

section
variable {H : Type} {enc : TypeId × Value → H} {P : Program} {w : World}
theorem trod_nums {t e : TypeId} {k : IntKind} {fuel : Nat} {v : Value} {y : DataW H × List MemPlace} (ht : P.underlying t = some (.slice e)) (he : P.underlying e = some (.int k)) (hc : P.cellsOf e = 1)
    (h : DataW.trod enc P w 0 (fun _ => true) true fuel t [v] = some y) : ∃ A len cap zs, v = .slice A len cap ∧ Nums w k A len zs := by
  rcases open_ints ht he hc h with ⟨hcs, _⟩ | ⟨x, l, c, zs, hcs, _, hl, hm, hz, _, hcell, hwz⟩
  · simp at hcs
    exact ⟨none, 0, 0, [], hcs, ⟨rfl, by omega, fun j hj => absurd hj (by omega), by simp⟩⟩
  · simp at hcs
    subst hcs
    simp only [if_true] at hz
    unfold maxLen at hm
    refine ⟨_, _, _, zs.take l, rfl, ⟨by rw [List.length_take]; omega, by omega, fun j hj => ?_, fun x hx => hwz x (List.mem_of_mem_take hx)⟩⟩
    obtain ⟨b, o, spot⟩ := x
    have hspot : spot = none := by simpa [Addr.add] using World.cell?_spot (hcell 0 (by omega))
    subst hspot
    refine ⟨b, o, rfl, fun i hi => ?_⟩
    have := hcell i (by omega)
    rw [add_plain] at this
    rw [this]
    congr 2
    simp [List.getD_eq_getElem?_getD, hi]
theorem open_nums {t e : TypeId} {k : IntKind} {v : Value} {d : DataW H} {ps : List MemPlace} {r : Reach} {b0 : Nat} (ht : P.underlying t = some (.slice e)) (he : P.underlying e = some (.int k)) (hc : P.cellsOf e = 1)
    (hval : Value.okWide P w r b0 t v) (h : DataW.Trod enc P w 0 (fun _ => true) true t v d ps) : ∃ A len cap zs, v = .slice A len cap ∧ Nums w k A len zs := by
  obtain ⟨A, len, cap, rfl⟩ := okWide_slice ht hval
  obtain ⟨fuel, hf⟩ := h
  exact trod_nums ht he hc (by simpa [Value.cells] using hf)
end

/-- A fact kept from the walk. -/
theorem hid {p : Prop} (h : p) : Hid p := h

/-- The world is the old one, some orders having been drawn. -/
def Drawn (w w' : World) : Prop := ∃ n, w' = w.drewN n
theorem Drawn.refl (w : World) : Drawn w w := ⟨0, rfl⟩
theorem Drawn.drewN (w : World) (n : Nat) : Drawn w (w.drewN n) := ⟨n, rfl⟩
theorem Drawn.trans {a b c : World} (h : Drawn a b) (k : Drawn b c) : Drawn a c := by
  obtain ⟨n, rfl⟩ := h
  obtain ⟨m, rfl⟩ := k
  exact ⟨n + m, World.drewN_drewN ..⟩
theorem below_drewN {B : Nat} {w W : World} (h : Below B w W) (n : Nat) : Below B w (W.drewN n) := ⟨h.os, h.tape, h.output, h.size, h.block⟩
theorem Drawn.below {w w' : World} (h : Drawn w w') (B : Nat) : Below B w w' := by
  obtain ⟨n, rfl⟩ := h
  exact below_drewN (Below.refl B w) n
end Go.Proofs.Ytlmjngkblmfdmaa.Kit
