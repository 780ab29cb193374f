import Derived.Test.YtpcbpljdiacbmaaJSheetRead
import Derived.Test.YtpcbpljdiacbmaaJNandZ
import Derived.Laws.ResultCell
set_option linter.unusedVariables false
set_option linter.unusedSimpArgs false
namespace Go.Proofs.Ytpcbpljdiacbmaa.Log
open Go.RowKit Go.Proofs.Ytpcbpljdiacbmaa.Kit Go.Proofs.Ytpcbpljdiacbmaa.Oct Go.Proofs.Ytpcbpljdiacbmaa.Sheet Go.Proofs.Ytpcbpljdiacbmaa.Nand

/-! What the logbook's blocks tell. -/
def up (x : Nat × Nat) : Option (Nat × Nat) → Nat × Nat
 | some y => if x.1 < y.1 then y else x
 | none => x
def best (l : List (Option (Nat × Nat))) : Nat × Nat := l.foldl up (0, 0)
/-- Of a fresh block: its cells are the caller's no more than any above. -/
theorem ArrB.own {w0 w : World} {b g : Nat} {N : NA} (h : ArrB w0 w b N) (hg : w.heap.size ≤ g) {w' : World} (hB : Below w.heap.size w w') (i : Nat) (v : Value) : ArrB w0 (w'.setCell ⟨g, i, none⟩ v) b N :=
 h.later (hB.setCell (p := (⟨g, i, none⟩ : Addr)) hg v)

end Go.Proofs.Ytpcbpljdiacbmaa.Log

set_option linter.unusedVariables false
set_option linter.unusedSimpArgs false
namespace Go.Proofs.Ytpcbpljdiacbmaa.Log
open Go.RowKit Go.Proofs.Ytpcbpljdiacbmaa.Kit Go.Proofs.Ytpcbpljdiacbmaa.Oct Go.Proofs.Ytpcbpljdiacbmaa.Sheet Go.Proofs.Ytpcbpljdiacbmaa.Nand

theorem blk_four {w : World} {g : Nat} {v0 v1 v2 v3 : Value} {T : TypeId} (h : Blk w g #[v0, v1, v2, v3] T) : (w.cell? ⟨g, 0, none⟩ = some v0 ∧ w.cell? ⟨g, 1, none⟩ = some v1 ∧ w.cell? ⟨g, 2, none⟩ = some v2 ∧ w.cell? ⟨g, 3, none⟩ = some v3) ∧ (w.frozen? ⟨g, 0, none⟩ = false ∧ w.frozen? ⟨g, 1, none⟩ = false ∧ w.frozen? ⟨g, 2, none⟩ = false ∧ w.frozen? ⟨g, 3, none⟩ = false) := ⟨⟨h.cell 0, h.cell 1, h.cell 2, h.cell 3⟩, h.free 0, h.free 1, h.free 2, h.free 3⟩

end Go.Proofs.Ytpcbpljdiacbmaa.Log

set_option linter.unusedVariables false
set_option linter.unusedSimpArgs false
namespace Go.Proofs.Ytpcbpljdiacbmaa.Log
open Go.RowKit Go.Proofs.Ytpcbpljdiacbmaa.Kit Go.Proofs.Ytpcbpljdiacbmaa.Oct Go.Proofs.Ytpcbpljdiacbmaa.Sheet Go.Proofs.Ytpcbpljdiacbmaa.Nand

end Go.Proofs.Ytpcbpljdiacbmaa.Log
