import Derived.Test.YtpcbpljdiacbmaaJScanA
import Derived.Laws.Rows
import Derived.Deep.DeepCutAuto
set_option linter.unusedVariables false
set_option linter.unusedSimpArgs false
namespace Go.Proofs.Ytpcbpljdiacbmaa.Scan
open Go.RowKit Go.Proofs.Ytpcbpljdiacbmaa.Kit Go.Proofs.Ytpcbpljdiacbmaa.Oct Go.Proofs.Ytpcbpljdiacbmaa.Sheet Go.Proofs.Ytpcbpljdiacbmaa.Nand Go.Proofs.Ytpcbpljdiacbmaa.Plan

/-! The geometries of the laws. -/
def gB (n : Nat) : Nat := 5 + n % 5
def gP (n : Nat) : Nat := 2 + n / 8 % 4
def gL (n : Nat) : List Int := if n % 3 = 0 ∧ 5 < gB n then [3] else []
def gS (n : Nat) : Nat := if n % 4 = 0 ∧ 7 < gB n then 1 else 0
theorem geo_all : ∀ n : Fin 256, fm (gB n.val : Int) (gP n.val : Int) (gS n.val : Int) (gL n.val) = true := by decide +kernel
theorem geo_four {w : World} {g : Nat} {v0 v1 v2 v3 : Value} {T : TypeId} (h : Blk w g #[v0, v1, v2, v3] T) : w.cell? ⟨g, 0, none⟩ = some v0 ∧ w.cell? ⟨g, 1, none⟩ = some v1 ∧ w.cell? ⟨g, 2, none⟩ = some v2 ∧ w.cell? ⟨g, 3, none⟩ = some v3 := ⟨h.cell 0, h.cell 1, h.cell 2, h.cell 3⟩
theorem nums_one (w : World) (g : Nat) (x : Int) (h : Blk w g #[.int .i64 x] 3) (hx : kwf x) : Nums w .i64 (some ⟨g, 0, none⟩) 1 [x] :=
 ⟨rfl, by omega, fun j hj => ⟨g, 0, rfl, fun i hi => by
  obtain rfl : i = 0 := by omega
  exact h.cell 0⟩, fun y hy => by rw [List.mem_singleton.1 hy]; exact hx⟩

end Go.Proofs.Ytpcbpljdiacbmaa.Scan
