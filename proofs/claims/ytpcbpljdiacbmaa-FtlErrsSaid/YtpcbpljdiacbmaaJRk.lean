import Derived.Test.YtpcbpljdiacbmaaJKit
set_option linter.unusedVariables false
set_option linter.unusedSimpArgs false
namespace Go.Proofs.Ytpcbpljdiacbmaa.Kit
open Go.RowKit Go.ChangeShapes Go.WideShapes Go.Deep

/-! What the rows open their arguments with. -/
theorem wf_u16 {n : Int} (h : (Lit.int .u16 n).wf = true) : 0 ≤ n ∧ n ≤ 65535 := by
  simpa [Lit.wf, IntKind.min, IntKind.max, IntKind.signed, IntKind.bits] using h
section
variable {H : Type} {enc : TypeId × Value → H} {P : Program} {w : World}
theorem open_nums {t e : TypeId} {k : IntKind} {v : Value} {d : DataW H} {ps : List MemPlace} {r : Reach} {b0 : Nat} (ht : P.underlying t = some (.slice e)) (he : P.underlying e = some (.int k)) (hc : P.cellsOf e = 1)
    (hval : Value.okWide P w r b0 t v) (h : DataW.Trod enc P w 0 (fun _ => true) true t v d ps) : ∃ A len cap zs, v = .slice A len cap ∧ len ≤ cap ∧ Nums w k A len zs := by
  obtain ⟨A, len, cap, rfl⟩ := okWide_slice ht hval
  obtain ⟨fuel, hf⟩ := h
  exact trod_nums ht he hc (by simpa [Value.cells] using hf)
end
end Go.Proofs.Ytpcbpljdiacbmaa.Kit
