import Derived.Test.YtnlidokfmpfepaaKit
import Derived.Lib.SmallJoins
set_option linter.unusedVariables false
set_option linter.unusedSimpArgs false
namespace Go.Proofs.Ytnlidokfmpfepaa.Pmap
open Go.RowKit Go.ChangeShapes Go.WideShapes Go.Proofs.Ytnlidokfmpfepaa.Kit
/-- A place as an argument. -/
theorem open_place {H : Type} {enc : TypeId × Value → H} {W : World} {r : Reach} {b0 : Nat} {v : Value} {d : DataW H} {p : List MemPlace}
    (hv : Value.okWide Try.prog W r b0 28 v) (h : DataW.Trod enc Try.prog W 0 (fun _ => true) true 28 v d p) :
    ∃ (B P : Int), v = .agg #[.int .i64 B, .int .i64 P] := by
  obtain ⟨v0, v1, y0, y1, m, rfl, rfl, rfl, h0, h1⟩ := Go.Joins.open_agg2 Try.underlying28 (by kernel_rfl) (by kernel_rfl) hv h
  obtain ⟨B, e0, -, -⟩ := DataW.trod_int Try.underlying3 h0
  obtain ⟨P, e1, -, -⟩ := DataW.trod_int Try.underlying3 h1
  simp only [List.cons.injEq, and_true] at e0 e1
  subst e0; subst e1
  exact ⟨B, P, rfl⟩
end Go.Proofs.Ytnlidokfmpfepaa.Pmap
