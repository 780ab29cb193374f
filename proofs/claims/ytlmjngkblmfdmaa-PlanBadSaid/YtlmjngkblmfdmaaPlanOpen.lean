import Derived.Test.YtlmjngkblmfdmaaKit
import Derived.Lib.SmallJoins
set_option linter.unusedVariables false
set_option linter.unusedSimpArgs false
namespace Go.Proofs.Ytlmjngkblmfdmaa.Plan
open Go.RowKit Go.ChangeShapes Go.WideShapes Go.Proofs.Ytlmjngkblmfdmaa.Kit
/-- A geometry as an argument. -/
theorem open_geo {H : Type} {enc : TypeId × Value → H} {W : World} {r : Reach} {b0 : Nat} {v : Value} {d : DataW H} {p : List MemPlace}
    (hv : Value.okWide Try.prog W r b0 36 v) (h : DataW.Trod enc Try.prog W 0 (fun _ => true) true 36 v d p) :
    ∃ (B P S : Int) (A : Option Addr) (n c : Nat) (bad : List Int), v = .agg #[.int .i64 B, .int .i64 P, .int .i64 S, .slice A n c] ∧ n ≤ c ∧ Nums W .i64 A n bad := by
  obtain ⟨v0, v1, v2, v3, y0, y1, y2, y3, m, rfl, rfl, rfl, h0, h1, h2, h3⟩ := Go.Joins.open_agg4 Try.underlying36 (by kernel_rfl) (by kernel_rfl) hv h
  obtain ⟨B, e0, -, -⟩ := DataW.trod_int Try.underlying3 h0
  obtain ⟨P, e1, -, -⟩ := DataW.trod_int Try.underlying3 h1
  obtain ⟨S, e2, -, -⟩ := DataW.trod_int Try.underlying3 h2
  obtain ⟨A, n, c, bad, rfl, hnc, hz⟩ := trod_nums Try.underlying34 Try.underlying3 (by kernel_rfl) h3
  simp only [List.cons.injEq, and_true] at e0 e1 e2
  subst e0; subst e1; subst e2
  exact ⟨B, P, S, A, n, c, bad, rfl, hnc, hz⟩
end Go.Proofs.Ytlmjngkblmfdmaa.Plan
