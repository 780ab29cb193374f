import Derived.Test.YtpncgfdnilmhhaaKit
import Derived.Lib.SmallJoins
set_option linter.unusedVariables false
set_option linter.unusedSimpArgs false
namespace Go.Proofs.Ytpncgfdnilmhhaa.Sheet
open Go.RowKit Go.ChangeShapes Go.WideShapes Go.Proofs.Ytpncgfdnilmhhaa.Kit Go.Joins Go.Deep
theorem array6 {α : Type} {cs : Array α} (h : cs.size = 6) : ∃ c0 c1 c2 c3 c4 c5, cs = #[c0, c1, c2, c3, c4, c5] := by
  obtain ⟨l⟩ := cs
  match l, h with
  | [c0, c1, c2, c3, c4, c5], _ => exact ⟨c0, c1, c2, c3, c4, c5, rfl⟩
section
variable {H : Type} {enc : TypeId × Value → H} {P : Program} {w : World} {base : Nat} {spare : Nat → Bool} {held : Bool}
theorem open_agg6 {r : Reach} {b0 : Nat} {t : TypeId} {f0 f1 f2 f3 f4 f5 : Field} {v : Value} {d : DataW H} {p : List MemPlace} (hs : P.underlying t = some (.struct #[f0, f1, f2, f3, f4, f5])) (hone : oneCellFields P #[f0, f1, f2, f3, f4, f5] = true) (hC : P.cellsOf t = 6)
    (hv : Value.okWide P w r b0 t v) (h : DataW.Trod enc P w base spare held t v d p) :
    ∃ (v0 v1 v2 v3 v4 v5 : Value) (y0 y1 y2 y3 y4 y5 : DataW H × List MemPlace) (n : Nat), v = .agg #[v0, v1, v2, v3, v4, v5] ∧
      DataW.trod enc P w base spare held n f0.type [v0] = some y0 ∧ DataW.trod enc P w base spare held n f1.type [v1] = some y1 ∧ DataW.trod enc P w base spare held n f2.type [v2] = some y2 ∧ DataW.trod enc P w base spare held n f3.type [v3] = some y3 ∧ DataW.trod enc P w base spare held n f4.type [v4] = some y4 ∧ DataW.trod enc P w base spare held n f5.type [v5] = some y5 := by
  obtain ⟨cs, rfl, hsz⟩ := okWide_struct hs hv
  obtain ⟨c0, c1, c2, c3, c4, c5, rfl⟩ := array6 (hsz.trans hC)
  obtain ⟨fuel, hf⟩ := h
  obtain ⟨xs, n, _, _, hl, hlen, hf⟩ := DataW.trod_struct hs hf
  match xs, hlen with
  | [y0, y1, y2, y3, y4, y5], _ =>
    obtain ⟨o0, k0⟩ := hone_of hone 0 f0 rfl
    obtain ⟨o1, k1⟩ := hone_of hone 1 f1 rfl
    obtain ⟨o2, k2⟩ := hone_of hone 2 f2 rfl
    obtain ⟨o3, k3⟩ := hone_of hone 3 f3 rfl
    obtain ⟨o4, k4⟩ := hone_of hone 4 f4 rfl
    obtain ⟨o5, k5⟩ := hone_of hone 5 f5 rfl
    have h0 := hf 0 f0 rfl
    have h1 := hf 1 f1 rfl
    have h2 := hf 2 f2 rfl
    have h3 := hf 3 f3 rfl
    have h4 := hf 4 f4 rfl
    have h5 := hf 5 f5 rfl
    rw [o0, k0] at h0
    rw [o1, k1] at h1
    rw [o2, k2] at h2
    rw [o3, k3] at h3
    rw [o4, k4] at h4
    rw [o5, k5] at h5
    exact ⟨c0, c1, c2, c3, c4, c5, y0, y1, y2, y3, y4, y5, n, rfl, by simpa [Value.cells] using h0, by simpa [Value.cells] using h1, by simpa [Value.cells] using h2, by simpa [Value.cells] using h3, by simpa [Value.cells] using h4, by simpa [Value.cells] using h5⟩
end
/-- A sheet as an argument. -/
theorem open_sheet {H : Type} {enc : TypeId × Value → H} {W : World} {r : Reach} {b0 : Nat} {v : Value} {d : DataW H} {p : List MemPlace}
    (hv : Value.okWide Try.prog W r b0 25 v) (h : DataW.Trod enc Try.prog W 0 (fun _ => true) true 25 v d p) :
    ∃ (K E S a F : Int) (A : Option Addr) (n c : Nat) (xs : List Int), v = .agg #[.int .u8 K, .int .u64 E, .int .u64 S, .int .i64 a, .int .i64 F, .slice A n c] ∧ (0 ≤ K ∧ K ≤ 255) ∧ (0 ≤ E ∧ E ≤ 18446744073709551615) ∧ (0 ≤ S ∧ S ≤ 18446744073709551615) ∧ Nums W .u8 A n xs := by
  obtain ⟨v0, v1, v2, v3, v4, v5, y0, y1, y2, y3, y4, y5, m, rfl, h0, h1, h2, h3, h4, h5⟩ := open_agg6 Try.underlying25 (by kernel_rfl) (by kernel_rfl) hv h
  obtain ⟨K, e0, -, g0⟩ := DataW.trod_int Try.underlying5 h0
  obtain ⟨E, e1, -, g1⟩ := DataW.trod_int Try.underlying22 h1
  obtain ⟨S, e2, -, g2⟩ := DataW.trod_int Try.underlying22 h2
  obtain ⟨a, e3, -, -⟩ := DataW.trod_int Try.underlying3 h3
  obtain ⟨F, e4, -, -⟩ := DataW.trod_int Try.underlying3 h4
  obtain ⟨A, n, c, bad, rfl, hnc, hz⟩ := trod_nums Try.underlying23 Try.underlying5 (by kernel_rfl) h5
  simp only [List.cons.injEq, and_true] at e0 e1 e2 e3 e4
  subst e0; subst e1; subst e2; subst e3; subst e4
  exact ⟨K, E, S, a, F, A, n, c, bad, rfl, wf_u8 g0, wf_u64 g1, wf_u64 g2, hz⟩
end Go.Proofs.Ytpncgfdnilmhhaa.Sheet
