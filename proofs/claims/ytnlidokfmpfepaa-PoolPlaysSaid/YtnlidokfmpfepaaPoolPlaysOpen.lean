import Derived.Test.YtnlidokfmpfepaaPoolPlays
set_option linter.unusedVariables false
set_option linter.unusedSimpArgs false
namespace Go.Proofs.Ytnlidokfmpfepaa.Pool
open Go.RowKit Go.Proofs.Ytnlidokfmpfepaa.Kit Go.ChangeShapes Go.WideShapes

theorem open_acts {H : Type} {enc : TypeId × Value → H} {w : World} {v : Value} {d : DataW H} {ps : List MemPlace} {r : Reach} {b0 : Nat}
    (hval : Value.okWide Try.prog w r b0 36 v) (h : DataW.Trod enc Try.prog w 0 (fun _ => true) true 36 v d ps) :
    ∃ C m c ys, v = .slice C m c ∧ Recs w C m 2 PAct.enc PAct.ok ys := by
  obtain ⟨C, m, c, ys, e, -, hr⟩ := open_recs PAct.enc PAct.ok Try.underlying36 Try.underlying43 (by kernel_rfl) (by kernel_rfl) (by decide) hval h (fun c n hc => by
    obtain ⟨y0, h0⟩ := hc 0 _ rfl
    obtain ⟨x0, e0, -, w0⟩ := DataW.trod_int Try.underlying3 h0
    obtain ⟨y1, h1⟩ := hc 1 _ rfl
    obtain ⟨x1, e1, -, w1⟩ := DataW.trod_int Try.underlying5 h1
    injection e0 with e0 _
    injection e1 with e1 _
    refine ⟨⟨x0, x1⟩, fun k u hk => ?_, w0, wf_u8 w1⟩
    match k with
    | 0 =>
      injection hk with hk
      exact ⟨by decide, e0.trans hk⟩
    | 1 =>
      injection hk with hk
      exact ⟨by decide, e1.trans hk⟩
    | (k + 2) => cases hk)
  exact ⟨C, m, c, ys, e, hr⟩
theorem law_plays' (A : Option Addr) (n c : Nat) (xs : List Int) (C : Option Addr) (m d : Nat) (ys : Nat → PAct) (w : World) (hz : n ≤ c ∧ Nums w .i64 A n xs) (hy : Recs w C m 2 PAct.enc PAct.ok ys) :
    Calls Try.prog 4 #[.slice A n c, .slice C m d] w fun e w' => e = .returned (.bool true) ∧ Below w.heap.size w w' :=
  law_plays A n c xs C m d ys w hz.2 hz.1 hy
end Go.Proofs.Ytnlidokfmpfepaa.Pool
