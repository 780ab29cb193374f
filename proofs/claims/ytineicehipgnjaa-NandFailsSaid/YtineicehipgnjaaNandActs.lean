import Derived.Test.YtineicehipgnjaaNandLawF
set_option linter.unusedVariables false
set_option linter.unusedSimpArgs false
namespace Go.Proofs.Ytineicehipgnjaa.Nand
open Go.RowKit Go.Proofs.Ytineicehipgnjaa.Kit Go.ChangeShapes Go.WideShapes

theorem open_nacts {H : Type} {enc : TypeId × Value → H} {w : World} {v : Value} {d : DataW H} {ps : List MemPlace} {r : Reach} {b0 : Nat}
    (hval : Value.okWide Try.prog w r b0 40 v) (h : DataW.Trod enc Try.prog w 0 (fun _ => true) true 40 v d ps) :
    ∃ C m c ys, v = .slice C m c ∧ Recs w C m 8 NAct.enc NAct.ok ys := by
  obtain ⟨C, m, c, ys, e, -, hr⟩ := open_recs NAct.enc NAct.ok Try.underlying40 Try.underlying43 (by kernel_rfl) (by kernel_rfl) (by decide) hval h (fun c n hc => by
    obtain ⟨y0, h0⟩ := hc 0 _ rfl
    obtain ⟨x0, e0, -, w0⟩ := DataW.trod_int Try.underlying5 h0
    injection e0 with e0 _
    obtain ⟨y1, h1⟩ := hc 1 _ rfl
    obtain ⟨x1, e1, -, w1⟩ := DataW.trod_int Try.underlying3 h1
    injection e1 with e1 _
    obtain ⟨y2, h2⟩ := hc 2 _ rfl
    obtain ⟨x2, e2, -, w2⟩ := DataW.trod_int Try.underlying3 h2
    injection e2 with e2 _
    obtain ⟨y3, h3⟩ := hc 3 _ rfl
    obtain ⟨x3, e3, -⟩ := DataW.trod_bool Try.underlying4 h3
    injection e3 with e3 _
    obtain ⟨y4, h4⟩ := hc 4 _ rfl
    obtain ⟨x4, e4, -, w4⟩ := DataW.trod_int Try.underlying5 h4
    injection e4 with e4 _
    obtain ⟨y5, h5⟩ := hc 5 _ rfl
    obtain ⟨x5, e5, -, w5⟩ := DataW.trod_int Try.underlying5 h5
    injection e5 with e5 _
    obtain ⟨y6, h6⟩ := hc 6 _ rfl
    obtain ⟨x6, e6, -, w6⟩ := DataW.trod_int Try.underlying30 h6
    injection e6 with e6 _
    obtain ⟨y7, h7⟩ := hc 7 _ rfl
    obtain ⟨x7, e7, -, w7⟩ := DataW.trod_int Try.underlying3 h7
    injection e7 with e7 _
    refine ⟨⟨x0, x1, x2, x3, x4, x5, x6, x7⟩, fun k u hk => ?_, wf_u8 w0, wf_u8 w4, wf_u64 w6⟩
    match k with
    | 0 =>
      injection hk with hk
      exact ⟨by decide, e0.trans hk⟩
    | 1 =>
      injection hk with hk
      exact ⟨by decide, e1.trans hk⟩
    | 2 =>
      injection hk with hk
      exact ⟨by decide, e2.trans hk⟩
    | 3 =>
      injection hk with hk
      exact ⟨by decide, e3.trans hk⟩
    | 4 =>
      injection hk with hk
      exact ⟨by decide, e4.trans hk⟩
    | 5 =>
      injection hk with hk
      exact ⟨by decide, e5.trans hk⟩
    | 6 =>
      injection hk with hk
      exact ⟨by decide, e6.trans hk⟩
    | 7 =>
      injection hk with hk
      exact ⟨by decide, e7.trans hk⟩
    | (k + 8) => cases hk)
  exact ⟨C, m, c, ys, e, hr⟩
end Go.Proofs.Ytineicehipgnjaa.Nand
