import Derived.Test.YtnlidokfmpfepaaPmapPlays
set_option linter.unusedVariables false
set_option linter.unusedSimpArgs false
namespace Go.Proofs.Ytnlidokfmpfepaa.Pmap
open Go.RowKit Go.Proofs.Ytnlidokfmpfepaa.Kit Go.ChangeShapes Go.WideShapes

theorem open_macts {H : Type} {enc : TypeId × Value → H} {w : World} {v : Value} {d : DataW H} {ps : List MemPlace} {r : Reach} {b0 : Nat}
    (hval : Value.okWide Try.prog w r b0 51 v) (h : DataW.Trod enc Try.prog w 0 (fun _ => true) true 51 v d ps) :
    ∃ C m c ys, v = .slice C m c ∧ Recs w C m 5 MAct.enc MAct.ok ys := by
  obtain ⟨C, m, c, ys, e, -, hr⟩ := open_recs MAct.enc MAct.ok Try.underlying51 Try.underlying54 (by kernel_rfl) (by kernel_rfl) (by decide) hval h (fun c n hc => by
    obtain ⟨y0, h0⟩ := hc 0 _ rfl
    obtain ⟨x0, e0, -, w0⟩ := DataW.trod_int Try.underlying5 h0
    injection e0 with e0 _
    obtain ⟨y1, h1⟩ := hc 1 _ rfl
    obtain ⟨x1, e1, -, w1⟩ := DataW.trod_int Try.underlying3 h1
    injection e1 with e1 _
    obtain ⟨y2, h2⟩ := hc 2 _ rfl
    obtain ⟨x2, e2, -, w2⟩ := DataW.trod_int Try.underlying3 h2
    injection e2 with e2 _
    obtain ⟨y3, h3⟩ := hc 3 _ rfl
    obtain ⟨x3, e3, -, w3⟩ := DataW.trod_int Try.underlying3 h3
    injection e3 with e3 _
    obtain ⟨y4, h4⟩ := hc 4 _ rfl
    obtain ⟨x4, e4, -⟩ := DataW.trod_bool Try.underlying4 h4
    injection e4 with e4 _
    refine ⟨⟨x0, x1, x2, x3, x4⟩, fun k u hk => ?_, wf_u8 w0, wf_i64 w1, wf_i64 w2, wf_i64 w3⟩
    match k with
    | 0 =>
      injection hk with hk
      exact ⟨by decide, e0.trans hk⟩
    | 1 =>
      injection hk with hk
      exact ⟨by decide, e1.trans hk⟩
    | 2 =>
      injection hk with hk
      exact ⟨by decide, e2.trans hk⟩
    | 3 =>
      injection hk with hk
      exact ⟨by decide, e3.trans hk⟩
    | 4 =>
      injection hk with hk
      exact ⟨by decide, e4.trans hk⟩
    | (k + 5) => cases hk)
  exact ⟨C, m, c, ys, e, hr⟩
theorem law_plays' (n : Int) (hn : -9223372036854775808 ≤ n ∧ n ≤ 9223372036854775807) (m : Int) (hm : -9223372036854775808 ≤ m ∧ m ≤ 9223372036854775807) (C : Option Addr) (mm d : Nat) (ys : Nat → MAct) (w : World) (hy : Recs w C mm 5 MAct.enc MAct.ok ys) :
    Calls Try.prog 6 #[.int .i64 n, .int .i64 m, .slice C mm d] w fun e w' => e = .returned (.bool true) ∧ Below w.heap.size w w' :=
  law_plays n m hn hm C mm d ys w hy
end Go.Proofs.Ytnlidokfmpfepaa.Pmap
