import Derived.Test.YtcfildbgnjhjmaaLogB
import Derived.Test.YtcfildbgnjhjmaaRecs2
set_option linter.unusedVariables false
set_option linter.unusedSimpArgs false
namespace Go.Proofs.Ytcfildbgnjhjmaa.Log
open Go.RowKit Go.Proofs.Ytcfildbgnjhjmaa.Kit Go.ChangeShapes Go.WideShapes

structure LAct where
  kind : Int
  up : Int
  who : Int
  n : Int
  e : Int
  a : Int
instance : Inhabited LAct := ⟨⟨0, 0, 0, 0, 0, 0⟩⟩
def LAct.enc (x : LAct) : List Value := [.int .u8 x.kind, .int .u8 x.up, .int .u8 x.who, .int .i64 x.n, .int .u64 x.e, .int .i64 x.a]
def LAct.ok (_ : World) (x : LAct) : Prop := (0 ≤ x.kind ∧ x.kind ≤ 255) ∧ (0 ≤ x.up ∧ x.up ≤ 255) ∧ (0 ≤ x.who ∧ x.who ≤ 255) ∧ (0 ≤ x.e ∧ x.e ≤ 18446744073709551615) ∧ (-9223372036854775808 ≤ x.a ∧ x.a ≤ 9223372036854775807)
theorem list6 {α : Type} {l : List α} (h : l.length = 6) : ∃ c0 c1 c2 c3 c4 c5, l = [c0, c1, c2, c3, c4, c5] := by
  match l, h with
  | [c0, c1, c2, c3, c4, c5], _ => exact ⟨c0, c1, c2, c3, c4, c5, rfl⟩
set_option maxRecDepth 100000 in
theorem open_lacts {H : Type} {enc : TypeId × Value → H} {w : World} {v : Value} {d : DataW H} {ps : List MemPlace} {r : Reach} {b0 : Nat}
    (hval : Value.okWide Try.prog w r b0 22 v) (h : DataW.Trod enc Try.prog w 0 (fun _ => true) true 22 v d ps) :
    ∃ C m c ys, v = .slice C m c ∧ Recs w C m 6 LAct.enc LAct.ok ys := by
  obtain ⟨C, m, c, ys, e, -, hr⟩ := open_recs2 LAct.enc LAct.ok (C := 6) Try.underlying22 Try.underlying32 (by kernel_rfl) (by decide) hval h (fun cs n hl hc => by
    obtain ⟨c0, c1, c2, c3, c4, c5, rfl⟩ := list6 hl
    have k5 : Try.prog.cellsOf 5 = 1 := by kernel_rfl
    have k3 : Try.prog.cellsOf 3 = 1 := by kernel_rfl
    have k28 : Try.prog.cellsOf 28 = 1 := by kernel_rfl
    have kE : Try.prog.cellsOf 30 = 2 := by kernel_rfl
    have one : ∀ (T : TypeId) (o : Nat) (u : Value) (y : DataW H × List MemPlace), Try.prog.cellsOf T = 1 → DataW.trod enc Try.prog w 0 (fun _ => true) true n T (([c0, c1, c2, c3, c4, c5].drop o).take (Try.prog.cellsOf T)) = some y → [c0, c1, c2, c3, c4, c5][o]? = some u → DataW.trod enc Try.prog w 0 (fun _ => true) true n T [u] = some y := fun T o u y hT h hu => by
      rw [hT] at h
      obtain ⟨ho, hg⟩ := List.getElem?_eq_some_iff.1 hu
      rw [List.drop_eq_getElem_cons ho, hg] at h
      exact h
    obtain ⟨y0, h0⟩ := hc 0 _ rfl
    obtain ⟨x0, e0, -, w0⟩ := DataW.trod_int Try.underlying5 (one 5 0 c0 y0 k5 h0 rfl)
    injection e0 with e0 _
    obtain ⟨y1, h1⟩ := hc 1 _ rfl
    obtain ⟨x1, e1, -, w1⟩ := DataW.trod_int Try.underlying5 (one 5 1 c1 y1 k5 h1 rfl)
    injection e1 with e1 _
    obtain ⟨y2, h2⟩ := hc 2 _ rfl
    obtain ⟨x2, e2, -, w2⟩ := DataW.trod_int Try.underlying5 (one 5 2 c2 y2 k5 h2 rfl)
    injection e2 with e2 _
    obtain ⟨y3, h3⟩ := hc 3 _ rfl
    obtain ⟨x3, e3, -, w3⟩ := DataW.trod_int Try.underlying3 (one 3 3 c3 y3 k3 h3 rfl)
    injection e3 with e3 _
    obtain ⟨y4, h4⟩ := hc 4 _ rfl
    have h4 : DataW.trod enc Try.prog w 0 (fun _ => true) true n 30 (([c0, c1, c2, c3, c4, c5].drop 4).take (Try.prog.cellsOf 30)) = some y4 := h4
    rw [kE] at h4
    have h4 : DataW.trod enc Try.prog w 0 (fun _ => true) true n 30 [c4, c5] = some y4 := h4
    obtain ⟨zs, n', _, _, hzl, hzn, hz⟩ := DataW.trod_struct Try.underlying30 h4
    match zs, hzn with
    | [z0, z1], _ =>
      have g0 := hz 0 _ rfl
      have g1 := hz 1 _ rfl
      have g0 : DataW.trod enc Try.prog w 0 (fun _ => true) true n' 28 (([c4, c5].drop 0).take (Try.prog.cellsOf 28)) = some z0 := g0
      have g1 : DataW.trod enc Try.prog w 0 (fun _ => true) true n' 3 (([c4, c5].drop 1).take (Try.prog.cellsOf 3)) = some z1 := g1
      rw [k28] at g0
      rw [k3] at g1
      have g0 : DataW.trod enc Try.prog w 0 (fun _ => true) true n' 28 [c4] = some z0 := g0
      have g1 : DataW.trod enc Try.prog w 0 (fun _ => true) true n' 3 [c5] = some z1 := g1
      obtain ⟨x4, e4, -, w4⟩ := DataW.trod_int Try.underlying28 g0
      injection e4 with e4 _
      obtain ⟨x5, e5, -, w5⟩ := DataW.trod_int Try.underlying3 g1
      injection e5 with e5 _
      subst e0; subst e1; subst e2; subst e3; subst e4; subst e5
      exact ⟨⟨x0, x1, x2, x3, x4, x5⟩, fun k u hk => hk, wf_u8 w0, wf_u8 w1, wf_u8 w2, wf_u64 w4, wf_i64 w5⟩)
  exact ⟨C, m, c, ys, e, hr⟩
end Go.Proofs.Ytcfildbgnjhjmaa.Log
