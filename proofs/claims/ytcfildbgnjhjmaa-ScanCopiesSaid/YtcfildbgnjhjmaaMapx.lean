import Derived.Test.YtcfildbgnjhjmaaKit
import Derived.Maps.RangeWalk
set_option linter.unusedVariables false
set_option linter.unusedSimpArgs false
namespace Go.Proofs.Ytcfildbgnjhjmaa.Kit
open Go.RowKit Go.Maps

/-! A map from ints, as it stands: whatever its elements are. -/
theorem lawInt : Keyed Try.prog 3 := int_keyed Try.underlying3
def kwf (k : Int) : Prop := (Lit.int .i64 k).wf = true
theorem kwf_of {k : Int} (h : -9223372036854775808 ≤ k ∧ k ≤ 9223372036854775807) : kwf k := by
  unfold kwf
  simp [Lit.wf, IntKind.min, IntKind.max, IntKind.signed, IntKind.bits]
  omega
/-- An element is read as the value that it is. -/
def valR (v : Value) : Option (DataW Value × List MemPlace) := some (.held v, [])
/-- The map in block g, of s entries: at k it has f k. -/
def Mx (w : World) (g n : Nat) (f : Int → Option Value) (s : Nat) : Prop :=
  ∃ D, w.ownsMap Try.prog 3 valR g n D ∧ Maps.size D = s ∧ ∀ k, kwf k → (f k = none → Maps.has D (.int .i64 k) = false) ∧ ∀ v, f k = some v → Maps.has D (.int .i64 k) = true ∧ ∀ z, D.atKey (.int .i64 k) z = .held v
theorem Mx.lt {w : World} {g n s : Nat} {f : Int → Option Value} (h : Mx w g n f s) : g < w.heap.size := by
  obtain ⟨D, ho, -⟩ := h
  exact ho.lt
theorem Mx.kept {w w' : World} {g n s : Nat} {f : Int → Option Value} {row : Option Nat} (h : Mx w g n f s) (hg : w.grownBy w' row) (hne : some g ≠ row) : Mx w' g n f s := by
  obtain ⟨D, ho, r⟩ := h
  exact ⟨D, ho.kept hg hne, r⟩
theorem Mx.later {w w' : World} {g n s : Nat} {f : Int → Option Value} (h : Mx w g n f s) (hB : Below w.heap.size w w') : Mx w' g n f s := h.kept (row := none) (grown_of_below hB none) (by simp)
theorem Mx.setCell {w : World} {g n s : Nat} {f : Int → Option Value} (h : Mx w g n f s) {a : Addr} (ha : g ≠ a.block) (u : Value) : Mx (w.setCell a u) g n f s := by
  obtain ⟨D, ho, r⟩ := h
  exact ⟨D, ho.setCell ha u, r⟩
theorem Mx.new (w : World) : Mx (w.alloc (.map #[] 0)) w.heap.size 0 (fun _ => none) 0 :=
  ⟨_, World.ownsMap_made w _ _ _, rfl, fun k hk => ⟨fun _ => rfl, fun v hv => by cases hv⟩⟩
theorem Mx.mono {w : World} {g n n' s : Nat} {f : Int → Option Value} (h : Mx w g n f s) (hn : n ≤ n') : Mx w g n' f s := by
  obtain ⟨D, ho, r⟩ := h
  exact ⟨D, ho.mono hn, r⟩
theorem Mx.congr {w : World} {g n s : Nat} {f f' : Int → Option Value} (h : Mx w g n f s) (he : ∀ k, kwf k → f' k = f k) : Mx w g n f' s := by
  obtain ⟨D, ho, hs, r⟩ := h
  exact ⟨D, ho, hs, fun k hk => by rw [he k hk]; exact r k hk⟩
theorem Mx.look {w : World} {g n s : Nat} {f : Int → Option Value} {t e : TypeId} (h : Mx w g n f s) (ht : Try.prog.underlying t = some (.map 3 e)) {z : Value} (hz : (zeroValue e).run Try.prog w = .ok z w) (k : Int) (hk : kwf k) :
    (Instr.lookup t (.map (some g)) (.int .i64 k) false).run Try.prog w = .ok ((f k).getD z) w := by
  obtain ⟨D, ho, hs, r⟩ := h
  obtain ⟨r1, r2⟩ := r k hk
  obtain ⟨v, ps, hrun, hv⟩ := ho.lookup lawInt ht hz (zd := .held z) (zp := []) rfl (keyOf_int_mk Try.underlying3 hk)
  rw [hrun]
  unfold valR at hv
  cases hh : f k with
  | none =>
    rw [atKey_of_not_has (r1 hh)] at hv
    simp only [Option.some.injEq, Prod.mk.injEq, DataW.held.injEq] at hv
    rw [hv.1]
    rfl
  | some u =>
    rw [(r2 u hh).2] at hv
    simp only [Option.some.injEq, Prod.mk.injEq, DataW.held.injEq] at hv
    rw [hv.1]
    rfl
theorem Mx.look_ok {w : World} {g n s : Nat} {f : Int → Option Value} {t e : TypeId} (h : Mx w g n f s) (ht : Try.prog.underlying t = some (.map 3 e)) {z : Value} (hz : (zeroValue e).run Try.prog w = .ok z w) (k : Int) (hk : kwf k) :
    (Instr.lookup t (.map (some g)) (.int .i64 k) true).run Try.prog w = .ok (.tuple #[(f k).getD z, .bool (f k).isSome]) w := by
  obtain ⟨D, ho, hs, r⟩ := h
  obtain ⟨r1, r2⟩ := r k hk
  obtain ⟨v, ps, hrun, hv⟩ := ho.look_ok lawInt ht hz (zd := .held z) (zp := []) rfl (keyOf_int_mk Try.underlying3 hk)
  rw [hrun]
  unfold valR at hv
  cases hh : f k with
  | none =>
    have e := r1 hh
    rw [atKey_of_not_has e] at hv
    simp only [Option.some.injEq, Prod.mk.injEq, DataW.held.injEq] at hv
    rw [hv.1, e]
    rfl
  | some u =>
    obtain ⟨e1, e2⟩ := r2 u hh
    rw [e2] at hv
    simp only [Option.some.injEq, Prod.mk.injEq, DataW.held.injEq] at hv
    rw [hv.1, e1]
    rfl
def putF (f : Int → Option Value) (k : Int) (v : Value) : Int → Option Value := fun j => if j = k then some v else f j
def delF (f : Int → Option Value) (k : Int) : Int → Option Value := fun j => if j = k then none else f j
theorem Mx.put {w : World} {g n s : Nat} {f : Int → Option Value} {t e : TypeId} (h : Mx w g n f s) (ht : Try.prog.underlying t = some (.map 3 e)) (hn : n < 100000) (k : Int) (hk : kwf k) (v : Value) :
    ∃ w', (Instr.mapUpdate t (.map (some g)) (.int .i64 k) v).run Try.prog w = .ok () w' ∧ Mx w' g (n + 1) (putF f k v) (if (f k).isSome then s else s + 1) ∧ w.grownBy w' (some g) := by
  obtain ⟨D, ho, hs, r⟩ := h
  obtain ⟨w', hrun, ho', hg⟩ := ho.update lawInt ht (by unfold maxLen; omega) (keyOf_int_mk Try.underlying3 hk) (val := v) (d := .held v) (ps := []) rfl
  have hkl : WideAt.IsKeyLit (Lit.int .i64 k) := trivial
  refine ⟨w', hrun, ⟨_, ho', ?_, fun j hj => ?_⟩, hg⟩
  · rw [size_put (ho.tidy lawInt), hs]
    obtain ⟨r1, r2⟩ := r k hk
    cases hh : f k with
    | none => rw [r1 hh]; rfl
    | some u => rw [(r2 u hh).1]; rfl
  · unfold putF
    by_cases e : j = k
    · subst e
      rw [if_pos rfl]
      refine ⟨(fun x => by cases x), fun u hu => ?_⟩
      cases hu
      exact ⟨has_put_same ho.isMap hkl _, fun z => atKey_put_same ho.isMap hkl _ z⟩
    · rw [if_neg e]
      have hne : (Lit.int .i64 j) ≠ Lit.int .i64 k := fun x => by injection x with _ x; exact e x
      obtain ⟨r1, r2⟩ := r j hj
      exact ⟨fun x => by rw [has_put_other hne]; exact r1 x, fun u hu => ⟨by rw [has_put_other hne]; exact (r2 u hu).1, fun z => by rw [atKey_put_other hne]; exact (r2 u hu).2 z⟩⟩
theorem Mx.del {w : World} {g n s : Nat} {f : Int → Option Value} {t e : TypeId} (h : Mx w g n f s) (ht : Try.prog.underlying t = some (.map 3 e)) (k : Int) (hk : kwf k) (ty : TypeId) :
    ∃ w' s', (Builtin.delete_ #[t, 3] ty #[.map (some g), .int .i64 k]).run Try.prog w = .ok (.tuple #[]) w' ∧ Mx w' g n (delF f k) s' ∧ w.grownBy w' (some g) := by
  obtain ⟨D, ho, hs, r⟩ := h
  obtain ⟨w', hrun, ho', hm⟩ := ho.drop lawInt ht (keyOf_int_mk Try.underlying3 hk) ty
  refine ⟨w', _, hrun, ⟨_, ho', rfl, fun j hj => ?_⟩, hm.grown⟩
  unfold delF
  by_cases e : j = k
  · subst e
    rw [if_pos rfl]
    exact ⟨fun _ => has_del_same, fun u hu => by cases hu⟩
  · rw [if_neg e]
    have hne : (Lit.int .i64 j) ≠ Lit.int .i64 k := fun x => by injection x with _ x; exact e x
    obtain ⟨r1, r2⟩ := r j hj
    exact ⟨fun x => by rw [has_del_other hne]; exact r1 x, fun u hu => ⟨by rw [has_del_other hne]; exact (r2 u hu).1, fun z => by rw [atKey_del_other hne]; exact (r2 u hu).2 z⟩⟩
theorem Mx.len {w : World} {g n s : Nat} {f : Int → Option Value} {t e : TypeId} (h : Mx w g n f s) (ht : Try.prog.underlying t = some (.map 3 e)) (ty : TypeId) : (Builtin.len_ #[t] ty #[.map (some g)]).run Try.prog w = .ok (.int .i64 (s : Int)) w := by
  obtain ⟨D, ho, hs, r⟩ := h
  rw [ho.len ht ty, hs]
theorem Mx.notCells {w : World} {g n s : Nat} {f : Int → Option Value} (h : Mx w g n f s) : ∃ es clock, w.heap[g]? = some (.map es clock) := by
  obtain ⟨D, ⟨es, clock, hb, -⟩, -⟩ := h
  exact ⟨es, clock, hb⟩

/-! Appending a record. -/
section
variable {P : Program} {ops : Array Oper} {rest : List Oper} {o : Oper} {a : Act} {Q : Exit → Act → World → Prop}
theorem append_rec {W : World} (base : Nat) (hgd : o.guard = none) (s x : Operand) (t e : TypeId) (z : Value) (size bytes : Nat)
    (ho : o.op = .call { callee := .builtin .append, args := #[s, x], argTypes := #[t, t] })
    (ht : P.underlying t = some (.slice e)) (hinfo : (P.info? e).map (fun i => (i.zero, i.size, i.bytes)) = some (some z, size, bytes)) (hz : z.cells.size = size) (hsz : 0 < size)
    (v : Value) (n : Nat) (xs : List Value) (cs : Array Value) (hcs : cs.size = size) (hs : a.eval s = v) (hx : a.eval x = .slice (some ⟨W.heap.size, 0, none⟩) 1 1) (h1 : ∀ u ∈ cs.toList, u.oneCell' = true)
    (HO : W.ownsRow base e size v n xs) (hbase : base ≤ W.heap.size) (h63 : n + 1 ≤ 140737488355328) (hl : (n + 1) * bytes ≤ 140737488355328)
    (h : ∀ v1 w1, w1.ownsRow base e size v1 (n + 1) (xs ++ cs.toList) → W.grownBy w1 v.ownBlock → (v1.ownBlock = v.ownBlock ∨ ∃ b, v1.ownBlock = some b ∧ W.heap.size ≤ b) → wpList P ops Q rest (a.put o.dst v1) w1) :
    wpList P ops Q (o :: rest) a (W.alloc (.cells cs e)) := by
  obtain ⟨i0, hi, hz0, hz1, hz2⟩ : ∃ i, P.info? e = some i ∧ i.zero = some z ∧ i.size = size ∧ i.bytes = bytes := by
    cases hh : P.info? e with
    | none => rw [hh] at hinfo; cases hinfo
    | some i =>
      rw [hh] at hinfo
      simp at hinfo
      exact ⟨i, rfl, hinfo.1, hinfo.2.1, hinfo.2.2⟩
  refine wpList_append_own_at (W.alloc (.cells cs e)) hgd s x t ho base e i0 z size bytes ht hi hz0 hz1 hz2 hz hsz v n xs hs (HO.alloc _) ⟨W.heap.size, 0, none⟩ 1 1 cs.toList hx (by simp [hcs])
    (fun j u hj => ?_) h1 (by unfold maxLen; omega) hl (by simp; omega) ?_
  · have hb : (W.alloc (.cells cs e)).heap[W.heap.size]? = some (.cells cs e (0, 0)) := Blk.new W cs e
    exact World.news_of_block hb j u hj
  · intro v1 w1 h1 h2 h3 h4
    refine h v1 w1 h1 ?_ ?_
    · exact (World.grownBy_alloc W _ _).trans h2
    · rcases h4 with h4 | h4
      · exact .inl h4
      · exact .inr ⟨_, h4, by simp⟩
end
end Go.Proofs.Ytcfildbgnjhjmaa.Kit
