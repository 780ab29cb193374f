import Derived.Test.YtpcbpljdiacbmaaJKit
import Derived.Maps.RangeWalk
import Derived.Test.YtpcbpljdiacbmaaJPlanAll
import Derived.Test.YtpcbpljdiacbmaaJSheetRead
import Derived.Test.YtpcbpljdiacbmaaJNandZ
set_option linter.unusedVariables false
set_option linter.unusedSimpArgs false
namespace Go.Proofs.Ytpcbpljdiacbmaa.Kit
open Go.RowKit Go.Maps

/-! A map from ints, as it stands: whatever its elements are. -/
theorem lawInt : Keyed Try.prog 3 := int_keyed Try.underlying3
def kwf (k : Int) : Prop := (Lit.int .i64 k).wf = true
theorem kwf_of {k : Int} (h : -9223372036854775808 ≤ k ∧ k ≤ 9223372036854775807) : kwf k := by
 unfold kwf
 simp [Lit.wf, IntKind.min, IntKind.max, IntKind.signed, IntKind.bits]
 omega
/-- An element is read as the value that it is. -/
def valR (v : Value) : Option (DataW Value × List MemPlace) := some (.held v, [])
/-- The map in block g, of s entries: at k it has f k. -/
def Mx (w : World) (g n : Nat) (f : Int → Option Value) (s : Nat) : Prop :=
 ∃ D, w.ownsMap Try.prog 3 valR g n D ∧ Maps.size D = s ∧ ∀ k, kwf k → (f k = none → Maps.has D (.int .i64 k) = false) ∧ ∀ v, f k = some v → Maps.has D (.int .i64 k) = true ∧ ∀ z, D.atKey (.int .i64 k) z = .held v
theorem Mx.lt {w : World} {g n s : Nat} {f : Int → Option Value} (h : Mx w g n f s) : g < w.heap.size := by
 obtain ⟨D, ho, -⟩ := h
 exact ho.lt
theorem Mx.kept {w w' : World} {g n s : Nat} {f : Int → Option Value} {row : Option Nat} (h : Mx w g n f s) (hg : w.grownBy w' row) (hne : some g ≠ row) : Mx w' g n f s := by
 obtain ⟨D, ho, r⟩ := h
 exact ⟨D, ho.kept hg hne, r⟩
theorem Mx.later {w w' : World} {g n s : Nat} {f : Int → Option Value} (h : Mx w g n f s) (hB : Below w.heap.size w w') : Mx w' g n f s := h.kept (row := none) (grown_of_below hB none) (by simp)
theorem Mx.setCell {w : World} {g n s : Nat} {f : Int → Option Value} (h : Mx w g n f s) {a : Addr} (ha : g ≠ a.block) (u : Value) : Mx (w.setCell a u) g n f s := by
 obtain ⟨D, ho, r⟩ := h
 exact ⟨D, ho.setCell ha u, r⟩
theorem Mx.new (w : World) : Mx (w.alloc (.map #[] 0)) w.heap.size 0 (fun _ => none) 0 :=
 ⟨_, World.ownsMap_made w _ _ _, rfl, fun k hk => ⟨fun _ => rfl, fun v hv => by cases hv⟩⟩
theorem Mx.mono {w : World} {g n n' s : Nat} {f : Int → Option Value} (h : Mx w g n f s) (hn : n ≤ n') : Mx w g n' f s := by
 obtain ⟨D, ho, r⟩ := h
 exact ⟨D, ho.mono hn, r⟩
theorem Mx.congr {w : World} {g n s : Nat} {f f' : Int → Option Value} (h : Mx w g n f s) (he : ∀ k, kwf k → f' k = f k) : Mx w g n f' s := by
 obtain ⟨D, ho, hs, r⟩ := h
 exact ⟨D, ho, hs, fun k hk => by rw [he k hk]; exact r k hk⟩
theorem Mx.look {w : World} {g n s : Nat} {f : Int → Option Value} {t e : TypeId} (h : Mx w g n f s) (ht : Try.prog.underlying t = some (.map 3 e)) {z : Value} (hz : (zeroValue e).run Try.prog w = .ok z w) (k : Int) (hk : kwf k) :
  (Instr.lookup t (.map (some g)) (.int .i64 k) false).run Try.prog w = .ok ((f k).getD z) w := by
 obtain ⟨D, ho, hs, r⟩ := h
 obtain ⟨r1, r2⟩ := r k hk
 obtain ⟨v, ps, hrun, hv⟩ := ho.lookup lawInt ht hz (zd := .held z) (zp := []) rfl (keyOf_int_mk Try.underlying3 hk)
 rw [hrun]
 unfold valR at hv
 cases hh : f k with
 | none =>
  rw [atKey_of_not_has (r1 hh)] at hv
  simp only [Option.some.injEq, Prod.mk.injEq, DataW.held.injEq] at hv
  rw [hv.1]
  rfl
 | some u =>
  rw [(r2 u hh).2] at hv
  simp only [Option.some.injEq, Prod.mk.injEq, DataW.held.injEq] at hv
  rw [hv.1]
  rfl
theorem Mx.look_ok {w : World} {g n s : Nat} {f : Int → Option Value} {t e : TypeId} (h : Mx w g n f s) (ht : Try.prog.underlying t = some (.map 3 e)) {z : Value} (hz : (zeroValue e).run Try.prog w = .ok z w) (k : Int) (hk : kwf k) :
  (Instr.lookup t (.map (some g)) (.int .i64 k) true).run Try.prog w = .ok (.tuple #[(f k).getD z, .bool (f k).isSome]) w := by
 obtain ⟨D, ho, hs, r⟩ := h
 obtain ⟨r1, r2⟩ := r k hk
 obtain ⟨v, ps, hrun, hv⟩ := ho.look_ok lawInt ht hz (zd := .held z) (zp := []) rfl (keyOf_int_mk Try.underlying3 hk)
 rw [hrun]
 unfold valR at hv
 cases hh : f k with
 | none =>
  have e := r1 hh
  rw [atKey_of_not_has e] at hv
  simp only [Option.some.injEq, Prod.mk.injEq, DataW.held.injEq] at hv
  rw [hv.1, e]
  rfl
 | some u =>
  obtain ⟨e1, e2⟩ := r2 u hh
  rw [e2] at hv
  simp only [Option.some.injEq, Prod.mk.injEq, DataW.held.injEq] at hv
  rw [hv.1, e1]
  rfl
def putF (f : Int → Option Value) (k : Int) (v : Value) : Int → Option Value := fun j => if j = k then some v else f j
def delF (f : Int → Option Value) (k : Int) : Int → Option Value := fun j => if j = k then none else f j
theorem Mx.put {w : World} {g n s : Nat} {f : Int → Option Value} {t e : TypeId} (h : Mx w g n f s) (ht : Try.prog.underlying t = some (.map 3 e)) (hn : n < 100000) (k : Int) (hk : kwf k) (v : Value) :
  ∃ w', (Instr.mapUpdate t (.map (some g)) (.int .i64 k) v).run Try.prog w = .ok () w' ∧ Mx w' g (n + 1) (putF f k v) (if (f k).isSome then s else s + 1) ∧ w.grownBy w' (some g) := by
 obtain ⟨D, ho, hs, r⟩ := h
 obtain ⟨w', hrun, ho', hg⟩ := ho.update lawInt ht (by unfold maxLen; omega) (keyOf_int_mk Try.underlying3 hk) (val := v) (d := .held v) (ps := []) rfl
 have hkl : WideAt.IsKeyLit (Lit.int .i64 k) := trivial
 refine ⟨w', hrun, ⟨_, ho', ?_, fun j hj => ?_⟩, hg⟩
 ·rw [size_put (ho.tidy lawInt), hs]
  obtain ⟨r1, r2⟩ := r k hk
  cases hh : f k with
  | none => rw [r1 hh]; rfl
  | some u => rw [(r2 u hh).1]; rfl
 ·unfold putF
  by_cases e : j = k
  ·subst e
   rw [if_pos rfl]
   refine ⟨(fun x => by cases x), fun u hu => ?_⟩
   cases hu
   exact ⟨has_put_same ho.isMap hkl _, fun z => atKey_put_same ho.isMap hkl _ z⟩
  ·rw [if_neg e]
   have hne : (Lit.int .i64 j) ≠ Lit.int .i64 k := fun x => by injection x with _ x; exact e x
   obtain ⟨r1, r2⟩ := r j hj
   exact ⟨fun x => by rw [has_put_other hne]; exact r1 x, fun u hu => ⟨by rw [has_put_other hne]; exact (r2 u hu).1, fun z => by rw [atKey_put_other hne]; exact (r2 u hu).2 z⟩⟩
theorem Mx.del {w : World} {g n s : Nat} {f : Int → Option Value} {t e : TypeId} (h : Mx w g n f s) (ht : Try.prog.underlying t = some (.map 3 e)) (k : Int) (hk : kwf k) (ty : TypeId) :
  ∃ w' s', (Builtin.delete_ #[t, 3] ty #[.map (some g), .int .i64 k]).run Try.prog w = .ok (.tuple #[]) w' ∧ Mx w' g n (delF f k) s' ∧ w.grownBy w' (some g) := by
 obtain ⟨D, ho, hs, r⟩ := h
 obtain ⟨w', hrun, ho', hm⟩ := ho.drop lawInt ht (keyOf_int_mk Try.underlying3 hk) ty
 refine ⟨w', _, hrun, ⟨_, ho', rfl, fun j hj => ?_⟩, hm.grown⟩
 unfold delF
 by_cases e : j = k
 ·subst e
  rw [if_pos rfl]
  exact ⟨fun _ => has_del_same, fun u hu => by cases hu⟩
 ·rw [if_neg e]
  have hne : (Lit.int .i64 j) ≠ Lit.int .i64 k := fun x => by injection x with _ x; exact e x
  obtain ⟨r1, r2⟩ := r j hj
  exact ⟨fun x => by rw [has_del_other hne]; exact r1 x, fun u hu => ⟨by rw [has_del_other hne]; exact (r2 u hu).1, fun z => by rw [atKey_del_other hne]; exact (r2 u hu).2 z⟩⟩
theorem Mx.len {w : World} {g n s : Nat} {f : Int → Option Value} {t e : TypeId} (h : Mx w g n f s) (ht : Try.prog.underlying t = some (.map 3 e)) (ty : TypeId) : (Builtin.len_ #[t] ty #[.map (some g)]).run Try.prog w = .ok (.int .i64 (s : Int)) w := by
 obtain ⟨D, ho, hs, r⟩ := h
 rw [ho.len ht ty, hs]
theorem Mx.notCells {w : World} {g n s : Nat} {f : Int → Option Value} (h : Mx w g n f s) : ∃ es clock, w.heap[g]? = some (.map es clock) := by
 obtain ⟨D, ⟨es, clock, hb, -⟩, -⟩ := h
 exact ⟨es, clock, hb⟩

/-! Appending a record. -/
section
variable {P : Program} {ops : Array Oper} {rest : List Oper} {o : Oper} {a : Act} {Q : Exit → Act → World → Prop}
theorem append_rec {W : World} (base : Nat) (hgd : o.guard = none) (s x : Operand) (t e : TypeId) (z : Value) (size bytes : Nat)
  (ho : o.op = .call { callee := .builtin .append, args := #[s, x], argTypes := #[t, t] })
  (ht : P.underlying t = some (.slice e)) (hinfo : (P.info? e).map (fun i => (i.zero, i.size, i.bytes)) = some (some z, size, bytes)) (hz : z.cells.size = size) (hsz : 0 < size)
  (v : Value) (n : Nat) (xs : List Value) (cs : Array Value) (hcs : cs.size = size) (hs : a.eval s = v) (hx : a.eval x = .slice (some ⟨W.heap.size, 0, none⟩) 1 1) (h1 : ∀ u ∈ cs.toList, u.oneCell' = true)
  (HO : W.ownsRow base e size v n xs) (hbase : base ≤ W.heap.size) (h63 : n + 1 ≤ 140737488355328) (hl : (n + 1) * bytes ≤ 140737488355328)
  (h : ∀ v1 w1, w1.ownsRow base e size v1 (n + 1) (xs ++ cs.toList) → W.grownBy w1 v.ownBlock → (v1.ownBlock = v.ownBlock ∨ ∃ b, v1.ownBlock = some b ∧ W.heap.size ≤ b) → wpList P ops Q rest (a.put o.dst v1) w1) :
  wpList P ops Q (o :: rest) a (W.alloc (.cells cs e)) := by
 obtain ⟨i0, hi, hz0, hz1, hz2⟩ : ∃ i, P.info? e = some i ∧ i.zero = some z ∧ i.size = size ∧ i.bytes = bytes := by
  cases hh : P.info? e with
  | none => rw [hh] at hinfo; cases hinfo
  | some i =>
   rw [hh] at hinfo
   simp at hinfo
   exact ⟨i, rfl, hinfo.1, hinfo.2.1, hinfo.2.2⟩
 refine wpList_append_own_at (W.alloc (.cells cs e)) hgd s x t ho base e i0 z size bytes ht hi hz0 hz1 hz2 hz hsz v n xs hs (HO.alloc _) ⟨W.heap.size, 0, none⟩ 1 1 cs.toList hx (by simp [hcs])
  (fun j u hj => ?_) h1 (by unfold maxLen; omega) hl (by simp; omega) ?_
 ·have hb : (W.alloc (.cells cs e)).heap[W.heap.size]? = some (.cells cs e (0, 0)) := Blk.new W cs e
  exact World.news_of_block hb j u hj
 ·intro v1 w1 h1 h2 h3 h4
  refine h v1 w1 h1 ?_ ?_
  ·exact (World.grownBy_alloc W _ _).trans h2
  ·rcases h4 with h4 | h4
   ·exact .inl h4
   ·exact .inr ⟨_, h4, by simp⟩
end
end Go.Proofs.Ytpcbpljdiacbmaa.Kit

set_option linter.unusedVariables false
set_option linter.unusedSimpArgs false
namespace Go.Proofs.Ytpcbpljdiacbmaa.Scan
open Go.RowKit Go.Proofs.Ytpcbpljdiacbmaa.Kit Go.Proofs.Ytpcbpljdiacbmaa.Oct Go.Proofs.Ytpcbpljdiacbmaa.Sheet Go.Proofs.Ytpcbpljdiacbmaa.Nand Go.Proofs.Ytpcbpljdiacbmaa.Plan

/-! A geometry with the form, as an argument. -/
structure Geo (w : World) (nb np : Nat) (S : Int) (A : Option Addr) (n c : Nat) (bad : List Int) : Prop where
 nums : Nums w .i64 A n bad
 nc : n ≤ c
 form : fm (nb : Int) (np : Int) S bad = true
theorem Geo.later {w w' : World} {nb np : Nat} {S : Int} {A : Option Addr} {n c : Nat} {bad : List Int} (h : Geo w nb np S A n c bad) (hB : Below w.heap.size w w') : Geo w' nb np S A n c bad := ⟨h.nums.below hB, h.nc, h.form⟩
theorem Geo.bd {w : World} {nb np : Nat} {S : Int} {A : Option Addr} {n c : Nat} {bad : List Int} (h : Geo w nb np S A n c bad) : 4 ≤ nb ∧ nb ≤ 64 ∧ 2 ≤ np ∧ np ≤ 32 ∧ 0 ≤ S ∧ S ≤ 8 ∧ 0 < cap nb np S bad := by
 obtain ⟨h1, h2, h3, h4, h5, h6, h7, h8⟩ := fm_yes h.form
 exact ⟨by omega, by omega, by omega, by omega, h5, h6, h8⟩
/-- The blocks that data may be on. -/
def us (nb : Nat) (bad : List Int) : List Int := usb nb bad
theorem us_bd {nb : Nat} {bad : List Int} {x : Int} (h : x ∈ us nb bad) : 2 ≤ x ∧ x < nb := by
 have := (usb_mem nb bad x).1 h
 exact ⟨this.1, this.2.1⟩
theorem us_wf {nb : Nat} {bad : List Int} (hb : nb ≤ 64) : ∀ x ∈ us nb bad, (Lit.int .i64 x).wf = true := fun x hx => by
 have := us_bd hx
 exact kwf_of (by omega)
theorem us_len {nb : Nat} (bad : List Int) : (us nb bad).length ≤ nb := usb_len nb bad
theorem geo_form {w : World} {nb np : Nat} {S : Int} {A : Option Addr} {n c : Nat} {bad : List Int} (h : Geo w nb np S A n c bad) :
  Calls Try.prog 53 #[.agg #[.int .i64 (nb : Int), .int .i64 (np : Int), .int .i64 S, .slice A n c]] w fun e w' => e = .returned (.bool true) ∧ Below w.heap.size w w' := by
 have := form_any (nb : Int) (np : Int) S A n c bad w h.nums h.nc
 rw [h.form] at this
 exact this
theorem geo_meta {w : World} {nb np : Nat} {S : Int} {A : Option Addr} {n c : Nat} {bad : List Int} (h : Geo w nb np S A n c bad) :
  Calls Try.prog 57 #[.agg #[.int .i64 (nb : Int), .int .i64 (np : Int), .int .i64 S, .slice A n c]] w fun e w' => e = .returned (.int .i64 (cap nb np S bad)) ∧ Below w.heap.size w w' := by
 have hb := h.bd
 exact meta_any (nb : Int) (np : Int) S A n c bad w h.nums (by omega) (by omega) (by omega) (by omega) (by omega)
theorem geo_usable {w : World} {nb np : Nat} {S : Int} {A : Option Addr} {n c : Nat} {bad : List Int} (h : Geo w nb np S A n c bad) :
  Calls Try.prog 39 #[.agg #[.int .i64 (nb : Int), .int .i64 (np : Int), .int .i64 S, .slice A n c]] w fun e w' => ∃ U d, e = .returned (.slice U (us nb bad).length d) ∧ Nums w' .i64 U (us nb bad).length (us nb bad) ∧ (∀ a, U = some a → w.heap.size ≤ a.block) ∧ Below w.heap.size w w' := by
 have hb := h.bd
 refine (usable_any (nb : Int) (np : Int) S A n c bad w h.nums (by omega)).mono ?_
 rintro e w' ⟨v, rfl, ho, hB⟩
 rw [Int.toNat_natCast] at ho
 obtain ⟨U, d, rfl, -, hz⟩ := own_nums ho (us_wf (bad := bad) hb.2.1)
 exact ⟨U, d, rfl, hz, fun a ha => own_low ho a.block (by rw [ha]; rfl), hB⟩
theorem cap_bd {nb np : Nat} {S : Int} {bad : List Int} (hb : nb ≤ 64) (hp : np ≤ 32) (hS : 0 ≤ S) : cap nb np S bad ≤ 2048 := by
 unfold cap
 rw [Int.toNat_natCast]
 have := usb_len nb bad
 have h2 : (np : Int) * (((usb nb bad).length : Int) - S - 1) ≤ 32 * 64 := by
  by_cases h0 : 0 ≤ ((usb nb bad).length : Int) - S - 1
  ·exact Int.mul_le_mul (by omega) (by omega) h0 (by omega)
  ·have : (np : Int) * (((usb nb bad).length : Int) - S - 1) ≤ 0 := Int.mul_nonpos_of_nonneg_of_nonpos (by omega) (by omega)
   omega
 omega

/-! What stands on a page. -/
structure Pg where
 K : Nat
 E : Nat
 S : Nat
 a : Nat
 f : Nat
 ys : List Int
def Pg.ok (p : Pg) : Prop := formN p.K p.E p.S p.a p.f p.ys
def Pg.bytes (p : Pg) : List Int := page p.K p.E p.S p.a p.f p.ys
open Classical in
noncomputable def rdP (q : List Int) : Option Pg := if h : ∃ p : Pg, p.ok ∧ q = p.bytes then some h.choose else none
theorem rdP_yes {q : List Int} {p : Pg} (h : p.ok) (hq : q = p.bytes) : rdP q = some p := by
 have hx : ∃ p : Pg, p.ok ∧ q = p.bytes := ⟨p, h, hq⟩
 unfold rdP
 rw [dif_pos hx]
 obtain ⟨h1, h2⟩ := hx.choose_spec
 obtain ⟨e1, e2, e3, e4, e5, e6⟩ := page_inj h1 h (h2.symm.trans hq)
 congr 1
 generalize hx.choose = x at *
 cases x
 cases p
 simp only at e1 e2 e3 e4 e5 e6
 subst e1; subst e2; subst e3; subst e4; subst e5; subst e6
 rfl
theorem rdP_no {q : List Int} (h : ¬ IsPage q) : rdP q = none := by
 unfold rdP
 rw [dif_neg]
 rintro ⟨p, h1, h2⟩
 exact h ⟨_, _, _, _, _, _, h1, h2⟩
theorem rdP_some {q : List Int} {p : Pg} (h : rdP q = some p) : p.ok ∧ q = p.bytes := by
 unfold rdP at h
 split at h
 ·rename_i hx
  injection h with h
  rw [← h]
  exact hx.choose_spec
 ·cases h
/-- Is it of an address? -/
def Pg.of (lim : Int) (p : Pg) : Bool := decide (p.K ≠ 3 ∧ (p.a : Int) ≤ lim)
/-- A page's place in its block, and what stands there. -/
noncomputable def found1 (lim : Int) (k : Nat) (q : List Int) : List (Nat × Pg) := match rdP q with
 | some p => if p.of lim then [(k, p)] else []
 | none => []
noncomputable def found (lim : Int) (qs : List (List Int)) : List (Nat × Pg) := (List.range qs.length).flatMap fun k => found1 lim k (qs.getD k [])
theorem flat_ext {α β : Type} {f g : α → List β} : ∀ (l : List α), (∀ x ∈ l, f x = g x) → l.flatMap f = l.flatMap g
 | [], _ => rfl
 | x :: l, h => by rw [List.flatMap_cons, List.flatMap_cons, h x List.mem_cons_self, flat_ext l (fun y hy => h y (List.mem_cons_of_mem _ hy))]
theorem found_take (lim : Int) (qs : List (List Int)) (k : Nat) (hk : k < qs.length) : found lim (qs.take (k + 1)) = found lim (qs.take k) ++ found1 lim k (qs.getD k []) := by
 have e1 : (qs.take (k + 1)).length = k + 1 := by rw [List.length_take]; omega
 have e2 : (qs.take k).length = k := by rw [List.length_take]; omega
 unfold found
 rw [e1, e2, List.range_succ, List.flatMap_append, List.flatMap_singleton]
 congr 1
 ·refine flat_ext _ fun j hj => ?_
  have hj : j < k := List.mem_range.1 hj
  congr 1
  rw [List.getD_eq_getElem?_getD, List.getD_eq_getElem?_getD, List.getElem?_take_of_lt (by omega), List.getElem?_take_of_lt hj]
 ·congr 1
  rw [List.getD_eq_getElem?_getD, List.getD_eq_getElem?_getD, List.getElem?_take_of_lt (by omega)]
theorem found_len (lim : Int) (qs : List (List Int)) : (found lim qs).length ≤ qs.length := by
 have h : ∀ (l : List Nat), (l.flatMap fun k => found1 lim k (qs.getD k [])).length ≤ l.length := by
  intro l
  induction l with
  | nil => simp
  | cons x l ih =>
   rw [List.flatMap_cons, List.length_append, List.length_cons]
   have : (found1 lim x (qs.getD x [])).length ≤ 1 := by
    unfold found1
    split
    ·split <;> simp
    ·simp
   omega
 have := h (List.range qs.length)
 rw [List.length_range] at this
 exact this

/-! What was found, in a slice. -/
/-- A page found: its place there, what stands on it, and the header of its data. -/
structure Fd where
 k : Nat
 p : Pg
 A : Option Addr
 n : Nat
 c : Nat
def Fd.cells (i : Int) (x : Fd) : List Value := [.int .i64 i, .int .i64 (x.k : Int), .int .u8 (x.p.K : Int), .int .u64 (x.p.E : Int), .int .u64 (x.p.S : Int), .int .i64 (x.p.a : Int), .int .i64 ((x.p.f : Int) - 1), .slice x.A x.n x.c]
def Fd.val (i : Int) (x : Fd) : Value := .agg (x.cells i).toArray
def Fd.there (w : World) (x : Fd) : Prop := x.p.ok ∧ Nums w .u8 x.A x.n x.p.ys
theorem Fd.there.later {w w' : World} {x : Fd} (h : x.there w) (hB : Below w.heap.size w w') : x.there w' := ⟨h.1, h.2.below hB⟩
/-- v is a slice of a row of its own, of what was found on block i. -/
def Fnds (w : World) (base : Nat) (v : Value) (i : Int) (l : List Fd) : Prop :=
 w.ownsRow base 89 8 v l.length (l.flatMap (Fd.cells i)) ∧ ∀ x ∈ l, x.there w ∧ (0 < x.n → ∀ a, x.A = some a → v.ownBlock ≠ some a.block ∧ base ≤ a.block)
theorem Fnds.later {w w' : World} {base : Nat} {v : Value} {i : Int} {l : List Fd} (h : Fnds w base v i l) (hB : Below w.heap.size w w') : Fnds w' base v i l := ⟨own_later h.1 hB, fun x hx => ⟨(h.2 x hx).1.later hB, (h.2 x hx).2⟩⟩
theorem Fnds.nil (w : World) (base : Nat) (i : Int) : Fnds w base (.slice none 0 0) i [] := ⟨World.ownsRow_nil _ _ _ _, fun x hx => by cases hx⟩
theorem Fd.cells_len (i : Int) (x : Fd) : (x.cells i).length = 8 := rfl
theorem Fd.lt {w : World} {x : Fd} (h : x.there w) (hn : 0 < x.n) {a : Addr} (ha : x.A = some a) : a.block < w.heap.size := by
 obtain ⟨b, o, e, hc⟩ := h.2.at_ 0 hn
 rw [ha] at e
 injection e with e
 subst e
 exact World.block_lt_of_cell? w _ hc
theorem Fnds.push {W w1 : World} {base : Nat} {v v1 : Value} {i : Int} {l : List Fd} (h : Fnds W base v i l) (x : Fd) (hx : x.there W) (hd : 0 < x.n → ∀ a, x.A = some a → v.ownBlock ≠ some a.block ∧ base ≤ a.block)
  (ho : w1.ownsRow base 89 8 v1 (l.length + 1) (l.flatMap (Fd.cells i) ++ x.cells i)) (hg : W.grownBy w1 v.ownBlock) (hat : v1.ownBlock = v.ownBlock ∨ ∃ b, v1.ownBlock = some b ∧ W.heap.size ≤ b) : Fnds w1 base v1 i (l ++ [x]) := by
 refine ⟨?_, fun y hy => ?_⟩
 ·rw [List.length_append, List.length_singleton, List.flatMap_append, List.flatMap_singleton]
  exact ho
 ·have hy' : y.there W ∧ (0 < y.n → ∀ a, y.A = some a → v.ownBlock ≠ some a.block ∧ base ≤ a.block) := by
   rcases List.mem_append.1 hy with hy | hy
   ·exact h.2 y hy
   ·rw [List.mem_singleton.1 hy]
    exact ⟨hx, hd⟩
  refine ⟨⟨hy'.1.1, hy'.1.2.grown hg (fun hn a ha e => (hy'.2 hn a ha).1 e.symm)⟩, fun hn a ha => ⟨fun e => ?_, (hy'.2 hn a ha).2⟩⟩
  have hlt := Fd.lt hy'.1 hn ha
  rcases hat with h1 | ⟨b, h1, h2⟩
  ·exact (hy'.2 hn a ha).1 (h1.symm.trans e)
  ·rw [h1] at e
   injection e with e
   omega
theorem flat_get {α β : Type} (f : α → List β) (m : Nat) (hf : ∀ x, (f x).length = m) : ∀ (l : List α) (j k : Nat) (d : α), j < l.length → k < m → (l.flatMap f)[j * m + k]? = (f (l.getD j d))[k]?
 | [], j, k, d, hj, hk => absurd hj (by simp)
 | x :: l, 0, k, d, hj, hk => by
  rw [List.flatMap_cons, List.getElem?_append_left (by rw [hf]; omega), Nat.zero_mul, Nat.zero_add]
  rfl
 | x :: l, j + 1, k, d, hj, hk => by
  have e : (j + 1) * m + k = m + (j * m + k) := by rw [Nat.succ_mul]; omega
  rw [List.flatMap_cons, List.getElem?_append_right (by rw [hf, e]; omega), hf, e, show m + (j * m + k) - m = j * m + k by omega]
  exact flat_get f m hf l j k d (by simpa using hj) hk
instance : Inhabited Fd := ⟨⟨0, ⟨0, 0, 0, 0, 0, []⟩, none, 0, 0⟩⟩
/-- A slice of what was found, as it reads. -/
theorem Fnds.read {w : World} {base : Nat} {v : Value} {i : Int} {l : List Fd} (h : Fnds w base v i l) : ∃ A c, v = .slice A l.length c ∧ ∀ j, j < l.length → ∃ g, A = some ⟨g, 0, none⟩ ∧ ∀ k u, ((l.getD j default).cells i)[k]? = some u → w.cell? ⟨g, j * 8 + k, none⟩ = some u := by
 have ho := h.1
 rcases ho.2 with ⟨rfl, h0⟩ | ⟨g, cap, cur, rfl, hg, hh, h1⟩
 ·have hl : l.length = 0 := h0
  exact ⟨none, 0, by rw [hl], fun j hj => by omega⟩
 ·refine ⟨_, _, rfl, fun j hj => ⟨g, rfl, fun k u hk => ?_⟩⟩
  have hk8 : k < 8 := by
   have := (List.getElem?_eq_some_iff.1 hk).1
   rwa [Fd.cells_len] at this
  rw [← flat_get (Fd.cells i) 8 (Fd.cells_len i) l j k default hj hk8] at hk
  have := ho.cells rfl _ u hk
  rw [show (⟨g, 0, none⟩ : Addr).add (j * 8 + k) = ⟨g, j * 8 + k, none⟩ by unfold Addr.add; split <;> simp_all] at this
  exact this
theorem nums_fr {w w' : World} {S : Nat → Prop} {k : IntKind} {A : Option Addr} {n : Nat} {xs : List Int} (h : Nums w k A n xs) (hf : Fr S w w') (hS : 0 < n → ∀ a, A = some a → ¬ S a.block) : Nums w' k A n xs :=
 ⟨h.len, h.most, fun j hj => by
  obtain ⟨b, o, e, hc⟩ := h.cell j hj
  refine ⟨b, o, e, fun i hi => ?_⟩
  have := hc i hi
  rw [World.cell?_of_block (hf.block b (World.block_lt_of_cell? w _ this) (hS (by omega) _ e))]
  exact this, h.wf⟩
theorem Fnds.fr {w w' : World} {S : Nat → Prop} {base : Nat} {v : Value} {i : Int} {l : List Fd} (h : Fnds w base v i l) (hf : Fr S w w') (hS : ∀ g, S g → g < base) : Fnds w' base v i l := by
 refine ⟨own_keep h.1 (fun g hg => ?_), fun x hx => ⟨⟨(h.2 x hx).1.1, nums_fr (h.2 x hx).1.2 hf (fun hn a ha hs => ?_)⟩, (h.2 x hx).2⟩⟩
 ·obtain ⟨h1, h2⟩ := h.1.lt g hg
  exact hf.block g h2 (fun hs => by have := hS g hs; omega)
 ·have := ((h.2 x hx).2 hn a ha).2
  have := hS _ hs
  omega
theorem Fnds.mono {w : World} {base base' : Nat} {v : Value} {i : Int} {l : List Fd} (h : Fnds w base v i l) (hb : base' ≤ base) : Fnds w base' v i l :=
 ⟨own_mono h.1 hb, fun x hx => ⟨(h.2 x hx).1, fun hn a ha => ⟨((h.2 x hx).2 hn a ha).1, Nat.le_trans hb ((h.2 x hx).2 hn a ha).2⟩⟩⟩
end Go.Proofs.Ytpcbpljdiacbmaa.Scan
