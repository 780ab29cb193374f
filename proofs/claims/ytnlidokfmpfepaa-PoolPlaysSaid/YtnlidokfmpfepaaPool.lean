import Derived.Test.YtnlidokfmpfepaaKit
import Derived.Maps.RangeWalk
set_option linter.unusedVariables false
set_option linter.unusedSimpArgs false
namespace Go.Proofs.Ytnlidokfmpfepaa.Pool
open Go.RowKit Go.Proofs.Ytnlidokfmpfepaa.Kit Go.Maps

theorem law3 : Keyed Try.prog 3 := int_keyed Try.underlying3
theorem zero5 (w : World) : (zeroValue 5).run Try.prog w = .ok (.int .u8 0) w := by kernel_rfl

/-- How a block stands: hs has 64 places; none: it is none of the pool's. -/
def hAt (hs : List (Option Nat)) (k : Int) : Option Nat := if 0 ≤ k ∧ k < 64 then hs.getD k.toNat none else none
def i64wf (k : Int) : Prop := (Lit.int .i64 k).wf = true
theorem i64wf_of {k : Int} (h : -9223372036854775808 ≤ k ∧ k ≤ 9223372036854775807) : i64wf k := by
  unfold i64wf
  simp [Lit.wf, IntKind.min, IntKind.max, IntKind.signed, IntKind.bits]
  omega
theorem hAt_nat (hs : List (Option Nat)) (k : Nat) (h : k < 64) : hAt hs (k : Int) = hs.getD k none := by
  unfold hAt
  rw [if_pos ⟨by omega, by omega⟩]
  rfl
theorem hAt_out (hs : List (Option Nat)) (k : Int) (h : ¬ (0 ≤ k ∧ k < 64)) : hAt hs k = none := if_neg h
theorem getD_set_o (hs : List (Option Nat)) (k j : Nat) (hk : k < hs.length) (v : Option Nat) : (hs.set k v).getD j none = if j = k then v else hs.getD j none := by
  rw [List.getD_eq_getElem?_getD, List.getElem?_set, List.getD_eq_getElem?_getD]
  by_cases e : k = j
  · subst e
    rw [if_pos rfl, if_pos hk, if_pos rfl]
    rfl
  · rw [if_neg e, if_neg (fun x => e x.symm)]
theorem hAt_set (hs : List (Option Nat)) (k : Nat) (hk : k < 64) (hl : hs.length = 64) (v : Option Nat) (j : Int) : hAt (hs.set k v) j = if j = (k : Int) then v else hAt hs j := by
  unfold hAt
  by_cases hj : 0 ≤ j ∧ j < 64
  · rw [if_pos hj, if_pos hj, getD_set_o hs k j.toNat (by omega)]
    by_cases e : j = (k : Int)
    · rw [if_pos e, if_pos (by omega)]
    · rw [if_neg e, if_neg (by omega)]
  · rw [if_neg hj, if_neg hj, if_neg (by omega)]

/-- The map in block g says how blocks stand. -/
def Mp (w : World) (g n : Nat) (hs : List (Option Nat)) : Prop :=
  ∃ D : DataW Unit, w.ownsMap Try.prog 3 (plainElem Try.prog 5) g n D ∧ ∀ k, i64wf k → (hAt hs k = none → Maps.has D (.int .i64 k) = false) ∧ ∀ v, hAt hs k = some v → Maps.has D (.int .i64 k) = true ∧ ∀ z, D.atKey (.int .i64 k) z = .lit (.int .u8 (v : Int))
theorem Mp.lt {w : World} {g n : Nat} {hs : List (Option Nat)} (h : Mp w g n hs) : g < w.heap.size := by
  obtain ⟨D, ho, -⟩ := h
  exact ho.lt
theorem Mp.later {w w' : World} {g n : Nat} {hs : List (Option Nat)} (h : Mp w g n hs) (hB : Below w.heap.size w w') : Mp w' g n hs := by
  obtain ⟨D, ho, r⟩ := h
  exact ⟨D, ho.kept (row := none) (grown_of_below hB none) (by simp), r⟩
theorem Mp.new (w : World) : Mp (w.alloc (.map #[] 0)) w.heap.size 0 (List.replicate 64 none) := by
  refine ⟨_, World.ownsMap_made w _ _ _, fun k hk => ⟨fun _ => rfl, fun v hv => ?_⟩⟩
  unfold hAt at hv
  split at hv
  · rw [List.getD_eq_getElem?_getD, List.getElem?_replicate] at hv
    split at hv <;> cases hv
  · cases hv
theorem Mp.look_ok {w : World} {g n : Nat} {hs : List (Option Nat)} (h : Mp w g n hs) (k : Int) (hk : i64wf k) :
    (Instr.lookup 71 (.map (some g)) (.int .i64 k) true).run Try.prog w = .ok (.tuple #[.int .u8 (((hAt hs k).getD 0 : Nat) : Int), .bool (hAt hs k).isSome]) w := by
  obtain ⟨D, ho, r⟩ := h
  obtain ⟨r1, r2⟩ := r k hk
  obtain ⟨v, ps, hrun, hv⟩ := ho.look_ok law3 Try.underlying71 (zero5 w) (plainElem_int Try.underlying5 (by decide)) (keyOf_int_mk Try.underlying3 hk)
  obtain ⟨c, rfl, hc, -⟩ := plainElem_int_inv Try.underlying5 hv
  rw [hrun]
  cases hh : hAt hs k with
  | none =>
    have e := r1 hh
    rw [atKey_of_not_has e] at hc
    simp only [Prod.mk.injEq, DataW.lit.injEq, Lit.int.injEq] at hc
    rw [e, ← hc.1.2]
    rfl
  | some u =>
    obtain ⟨e1, e2⟩ := r2 u hh
    rw [e2] at hc
    simp only [Prod.mk.injEq, DataW.lit.injEq, Lit.int.injEq] at hc
    rw [e1, ← hc.1.2]
    rfl
theorem Mp.look {w : World} {g n : Nat} {hs : List (Option Nat)} (h : Mp w g n hs) (k : Int) (hk : i64wf k) :
    (Instr.lookup 71 (.map (some g)) (.int .i64 k) false).run Try.prog w = .ok (.int .u8 (((hAt hs k).getD 0 : Nat) : Int)) w := by
  obtain ⟨D, ho, r⟩ := h
  obtain ⟨r1, r2⟩ := r k hk
  obtain ⟨c, hrun, hc, -⟩ := ho.lookup_int law3 Try.underlying71 Try.underlying5 (zero5 w) (keyOf_int_mk Try.underlying3 hk)
  rw [hrun]
  cases hh : hAt hs k with
  | none =>
    rw [atKey_of_not_has (r1 hh)] at hc
    simp only [DataW.lit.injEq, Lit.int.injEq] at hc
    rw [← hc.2]
    rfl
  | some u =>
    rw [(r2 u hh).2] at hc
    simp only [DataW.lit.injEq, Lit.int.injEq] at hc
    rw [← hc.2]
    rfl
theorem Mp.put {w : World} {g n : Nat} {hs : List (Option Nat)} (h : Mp w g n hs) (hl : hs.length = 64) (hn : n < 100000) (k v : Nat) (hk : k < 64) (hv : v < 256) :
    ∃ w', (Instr.mapUpdate 71 (.map (some g)) (.int .i64 (k : Int)) (.int .u8 (v : Int))).run Try.prog w = .ok () w' ∧ Mp w' g (n + 1) (hs.set k (some v)) ∧ w.grownBy w' (some g) := by
  obtain ⟨D, ho, r⟩ := h
  have hwk : i64wf (k : Int) := i64wf_of (by omega)
  have hwv : (Lit.int .u8 (v : Int)).wf = true := by
    simp [Lit.wf, IntKind.min, IntKind.max, IntKind.signed, IntKind.bits]
    omega
  obtain ⟨w', hrun, ho', hg⟩ := ho.update law3 Try.underlying71 (by unfold maxLen; omega) (keyOf_int_mk Try.underlying3 hwk) (plainElem_int Try.underlying5 hwv)
  refine ⟨w', hrun, ⟨_, ho', fun j hj => ?_⟩, hg⟩
  rw [hAt_set hs k hk hl]
  by_cases e : j = (k : Int)
  · subst e
    rw [if_pos rfl]
    refine ⟨(fun x => by cases x), fun u hu => ?_⟩
    cases hu
    have hkl : WideAt.IsKeyLit (Lit.int .i64 (k : Int)) := trivial
    exact ⟨has_put_same ho.isMap hkl _, fun z => atKey_put_same ho.isMap hkl _ z⟩
  · rw [if_neg e]
    have hne : (Lit.int .i64 j) ≠ Lit.int .i64 (k : Int) := fun x => by injection x with _ x; exact e x
    obtain ⟨r1, r2⟩ := r j hj
    refine ⟨fun x => by rw [has_put_other hne]; exact r1 x, fun u hu => ⟨by rw [has_put_other hne]; exact (r2 u hu).1, fun z => by rw [atKey_put_other hne]; exact (r2 u hu).2 z⟩⟩

/-- A pool: its blocks are xs, and hs says how they stand. -/
structure PS (w : World) (b g n : Nat) (A : Option Addr) (m c : Nat) (xs : List Int) (hs : List (Option Nat)) : Prop where
  blk : Blk w b #[.slice A m c, .map (some g)] 73
  nums : Nums w .i64 A m xs
  mp : Mp w g n hs
  len : hs.length = 64
  xb : ∀ x ∈ xs, 0 ≤ x ∧ x < 64
  mc : m ≤ c
  mm : m ≤ 1000
theorem PS.later {w w' : World} {b g n : Nat} {A : Option Addr} {m c : Nat} {xs : List Int} {hs : List (Option Nat)} (h : PS w b g n A m c xs hs) (hB : Below w.heap.size w w') : PS w' b g n A m c xs hs :=
  ⟨h.blk.later hB, h.nums.below hB, h.mp.later hB, h.len, h.xb, h.mc, h.mm⟩
theorem Mp.notCells {w : World} {g n : Nat} {hs : List (Option Nat)} (h : Mp w g n hs) : ∃ es clock, w.heap[g]? = some (.map es clock) := by
  obtain ⟨D, ⟨es, clock, hb, -⟩, -⟩ := h
  exact ⟨es, clock, hb⟩
theorem PS.ne {w : World} {b g n : Nat} {A : Option Addr} {m c : Nat} {xs : List Int} {hs : List (Option Nat)} (h : PS w b g n A m c xs hs) : b ≠ g ∧ (0 < m → ∀ a, A = some a → a.block ≠ g) := by
  obtain ⟨es, clock, hg⟩ := h.mp.notCells
  constructor
  · rintro rfl
    have := h.blk
    unfold Blk at this
    rw [hg] at this
    cases this
  · rintro h0 a rfl rfl
    obtain ⟨b', o', e, hc⟩ := h.nums.cell 0 h0
    injection e with e
    subst e
    have := hc 0 h0
    rw [World.cell?] at this
    simp only at hg
    rw [hg] at this
    simp at this
theorem PS.grown {w w' : World} {b g n n' : Nat} {A : Option Addr} {m c : Nat} {xs : List Int} {hs hs' : List (Option Nat)} (h : PS w b g n A m c xs hs) (hG : w.grownBy w' (some g)) (hm : Mp w' g n' hs') (hl : hs'.length = 64) : PS w' b g n' A m c xs hs' := by
  obtain ⟨n1, n2⟩ := h.ne
  refine ⟨h.blk.grown hG (by simpa using n1), h.nums.grown hG (fun h0 a ha => by simpa using n2 h0 a ha), hm, hl, h.xb, h.mc, h.mm⟩
theorem PS.cells {w : World} {b g n : Nat} {A : Option Addr} {m c : Nat} {xs : List Int} {hs : List (Option Nat)} (h : PS w b g n A m c xs hs) : w.cell? ⟨b, 0, none⟩ = some (.slice A m c) ∧ w.cell? ⟨b, 1, none⟩ = some (.map (some g)) := ⟨h.blk.cell 0, h.blk.cell 1⟩

theorem how_nil (k : Int) (w : World) : Calls Try.prog 21 #[.pointer none, .int .i64 k] w fun e w' => e = .returned (.int .u8 3) ∧ w' = w := by
  go_enter Try.func21, Try.ntmps21
  go_wp2
  go_ret
  exact ⟨rfl, rfl⟩
theorem set_nil (k h : Int) (w : World) : Calls Try.prog 19 #[.pointer none, .int .i64 k, .int .u8 h] w fun e w' => e = .returned (.int .i64 5) ∧ w' = w := by
  go_enter Try.func19, Try.ntmps19
  go_wp2
  go_ret
  exact ⟨rfl, rfl⟩
theorem open_nil (w : World) : Calls Try.prog 27 #[.pointer none] w fun e w' => e = .returned (.tuple #[.int .i64 0, .bool false]) ∧ w' = w := by
  go_enter Try.func27, Try.ntmps27
  go_wp2
  go_ret2
  exact ⟨rfl, rfl⟩
theorem count_nil (h : Int) (w : World) : Calls Try.prog 22 #[.pointer none, .int .u8 h] w fun e w' => e = .returned (.int .i64 0) ∧ w' = w := by
  go_enter Try.func22, Try.ntmps22
  go_wp2
  go_ret
  exact ⟨rfl, rfl⟩
theorem least_nil (h : Int) (A : Option Addr) (n c : Nat) (w : World) : Calls Try.prog 26 #[.pointer none, .int .u8 h, .slice A n c] w fun e w' => e = .returned (.tuple #[.int .i64 0, .bool false]) ∧ w' = w := by
  go_enter Try.func26, Try.ntmps26
  go_wp2
  go_ret2
  exact ⟨rfl, rfl⟩

theorem how_any (b g n : Nat) (A : Option Addr) (m c : Nat) (xs : List Int) (hs : List (Option Nat)) (k : Int) (w : World) (h : PS w b g n A m c xs hs) (hk : i64wf k) :
    Calls Try.prog 21 #[.pointer (some ⟨b, 0, none⟩), .int .i64 k] w fun e w' => e = .returned (.int .u8 (((hAt hs k).getD 3 : Nat) : Int)) ∧ w' = w := by
  obtain ⟨c0, c1⟩ := h.cells
  have hl := h.mp.look_ok k hk
  clear h hk
  cases hh : hAt hs k with
  | none =>
    rw [hh] at hl
    go_enter Try.func21, Try.ntmps21
    go_wp2
    go_ret
    exact ⟨rfl, rfl⟩
  | some v =>
    rw [hh] at hl
    go_enter Try.func21, Try.ntmps21
    go_wp2
    go_ret
    exact ⟨rfl, rfl⟩
end Go.Proofs.Ytnlidokfmpfepaa.Pool
