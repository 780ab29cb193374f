import Derived.Test.YtpcbpljdiacbmaaJKit
import Derived.Maps.RangeWalk
import Derived.Deep.Cut
import Derived.Lib.SliceRun
set_option linter.unusedVariables false
set_option linter.unusedSimpArgs false
namespace Go.Proofs.Ytpcbpljdiacbmaa.Pool
open Go.RowKit Go.Proofs.Ytpcbpljdiacbmaa.Kit Go.Maps

theorem law3 : Keyed Try.prog 3 := int_keyed Try.underlying3
theorem zero5 (w : World) : (zeroValue 5).run Try.prog w = .ok (.int .u8 0) w := by kernel_rfl

/-- How a block stands: hs has 64 places; none: it is none of the pool's. -/
def hAt (hs : List (Option Nat)) (k : Int) : Option Nat := if 0 ≤ k ∧ k < 64 then hs.getD k.toNat none else none
def i64wf (k : Int) : Prop := (Lit.int .i64 k).wf = true
theorem i64wf_of {k : Int} (h : -9223372036854775808 ≤ k ∧ k ≤ 9223372036854775807) : i64wf k := by
 unfold i64wf
 simp [Lit.wf, IntKind.min, IntKind.max, IntKind.signed, IntKind.bits]
 omega
theorem hAt_nat (hs : List (Option Nat)) (k : Nat) (h : k < 64) : hAt hs (k : Int) = hs.getD k none := by
 unfold hAt
 rw [if_pos ⟨by omega, by omega⟩]
 rfl
theorem hAt_out (hs : List (Option Nat)) (k : Int) (h : ¬ (0 ≤ k ∧ k < 64)) : hAt hs k = none := if_neg h
theorem getD_set_o (hs : List (Option Nat)) (k j : Nat) (hk : k < hs.length) (v : Option Nat) : (hs.set k v).getD j none = if j = k then v else hs.getD j none := by
 rw [List.getD_eq_getElem?_getD, List.getElem?_set, List.getD_eq_getElem?_getD]
 by_cases e : k = j
 ·subst e
  rw [if_pos rfl, if_pos hk, if_pos rfl]
  rfl
 ·rw [if_neg e, if_neg (fun x => e x.symm)]
theorem hAt_set (hs : List (Option Nat)) (k : Nat) (hk : k < 64) (hl : hs.length = 64) (v : Option Nat) (j : Int) : hAt (hs.set k v) j = if j = (k : Int) then v else hAt hs j := by
 unfold hAt
 by_cases hj : 0 ≤ j ∧ j < 64
 ·rw [if_pos hj, if_pos hj, getD_set_o hs k j.toNat (by omega)]
  by_cases e : j = (k : Int)
  ·rw [if_pos e, if_pos (by omega)]
  ·rw [if_neg e, if_neg (by omega)]
 ·rw [if_neg hj, if_neg hj, if_neg (by omega)]

/-- The map in block g says how blocks stand. -/
def Mp (w : World) (g n : Nat) (hs : List (Option Nat)) : Prop :=
 ∃ D : DataW Unit, w.ownsMap Try.prog 3 (plainElem Try.prog 5) g n D ∧ ∀ k, i64wf k → (hAt hs k = none → Maps.has D (.int .i64 k) = false) ∧ ∀ v, hAt hs k = some v → Maps.has D (.int .i64 k) = true ∧ ∀ z, D.atKey (.int .i64 k) z = .lit (.int .u8 (v : Int))
theorem Mp.lt {w : World} {g n : Nat} {hs : List (Option Nat)} (h : Mp w g n hs) : g < w.heap.size := by
 obtain ⟨D, ho, -⟩ := h
 exact ho.lt
theorem Mp.later {w w' : World} {g n : Nat} {hs : List (Option Nat)} (h : Mp w g n hs) (hB : Below w.heap.size w w') : Mp w' g n hs := by
 obtain ⟨D, ho, r⟩ := h
 exact ⟨D, ho.kept (row := none) (grown_of_below hB none) (by simp), r⟩
theorem Mp.new (w : World) : Mp (w.alloc (.map #[] 0)) w.heap.size 0 (List.replicate 64 none) := by
 refine ⟨_, World.ownsMap_made w _ _ _, fun k hk => ⟨fun _ => rfl, fun v hv => ?_⟩⟩
 unfold hAt at hv
 split at hv
 ·rw [List.getD_eq_getElem?_getD, List.getElem?_replicate] at hv
  split at hv <;> cases hv
 ·cases hv
theorem Mp.look_ok {w : World} {g n : Nat} {hs : List (Option Nat)} (h : Mp w g n hs) (k : Int) (hk : i64wf k) :
  (Instr.lookup 109 (.map (some g)) (.int .i64 k) true).run Try.prog w = .ok (.tuple #[.int .u8 (((hAt hs k).getD 0 : Nat) : Int), .bool (hAt hs k).isSome]) w := by
 obtain ⟨D, ho, r⟩ := h
 obtain ⟨r1, r2⟩ := r k hk
 obtain ⟨v, ps, hrun, hv⟩ := ho.look_ok law3 Try.underlying109 (zero5 w) (plainElem_int Try.underlying5 (by decide)) (keyOf_int_mk Try.underlying3 hk)
 obtain ⟨c, rfl, hc, -⟩ := plainElem_int_inv Try.underlying5 hv
 rw [hrun]
 cases hh : hAt hs k with
 | none =>
  have e := r1 hh
  rw [atKey_of_not_has e] at hc
  simp only [Prod.mk.injEq, DataW.lit.injEq, Lit.int.injEq] at hc
  rw [e, ← hc.1.2]
  rfl
 | some u =>
  obtain ⟨e1, e2⟩ := r2 u hh
  rw [e2] at hc
  simp only [Prod.mk.injEq, DataW.lit.injEq, Lit.int.injEq] at hc
  rw [e1, ← hc.1.2]
  rfl
theorem Mp.look {w : World} {g n : Nat} {hs : List (Option Nat)} (h : Mp w g n hs) (k : Int) (hk : i64wf k) :
  (Instr.lookup 109 (.map (some g)) (.int .i64 k) false).run Try.prog w = .ok (.int .u8 (((hAt hs k).getD 0 : Nat) : Int)) w := by
 obtain ⟨D, ho, r⟩ := h
 obtain ⟨r1, r2⟩ := r k hk
 obtain ⟨c, hrun, hc, -⟩ := ho.lookup_int law3 Try.underlying109 Try.underlying5 (zero5 w) (keyOf_int_mk Try.underlying3 hk)
 rw [hrun]
 cases hh : hAt hs k with
 | none =>
  rw [atKey_of_not_has (r1 hh)] at hc
  simp only [DataW.lit.injEq, Lit.int.injEq] at hc
  rw [← hc.2]
  rfl
 | some u =>
  rw [(r2 u hh).2] at hc
  simp only [DataW.lit.injEq, Lit.int.injEq] at hc
  rw [← hc.2]
  rfl
theorem Mp.put {w : World} {g n : Nat} {hs : List (Option Nat)} (h : Mp w g n hs) (hl : hs.length = 64) (hn : n < 100000) (k v : Nat) (hk : k < 64) (hv : v < 256) :
  ∃ w', (Instr.mapUpdate 109 (.map (some g)) (.int .i64 (k : Int)) (.int .u8 (v : Int))).run Try.prog w = .ok () w' ∧ Mp w' g (n + 1) (hs.set k (some v)) ∧ w.grownBy w' (some g) := by
 obtain ⟨D, ho, r⟩ := h
 have hwk : i64wf (k : Int) := i64wf_of (by omega)
 have hwv : (Lit.int .u8 (v : Int)).wf = true := by
  simp [Lit.wf, IntKind.min, IntKind.max, IntKind.signed, IntKind.bits]
  omega
 obtain ⟨w', hrun, ho', hg⟩ := ho.update law3 Try.underlying109 (by unfold maxLen; omega) (keyOf_int_mk Try.underlying3 hwk) (plainElem_int Try.underlying5 hwv)
 refine ⟨w', hrun, ⟨_, ho', fun j hj => ?_⟩, hg⟩
 rw [hAt_set hs k hk hl]
 by_cases e : j = (k : Int)
 ·subst e
  rw [if_pos rfl]
  refine ⟨(fun x => by cases x), fun u hu => ?_⟩
  cases hu
  have hkl : WideAt.IsKeyLit (Lit.int .i64 (k : Int)) := trivial
  exact ⟨has_put_same ho.isMap hkl _, fun z => atKey_put_same ho.isMap hkl _ z⟩
 ·rw [if_neg e]
  have hne : (Lit.int .i64 j) ≠ Lit.int .i64 (k : Int) := fun x => by injection x with _ x; exact e x
  obtain ⟨r1, r2⟩ := r j hj
  refine ⟨fun x => by rw [has_put_other hne]; exact r1 x, fun u hu => ⟨by rw [has_put_other hne]; exact (r2 u hu).1, fun z => by rw [atKey_put_other hne]; exact (r2 u hu).2 z⟩⟩

/-- A pool: its blocks are xs, and hs says how they stand. -/
structure PS (w : World) (b g n : Nat) (A : Option Addr) (m c : Nat) (xs : List Int) (hs : List (Option Nat)) : Prop where
 blk : Blk w b #[.slice A m c, .map (some g)] 111
 nums : Nums w .i64 A m xs
 mp : Mp w g n hs
 len : hs.length = 64
 xb : ∀ x ∈ xs, 0 ≤ x ∧ x < 64
 mc : m ≤ c
 mm : m ≤ 1000
theorem PS.later {w w' : World} {b g n : Nat} {A : Option Addr} {m c : Nat} {xs : List Int} {hs : List (Option Nat)} (h : PS w b g n A m c xs hs) (hB : Below w.heap.size w w') : PS w' b g n A m c xs hs :=
 ⟨h.blk.later hB, h.nums.below hB, h.mp.later hB, h.len, h.xb, h.mc, h.mm⟩
theorem Mp.notCells {w : World} {g n : Nat} {hs : List (Option Nat)} (h : Mp w g n hs) : ∃ es clock, w.heap[g]? = some (.map es clock) := by
 obtain ⟨D, ⟨es, clock, hb, -⟩, -⟩ := h
 exact ⟨es, clock, hb⟩
theorem PS.ne {w : World} {b g n : Nat} {A : Option Addr} {m c : Nat} {xs : List Int} {hs : List (Option Nat)} (h : PS w b g n A m c xs hs) : b ≠ g ∧ (0 < m → ∀ a, A = some a → a.block ≠ g) := by
 obtain ⟨es, clock, hg⟩ := h.mp.notCells
 constructor
 ·rintro rfl
  have := h.blk
  unfold Blk at this
  rw [hg] at this
  cases this
 ·rintro h0 a rfl rfl
  obtain ⟨b', o', e, hc⟩ := h.nums.cell 0 h0
  injection e with e
  subst e
  have := hc 0 h0
  rw [World.cell?] at this
  simp only at hg
  rw [hg] at this
  simp at this
theorem PS.grown {w w' : World} {b g n n' : Nat} {A : Option Addr} {m c : Nat} {xs : List Int} {hs hs' : List (Option Nat)} (h : PS w b g n A m c xs hs) (hG : w.grownBy w' (some g)) (hm : Mp w' g n' hs') (hl : hs'.length = 64) : PS w' b g n' A m c xs hs' := by
 obtain ⟨n1, n2⟩ := h.ne
 refine ⟨h.blk.grown hG (by simpa using n1), h.nums.grown hG (fun h0 a ha => by simpa using n2 h0 a ha), hm, hl, h.xb, h.mc, h.mm⟩
theorem PS.cells {w : World} {b g n : Nat} {A : Option Addr} {m c : Nat} {xs : List Int} {hs : List (Option Nat)} (h : PS w b g n A m c xs hs) : w.cell? ⟨b, 0, none⟩ = some (.slice A m c) ∧ w.cell? ⟨b, 1, none⟩ = some (.map (some g)) := ⟨h.blk.cell 0, h.blk.cell 1⟩

end Go.Proofs.Ytpcbpljdiacbmaa.Pool

set_option linter.unusedVariables false
set_option linter.unusedSimpArgs false
namespace Go.Proofs.Ytpcbpljdiacbmaa.Pool
open Go.RowKit Go.Proofs.Ytpcbpljdiacbmaa.Kit Go.Maps

theorem take_snoc (l : List Int) (k : Nat) (h : k < l.length) : l.take (k + 1) = l.take k ++ [l.getD k 0] := by
 rw [List.take_succ_eq_append_getElem h, List.getD_eq_getElem?_getD, List.getElem?_eq_getElem h]
 rfl
theorem mem_at (l : List Int) (k : Nat) (h : k < l.length) : l.getD k 0 ∈ l := by
 rw [List.getD_eq_getElem?_getD, List.getElem?_eq_getElem h]
 exact List.getElem_mem _
theorem find_miss (l : List Int) (p : Int → Bool) (k : Nat) (h : k < l.length) (h0 : (l.take k).find? p = none) (hp : p (l.getD k 0) = false) : (l.take (k + 1)).find? p = none := by
 rw [take_snoc l k h, List.find?_append, h0]
 simp only [List.find?_cons, hp, List.find?_nil, Option.or_none]
theorem find_hit (l : List Int) (p : Int → Bool) (k : Nat) (h : k < l.length) (h0 : (l.take k).find? p = none) (hp : p (l.getD k 0) = true) : l.find? p = some (l.getD k 0) := by
 have e : l = l.take (k + 1) ++ l.drop (k + 1) := (List.take_append_drop _ _).symm
 have e2 : (l.take (k + 1)).find? p = some (l.getD k 0) := by
  rw [take_snoc l k h, List.find?_append, h0]
  simp only [List.find?_cons, hp, Option.none_or]
 calc l.find? p = (l.take (k + 1) ++ l.drop (k + 1)).find? p := by rw [← e]
  _ = some (l.getD k 0) := by rw [List.find?_append, e2]; rfl

def fOpen (xs : List Int) (hs : List (Option Nat)) : Option Int := xs.find? (fun x => hAt hs x == some 2)

set_option maxHeartbeats 2000000 in
theorem open_any (b g n : Nat) (A : Option Addr) (m c : Nat) (xs : List Int) (hs : List (Option Nat)) (w : World) (h : PS w b g n A m c xs hs) :
  Calls Try.prog 63 #[.pointer (some ⟨b, 0, none⟩)] w fun e w' => e = .returned (.tuple #[.int .i64 ((fOpen xs hs).getD 0), .bool (fOpen xs hs).isSome]) ∧ w' = w := by
 obtain ⟨c0, c1⟩ := h.cells
 have hm := h.mm
 have hmc := h.mc
 have H := hid h
 have Hl := hid h.nums.len
 clear h
 go_enter Try.func63, Try.ntmps63
 go_wp2
 go_loopw [13] (fun i w' => ∃ k : Nat, k ≤ m ∧ i = .int .i64 (k : Int) ∧ (xs.take k).find? (fun x => hAt hs x == some 2) = none ∧ w' = w) (fun i _ => m - (intOf i).toNat)
 case atStart => exact ⟨0, by omega, rfl, rfl, rfl⟩
 case round =>
  obtain ⟨k, hk, rfl, hno, rfl⟩ := hrel
  by_cases hlt : k < m
  ·have hkl : k < xs.length := by rw [Hl.out]; exact hlt
   obtain ⟨bz, oz, rfl, hcz⟩ := H.out.nums.at_ k hlt
   have hxb := H.out.xb _ (mem_at xs k hkl)
   have Hno := hid hno
   have hit := find_hit xs (fun x => hAt hs x == some 2) k hkl hno
   have mis := find_miss xs (fun x => hAt hs x == some 2) k hkl hno
   clear hno
   have hlk := H.out.mp.look (xs.getD k 0) (i64wf_of (by omega))
   generalize xs.getD k 0 = x at *
   by_cases h2 : hAt hs x = some 2
   ·rw [h2] at hlk
    have hf : fOpen xs hs = some x := hit (by rw [h2]; rfl)
    have hlk' : (Instr.lookup 109 (.map (some g)) (.int .i64 x) false).run Try.prog wr = .ok (.int .u8 2) wr := hlk
    have Hf := hid hf
    clear hf hit mis hlk h2 hkl
    go_wp2
    go_ret2
    rw [Hf.out]
    exact ⟨rfl, rfl⟩
   ·have hms := mis (by simpa using h2)
    have hne : ((((hAt hs x).getD 0 : Nat) : Int) == 2) = false := by
     cases hh : hAt hs x with
     | none => rfl
     | some u =>
      have : u ≠ 2 := fun e => h2 (by rw [hh, e])
      rw [beq_eq_false_iff_ne]
      show ((u : Nat) : Int) ≠ 2
      omega
    have Hms := hid hms
    generalize (((hAt hs x).getD 0 : Nat) : Int) = v at *
    clear hms hit mis h2 hkl
    go_wp2
    go_roundw
    case rel => exact ⟨k + 1, by omega, by go_num, Hms.out, (by first | rfl | trivial)⟩
    case measure => simp [intOf]; omega
  ·obtain rfl : k = m := by omega
   have ht : xs.take k = xs := List.take_of_length_le (by rw [Hl.out]; exact Nat.le_refl _)
   rw [ht] at hno
   have Hno := hid hno
   clear hno ht
   go_wp2
   go_ret2
   rw [show fOpen xs hs = none from Hno.out]
   exact ⟨rfl, rfl⟩

def setH (xs : List Int) (hs : List (Option Nat)) (k h : Nat) : List (Option Nat) := (if h = 2 then (match fOpen xs hs with | some o => hs.set o.toNat (some 1) | none => hs) else hs).set k (some h)
theorem setH_len (xs : List Int) (hs : List (Option Nat)) (k h : Nat) : (setH xs hs k h).length = hs.length := by
 unfold setH
 split
 ·split
  ·rw [List.length_set, List.length_set]
  ·rw [List.length_set]
 ·rw [List.length_set]
theorem fOpen_mem (xs : List Int) (hs : List (Option Nat)) (x : Int) (h : fOpen xs hs = some x) : x ∈ xs ∧ hAt hs x = some 2 := by
 unfold fOpen at h
 refine ⟨List.mem_of_find?_eq_some h, ?_⟩
 have := List.find?_some h
 simpa using this

set_option maxRecDepth 100000 in
theorem set_arg (b g n : Nat) (A : Option Addr) (m c : Nat) (xs : List Int) (hs : List (Option Nat)) (k : Int) (v : Nat) (w : World) (h : PS w b g n A m c xs hs) (hk : i64wf k) (hv : v < 256) (hno : hAt hs k = none ∨ 3 < v) :
  Calls Try.prog 40 #[.pointer (some ⟨b, 0, none⟩), .int .i64 k, .int .u8 (v : Int)] w fun e w' => e = .returned (.int .i64 1) ∧ w' = w := by
 obtain ⟨c0, c1⟩ := h.cells
 have hl := h.mp.look_ok k hk
 clear h hk
 cases hh : hAt hs k with
 | none =>
  rw [hh] at hl
  clear hno
  go_enter Try.func40, Try.ntmps40
  go_wp2
  go_ret
  exact ⟨rfl, rfl⟩
 | some u =>
  rw [hh] at hl hno
  have hno : 3 < v := by
   rcases hno with h | h
   ·cases h
   ·exact h
  have hno' : (3 : Int) < (v : Int) := by omega
  go_enter Try.func40, Try.ntmps40
  go_wp2
  go_ret
  exact ⟨rfl, rfl⟩
set_option maxRecDepth 100000 in
theorem set_dead (b g n : Nat) (A : Option Addr) (m c : Nat) (xs : List Int) (hs : List (Option Nat)) (k : Int) (v : Nat) (w : World) (h : PS w b g n A m c xs hs) (hk : i64wf k) (hd : hAt hs k = some 3) (hv : v < 3) :
  Calls Try.prog 40 #[.pointer (some ⟨b, 0, none⟩), .int .i64 k, .int .u8 (v : Int)] w fun e w' => e = .returned (.int .i64 15) ∧ w' = w := by
 obtain ⟨c0, c1⟩ := h.cells
 have hl := h.mp.look_ok k hk
 rw [hd] at hl
 have hl' : (Instr.lookup 109 (.map (some g)) (.int .i64 k) true).run Try.prog w = .ok (.tuple #[.int .u8 3, .bool true]) w := hl
 have hv1 : (v : Int) ≠ 3 := by omega
 have hv2 : ¬ (3 : Int) < (v : Int) := by omega
 clear h hk hd hl hv
 go_enter Try.func40, Try.ntmps40
 go_wp2
 go_ret
 exact ⟨rfl, rfl⟩

set_option maxHeartbeats 2000000 in
theorem set_ok (b g n : Nat) (A : Option Addr) (m c : Nat) (xs : List Int) (hs : List (Option Nat)) (k u v : Nat) (w : World) (h : PS w b g n A m c xs hs) (hk : k < 64) (hu : hAt hs (k : Int) = some u) (hd : u = 3 → v = 3) (hv : v ≤ 3) (hn : n < 90000) :
  Calls Try.prog 40 #[.pointer (some ⟨b, 0, none⟩), .int .i64 (k : Int), .int .u8 (v : Int)] w fun e w' => e = .returned (.int .i64 0) ∧ (∃ n', n' ≤ n + 2 ∧ PS w' b g n' A m c xs (setH xs hs k v)) ∧ w.grownBy w' (some g) := by
 obtain ⟨c0, c1⟩ := h.cells
 have hl := h.mp.look_ok (k : Int) (i64wf_of (by omega))
 rw [hu] at hl
 have hl' : (Instr.lookup 109 (.map (some g)) (.int .i64 (k : Int)) true).run Try.prog w = .ok (.tuple #[.int .u8 (u : Int), .bool true]) w := hl
 clear hl
 have hv3 : ¬ (3 : Int) < (v : Int) := by omega
 by_cases h2 : v = 2
 ·subst h2
  have hu3 : (u : Int) ≠ 3 := by omega
  have hop := open_any b g n A m c xs hs w h
  cases ho : fOpen xs hs with
  | none =>
   rw [ho] at hop
   have eH : setH xs hs k 2 = hs.set k (some 2) := by unfold setH; rw [ho]; rfl
   obtain ⟨w1, hrun, hm1, hg1⟩ := h.mp.put h.len (by omega) k 2 hk (by decide)
   have hp1 := h.grown hg1 hm1 (by rw [List.length_set]; exact h.len)
   rw [eH]
   have hrun' : (Instr.mapUpdate 109 (.map (some g)) (.int .i64 (k : Int)) (.int .u8 2)).run Try.prog w = .ok () w1 := hrun
   clear eH hm1 h ho hu hd hv hrun
   go_enter Try.func40, Try.ntmps40
   go_wp2_with fail
   refine hop.mono ?_
   rintro e w' ⟨rfl, rfl⟩
   clear hop
   go_wp2
   go_ret
   exact ⟨rfl, ⟨_, by omega, hp1⟩, hg1⟩
  | some o =>
   rw [ho] at hop
   obtain ⟨hom, hoh⟩ := fOpen_mem xs hs o ho
   have hob := h.xb o hom
   obtain ⟨o, rfl⟩ := Int.eq_ofNat_of_zero_le hob.1
   have ho64 : o < 64 := by omega
   have eH : setH xs hs k 2 = (hs.set o (some 1)).set k (some 2) := by unfold setH; rw [ho]; rfl
   obtain ⟨w1, hrun1, hm1, hg1⟩ := h.mp.put h.len (by omega) o 1 ho64 (by decide)
   have hp1 := h.grown hg1 hm1 (by rw [List.length_set]; exact h.len)
   obtain ⟨w2, hrun2, hm2, hg2⟩ := hp1.mp.put hp1.len (by omega) k 2 hk (by decide)
   have hp2 := hp1.grown hg2 hm2 (by rw [List.length_set]; exact hp1.len)
   have hg := hg1.andThen hg2 (fun j hj => Or.inr hj)
   obtain ⟨d0, d1⟩ := hp1.cells
   rw [eH]
   have hop' : Calls Try.prog 63 #[.pointer (some ⟨b, 0, none⟩)] w fun e w' => e = .returned (.tuple #[.int .i64 (o : Int), .bool true]) ∧ w' = w := hop
   have hrun1' : (Instr.mapUpdate 109 (.map (some g)) (.int .i64 (o : Int)) (.int .u8 1)).run Try.prog w = .ok () w1 := hrun1
   have hrun2' : (Instr.mapUpdate 109 (.map (some g)) (.int .i64 (k : Int)) (.int .u8 2)).run Try.prog w1 = .ok () w2 := hrun2
   clear eH hm1 hm2 h ho hu hd hv hp1 hg1 hg2 hom hoh hop hrun1 hrun2
   go_enter Try.func40, Try.ntmps40
   go_wp2_with fail
   refine hop'.mono ?_
   rintro e w' ⟨rfl, rfl⟩
   clear hop'
   go_wp2
   go_ret
   exact ⟨rfl, ⟨_, by omega, hp2⟩, hg⟩
 ·have eH : setH xs hs k v = hs.set k (some v) := by unfold setH; rw [if_neg h2]
  obtain ⟨w1, hrun, hm1, hg1⟩ := h.mp.put h.len (by omega) k v hk (by omega)
  have hp1 := h.grown hg1 hm1 (by rw [List.length_set]; exact h.len)
  rw [eH]
  have hv2 : (v : Int) ≠ 2 := by omega
  have h2' : ((v : Int) == 2) = false := by rw [beq_eq_false_iff_ne]; exact hv2
  by_cases hu3 : u = 3
  ·have hvv := hd hu3
   have hv3 : ((v : Int) == 3) = true := by rw [beq_iff_eq]; omega
   have hu3' : ((u : Int) == 3) = true := by rw [beq_iff_eq]; omega
   have hv4 : (v : Int) = 3 := by omega
   subst hu3
   subst hvv
   have hrun' : (Instr.mapUpdate 109 (.map (some g)) (.int .i64 (k : Int)) (.int .u8 3)).run Try.prog w = .ok () w1 := hrun
   have hl3 : (Instr.lookup 109 (.map (some g)) (.int .i64 (k : Int)) true).run Try.prog w = .ok (.tuple #[.int .u8 3, .bool true]) w := hl'
   show Calls _ _ #[.pointer (some ⟨b, 0, none⟩), .int .i64 (k : Int), .int .u8 3] _ _
   clear eH hm1 h hu hd hv hrun hl' hv2 h2' hv3 hu3' hv4 h2
   go_enter Try.func40, Try.ntmps40
   go_wp2
   go_ret
   exact ⟨rfl, ⟨_, by omega, hp1⟩, hg1⟩
  ·have hu3' : (u : Int) ≠ 3 := by omega
   clear eH hm1 h hu hd hv
   go_enter Try.func40, Try.ntmps40
   go_wp2
   go_ret
   exact ⟨rfl, ⟨_, by omega, hp1⟩, hg1⟩
end Go.Proofs.Ytpcbpljdiacbmaa.Pool

set_option linter.unusedVariables false
set_option linter.unusedSimpArgs false
namespace Go.Proofs.Ytpcbpljdiacbmaa.Pool
open Go.RowKit Go.Proofs.Ytpcbpljdiacbmaa.Kit Go.Maps

theorem info3 : (Try.prog.info? 3).map (fun i => (i.zero, i.size, i.bytes)) = some (some (.int .i64 0), 1, 8) := by kernel_rfl
set_option maxHeartbeats 400000 in
theorem clone_any (A : Option Addr) (n c : Nat) (xs : List Int) (w : World) (hz : Nums w .i64 A n xs) (hl : n ≤ 1000000) :
  Calls Try.prog 61 #[.slice A n c] w fun e w' => ∃ A' c', e = .returned (.slice A' n c') ∧ n ≤ c' ∧ Nums w' .i64 A' n xs ∧ Below w.heap.size w w' := by
 rcases A with _ | ad
 ·have h0 : n = 0 := by
   rcases Nat.eq_zero_or_pos n with h0 | h0
   ·exact h0
   ·obtain ⟨b, o, e, _⟩ := hz.cell 0 h0
    cases e
  subst h0
  obtain rfl : xs = [] := List.eq_nil_of_length_eq_zero hz.len
  have heq := Lib.run_eql_slice_nil (P := Try.prog) w 24 3 none 0 c 0 0 Try.underlying24
  go_enter Try.func61, Try.ntmps61
  go_wp2
  go_ret
  exact ⟨none, 0, rfl, Nat.le_refl _, Nums.none _ _ _, Below.refl _ _⟩
 ·have Hl := hid hz.len
  have Hw := hid hz.wf
  have HB := hid ((Below.refl w.heap.size w).alloc (Nat.le_refl _) (.cells #[] 3))
  have Hlit := hid (World.ownsRow_lit (base := w.heap.size) (e := 3) (size := 1) w #[] 0 (Nat.le_refl _) (by decide) rfl)
  have heq := Lib.run_eql_slice_nil (P := Try.prog) w 24 3 (some ad) n c 0 0 Try.underlying24
  go_enter Try.func61, Try.ntmps61
  go_wp2_with (at_builtin; refine append_nums w.heap.size rfl _ _ 24 3 .i64 8 rfl Try.underlying24 info3 (.slice (some ⟨w.heap.size, 0, none⟩) 0 0) 0 [] (some ad) n c xs (by rfl) (by rfl) Hlit.out (hz.below HB.out) HB.out.size (by omega) (by omega) ?_; intro v1 w6 hown6 hgr6 hat6)
  go_wp2
  go_ret
  have ho : w6.ownsRow w.heap.size 3 1 v1 xs.length (xs.map (Value.int .i64)) := by
   rw [Hl.out]
   simpa using hown6
  obtain ⟨A', c', rfl, hc, hz'⟩ := own_nums ho Hw.out
  rw [Hl.out] at hc hz' ⊢
  exact ⟨A', c', rfl, hc, hz', HB.out.grown hgr6 HB.out.size (by intro k hk; simp [Value.ownBlock] at hk; omega)⟩

def goodAt (xs : List Int) (i : Nat) : Prop := 0 ≤ xs.getD i 0 ∧ xs.getD i 0 < 64 ∧ (0 < i → xs.getD (i - 1) 0 < xs.getD i 0)
def Rise (xs : List Int) : Prop := ∀ i, i < xs.length → goodAt xs i
def newH (xs : List Int) : List (Option Nat) := xs.foldl (fun hs x => hs.set x.toNat (some 0)) (List.replicate 64 none)
theorem newH_snoc (xs : List Int) (x : Int) : newH (xs ++ [x]) = (newH xs).set x.toNat (some 0) := by
 unfold newH
 rw [List.foldl_append]
 rfl
theorem newH_len (xs : List Int) : (newH xs).length = 64 := by
 unfold newH
 have : ∀ (l : List Int) (hs : List (Option Nat)), (l.foldl (fun hs x => hs.set x.toNat (some 0)) hs).length = hs.length := by
  intro l
  induction l with
  | nil => intro hs; rfl
  | cons x l ih => intro hs; rw [List.foldl_cons, ih, List.length_set]
 rw [this]
 simp

theorem grown_setCell (w : World) (g i : Nat) (v : Value) : w.grownBy (w.setCell ⟨g, i, none⟩ v) (some g) :=
 ⟨rfl, rfl, rfl, by simp [World.setCell], fun j hj hne => Below.heap_setCell w ⟨g, i, none⟩ v j (fun e => hne (by rw [e]))⟩
theorem nums_ne {w : World} {A A0 : Option Addr} {m m0 c0 g g0 : Nat} {xs : List Int} (h : Nums w .i64 A m xs) (hb : Blk w g #[.slice A0 m0 c0, .map (some g0)] 111) (h0 : 0 < m) : ∀ a, A = some a → a.block ≠ g := by
 rintro a rfl rfl
 obtain ⟨b', o', e, hc⟩ := h.cell 0 h0
 injection e with e
 subst e
 have h1 := hc 0 h0
 have h2 := hb.cell (o' + 0)
 simp only at h2
 rw [h2] at h1
 rcases o' with _ | _ | o'
 ·simp at h1
 ·simp at h1
 ·simp at h1

set_option maxRecDepth 100000 in
set_option maxHeartbeats 4000000 in
theorem new_any (A : Option Addr) (m c : Nat) (xs : List Int) (w : World) (hz : Nums w .i64 A m xs) (hmc : m ≤ c) (hm : m ≤ 1000) :
  Calls Try.prog 38 #[.slice A m c] w fun e w' => Below w.heap.size w w' ∧ ((Rise xs ∧ ∃ b g A' c', e = .returned (.tuple #[.pointer (some ⟨b, 0, none⟩), .int .i64 0]) ∧ PS w' b g m A' m c' xs (newH xs) ∧ w.heap.size ≤ g) ∨ (¬ Rise xs ∧ e = .returned (.tuple #[.pointer none, .int .i64 1]))) := by
 have hmm := @run_makeMap Try.prog
 have hlen := hz.len
 have Hz := hid hz
 have Hl := hid hlen
 clear hz hlen
 go_enter Try.func38, Try.ntmps38
 go_upto_region 2 with (fail)
 obtain ⟨g, hg⟩ : ∃ g, w.heap.size = g := ⟨_, rfl⟩
 obtain ⟨w1, hw1⟩ : ∃ W, W = (w.alloc (.map #[] 0)).alloc (.cells #[.slice none 0 0, .map (some g)] 111) := ⟨_, rfl⟩
 have hm1 : Mp w1 g 0 (newH (xs.take 0)) := by
  rw [hw1, ← hg]
  exact (Mp.new w).later ((Below.refl _ _).alloc (Nat.le_refl _) _)
 have hb1 : Blk w1 (g + 1) #[.slice none 0 0, .map (some g)] 111 := by
  rw [hw1, ← hg]
  have := Blk.new (w.alloc (.map #[] 0)) #[.slice none 0 0, .map (some w.heap.size)] 111
  simpa using this
 have hB1 : Below g w w1 := by
  rw [hw1, ← hg]
  exact ((Below.refl _ _).alloc (Nat.le_refl _) _).alloc (by simp) _
 rw [hg, ← hw1]
 have Hg := hid hg
 clear hw1 hg hmm
 go_wp2
 go_loopw [12] (fun x w' => ∃ i : Nat, i ≤ m ∧ x = .int .i64 (i : Int) ∧ Mp w' g i (newH (xs.take i)) ∧ Blk w' (g + 1) #[.slice none 0 0, .map (some g)] 111 ∧ Below g w w' ∧ ∀ j, j < i → goodAt xs j) (fun x _ => m - (intOf x).toNat)
 case atStart => exact ⟨0, by omega, rfl, hm1, hb1, hB1, fun j hj => absurd hj (by omega)⟩
 case round =>
  obtain ⟨i, hi, rfl, hmp, hb, hB, hgd⟩ := hrel
  clear hm1 hb1 hB1
  have hzr := Hz.out.below (by rw [Hg.out]; exact hB)
  have hc0 : wr.cell? ⟨g + 1, 0, none⟩ = some (.slice none 0 0) := hb.cell 0
  have hc1 : wr.cell? ⟨g + 1, 1, none⟩ = some (.map (some g)) := hb.cell 1
  by_cases hlt : i < m
  ·obtain ⟨bz, oz, hA, hcz⟩ := hzr.at_ i hlt
   have hwf := wf_i64 (hzr.wf_at i hlt)
   have hpre : 0 < i → wr.cell? ⟨bz, oz + (i - 1), none⟩ = some (.int .i64 (xs.getD (i - 1) 0)) := fun h0 => by
    obtain ⟨b', o', hA', hc'⟩ := hzr.at_ (i - 1) (by omega)
    rw [hA] at hA'
    injection hA' with hA'
    injection hA' with e1 e2
    subst e1
    subst e2
    exact hc'
   subst hA
   have hgn : goodAt xs i ↔ (0 ≤ xs.getD i 0 ∧ xs.getD i 0 < 64 ∧ (0 < i → xs.getD (i - 1) 0 < xs.getD i 0)) := Iff.rfl
   have Hgn := hid hgn
   have Hbad : ¬ goodAt xs i → ¬ Rise xs := fun h k => h (k i (by rw [Hl.out]; exact hlt))
   have Htk := hid (take_snoc xs i (by rw [Hl.out]; exact hlt))
   clear hgn hzr
   generalize xs.getD i 0 = x at *
   by_cases h1 : x < 0
   ·have hn := hid (Hbad (fun k => by have := (Hgn.out.1 k).1; omega))
    clear hpre hwf hgd Hbad
    go_wp2
    go_ret2
    exact ⟨by rw [Hg.out]; exact hB, Or.inr ⟨hn.out, rfl⟩⟩
   ·by_cases h2 : 64 ≤ x
    ·have hn := hid (Hbad (fun k => by have := (Hgn.out.1 k).2.1; omega))
     clear hpre hwf hgd Hbad
     go_wp2
     go_ret2
     exact ⟨by rw [Hg.out]; exact hB, Or.inr ⟨hn.out, rfl⟩⟩
    ·obtain ⟨x, rfl⟩ := Int.eq_ofNat_of_zero_le (show 0 ≤ x by omega)
     have hx64 : x < 64 := by omega
     have fin : goodAt xs i → ∃ w', (Instr.mapUpdate 109 (.map (some g)) (.int .i64 (x : Int)) (.int .u8 0)).run Try.prog wr = .ok () w' ∧ Mp w' g (i + 1) (newH (xs.take (i + 1))) ∧ Blk w' (g + 1) #[.slice none 0 0, .map (some g)] 111 ∧ Below g w w' ∧ ∀ j, j < i + 1 → goodAt xs j := fun hgi => by
      obtain ⟨w', hrun, hm', hgr⟩ := hmp.put (newH_len _) (by omega) x 0 hx64 (by decide)
      refine ⟨w', hrun, ?_, hb.grown hgr (by simp), hB.grown hgr (by have := hB.size; rw [Hg.out] at this; exact this) (by intro k hk; cases hk; exact Nat.le_refl _), fun j hj => ?_⟩
      ·rw [Htk.out, newH_snoc]
       exact hm'
      ·rcases Nat.lt_succ_iff_lt_or_eq.1 hj with h | rfl
       ·exact hgd j h
       ·exact hgi
     by_cases h0 : 0 < i
     ·have hc3 := hpre h0
      have Hgn' : goodAt xs i ↔ xs.getD (i - 1) 0 < (x : Int) := ⟨fun k => (Hgn.out.1 k).2.2 h0, fun k => Hgn.out.2 ⟨by omega, by omega, fun _ => k⟩⟩
      generalize xs.getD (i - 1) 0 = y at *
      by_cases h3 : (x : Int) ≤ y
      ·have hn := hid (Hbad (fun k => by have := Hgn'.1 k; omega))
       clear hpre hwf hgd Hbad Hgn' fin
       go_wp2
       go_ret2
       exact ⟨by rw [Hg.out]; exact hB, Or.inr ⟨hn.out, rfl⟩⟩
      ·obtain ⟨w2, hrun, hm2, hb2, hB2, hgd2⟩ := fin (Hgn'.2 (by omega))
       clear hpre hwf hgd Hbad Hgn' fin hb hmp hB
       go_wp2
       go_roundw
       case rel => exact ⟨i + 1, by omega, by go_num, hm2, hb2, hB2, hgd2⟩
       case measure => simp [intOf]; omega
     ·obtain rfl : i = 0 := by omega
      obtain ⟨w2, hrun, hm2, hb2, hB2, hgd2⟩ := fin (Hgn.out.2 ⟨by omega, by omega, fun h => absurd h h0⟩)
      rw [Nat.add_zero] at hcz
      clear hpre hwf hgd Hbad fin hb hmp hB h0
      go_wp2
      go_roundw
      case rel => exact ⟨0 + 1, by omega, by go_num, hm2, hb2, hB2, hgd2⟩
      case measure => simp [intOf]; omega
  ·obtain rfl : i = m := by omega
   have ht : xs.take i = xs := List.take_of_length_le (by rw [Hl.out]; exact Nat.le_refl _)
   rw [ht] at hmp
   have hri := hid (show Rise xs from fun j hj => hgd j (by rw [Hl.out] at hj; exact hj))
   have hcl := clone_any A i c xs wr hzr (by omega)
   clear hgd ht hc0 hc1 hzr
   go_wp2_with fail
   refine hcl.mono ?_
   rintro e w3 ⟨A', c', rfl, hc', hz3, hB3⟩
   have hb3 := hb.later hB3
   have hm3 := hmp.later hB3
   have hc0 : w3.cell? ⟨g + 1, 0, none⟩ = some (.slice none 0 0) := hb3.cell 0
   have hf0 := hb3.free 0
   have hB4 := hB.trans (hB3.mono (by have := hB.size; rw [Hg.out] at this; exact this))
   have hbl := hb.lt
   have hb4 := hb3.set 0 (.slice A' i c')
   have hm4 : Mp (w3.setCell ⟨g + 1, 0, none⟩ (.slice A' i c')) g i (newH xs) := by
    obtain ⟨D, ho, r⟩ := hm3
    exact ⟨D, ho.setCell (by simp) _, r⟩
   have hz4 : Nums (w3.setCell ⟨g + 1, 0, none⟩ (.slice A' i c')) .i64 A' i xs := hz3.grown (grown_setCell w3 (g + 1) 0 _) (fun h0 a ha => by simpa using nums_ne hz3 hb3 h0 a ha)
   have hl4 := hB4.size
   have hs3 := hB3.size
   have hxb : ∀ x ∈ xs, 0 ≤ x ∧ x < 64 := fun x hx => by
    obtain ⟨j, hj, rfl⟩ := List.getElem_of_mem hx
    have := hri.out j hj
    unfold goodAt at this
    rw [List.getD_eq_getElem?_getD, List.getElem?_eq_getElem hj] at this
    exact ⟨this.1, this.2.1⟩
   have hps := hid (show PS _ _ _ _ _ _ _ _ _ from ⟨by simpa using hb4, hz4, hm4, newH_len xs, hxb, hc', hm⟩)
   clear hmp hb hB hcl hz3 hb4 hm4 hz4 hxb hm3 hb3 hB3
   go_wp2
   go_ret2
   exact ⟨by rw [Hg.out]; exact hB4.setCell (by show g ≤ g + 1; omega) _, Or.inl ⟨hri.out, _, _, _, _, rfl, hps.out, by rw [Hg.out]; exact Nat.le_refl _⟩⟩
end Go.Proofs.Ytpcbpljdiacbmaa.Pool

set_option linter.unusedVariables false
set_option linter.unusedSimpArgs false
namespace Go.Proofs.Ytpcbpljdiacbmaa.Pool
open Go.RowKit Go.Proofs.Ytpcbpljdiacbmaa.Kit Go.Maps

def cntH (hs : List (Option Nat)) (v : Nat) : Nat := (List.range 64).countP (fun k => hs.getD k none == some v)
/-- What is still to come of those that stand so. -/
def restH (hs : List (Option Nat)) (left : Lit → Bool) (v : Nat) : Nat := (List.range 64).countP (fun k => hs.getD k none == some v && left (.int .i64 (k : Int)))
theorem countP_strike (q : Nat → Bool) (k0 : Nat) : ∀ n, (List.range n).countP (fun k => q k && !(k == k0)) + (if k0 < n ∧ q k0 = true then 1 else 0) = (List.range n).countP q := by
 intro n
 induction n with
 | zero => rfl
 | succ n ih =>
  rw [List.range_succ, List.countP_append, List.countP_append, ← ih]
  have e : ∀ g : Nat → Bool, List.countP g [n] = if g n = true then 1 else 0 := fun g => by rw [List.countP_cons, List.countP_nil, Nat.zero_add]
  rw [e, e]
  by_cases hk : n = k0
  ·subst hk
   cases hq : q n
   ·simp
   ·simp
  ·have hk' : (n == k0) = false := by rw [beq_eq_false_iff_ne]; exact hk
   rw [hk']
   simp only [Bool.not_false, Bool.and_true]
   by_cases h2 : k0 < n
   ·have h3 : k0 < n + 1 := by omega
    simp only [h2, h3]
    omega
   ·have h3 : ¬ k0 < n + 1 := by omega
    simp only [h2, h3]
    omega
theorem sameKey_nat (k j : Nat) : (Lit.int .i64 (k : Int)).sameKey (.int .i64 (j : Int)) = (k == j) := by
 by_cases e : k = j
 ·subst e
  rw [WideAt.sameKey_self (show WideAt.IsKeyLit (Lit.int .i64 (k : Int)) from trivial)]
  simp
 ·rw [sameKey_ne (by intro h; injection h with _ h; omega)]
  simp [e]
theorem restH_strike (hs : List (Option Nat)) (left : Lit → Bool) (v k0 u : Nat) (hk : k0 < 64) (hu : hs.getD k0 none = some u) (hl : left (.int .i64 (k0 : Int)) = true) :
  restH hs (fun z => left z && !z.sameKey (.int .i64 (k0 : Int))) v + (if u = v then 1 else 0) = restH hs left v := by
 unfold restH
 rw [← countP_strike (fun k => hs.getD k none == some v && left (.int .i64 (k : Int))) k0 64]
 congr 1
 ·apply List.countP_congr
  intro k _
  simp only [sameKey_nat]
  simp [Bool.and_assoc]
 ·simp only [hu, hl, hk]
  by_cases e : u = v
  ·simp [e]
  ·simp [e]
theorem restH_none (hs : List (Option Nat)) (left : Lit → Bool) (v : Nat) (h : ∀ kl, left kl = false) : restH hs left v = 0 := by
 unfold restH
 rw [List.countP_eq_zero]
 intro k _
 simp [h]
theorem below_of_grown {w w' : World} (h : w.grownBy w' none) : Below w.heap.size w w' := ⟨h.os, h.tape, h.output, h.size, fun i hi => h.block i hi (by simp)⟩

set_option maxRecDepth 100000 in
set_option maxHeartbeats 4000000 in
theorem count_any (b g n : Nat) (A : Option Addr) (m c : Nat) (xs : List Int) (hs : List (Option Nat)) (v : Nat) (w : World) (h : PS w b g n A m c xs hs) (hv : v < 256) :
  Calls Try.prog 49 #[.pointer (some ⟨b, 0, none⟩), .int .u8 (v : Int)] w fun e w' => e = .returned (.int .i64 (cntH hs v : Int)) ∧ Below w.heap.size w w' := by
 obtain ⟨c0, c1⟩ := h.cells
 obtain ⟨D, hown, hD⟩ := h.mp
 have hall : restH hs (Maps.has D) v = cntH hs v := by
  unfold restH cntH
  apply List.countP_congr
  intro k hk
  have hk64 : k < 64 := by simpa using hk
  have := hD (k : Int) (i64wf_of (by omega))
  rw [hAt_nat hs k hk64] at this
  cases hh : hs.getD k none with
  | none => simp
  | some u =>
   rw [(this.2 u hh).1]
   simp
 have hcl : cntH hs v ≤ 64 := by unfold cntH; exact Nat.le_trans List.countP_le_length (by simp)
 have Hall := hid hall
 have HD := hid hD
 clear h hall hD
 go_enter Try.func49, Try.ntmps49
 go_wp2_with (first
  | (at_range; refine wpList_range_own _ rfl _ 109 rfl 3 5 law3 Try.underlying109 _ g n _ rfl hown ?_; intro w0 hrg0 hg0 hs0)
  | go_in)
 go_frame
 go_loopw [5] (fun a wr => ∃ (left : Lit → Bool) (cnt acc : Nat), a = .int .i64 (acc : Int) ∧ acc + restH hs left v = cntH hs v ∧ wr.ranges Try.prog 3 (plainElem Try.prog 5) g w.heap.size n D left cnt ∧ w.grownBy wr none)
  (fun _ wr => wr.rangeLeft g w.heap.size)
 case atStart => exact ⟨_, _, 0, rfl, by rw [Hall.out]; omega, hrg0, hg0⟩
 case round =>
  obtain ⟨left, cnt, acc, rfl, hacc, hrg, hgw⟩ := hrel
  clear hrg0 hg0 hs0 c0 c1
  go_wp2_with (first
   | (at_next; refine wpList_next_ranges_ii _ rfl _ rfl 3 5 .i64 .u8 law3 Try.underlying3 Try.underlying5 g w.heap.size n _ _ _ rfl hrg ?_ ?_)
   | go_in)
  ·intro _ hl0
   have e0 := restH_none hs left v hl0
   have ea : acc = cntH hs v := by omega
   have Ha := hid ea
   clear ea e0 hacc hl0 hrg
   go_wp2
   go_ret
   rw [Ha.out]
   exact ⟨rfl, below_of_grown hgw⟩
  ·intro x cc w1 cnt1 hwx hwc hlx hat hrg1 hlt hg1 hs1 hen
   have hgw1 := hgw.andThen hg1 (fun j hj => by cases hj; exact Or.inl (Nat.le_refl _))
   have hstep : ∃ k u : Nat, x = (k : Int) ∧ cc = (u : Int) ∧ u < 256 ∧ restH hs (fun z => left z && !z.sameKey (.int .i64 x)) v + (if u = v then 1 else 0) = restH hs left v := by
    have hD := HD.out x hwx
    have hh := has_true_of_atKey hat
    cases hx : hAt hs x with
    | none =>
     rw [hD.1 hx] at hh
     cases hh
    | some u =>
     have h2 := (hD.2 u hx).2 .nil
     rw [hat .nil] at h2
     injection h2 with h2
     injection h2 with _ h2
     unfold hAt at hx
     split at hx
     ·rename_i hr
      obtain ⟨k, rfl⟩ := Int.eq_ofNat_of_zero_le hr.1
      obtain ⟨q0, q1⟩ := wf_u8 hwc
      exact ⟨k, u, rfl, h2, by omega, restH_strike hs left v k u (by omega) hx hlx⟩
     ·cases hx
   obtain ⟨k, u, rfl, rfl, hu, hst⟩ := hstep
   have hm : w1.rangeLeft g w.heap.size < wr.rangeLeft g w.heap.size := by rw [hrg1.left_eq, hrg.left_eq]; exact hlt
   have Hrg1 := hid hrg1
   have Hgw1 := hid hgw1
   clear hat hrg1 hrg hg1 hgw hwx hwc hlx hgw1 hlt
   by_cases huv : u = v
   ·subst huv
    rw [if_pos rfl] at hst
    have hacc' : acc + 1 + restH hs (fun z => left z && !z.sameKey (.int .i64 (k : Int))) u = cntH hs u := by omega
    have Ha := hid hacc'
    clear hacc'
    go_wp2
    go_roundw
    case rel => exact ⟨_, cnt1, acc + 1, by go_num, Ha.out, Hrg1.out, Hgw1.out⟩
    case measure => exact hm
   ·rw [if_neg huv] at hst
    have hne : ((u : Int) == (v : Int)) = false := by rw [beq_eq_false_iff_ne]; omega
    have hacc' : acc + restH hs (fun z => left z && !z.sameKey (.int .i64 (k : Int))) v = cntH hs v := by omega
    have Ha := hid hacc'
    clear hacc'
    go_wp2
    go_roundw
    case rel => exact ⟨_, cnt1, acc, by go_num, Ha.out, Hrg1.out, Hgw1.out⟩
    case measure => exact hm
end Go.Proofs.Ytpcbpljdiacbmaa.Pool

set_option linter.unusedVariables false
set_option linter.unusedSimpArgs false
namespace Go.Proofs.Ytpcbpljdiacbmaa.Pool
open Go.RowKit Go.Proofs.Ytpcbpljdiacbmaa.Kit Go.Maps

end Go.Proofs.Ytpcbpljdiacbmaa.Pool

set_option linter.unusedVariables false
set_option linter.unusedSimpArgs false
namespace Go.Proofs.Ytpcbpljdiacbmaa.Pool
open Go.RowKit Go.Proofs.Ytpcbpljdiacbmaa.Kit Go.Maps

def bOk (ws : List Int) (acc : Option Int) (x : Int) : Bool := match acc with | none => true | some j => decide (ws.getD x.toNat 0 < ws.getD j.toNat 0)
def bstep (hs : List (Option Nat)) (ws : List Int) (v : Nat) (acc : Option Int) (x : Int) : Option Int := if (hAt hs x).getD 0 = v ∧ x < (ws.length : Int) ∧ bOk ws acc x = true then some x else acc
def bestF (hs : List (Option Nat)) (ws : List Int) (v : Nat) (xs : List Int) : Option Int := xs.foldl (bstep hs ws v) none
theorem bestF_snoc (hs : List (Option Nat)) (ws : List Int) (v : Nat) (xs : List Int) (x : Int) : bestF hs ws v (xs ++ [x]) = bstep hs ws v (bestF hs ws v xs) x := by
 unfold bestF
 rw [List.foldl_append]
 rfl
theorem bestF_in (hs : List (Option Nat)) (ws : List Int) (v : Nat) : ∀ (xs : List Int) (acc : Option Int), (∀ j, acc = some j → 0 ≤ j ∧ j < (ws.length : Int)) → (∀ x ∈ xs, 0 ≤ x) → ∀ j, xs.foldl (bstep hs ws v) acc = some j → 0 ≤ j ∧ j < (ws.length : Int) := by
 intro xs
 induction xs with
 | nil => intro acc h _ j hj; exact h j hj
 | cons x xs ih =>
  intro acc h hx j hj
  rw [List.foldl_cons] at hj
  refine ih _ (fun j hj => ?_) (fun y hy => hx y (List.mem_cons_of_mem _ hy)) j hj
  unfold bstep at hj
  split at hj
  ·rename_i hc
   injection hj with hj
   subst hj
   exact ⟨hx x List.mem_cons_self, hc.2.1⟩
  ·exact h j hj

set_option maxRecDepth 100000 in
set_option maxHeartbeats 4000000 in
theorem least_any (b g n : Nat) (A : Option Addr) (m c : Nat) (xs : List Int) (hs : List (Option Nat)) (v : Nat) (B : Option Addr) (nw cw : Nat) (ws : List Int) (w : World) (h : PS w b g n A m c xs hs) (hv : v < 256) (hw : Nums w .i64 B nw ws) :
  Calls Try.prog 88 #[.pointer (some ⟨b, 0, none⟩), .int .u8 (v : Int), .slice B nw cw] w fun e w' => e = .returned (.tuple #[.int .i64 ((bestF hs ws v xs).getD 0), .bool (bestF hs ws v xs).isSome]) ∧ Below w.heap.size w w' := by
 obtain ⟨c0, c1⟩ := h.cells
 have hm := h.mm
 have hmc := h.mc
 have H := hid h
 have Hl := hid h.nums.len
 have Hw := hid hw
 have Hwl := hid hw.len
 clear h hw
 go_enter Try.func88, Try.ntmps88
 go_wp2
 go_loopw [8, 9, 19] (fun p q i w' => ∃ k : Nat, k ≤ m ∧ i = .int .i64 (k : Int) ∧ p = .int .i64 ((bestF hs ws v (xs.take k)).getD 0) ∧ q = .bool (bestF hs ws v (xs.take k)).isSome ∧ Below w.heap.size w w') (fun _ _ i _ => m - (intOf i).toNat)
 case atStart => exact ⟨0, by omega, rfl, rfl, rfl, Below.refl _ _⟩
 case round =>
  obtain ⟨k, hk, rfl, rfl, rfl, hB⟩ := hrel
  clear c0 c1
  have hP := H.out.later hB
  obtain ⟨c0, c1⟩ := hP.cells
  by_cases hlt : k < m
  ·have hkl : k < xs.length := by rw [Hl.out]; exact hlt
   obtain ⟨bz, oz, rfl, hcz⟩ := hP.nums.at_ k hlt
   have hxb := H.out.xb _ (mem_at xs k hkl)
   have hin := bestF_in hs ws v (xs.take k) none (fun j hj => by cases hj) (fun x hx => (H.out.xb x (List.mem_of_mem_take hx)).1)
   have hst := bestF_snoc hs ws v (xs.take k) (xs.getD k 0)
   rw [← take_snoc xs k hkl] at hst
   have hlk := hP.mp.look (xs.getD k 0) (i64wf_of (by omega))
   change ∀ j, bestF hs ws v (xs.take k) = some j → _ at hin
   generalize bestF hs ws v (xs.take k) = acc at *
   generalize xs.getD k 0 = x at *
   obtain ⟨x, rfl⟩ := Int.eq_ofNat_of_zero_le hxb.1
   have hx64 : x < 64 := by omega
   unfold bstep at hst
   rw [Hwl.out] at hst hin
   generalize hu : (hAt hs (x : Int)).getD 0 = u at *
   have HB := hid hB
   clear hu hP hkl hxb hB
   by_cases h1 : u = v
   ·by_cases h2 : (x : Int) < (nw : Int)
    ·obtain ⟨bw, ow, hA, hcw⟩ := (Hw.out.below HB.out).at_ x (by omega)
     have hAll : ∀ j, acc = some j → wr.cell? ⟨bw, ow + j.toNat, none⟩ = some (.int .i64 (ws.getD j.toNat 0)) := fun j hj => by
      have := hin j hj
      obtain ⟨b', o', hA', hc'⟩ := (Hw.out.below HB.out).at_ j.toNat (by omega)
      rw [hA] at hA'
      injection hA' with hA'
      injection hA' with e1 e2
      subst e1
      subst e2
      exact hc'
     subst hA
     subst h1
     rcases acc with _ | j
     ·rw [if_pos ⟨rfl, h2, rfl⟩] at hst
      have Hst := hid hst
      clear hst hAll hin hcw
      simp only [Option.getD_none, Option.isSome_none]
      go_upto_region 8 with (fail)
      go_quiet (fail)
      have hB2 : Below w.heap.size w (wr.drewN nq) := below_drewN HB.out nq
      obtain ⟨wx, hwx⟩ : ∃ W, wr.drewN nq = W := ⟨_, rfl⟩
      rw [hwx] at hB2 ⊢
      clear hwx c0 c1 hcz hlk
      go_wp2
      go_roundw
      case rel => exact ⟨k + 1, by omega, by go_num, by rw [Hst.out]; rfl, by rw [Hst.out]; rfl, hB2⟩
      case measure => simp [intOf]; omega
     ·have hj := hin j rfl
      have hcj := hAll j rfl
      obtain ⟨j, rfl⟩ := Int.eq_ofNat_of_zero_le hj.1
      have hjw : (j : Int) < (nw : Int) := hj.2
      have hjn : j < nw := by omega
      have hcj : wr.cell? ⟨bw, ow + j, none⟩ = some (.int .i64 (ws.getD j 0)) := hcj
      have hbo : bOk ws (some (j : Int)) (x : Int) = decide (ws.getD x 0 < ws.getD j 0) := rfl
      rw [hbo] at hst
      clear hbo hin hAll hj
      simp only [Option.getD_some, Option.isSome_some]
      generalize ws.getD x 0 = p at *
      generalize ws.getD j 0 = q at *
      by_cases hpq : p < q
      ·rw [if_pos ⟨rfl, h2, by simpa using hpq⟩] at hst
       have Hst := hid hst
       clear hst
       go_upto_region 8 with (fail)
       go_quiet (fail)
       have hB2 : Below w.heap.size w (wr.drewN nq) := below_drewN HB.out nq
       obtain ⟨wx, hwx⟩ : ∃ W, wr.drewN nq = W := ⟨_, rfl⟩
       rw [hwx] at hB2 ⊢
       clear hwx c0 c1 hcz hlk hcw hcj
       go_wp2
       go_roundw
       case rel => exact ⟨k + 1, by omega, by go_num, by rw [Hst.out]; rfl, by rw [Hst.out]; rfl, hB2⟩
       case measure => simp [intOf]; omega
      ·rw [if_neg (fun hh => hpq (by simpa using hh.2.2))] at hst
       have Hst := hid hst
       clear hst
       go_upto_region 8 with (fail)
       go_quiet (fail)
       have hB2 : Below w.heap.size w (wr.drewN nq) := below_drewN HB.out nq
       obtain ⟨wx, hwx⟩ : ∃ W, wr.drewN nq = W := ⟨_, rfl⟩
       rw [hwx] at hB2 ⊢
       clear hwx c0 c1 hcz hlk hcw hcj
       go_wp2
       go_roundw
       case rel => exact ⟨k + 1, by omega, by go_num, by rw [Hst.out]; rfl, by rw [Hst.out]; rfl, hB2⟩
       case measure => simp [intOf]; omega
    ·rw [if_neg (fun hh => h2 hh.2.1)] at hst
     have Hst := hid hst
     have h2' : (nw : Int) ≤ (x : Int) := by omega
     clear hst hin
     subst h1
     go_wp2
     go_roundw
     case rel => exact ⟨k + 1, by omega, by go_num, by rw [Hst.out], by rw [Hst.out], HB.out⟩
     case measure => simp [intOf]; omega
   ·rw [if_neg (fun hh => h1 hh.1)] at hst
    have Hst := hid hst
    have h1' : ((u : Int) == (v : Int)) = false := by rw [beq_eq_false_iff_ne]; omega
    clear hst hin
    go_wp2
    go_roundw
    case rel => exact ⟨k + 1, by omega, by go_num, by rw [Hst.out], by rw [Hst.out], HB.out⟩
    case measure => simp [intOf]; omega
  ·obtain rfl : k = m := by omega
   have ht : xs.take k = xs := List.take_of_length_le (by rw [Hl.out]; exact Nat.le_refl _)
   rw [ht]
   clear hP
   go_wp2
   go_ret2
   exact ⟨rfl, hB⟩
end Go.Proofs.Ytpcbpljdiacbmaa.Pool
