import Derived.Test.YtpcbpljdiacbmaaProg
import Derived.Handy
import Derived.BigQuiet
import Derived.Deep.QuietTactic
import Derived.Deep.Slices
import Derived.Maps.AppendAt
import Derived.Deep.RegionHeld3
import Derived.Deep.AppendLies
import Derived.KernelRfl
import Derived.SizedLaws
import Derived.ChangeSlices
set_option linter.unusedVariables false
set_option linter.unusedSimpArgs false
namespace Go.Proofs.Ytpcbpljdiacbmaa.Kit
open Go.RowKit Go.ChangeShapes Go.WideShapes

/-! Short names. -/
theorem qa {α : Type _} {l : List α} {i : Nat} : l.toArray[i]? = l[i]? := List.getElem?_toArray
theorem qb {α : Type _} {a : α} {l : List α} : (a :: l)[0]? = some a := List.getElem?_cons_zero
theorem qc {α : Type _} {a : α} {l : List α} {i : Nat} : (a :: l)[i + 1]? = l[i]? := List.getElem?_cons_succ
theorem qd {α : Type _} {l : List α} {i : Nat} {a : α} : l.toArray.setIfInBounds i a = (l.set i a).toArray := List.setIfInBounds_toArray ..
theorem qe {α : Type _} {x : α} {xs : List α} {a : α} : (x :: xs).set 0 a = a :: xs := List.set_cons_zero ..
theorem qf {α : Type _} {x : α} {xs : List α} {n : Nat} {a : α} : (x :: xs).set (n + 1) a = x :: xs.set n a := List.set_cons_succ ..
/-! Numbers of their kinds. -/
theorem wf_u8 {n : Int} (h : (Lit.int .u8 n).wf = true) : 0 ≤ n ∧ n ≤ 255 := by
 simpa [Lit.wf, IntKind.min, IntKind.max, IntKind.signed, IntKind.bits] using h
theorem wf_i64 {n : Int} (h : (Lit.int .i64 n).wf = true) : -9223372036854775808 ≤ n ∧ n ≤ 9223372036854775807 := by
 simpa [Lit.wf, IntKind.min, IntKind.max, IntKind.signed, IntKind.bits] using h

theorem mul_bd {a b A B : Int} (ha : -A ≤ a ∧ a ≤ A) (hb : -B ≤ b ∧ b ≤ B) : -(A * B) ≤ a * b ∧ a * b ≤ A * B := by
 have h1 : a.natAbs ≤ A.natAbs := by omega
 have h2 : b.natAbs ≤ B.natAbs := by omega
 have h3 : (a * b).natAbs ≤ (A * B).natAbs := by rw [Int.natAbs_mul, Int.natAbs_mul]; exact Nat.mul_le_mul h1 h2
 have h4 : 0 ≤ A * B := Int.mul_nonneg (by omega) (by omega)
 omega

/-- A slice of whole numbers as it reads. -/
structure Nums (w : World) (k : IntKind) (A : Option Addr) (n : Nat) (xs : List Int) : Prop where
 len : xs.length = n
 most : n ≤ 9223372036854775807
 cell : ∀ j, j < n → ∃ b o, A = some ⟨b, o, none⟩ ∧ ∀ i, i < n → w.cell? ⟨b, o + i, none⟩ = some (.int k (xs.getD i 0))
 wf : ∀ x ∈ xs, (Lit.int k x).wf = true

theorem Nums.at_ {w : World} {k : IntKind} {A : Option Addr} {n : Nat} {xs : List Int} (h : Nums w k A n xs) (j : Nat) (hj : j < n) :
  ∃ b o, A = some ⟨b, o, none⟩ ∧ w.cell? ⟨b, o + j, none⟩ = some (.int k (xs.getD j 0)) := by
 obtain ⟨b, o, rfl, hc⟩ := h.cell j hj
 exact ⟨b, o, rfl, hc j hj⟩
theorem Nums.wf_at {w : World} {k : IntKind} {A : Option Addr} {n : Nat} {xs : List Int} (h : Nums w k A n xs) (j : Nat) (hj : j < n) : (Lit.int k (xs.getD j 0)).wf = true := by
 have := h.len
 rw [List.getD_eq_getElem?_getD, List.getElem?_eq_getElem (by omega)]
 exact h.wf _ (List.getElem_mem _)
theorem Nums.below {w w1 : World} {k : IntKind} {A : Option Addr} {n : Nat} {xs : List Int} (h : Nums w k A n xs) (hb : Below w.heap.size w w1) : Nums w1 k A n xs :=
 ⟨h.len, h.most, fun j hj => by
  obtain ⟨b, o, e, hc⟩ := h.cell j hj
  exact ⟨b, o, e, fun i hi => (hb.cell (World.block_lt_of_cell? w _ (hc i hi))).trans (hc i hi)⟩, h.wf⟩

theorem Nums.take {w : World} {k : IntKind} {A : Option Addr} {n : Nat} {xs : List Int} (h : Nums w k A n xs) (m : Nat) (hm : m ≤ n) : Nums w k A m (xs.take m) :=
 ⟨by rw [List.length_take, h.len]; omega, by have := h.most; omega, fun j hj => by
  obtain ⟨b, o, e, hc⟩ := h.cell j (by omega)
  refine ⟨b, o, e, fun i hi => ?_⟩
  rw [hc i (by omega)]
  simp [List.getD_eq_getElem?_getD, hi], fun x hx => h.wf x (List.mem_of_mem_take hx)⟩
/-- What s[m:] is. -/
theorem Nums.drop {w : World} {k : IntKind} {A : Option Addr} {n c : Nat} {xs : List Int} (h : Nums w k A n xs) (hc : n ≤ c) (m : Nat) (hm : m ≤ n) : Nums w k (if c = m then A else A.map (·.add m)) (n - m) (xs.drop m) := by
 refine ⟨by rw [List.length_drop, h.len], by have := h.most; omega, fun j hj => ?_, fun x hx => h.wf x (List.mem_of_mem_drop hx)⟩
 obtain ⟨b, o, e, hcell⟩ := h.cell m (by omega)
 subst e
 rw [if_neg (by omega)]
 refine ⟨b, o + m, by simp [Addr.add], fun i hi => ?_⟩
 rw [Nat.add_assoc, hcell (m + i) (by omega)]
 simp [List.getD_eq_getElem?_getD]
theorem Nums.none (w : World) (k : IntKind) (A : Option Addr) : Nums w k A 0 [] := ⟨rfl, by omega, fun j hj => absurd hj (by omega), by simp⟩
theorem Nums.drewN {w : World} {k : IntKind} {A : Option Addr} {n : Nat} {xs : List Int} (h : Nums w k A n xs) (m : Nat) : Nums (w.drewN m) k A n xs := ⟨h.len, h.most, h.cell, h.wf⟩
theorem Nums.drew {w : World} {k : IntKind} {A : Option Addr} {n : Nat} {xs : List Int} (h : Nums w k A n xs) : Nums w.drew k A n xs := ⟨h.len, h.most, h.cell, h.wf⟩

section
variable {H : Type} {enc : TypeId × Value → H} {P : Program} {w : World}
theorem trod_nums {t e : TypeId} {k : IntKind} {fuel : Nat} {v : Value} {y : DataW H × List MemPlace} (ht : P.underlying t = some (.slice e)) (he : P.underlying e = some (.int k)) (hc : P.cellsOf e = 1)
  (h : DataW.trod enc P w 0 (fun _ => true) true fuel t [v] = some y) : ∃ A len cap zs, v = .slice A len cap ∧ len ≤ cap ∧ Nums w k A len zs := by
 rcases open_ints ht he hc h with ⟨hcs, _⟩ | ⟨x, l, c, zs, hcs, _, hl, hm, hz, _, hcell, hwz⟩
 ·simp at hcs
  exact ⟨none, 0, 0, [], hcs, by omega, ⟨rfl, by omega, fun j hj => absurd hj (by omega), by simp⟩⟩
 ·simp at hcs
  subst hcs
  simp only [if_true] at hz
  unfold maxLen at hm
  refine ⟨_, _, _, zs.take l, rfl, hl, ⟨by rw [List.length_take]; omega, by omega, fun j hj => ?_, fun x hx => hwz x (List.mem_of_mem_take hx)⟩⟩
  obtain ⟨b, o, spot⟩ := x
  have hspot : spot = none := by simpa [Addr.add] using World.cell?_spot (hcell 0 (by omega))
  subst hspot
  refine ⟨b, o, rfl, fun i hi => ?_⟩
  have := hcell i (by omega)
  rw [add_plain] at this
  rw [this]
  congr 2
  simp [List.getD_eq_getElem?_getD, hi]
end

/-- A fact kept from the walk. -/
theorem hid {p : Prop} (h : p) : Hid p := h

/-- The world is the old one, some orders having been drawn. -/
def Drawn (w w' : World) : Prop := ∃ n, w' = w.drewN n
theorem Drawn.refl (w : World) : Drawn w w := ⟨0, rfl⟩
theorem Drawn.drewN (w : World) (n : Nat) : Drawn w (w.drewN n) := ⟨n, rfl⟩
theorem Drawn.trans {a b c : World} (h : Drawn a b) (k : Drawn b c) : Drawn a c := by
 obtain ⟨n, rfl⟩ := h
 obtain ⟨m, rfl⟩ := k
 exact ⟨n + m, World.drewN_drewN ..⟩
theorem _root_.Go.RowKit.Below.drewB {B : Nat} {w W : World} (h : Below B w W) (n : Nat) : Below B w (W.drewN n) := ⟨h.os, h.tape, h.output, h.size, h.block⟩
theorem below_drewN {B : Nat} {w W : World} (h : Below B w W) (n : Nat) : Below B w (W.drewN n) := ⟨h.os, h.tape, h.output, h.size, h.block⟩
theorem Drawn.below {w w' : World} (h : Drawn w w') (B : Nat) : Below B w w' := by
 obtain ⟨n, rfl⟩ := h
 exact below_drewN (Below.refl B w) n

/-! Blocks of the heap. -/
def Blk (w : World) (g : Nat) (cs : Array Value) (T : TypeId) : Prop := w.heap[g]? = some (.cells cs T (0, 0))
theorem Blk.cell {w : World} {g : Nat} {cs : Array Value} {T : TypeId} (h : Blk w g cs T) (i : Nat) : w.cell? ⟨g, i, none⟩ = cs[i]? := by
 unfold Blk at h; simp [World.cell?, h]
theorem Blk.free {w : World} {g : Nat} {cs : Array Value} {T : TypeId} (h : Blk w g cs T) (i : Nat) : w.frozen? ⟨g, i, none⟩ = false := by
 unfold Blk at h; simp [World.frozen?, h]
theorem Blk.lt {w : World} {g : Nat} {cs : Array Value} {T : TypeId} (h : Blk w g cs T) : g < w.heap.size := (Array.getElem?_eq_some_iff.1 h).1
theorem Blk.below {w w1 : World} {g B : Nat} {cs : Array Value} {T : TypeId} (h : Blk w g cs T) (hb : Below B w w1) (hg : g < B) : Blk w1 g cs T := (hb.block g hg).trans h
theorem Blk.later {w w1 : World} {g : Nat} {cs : Array Value} {T : TypeId} (h : Blk w g cs T) (hb : Below w.heap.size w w1) : Blk w1 g cs T := h.below hb h.lt
theorem Blk.drewN {w : World} {g : Nat} {cs : Array Value} {T : TypeId} (h : Blk w g cs T) (n : Nat) : Blk (w.drewN n) g cs T := h
theorem Blk.alloc {w : World} {g : Nat} {cs : Array Value} {T : TypeId} (h : Blk w g cs T) (o : Obj) : Blk (w.alloc o) g cs T := (heap_alloc_old w o h.lt).trans h
theorem Blk.new (w : World) (cs : Array Value) (T : TypeId) : Blk (w.alloc (.cells cs T)) w.heap.size cs T := heap_alloc_new w _
theorem Blk.set {w : World} {g : Nat} {cs : Array Value} {T : TypeId} (h : Blk w g cs T) (i : Nat) (v : Value) : Blk (w.setCell ⟨g, i, none⟩ v) g (cs.setIfInBounds i v) T := by
 unfold Blk at *; simp [World.setCell, Array.getElem?_modify, h]
theorem Blk.setOther {w : World} {g : Nat} {cs : Array Value} {T : TypeId} (h : Blk w g cs T) (a : Addr) (hne : g ≠ a.block) (v : Value) : Blk (w.setCell a v) g cs T :=
 (Below.heap_setCell w a v g hne).trans h
theorem Blk.grown {w w1 : World} {g : Nat} {cs : Array Value} {T : TypeId} {row : Option Nat} (h : Blk w g cs T) (hg : w.grownBy w1 row) (hne : some g ≠ row) : Blk w1 g cs T := (hg.block g h.lt hne).trans h

theorem below_step {B : Nat} {w w1 w2 : World} (h : Below B w w1) (hB : B ≤ w1.heap.size) (k : Below w1.heap.size w1 w2) : Below B w w2 := h.trans (k.mono hB)
theorem grown_of_below {w w1 : World} (h : Below w.heap.size w w1) (row : Option Nat) : w.grownBy w1 row := ⟨h.os, h.tape, h.output, h.size, fun i hi _ => h.block i hi⟩
theorem own_later {w w1 : World} {base : Nat} {e : TypeId} {size n : Nat} {v : Value} {xs : List Value} (h : w.ownsRow base e size v n xs) (hb : Below w.heap.size w w1) : w1.ownsRow base e size v n xs :=
 h.kept (grown_of_below hb none) (by cases v.ownBlock <;> simp)
theorem own_mono {w : World} {base base' : Nat} {e : TypeId} {size n : Nat} {v : Value} {xs : List Value} (h : w.ownsRow base e size v n xs) (hb : base' ≤ base) : w.ownsRow base' e size v n xs := by
 obtain ⟨h1, h2⟩ := h
 refine ⟨h1, ?_⟩
 rcases h2 with h2 | ⟨g, cap, cur, hv, hg, r⟩
 ·exact .inl h2
 ·exact .inr ⟨g, cap, cur, hv, by omega, r⟩
theorem own_ne {w : World} {base : Nat} {e : TypeId} {size n : Nat} {v : Value} {xs : List Value} {g : Nat} {cs : Array Value} {T : TypeId} (h : w.ownsRow base e size v n xs) (hb : Blk w g cs T) (hne : e ≠ T) : some g ≠ v.ownBlock := by
 rcases h.2 with ⟨rfl, _⟩ | ⟨k, cap, cur, rfl, _, hk, _⟩
 ·simp [Value.ownBlock]
 ·intro e1
  simp [Value.ownBlock] at e1
  subst e1
  unfold Blk at hb
  rw [hk] at hb
  injection hb with hb
  injection hb with _ ht
  exact hne ht
theorem own_slice {w : World} {base n : Nat} {e : TypeId} {size : Nat} {v : Value} {xs : List Value} (h : w.ownsRow base e size v n xs) : ∃ A c, v = .slice A n c := by
 rcases h.2 with ⟨rfl, rfl⟩ | ⟨g, cap, cur, rfl, _⟩
 ·exact ⟨none, 0, rfl⟩
 ·exact ⟨_, cap, rfl⟩
/-- An owned row of whole numbers reads as they are. -/
theorem own_nums {w : World} {base n : Nat} {e : TypeId} {k : IntKind} {v : Value} {xs : List Int} (h : w.ownsRow base e 1 v n (xs.map (Value.int k))) (hw : ∀ x ∈ xs, (Lit.int k x).wf = true) : ∃ A c, v = .slice A n c ∧ n ≤ c ∧ Nums w k A n xs := by
 have hl : xs.length = n := by have := h.1; simp at this; exact this
 rcases h.2 with ⟨rfl, rfl⟩ | ⟨g, cap, cur, rfl, _, hh, h1, h2, _⟩
 ·exact ⟨none, 0, rfl, by omega, hl, by omega, fun j hj => absurd hj (by omega), hw⟩
 ·unfold maxLen at h2
  refine ⟨_, cap, rfl, h1, hl, by omega, fun j hj => ⟨g, 0, rfl, fun i hi => ?_⟩, hw⟩
  have := h.cells (g := g) rfl i (.int k (xs.getD i 0)) (by simp [List.getElem?_eq_getElem (show i < xs.length by omega), List.getD_eq_getElem?_getD])
  rwa [add_plain] at this

theorem own_reads {w : World} {base n c : Nat} {e : TypeId} {k : IntKind} {A : Option Addr} {xs : List Int} (h : w.ownsRow base e 1 (.slice A n c) n (xs.map (Value.int k))) (hw : ∀ x ∈ xs, (Lit.int k x).wf = true) : n ≤ c ∧ Nums w k A n xs := by
 obtain ⟨A', c', e, h1, h2⟩ := own_nums h hw
 injection e with e1 e2 e3
 subst e1; subst e3
 exact ⟨h1, h2⟩

/-- A literal reads as it is laid. -/
theorem nums_lit {w : World} {g : Nat} {k : IntKind} {T : TypeId} {fr : Nat × Nat} {xs : List Int} {n : Nat} (h : w.heap[g]? = some (.cells (xs.map (Value.int k)).toArray T fr)) (hn : xs.length = n) (hw : ∀ x ∈ xs, (Lit.int k x).wf = true) (hm : n ≤ 9223372036854775807 := by omega) : Nums w k (some ⟨g, 0, none⟩) n xs :=
 ⟨hn, hm, fun j hj => ⟨g, 0, rfl, fun i hi => by
  rw [World.cell?, h]
  simp [List.getElem?_eq_getElem (show i < xs.length by omega), List.getD_eq_getElem?_getD]⟩, hw⟩

section
variable {P : Program} {ops : Array Oper} {rest : List Oper} {o : Oper} {a : Act} {Q : Exit → Act → World → Prop}
/-- append(v, y) onto a row of the call's own. -/
theorem append_one {W : World} (base : Nat) (hgd : o.guard = none) (s x : Operand) (t e : TypeId) (z : Value) (bytes : Nat)
  (ho : o.op = .call { callee := .builtin .append, args := #[s, x], argTypes := #[t, t] })
  (ht : P.underlying t = some (.slice e)) (hinfo : (P.info? e).map (fun i => (i.zero, i.size, i.bytes)) = some (some z, 1, bytes)) (hz : z.cells.size = 1)
  (v : Value) (n : Nat) (xs : List Value) (y : Value) (hs : a.eval s = v) (hx : a.eval x = .slice (some ⟨W.heap.size, 0, none⟩) 1 1) (h1 : y.oneCell' = true)
  (HO : W.ownsRow base e 1 v n xs) (hbase : base ≤ W.heap.size) (h63 : n + 1 ≤ 140737488355328) (hl : (n + 1) * bytes ≤ 140737488355328)
  (h : ∀ v1 w1, w1.ownsRow base e 1 v1 (n + 1) (xs ++ [y]) → W.grownBy w1 v.ownBlock → (v1.ownBlock = v.ownBlock ∨ ∃ b, v1.ownBlock = some b ∧ W.heap.size ≤ b) → wpList P ops Q rest (a.put o.dst v1) w1) :
  wpList P ops Q (o :: rest) a (W.alloc (.cells #[y] e)) := by
 obtain ⟨i0, hi, hz0, hz1, hz2⟩ := info_parts hinfo
 refine wpList_append_own_at (W.alloc (.cells #[y] e)) hgd s x t ho base e i0 z 1 bytes ht hi hz0 hz1 hz2 hz (by omega) v n xs hs (HO.alloc _) ⟨W.heap.size, 0, none⟩ 1 1 [y] hx rfl
  (cell_one_new W y e) (by simpa using h1) (by simp only [maxLen]; omega) hl (by simp; omega) ?_
 intro v1 w1 hown hg _ hat
 refine h v1 w1 hown (World.grownBy.trans (World.grownBy_alloc W _ _) hg) ?_
 rcases hat with hat | hat
 ·exact .inl hat
 ·exact .inr ⟨_, hat, by simp⟩

theorem Nums.low {w : World} {k : IntKind} {A : Option Addr} {n : Nat} {xs : List Int} (h : Nums w k A n xs) (hn : 0 < n) : ∀ a, A = some a → a.block < w.heap.size := by
 obtain ⟨b, o, e, hc⟩ := h.cell 0 hn
 intro a ha
 rw [e] at ha
 injection ha with ha
 rw [← ha]
 exact World.block_lt_of_cell? w _ (hc 0 hn)
theorem Nums.grown {w w1 : World} {k : IntKind} {A : Option Addr} {n : Nat} {xs : List Int} {row : Option Nat} (h : Nums w k A n xs) (hg : w.grownBy w1 row) (hne : 0 < n → ∀ a, A = some a → some a.block ≠ row) : Nums w1 k A n xs :=
 ⟨h.len, h.most, fun j hj => by
  obtain ⟨b, o, e, hc⟩ := h.cell j hj
  refine ⟨b, o, e, fun i hi => ?_⟩
  have hlt := World.block_lt_of_cell? w _ (hc i hi)
  have hb := hg.block b hlt (hne (by omega) _ e)
  rw [← hc i hi]
  simp only [World.cell?, hb], h.wf⟩

theorem below_set {B : Nat} {w W : World} (h : Below B w W) {g : Nat} (hg : B ≤ g) (i : Nat) (u : Value) : Below B w (W.setCell ⟨g, i, none⟩ u) := h.setCell hg u

theorem grown_from {w w' : World} {n : Nat} {row : Option Nat} (h : (w.drewN n).grownBy w' row) : w.grownBy w' row := ⟨h.os, h.tape, h.output, h.size, h.block⟩

theorem wpAnyH_strong {P : Program} {md : Region.Mode} {ops : Array Oper} {Q : Exit → Act → World → Prop} {S S2 : World → Prop} (h : ∀ w, S2 w → S w) : ∀ (fuel : Nat) (listed : Array Bool) (a : Act) (w : World), wpAnyH P md ops Q S2 fuel listed a w → wpAnyH P md ops Q S fuel listed a w
 | 0, _, _, _, k => k
 | fuel + 1, _, _, _, k => ⟨k.1, fun i hi => wpOp_mono (fun a' w' h' => ⟨h _ h'.1, wpAnyH_strong h fuel _ a' w' h'.2⟩) (k.2 i hi)⟩
/-- In the midst of a region: from here on a stronger condition is held. -/
theorem held_switch {P : Program} {md : Region.Mode} {ops : Array Oper} {Q : Exit → Act → World → Prop} {S : World → Prop} {fuel : Nat} {listed : Array Bool} {a : Act} {w : World} (S2 : World → Prop) (hm : ∀ w, S2 w → S w) (hS : S2 w) (h : S2 w → wpAnyH P md ops Q S2 fuel listed a w) : wpAnyH P md ops Q S fuel listed a w :=
 wpAnyH_strong hm _ _ _ _ (h hS)
/-- Numbers lie in no block of a slice and a Bool. -/
theorem nums_ne {w : World} {k : IntKind} {A : Option Addr} {n b : Nat} {xs : List Int} {T : TypeId} {u v : Value} (h : Nums w k A n xs) (hb : Blk w b #[u, v] T) (hu : ∀ y, u ≠ .int k y) (hv : ∀ y, v ≠ .int k y) : 0 < n → ∀ a, A = some a → some a.block ≠ some b := by
 intro hn a ha e
 injection e with e
 obtain ⟨b', o, e', hc⟩ := h.cell 0 hn
 rw [e'] at ha
 injection ha with ha
 subst ha
 have h0 := hc 0 hn
 simp only at e
 subst e
 rw [hb.cell] at h0
 rcases o with _ | _ | o
 ·simp at h0; exact hu _ h0
 ·simp at h0; exact hv _ h0
 ·simp at h0

/-- append(v, ys...) onto a row of the call's own: ys is read, nil let in. -/
theorem append_nums {W : World} (base : Nat) (hgd : o.guard = none) (s x : Operand) (t e : TypeId) (k : IntKind) (bytes : Nat)
  (ho : o.op = .call { callee := .builtin .append, args := #[s, x], argTypes := #[t, t] })
  (ht : P.underlying t = some (.slice e)) (hinfo : (P.info? e).map (fun i => (i.zero, i.size, i.bytes)) = some (some (.int k 0), 1, bytes))
  (v : Value) (n : Nat) (xs : List Value) (A : Option Addr) (m c : Nat) (ys : List Int) (hs : a.eval s = v) (hx : a.eval x = .slice A m c)
  (HO : W.ownsRow base e 1 v n xs) (HR : Nums W k A m ys) (hbase : base ≤ W.heap.size) (h63 : n + m ≤ 140737488355328) (hl : (n + m) * bytes ≤ 140737488355328)
  (h : ∀ v1 w1, w1.ownsRow base e 1 v1 (n + m) (xs ++ ys.map (Value.int k)) → W.grownBy w1 v.ownBlock → (v1.ownBlock = v.ownBlock ∨ v1.ownBlock = some W.heap.size) → wpList P ops Q rest (a.put o.dst v1) w1) :
  wpList P ops Q (o :: rest) a W := by
 obtain ⟨i0, hi, hz0, hz1, hz2⟩ := info_parts hinfo
 have hlen := HR.len
 rcases A with _ | ad
 ·have h0 : m = 0 := by
   rcases Nat.eq_zero_or_pos m with h0 | h0
   ·exact h0
   ·obtain ⟨b, o, e, _⟩ := HR.cell 0 h0
    cases e
  subst h0
  obtain rfl : ys = [] := List.eq_nil_of_length_eq_zero hlen
  have hrun : (Builtin.append_ #[t, t] o.type #[v, .slice none 0 c]).run P W = .ok v W := by
   rcases HO.2 with ⟨rfl, hn⟩ | ⟨g, cap, cur, rfl, _, _, hnc, _⟩
   ·simp [Builtin.append_, run_underlying ht, sizeOf, typeInfo, hi, Builtin.lenOf, Builtin.firstCells]
   ·simp [Builtin.append_, run_underlying ht, sizeOf, typeInfo, hi, Builtin.lenOf, Builtin.firstCells, hnc, storeCells]
  refine wpList_plain hgd fun K hK => ?_
  unfold Oper.wp execOp
  simp only [ho, resolve, invoke, builtin, Sem.run_bind, Sem.run_pure, Result.andThen_ok, List.map_toArray, List.map_cons, List.map_nil, hs, hx, hrun]
  exact hK _ _ (h v W (by simpa using HO) (World.grownBy.refl W _) (.inl rfl))
 ·refine wpList_append_own_at W hgd s x t ho base e i0 (.int k 0) 1 bytes ht hi hz0 hz1 hz2 rfl (by omega) v n xs hs HO ad m c (ys.map (Value.int k)) hx (by simp [hlen]) ?_ ?_
   (by simp only [maxLen]; omega) hl hbase ?_
  ·intro j u hj
   have hjm : j < m := by
    have := (List.getElem?_eq_some_iff.1 hj).1
    simp at this; omega
   obtain ⟨b, o, e, hc⟩ := HR.cell j hjm
   injection e with e
   subst e
   rw [add_plain, hc j hjm]
   rw [← hj]
   simp [List.getElem?_eq_getElem (show j < ys.length by omega), List.getD_eq_getElem?_getD]
  ·intro u hu
   obtain ⟨z, _, rfl⟩ := List.mem_map.1 hu
   rfl
  ·intro v1 w1 hown hg _ hat
   exact h v1 w1 hown hg hat
end
end Go.Proofs.Ytpcbpljdiacbmaa.Kit
