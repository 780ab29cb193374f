import Derived.Test.YtpcbpljdiacbmaaJRecs
import Derived.StillTailTactics
import Derived.BigQuiet
import Derived.Deep.QuietTactic
import Derived.Deep.RegionHeld3
import Derived.Laws.CopyOwn
import Derived.Deep.DeepCutAuto
import Derived.Lib.SliceRun
import Derived.Laws.EntriesVeiled
import Derived.Deep.AppendLies
set_option linter.unusedVariables false
set_option linter.unusedSimpArgs false
namespace Go.Proofs.Ytpcbpljdiacbmaa.Nand
open Go.RowKit Go.Proofs.Ytpcbpljdiacbmaa.Kit

/-! The array, as plain data. -/
structure NB where
 pages : List (List Int)
 erases : Int
 half : Bool
 dead : Bool
 failed : Bool
 doom : Nat
instance : Inhabited NB := ⟨⟨[], 0, false, false, false, 0⟩⟩
/-- What was being done when the power went off: of block i the programming of q, or (none) its erasing. -/
structure Way where
 i : Nat
 q : Option (List Int)
 dead : Bool
structure NA where
 bs : List NB
 pages : Nat
 fence : Int
 boots : Int
 armed : Nat
 off : Bool
 ops : Int
 way : Option Way
def NA.blk (N : NA) (i : Nat) : NB := N.bs.getD i default
def NA.setB (N : NA) (i : Nat) (x : NB) : NA := { N with bs := N.bs.set i x }
def NB.tick (x : NB) : NB := { x with doom := x.doom - 1, dead := x.dead || x.doom == 1 }
def NA.tick (N : NA) : NA := { N with ops := wrap64 (N.ops + 1), armed := N.armed - 1, off := N.armed == 1 }
def NA.begun (N : NA) (i : Nat) : NA := N.tick.setB i (N.blk i).tick
def tornL (q : List Int) (n : Int) : List Int := q.take n.toNat ++ List.replicate (q.length - n.toNat) 255
def NB.add (x : NB) (q : List Int) : NB := { x with pages := x.pages ++ [q] }
def NB.clean (x : NB) : NB := { x with pages := [], half := false, erases := wrap64 (x.erases + 1) }
def NA.atE (N : NA) (i : Int) : Int := if i < 0 ∨ N.bs.length ≤ i then 1 else if N.off then 9 else 0
def NA.readE (N : NA) (i p : Int) : Int :=
 if N.atE i ≠ 0 then N.atE i else if p < 0 ∨ N.pages ≤ p then 1 else if (N.blk i.toNat).pages.length ≤ p then 5 else if (N.blk i.toNat).half then 4 else 0
/-- Why a programming isn't begun; 0: it is. -/
def NA.progE (N : NA) (i p : Int) (n : Nat) (ep : Int) : Int :=
 if N.atE i ≠ 0 then N.atE i else if p < 0 ∨ N.pages ≤ p then 1 else if n ≠ 96 then 3 else if p ≠ (N.blk i.toNat).pages.length ∨ (N.blk i.toNat).half = true then 6 else if ep < N.fence then 7 else 0
def NA.prog (N : NA) (i p : Int) (q : List Int) (ep : Int) : NA × Int :=
 if N.progE i p q.length ep ≠ 0 then (N, N.progE i p q.length ep)
 else
  let j := i.toNat
  let M := N.begun j
  if M.off then ({ M with way := some ⟨j, some q, (M.blk j).dead⟩ }, 9)
  else if (M.blk j).dead then (M.setB j { (M.blk j).add (tornL q 0) with failed := true }, 8)
  else (M.setB j ((M.blk j).add q), 0)
def NA.eraseE (N : NA) (i : Int) (ep : Int) : Int := if N.atE i ≠ 0 then N.atE i else if ep < N.fence then 7 else 0
def NA.erase (N : NA) (i : Int) (ep : Int) : NA × Int :=
 if N.eraseE i ep ≠ 0 then (N, N.eraseE i ep)
 else
  let j := i.toNat
  let M := N.begun j
  if M.off then ({ M with way := some ⟨j, none, (M.blk j).dead⟩ }, 9)
  else if (M.blk j).dead then (M.setB j { (M.blk j) with failed := true }, 8)
  else (M.setB j (M.blk j).clean, 0)
def NA.raise (N : NA) (ep : Int) : NA × Int := if N.off then (N, 9) else if ep ≤ N.fence then (N, 7) else ({ N with fence := ep }, 0)
def NA.arm (N : NA) (n : Int) : NA × Int := if n < 0 then (N, 1) else ({ N with armed := n.toNat }, 0)
def NA.doomed (N : NA) (i n : Int) : NA × Int := if i < 0 ∨ N.bs.length ≤ i ∨ n < 0 then (N, 1) else (N.setB i.toNat { N.blk i.toNat with doom := n.toNat }, 0)
/-- What becomes of the block that was cut. -/
def NA.fall (N : NA) (cut : Int) : NA :=
 match N.way with
 | none => N
 | some u =>
  match u.q with
  | some q => if 0 < cut then N.setB u.i ((N.blk u.i).add (tornL q cut)) else N
  | none => if 96 ≤ cut ∧ u.dead = false then N.setB u.i (N.blk u.i).clean else if 0 < cut then N.setB u.i { N.blk u.i with half := decide (0 < (N.blk u.i).pages.length) } else N
def NA.restart (N : NA) (cut : Int) : NA := { N.fall cut with way := none, off := false, armed := 0, fence := 0, boots := wrap64 (N.boots + 1) }
def newB (dead : Bool) : NB := ⟨[], 0, false, dead, dead, 0⟩
def newA (n p : Nat) (bad : List Int) : NA := ⟨(List.range n).map (fun i : Nat => newB (decide ((i : Int) ∈ bad))), p, 0, 0, 0, false, 0, none⟩

/-- What always holds. -/
structure NA.Wf (N : NA) : Prop where
 nb : 1 ≤ N.bs.length ∧ N.bs.length ≤ 64
 np : 1 ≤ N.pages ∧ N.pages ≤ 32
 len : ∀ i, i < N.bs.length → (N.blk i).pages.length ≤ N.pages
 way : ∀ u, N.way = some u → N.off = true ∧ u.i < N.bs.length ∧ ∀ q, u.q = some q → (N.blk u.i).pages.length < N.pages
 armed : N.armed ≤ 9223372036854775807
 doom : ∀ i, i < N.bs.length → (N.blk i).doom ≤ 9223372036854775807

theorem blk_set {N : NA} (i j : Nat) (x : NB) (hi : i < N.bs.length) : (N.setB i x).blk j = if j = i then x else N.blk j := by
 unfold NA.blk NA.setB
 simp only
 rw [List.getD_eq_getElem?_getD, List.getElem?_set, List.getD_eq_getElem?_getD]
 by_cases e : i = j
 ·subst e
  rw [if_pos rfl, if_pos hi, if_pos rfl]
  rfl
 ·rw [if_neg e, if_neg (fun x => e x.symm)]
theorem len_set (N : NA) (i : Nat) (x : NB) : (N.setB i x).bs.length = N.bs.length := by unfold NA.setB; simp
theorem blk_tick (N : NA) (j : Nat) : N.tick.blk j = N.blk j := rfl
theorem len_tick (N : NA) : N.tick.bs.length = N.bs.length := rfl
theorem blk_begun {N : NA} (i j : Nat) (hi : i < N.bs.length) : (N.begun i).blk j = if j = i then (N.blk i).tick else N.blk j := by
 unfold NA.begun
 rw [blk_set (N := N.tick) i j _ hi, blk_tick]
theorem len_begun (N : NA) (i : Nat) : (N.begun i).bs.length = N.bs.length := by unfold NA.begun; rw [len_set, len_tick]
theorem begun_off (N : NA) (i : Nat) : (N.begun i).off = (N.armed == 1) := rfl
theorem tornL_len (q : List Int) (n : Int) : (tornL q n).length = q.length := by
 unfold tornL
 rw [List.length_append, List.length_take, List.length_replicate]
 omega
theorem tornL_wf (q : List Int) (n : Int) (h : ∀ x ∈ q, (Lit.int .u8 x).wf = true) : ∀ x ∈ tornL q n, (Lit.int .u8 x).wf = true := by
 intro x hx
 unfold tornL at hx
 rcases List.mem_append.1 hx with hx | hx
 ·exact h x (List.mem_of_mem_take hx)
 ·rw [List.mem_replicate] at hx
  rw [hx.2]
  rfl
/-- Another block i, with as many pages. -/
theorem NA.Wf.setB {N : NA} (h : N.Wf) (i : Nat) (x : NB) (hi : i < N.bs.length) (hp : x.pages.length = (N.blk i).pages.length) (hd : x.doom ≤ 9223372036854775807) : (N.setB i x).Wf := by
 refine ⟨by rw [len_set]; exact h.nb, h.np, fun j hj => ?_, fun u hu => ?_, h.armed, fun j hj => ?_⟩
 ·rw [len_set] at hj
  rw [blk_set i j x hi]
  split
  ·rename_i e
   subst e
   rw [hp]
   exact h.len j hj
  ·exact h.len j hj
 ·obtain ⟨h1, h2, h3⟩ := h.way u hu
  refine ⟨h1, by rw [len_set]; exact h2, fun q hq => ?_⟩
  rw [blk_set i u.i x hi]
  split
  ·rename_i e
   rw [hp, ← e]
   exact h3 q hq
  ·exact h3 q hq
 ·rw [len_set] at hj
  rw [blk_set i j x hi]
  split
  ·exact hd
  ·exact h.doom j hj
end Go.Proofs.Ytpcbpljdiacbmaa.Nand

set_option linter.unusedVariables false
set_option linter.unusedSimpArgs false
namespace Go.Proofs.Ytpcbpljdiacbmaa.Nand
open Go.RowKit Go.Proofs.Ytpcbpljdiacbmaa.Kit

/-- Nothing but blocks of F, and new ones, has changed. -/
structure Fr (F : Nat → Prop) (w w' : World) : Prop where
 os : w'.os = w.os
 tape : w'.tape = w.tape
 output : w'.output = w.output
 size : w.heap.size ≤ w'.heap.size
 block : ∀ g, g < w.heap.size → ¬ F g → w'.heap[g]? = w.heap[g]?
theorem Fr.refl (F : Nat → Prop) (w : World) : Fr F w w := ⟨rfl, rfl, rfl, Nat.le_refl _, fun _ _ _ => rfl⟩
theorem Fr.trans {F G : Nat → Prop} {w w1 w2 : World} (h : Fr F w w1) (k : Fr G w1 w2) (hG : ∀ g, g < w.heap.size → G g → F g) : Fr F w w2 :=
 ⟨k.os.trans h.os, k.tape.trans h.tape, k.output.trans h.output, Nat.le_trans h.size k.size, fun g hg hn => (k.block g (Nat.lt_of_lt_of_le hg h.size) (fun x => hn (hG g hg x))).trans (h.block g hg hn)⟩
theorem Fr.mono {F G : Nat → Prop} {w w1 : World} (h : Fr F w w1) (hG : ∀ g, g < w.heap.size → F g → G g) : Fr G w w1 :=
 ⟨h.os, h.tape, h.output, h.size, fun g hg hn => h.block g hg (fun x => hn (hG g hg x))⟩
theorem Fr.of_below {F : Nat → Prop} {w w1 : World} (h : Below w.heap.size w w1) : Fr F w w1 := ⟨h.os, h.tape, h.output, h.size, fun g hg _ => h.block g hg⟩
theorem Fr.of_grown {F : Nat → Prop} {w w1 : World} {row : Option Nat} (h : w.grownBy w1 row) (hr : ∀ g, row = some g → F g) : Fr F w w1 :=
 ⟨h.os, h.tape, h.output, h.size, fun g hg hn => h.block g hg (fun x => hn (hr g x.symm))⟩
theorem Fr.set {F : Nat → Prop} {w w1 : World} (h : Fr F w w1) (g i : Nat) (v : Value) (hg : F g ∨ w.heap.size ≤ g) : Fr F w (w1.setCell ⟨g, i, none⟩ v) :=
 ⟨h.os, h.tape, h.output, by simpa [World.setCell] using h.size, fun j hj hn => (Below.heap_setCell w1 ⟨g, i, none⟩ v j (by rintro rfl; rcases hg with hg | hg; exact hn hg; exact absurd hj (Nat.not_lt.2 hg))).trans (h.block j hj hn)⟩
theorem Fr.alloc {F : Nat → Prop} {w w1 : World} (h : Fr F w w1) (o : Obj) : Fr F w (w1.alloc o) :=
 h.trans (G := fun _ => False) (Fr.of_below ((Below.refl _ _).alloc (Nat.le_refl _) o)) (fun _ _ x => x.elim)
theorem Fr.drewN {F : Nat → Prop} {w w1 : World} (h : Fr F w w1) (n : Nat) : Fr F w (w1.drewN n) := ⟨h.os, h.tape, h.output, h.size, h.block⟩
theorem Fr.below {F : Nat → Prop} {w w1 : World} {B : Nat} (h : Fr F w w1) (hB : B ≤ w.heap.size) (hF : ∀ g, F g → B ≤ g) : Below B w w1 :=
 ⟨h.os, h.tape, h.output, h.size, fun g hg => h.block g (by omega) (fun x => by have := hF g x; omega)⟩
/-- The blocks of F and those that are new. -/
def grow (F : Nat → Prop) (w w' : World) : Nat → Prop := fun g => F g ∨ (w.heap.size ≤ g ∧ g < w'.heap.size)

theorem own_keep {w w' : World} {base n size : Nat} {e : TypeId} {v : Value} {xs : List Value} (h : w.ownsRow base e size v n xs) (hk : ∀ g, v.ownBlock = some g → w'.heap[g]? = w.heap[g]?) : w'.ownsRow base e size v n xs := by
 obtain ⟨h1, h2⟩ := h
 refine ⟨h1, ?_⟩
 rcases h2 with h2 | ⟨g, cap, cur, hv, hg, hh, r⟩
 ·exact .inl h2
 ·exact .inr ⟨g, cap, cur, hv, hg, by rw [hk g (by rw [hv]; rfl)]; exact hh, r⟩
theorem own_block {w : World} {base n size : Nat} {e : TypeId} {v : Value} {xs : List Value} (h : w.ownsRow base e size v n xs) (g : Nat) (hg : v.ownBlock = some g) : ∃ cur, w.heap[g]? = some (.cells cur e (0, 0)) ∧ g < w.heap.size := by
 rcases h.2 with ⟨rfl, _⟩ | ⟨k, cap, cur, rfl, _, hk, _⟩
 ·cases hg
 ·have : k = g := by simpa [Value.ownBlock] using hg
  subst this
  exact ⟨cur, hk, (Array.getElem?_eq_some_iff.1 hk).1⟩
theorem own_base {w : World} {base base' n size : Nat} {e : TypeId} {v : Value} {xs : List Value} (h : w.ownsRow base e size v n xs) (hb : ∀ g, v.ownBlock = some g → base' ≤ g) : w.ownsRow base' e size v n xs := by
 obtain ⟨h1, h2⟩ := h
 refine ⟨h1, ?_⟩
 rcases h2 with h2 | ⟨g, cap, cur, hv, hg, r⟩
 ·exact .inl h2
 ·exact .inr ⟨g, cap, cur, hv, hb g (by rw [hv]; rfl), r⟩
theorem own_low {w : World} {base n size : Nat} {e : TypeId} {v : Value} {xs : List Value} (h : w.ownsRow base e size v n xs) (g : Nat) (hg : v.ownBlock = some g) : base ≤ g := by
 rcases h.2 with ⟨rfl, _⟩ | ⟨k, cap, cur, rfl, hb, hk, _⟩
 ·cases hg
 ·have : k = g := by simpa [Value.ownBlock] using hg
  omega

/-- A page's bytes, in a row of their own. -/
def ByteR (w : World) (F : Nat → Prop) (u : Value) (q : List Int) : Prop :=
 w.ownsRow 0 5 1 u q.length (q.map (Value.int .u8)) ∧ (∀ x ∈ q, (Lit.int .u8 x).wf = true) ∧ ∀ g, u.ownBlock = some g → F g
theorem ByteR.keep {w w' : World} {F F' : Nat → Prop} {u : Value} {q : List Int} (h : ByteR w F u q) (hk : ∀ g, u.ownBlock = some g → F g → w'.heap[g]? = w.heap[g]?) (hF : ∀ g, u.ownBlock = some g → F g → F' g) : ByteR w' F' u q :=
 ⟨own_keep h.1 (fun g hg => hk g hg (h.2.2 g hg)), h.2.1, fun g hg => hF g hg (h.2.2 g hg)⟩
/-- The pages of a block. -/
def PagesR (w : World) (F : Nat → Prop) (v : Value) (pgs : List (List Int)) : Prop :=
 ∃ xs : List Value, w.ownsRow 0 22 1 v pgs.length xs ∧ (∀ g, v.ownBlock = some g → F g) ∧ ∀ j, j < pgs.length → ∃ u, xs[j]? = some u ∧ (pgs.getD j []).length = 96 ∧ ByteR w F u (pgs.getD j [])
theorem PagesR.keep {w w' : World} {F F' : Nat → Prop} {v : Value} {pgs : List (List Int)} (h : PagesR w F v pgs) (hk : ∀ g cur, w.heap[g]? = some (.cells cur 22 (0, 0)) ∧ v.ownBlock = some g ∨ w.heap[g]? = some (.cells cur 5 (0, 0)) → F g → w'.heap[g]? = w.heap[g]?) (hF : ∀ g, g < w.heap.size → F g → F' g) : PagesR w' F' v pgs := by
 obtain ⟨xs, ho, hf, hp⟩ := h
 refine ⟨xs, own_keep ho (fun g hg => ?_), fun g hg => hF g (own_block ho g hg).choose_spec.2 (hf g hg), fun j hj => ?_⟩
 ·obtain ⟨cur, hc, _⟩ := own_block ho g hg
  exact hk g cur (.inl ⟨hc, hg⟩) (hf g hg)
 ·obtain ⟨u, hu, hl, hb⟩ := hp j hj
  refine ⟨u, hu, hl, hb.keep (fun g hg hFg => ?_) (fun g hg hFg => hF g (own_block hb.1 g hg).choose_spec.2 hFg)⟩
  obtain ⟨cur, hc, _⟩ := own_block hb.1 g hg
  exact hk g cur (.inr hc) hFg
def recOf (v : Value) (x : NB) : List Value := [v, .int .i64 x.erases, .bool x.half, .bool x.dead, .bool x.failed, .int .i64 (x.doom : Int)]
/-- The row of blocks. -/
def RowB (w : World) (gb : Nat) (pv : Nat → Value) (bs : List NB) : Prop :=
 ∃ cs : Array Value, Blk w gb cs 70 ∧ cs.size = bs.length * 6 ∧ ∀ i, i < bs.length → ∀ k v, (recOf (pv i) (bs.getD i default))[k]? = some v → cs[i * 6 + k]? = some v
theorem recOf_lt {v u : Value} {x : NB} {k : Nat} (h : (recOf v x)[k]? = some u) : k < 6 := (List.getElem?_eq_some_iff.1 h).1
theorem RowB.keep {w w' : World} {gb : Nat} {pv : Nat → Value} {bs : List NB} (h : RowB w gb pv bs) (hk : w'.heap[gb]? = w.heap[gb]?) : RowB w' gb pv bs := by
 obtain ⟨cs, hb, r⟩ := h
 exact ⟨cs, by unfold Blk at *; rw [hk]; exact hb, r⟩
theorem RowB.cell {w : World} {gb : Nat} {pv : Nat → Value} {bs : List NB} (h : RowB w gb pv bs) (i : Nat) (hi : i < bs.length) (k : Nat) (v : Value) (hv : (recOf (pv i) (bs.getD i default))[k]? = some v) : w.cell? ⟨gb, i * 6 + k, none⟩ = some v := by
 obtain ⟨cs, hb, hs, hc⟩ := h
 rw [hb.cell]
 exact hc i hi k v hv
theorem RowB.free {w : World} {gb : Nat} {pv : Nat → Value} {bs : List NB} (h : RowB w gb pv bs) (o : Nat) : w.frozen? ⟨gb, o, none⟩ = false := by
 obtain ⟨cs, hb, _⟩ := h
 exact hb.free o
theorem RowB.block {w : World} {gb : Nat} {pv : Nat → Value} {bs : List NB} (h : RowB w gb pv bs) : ∃ cs, w.heap[gb]? = some (.cells cs 70 (0, 0)) := by
 obtain ⟨cs, hb, _⟩ := h
 exact ⟨cs, hb⟩
/-- One field of one block is stored. -/
theorem RowB.set {w : World} {gb : Nat} {pv : Nat → Value} {bs : List NB} (h : RowB w gb pv bs) (i k : Nat) (hi : i < bs.length) (hk : k < 6) (u : Value) (pv' : Nat → Value) (x : NB) (hx : recOf (pv' i) x = (recOf (pv i) (bs.getD i default)).set k u) (hp : ∀ j, j ≠ i → pv' j = pv j) :
  RowB (w.setCell ⟨gb, i * 6 + k, none⟩ u) gb pv' (bs.set i x) := by
 obtain ⟨cs, hb, hs, hc⟩ := h
 refine ⟨cs.setIfInBounds (i * 6 + k) u, hb.set (i * 6 + k) u, by simpa using hs, fun j hj l v hv => ?_⟩
 rw [List.length_set] at hj
 have hl := recOf_lt hv
 rw [Array.getElem?_setIfInBounds]
 have hgd : (bs.set i x).getD j default = if j = i then x else bs.getD j default := by
  rw [List.getD_eq_getElem?_getD, List.getElem?_set, List.getD_eq_getElem?_getD]
  by_cases e : i = j
  ·subst e
   rw [if_pos rfl, if_pos hi, if_pos rfl]
   rfl
  ·rw [if_neg e, if_neg (fun x => e x.symm)]
 rw [hgd] at hv
 by_cases e : j = i
 ·subst e
  rw [if_pos rfl, hx, List.getElem?_set] at hv
  by_cases e2 : k = l
  ·subst e2
   rw [if_pos rfl, if_pos (by simp [recOf]; exact hk)] at hv
   rw [if_pos rfl, if_pos (by omega)]
   exact hv
  ·rw [if_neg e2] at hv
   rw [if_neg (by omega)]
   exact hc j hj l v hv
 ·rw [if_neg e, hp j e] at hv
  rw [if_neg (by omega)]
  exact hc j hj l v hv
/-- What lies in the field way. -/
def WayR (w : World) (F : Nat → Prop) (gb : Nat) (way : Option Way) (v : Value) : Prop :=
 match way with
 | none => v = .nilFunc
 | some y =>
  match y.q with
  | some q => ∃ c1 c2 u, v = .func (.func 90) #[] #[.pointer (some ⟨c1, 0, none⟩), .pointer (some ⟨c2, 0, none⟩)] ∧ Blk w c1 #[.pointer (some ⟨gb, y.i * 6, none⟩)] 96 ∧ Blk w c2 #[u] 22 ∧ F c1 ∧ F c2 ∧ q.length = 96 ∧ ByteR w F u q
  | none => ∃ c1 c2 c3, v = .func (.func 75) #[] #[.pointer (some ⟨c2, 0, none⟩), .pointer (some ⟨c3, 0, none⟩), .pointer (some ⟨c1, 0, none⟩)] ∧ Blk w c1 #[.pointer (some ⟨gb, y.i * 6, none⟩)] 96 ∧ Blk w c2 #[.bool y.dead] 4 ∧ Blk w c3 #[.func (.func 74) #[] #[.pointer (some ⟨c1, 0, none⟩)]] 1 ∧ F c1 ∧ F c2 ∧ F c3
theorem WayR.keep {w w' : World} {F F' : Nat → Prop} {gb : Nat} {way : Option Way} {v : Value} (h : WayR w F gb way v) (hk : ∀ g, F g → (∀ cs, w.heap[g]? ≠ some (.cells cs 67 (0, 0))) → (∀ cs, w.heap[g]? ≠ some (.cells cs 70 (0, 0))) → w'.heap[g]? = w.heap[g]?) (hF : ∀ g, g < w.heap.size → F g → F' g) : WayR w' F' gb way v := by
 unfold WayR at *
 have hkb : ∀ g cs T, Blk w g cs T → F g → T ≠ 67 → T ≠ 70 → Blk w' g cs T := by
  intro g cs T hb hg h1 h2
  unfold Blk at *
  rw [hk g hg (fun cs' e => by rw [hb] at e; injection e with e; injection e with _ e; exact h1 e) (fun cs' e => by rw [hb] at e; injection e with e; injection e with _ e; exact h2 e)]
  exact hb
 cases way with
 | none => exact h
 | some y =>
  simp only at h ⊢
  cases hq : y.q with
  | some q =>
   rw [hq] at h
   obtain ⟨c1, c2, u, hv, b1, b2, f1, f2, hl, hb⟩ := h
   refine ⟨c1, c2, u, hv, hkb _ _ _ b1 f1 (by decide) (by decide), hkb _ _ _ b2 f2 (by decide) (by decide), hF _ b1.lt f1, hF _ b2.lt f2, hl, hb.keep (fun g hg hFg => ?_) (fun g hg hFg => hF g (own_block hb.1 g hg).choose_spec.2 hFg)⟩
   obtain ⟨cur, hc, _⟩ := own_block hb.1 g hg
   exact hk g hFg (fun cs' e => by rw [hc] at e; injection e with e; injection e with _ e; revert e; decide) (fun cs' e => by rw [hc] at e; injection e with e; injection e with _ e; revert e; decide)
  | none =>
   rw [hq] at h
   obtain ⟨c1, c2, c3, hv, b1, b2, b3, f1, f2, f3⟩ := h
   exact ⟨c1, c2, c3, hv, hkb _ _ _ b1 f1 (by decide) (by decide), hkb _ _ _ b2 f2 (by decide) (by decide), hkb _ _ _ b3 f3 (by decide) (by decide), hF _ b1.lt f1, hF _ b2.lt f2, hF _ b3.lt f3⟩
def hdOf (gb : Nat) (N : NA) (wv : Value) : Array Value := #[.slice (some ⟨gb, 0, none⟩) N.bs.length N.bs.length, .int .i64 (N.pages : Int), .int .u64 N.fence, .int .i64 N.boots, .int .i64 (N.armed : Int), .bool N.off, .int .i64 N.ops, wv]
/-- An array in memory. -/
structure AR (w : World) (F : Nat → Prop) (b gb : Nat) (pv : Nat → Value) (wv : Value) (N : NA) : Prop where
 hd : Blk w b (hdOf gb N wv) 67
 row : RowB w gb pv N.bs
 pgs : ∀ i, i < N.bs.length → PagesR w F (pv i) (N.blk i).pages
 apart : ∀ i j, i < N.bs.length → j < N.bs.length → i ≠ j → ∀ g, (pv i).ownBlock = some g → (pv j).ownBlock ≠ some g
 way : WayR w F gb N.way wv
 inb : F b
 ing : F gb
 low : ∀ g, F g → g < w.heap.size
 wf : N.Wf
theorem AR.keep {w w' : World} {F : Nat → Prop} {b gb : Nat} {pv : Nat → Value} {wv : Value} {N : NA} (h : AR w F b gb pv wv N) (hk : ∀ g, F g → w'.heap[g]? = w.heap[g]?) (hs : w.heap.size ≤ w'.heap.size) : AR w' F b gb pv wv N :=
 ⟨by have := h.hd; unfold Blk at *; rw [hk b h.inb]; exact this, h.row.keep (hk gb h.ing), fun i hi => (h.pgs i hi).keep (fun g _ _ hg => hk g hg) (fun _ _ hg => hg), h.apart, h.way.keep (fun g hg _ _ => hk g hg) (fun _ _ hg => hg), h.inb, h.ing, fun g hg => Nat.lt_of_lt_of_le (h.low g hg) hs, h.wf⟩
def Arr (w : World) (F : Nat → Prop) (b : Nat) (N : NA) : Prop := ∃ gb pv wv, AR w F b gb pv wv N
theorem Arr.keep {w w' : World} {F : Nat → Prop} {b : Nat} {N : NA} (h : Arr w F b N) (hk : ∀ g, F g → w'.heap[g]? = w.heap[g]?) (hs : w.heap.size ≤ w'.heap.size) : Arr w' F b N := by
 obtain ⟨gb, pv, wv, h⟩ := h
 exact ⟨gb, pv, wv, h.keep hk hs⟩
theorem Arr.low {w : World} {F : Nat → Prop} {b : Nat} {N : NA} (h : Arr w F b N) : ∀ g, F g → g < w.heap.size := by
 obtain ⟨gb, pv, wv, h⟩ := h
 exact h.low
theorem Arr.wf {w : World} {F : Nat → Prop} {b : Nat} {N : NA} (h : Arr w F b N) : N.Wf := by
 obtain ⟨gb, pv, wv, h⟩ := h
 exact h.wf
theorem Arr.later {w w' : World} {F : Nat → Prop} {b : Nat} {N : NA} (h : Arr w F b N) (hB : Below w.heap.size w w') : Arr w' F b N := h.keep (fun g hg => hB.block g (h.low g hg)) hB.size
theorem Arr.fr {w w' : World} {F G : Nat → Prop} {b : Nat} {N : NA} (h : Arr w F b N) (hf : Fr G w w') (hd : ∀ g, F g → ¬ G g) : Arr w' F b N := h.keep (fun g hg => hf.block g (h.low g hg) (hd g hg)) hf.size
theorem AR.mono {w : World} {F F' : Nat → Prop} {b gb : Nat} {pv : Nat → Value} {wv : Value} {N : NA} (h : AR w F b gb pv wv N) (hF : ∀ g, F g → F' g) (hl : ∀ g, F' g → g < w.heap.size) : AR w F' b gb pv wv N :=
 ⟨h.hd, h.row, fun i hi => (h.pgs i hi).keep (fun _ _ _ _ => rfl) (fun g _ hg => hF g hg), h.apart, h.way.keep (fun _ _ _ _ => rfl) (fun g _ hg => hF g hg), hF _ h.inb, hF _ h.ing, hl, h.wf⟩
/-- Only the head and the row of blocks have changed, and no pages. -/
theorem AR.upd {w w' : World} {F S : Nat → Prop} {b gb : Nat} {pv : Nat → Value} {wv : Value} {N : NA} (h : AR w F b gb pv wv N) (hf : Fr S w w') (hS : ∀ g, S g → g = b ∨ g = gb) (N' : NA) (wv' : Value) (hb : Blk w' b (hdOf gb N' wv') 67) (hr : RowB w' gb pv N'.bs)
  (hl : N'.bs.length = N.bs.length) (hp : ∀ i, i < N.bs.length → (N'.blk i).pages = (N.blk i).pages) (hw : WayR w' F gb N'.way wv') (wf : N'.Wf) : AR w' F b gb pv wv' N' := by
 have hbt := h.hd
 obtain ⟨cs, hrt⟩ := h.row.block
 refine ⟨hb, hr, fun i hi => ?_, fun i j hi hj => h.apart i j (by omega) (by omega), hw, h.inb, h.ing, fun g hg => Nat.lt_of_lt_of_le (h.low g hg) hf.size, wf⟩
 rw [hp i (by omega)]
 refine (h.pgs i (by omega)).keep (fun g cur ht hg => hf.block g (h.low g hg) (fun hs => ?_)) (fun _ _ hg => hg)
 unfold Blk at hbt
 rcases hS g hs with rfl | rfl
 ·rw [hbt] at ht
  rcases ht with ⟨e, _⟩ | e <;> (injection e with e; injection e with _ e; revert e; decide)
 ·rw [hrt] at ht
  rcases ht with ⟨e, _⟩ | e <;> (injection e with e; injection e with _ e; revert e; decide)
theorem AR.ne {w : World} {F : Nat → Prop} {b gb : Nat} {pv : Nat → Value} {wv : Value} {N : NA} (h : AR w F b gb pv wv N) : b ≠ gb := by
 rintro rfl
 obtain ⟨cs, hr⟩ := h.row.block
 have := h.hd
 unfold Blk at this
 rw [this] at hr
 injection hr with hr
 injection hr with _ hr
 revert hr
 decide
/-- The same way, where only the head and the row have changed. -/
theorem AR.wayKeep {w w' : World} {F S : Nat → Prop} {b gb : Nat} {pv : Nat → Value} {wv : Value} {N : NA} (h : AR w F b gb pv wv N) (hf : Fr S w w') (hS : ∀ g, S g → g = b ∨ g = gb) : WayR w' F gb N.way wv := by
 have hbt := h.hd
 obtain ⟨cs, hrt⟩ := h.row.block
 refine h.way.keep (fun g hg h1 h2 => hf.block g (h.low g hg) (fun hs => ?_)) (fun _ _ hg => hg)
 rcases hS g hs with rfl | rfl
 ·exact h1 _ hbt
 ·exact h2 _ hrt
end Go.Proofs.Ytpcbpljdiacbmaa.Nand

set_option linter.unusedVariables false
set_option linter.unusedSimpArgs false
namespace Go.Proofs.Ytpcbpljdiacbmaa.Nand
open Go.RowKit Go.Proofs.Ytpcbpljdiacbmaa.Kit

theorem AR.cells {w : World} {F : Nat → Prop} {b gb : Nat} {pv : Nat → Value} {wv : Value} {N : NA} (h : AR w F b gb pv wv N) :
  w.cell? ⟨b, 0, none⟩ = some (.slice (some ⟨gb, 0, none⟩) N.bs.length N.bs.length) ∧ w.cell? ⟨b, 1, none⟩ = some (.int .i64 (N.pages : Int)) ∧ w.cell? ⟨b, 2, none⟩ = some (.int .u64 N.fence) ∧ w.cell? ⟨b, 3, none⟩ = some (.int .i64 N.boots) ∧
  w.cell? ⟨b, 4, none⟩ = some (.int .i64 (N.armed : Int)) ∧ w.cell? ⟨b, 5, none⟩ = some (.bool N.off) ∧ w.cell? ⟨b, 6, none⟩ = some (.int .i64 N.ops) ∧ w.cell? ⟨b, 7, none⟩ = some wv :=
 ⟨h.hd.cell 0, h.hd.cell 1, h.hd.cell 2, h.hd.cell 3, h.hd.cell 4, h.hd.cell 5, h.hd.cell 6, h.hd.cell 7⟩
/-- The cells of one block. -/
theorem AR.recs {w : World} {F : Nat → Prop} {b gb : Nat} {pv : Nat → Value} {wv : Value} {N : NA} (h : AR w F b gb pv wv N) (i : Nat) (hi : i < N.bs.length) :
  (∃ A c, pv i = .slice A (N.blk i).pages.length c ∧ w.cell? ⟨gb, i * 6, none⟩ = some (.slice A (N.blk i).pages.length c)) ∧ w.cell? ⟨gb, i * 6 + 1, none⟩ = some (.int .i64 (N.blk i).erases) ∧ w.cell? ⟨gb, i * 6 + 2, none⟩ = some (.bool (N.blk i).half) ∧
  w.cell? ⟨gb, i * 6 + 3, none⟩ = some (.bool (N.blk i).dead) ∧ w.cell? ⟨gb, i * 6 + 4, none⟩ = some (.bool (N.blk i).failed) ∧ w.cell? ⟨gb, i * 6 + 5, none⟩ = some (.int .i64 ((N.blk i).doom : Int)) := by
 refine ⟨?_, h.row.cell i hi 1 _ rfl, h.row.cell i hi 2 _ rfl, h.row.cell i hi 3 _ rfl, h.row.cell i hi 4 _ rfl, h.row.cell i hi 5 _ rfl⟩
 obtain ⟨xs, ho, _⟩ := h.pgs i hi
 obtain ⟨A, c, e⟩ := own_slice ho
 refine ⟨A, c, e, ?_⟩
 rw [← e]
 exact h.row.cell i hi 0 _ rfl
theorem blocks_any (F : Nat → Prop) (b : Nat) (N : NA) (w : World) (h : Arr w F b N) : Calls Try.prog 54 #[.pointer (some ⟨b, 0, none⟩)] w fun e w' => e = .returned (.int .i64 (N.bs.length : Int)) ∧ w' = w := by
 obtain ⟨gb, pv, wv, h⟩ := h
 obtain ⟨c0, c1, c2, c3, c4, c5, c6, c7⟩ := h.cells
 have hb := h.wf.nb
 clear h
 generalize N.bs.length = n at *
 go_enter Try.func54, Try.ntmps54
 go_wp2
 go_ret
 exact ⟨rfl, rfl⟩
theorem pages_any (F : Nat → Prop) (b : Nat) (N : NA) (w : World) (h : Arr w F b N) : Calls Try.prog 55 #[.pointer (some ⟨b, 0, none⟩)] w fun e w' => e = .returned (.int .i64 (N.pages : Int)) ∧ w' = w := by
 obtain ⟨gb, pv, wv, h⟩ := h
 obtain ⟨c0, c1, c2, c3, c4, c5, c6, c7⟩ := h.cells
 have hb := h.wf.nb
 clear h
 skip
 go_enter Try.func55, Try.ntmps55
 go_wp2
 go_ret
 exact ⟨rfl, rfl⟩
theorem ops_any (F : Nat → Prop) (b : Nat) (N : NA) (w : World) (h : Arr w F b N) : Calls Try.prog 19 #[.pointer (some ⟨b, 0, none⟩)] w fun e w' => e = .returned (.int .i64 N.ops) ∧ w' = w := by
 obtain ⟨gb, pv, wv, h⟩ := h
 obtain ⟨c0, c1, c2, c3, c4, c5, c6, c7⟩ := h.cells
 have hb := h.wf.nb
 clear h
 skip
 go_enter Try.func19, Try.ntmps19
 go_wp2
 go_ret
 exact ⟨rfl, rfl⟩
theorem on_any (F : Nat → Prop) (b : Nat) (N : NA) (w : World) (h : Arr w F b N) : Calls Try.prog 36 #[.pointer (some ⟨b, 0, none⟩)] w fun e w' => e = .returned (.bool (!N.off)) ∧ w' = w := by
 obtain ⟨gb, pv, wv, h⟩ := h
 obtain ⟨c0, c1, c2, c3, c4, c5, c6, c7⟩ := h.cells
 have hb := h.wf.nb
 clear h
 skip
 go_enter Try.func36, Try.ntmps36
 go_wp2
 go_ret
 exact ⟨rfl, rfl⟩
def NA.inI (N : NA) (i : Int) : Bool := decide (0 ≤ i ∧ i < N.bs.length)
theorem next_any (F : Nat → Prop) (b : Nat) (N : NA) (i : Int) (w : World) (h : Arr w F b N) : Calls Try.prog 41 #[.pointer (some ⟨b, 0, none⟩), .int .i64 i] w fun e w' => e = .returned (.int .i64 (if N.inI i then ((N.blk i.toNat).pages.length : Int) else 0)) ∧ w' = w := by
 obtain ⟨gb, pv, wv, h⟩ := h
 obtain ⟨c0, -, -, -, -, -, -, -⟩ := h.cells
 have hb := h.wf.nb
 by_cases hi : 0 ≤ i ∧ i < N.bs.length
 ·rw [show N.inI i = true from decide_eq_true hi, if_pos rfl]
  obtain ⟨h0, h1⟩ := hi
  obtain ⟨i, rfl⟩ := Int.eq_ofNat_of_zero_le h0
  rw [show ((i : Int)).toNat = i by omega]
  obtain ⟨⟨A, c, -, d0⟩, d1, d2, d3, d4, d5⟩ := h.recs i (by omega)
  clear h
  generalize N.bs.length = n at *
  generalize (N.blk i).pages.length = m at *
  generalize (N.blk i).erases = x at *
  generalize (N.blk i).failed = y at *
  go_enter Try.func41, Try.ntmps41
  go_wp2
  go_ret
  exact ⟨rfl, rfl⟩
 ·rw [show N.inI i = false from decide_eq_false hi]
  clear h
  show Calls _ _ _ _ fun e w' => e = .returned (.int .i64 0) ∧ w' = w
  generalize N.bs.length = n at *
  by_cases h0 : i < 0
  ·clear hi
   go_enter Try.func41, Try.ntmps41
   go_wp2
   go_ret
   exact ⟨rfl, rfl⟩
  ·have h1 : (n : Int) ≤ i := by omega
   clear hi
   go_enter Try.func41, Try.ntmps41
   go_wp2
   go_ret
   exact ⟨rfl, rfl⟩
theorem erases_any (F : Nat → Prop) (b : Nat) (N : NA) (i : Int) (w : World) (h : Arr w F b N) : Calls Try.prog 28 #[.pointer (some ⟨b, 0, none⟩), .int .i64 i] w fun e w' => e = .returned (.int .i64 (if N.inI i then (N.blk i.toNat).erases else 0)) ∧ w' = w := by
 obtain ⟨gb, pv, wv, h⟩ := h
 obtain ⟨c0, -, -, -, -, -, -, -⟩ := h.cells
 have hb := h.wf.nb
 by_cases hi : 0 ≤ i ∧ i < N.bs.length
 ·rw [show N.inI i = true from decide_eq_true hi, if_pos rfl]
  obtain ⟨h0, h1⟩ := hi
  obtain ⟨i, rfl⟩ := Int.eq_ofNat_of_zero_le h0
  rw [show ((i : Int)).toNat = i by omega]
  obtain ⟨⟨A, c, -, d0⟩, d1, d2, d3, d4, d5⟩ := h.recs i (by omega)
  clear h
  generalize N.bs.length = n at *
  generalize (N.blk i).pages.length = m at *
  generalize (N.blk i).erases = x at *
  generalize (N.blk i).failed = y at *
  go_enter Try.func28, Try.ntmps28
  go_wp2
  go_ret
  exact ⟨rfl, rfl⟩
 ·rw [show N.inI i = false from decide_eq_false hi]
  clear h
  show Calls _ _ _ _ fun e w' => e = .returned (.int .i64 0) ∧ w' = w
  generalize N.bs.length = n at *
  by_cases h0 : i < 0
  ·clear hi
   go_enter Try.func28, Try.ntmps28
   go_wp2
   go_ret
   exact ⟨rfl, rfl⟩
  ·have h1 : (n : Int) ≤ i := by omega
   clear hi
   go_enter Try.func28, Try.ntmps28
   go_wp2
   go_ret
   exact ⟨rfl, rfl⟩
theorem failed_any (F : Nat → Prop) (b : Nat) (N : NA) (i : Int) (w : World) (h : Arr w F b N) : Calls Try.prog 30 #[.pointer (some ⟨b, 0, none⟩), .int .i64 i] w fun e w' => e = .returned (.bool (if N.inI i then (N.blk i.toNat).failed else false)) ∧ w' = w := by
 obtain ⟨gb, pv, wv, h⟩ := h
 obtain ⟨c0, -, -, -, -, -, -, -⟩ := h.cells
 have hb := h.wf.nb
 by_cases hi : 0 ≤ i ∧ i < N.bs.length
 ·rw [show N.inI i = true from decide_eq_true hi, if_pos rfl]
  obtain ⟨h0, h1⟩ := hi
  obtain ⟨i, rfl⟩ := Int.eq_ofNat_of_zero_le h0
  rw [show ((i : Int)).toNat = i by omega]
  obtain ⟨⟨A, c, -, d0⟩, d1, d2, d3, d4, d5⟩ := h.recs i (by omega)
  clear h
  generalize N.bs.length = n at *
  generalize (N.blk i).pages.length = m at *
  generalize (N.blk i).erases = x at *
  generalize (N.blk i).failed = y at *
  go_enter Try.func30, Try.ntmps30
  go_wp2
  go_ret
  exact ⟨rfl, rfl⟩
 ·rw [show N.inI i = false from decide_eq_false hi]
  clear h
  show Calls _ _ _ _ fun e w' => e = .returned (.bool false) ∧ w' = w
  generalize N.bs.length = n at *
  by_cases h0 : i < 0
  ·clear hi
   go_enter Try.func30, Try.ntmps30
   go_wp2
   go_ret
   exact ⟨rfl, rfl⟩
  ·have h1 : (n : Int) ≤ i := by omega
   clear hi
   go_enter Try.func30, Try.ntmps30
   go_wp2
   go_ret
   exact ⟨rfl, rfl⟩
theorem at_ok (F : Nat → Prop) (b gb : Nat) (pv : Nat → Value) (wv : Value) (N : NA) (i : Nat) (w : World) (h : AR w F b gb pv wv N) (hi : i < N.bs.length) (ho : N.off = false) :
  Calls Try.prog 51 #[.pointer (some ⟨b, 0, none⟩), .int .i64 (i : Int)] w fun e w' => e = .returned (.tuple #[.pointer (some ⟨gb, i * 6, none⟩), .int .i64 0]) ∧ w' = w := by
 obtain ⟨c0, -, -, -, -, c5, -, -⟩ := h.cells
 have hb := h.wf.nb
 clear h
 rw [ho] at c5
 clear ho
 generalize N.bs.length = n at *
 go_enter Try.func51, Try.ntmps51
 go_wp2
 go_ret2
 exact ⟨rfl, rfl⟩
theorem at_no (F : Nat → Prop) (b gb : Nat) (pv : Nat → Value) (wv : Value) (N : NA) (i : Int) (w : World) (h : AR w F b gb pv wv N) (hi : N.atE i ≠ 0) :
  Calls Try.prog 51 #[.pointer (some ⟨b, 0, none⟩), .int .i64 i] w fun e w' => e = .returned (.tuple #[.pointer none, .int .i64 (N.atE i)]) ∧ w' = w := by
 obtain ⟨c0, -, -, -, -, c5, -, -⟩ := h.cells
 have hb := h.wf.nb
 clear h
 unfold NA.atE at *
 generalize N.bs.length = n at *
 by_cases h0 : i < 0
 ·rw [if_pos (.inl h0)]
  clear hi
  go_enter Try.func51, Try.ntmps51
  go_wp2
  go_ret2
  exact ⟨rfl, rfl⟩
 ·by_cases h1 : (n : Int) ≤ i
  ·rw [if_pos (.inr h1)]
   clear hi
   go_enter Try.func51, Try.ntmps51
   go_wp2
   go_ret2
   exact ⟨rfl, rfl⟩
  ·rw [if_neg (by omega)] at hi ⊢
   cases ho : N.off
   ·rw [ho] at hi
    exact absurd rfl hi
   ·rw [ho] at c5
    clear ho hi
    show Calls _ _ _ _ fun e w' => e = .returned (.tuple #[.pointer none, .int .i64 9]) ∧ w' = w
    go_enter Try.func51, Try.ntmps51
    go_wp2
    go_ret2
    exact ⟨rfl, rfl⟩
end Go.Proofs.Ytpcbpljdiacbmaa.Nand

set_option linter.unusedVariables false
set_option linter.unusedSimpArgs false
namespace Go.Proofs.Ytpcbpljdiacbmaa.Nand
open Go.RowKit Go.Proofs.Ytpcbpljdiacbmaa.Kit

theorem fr_set {F : Nat → Prop} (w : World) (g i : Nat) (v : Value) (hg : F g) : Fr F w (w.setCell ⟨g, i, none⟩ v) := (Fr.refl F w).set g i v (.inl hg)
/-- A field of the head is stored. -/
theorem AR.setHd {w : World} {F : Nat → Prop} {b gb : Nat} {pv : Nat → Value} {wv : Value} {N : NA} (h : AR w F b gb pv wv N) (k : Nat) (v : Value) (N' : NA) (he : (hdOf gb N wv).setIfInBounds k v = hdOf gb N' wv) (hbs : N'.bs = N.bs) (hway : N'.way = N.way) (wf : N'.Wf) :
  AR (w.setCell ⟨b, k, none⟩ v) F b gb pv wv N' := by
 have hf : Fr (fun g => g = b) w (w.setCell ⟨b, k, none⟩ v) := fr_set w b k v rfl
 refine h.upd hf (fun g hg => .inl hg) N' wv ?_ ?_ (by rw [hbs]) (fun i _ => by unfold NA.blk; rw [hbs]) ?_ wf
 ·rw [← he]
  exact h.hd.set k v
 ·rw [hbs]
  exact h.row.keep (Below.heap_setCell w ⟨b, k, none⟩ v gb (fun e => h.ne e.symm))
 ·rw [hway]
  exact h.wayKeep hf (fun g hg => .inl hg)
/-- A field of a block, but its pages, is stored. -/
theorem AR.setRec {w : World} {F : Nat → Prop} {b gb : Nat} {pv : Nat → Value} {wv : Value} {N : NA} (h : AR w F b gb pv wv N) (i k : Nat) (v : Value) (x : NB) (hi : i < N.bs.length) (hk : k < 6) (hx : recOf (pv i) x = (recOf (pv i) (N.blk i)).set k v) (hp : x.pages = (N.blk i).pages) (wf : (N.setB i x).Wf) :
  AR (w.setCell ⟨gb, i * 6 + k, none⟩ v) F b gb pv wv (N.setB i x) := by
 have hf : Fr (fun g => g = gb) w (w.setCell ⟨gb, i * 6 + k, none⟩ v) := fr_set w gb _ v rfl
 refine h.upd hf (fun g hg => .inr hg) _ wv ?_ ?_ (len_set ..) (fun j hj => ?_) ?_ wf
 ·have := h.hd.setOther (⟨gb, i * 6 + k, none⟩ : Addr) h.ne v
  unfold hdOf at *
  rw [len_set]
  exact this
 ·exact h.row.set i k hi hk v pv x hx (fun _ _ => rfl)
 ·rw [blk_set i j x hi]
  split
  ·rename_i e
   rw [e, hp]
  ·rfl
 ·exact h.wayKeep hf (fun g hg => .inr hg)

theorem raise_any (F : Nat → Prop) (b : Nat) (N : NA) (ep : Int) (w : World) (h : Arr w F b N) :
  Calls Try.prog 31 #[.pointer (some ⟨b, 0, none⟩), .int .u64 ep] w fun e w' => e = .returned (.int .i64 (N.raise ep).2) ∧ Arr w' F b (N.raise ep).1 ∧ Fr F w w' := by
 obtain ⟨gb, pv, wv, h⟩ := h
 obtain ⟨-, -, c2, -, -, c5, -, -⟩ := h.cells
 have f2 := h.hd.free 2
 unfold NA.raise
 by_cases ho : N.off = true
 case neg =>
  rw [Bool.not_eq_true] at ho
  rw [ho] at c5
  by_cases he : ep ≤ N.fence
  ·rw [if_neg (by rw [ho]; simp), if_pos he]
   have H := hid h
   have hd : decide (ep ≤ N.fence) = true := decide_eq_true he
   clear h ho
   generalize N.fence = fe at *
   go_enter Try.func31, Try.ntmps31
   go_wp2
   go_ret
   exact ⟨rfl, ⟨gb, pv, wv, H.out⟩, Fr.refl _ _⟩
  ·rw [if_neg (by rw [ho]; simp), if_neg he]
   have H1 := hid (h.setHd 2 (.int .u64 ep) { N with fence := ep } rfl rfl rfl ⟨h.wf.nb, h.wf.np, h.wf.len, h.wf.way, h.wf.armed, h.wf.doom⟩)
   have H2 := hid (fr_set w b 2 (.int .u64 ep) h.inb)
   have hd : decide (ep ≤ N.fence) = false := decide_eq_false he
   clear h ho
   generalize N.fence = fe at *
   go_enter Try.func31, Try.ntmps31
   go_wp2
   go_ret
   exact ⟨rfl, ⟨gb, pv, wv, H1.out⟩, H2.out⟩
 case pos =>
  rw [ho] at c5
  have H := hid h
  rw [if_pos ho]
  clear h ho
  go_enter Try.func31, Try.ntmps31
  go_wp2
  go_ret
  exact ⟨rfl, ⟨gb, pv, wv, H.out⟩, Fr.refl _ _⟩
theorem arm_any (F : Nat → Prop) (b : Nat) (N : NA) (n : Int) (w : World) (h : Arr w F b N) (hn : n ≤ 9223372036854775807) :
  Calls Try.prog 34 #[.pointer (some ⟨b, 0, none⟩), .int .i64 n] w fun e w' => e = .returned (.int .i64 (N.arm n).2) ∧ Arr w' F b (N.arm n).1 ∧ Fr F w w' := by
 obtain ⟨gb, pv, wv, h⟩ := h
 obtain ⟨-, -, -, -, c4, -, -, -⟩ := h.cells
 have f4 := h.hd.free 4
 unfold NA.arm
 by_cases h0 : n < 0
 ·simp only [if_pos h0]
  have H := hid h
  clear h
  go_enter Try.func34, Try.ntmps34
  go_wp2
  go_ret
  exact ⟨rfl, ⟨gb, pv, wv, H.out⟩, Fr.refl _ _⟩
 ·simp only [if_neg h0]
  obtain ⟨n, rfl⟩ := Int.eq_ofNat_of_zero_le (show 0 ≤ n by omega)
  rw [show ((n : Int)).toNat = n by omega]
  have H1 := hid (h.setHd 4 (.int .i64 (n : Int)) { N with armed := n } rfl rfl rfl ⟨h.wf.nb, h.wf.np, h.wf.len, h.wf.way, by show n ≤ _; omega, h.wf.doom⟩)
  have H2 := hid (fr_set w b 4 (.int .i64 (n : Int)) h.inb)
  clear h
  go_enter Try.func34, Try.ntmps34
  go_wp2
  go_ret
  exact ⟨rfl, ⟨gb, pv, wv, H1.out⟩, H2.out⟩
theorem doom_any (F : Nat → Prop) (b : Nat) (N : NA) (i n : Int) (w : World) (h : Arr w F b N) (hn : n ≤ 9223372036854775807) :
  Calls Try.prog 29 #[.pointer (some ⟨b, 0, none⟩), .int .i64 i, .int .i64 n] w fun e w' => e = .returned (.int .i64 (N.doomed i n).2) ∧ Arr w' F b (N.doomed i n).1 ∧ Fr F w w' := by
 obtain ⟨gb, pv, wv, h⟩ := h
 obtain ⟨c0, -, -, -, -, -, -, -⟩ := h.cells
 have hb := h.wf.nb
 unfold NA.doomed
 by_cases hc : i < 0 ∨ N.bs.length ≤ i ∨ n < 0
 ·simp only [if_pos hc]
  have H := hid h
  clear h
  have hc' : i < 0 ∨ (¬ i < 0 ∧ (N.bs.length : Int) ≤ i) ∨ (¬ i < 0 ∧ ¬ (N.bs.length : Int) ≤ i ∧ n < 0) := by omega
  clear hc
  generalize N.bs.length = m at *
  rcases hc' with h1 | ⟨h1, h2⟩ | ⟨h1, h2, h3⟩
  all_goals
   go_enter Try.func29, Try.ntmps29
   go_wp2
   go_ret
   exact ⟨rfl, ⟨gb, pv, wv, H.out⟩, Fr.refl _ _⟩
 ·simp only [if_neg hc]
  obtain ⟨n, rfl⟩ := Int.eq_ofNat_of_zero_le (show 0 ≤ n by omega)
  obtain ⟨i, rfl⟩ := Int.eq_ofNat_of_zero_le (show 0 ≤ i by omega)
  rw [show ((n : Int)).toNat = n by omega, show ((i : Int)).toNat = i by omega]
  have hi : i < N.bs.length := by omega
  have d5 := (h.recs i hi).2.2.2.2.2
  have f5 := h.row.free (i * 6 + 5)
  have H1 := hid (h.setRec i 5 (.int .i64 (n : Int)) { N.blk i with doom := n } hi (by decide) rfl rfl (h.wf.setB i _ hi rfl (by show n ≤ _; omega)))
  have H2 := hid (fr_set w gb (i * 6 + 5) (.int .i64 (n : Int)) h.ing)
  have hiI : (i : Int) < (N.bs.length : Int) := by omega
  clear h hc
  generalize (N.blk i).doom = dd at *
  have hb1 := hb.2
  have H1 : Hid (Arr (w.setCell ⟨gb, i * 6 + 5, none⟩ (.int .i64 (n : Int))) F b (N.setB i { N.blk i with doom := n })) := hid ⟨gb, pv, wv, H1.out⟩
  generalize N.setB i { N.blk i with doom := n } = N' at *
  generalize N.bs.length = m at *
  go_enter Try.func29, Try.ntmps29
  go_wp2
  go_ret
  exact ⟨rfl, H1.out, H2.out⟩
end Go.Proofs.Ytpcbpljdiacbmaa.Nand

set_option linter.unusedVariables false
set_option linter.unusedSimpArgs false
namespace Go.Proofs.Ytpcbpljdiacbmaa.Nand
open Go.RowKit Go.Proofs.Ytpcbpljdiacbmaa.Kit Go.ChangeShapes

theorem mul_any (w : World) : Calls Try.prog 99 #[.int .u64 1, .int .u64 96] w fun e w' => e = .returned (.tuple #[.int .u64 0, .int .u64 96]) ∧ w' = w := by
 go_enter Try.func99, Try.ntmps99
 go_wp2_with go_in
 go_ret2
 exact ⟨rfl, rfl⟩

def fillN (m : Nat) : List Value := List.replicate m (Value.int .u8 255) ++ List.replicate (96 - m) (Value.int .u8 0)
theorem fillN_len (m : Nat) (h : m ≤ 96) : (fillN m).length = 96 := by unfold fillN; simp; omega
theorem fillN_all : fillN 96 = List.replicate 96 (Value.int .u8 255) := by unfold fillN; simp
theorem fillN_splice (m k : Nat) (h : m + k ≤ 96) : splice (fillN m) m (List.replicate k (Value.int .u8 255)) = fillN (m + k) := by
 unfold splice fillN
 rw [List.take_left' (by simp), List.length_replicate, List.drop_append, List.drop_replicate, List.drop_replicate, List.length_replicate]
 rw [show m - (m + k) = 0 by omega, List.replicate_zero, List.nil_append, ← List.append_assoc, List.replicate_append_replicate, show 96 - m - (m + k - m) = 96 - (m + k) by omega]
theorem fillN_at (m j : Nat) (h : j < m) : (fillN m)[j]? = some (.int .u8 255) := by
 unfold fillN
 rw [List.getElem?_append_left (by simpa using h), List.getElem?_replicate, if_pos h]
set_option maxHeartbeats 1000000 in
theorem repeat_96 (g : Nat) (w : World) (hb : Blk w g #[.int .u8 255] 5) : Calls Try.prog 98 #[.slice (some ⟨g, 0, none⟩) 1 1, .int .i64 96] w fun e w' => ∃ g', e = .returned (.slice (some ⟨g', 0, none⟩) 96 96) ∧ Blk w' g' (fillN 96).toArray 5 ∧ w.heap.size ≤ g' ∧ Below w.heap.size w w' := by
 have hmk : ∀ W, (Instr.makeSlice 22 (.int .i64 96) (.int .i64 96)).run Try.prog W = .ok (.slice (some ⟨W.heap.size, 0, none⟩) 96 96) (W.alloc (.cells (fillN 0).toArray 5)) := fun _ => by kernel_rfl
 have hbl := hb.lt
 have Hc0 := hid ((hb.alloc (.cells (fillN 0).toArray 5)).cell 0)
 have Hn := hid (Blk.new w (fillN 0).toArray 5)
 have HB := hid ((Below.refl w.heap.size w).alloc (Nat.le_refl _) (.cells (fillN 0).toArray 5))
 obtain ⟨B0, hB0⟩ : ∃ z, w.heap.size = z := ⟨_, rfl⟩
 rw [hB0] at Hn HB hbl ⊢
 have HB0 := hid hB0
 clear hb
 go_enter Try.func98, Try.ntmps98
 go_wp2_with fail
 refine (mul_any w).mono ?_
 rintro e w ⟨rfl, rfl⟩
 go_wp2_with (refine wpList_copy_splice rfl (.tmp 31) (.tmp 32) 22 22 (by rfl) 5 Try.underlying22 (by kernel_rfl) _ _ _ _ _ _ (by rfl) (by rfl) B0 0 (fillN 0) 5 Hn.out (List.replicate 1 (Value.int .u8 255)) (by rfl) (fun _ => ⟨by rfl, _, rfl, ?_⟩) (by decide) (by intro v hv; rw [List.mem_replicate] at hv; rw [hv.2]; rfl) B0 w HB.out (Nat.le_refl _) ?_)
 ·intro j v hv
  have hj : j < 1 := by simpa using (List.getElem?_eq_some_iff.1 hv).1
  obtain rfl : j = 0 := by omega
  have : v = .int .u8 255 := by simpa using hv.symm
  rw [this]
  exact Hc0.out
 ·intro w2 HG hB2
  have hb1 : Blk w2 B0 (fillN 1).toArray 5 := by
   have := HG.out
   rw [show ([Value.int .u8 255] : List Value) = List.replicate 1 (Value.int .u8 255) from rfl, fillN_splice 0 1 (by omega)] at this
   exact this
  clear HG
  go_wp2
  go_loopw [8] (fun x w' => ∃ m : Nat, 1 ≤ m ∧ m ≤ 96 ∧ x = .int .i64 (m : Int) ∧ Blk w' B0 (fillN m).toArray 5 ∧ Below B0 w w') (fun x _ => 96 - (intOf x).toNat)
  case atStart => exact ⟨1, by omega, by omega, rfl, hb1, hB2⟩
  case round =>
   clear hb1 hB2
   obtain ⟨m, h1, h96, rfl, hbm, hB⟩ := hrel
   by_cases hlt : m < 96
   ·obtain ⟨k, hk⟩ : ∃ k, k = min m (96 - m) := ⟨_, rfl⟩
    have hk1 : 1 ≤ k ∧ m + k ≤ 96 := by omega
    have hlen : (List.replicate k (Value.int .u8 255)).length = Nat.min m (96 - m) := by rw [List.length_replicate]; exact hk
    have hsrc : ∀ j v, (List.replicate k (Value.int .u8 255))[j]? = some v → wr.cell? ((⟨B0, 0, none⟩ : Addr).add j) = some v := by
     intro j v hv
     have hj : j < k := by simpa using (List.getElem?_eq_some_iff.1 hv).1
     rw [List.getElem?_replicate, if_pos hj] at hv
     rw [WideShapes.add_plain, Nat.zero_add]
     have := hbm.cell j
     rw [List.getElem?_toArray, fillN_at m j (by omega), hv] at this
     exact this
    have hfit : m + (List.replicate k (Value.int .u8 255)).length ≤ (fillN m).length := by rw [fillN_len m h96, List.length_replicate]; omega
    have hone : ∀ v ∈ List.replicate k (Value.int .u8 255), v.oneCell' = true := by intro v hv; rw [List.mem_replicate] at hv; rw [hv.2]; rfl
    have Hlen := hid hlen
    have Hsrc := hid hsrc
    have Hfit := hid hfit
    have Hone := hid hone
    have Hbm := hid (show Blk wr.drew B0 (fillN m).toArray 5 from hbm)
    have HB' := hid (show Below B0 w wr.drew from below_drewN hB 1)
    have Hk := hid hk
    clear hlen hsrc hfit hone hbm hB hk
    have hmI : (m : Int) ≤ 96 := by omega
    have hm0 : (0 : Int) ≤ (m : Int) := by omega
    have hne : ¬ (96 = m) := by omega
    have hwk : IntKind.i64.wrap ((m : Int) + (k : Int)) = ((m + k : Nat) : Int) := by rw [IntWalk.i64_in _ (by omega)]; omega
    go_wp2_with fail
    refine wp_region_held_drew (S := (fun w' : World => 0 ≤ w'.heap.size)) (by kernel_rfl) ?hSnewRz (fun hHeld => ?restRz)
    case hSnewRz => ((try dsimp only); exact Nat.zero_le _)
    refine wpAnyH_take (i := 0) (oi := ?oiRx0) (v := ?vRx0) ?hoRx0 ?h1Rx0 ?h2Rx0 ?h3Rx0 ?hqRx0 (Or.inl ⟨?h4Rx0, ?hyRx0⟩) (by assumption) ?restRx0
    case hoRx0 => (simp only [qa, qb, qc]; rfl)
    case h1Rx0 => kernel_rfl
    case h2Rx0 => kernel_rfl
    case h3Rx0 => kernel_rfl
    case h4Rx0 => rfl
    case hqRx0 => exact fun _ _ _ h => h
    case hyRx0 => (intro w hSw; (try dsimp only at hSw); go_simp <;> with_reducible rfl)
    (try simp only [Act.put, qd, qe, qf])
    refine wpAnyH_take (i := 1) (oi := ?oiRx1) (v := ?vRx1) ?hoRx1 ?h1Rx1 ?h2Rx1 ?h3Rx1 ?hqRx1 (Or.inl ⟨?h4Rx1, ?hyRx1⟩) (by assumption) ?restRx1
    case hoRx1 => (simp only [qa, qb, qc]; rfl)
    case h1Rx1 => kernel_rfl
    case h2Rx1 => kernel_rfl
    case h3Rx1 => kernel_rfl
    case h4Rx1 => rfl
    case hqRx1 => exact fun _ _ _ h => h
    case hyRx1 => (intro w hSw; (try dsimp only at hSw); go_simp <;> with_reducible rfl)
    (try simp only [Act.put, qd, qe, qf])
    refine wpAnyH_take (i := 2) (oi := ?oiRx2) (v := ?vRx2) ?hoRx2 ?h1Rx2 ?h2Rx2 ?h3Rx2 ?hqRx2 (Or.inl ⟨?h4Rx2, ?hyRx2⟩) (by assumption) ?restRx2
    case hoRx2 => (simp only [qa, qb, qc]; rfl)
    case h1Rx2 => kernel_rfl
    case h2Rx2 => kernel_rfl
    case h3Rx2 => kernel_rfl
    case h4Rx2 => rfl
    case hqRx2 => exact fun _ _ _ h => h
    case hyRx2 => (intro w hSw; (try dsimp only at hSw); go_simp <;> with_reducible rfl)
    (try simp only [Act.put, qd, qe, qf])
    refine wpAnyH_take (i := 3) (oi := ?oiRx3) (v := ?vRx3) ?hoRx3 ?h1Rx3 ?h2Rx3 ?h3Rx3 ?hqRx3 (Or.inl ⟨?h4Rx3, ?hyRx3⟩) (by assumption) ?restRx3
    case hoRx3 => (simp only [qa, qb, qc]; rfl)
    case h1Rx3 => kernel_rfl
    case h2Rx3 => kernel_rfl
    case h3Rx3 => kernel_rfl
    case h4Rx3 => rfl
    case hqRx3 => exact fun _ _ _ h => h
    case hyRx3 => (intro w hSw; (try dsimp only at hSw); go_simp <;> with_reducible rfl)
    (try simp only [Act.put, qd, qe, qf])
    refine wpAnyH_take (i := 4) (oi := ?oiRx4) (v := ?vRx4) ?hoRx4 ?h1Rx4 ?h2Rx4 ?h3Rx4 ?hqRx4 (Or.inl ⟨?h4Rx4, ?hyRx4⟩) (by assumption) ?restRx4
    case hoRx4 => (simp only [qa, qb, qc]; rfl)
    case h1Rx4 => kernel_rfl
    case h2Rx4 => kernel_rfl
    case h3Rx4 => kernel_rfl
    case h4Rx4 => rfl
    case hqRx4 => exact fun _ _ _ h => h
    case hyRx4 => (intro w hSw; (try dsimp only at hSw); go_simp <;> with_reducible rfl)
    (try simp only [Act.put, qd, qe, qf])
    refine wpAnyH_take (i := 5) (oi := ?oiRx5) (v := ?vRx5) ?hoRx5 ?h1Rx5 ?h2Rx5 ?h3Rx5 ?hqRx5 (Or.inl ⟨?h4Rx5, ?hyRx5⟩) (by assumption) ?restRx5
    case hoRx5 => (simp only [qa, qb, qc]; rfl)
    case h1Rx5 => kernel_rfl
    case h2Rx5 => kernel_rfl
    case h3Rx5 => kernel_rfl
    case h4Rx5 => rfl
    case hqRx5 => exact fun _ _ _ h => h
    case hyRx5 => (intro w hSw; (try dsimp only at hSw); go_simp <;> with_reducible rfl)
    (try simp only [Act.put, qd, qe, qf])
    refine wpAnyH_take (i := 6) (oi := ?oiRx6) (v := ?vRx6) ?hoRx6 ?h1Rx6 ?h2Rx6 ?h3Rx6 ?hqRx6 (Or.inl ⟨?h4Rx6, ?hyRx6⟩) (by assumption) ?restRx6
    case hoRx6 => (simp only [qa, qb, qc]; rfl)
    case h1Rx6 => kernel_rfl
    case h2Rx6 => kernel_rfl
    case h3Rx6 => kernel_rfl
    case h4Rx6 => rfl
    case hqRx6 => exact fun _ _ _ h => h
    case hyRx6 => (intro w hSw; (try dsimp only at hSw); go_simp <;> with_reducible rfl)
    (try simp only [Act.put, qd, qe, qf])
    refine wpAnyH_ready (rs := [7]) (by kernel_rfl) (by simp) ?_
    refine AllReadyH.cons (o := ?oiRx7) ?hoRx7 (fun K hK => ?restRx7) ?moreRx7
    case moreRx7 => exact AllReadyH.nil
    case hoRx7 => (simp only [qa, qb, qc]; rfl)
    refine step_copy_splice (by rfl) (.tmp 41) (.tmp 44) 22 22 (by rfl) 5 Try.underlying22 (by kernel_rfl) _ _ _ _ _ _ (by rfl) (by rfl) B0 m (fillN m) 5 Hbm.out (List.replicate k (Value.int .u8 255)) Hlen.out (fun _ => ⟨rfl, _, rfl, Hsrc.out⟩) Hfit.out Hone.out B0 w HB'.out (Nat.le_refl _) ?_
    intro w2 HG2 hB2
    refine hK.out _ _ ?hSnewRy7 (fun hHeld => ?restRy7)
    case hSnewRy7 => ((try dsimp only); exact Nat.zero_le _)
    clear hK K
    (try simp only [Act.put, qd, qe, qf])
    refine wpAnyH_take (i := 8) (oi := ?oiRx8) (v := ?vRx8) ?hoRx8 ?h1Rx8 ?h2Rx8 ?h3Rx8 ?hqRx8 (Or.inl ⟨?h4Rx8, ?hyRx8⟩) (by assumption) ?restRx8
    case hoRx8 => (simp only [qa, qb, qc]; rfl)
    case h1Rx8 => kernel_rfl
    case h2Rx8 => kernel_rfl
    case h3Rx8 => kernel_rfl
    case h4Rx8 => rfl
    case hqRx8 => exact fun _ _ _ h => h
    case hyRx8 => (intro w hSw; (try dsimp only at hSw); go_simp <;> with_reducible rfl)
    (try simp only [Act.put, qd, qe, qf])
    refine wpAnyH_take (i := 9) (oi := ?oiRx9) (v := ?vRx9) ?hoRx9 ?h1Rx9 ?h2Rx9 ?h3Rx9 ?hqRx9 (Or.inl ⟨?h4Rx9, ?hyRx9⟩) (by assumption) ?restRx9
    case hoRx9 => (simp only [qa, qb, qc]; rfl)
    case h1Rx9 => kernel_rfl
    case h2Rx9 => kernel_rfl
    case h3Rx9 => kernel_rfl
    case h4Rx9 => rfl
    case hqRx9 => exact fun _ _ _ h => h
    case hyRx9 => (intro w hSw; (try dsimp only at hSw); go_simp <;> with_reducible rfl)
    (try simp only [Act.put, qd, qe, qf])
    refine wpAnyH_done (by kernel_rfl) ?_ _
    clear hwk
    have hb2 : Blk w2 B0 (fillN (m + k)).toArray 5 := by
     have := HG2.out
     rw [fillN_splice m k (by omega)] at this
     exact this
    clear HG2
    go_wp2
    go_roundw
    case rel => exact ⟨m + k, by omega, by omega, rfl, hb2, hB2⟩
    case measure => simp [intOf]; omega
   ·have hm : m = 96 := by omega
    have H1 := hid (hm ▸ hbm)
    have H2 := hid hB
    clear hbm hB hm
    go_wp2
    go_ret
    exact ⟨B0, rfl, H1.out, Nat.le_refl _, H2.out⟩

theorem own_of_blk {w : World} {g n base : Nat} {e : TypeId} {xs : List Value} (h : Blk w g xs.toArray e) (hn : xs.length = n) (hb : base ≤ g) (hm : n ≤ 1000000) : w.ownsRow base e 1 (.slice (some ⟨g, 0, none⟩) n n) n xs :=
 ⟨by omega, .inr ⟨g, n, xs.toArray, rfl, hb, h, Nat.le_refl _, by unfold maxLen; omega, by simpa using hn, by rw [List.take_of_length_le (by simp; omega)]⟩⟩
theorem src_of {w : World} {b o n : Nat} {q : List Int} (hz : Nums w .u8 (some ⟨b, o, none⟩) n q) (k : Nat) : ∀ j v, ((q.take k).map (Value.int .u8))[j]? = some v → w.cell? ((⟨b, o, none⟩ : Addr).add j) = some v := by
 intro j v hv
 have hl := (List.getElem?_eq_some_iff.1 hv).1
 rw [List.length_map, List.length_take, hz.len] at hl
 obtain ⟨b', o', e, hc⟩ := hz.cell j (by omega)
 injection e with e
 injection e with e1 e2
 subst e1 e2
 rw [WideShapes.add_plain, hc j (by omega), ← hv]
 have : j < q.length := by rw [hz.len]; omega
 simp [List.getElem?_take, show j < k by omega, List.getElem?_eq_getElem this, List.getD_eq_getElem?_getD]
theorem torn_cells (q : List Int) (n : Int) (hq : q.length = 96) : splice (fillN 96) 0 ((q.take n.toNat).map (Value.int .u8)) = (tornL q n).map (Value.int .u8) := by
 unfold splice tornL
 rw [List.take_zero, List.nil_append, Nat.zero_add, fillN_all, List.drop_replicate, List.map_append, List.map_replicate, List.length_map, List.length_take, hq]
 congr 2
 omega
set_option maxHeartbeats 1000000 in
theorem torn_any (A : Option Addr) (c : Nat) (q : List Int) (n : Int) (w : World) (hz : Nums w .u8 A 96 q) (hc : 96 ≤ c) : Calls Try.prog 91 #[.slice A 96 c, .int .i64 n] w fun e w' => ∃ A' c', e = .returned (.slice A' 96 c') ∧ w'.ownsRow w.heap.size 5 1 (.slice A' 96 c') 96 ((tornL q n).map (Value.int .u8)) ∧ Below w.heap.size w w' := by
 obtain ⟨bq, oq, rfl, -⟩ := hz.cell 0 (by omega)
 have Hz := hid hz
 clear hz
 have hc' : (96 : Int) ≤ (c : Int) := by omega
 obtain ⟨B0, hB0⟩ : ∃ z, w.heap.size = z := ⟨_, rfl⟩
 have HB := hid ((Below.refl w.heap.size w).alloc (Nat.le_refl _) (.cells #[.int .u8 255] 5))
 have hb1 := Blk.new w #[.int .u8 255] 5
 have hrep := repeat_96 w.heap.size (w.alloc (.cells #[.int .u8 255] 5)) hb1
 have hsz := HB.out.size
 rw [hB0] at HB hsz hrep ⊢
 have HB0 := hid hB0
 clear hB0 hb1
 go_enter Try.func91, Try.ntmps91
 go_wp2_with fail
 rw [HB0.out]
 refine hrep.mono ?_
 rintro e w2 ⟨g', rfl, hb2, hg2, hB2⟩
 have hg3 : B0 ≤ g' := by omega
 have Hql := hid Hz.out.len
 have hz2 := Hz.out.below (HB0.out.symm ▸ (HB.out.trans (hB2.mono hsz)))
 have HB2 := hid (HB.out.trans (hB2.mono hsz))
 have Hb2 := hid hb2
 clear hrep hb2 hg2 hB2 hsz
 by_cases h0 : n < 0
 ·have hd : decide (n < 0) = true := decide_eq_true h0
  obtain ⟨X, hX⟩ : ∃ X, X = (q.take n.toNat).map (Value.int .u8) := ⟨_, rfl⟩
  have Hlen := hid (show X.length = Nat.min 0 96 from by rw [hX, List.length_map, List.length_take, Hql.out]; show min _ _ = min _ _; omega)
  have Hfit := hid (show 0 + X.length ≤ (fillN 96).length from by rw [hX, List.length_map, List.length_take, Hql.out, fillN_len 96 (by omega)]; omega)
  have Hone := hid (show ∀ v ∈ X, v.oneCell' = true from by rw [hX]; intro v hv; obtain ⟨x, _, rfl⟩ := List.mem_map.1 hv; rfl)
  have Hsrc := hid (show ∀ j v, X[j]? = some v → w2.cell? ((⟨bq, oq, none⟩ : Addr).add j) = some v from by rw [hX]; exact src_of hz2 n.toNat)
  have Htorn := hid (show splice (fillN 96) 0 X = (tornL q _).map (Value.int .u8) from by rw [hX]; exact torn_cells q _ Hql.out)
  clear hz2 hX
  go_wp2_with (refine wpList_copy_splice rfl (.tmp 10) (.tmp 17) 22 22 (by rfl) 5 Try.underlying22 (by kernel_rfl) _ _ _ _ _ _ (by rfl) (by rfl) g' 0 (fillN 96) 5 Hb2.out X Hlen.out (fun _ => ⟨rfl, _, rfl, Hsrc.out⟩) Hfit.out Hone.out B0 w HB2.out hg3 ?_)
  intro w3 HG hB3
  go_wp2
  go_ret
  have hG := HG.out
  rw [Htorn.out] at hG
  exact ⟨_, _, rfl, own_of_blk hG (by rw [List.length_map, tornL_len]; exact Hql.out) hg3 (by decide), hB3⟩
 ·obtain ⟨m, rfl⟩ := Int.eq_ofNat_of_zero_le (show 0 ≤ n by omega)
  by_cases h96 : m ≤ 96
  ·have h96' : (m : Int) ≤ 96 := by omega
   obtain ⟨X, hX⟩ : ∃ X, X = (q.take ((m : Int)).toNat).map (Value.int .u8) := ⟨_, rfl⟩
   have Hlen := hid (show X.length = Nat.min m 96 from by rw [hX, List.length_map, List.length_take, Hql.out]; show min _ _ = min _ _; omega)
   have Hfit := hid (show 0 + X.length ≤ (fillN 96).length from by rw [hX, List.length_map, List.length_take, Hql.out, fillN_len 96 (by omega)]; omega)
   have Hone := hid (show ∀ v ∈ X, v.oneCell' = true from by rw [hX]; intro v hv; obtain ⟨x, _, rfl⟩ := List.mem_map.1 hv; rfl)
   have Hsrc := hid (show ∀ j v, X[j]? = some v → w2.cell? ((⟨bq, oq, none⟩ : Addr).add j) = some v from by rw [hX]; exact src_of hz2 ((m : Int)).toNat)
   have Htorn := hid (show splice (fillN 96) 0 X = (tornL q _).map (Value.int .u8) from by rw [hX]; exact torn_cells q _ Hql.out)
   clear hz2 hX
   go_wp2_with (refine wpList_copy_splice rfl (.tmp 10) (.tmp 17) 22 22 (by rfl) 5 Try.underlying22 (by kernel_rfl) _ _ _ _ _ _ (by rfl) (by rfl) g' 0 (fillN 96) 5 Hb2.out X Hlen.out (fun _ => ⟨rfl, _, rfl, Hsrc.out⟩) Hfit.out Hone.out B0 w HB2.out hg3 ?_)
   intro w3 HG hB3
   go_wp2
   go_ret
   have hG := HG.out
   rw [Htorn.out] at hG
   exact ⟨_, _, rfl, own_of_blk hG (by rw [List.length_map, tornL_len]; exact Hql.out) hg3 (by decide), hB3⟩
  ·have h96' : (96 : Int) < (m : Int) := by omega
   obtain ⟨X, hX⟩ : ∃ X, X = (q.take ((m : Int)).toNat).map (Value.int .u8) := ⟨_, rfl⟩
   have Hlen := hid (show X.length = Nat.min 96 96 from by rw [hX, List.length_map, List.length_take, Hql.out]; show min _ _ = min _ _; omega)
   have Hfit := hid (show 0 + X.length ≤ (fillN 96).length from by rw [hX, List.length_map, List.length_take, Hql.out, fillN_len 96 (by omega)]; omega)
   have Hone := hid (show ∀ v ∈ X, v.oneCell' = true from by rw [hX]; intro v hv; obtain ⟨x, _, rfl⟩ := List.mem_map.1 hv; rfl)
   have Hsrc := hid (show ∀ j v, X[j]? = some v → w2.cell? ((⟨bq, oq, none⟩ : Addr).add j) = some v from by rw [hX]; exact src_of hz2 ((m : Int)).toNat)
   have Htorn := hid (show splice (fillN 96) 0 X = (tornL q _).map (Value.int .u8) from by rw [hX]; exact torn_cells q _ Hql.out)
   clear hz2 hX
   go_wp2_with (refine wpList_copy_splice rfl (.tmp 10) (.tmp 17) 22 22 (by rfl) 5 Try.underlying22 (by kernel_rfl) _ _ _ _ _ _ (by rfl) (by rfl) g' 0 (fillN 96) 5 Hb2.out X Hlen.out (fun _ => ⟨rfl, _, rfl, Hsrc.out⟩) Hfit.out Hone.out B0 w HB2.out hg3 ?_)
   intro w3 HG hB3
   go_wp2
   go_ret
   have hG := HG.out
   rw [Htorn.out] at hG
   exact ⟨_, _, rfl, own_of_blk hG (by rw [List.length_map, tornL_len]; exact Hql.out) hg3 (by decide), hB3⟩
end Go.Proofs.Ytpcbpljdiacbmaa.Nand

set_option linter.unusedVariables false
set_option linter.unusedSimpArgs false
namespace Go.Proofs.Ytpcbpljdiacbmaa.Nand
open Go.RowKit Go.Proofs.Ytpcbpljdiacbmaa.Kit

theorem info8 : (Try.prog.info? 5).map (fun i => (i.zero, i.size, i.bytes)) = some (some (.int .u8 0), 1, 1) := by kernel_rfl
theorem infoP : (Try.prog.info? 22).map (fun i => (i.zero, i.size, i.bytes)) = some (some (.slice none 0 0), 1, 24) := by kernel_rfl
set_option maxHeartbeats 400000 in
theorem clone_own (A : Option Addr) (n c : Nat) (xs : List Int) (w : World) (hz : Nums w .u8 A n xs) (hn : 0 < n) (hl : n ≤ 1000000) :
  Calls Try.prog 52 #[.slice A n c] w fun e w' => ∃ A' c', e = .returned (.slice A' n c') ∧ w'.ownsRow w.heap.size 5 1 (.slice A' n c') n (xs.map (Value.int .u8)) ∧ Below w.heap.size w w' := by
 obtain ⟨b, o, rfl, -⟩ := hz.cell 0 hn
 have Hl := hid hz.len
 have Hw := hid hz.wf
 have HB := hid ((Below.refl w.heap.size w).alloc (Nat.le_refl _) (.cells #[] 5))
 have Hlit := hid (World.ownsRow_lit (base := w.heap.size) (e := 5) (size := 1) w #[] 0 (Nat.le_refl _) (by decide) rfl)
 have heq := Lib.run_eql_slice_nil (P := Try.prog) w 22 5 (some ⟨b, o, none⟩) n c 0 0 Try.underlying22
 go_enter Try.func52, Try.ntmps52
 go_wp2_with (at_builtin; refine append_nums w.heap.size rfl _ _ 22 5 .u8 1 rfl Try.underlying22 info8 (.slice (some ⟨w.heap.size, 0, none⟩) 0 0) 0 [] (some ⟨b, o, none⟩) n c xs (by rfl) (by rfl) Hlit.out (hz.below HB.out) HB.out.size (by omega) (by omega) ?_; intro v1 w6 hown6 hgr6 hat6)
 go_wp2
 go_ret
 have ho : w6.ownsRow w.heap.size 5 1 v1 n (xs.map (Value.int .u8)) := by simpa using hown6
 obtain ⟨A', c', e⟩ := own_slice ho
 rw [e] at ho ⊢
 exact ⟨A', c', rfl, ho, HB.out.grown hgr6 HB.out.size (by intro k hk; simp [Value.ownBlock] at hk; omega)⟩

theorem setB_setB (N : NA) (i : Nat) (x y : NB) : (N.setB i x).setB i y = N.setB i y := by unfold NA.setB; simp
theorem AR.drewN {w : World} {F : Nat → Prop} {b gb : Nat} {pv : Nat → Value} {wv : Value} {N : NA} (h : AR w F b gb pv wv N) (n : Nat) : AR (w.drewN n) F b gb pv wv N := h.keep (fun _ _ => rfl) (Nat.le_refl _)
theorem Arr.drewN {w : World} {F : Nat → Prop} {b : Nat} {N : NA} (h : Arr w F b N) (n : Nat) : Arr (w.drewN n) F b N := h.keep (fun _ _ => rfl) (Nat.le_refl _)
theorem wf_tick {N : NA} (h : N.Wf) (ho : N.off = false) : N.way = none := by
 cases hw : N.way with
 | none => rfl
 | some u =>
  have := (h.way u hw).1
  rw [ho] at this
  cases this
theorem wf_begun {N : NA} (h : N.Wf) (ho : N.off = false) (i : Nat) (hi : i < N.bs.length) : (N.begun i).Wf := by
 have h1 : N.tick.Wf := ⟨h.nb, h.np, h.len, fun u hu => (by rw [show N.tick.way = N.way from rfl, wf_tick h ho] at hu; exact nomatch hu), (by show N.armed - 1 ≤ 9223372036854775807; have := h.armed; omega), h.doom⟩
 exact h1.setB i _ hi rfl (by show (N.blk i).doom - 1 ≤ 9223372036854775807; have := h.doom i hi; omega)

set_option maxRecDepth 100000 in
set_option maxHeartbeats 4000000 in
theorem begin_any (F : Nat → Prop) (b gb : Nat) (pv : Nat → Value) (wv : Value) (N : NA) (i : Nat) (w : World) (h : AR w F b gb pv wv N) (hi : i < N.bs.length) (ho : N.off = false) :
  Calls Try.prog 73 #[.pointer (some ⟨b, 0, none⟩), .pointer (some ⟨gb, i * 6, none⟩)] w fun e w' => e = .returned (.tuple #[.bool (!(N.begun i).off), .bool ((N.begun i).blk i).dead]) ∧ AR w' F b gb pv wv (N.begun i) ∧ Fr (fun g => g = b ∨ g = gb) w w' := by
 have hway := wf_tick h.wf ho
 rw [blk_begun i i hi, if_pos rfl, begun_off]
 have Hwf := hid (wf_begun h.wf ho i hi)
 obtain ⟨bs, pages, fence, boots, armed, off, ops, way⟩ := N
 obtain rfl : off = false := ho
 obtain rfl : way = none := hway
 have hi : i < bs.length := hi
 have harm : armed ≤ 9223372036854775807 := h.wf.armed
 have hdoom : (bs.getD i default).doom ≤ 9223372036854775807 := h.wf.doom i hi
 have f6 := h.hd.free 6
 have c6 : w.cell? ⟨b, 6, none⟩ = some (.int .i64 ops) := h.hd.cell 6
 have H1 := hid (h.setHd 6 (.int .i64 (wrap64 (ops + 1))) ⟨bs, pages, fence, boots, armed, false, wrap64 (ops + 1), none⟩ rfl rfl rfl ⟨h.wf.nb, h.wf.np, h.wf.len, h.wf.way, h.wf.armed, h.wf.doom⟩)
 have F1 := hid (fr_set (F := fun g => g = b ∨ g = gb) w b 6 (.int .i64 (wrap64 (ops + 1))) (.inl rfl))
 clear h
 show Calls _ _ _ _ fun e w' => e = .returned (.tuple #[.bool (!(armed == 1)), .bool ((bs.getD i default).dead || (bs.getD i default).doom == 1)]) ∧ _
 go_enter Try.func73, Try.ntmps73
 go_upto_region 2 with (fail)
 obtain ⟨w1, hw1⟩ : ∃ W, W = w.setCell ⟨b, 6, none⟩ (.int .i64 (wrap64 (ops + 1))) := ⟨_, rfl⟩
 rw [← hw1] at H1 F1 ⊢
 clear hw1 c6 f6
 have c4 : w1.cell? ⟨b, 4, none⟩ = some (.int .i64 (armed : Int)) := H1.out.hd.cell 4
 have f4 := H1.out.hd.free 4
 go_upto_if 17 with (fail)
 go_cut [] (fun wx => AR wx F b gb pv wv ⟨bs, pages, fence, boots, armed - 1, armed == 1, wrap64 (ops + 1), none⟩ ∧ Fr (fun g => g = b ∨ g = gb) w wx)
 case first =>
  rcases armed with _ | a
  ·have hz : ((0 : Nat) : Int) = 0 := rfl
   go_wp2
   go_meet
   case rel => exact ⟨H1.out, F1.out⟩
  ·have ha : (((a + 1 : Nat)) : Int) = (a : Int) + 1 := by omega
   have H2 := hid (H1.out.setHd 4 (.int .i64 (a : Int)) ⟨bs, pages, fence, boots, a, false, wrap64 (ops + 1), none⟩ rfl rfl rfl ⟨H1.out.wf.nb, H1.out.wf.np, H1.out.wf.len, H1.out.wf.way, by show a ≤ 9223372036854775807; omega, H1.out.wf.doom⟩)
   have F2 := hid (F1.out.set b 4 (.int .i64 (a : Int)) (.inl (.inl rfl)))
   go_upto_region 4 with (fail)
   obtain ⟨w2, hw2⟩ : ∃ W, W = w1.setCell ⟨b, 4, none⟩ (.int .i64 (a : Int)) := ⟨_, rfl⟩
   rw [← hw2] at H2 F2 ⊢
   clear hw2 c4 f4 ha
   have c4 : w2.cell? ⟨b, 4, none⟩ = some (.int .i64 (a : Int)) := H2.out.hd.cell 4
   have c5 : w2.cell? ⟨b, 5, none⟩ = some (.bool false) := H2.out.hd.cell 5
   have f5 := H2.out.hd.free 5
   by_cases ha0 : a = 0
   ·have hb0 : ((a : Int) == 0) = true := by rw [beq_iff_eq]; omega
    have e1 : (a + 1 == 1) = true := by rw [beq_iff_eq]; omega
    have H3 := hid (show AR _ F b gb pv wv ⟨bs, pages, fence, boots, a + 1 - 1, a + 1 == 1, wrap64 (ops + 1), none⟩ from by
     rw [e1]
     exact H2.out.setHd 5 (.bool true) ⟨bs, pages, fence, boots, a, true, wrap64 (ops + 1), none⟩ rfl rfl rfl ⟨H2.out.wf.nb, H2.out.wf.np, H2.out.wf.len, (fun u hu => nomatch hu), H2.out.wf.armed, H2.out.wf.doom⟩)
    have F3 := hid (F2.out.set b 5 (.bool true) (.inl (.inl rfl)))
    clear ha0 e1
    go_wp2
    go_meet
    case rel => exact ⟨H3.out, F3.out⟩
   ·have hb0 : ((a : Int) == 0) = false := by rw [beq_eq_false_iff_ne]; omega
    have e1 : (a + 1 == 1) = false := by rw [beq_eq_false_iff_ne]; omega
    have H3 := hid (show AR _ F b gb pv wv ⟨bs, pages, fence, boots, a + 1 - 1, a + 1 == 1, wrap64 (ops + 1), none⟩ from by
     rw [e1]
     exact H2.out.setHd 5 (.bool false) ⟨bs, pages, fence, boots, a, false, wrap64 (ops + 1), none⟩ rfl rfl rfl ⟨H2.out.wf.nb, H2.out.wf.np, H2.out.wf.len, (fun u hu => nomatch hu), H2.out.wf.armed, H2.out.wf.doom⟩)
    have F3 := hid (F2.out.set b 5 (.bool false) (.inl (.inl rfl)))
    clear ha0 e1
    go_wp2
    go_meet
    case rel => exact ⟨H3.out, F3.out⟩
 case rest =>
  obtain ⟨H3, F3⟩ := hcut
  clear H1 F1 c4 f4
  replace H3 := hid H3
  replace F3 := hid F3
  obtain ⟨off', hoff⟩ : ∃ o, o = (armed == 1) := ⟨_, rfl⟩
  have Hwf : Hid (NA.setB ⟨bs, pages, fence, boots, armed - 1, armed == 1, wrap64 (ops + 1), none⟩ i (bs.getD i default).tick).Wf := Hwf
  rw [← hoff] at H3 Hwf
  have Hoff := hid hoff
  clear hoff
  have hset : ∀ x, bs.getD i default = x → bs.set i x = bs := fun x hx => by
   rw [List.getD_eq_getElem?_getD, List.getElem?_eq_getElem hi] at hx
   rw [← (show bs[i] = x from hx), List.set_getElem_self]
  obtain ⟨-, -, -, e3, -, e5⟩ := H3.out.recs i hi
  have f3 := H3.out.row.free (i * 6 + 3)
  have f5 := H3.out.row.free (i * 6 + 5)
  obtain ⟨x, hx⟩ : ∃ x, bs.getD i default = x := ⟨_, rfl⟩
  have d3 : wc.cell? ⟨gb, i * 6 + 3, none⟩ = some (.bool x.dead) := by rw [← hx]; exact e3
  have d5 : wc.cell? ⟨gb, i * 6 + 5, none⟩ = some (.int .i64 (x.doom : Int)) := by rw [← hx]; exact e5
  clear e3 e5
  replace hset := hid (hset x hx)
  rw [hx] at hdoom Hwf
  have Hx := hid hx
  clear hx
  go_upto_if 37 with (fail)
  go_cut [] (fun wx => AR wx F b gb pv wv (NA.setB ⟨bs, pages, fence, boots, armed - 1, off', wrap64 (ops + 1), none⟩ i x.tick) ∧ Fr (fun g => g = b ∨ g = gb) w wx)
  case first =>
   obtain ⟨pg, er, hf, dd, fl, dm⟩ := x
   replace d3 : wc.cell? ⟨gb, i * 6 + 3, none⟩ = some (.bool dd) := d3
   replace d5 : wc.cell? ⟨gb, i * 6 + 5, none⟩ = some (.int .i64 (dm : Int)) := d5
   rcases dm with _ | a
   ·replace d5 : wc.cell? ⟨gb, i * 6 + 5, none⟩ = some (.int .i64 0) := d5
    have H4 := hid (show AR wc F b gb pv wv (NA.setB ⟨bs, pages, fence, boots, armed - 1, off', wrap64 (ops + 1), none⟩ i (NB.tick ⟨pg, er, hf, dd, fl, 0⟩)) from by
     have e : NB.tick ⟨pg, er, hf, dd, fl, 0⟩ = ⟨pg, er, hf, dd, fl, 0⟩ := by unfold NB.tick; simp
     rw [e]
     unfold NA.setB
     rw [hset.out]
     exact H3.out)
    go_wp2
    go_meet
    case rel => exact ⟨H4.out, F3.out⟩
   ·have hdm : a + 1 ≤ 9223372036854775807 := hdoom
    replace d5 : wc.cell? ⟨gb, i * 6 + 5, none⟩ = some (.int .i64 ((a : Int) + 1)) := d5
    have hrx : recOf (pv i) (bs.getD i default) = [pv i, .int .i64 er, .bool hf, .bool dd, .bool fl, .int .i64 ((a + 1 : Nat) : Int)] := by rw [Hx.out]; rfl
    have H4 := hid (H3.out.setRec i 5 (.int .i64 (a : Int)) ⟨pg, er, hf, dd, fl, a⟩ hi (by decide) (by show recOf (pv i) _ = (recOf (pv i) (bs.getD i default)).set 5 _; rw [hrx]; rfl) (by show pg = (bs.getD i default).pages; rw [Hx.out]) (H3.out.wf.setB i _ hi (by show pg.length = (bs.getD i default).pages.length; rw [Hx.out]) (by show a ≤ 9223372036854775807; omega)))
    have F4 := hid (F3.out.set gb (i * 6 + 5) (.int .i64 (a : Int)) (.inl (.inr rfl)))
    go_upto_region 7 with (fail)
    obtain ⟨w5, hw5⟩ : ∃ W, W = wc.setCell ⟨gb, i * 6 + 5, none⟩ (.int .i64 (a : Int)) := ⟨_, rfl⟩
    rw [← hw5] at H4 F4 ⊢
    clear hw5 d3 d5 f3 f5 hrx
    obtain ⟨-, -, -, e3, -, e5⟩ := H4.out.recs i (by rw [len_set]; exact hi)
    rw [blk_set _ _ _ hi, if_pos rfl] at e3 e5
    have d3 : w5.cell? ⟨gb, i * 6 + 3, none⟩ = some (.bool dd) := e3
    have d5 : w5.cell? ⟨gb, i * 6 + 5, none⟩ = some (.int .i64 (a : Int)) := e5
    have f3 := H4.out.row.free (i * 6 + 3)
    clear e3 e5
    cases dd
    ·by_cases ha0 : a = 0
     ·have hb0 : ((a : Int) == 0) = true := by rw [beq_iff_eq]; omega
      have ha0 := hid ha0
      have e1 : NB.tick ⟨pg, er, hf, false, fl, a + 1⟩ = ⟨pg, er, hf, true, fl, a⟩ := by unfold NB.tick; simp; exact ha0.out
      have H6 := hid (show AR (w5.setCell ⟨gb, i * 6 + 3, none⟩ (.bool true)) F b gb pv wv (NA.setB ⟨bs, pages, fence, boots, armed - 1, off', wrap64 (ops + 1), none⟩ i (NB.tick ⟨pg, er, hf, false, fl, a + 1⟩)) from by
       rw [e1] at Hwf ⊢
       have := H4.out.setRec i 3 (.bool true) ⟨pg, er, hf, true, fl, a⟩ (by rw [len_set]; exact hi) (by decide) (by rw [blk_set _ _ _ hi, if_pos rfl]; rfl) (by rw [blk_set _ _ _ hi, if_pos rfl]) (by rw [setB_setB]; exact Hwf.out)
       rw [setB_setB] at this
       exact this)
      have F6 := hid (F4.out.set gb (i * 6 + 3) (.bool true) (.inl (.inr rfl)))
      clear e1
      go_wp2
      go_meet
      case rel => exact ⟨H6.out, F6.out⟩
     ·have hb0 : ((a : Int) == 0) = false := by rw [beq_eq_false_iff_ne]; omega
      have ha0 := hid ha0
      have e1 : NB.tick ⟨pg, er, hf, false, fl, a + 1⟩ = ⟨pg, er, hf, false, fl, a⟩ := by unfold NB.tick; simp; exact ha0.out
      have H6 := hid (show AR (w5.setCell ⟨gb, i * 6 + 3, none⟩ (.bool false)) F b gb pv wv (NA.setB ⟨bs, pages, fence, boots, armed - 1, off', wrap64 (ops + 1), none⟩ i (NB.tick ⟨pg, er, hf, false, fl, a + 1⟩)) from by
       rw [e1] at Hwf ⊢
       have := H4.out.setRec i 3 (.bool false) ⟨pg, er, hf, false, fl, a⟩ (by rw [len_set]; exact hi) (by decide) (by rw [blk_set _ _ _ hi, if_pos rfl]; rfl) (by rw [blk_set _ _ _ hi, if_pos rfl]) (by rw [setB_setB]; exact Hwf.out)
       rw [setB_setB] at this
       exact this)
      have F6 := hid (F4.out.set gb (i * 6 + 3) (.bool false) (.inl (.inr rfl)))
      clear e1
      go_wp2
      go_meet
      case rel => exact ⟨H6.out, F6.out⟩
    ·clear d5
     have e1 : NB.tick ⟨pg, er, hf, true, fl, a + 1⟩ = ⟨pg, er, hf, true, fl, a⟩ := by unfold NB.tick; simp
     have H6 := hid (show AR (w5.setCell ⟨gb, i * 6 + 3, none⟩ (.bool true)) F b gb pv wv (NA.setB ⟨bs, pages, fence, boots, armed - 1, off', wrap64 (ops + 1), none⟩ i (NB.tick ⟨pg, er, hf, true, fl, a + 1⟩)) from by
      rw [e1] at Hwf ⊢
      have := H4.out.setRec i 3 (.bool true) ⟨pg, er, hf, true, fl, a⟩ (by rw [len_set]; exact hi) (by decide) (by rw [blk_set _ _ _ hi, if_pos rfl]; rfl) (by rw [blk_set _ _ _ hi, if_pos rfl]) (by rw [setB_setB]; exact Hwf.out)
      rw [setB_setB] at this
      exact this)
     have F6 := hid (F4.out.set gb (i * 6 + 3) (.bool true) (.inl (.inr rfl)))
     clear e1
     go_wp2
     go_meet
     case rel => exact ⟨H6.out, F6.out⟩
  case rest =>
   obtain ⟨H7, F7⟩ := hcut
   replace H7 := hid H7
   replace F7 := hid F7
   clear d3 d5 f3 f5 H3 F3
   obtain ⟨-, -, -, e3, -, -⟩ := H7.out.recs i (by rw [len_set]; exact hi)
   rw [blk_set _ _ _ hi, if_pos rfl] at e3
   have c5 : wc.cell? ⟨b, 5, none⟩ = some (.bool off') := H7.out.hd.cell 5
   generalize hdd : x.tick.dead = dd at e3
   have Hdd := hid hdd
   clear hdd
   go_wp2_with fail
   go_quiet (fail)
   go_wp2
   go_ret2
   refine ⟨?_, ?_, F7.out.drewN nq⟩
   ·rw [← Hoff.out, ← Hdd.out, Hx.out]
    rfl
   ·show AR _ _ _ _ _ _ (NA.setB ⟨bs, pages, fence, boots, armed - 1, armed == 1, wrap64 (ops + 1), none⟩ i (bs.getD i default).tick)
    rw [Hx.out, ← Hoff.out]
    exact H7.out.drewN nq
end Go.Proofs.Ytpcbpljdiacbmaa.Nand

set_option linter.unusedVariables false
set_option linter.unusedSimpArgs false
namespace Go.Proofs.Ytpcbpljdiacbmaa.Nand
open Go.RowKit Go.Proofs.Ytpcbpljdiacbmaa.Kit

theorem AR.later {w w' : World} {F : Nat → Prop} {b gb : Nat} {pv : Nat → Value} {wv : Value} {N : NA} (h : AR w F b gb pv wv N) (hB : Below w.heap.size w w') : AR w' F b gb pv wv N := h.keep (fun g hg => hB.block g (h.low g hg)) hB.size
theorem atE_zero {N : NA} {i : Int} (h : N.atE i = 0) : 0 ≤ i ∧ i < N.bs.length ∧ N.off = false := by
 unfold NA.atE at h
 by_cases h1 : i < 0 ∨ N.bs.length ≤ i
 ·rw [if_pos h1] at h
  cases h
 ·rw [if_neg h1] at h
  refine ⟨by omega, by omega, ?_⟩
  cases ho : N.off
  ·rfl
  ·rw [ho] at h
   cases h
set_option maxRecDepth 100000 in
set_option maxHeartbeats 4000000 in
theorem prog_no (F : Nat → Prop) (b gb : Nat) (pv : Nat → Value) (wv : Value) (N : NA) (i p : Int) (A : Option Addr) (n c : Nat) (ep : Int) (w : World) (h : AR w F b gb pv wv N) (hn : n ≤ 140737488355328) (he : N.progE i p n ep ≠ 0) :
  Calls Try.prog 79 #[.pointer (some ⟨b, 0, none⟩), .int .i64 i, .int .i64 p, .slice A n c, .int .u64 ep] w fun e w' => e = .returned (.int .i64 (N.progE i p n ep)) ∧ Below w.heap.size w w' := by
 by_cases ha : N.atE i = 0
 ·obtain ⟨hi0, hi1, ho⟩ := atE_zero ha
  obtain ⟨i, rfl⟩ := Int.eq_ofNat_of_zero_le hi0
  have hi : i < N.bs.length := by omega
  have hat := at_ok F b gb pv wv N i w h hi ho
  have hnp := h.wf.np
  have hlen := h.wf.len i hi
  have he' : N.progE (i : Int) p n ep = if p < 0 ∨ N.pages ≤ p then 1 else if n ≠ 96 then 3 else if p ≠ (N.blk i).pages.length ∨ (N.blk i).half = true then 6 else if ep < N.fence then 7 else 0 := by
   unfold NA.progE
   rw [ha, if_neg (by simp)]
   rfl
  rw [he'] at he ⊢
  clear he' ha hi0 hi1
  obtain ⟨r, hr⟩ : ∃ r, (if p < 0 ∨ (N.pages : Int) ≤ p then (1 : Int) else if n ≠ 96 then 3 else if p ≠ ((N.blk i).pages.length : Int) ∨ (N.blk i).half = true then 6 else if ep < N.fence then 7 else 0) = r := ⟨_, rfl⟩
  rw [hr] at he ⊢
  have Hr := hid hr
  have Hne := hid he
  clear hr he
  have h1 := h.later ((Below.refl w.heap.size w).alloc (Nat.le_refl _) (.cells #[.pointer (some ⟨gb, i * 6, none⟩)] 96))
  have hb1 := Blk.new w #[.pointer (some ⟨gb, i * 6, none⟩)] 96
  have HB := hid ((Below.refl w.heap.size w).alloc (Nat.le_refl _) (.cells #[.pointer (some ⟨gb, i * 6, none⟩)] 96))
  go_enter Try.func79, Try.ntmps79
  go_wp2_with fail
  refine hat.mono ?_
  rintro e w ⟨rfl, rfl⟩
  clear hat
  go_upto_region 2 with (fail)
  obtain ⟨w1, hw1⟩ : ∃ W, W = w.alloc (.cells #[.pointer (some ⟨gb, i * 6, none⟩)] 96) := ⟨_, rfl⟩
  rw [← hw1] at h1 hb1 HB ⊢
  clear hw1
  obtain ⟨g1, hg1⟩ : ∃ g, w.heap.size = g := ⟨_, rfl⟩
  rw [hg1] at hb1 ⊢
  clear hg1 h
  obtain ⟨c0, c1, c2, -, -, -, -, -⟩ := h1.cells
  obtain ⟨⟨A', c', -, d0⟩, d1, d2, -, -, -⟩ := h1.recs i hi
  have k0 : w1.cell? ⟨g1, 0, none⟩ = some (.pointer (some ⟨gb, i * 6, none⟩)) := hb1.cell 0
  clear h1 hb1
  have hpg : (N.pages : Int) ≤ 32 := by omega
  generalize N.bs.length = nb at *
  by_cases hp0 : p < 0
  ·replace Hr := hid (show (1 : Int) = r by rw [← Hr.out, if_pos (.inl hp0)])
   generalize N.pages = pgs at *
   generalize (N.blk i).pages.length = len at *
   go_wp2
   go_ret
   exact ⟨by (rw [← Hr.out]) <;> rfl, HB.out⟩
  ·obtain ⟨p, rfl⟩ := Int.eq_ofNat_of_zero_le (show 0 ≤ p by omega)
   by_cases hp1 : N.pages ≤ p
   ·replace Hr := hid (show (1 : Int) = r by rw [← Hr.out, if_pos (.inr (by omega))])
    have hp1' : (N.pages : Int) ≤ (p : Int) := by omega
    generalize N.pages = pgs at *
    generalize (N.blk i).pages.length = len at *
    go_wp2
    go_ret
    exact ⟨by (rw [← Hr.out]) <;> rfl, HB.out⟩
   ·have hp1' : ¬ (N.pages : Int) ≤ (p : Int) := by omega
    replace Hr := hid (show (if n ≠ 96 then (3 : Int) else if (p : Int) ≠ ((N.blk i).pages.length : Int) ∨ (N.blk i).half = true then 6 else if ep < N.fence then 7 else 0) = r by rw [← Hr.out, if_neg (show ¬ ((p : Int) < 0 ∨ (N.pages : Int) ≤ p) by omega)])
    by_cases hn96 : n = 96
    ·have hb1 : ((n : Int) != 96) = false := by rw [bne_eq_false_iff_eq]; omega
     replace Hr := hid (show (if (p : Int) ≠ ((N.blk i).pages.length : Int) ∨ (N.blk i).half = true then (6 : Int) else if ep < N.fence then 7 else 0) = r by rw [← Hr.out, if_neg (show ¬ (n ≠ 96) by simpa using hn96)])
     clear hn96
     by_cases hpl : p = (N.blk i).pages.length
     ·have hb2 : ((p : Int) != ((N.blk i).pages.length : Int)) = false := by rw [bne_eq_false_iff_eq]; omega
      by_cases hh : (N.blk i).half = true
      ·replace Hr := hid (show (6 : Int) = r by rw [← Hr.out, if_pos (show (p : Int) ≠ ((N.blk i).pages.length : Int) ∨ (N.blk i).half = true from .inr hh)])
       rw [hh] at d2
       clear hpl hh
       generalize N.pages = pgs at *
       generalize (N.blk i).pages.length = len at *
       go_wp2
       go_ret
       exact ⟨by (rw [← Hr.out]) <;> rfl, HB.out⟩
      ·replace Hr := hid (show (if ep < N.fence then (7 : Int) else 0) = r by rw [← Hr.out, if_neg (show ¬ ((p : Int) ≠ ((N.blk i).pages.length : Int) ∨ (N.blk i).half = true) from (by rintro (h | h); exact h (by omega); exact hh h))])
       rw [Bool.not_eq_true] at hh
       rw [hh] at d2
       by_cases hf : ep < N.fence
       ·replace Hr := hid (show (7 : Int) = r by rw [← Hr.out, if_pos hf])
        have hfd : decide (ep < N.fence) = true := decide_eq_true hf
        clear hpl hh
        generalize N.pages = pgs at *
        generalize (N.blk i).pages.length = len at *
        generalize N.fence = fe at *
        go_wp2
        go_ret
        exact ⟨by (rw [← Hr.out]) <;> rfl, HB.out⟩
       ·exact absurd (by rw [← Hr.out, if_neg hf]) Hne.out
     ·have hb2 : ((p : Int) != ((N.blk i).pages.length : Int)) = true := by rw [bne_iff_ne]; omega
      replace Hr := hid (show (6 : Int) = r by rw [← Hr.out, if_pos (show (p : Int) ≠ ((N.blk i).pages.length : Int) ∨ (N.blk i).half = true from .inl (by omega))])
      generalize N.pages = pgs at *
      generalize (N.blk i).pages.length = len at *
      go_wp2
      go_ret
      exact ⟨by (rw [← Hr.out]) <;> rfl, HB.out⟩
    ·have hb1 : ((n : Int) != 96) = true := by rw [bne_iff_ne]; omega
     replace Hr := hid (show (3 : Int) = r by rw [← Hr.out, if_pos hn96])
     generalize N.pages = pgs at *
     generalize (N.blk i).pages.length = len at *
     go_wp2
     go_ret
     exact ⟨by (rw [← Hr.out]) <;> rfl, HB.out⟩
 ·have hat := at_no F b gb pv wv N i w h ha
  have he' : N.progE i p n ep = N.atE i := by
   unfold NA.progE
   rw [if_pos ha]
  rw [he'] at he ⊢
  clear he' he
  obtain ⟨r, hr⟩ : ∃ r, N.atE i = r := ⟨_, rfl⟩
  rw [hr] at hat ha ⊢
  have hb : (r != 0) = true := by rw [bne_iff_ne]; exact ha
  have HB := hid ((Below.refl w.heap.size w).alloc (Nat.le_refl _) (.cells #[.pointer none] 96))
  clear hr h
  go_enter Try.func79, Try.ntmps79
  go_wp2_with fail
  refine hat.mono ?_
  rintro e w ⟨rfl, rfl⟩
  clear hat
  go_wp2
  go_ret
  exact ⟨rfl, HB.out⟩
end Go.Proofs.Ytpcbpljdiacbmaa.Nand

set_option linter.unusedVariables false
set_option linter.unusedSimpArgs false
namespace Go.Proofs.Ytpcbpljdiacbmaa.Nand
open Go.RowKit Go.Proofs.Ytpcbpljdiacbmaa.Kit

theorem blk_ne2 {w : World} {F : Nat → Prop} {b gb g : Nat} {pv : Nat → Value} {wv : Value} {N : NA} {cs : Array Value} {T : TypeId} (h : AR w F b gb pv wv N) (hb : Blk w g cs T) (h1 : T ≠ 67) (h2 : T ≠ 70) : ¬ (g = b ∨ g = gb) := by
 have hh := h.hd
 obtain ⟨cs', hr⟩ := h.row.block
 unfold Blk at hb hh
 rintro (rfl | rfl)
 ·rw [hh] at hb
  injection hb with hb
  injection hb with _ hb
  exact h1 hb.symm
 ·rw [hr] at hb
  injection hb with hb
  injection hb with _ hb
  exact h2 hb.symm
theorem AR.grown {w' : World} {F : Nat → Prop} {b gb : Nat} {pv : Nat → Value} {wv : Value} {N : NA} (h : AR w' F b gb pv wv N) (w : World) : AR w' (grow F w w') b gb pv wv N :=
 h.mono (fun g hg => .inl hg) (fun g hg => by rcases hg with hg | hg; exact h.low g hg; exact hg.2)
theorem grow_size {F : Nat → Prop} {w w1 w2 : World} (h : w2.heap.size = w1.heap.size) : grow F w w2 = grow F w w1 := by unfold grow; rw [h]
theorem size_set (w : World) (a : Addr) (v : Value) : (w.setCell a v).heap.size = w.heap.size := by simp [World.setCell]
/-- Bytes in a row that is new. -/
theorem byteR_new {F : Nat → Prop} {w w4 : World} {base n : Nat} {u : Value} {q : List Int} (h : w4.ownsRow base 5 1 u n (q.map (Value.int .u8))) (hn : q.length = n) (hw : ∀ x ∈ q, (Lit.int .u8 x).wf = true) (hb : w.heap.size ≤ base) : ByteR w4 (grow F w w4) u q :=
 ⟨by rw [hn]; exact own_base h (fun _ _ => Nat.zero_le _), hw, fun g hg => .inr ⟨Nat.le_trans hb (own_low h g hg), (own_block h g hg).choose_spec.2⟩⟩
theorem PagesR.push {w w5 : World} {F F' : Nat → Prop} {v v5 y : Value} {pgs : List (List Int)} {xs : List Value} {q : List Int} {S : Nat → Prop} (ho : w.ownsRow 0 22 1 v pgs.length xs) (hp : ∀ j, j < pgs.length → ∃ u, xs[j]? = some u ∧ (pgs.getD j []).length = 96 ∧ ByteR w F u (pgs.getD j []))
  (hW : Fr (fun g => v.ownBlock = some g) w w5) (hF : ∀ g, F g → F' g) (ho5 : w5.ownsRow 0 22 1 v5 (pgs.length + 1) (xs ++ [y])) (hv5 : ∀ g, v5.ownBlock = some g → F' g) (hq : q.length = 96) (hy : ByteR w5 F' y q) : PagesR w5 F' v5 (pgs ++ [q]) := by
 have hxl : xs.length = pgs.length := by have := ho.1; omega
 refine ⟨xs ++ [y], by rw [List.length_append]; exact ho5, hv5, fun j hj => ?_⟩
 rw [List.length_append] at hj
 by_cases e : j < pgs.length
 ·obtain ⟨u, hu, hl, hb⟩ := hp j e
  have eg : (pgs ++ [q]).getD j [] = pgs.getD j [] := by rw [List.getD_eq_getElem?_getD, List.getElem?_append_left e, List.getD_eq_getElem?_getD]
  rw [eg]
  refine ⟨u, by rw [List.getElem?_append_left (by omega)]; exact hu, hl, hb.keep (fun g hg hFg => ?_) (fun g _ hFg => hF g hFg)⟩
  obtain ⟨cur, hc, hlt⟩ := own_block hb.1 g hg
  refine hW.block g hlt (fun hv => ?_)
  obtain ⟨cur', hc', _⟩ := own_block ho g hv
  rw [hc] at hc'
  injection hc' with hc'
  injection hc' with _ hc'
  revert hc'
  decide
 ·obtain rfl : j = pgs.length := by simp at hj; omega
  have eg : (pgs ++ [q]).getD pgs.length [] = q := by rw [List.getD_eq_getElem?_getD, List.getElem?_append_right (Nat.le_refl _)]; simp
  rw [eg]
  exact ⟨y, by rw [List.getElem?_append_right (by omega), hxl]; simp, hq, hy⟩
def updV (pv : Nat → Value) (i : Nat) (v : Value) : Nat → Value := fun j => if j = i then v else pv j
theorem AR.push {w w5 : World} {F F' : Nat → Prop} {b gb : Nat} {pv : Nat → Value} {wv v5 : Value} {M : NA} (h : AR w F b gb pv wv M) (i : Nat) (hi : i < M.bs.length) (x : NB) (hx : recOf v5 x = (recOf (pv i) (M.blk i)).set 0 v5) (hW : Fr (fun g => (pv i).ownBlock = some g) w w5) (hF : ∀ g, F g → F' g) (hl : ∀ g, F' g → g < w5.heap.size)
  (hP : PagesR w5 F' v5 x.pages) (hat : ∀ g, v5.ownBlock = some g → (pv i).ownBlock = some g ∨ w.heap.size ≤ g) (hway : M.way = none) (wf : (M.setB i x).Wf) :
  AR (w5.setCell ⟨gb, i * 6, none⟩ v5) F' b gb (updV pv i v5) wv (M.setB i x) := by
 obtain ⟨xs, ho, hf, hp⟩ := h.pgs i hi
 have hnb : (pv i).ownBlock ≠ some b := fun e => by
  obtain ⟨cur, hc, _⟩ := own_block ho b e
  exact blk_ne2 h (show Blk w b cur 22 from hc) (by decide) (by decide) (.inl rfl)
 have hng : (pv i).ownBlock ≠ some gb := fun e => by
  obtain ⟨cur, hc, _⟩ := own_block ho gb e
  exact blk_ne2 h (show Blk w gb cur 22 from hc) (by decide) (by decide) (.inr rfl)
 have hh5 : w5.heap[b]? = w.heap[b]? := hW.block b (h.low b h.inb) hnb
 have hg5 : w5.heap[gb]? = w.heap[gb]? := hW.block gb (h.low gb h.ing) hng
 have hrow5 := h.row.keep hg5
 obtain ⟨cs5, hcs5⟩ := hrow5.block
 have hsame : ∀ g, g ≠ gb → (w5.setCell ⟨gb, i * 6, none⟩ v5).heap[g]? = w5.heap[g]? := fun g hg => Below.heap_setCell w5 ⟨gb, i * 6, none⟩ v5 g hg
 refine ⟨?_, ?_, fun j hj => ?_, fun j k hj hk hjk => ?_, ?_, hF _ h.inb, hF _ h.ing, fun g hg => by rw [size_set]; exact hl g hg, wf⟩
 ·have := h.hd
  unfold Blk hdOf at *
  rw [len_set, hsame b h.ne, hh5]
  exact this
 ·exact hrow5.set i 0 hi (by decide) v5 (updV pv i v5) x (by unfold updV; rw [if_pos rfl]; exact hx) (fun j hj => by unfold updV; rw [if_neg hj])
 ·rw [len_set] at hj
  rw [blk_set i j x hi]
  unfold updV
  by_cases e : j = i
  ·rw [if_pos e, if_pos e]
   refine hP.keep (fun g cur ht _ => hsame g (fun e => ?_)) (fun _ _ hg => hg)
   subst e
   rw [hcs5] at ht
   rcases ht with ⟨e, _⟩ | e <;> (injection e with e; injection e with _ e; revert e; decide)
  ·rw [if_neg e, if_neg e]
   refine (h.pgs j hj).keep (fun g cur ht hg => ?_) (fun g _ hg => hF g hg)
   have hlt := h.low g hg
   have hgg : g ≠ gb := by
    rintro rfl
    obtain ⟨cs, hcs⟩ := h.row.block
    rw [hcs] at ht
    rcases ht with ⟨e, _⟩ | e <;> (injection e with e; injection e with _ e; revert e; decide)
   rw [hsame g hgg]
   refine hW.block g hlt (fun hv => ?_)
   rcases ht with ⟨_, hv2⟩ | ht
   ·exact h.apart i j hi hj (fun x => e x.symm) g hv hv2
   ·obtain ⟨cur', hc', _⟩ := own_block ho g hv
    rw [ht] at hc'
    injection hc' with hc'
    injection hc' with _ hc'
    revert hc'
    decide
 ·rw [len_set] at hj hk
  have key : ∀ j, j < M.bs.length → j ≠ i → ∀ g, v5.ownBlock = some g → (pv j).ownBlock ≠ some g := by
   intro j hj hne g hg hv
   obtain ⟨xj, hoj, _⟩ := h.pgs j hj
   have hlt := (own_block hoj g hv).choose_spec.2
   rcases hat g hg with e | e
   ·exact h.apart i j hi hj (fun x => hne x.symm) g e hv
   ·omega
  unfold updV
  intro g hg
  by_cases ej : j = i
  ·rw [if_pos ej] at hg
   rw [if_neg (fun x => hjk (by omega))]
   exact key k hk (fun x => hjk (by omega)) g hg
  ·rw [if_neg ej] at hg
   by_cases ek : k = i
   ·rw [if_pos ek]
    intro hv
    exact key j hj ej g hv hg
   ·rw [if_neg ek]
    exact h.apart j k hj hk hjk g hg
 ·have hwv := h.way
  show WayR _ F' gb M.way wv
  rw [hway] at hwv ⊢
  exact hwv
theorem wf_push {M : NA} (h : M.Wf) (i : Nat) (x : NB) (hi : i < M.bs.length) (hway : M.way = none) (hp : x.pages.length ≤ M.pages) (hd : x.doom = (M.blk i).doom) : (M.setB i x).Wf := by
 refine ⟨by rw [len_set]; exact h.nb, h.np, fun j hj => ?_, fun u hu => ?_, h.armed, fun j hj => ?_⟩
 ·rw [len_set] at hj
  rw [blk_set i j x hi]
  split
  ·exact hp
  ·exact h.len j hj
 ·have : M.way = some u := hu
  rw [hway] at this
  cases this
 ·rw [len_set] at hj
  rw [blk_set i j x hi]
  split
  ·rw [hd]
   exact h.doom i hi
  ·exact h.doom j hj
/-- append(b.pages, p) at a step of a region that draws. -/
theorem step_append_page {ops : Array Oper} {o : Oper} {a : Act} {K : Act → World → Prop} {Q : Exit → Act → World → Prop} {E : Prop} {W : World} (hgd : o.guard = none) (s x : Operand)
  (ho : o.op = .call { callee := .builtin .append, args := #[s, x], argTypes := #[68, 68] }) (v : Value) (n : Nat) (xs : List Value) (y : Value) (gy : Nat) (hs : a.eval s = v) (hx : a.eval x = .slice (some ⟨gy, 0, none⟩) 1 1)
  (HO : W.ownsRow 0 22 1 v n xs) (hy : Blk W gy #[y] 22) (h1 : y.oneCell' = true) (hn : n ≤ 1000)
  (h : ∀ g cap w', w'.ownsRow 0 22 1 (.slice (some ⟨g, 0, none⟩) (n + 1) cap) (n + 1) (xs ++ [y]) → W.grownBy w' v.ownBlock → (v.ownBlock = some g ∨ g = W.heap.size) → K (a.put o.dst (.slice (some ⟨g, 0, none⟩) (n + 1) cap)) w') :
  if Region.wanted o (yielded ops a.tmps) = true then Oper.wp Try.prog o a W K Q else E := by
 obtain ⟨i0, hi, hz0, hz1, hz2⟩ := info_parts infoP
 exact step_append_lies W hgd s x 68 ho 0 22 i0 _ 1 24 Try.underlying68 hi hz0 hz1 hz2 rfl (by omega) v n xs hs HO ⟨gy, 0, none⟩ 1 1 [y] hx rfl (World.news_of_block hy) (by simpa using h1) (by omega) (by unfold maxLen; omega) (by omega) (Nat.zero_le _) W.heap.size rfl (fun g cap w' h2 h3 h4 _ => h g cap w' h2 h3 h4)
end Go.Proofs.Ytpcbpljdiacbmaa.Nand

set_option linter.unusedVariables false
set_option linter.unusedSimpArgs false
namespace Go.Proofs.Ytpcbpljdiacbmaa.Nand
open Go.RowKit Go.Proofs.Ytpcbpljdiacbmaa.Kit

set_option maxRecDepth 100000 in
set_option maxHeartbeats 8000000 in
theorem prog_off (F : Nat → Prop) (b gb : Nat) (pv : Nat → Value) (wv : Value) (N : NA) (i p : Nat) (A : Option Addr) (c : Nat) (q : List Int) (ep : Int) (w : World) (h : AR w F b gb pv wv N) (hz : Nums w .u8 A 96 q)
  (he : N.atE i = 0 ∧ (p = (N.blk i).pages.length ∧ p < N.pages) ∧ (N.blk i).half = false ∧ N.fence ≤ ep) (hoff : (N.begun i).off = true) :
  Calls Try.prog 79 #[.pointer (some ⟨b, 0, none⟩), .int .i64 (i : Int), .int .i64 (p : Int), .slice A 96 c, .int .u64 ep] w fun e w' => e = .returned (.int .i64 9) ∧ Arr w' (grow F w w') b { N.begun i with way := some ⟨i, some q, ((N.begun i).blk i).dead⟩ } ∧ Fr F w w' := by
 obtain ⟨hi0, hi1, ho⟩ := atE_zero (N := N) (i := (i : Int)) he.1
 have hi : i < N.bs.length := by omega
 have hat := at_ok F b gb pv wv N i w h hi ho
 have Hwf := hid h.wf
 have hnp := h.wf.np
 have hlen := h.wf.len i hi
 have hnb := h.wf.nb
 have Hpl := hid he.2.1
 have HB := hid ((Below.refl w.heap.size w).alloc (Nat.le_refl _) (.cells #[.pointer (some ⟨gb, i * 6, none⟩)] 96))
 have H0 := hid h
 have Hhh := hid he.2.2.1
 have Hff := hid he.2.2.2
 have Hinb := hid h.inb
 have Hing := hid h.ing
 have Hlow := hid h.low
 have Hz := hid hz
 clear hi0 hi1 h hz he
 go_enter Try.func79, Try.ntmps79
 go_wp2_with fail
 refine hat.mono ?_
 rintro e w ⟨rfl, rfl⟩
 clear hat
 go_upto_region 2 with (fail)
 obtain ⟨w1, hw1⟩ : ∃ W, W = w.alloc (.cells #[.pointer (some ⟨gb, i * 6, none⟩)] 96) := ⟨_, rfl⟩
 have hb1 : Blk w1 w.heap.size #[.pointer (some ⟨gb, i * 6, none⟩)] 96 := by rw [hw1]; exact Blk.new _ _ _
 rw [← hw1] at HB ⊢
 clear hw1
 obtain ⟨g1, hg1⟩ : ∃ g, w.heap.size = g := ⟨_, rfl⟩
 rw [hg1] at hb1 ⊢
 have Hg1 := hid hg1
 have H1 := hid (H0.out.later HB.out)
 have Hz1 := hid (Hz.out.below HB.out)
 have Hb1 := hid hb1
 clear hg1 H0
 obtain ⟨c0, c1, c2, -, -, -, -, -⟩ := H1.out.cells
 obtain ⟨⟨A', c', -, d0⟩, d1, d2, -, -, -⟩ := H1.out.recs i hi
 have k0 : w1.cell? ⟨g1, 0, none⟩ = some (.pointer (some ⟨gb, i * 6, none⟩)) := hb1.cell 0
 have hl96 : ((96 : Int) != 96) = false := by decide
 have hp1' : ¬ (N.pages : Int) ≤ (p : Int) := by have := Hpl.out; omega
 have hpl : ((p : Int) != ((N.blk i).pages.length : Int)) = false := by rw [bne_eq_false_iff_eq]; have := Hpl.out; omega
 rw [Hhh.out] at d2
 have hfd : decide (ep < N.fence) = false := decide_eq_false (Int.not_lt.2 Hff.out)
 have hff := Int.not_lt.2 Hff.out
 clear hb1
 go_upto_region 12 with (fail)
 clear hfd hff hpl hp1' hl96 c0 c1 c2 d0 d1 d2 k0
 go_wp2_with fail
 refine (clone_own A 96 c q w1 Hz1.out (by decide) (by decide)).mono ?_
 rintro e w2 ⟨Au, cu, rfl, hu2, hB2⟩
 go_upto_region 13 with (fail)
 obtain ⟨w3, hw3⟩ : ∃ W, W = w2.alloc (.cells #[.slice Au 96 cu] 22) := ⟨_, rfl⟩
 have hb3 : Blk w3 w2.heap.size #[.slice Au 96 cu] 22 := by rw [hw3]; exact Blk.new _ _ _
 have hB3 : Below w1.heap.size w1 w3 := by rw [hw3]; exact hB2.alloc hB2.size _
 have hu3 : w3.ownsRow w1.heap.size 5 1 (.slice Au 96 cu) 96 (q.map (Value.int .u8)) := by rw [hw3]; exact hu2.alloc _
 rw [← hw3]
 clear hw3 hu2
 obtain ⟨g3, hg3⟩ : ∃ g, w2.heap.size = g := ⟨_, rfl⟩
 rw [hg3] at hb3 ⊢
 have Hg3 := hid (show w1.heap.size ≤ g3 from by rw [← hg3]; exact hB2.size)
 have H3 := hid (H1.out.later hB3)
 have Hu3 := hid hu3
 have Hb3 := hid hb3
 have Hb13 := hid (Hb1.out.later hB3)
 have HB3 := hid (HB.out.trans (hB3.mono HB.out.size))
 have HB13 := hid hB3
 clear hg3 hb3 hu3 hB3 hB2 H1 Hb1 Hz1
 have k1 : w3.cell? ⟨g1, 0, none⟩ = some (.pointer (some ⟨gb, i * 6, none⟩)) := Hb13.out.cell 0
 have hbeg := begin_any F b gb pv wv N i w3 H3.out hi ho
 go_wp2_with fail
 refine hbeg.mono ?_
 rintro e w4 ⟨rfl, h4, hF4⟩
 clear hbeg k1
 have Hne := hid h4.ne
 have Hb14 := hid (show Blk w4 g1 #[.pointer (some ⟨gb, i * 6, none⟩)] 96 from (hF4.block g1 Hb13.out.lt (fun e => blk_ne2 H3.out Hb13.out (by decide) (by decide) e)).trans Hb13.out)
 have Hb34 := hid (show Blk w4 g3 #[.slice Au 96 cu] 22 from (hF4.block g3 Hb3.out.lt (fun e => blk_ne2 H3.out Hb3.out (by decide) (by decide) e)).trans Hb3.out)
 have Hu4 := hid (own_keep Hu3.out (fun g hg => hF4.block g (own_block Hu3.out g hg).choose_spec.2 (fun e => by
  obtain ⟨cur, hcur, _⟩ := own_block Hu3.out g hg
  exact blk_ne2 H3.out (show Blk w3 g cur 5 from hcur) (by decide) (by decide) e)))
 have HF4 := hid (show Fr F w w4 from (Fr.of_below HB3.out).trans (hF4.mono (fun g _ hg => (show F g from by rcases hg with rfl | rfl; exact Hinb.out; exact Hing.out))) (fun g _ hg => hg))
 have H4 := hid h4
 have Hs4 := hid (show g1 < w4.heap.size ∧ g3 < w4.heap.size from ⟨Hb14.out.lt, Hb34.out.lt⟩)
 have Hsz := hid (show w.heap.size ≤ w1.heap.size from HB.out.size)
 clear hF4 H3 Hb13 Hb3 Hu3 h4
 have Hoff := hid hoff
 have hfr : (!(N.begun i).off) = false := by rw [hoff]; rfl
 rw [hfr]
 clear hfr hoff
 have e7 : w4.cell? ⟨b, 7, none⟩ = some wv := H4.out.hd.cell 7
 have f7 := H4.out.hd.free 7
 go_upto_region 16 with (fail)
 generalize hfv : Value.func _ _ _ = fv
 have Hbu := hid (byteR_new (F := F) Hu4.out Hz.out.len Hz.out.wf Hsz.out)
 have Hfin := hid (show AR (w4.setCell ⟨b, 7, none⟩ fv) (grow F w (w4.setCell ⟨b, 7, none⟩ fv)) b gb pv fv { N.begun i with way := some ⟨i, some q, ((N.begun i).blk i).dead⟩ } from by
  rw [grow_size (size_set ..)]
  have hg := H4.out.grown w
  have hf : Fr (fun g => g = b) w4 (w4.setCell ⟨b, 7, none⟩ fv) := fr_set w4 b 7 fv rfl
  have hother : ∀ g cs T, Blk w4 g cs T → T ≠ 67 → T ≠ 70 → (w4.setCell ⟨b, 7, none⟩ fv).heap[g]? = w4.heap[g]? := fun g cs T hb h1 h2 => Below.heap_setCell w4 ⟨b, 7, none⟩ fv g (fun e => blk_ne2 H4.out hb h1 h2 (.inl e))
  refine hg.upd hf (fun g hg => .inl hg) _ fv (by have := H4.out.hd.set 7 fv; exact this) (H4.out.row.keep (Below.heap_setCell w4 ⟨b, 7, none⟩ fv gb (fun e => H4.out.ne e.symm))) rfl (fun _ _ => rfl) ?_ ?_
  ·refine ⟨g1, g3, .slice Au 96 cu, hfv.symm, ?_, ?_, .inr ⟨by have := Hg1.out; omega, Hs4.out.1⟩, .inr ⟨by have := Hg3.out; have := Hsz.out; omega, Hs4.out.2⟩, Hz.out.len, ?_⟩
   ·unfold Blk
    rw [hother g1 _ _ Hb14.out (by decide) (by decide)]
    exact Hb14.out
   ·unfold Blk
    rw [hother g3 _ _ Hb34.out (by decide) (by decide)]
    exact Hb34.out
   ·refine Hbu.out.keep (fun g hg _ => ?_) (fun _ _ h => h)
    obtain ⟨cur, hc, _⟩ := own_block Hbu.out.1 g hg
    exact hother g cur _ hc (by decide) (by decide)
  ·refine ⟨H4.out.wf.nb, H4.out.wf.np, H4.out.wf.len, fun u hu => ?_, H4.out.wf.armed, H4.out.wf.doom⟩
   injection hu with hu
   subst hu
   refine ⟨Hoff.out, by show i < (N.begun i).bs.length; rw [len_begun]; exact hi, fun q' _ => ?_⟩
   show ((N.begun i).blk i).pages.length < N.pages
   rw [blk_begun i i hi, if_pos rfl]
   show (N.blk i).pages.length < N.pages
   have := Hpl.out
   omega)
 have HFin := hid (HF4.out.set b 7 fv (.inl Hinb.out))
 clear e7 f7 hfv Hbu
 go_wp2
 go_ret
 exact ⟨rfl, ⟨gb, pv, fv, Hfin.out⟩, HFin.out⟩
set_option maxRecDepth 100000 in
set_option maxHeartbeats 8000000 in
theorem prog_on (F : Nat → Prop) (b gb : Nat) (pv : Nat → Value) (wv : Value) (N : NA) (i p : Nat) (A : Option Addr) (c : Nat) (q : List Int) (ep : Int) (w : World) (h : AR w F b gb pv wv N) (hz : Nums w .u8 A 96 q)
  (he : N.atE i = 0 ∧ (p = (N.blk i).pages.length ∧ p < N.pages) ∧ (N.blk i).half = false ∧ N.fence ≤ ep) (hoff : (N.begun i).off = false) (hdd : ((N.begun i).blk i).dead = false) :
  Calls Try.prog 79 #[.pointer (some ⟨b, 0, none⟩), .int .i64 (i : Int), .int .i64 (p : Int), .slice A 96 c, .int .u64 ep] w fun e w' => e = .returned (.int .i64 0) ∧ Arr w' (grow F w w') b ((N.begun i).setB i (((N.begun i).blk i).add q)) ∧ Fr F w w' := by
 obtain ⟨hi0, hi1, ho⟩ := atE_zero (N := N) (i := (i : Int)) he.1
 have hi : i < N.bs.length := by omega
 have hat := at_ok F b gb pv wv N i w h hi ho
 have Hwf := hid h.wf
 have hnp := h.wf.np
 have hlen := h.wf.len i hi
 have hnb := h.wf.nb
 have Hpl := hid he.2.1
 have HB := hid ((Below.refl w.heap.size w).alloc (Nat.le_refl _) (.cells #[.pointer (some ⟨gb, i * 6, none⟩)] 96))
 have H0 := hid h
 have Hhh := hid he.2.2.1
 have Hff := hid he.2.2.2
 have Hinb := hid h.inb
 have Hing := hid h.ing
 have Hlow := hid h.low
 have Hz := hid hz
 clear hi0 hi1 h hz he
 go_enter Try.func79, Try.ntmps79
 go_wp2_with fail
 refine hat.mono ?_
 rintro e w ⟨rfl, rfl⟩
 clear hat
 go_upto_region 2 with (fail)
 obtain ⟨w1, hw1⟩ : ∃ W, W = w.alloc (.cells #[.pointer (some ⟨gb, i * 6, none⟩)] 96) := ⟨_, rfl⟩
 have hb1 : Blk w1 w.heap.size #[.pointer (some ⟨gb, i * 6, none⟩)] 96 := by rw [hw1]; exact Blk.new _ _ _
 rw [← hw1] at HB ⊢
 clear hw1
 obtain ⟨g1, hg1⟩ : ∃ g, w.heap.size = g := ⟨_, rfl⟩
 rw [hg1] at hb1 ⊢
 have Hg1 := hid hg1
 have H1 := hid (H0.out.later HB.out)
 have Hz1 := hid (Hz.out.below HB.out)
 have Hb1 := hid hb1
 clear hg1 H0
 obtain ⟨c0, c1, c2, -, -, -, -, -⟩ := H1.out.cells
 obtain ⟨⟨A', c', -, d0⟩, d1, d2, -, -, -⟩ := H1.out.recs i hi
 have k0 : w1.cell? ⟨g1, 0, none⟩ = some (.pointer (some ⟨gb, i * 6, none⟩)) := hb1.cell 0
 have hl96 : ((96 : Int) != 96) = false := by decide
 have hp1' : ¬ (N.pages : Int) ≤ (p : Int) := by have := Hpl.out; omega
 have hpl : ((p : Int) != ((N.blk i).pages.length : Int)) = false := by rw [bne_eq_false_iff_eq]; have := Hpl.out; omega
 rw [Hhh.out] at d2
 have hfd : decide (ep < N.fence) = false := decide_eq_false (Int.not_lt.2 Hff.out)
 have hff := Int.not_lt.2 Hff.out
 clear hb1
 go_upto_region 12 with (fail)
 clear hfd hff hpl hp1' hl96 c0 c1 c2 d0 d1 d2 k0
 go_wp2_with fail
 refine (clone_own A 96 c q w1 Hz1.out (by decide) (by decide)).mono ?_
 rintro e w2 ⟨Au, cu, rfl, hu2, hB2⟩
 go_upto_region 13 with (fail)
 obtain ⟨w3, hw3⟩ : ∃ W, W = w2.alloc (.cells #[.slice Au 96 cu] 22) := ⟨_, rfl⟩
 have hb3 : Blk w3 w2.heap.size #[.slice Au 96 cu] 22 := by rw [hw3]; exact Blk.new _ _ _
 have hB3 : Below w1.heap.size w1 w3 := by rw [hw3]; exact hB2.alloc hB2.size _
 have hu3 : w3.ownsRow w1.heap.size 5 1 (.slice Au 96 cu) 96 (q.map (Value.int .u8)) := by rw [hw3]; exact hu2.alloc _
 rw [← hw3]
 clear hw3 hu2
 obtain ⟨g3, hg3⟩ : ∃ g, w2.heap.size = g := ⟨_, rfl⟩
 rw [hg3] at hb3 ⊢
 have Hg3 := hid (show w1.heap.size ≤ g3 from by rw [← hg3]; exact hB2.size)
 have H3 := hid (H1.out.later hB3)
 have Hu3 := hid hu3
 have Hb3 := hid hb3
 have Hb13 := hid (Hb1.out.later hB3)
 have HB3 := hid (HB.out.trans (hB3.mono HB.out.size))
 have HB13 := hid hB3
 clear hg3 hb3 hu3 hB3 hB2 H1 Hb1 Hz1
 have k1 : w3.cell? ⟨g1, 0, none⟩ = some (.pointer (some ⟨gb, i * 6, none⟩)) := Hb13.out.cell 0
 have hbeg := begin_any F b gb pv wv N i w3 H3.out hi ho
 go_wp2_with fail
 refine hbeg.mono ?_
 rintro e w4 ⟨rfl, h4, hF4⟩
 clear hbeg k1
 have Hne := hid h4.ne
 have Hb14 := hid (show Blk w4 g1 #[.pointer (some ⟨gb, i * 6, none⟩)] 96 from (hF4.block g1 Hb13.out.lt (fun e => blk_ne2 H3.out Hb13.out (by decide) (by decide) e)).trans Hb13.out)
 have Hb34 := hid (show Blk w4 g3 #[.slice Au 96 cu] 22 from (hF4.block g3 Hb3.out.lt (fun e => blk_ne2 H3.out Hb3.out (by decide) (by decide) e)).trans Hb3.out)
 have Hu4 := hid (own_keep Hu3.out (fun g hg => hF4.block g (own_block Hu3.out g hg).choose_spec.2 (fun e => by
  obtain ⟨cur, hcur, _⟩ := own_block Hu3.out g hg
  exact blk_ne2 H3.out (show Blk w3 g cur 5 from hcur) (by decide) (by decide) e)))
 have HF4 := hid (show Fr F w w4 from (Fr.of_below HB3.out).trans (hF4.mono (fun g _ hg => (show F g from by rcases hg with rfl | rfl; exact Hinb.out; exact Hing.out))) (fun g _ hg => hg))
 have H4 := hid h4
 have Hs4 := hid (show g1 < w4.heap.size ∧ g3 < w4.heap.size from ⟨Hb14.out.lt, Hb34.out.lt⟩)
 have Hsz := hid (show w.heap.size ≤ w1.heap.size from HB.out.size)
 clear hF4 H3 Hb13 Hb3 Hu3 h4
 have Hoff := hid hoff
 have Hdd := hid hdd
 rw [hoff, hdd]
 clear hoff hdd
 obtain ⟨⟨Ap, cp, hpe, hcp⟩, -, -, -, -, -⟩ := H4.out.recs i (by rw [len_begun]; exact hi)
 have hpgs : ((N.begun i).blk i).pages = (N.blk i).pages := by rw [blk_begun i i hi, if_pos rfl]; rfl
 rw [hpgs] at hpe hcp
 obtain ⟨xs, ho1, hf1, hp1⟩ := H4.out.pgs i (by rw [len_begun]; exact hi)
 rw [hpgs] at ho1 hp1
 obtain ⟨np, hnpl⟩ : ∃ n, (N.blk i).pages.length = n := ⟨_, rfl⟩
 rw [hnpl] at hpe hcp ho1
 have hnp1 : np ≤ 1000 := by omega
 rw [hpe] at ho1 hf1
 have Ho := hid ho1
 have Hbu := hid (byteR_new (F := F) Hu4.out Hz.out.len Hz.out.wf Hsz.out)
 have hrowlt : ∀ g, (Value.slice Ap np cp).ownBlock = some g → g < w4.heap.size ∧ g ≠ g1 ∧ g ≠ g3 ∧ g ≠ gb := by
  intro g hg
  obtain ⟨cur, hc, hlt⟩ := own_block ho1 g hg
  have hFg := Hlow.out g (hf1 g hg)
  have e1 := Hg1.out
  have e3 := Hg3.out
  have es := Hsz.out
  refine ⟨hlt, by omega, by omega, fun e => ?_⟩
  subst e
  exact blk_ne2 H4.out (show Blk w4 g cur 22 from hc) (by decide) (by decide) (.inr rfl)
 have HC := hid (fun (W : World) (hW : Fr (fun g => (Value.slice Ap np cp).ownBlock = some g) w4 W) => (by
  have hg := hW.block gb (H4.out.low gb Hing.out) (fun e => (hrowlt gb e).2.2.2 rfl)
  have hr := H4.out.row.keep hg
  refine ⟨?_, hr.free _⟩
  simp only [World.cell?, hg]
  exact hcp : W.cell? ⟨gb, i * 6, none⟩ = some (.slice Ap np cp) ∧ W.frozen? ⟨gb, i * 6, none⟩ = false))
 have HS := hid (fun (W : World) (hW : Fr (fun g => (Value.slice Ap np cp).ownBlock = some g) w4 W) => (by
  have h1 : Blk W g1 _ _ := (hW.block g1 Hs4.out.1 (fun e => (hrowlt g1 e).2.1 rfl)).trans Hb14.out
  have h3 : Blk W g3 _ _ := (hW.block g3 Hs4.out.2 (fun e => (hrowlt g3 e).2.2.1 rfl)).trans Hb34.out
  exact ⟨h1.cell 0, h3.cell 0⟩ : W.cell? ⟨g1, 0, none⟩ = some (.pointer (some ⟨gb, i * 6, none⟩)) ∧ W.cell? ⟨g3, 0, none⟩ = some (.slice Au 96 cu)))
 have hgne := (fun e => blk_ne2 H4.out Hb14.out (by decide) (by decide) (.inr e) : g1 ≠ gb)
 have hgne3 := (fun e => blk_ne2 H4.out Hb34.out (by decide) (by decide) (.inr e) : g3 ≠ gb)
 have HS2 := hid (fun (W : World) (v : Value) (hW : Fr (fun g => (Value.slice Ap np cp).ownBlock = some g) w4 W) => (by
  obtain ⟨h1, h3⟩ := HS.out W hW
  have e1 := Below.heap_setCell W ⟨gb, i * 6, none⟩ v g1 hgne
  have e3 := Below.heap_setCell W ⟨gb, i * 6, none⟩ v g3 hgne3
  simp only [World.cell?] at h1 h3 ⊢
  rw [e1, e3]
  exact ⟨h1, h3⟩ : (W.setCell ⟨gb, i * 6, none⟩ v).cell? ⟨g1, 0, none⟩ = some (.pointer (some ⟨gb, i * 6, none⟩)) ∧ (W.setCell ⟨gb, i * 6, none⟩ v).cell? ⟨g3, 0, none⟩ = some (.slice Au 96 cu)))
 have hd0 : Fr (fun g => (Value.slice Ap np cp).ownBlock = some g) w4 w4.drew := ⟨rfl, rfl, rfl, Nat.le_refl _, fun _ _ _ => rfl⟩
 have hd1 : Fr (fun g => (Value.slice Ap np cp).ownBlock = some g) w4 (w4.alloc (.cells #[.slice Au 96 cu] 22)).drew := (Fr.of_below ((Below.refl _ _).alloc (Nat.le_refl _) _)).drewN 1
 have hcpa := (HC.out _ (Fr.of_below ((Below.refl w4.heap.size w4).alloc (Nat.le_refl _) (.cells #[.slice Au 96 cu] 22)))).1
 have HQ := hid (show ∀ (g6 cap6 : Nat) (w6 : World), w6.ownsRow 0 22 1 (.slice (some ⟨g6, 0, none⟩) (np + 1) cap6) (np + 1) (xs ++ [.slice Au 96 cu]) → (w4.alloc (.cells #[.slice Au 96 cu] 22)).grownBy w6 (Value.slice Ap np cp).ownBlock → ((Value.slice Ap np cp).ownBlock = some g6 ∨ g6 = (w4.alloc (.cells #[.slice Au 96 cu] 22)).heap.size) →
   Arr (w6.setCell ⟨gb, i * 6, none⟩ (.slice (some ⟨g6, 0, none⟩) (np + 1) cap6)) (grow F w (w6.setCell ⟨gb, i * 6, none⟩ (.slice (some ⟨g6, 0, none⟩) (np + 1) cap6))) b ((N.begun i).setB i (((N.begun i).blk i).add q)) ∧ Fr F w (w6.setCell ⟨gb, i * 6, none⟩ (.slice (some ⟨g6, 0, none⟩) (np + 1) cap6)) from by
  intro g6 cap6 w6 hown hgr hat
  have hFa : Fr (fun g => (Value.slice Ap np cp).ownBlock = some g) w4 w6 := (Fr.of_below ((Below.refl _ _).alloc (Nat.le_refl _) (.cells #[.slice Au 96 cu] 22))).trans (Fr.of_grown hgr (fun g hg => hg)) (fun _ _ h => h)
  have hib : i < (N.begun i).bs.length := by rw [len_begun]; exact hi
  have hg6 : g6 < w6.heap.size := (own_block hown g6 rfl).choose_spec.2
  have hgrowF : ∀ g, grow F w w4 g → grow F w w6 g := fun g hg => by
   rcases hg with hg | hg
   ·exact .inl hg
   ·exact .inr ⟨hg.1, Nat.lt_of_lt_of_le hg.2 hFa.size⟩
  have hsz : w.heap.size ≤ w4.heap.size := HF4.out.size
  rw [grow_size (size_set ..)]
  have hP : PagesR w6 (grow F w w6) (.slice (some ⟨g6, 0, none⟩) (np + 1) cap6) (((N.begun i).blk i).add q).pages := by
   show PagesR _ _ _ (((N.begun i).blk i).pages ++ [q])
   rw [hpgs]
   refine PagesR.push (S := fun _ => True) (by rw [hnpl]; exact ho1) hp1 hFa (fun g hg => .inl hg) (by rw [hnpl]; exact hown) (fun g hg => ?_) Hz.out.len ?_
   ·have e : g6 = g := by simpa [Value.ownBlock] using hg
    subst e
    rcases hat with hat | hat
    ·exact .inl (hf1 g6 hat)
    ·exact .inr ⟨by rw [hat]; exact Nat.le_trans hsz (by simp), hg6⟩
   ·refine Hbu.out.keep (fun g hg _ => hFa.block g (own_block Hbu.out.1 g hg).choose_spec.2 (fun e => ?_)) (fun g _ hg => hgrowF g hg)
    obtain ⟨cur, hc, _⟩ := own_block Hbu.out.1 g hg
    obtain ⟨cur', hc', _⟩ := own_block ho1 g e
    rw [hc] at hc'
    injection hc' with hc'
    injection hc' with _ hc'
    revert hc'
    decide
  have hwy : (N.begun i).way = none := by
   have := wf_tick Hwf.out ho
   exact this
  refine ⟨⟨gb, _, wv, (H4.out.push i hib (((N.begun i).blk i).add q) (by rw [hpe]; rfl) (by rw [hpe]; exact hFa) (fun g hg => .inl hg) (fun g hg => by rcases hg with hg | hg; exact Nat.lt_of_lt_of_le (H4.out.low g hg) hFa.size; exact hg.2) hP (fun g hg => ?_) hwy (wf_push H4.out.wf i _ hib hwy ?_ rfl))⟩, ?_⟩
  ·have e : g6 = g := by simpa [Value.ownBlock] using hg
   subst e
   rw [hpe]
   rcases hat with hat | hat
   ·exact .inl hat
   ·exact .inr (by rw [hat]; simp)
  ·show (((N.begun i).blk i).pages ++ [q]).length ≤ N.pages
   rw [hpgs, List.length_append]
   have := Hpl.out
   simp
   omega
  ·exact (HF4.out.trans (hFa.mono (fun g _ hg => (show F g from hf1 g hg))) (fun g _ hg => hg)).set gb _ _ (.inl Hing.out))
 replace Hp1 := hid hp1
 have hinb := hid hrowlt
 clear ho1 hf1 hp1 hrowlt Hu4 Hbu
 go_upto_region 20 with (fail)
 refine wp_region_held_drew (S := (fun w' => w'.cell? ⟨g1, 0, none⟩ = some (.pointer (some ⟨gb, i * 6, none⟩)) ∧ w'.cell? ⟨g3, 0, none⟩ = some (.slice Au 96 cu))) (by kernel_rfl) ?hSnewOz (fun hHeld => ?restOz)
 case hSnewOz => ((try dsimp only); exact HS.out _ hd0)
 refine wpAnyH_take (i := 0) (oi := ?oiOt2x0) (v := ?vOt2x0) ?hoOt2x0 ?h1Ot2x0 ?h2Ot2x0 ?h3Ot2x0 ?hqOt2x0 (Or.inl ⟨?h4Ot2x0, ?hyOt2x0⟩) (by assumption) ?restOt2x0
 case hoOt2x0 => (simp only [qa, qb, qc]; rfl)
 case h1Ot2x0 => kernel_rfl
 case h2Ot2x0 => kernel_rfl
 case h3Ot2x0 => kernel_rfl
 case h4Ot2x0 => rfl
 case hqOt2x0 => exact fun _ _ _ h => h
 case hyOt2x0 => (intro w hSw; (try dsimp only at hSw); go_simp <;> with_reducible rfl)
 (try simp only [Act.put, qd, qe, qf])
 refine wpAnyH_take (i := 1) (oi := ?oiOt4x1) (v := ?vOt4x1) ?hoOt4x1 ?h1Ot4x1 ?h2Ot4x1 ?h3Ot4x1 ?hqOt4x1 (Or.inl ⟨?h4Ot4x1, ?hyOt4x1⟩) (by assumption) ?restOt4x1
 case hoOt4x1 => (simp only [qa, qb, qc]; rfl)
 case h1Ot4x1 => kernel_rfl
 case h2Ot4x1 => kernel_rfl
 case h3Ot4x1 => kernel_rfl
 case h4Ot4x1 => rfl
 case hqOt4x1 => exact fun _ _ _ h => h
 case hyOt4x1 => (intro w hSw; (try dsimp only at hSw); go_simp <;> with_reducible rfl)
 (try simp only [Act.put, qd, qe, qf])
 refine wpAnyH_take (i := 2) (oi := ?oiOt6x2) (v := ?vOt6x2) ?hoOt6x2 ?h1Ot6x2 ?h2Ot6x2 ?h3Ot6x2 ?hqOt6x2 (Or.inl ⟨?h4Ot6x2, ?hyOt6x2⟩) (by assumption) ?restOt6x2
 case hoOt6x2 => (simp only [qa, qb, qc]; rfl)
 case h1Ot6x2 => kernel_rfl
 case h2Ot6x2 => kernel_rfl
 case h3Ot6x2 => kernel_rfl
 case h4Ot6x2 => rfl
 case hqOt6x2 => exact fun _ _ _ h => h
 case hyOt6x2 => (intro w hSw; (try dsimp only at hSw); go_simp <;> with_reducible rfl)
 (try simp only [Act.put, qd, qe, qf])
 refine wpAnyH_take (i := 3) (oi := ?oiOt8x3) (v := ?vOt8x3) ?hoOt8x3 ?h1Ot8x3 ?h2Ot8x3 ?h3Ot8x3 ?hqOt8x3 (Or.inl ⟨?h4Ot8x3, ?hyOt8x3⟩) (by assumption) ?restOt8x3
 case hoOt8x3 => (simp only [qa, qb, qc]; rfl)
 case h1Ot8x3 => kernel_rfl
 case h2Ot8x3 => kernel_rfl
 case h3Ot8x3 => kernel_rfl
 case h4Ot8x3 => rfl
 case hqOt8x3 => exact fun _ _ _ h => h
 case hyOt8x3 => (intro w hSw; (try dsimp only at hSw); go_simp <;> with_reducible rfl)
 (try simp only [Act.put, qd, qe, qf])
 refine wpAnyH_take (i := 5) (oi := ?oiOt10x5) (v := ?vOt10x5) ?hoOt10x5 ?h1Ot10x5 ?h2Ot10x5 ?h3Ot10x5 ?hqOt10x5 (Or.inl ⟨?h4Ot10x5, ?hyOt10x5⟩) (by assumption) ?restOt10x5
 case hoOt10x5 => (simp only [qa, qb, qc]; rfl)
 case h1Ot10x5 => kernel_rfl
 case h2Ot10x5 => kernel_rfl
 case h3Ot10x5 => kernel_rfl
 case h4Ot10x5 => rfl
 case hqOt10x5 => exact fun _ _ _ h => h
 case hyOt10x5 => (intro w hSw; (try dsimp only at hSw); go_simp <;> with_reducible rfl)
 (try simp only [Act.put, qd, qe, qf])
 refine wpAnyH_ready (rs := [4, 6]) (by kernel_rfl) (by simp) ?_
 refine (AllReadyH.cons (o := ?oiOf110) ?hoOf110 (fun K hK => ?riOf110) (AllReadyH.cons (o := ?oiOf111) ?hoOf111 (fun K hK => ?riOf111) AllReadyH.nil))
 case hoOf110 => (simp only [qa, qb, qc]; rfl)
 case hoOf111 => (simp only [qa, qb, qc]; rfl)
 case riOf110 =>
  go_simp
  refine hK.out _ _ ?hSnewOg12 (fun hHeld => ?restOg12)
  case hSnewOg12 => ((try dsimp only); exact HS.out _ hd0)
  clear hK K
  (try simp only [Act.put, qd, qe, qf])
  refine wpAnyH_ready (rs := [6]) (by kernel_rfl) (by simp) ?_
  refine AllReadyH.cons (o := ?oiOq13) ?hoOq13 (fun K hK => ?restOq13) ?moreOq13
  case moreOq13 => exact AllReadyH.nil
  case hoOq13 => (simp only [qa, qb, qc]; rfl)
  go_simp
  refine hK.out _ _ ?hSnewOhq13 (fun hHeld => ?restOhq13)
  case hSnewOhq13 => ((try dsimp only); exact HS.out _ hd1)
  clear hK K
  (try simp only [Act.put, qd, qe, qf])
  refine wpAnyH_ready (rs := [7]) (by kernel_rfl) (by simp) ?_
  refine AllReadyH.cons (o := ?oiOq14) ?hoOq14 (fun K hK => ?restOq14) ?moreOq14
  case moreOq14 => exact AllReadyH.nil
  case hoOq14 => (simp only [qa, qb, qc]; rfl)
  refine step_append_page (by rfl) (.tmp 97) (.tmp 99) (by rfl) _ np xs (.slice Au 96 cu) _ (by rfl) (by rfl) ?c11 ?c21 rfl hnp1 ?_
  case c11 => exact (Ho.out.alloc _).drew
  case c21 => exact heap_alloc_new w4 _
  intro g6 cap6 w6 hown hgrow hat
  replace hgrow : (w4.alloc (.cells #[.slice Au 96 cu] 22)).grownBy w6 (Value.slice Ap np cp).ownBlock := grown_from (n := 1) hgrow
  replace hat : (Value.slice Ap np cp).ownBlock = some g6 ∨ g6 = (w4.alloc (.cells #[.slice Au 96 cu] 22)).heap.size := hat
  have hFa : Fr (fun g => (Value.slice Ap np cp).ownBlock = some g) w4 w6 := (Fr.of_below ((Below.refl _ _).alloc (Nat.le_refl _) (.cells #[.slice Au 96 cu] 22))).trans (Fr.of_grown hgrow (fun g hg => hg)) (fun _ _ h => h)
  obtain ⟨hca, hfa⟩ := HC.out _ hFa
  refine hK.out _ _ ?hSnewOhq14 (fun hHeld => ?restOhq14)
  case hSnewOhq14 => ((try dsimp only); exact HS.out _ hFa)
  clear hK K
  (try simp only [Act.put, qd, qe, qf])
  refine wpAnyH_take (i := 8) (oi := ?oiOt16x8) (v := ?vOt16x8) ?hoOt16x8 ?h1Ot16x8 ?h2Ot16x8 ?h3Ot16x8 ?hqOt16x8 (Or.inl ⟨?h4Ot16x8, ?hyOt16x8⟩) (by assumption) ?restOt16x8
  case hoOt16x8 => (simp only [qa, qb, qc]; rfl)
  case h1Ot16x8 => kernel_rfl
  case h2Ot16x8 => kernel_rfl
  case h3Ot16x8 => kernel_rfl
  case h4Ot16x8 => rfl
  case hqOt16x8 => exact fun _ _ _ h => h
  case hyOt16x8 => (intro w hSw; (try dsimp only at hSw); go_simp <;> with_reducible rfl)
  (try simp only [Act.put, qd, qe, qf])
  refine wpAnyH_take (i := 9) (oi := ?oiOt18x9) (v := ?vOt18x9) ?hoOt18x9 ?h1Ot18x9 ?h2Ot18x9 ?h3Ot18x9 ?hqOt18x9 (Or.inl ⟨?h4Ot18x9, ?hyOt18x9⟩) (by assumption) ?restOt18x9
  case hoOt18x9 => (simp only [qa, qb, qc]; rfl)
  case h1Ot18x9 => kernel_rfl
  case h2Ot18x9 => kernel_rfl
  case h3Ot18x9 => kernel_rfl
  case h4Ot18x9 => rfl
  case hqOt18x9 => exact fun _ _ _ h => h
  case hyOt18x9 => (intro w hSw; (try dsimp only at hSw); go_simp <;> with_reducible rfl)
  (try simp only [Act.put, qd, qe, qf])
  refine wpAnyH_ready (rs := [10]) (by kernel_rfl) (by simp) ?_
  refine AllReadyH.cons (o := ?oiOq19) ?hoOq19 (fun K hK => ?restOq19) ?moreOq19
  case moreOq19 => exact AllReadyH.nil
  case hoOq19 => (simp only [qa, qb, qc]; rfl)
  go_simp
  refine hK.out _ _ ?hSnewOhq19 (fun hHeld => ?restOhq19)
  case hSnewOhq19 => ((try dsimp only); exact HS2.out _ _ hFa)
  clear hK K
  (try simp only [Act.put, qd, qe, qf])
  refine wpAnyH_done (by kernel_rfl) ?_ _
  have HW := HQ.out _ _ _ hown hgrow hat
  clear hown hgrow hat hfa
  rw [show (World.setCell w6 ⟨gb, i * 6, none⟩ (.slice (some ⟨g6, 0, none⟩) (np + 1) cap6)) = w6.setCell ⟨gb, i * 6, none⟩ (.slice (some ⟨g6, 0, none⟩) (np + 1) cap6) from rfl]
  generalize w6.setCell ⟨gb, i * 6, none⟩ (.slice (some ⟨g6, 0, none⟩) (np + 1) cap6) = w7 at *
  go_wp2
  go_ret
  exact ⟨rfl, HW.1, HW.2⟩
 case riOf111 =>
  go_simp
  refine hK.out _ _ ?hSnewOg20 (fun hHeld => ?restOg20)
  case hSnewOg20 => ((try dsimp only); exact HS.out _ hd1)
  clear hK K
  (try simp only [Act.put, qd, qe, qf])
  refine wpAnyH_ready (rs := [4]) (by kernel_rfl) (by simp) ?_
  refine AllReadyH.cons (o := ?oiOq21) ?hoOq21 (fun K hK => ?restOq21) ?moreOq21
  case moreOq21 => exact AllReadyH.nil
  case hoOq21 => (simp only [qa, qb, qc]; rfl)
  go_simp
  refine hK.out _ _ ?hSnewOhq21 (fun hHeld => ?restOhq21)
  case hSnewOhq21 => ((try dsimp only); exact HS.out _ hd1)
  clear hK K
  (try simp only [Act.put, qd, qe, qf])
  refine wpAnyH_ready (rs := [7]) (by kernel_rfl) (by simp) ?_
  refine AllReadyH.cons (o := ?oiOq22) ?hoOq22 (fun K hK => ?restOq22) ?moreOq22
  case moreOq22 => exact AllReadyH.nil
  case hoOq22 => (simp only [qa, qb, qc]; rfl)
  refine step_append_page (by rfl) (.tmp 97) (.tmp 99) (by rfl) _ np xs (.slice Au 96 cu) _ (by rfl) (by rfl) ?c12 ?c22 rfl hnp1 ?_
  case c12 => exact (Ho.out.alloc _).drew
  case c22 => exact heap_alloc_new w4 _
  intro g6 cap6 w6 hown hgrow hat
  replace hgrow : (w4.alloc (.cells #[.slice Au 96 cu] 22)).grownBy w6 (Value.slice Ap np cp).ownBlock := grown_from (n := 1) hgrow
  replace hat : (Value.slice Ap np cp).ownBlock = some g6 ∨ g6 = (w4.alloc (.cells #[.slice Au 96 cu] 22)).heap.size := hat
  have hFa : Fr (fun g => (Value.slice Ap np cp).ownBlock = some g) w4 w6 := (Fr.of_below ((Below.refl _ _).alloc (Nat.le_refl _) (.cells #[.slice Au 96 cu] 22))).trans (Fr.of_grown hgrow (fun g hg => hg)) (fun _ _ h => h)
  obtain ⟨hca, hfa⟩ := HC.out _ hFa
  refine hK.out _ _ ?hSnewOhq22 (fun hHeld => ?restOhq22)
  case hSnewOhq22 => ((try dsimp only); exact HS.out _ hFa)
  clear hK K
  (try simp only [Act.put, qd, qe, qf])
  refine wpAnyH_take (i := 8) (oi := ?oiOt24x8) (v := ?vOt24x8) ?hoOt24x8 ?h1Ot24x8 ?h2Ot24x8 ?h3Ot24x8 ?hqOt24x8 (Or.inl ⟨?h4Ot24x8, ?hyOt24x8⟩) (by assumption) ?restOt24x8
  case hoOt24x8 => (simp only [qa, qb, qc]; rfl)
  case h1Ot24x8 => kernel_rfl
  case h2Ot24x8 => kernel_rfl
  case h3Ot24x8 => kernel_rfl
  case h4Ot24x8 => rfl
  case hqOt24x8 => exact fun _ _ _ h => h
  case hyOt24x8 => (intro w hSw; (try dsimp only at hSw); go_simp <;> with_reducible rfl)
  (try simp only [Act.put, qd, qe, qf])
  refine wpAnyH_take (i := 9) (oi := ?oiOt26x9) (v := ?vOt26x9) ?hoOt26x9 ?h1Ot26x9 ?h2Ot26x9 ?h3Ot26x9 ?hqOt26x9 (Or.inl ⟨?h4Ot26x9, ?hyOt26x9⟩) (by assumption) ?restOt26x9
  case hoOt26x9 => (simp only [qa, qb, qc]; rfl)
  case h1Ot26x9 => kernel_rfl
  case h2Ot26x9 => kernel_rfl
  case h3Ot26x9 => kernel_rfl
  case h4Ot26x9 => rfl
  case hqOt26x9 => exact fun _ _ _ h => h
  case hyOt26x9 => (intro w hSw; (try dsimp only at hSw); go_simp <;> with_reducible rfl)
  (try simp only [Act.put, qd, qe, qf])
  refine wpAnyH_ready (rs := [10]) (by kernel_rfl) (by simp) ?_
  refine AllReadyH.cons (o := ?oiOq27) ?hoOq27 (fun K hK => ?restOq27) ?moreOq27
  case moreOq27 => exact AllReadyH.nil
  case hoOq27 => (simp only [qa, qb, qc]; rfl)
  go_simp
  refine hK.out _ _ ?hSnewOhq27 (fun hHeld => ?restOhq27)
  case hSnewOhq27 => ((try dsimp only); exact HS2.out _ _ hFa)
  clear hK K
  (try simp only [Act.put, qd, qe, qf])
  refine wpAnyH_done (by kernel_rfl) ?_ _
  have HW := HQ.out _ _ _ hown hgrow hat
  clear hown hgrow hat hfa
  rw [show (World.setCell w6 ⟨gb, i * 6, none⟩ (.slice (some ⟨g6, 0, none⟩) (np + 1) cap6)) = w6.setCell ⟨gb, i * 6, none⟩ (.slice (some ⟨g6, 0, none⟩) (np + 1) cap6) from rfl]
  generalize w6.setCell ⟨gb, i * 6, none⟩ (.slice (some ⟨g6, 0, none⟩) (np + 1) cap6) = w7 at *
  go_wp2
  go_ret
  exact ⟨rfl, HW.1, HW.2⟩
set_option maxRecDepth 100000 in
set_option maxHeartbeats 8000000 in
theorem prog_dead (F : Nat → Prop) (b gb : Nat) (pv : Nat → Value) (wv : Value) (N : NA) (i p : Nat) (A : Option Addr) (c : Nat) (q : List Int) (ep : Int) (w : World) (h : AR w F b gb pv wv N) (hz : Nums w .u8 A 96 q)
  (he : N.atE i = 0 ∧ (p = (N.blk i).pages.length ∧ p < N.pages) ∧ (N.blk i).half = false ∧ N.fence ≤ ep) (hoff : (N.begun i).off = false) (hdd : ((N.begun i).blk i).dead = true) :
  Calls Try.prog 79 #[.pointer (some ⟨b, 0, none⟩), .int .i64 (i : Int), .int .i64 (p : Int), .slice A 96 c, .int .u64 ep] w fun e w' => e = .returned (.int .i64 8) ∧ Arr w' (grow F w w') b ((N.begun i).setB i { ((N.begun i).blk i).add (tornL q 0) with failed := true }) ∧ Fr F w w' := by
 obtain ⟨hi0, hi1, ho⟩ := atE_zero (N := N) (i := (i : Int)) he.1
 have hi : i < N.bs.length := by omega
 have hat := at_ok F b gb pv wv N i w h hi ho
 have Hwf := hid h.wf
 have hnp := h.wf.np
 have hlen := h.wf.len i hi
 have hnb := h.wf.nb
 have Hpl := hid he.2.1
 have HB := hid ((Below.refl w.heap.size w).alloc (Nat.le_refl _) (.cells #[.pointer (some ⟨gb, i * 6, none⟩)] 96))
 have H0 := hid h
 have Hhh := hid he.2.2.1
 have Hff := hid he.2.2.2
 have Hinb := hid h.inb
 have Hing := hid h.ing
 have Hlow := hid h.low
 have Hz := hid hz
 clear hi0 hi1 h hz he
 go_enter Try.func79, Try.ntmps79
 go_wp2_with fail
 refine hat.mono ?_
 rintro e w ⟨rfl, rfl⟩
 clear hat
 go_upto_region 2 with (fail)
 obtain ⟨w1, hw1⟩ : ∃ W, W = w.alloc (.cells #[.pointer (some ⟨gb, i * 6, none⟩)] 96) := ⟨_, rfl⟩
 have hb1 : Blk w1 w.heap.size #[.pointer (some ⟨gb, i * 6, none⟩)] 96 := by rw [hw1]; exact Blk.new _ _ _
 rw [← hw1] at HB ⊢
 clear hw1
 obtain ⟨g1, hg1⟩ : ∃ g, w.heap.size = g := ⟨_, rfl⟩
 rw [hg1] at hb1 ⊢
 have Hg1 := hid hg1
 have H1 := hid (H0.out.later HB.out)
 have Hz1 := hid (Hz.out.below HB.out)
 have Hb1 := hid hb1
 clear hg1 H0
 obtain ⟨c0, c1, c2, -, -, -, -, -⟩ := H1.out.cells
 obtain ⟨⟨A', c', -, d0⟩, d1, d2, -, -, -⟩ := H1.out.recs i hi
 have k0 : w1.cell? ⟨g1, 0, none⟩ = some (.pointer (some ⟨gb, i * 6, none⟩)) := hb1.cell 0
 have hl96 : ((96 : Int) != 96) = false := by decide
 have hp1' : ¬ (N.pages : Int) ≤ (p : Int) := by have := Hpl.out; omega
 have hpl : ((p : Int) != ((N.blk i).pages.length : Int)) = false := by rw [bne_eq_false_iff_eq]; have := Hpl.out; omega
 rw [Hhh.out] at d2
 have hfd : decide (ep < N.fence) = false := decide_eq_false (Int.not_lt.2 Hff.out)
 have hff := Int.not_lt.2 Hff.out
 clear hb1
 go_upto_region 12 with (fail)
 clear hfd hff hpl hp1' hl96 c0 c1 c2 d0 d1 d2 k0
 go_wp2_with fail
 refine (clone_own A 96 c q w1 Hz1.out (by decide) (by decide)).mono ?_
 rintro e w2 ⟨Au, cu, rfl, hu2, hB2⟩
 go_upto_region 13 with (fail)
 obtain ⟨w3, hw3⟩ : ∃ W, W = w2.alloc (.cells #[.slice Au 96 cu] 22) := ⟨_, rfl⟩
 have hb3 : Blk w3 w2.heap.size #[.slice Au 96 cu] 22 := by rw [hw3]; exact Blk.new _ _ _
 have hB3 : Below w1.heap.size w1 w3 := by rw [hw3]; exact hB2.alloc hB2.size _
 have hu3 : w3.ownsRow w1.heap.size 5 1 (.slice Au 96 cu) 96 (q.map (Value.int .u8)) := by rw [hw3]; exact hu2.alloc _
 rw [← hw3]
 clear hw3 hu2
 obtain ⟨g3, hg3⟩ : ∃ g, w2.heap.size = g := ⟨_, rfl⟩
 rw [hg3] at hb3 ⊢
 have Hg3 := hid (show w1.heap.size ≤ g3 from by rw [← hg3]; exact hB2.size)
 have H3 := hid (H1.out.later hB3)
 have Hu3 := hid hu3
 have Hb3 := hid hb3
 have Hb13 := hid (Hb1.out.later hB3)
 have HB3 := hid (HB.out.trans (hB3.mono HB.out.size))
 have HB13 := hid hB3
 clear hg3 hb3 hu3 hB3 hB2 H1 Hb1 Hz1
 have k1 : w3.cell? ⟨g1, 0, none⟩ = some (.pointer (some ⟨gb, i * 6, none⟩)) := Hb13.out.cell 0
 have hbeg := begin_any F b gb pv wv N i w3 H3.out hi ho
 go_wp2_with fail
 refine hbeg.mono ?_
 rintro e w4 ⟨rfl, h4, hF4⟩
 clear hbeg k1
 have Hne := hid h4.ne
 have Hb14 := hid (show Blk w4 g1 #[.pointer (some ⟨gb, i * 6, none⟩)] 96 from (hF4.block g1 Hb13.out.lt (fun e => blk_ne2 H3.out Hb13.out (by decide) (by decide) e)).trans Hb13.out)
 have Hb34 := hid (show Blk w4 g3 #[.slice Au 96 cu] 22 from (hF4.block g3 Hb3.out.lt (fun e => blk_ne2 H3.out Hb3.out (by decide) (by decide) e)).trans Hb3.out)
 have Hu4 := hid (own_keep Hu3.out (fun g hg => hF4.block g (own_block Hu3.out g hg).choose_spec.2 (fun e => by
  obtain ⟨cur, hcur, _⟩ := own_block Hu3.out g hg
  exact blk_ne2 H3.out (show Blk w3 g cur 5 from hcur) (by decide) (by decide) e)))
 have HF4 := hid (show Fr F w w4 from (Fr.of_below HB3.out).trans (hF4.mono (fun g _ hg => (show F g from by rcases hg with rfl | rfl; exact Hinb.out; exact Hing.out))) (fun g _ hg => hg))
 have H4 := hid h4
 have Hs4 := hid (show g1 < w4.heap.size ∧ g3 < w4.heap.size from ⟨Hb14.out.lt, Hb34.out.lt⟩)
 have Hsz := hid (show w.heap.size ≤ w1.heap.size from HB.out.size)
 clear hF4 H3 Hb13 Hb3 Hu3 h4
 have Hoff := hid hoff
 have Hdd := hid hdd
 rw [hoff, hdd]
 clear hoff hdd
 obtain ⟨⟨Ap, cp, hpe, hcp⟩, -, -, -, hcf, -⟩ := H4.out.recs i (by rw [len_begun]; exact hi)
 have hpgs : ((N.begun i).blk i).pages = (N.blk i).pages := by rw [blk_begun i i hi, if_pos rfl]; rfl
 rw [hpgs] at hpe hcp
 obtain ⟨xs, ho1, hf1, hp1⟩ := H4.out.pgs i (by rw [len_begun]; exact hi)
 rw [hpgs] at ho1 hp1
 obtain ⟨np, hnpl⟩ : ∃ n, (N.blk i).pages.length = n := ⟨_, rfl⟩
 rw [hnpl] at hpe hcp ho1
 have hnp1 : np ≤ 1000 := by omega
 rw [hpe] at ho1 hf1
 have Ho := hid ho1
 have Hz4 := hid ((own_reads (k := .u8) Hu4.out Hz.out.wf))
 have hrowlt : ∀ g, (Value.slice Ap np cp).ownBlock = some g → g < w4.heap.size ∧ g ≠ g1 ∧ g ≠ g3 ∧ g ≠ gb := by
  intro g hg
  obtain ⟨cur, hc, hlt⟩ := own_block ho1 g hg
  have hFg := Hlow.out g (hf1 g hg)
  have e1 := Hg1.out
  have e3 := Hg3.out
  have es := Hsz.out
  refine ⟨hlt, by omega, by omega, fun e => ?_⟩
  subst e
  exact blk_ne2 H4.out (show Blk w4 g cur 22 from hc) (by decide) (by decide) (.inr rfl)
 have HC := hid (fun (W : World) (hW : Fr (fun g => (Value.slice Ap np cp).ownBlock = some g) w4 W) => (by
  have hg := hW.block gb (H4.out.low gb Hing.out) (fun e => (hrowlt gb e).2.2.2 rfl)
  have hr := H4.out.row.keep hg
  refine ⟨?_, hr.free _, ?_, hr.free _⟩
  ·simp only [World.cell?, hg]
   exact hcp
  ·simp only [World.cell?, hg]
   exact hcf : W.cell? ⟨gb, i * 6, none⟩ = some (.slice Ap np cp) ∧ W.frozen? ⟨gb, i * 6, none⟩ = false ∧ W.cell? ⟨gb, i * 6 + 4, none⟩ = some (.bool ((N.begun i).blk i).failed) ∧ W.frozen? ⟨gb, i * 6 + 4, none⟩ = false))
 have HS := hid (fun (W : World) (hW : Fr (fun g => (Value.slice Ap np cp).ownBlock = some g) w4 W) => (by
  have h1 : Blk W g1 _ _ := (hW.block g1 Hs4.out.1 (fun e => (hrowlt g1 e).2.1 rfl)).trans Hb14.out
  have h3 : Blk W g3 _ _ := (hW.block g3 Hs4.out.2 (fun e => (hrowlt g3 e).2.2.1 rfl)).trans Hb34.out
  exact ⟨h1.cell 0, h3.cell 0⟩ : W.cell? ⟨g1, 0, none⟩ = some (.pointer (some ⟨gb, i * 6, none⟩)) ∧ W.cell? ⟨g3, 0, none⟩ = some (.slice Au 96 cu)))
 have hgne := (fun e => blk_ne2 H4.out Hb14.out (by decide) (by decide) (.inr e) : g1 ≠ gb)
 have hgne3 := (fun e => blk_ne2 H4.out Hb34.out (by decide) (by decide) (.inr e) : g3 ≠ gb)
 have HS2 := hid (fun (W : World) (v : Value) (o : Nat) (hW : W.cell? ⟨g1, 0, none⟩ = some (.pointer (some ⟨gb, i * 6, none⟩)) ∧ W.cell? ⟨g3, 0, none⟩ = some (.slice Au 96 cu)) => (by
  obtain ⟨h1, h3⟩ := hW
  have e1 := Below.heap_setCell W ⟨gb, o, none⟩ v g1 hgne
  have e3 := Below.heap_setCell W ⟨gb, o, none⟩ v g3 hgne3
  simp only [World.cell?] at h1 h3 ⊢
  rw [e1, e3]
  exact ⟨h1, h3⟩ : (W.setCell ⟨gb, o, none⟩ v).cell? ⟨g1, 0, none⟩ = some (.pointer (some ⟨gb, i * 6, none⟩)) ∧ (W.setCell ⟨gb, o, none⟩ v).cell? ⟨g3, 0, none⟩ = some (.slice Au 96 cu)))
 have hd0 : Fr (fun g => (Value.slice Ap np cp).ownBlock = some g) w4 w4.drew := ⟨rfl, rfl, rfl, Nat.le_refl _, fun _ _ _ => rfl⟩
 have HQ := hid (show ∀ (At : Option Addr) (ct : Nat) (W1 : World), Below w4.heap.size w4 W1 → W1.ownsRow w4.heap.size 5 1 (.slice At 96 ct) 96 ((tornL q 0).map (Value.int .u8)) → ∀ (g6 cap6 : Nat) (w6 : World), w6.ownsRow 0 22 1 (.slice (some ⟨g6, 0, none⟩) (np + 1) cap6) (np + 1) (xs ++ [.slice At 96 ct]) → (W1.alloc (.cells #[.slice At 96 ct] 22)).grownBy w6 (Value.slice Ap np cp).ownBlock → ((Value.slice Ap np cp).ownBlock = some g6 ∨ g6 = (W1.alloc (.cells #[.slice At 96 ct] 22)).heap.size) →
   Arr ((w6.setCell ⟨gb, i * 6, none⟩ (.slice (some ⟨g6, 0, none⟩) (np + 1) cap6)).setCell ⟨gb, i * 6 + 4, none⟩ (.bool true)) (grow F w ((w6.setCell ⟨gb, i * 6, none⟩ (.slice (some ⟨g6, 0, none⟩) (np + 1) cap6)).setCell ⟨gb, i * 6 + 4, none⟩ (.bool true))) b ((N.begun i).setB i { ((N.begun i).blk i).add (tornL q 0) with failed := true }) ∧ Fr F w ((w6.setCell ⟨gb, i * 6, none⟩ (.slice (some ⟨g6, 0, none⟩) (np + 1) cap6)).setCell ⟨gb, i * 6 + 4, none⟩ (.bool true)) from by
  intro At ct W1 hB1 hoT g6 cap6 w6 hown hgr hat
  have hFa : Fr (fun g => (Value.slice Ap np cp).ownBlock = some g) w4 w6 := (Fr.of_below (hB1.alloc hB1.size (.cells #[.slice At 96 ct] 22))).trans (Fr.of_grown hgr (fun g hg => hg)) (fun _ _ h => h)
  have hib : i < (N.begun i).bs.length := by rw [len_begun]; exact hi
  have hg6 : g6 < w6.heap.size := (own_block hown g6 rfl).choose_spec.2
  have hsz : w.heap.size ≤ w4.heap.size := HF4.out.size
  have hs1 := hB1.size
  rw [grow_size (size_set ..), grow_size (size_set ..)]
  have htl : (tornL q 0).length = 96 := by rw [tornL_len]; exact Hz.out.len
  have hP : PagesR w6 (grow F w w6) (.slice (some ⟨g6, 0, none⟩) (np + 1) cap6) (((N.begun i).blk i).add (tornL q 0)).pages := by
   show PagesR _ _ _ (((N.begun i).blk i).pages ++ [tornL q 0])
   rw [hpgs]
   refine PagesR.push (S := fun _ => True) (by rw [hnpl]; exact ho1) hp1 hFa (fun g hg => .inl hg) (by rw [hnpl]; exact hown) (fun g hg => ?_) htl ?_
   ·have e : g6 = g := by simpa [Value.ownBlock] using hg
    subst e
    rcases hat with hat | hat
    ·exact .inl (hf1 g6 hat)
    ·exact .inr ⟨by rw [hat]; exact Nat.le_trans hsz (Nat.le_trans hs1 (by simp)), hg6⟩
   ·have hbt := byteR_new (F := F) (w := w) hoT htl (tornL_wf q 0 Hz.out.wf) hsz
    refine hbt.keep (fun g hg _ => ?_) (fun g hg hFg => ?_)
    ·obtain ⟨cur, hc, hlt⟩ := own_block hbt.1 g hg
     have hge := own_low hoT g hg
     refine (hgr.block g (by simp; omega) (fun e => ?_)).trans (heap_alloc_old W1 _ hlt)
     have := (own_block ho1 g e.symm).choose_spec.2
     omega
    ·rcases hFg with hFg | hFg
     ·exact .inl hFg
     ·refine .inr ⟨hFg.1, Nat.lt_of_lt_of_le hFg.2 (Nat.le_trans ?_ hgr.size)⟩
      simp
  have hwy : (N.begun i).way = none := by
   have := wf_tick Hwf.out ho
   exact this
  have hAR := H4.out.push i hib (((N.begun i).blk i).add (tornL q 0)) (by rw [hpe]; rfl) (by rw [hpe]; exact hFa) (fun g hg => .inl hg) (fun g hg => by rcases hg with hg | hg; exact Nat.lt_of_lt_of_le (H4.out.low g hg) hFa.size; exact hg.2) hP (fun g hg => by
   have e : g6 = g := by simpa [Value.ownBlock] using hg
   subst e
   rw [hpe]
   rcases hat with hat | hat
   ·exact .inl hat
   ·exact .inr (by rw [hat]; exact Nat.le_trans hs1 (by simp))) hwy (wf_push H4.out.wf i _ hib hwy (by
   show (((N.begun i).blk i).pages ++ [tornL q 0]).length ≤ N.pages
   rw [hpgs, List.length_append]
   have := Hpl.out
   simp
   omega) rfl)
  have hib2 : i < ((N.begun i).setB i (((N.begun i).blk i).add (tornL q 0))).bs.length := by rw [len_set]; exact hib
  have hAR2 := hAR.setRec i 4 (.bool true) { ((N.begun i).blk i).add (tornL q 0) with failed := true } hib2 (by decide) (by rw [blk_set _ _ _ hib, if_pos rfl]; rfl) (by rw [blk_set _ _ _ hib, if_pos rfl]) (by
   rw [setB_setB]
   refine wf_push H4.out.wf i _ hib hwy ?_ rfl
   show (((N.begun i).blk i).pages ++ [tornL q 0]).length ≤ N.pages
   rw [hpgs, List.length_append]
   have := Hpl.out
   simp
   omega)
  rw [setB_setB] at hAR2
  exact ⟨⟨gb, _, wv, hAR2⟩, ((HF4.out.trans (hFa.mono (fun g _ hg => (show F g from hf1 g hg))) (fun g _ hg => hg)).set gb _ _ (.inl Hing.out)).set gb _ _ (.inl Hing.out)⟩)
 have HC1 := hid (fun (W : World) (hW : Below w4.heap.size w4 W) => (HC.out W (Fr.of_below hW)).1)
 have hB40 : Below w4.heap.size w4 w4.drew := below_drewN (Below.refl _ _) 1
 replace Hp1 := hid hp1
 replace Hrow := hid hrowlt
 clear ho1 hf1 hp1 hrowlt Hu4
 go_upto_region 18 with (fail)
 refine wp_region_held_drew (S := (fun w' => w'.cell? ⟨g1, 0, none⟩ = some (.pointer (some ⟨gb, i * 6, none⟩)) ∧ w'.cell? ⟨g3, 0, none⟩ = some (.slice Au 96 cu))) (by kernel_rfl) ?hSnewDz (fun hHeld => ?restDz)
 case hSnewDz => ((try dsimp only); exact HS.out _ hd0)
 refine wpAnyH_take (i := 0) (oi := ?oiDt29x0) (v := ?vDt29x0) ?hoDt29x0 ?h1Dt29x0 ?h2Dt29x0 ?h3Dt29x0 ?hqDt29x0 (Or.inl ⟨?h4Dt29x0, ?hyDt29x0⟩) (by assumption) ?restDt29x0
 case hoDt29x0 => (simp only [qa, qb, qc]; rfl)
 case h1Dt29x0 => kernel_rfl
 case h2Dt29x0 => kernel_rfl
 case h3Dt29x0 => kernel_rfl
 case h4Dt29x0 => rfl
 case hqDt29x0 => exact fun _ _ _ h => h
 case hyDt29x0 => (intro w hSw; (try dsimp only at hSw); go_simp <;> with_reducible rfl)
 (try simp only [Act.put, qd, qe, qf])
 refine wpAnyH_take (i := 1) (oi := ?oiDt31x1) (v := ?vDt31x1) ?hoDt31x1 ?h1Dt31x1 ?h2Dt31x1 ?h3Dt31x1 ?hqDt31x1 (Or.inl ⟨?h4Dt31x1, ?hyDt31x1⟩) (by assumption) ?restDt31x1
 case hoDt31x1 => (simp only [qa, qb, qc]; rfl)
 case h1Dt31x1 => kernel_rfl
 case h2Dt31x1 => kernel_rfl
 case h3Dt31x1 => kernel_rfl
 case h4Dt31x1 => rfl
 case hqDt31x1 => exact fun _ _ _ h => h
 case hyDt31x1 => (intro w hSw; (try dsimp only at hSw); go_simp <;> with_reducible rfl)
 (try simp only [Act.put, qd, qe, qf])
 refine wpAnyH_take (i := 2) (oi := ?oiDt33x2) (v := ?vDt33x2) ?hoDt33x2 ?h1Dt33x2 ?h2Dt33x2 ?h3Dt33x2 ?hqDt33x2 (Or.inl ⟨?h4Dt33x2, ?hyDt33x2⟩) (by assumption) ?restDt33x2
 case hoDt33x2 => (simp only [qa, qb, qc]; rfl)
 case h1Dt33x2 => kernel_rfl
 case h2Dt33x2 => kernel_rfl
 case h3Dt33x2 => kernel_rfl
 case h4Dt33x2 => rfl
 case hqDt33x2 => exact fun _ _ _ h => h
 case hyDt33x2 => (intro w hSw; (try dsimp only at hSw); go_simp <;> with_reducible rfl)
 (try simp only [Act.put, qd, qe, qf])
 refine wpAnyH_take (i := 3) (oi := ?oiDt35x3) (v := ?vDt35x3) ?hoDt35x3 ?h1Dt35x3 ?h2Dt35x3 ?h3Dt35x3 ?hqDt35x3 (Or.inl ⟨?h4Dt35x3, ?hyDt35x3⟩) (by assumption) ?restDt35x3
 case hoDt35x3 => (simp only [qa, qb, qc]; rfl)
 case h1Dt35x3 => kernel_rfl
 case h2Dt35x3 => kernel_rfl
 case h3Dt35x3 => kernel_rfl
 case h4Dt35x3 => rfl
 case hqDt35x3 => exact fun _ _ _ h => h
 case hyDt35x3 => (intro w hSw; (try dsimp only at hSw); go_simp <;> with_reducible rfl)
 (try simp only [Act.put, qd, qe, qf])
 refine wpAnyH_take (i := 4) (oi := ?oiDt37x4) (v := ?vDt37x4) ?hoDt37x4 ?h1Dt37x4 ?h2Dt37x4 ?h3Dt37x4 ?hqDt37x4 (Or.inl ⟨?h4Dt37x4, ?hyDt37x4⟩) (by assumption) ?restDt37x4
 case hoDt37x4 => (simp only [qa, qb, qc]; rfl)
 case h1Dt37x4 => kernel_rfl
 case h2Dt37x4 => kernel_rfl
 case h3Dt37x4 => kernel_rfl
 case h4Dt37x4 => rfl
 case hqDt37x4 => exact fun _ _ _ h => h
 case hyDt37x4 => (intro w hSw; (try dsimp only at hSw); go_simp <;> with_reducible rfl)
 (try simp only [Act.put, qd, qe, qf])
 refine wpAnyH_take (i := 6) (oi := ?oiDt39x6) (v := ?vDt39x6) ?hoDt39x6 ?h1Dt39x6 ?h2Dt39x6 ?h3Dt39x6 ?hqDt39x6 (Or.inl ⟨?h4Dt39x6, ?hyDt39x6⟩) (by assumption) ?restDt39x6
 case hoDt39x6 => (simp only [qa, qb, qc]; rfl)
 case h1Dt39x6 => kernel_rfl
 case h2Dt39x6 => kernel_rfl
 case h3Dt39x6 => kernel_rfl
 case h4Dt39x6 => rfl
 case hqDt39x6 => exact fun _ _ _ h => h
 case hyDt39x6 => (intro w hSw; (try dsimp only at hSw); go_simp <;> with_reducible rfl)
 (try simp only [Act.put, qd, qe, qf])
 refine wpAnyH_ready (rs := [5, 7]) (by kernel_rfl) (by simp) ?_
 refine (AllReadyH.cons (o := ?oiDf400) ?hoDf400 (fun K hK => ?riDf400) (AllReadyH.cons (o := ?oiDf401) ?hoDf401 (fun K hK => ?riDf401) AllReadyH.nil))
 case hoDf400 => (simp only [qa, qb, qc]; rfl)
 case hoDf401 => (simp only [qa, qb, qc]; rfl)
 case riDf400 =>
  go_simp
  refine hK.out _ _ ?hSnewDg41 (fun hHeld => ?restDg41)
  case hSnewDg41 => ((try dsimp only); exact HS.out _ hd0)
  clear hK K
  (try simp only [Act.put, qd, qe, qf])
  refine wpAnyH_ready (rs := [7]) (by kernel_rfl) (by simp) ?_
  refine AllReadyH.cons (o := ?oiDq42) ?hoDq42 (fun K hK => ?restDq42) ?moreDq42
  case moreDq42 => exact AllReadyH.nil
  case hoDq42 => (simp only [qa, qb, qc]; rfl)
  go_simp
  refine (torn_any Au cu q 0 _ (Hz4.out.2.drewN 1) Hz4.out.1).mono ?_
  rintro e wt ⟨At, ct, rfl, hoT, hBT⟩
  have hBt : Below w4.heap.size w4 wt := hB40.trans hBT
  have hBta := hBt.alloc hBt.size (.cells #[.slice At 96 ct] 22)
  have hct := HC1.out _ hBt
  have hcta := HC1.out _ hBta
  try go_wp2_with fail
  refine hK.out _ _ ?hSnewDhq42 (fun hHeld => ?restDhq42)
  case hSnewDhq42 => ((try dsimp only); exact HS.out _ (Fr.of_below hBt))
  clear hK K
  (try simp only [Act.put, qd, qe, qf])
  refine wpAnyH_ready (rs := [8]) (by kernel_rfl) (by simp) ?_
  refine AllReadyH.cons (o := ?oiDq43) ?hoDq43 (fun K hK => ?restDq43) ?moreDq43
  case moreDq43 => exact AllReadyH.nil
  case hoDq43 => (simp only [qa, qb, qc]; rfl)
  go_simp
  refine hK.out _ _ ?hSnewDhq43 (fun hHeld => ?restDhq43)
  case hSnewDhq43 => ((try dsimp only); exact HS.out _ (Fr.of_below hBta))
  clear hK K
  (try simp only [Act.put, qd, qe, qf])
  refine wpAnyH_ready (rs := [9]) (by kernel_rfl) (by simp) ?_
  refine AllReadyH.cons (o := ?oiDq44) ?hoDq44 (fun K hK => ?restDq44) ?moreDq44
  case moreDq44 => exact AllReadyH.nil
  case hoDq44 => (simp only [qa, qb, qc]; rfl)
  refine step_append_page (by rfl) (.tmp 84) (.tmp 87) (by rfl) _ np xs (.slice At 96 ct) _ (by rfl) (by rfl) ?c1d1 ?c2d1 rfl hnp1 ?_
  case c1d1 => exact own_keep Ho.out (fun g hg => hBta.block g (Hrow.out g hg).1)
  case c2d1 => exact heap_alloc_new wt _
  intro g6 cap6 w6 hown hgrow hat
  replace hgrow : (wt.alloc (.cells #[.slice At 96 ct] 22)).grownBy w6 (Value.slice Ap np cp).ownBlock := hgrow
  replace hat : (Value.slice Ap np cp).ownBlock = some g6 ∨ g6 = (wt.alloc (.cells #[.slice At 96 ct] 22)).heap.size := hat
  have hFa : Fr (fun g => (Value.slice Ap np cp).ownBlock = some g) w4 w6 := (Fr.of_below hBta).trans (Fr.of_grown hgrow (fun g hg => hg)) (fun _ _ h => h)
  obtain ⟨hca, hfa, hcb, hfb⟩ := HC.out _ hFa
  refine hK.out _ _ ?hSnewDhq44 (fun hHeld => ?restDhq44)
  case hSnewDhq44 => ((try dsimp only); exact HS.out _ hFa)
  clear hK K
  (try simp only [Act.put, qd, qe, qf])
  refine wpAnyH_take (i := 10) (oi := ?oiDt46x10) (v := ?vDt46x10) ?hoDt46x10 ?h1Dt46x10 ?h2Dt46x10 ?h3Dt46x10 ?hqDt46x10 (Or.inl ⟨?h4Dt46x10, ?hyDt46x10⟩) (by assumption) ?restDt46x10
  case hoDt46x10 => (simp only [qa, qb, qc]; rfl)
  case h1Dt46x10 => kernel_rfl
  case h2Dt46x10 => kernel_rfl
  case h3Dt46x10 => kernel_rfl
  case h4Dt46x10 => rfl
  case hqDt46x10 => exact fun _ _ _ h => h
  case hyDt46x10 => (intro w hSw; (try dsimp only at hSw); go_simp <;> with_reducible rfl)
  (try simp only [Act.put, qd, qe, qf])
  refine wpAnyH_take (i := 11) (oi := ?oiDt48x11) (v := ?vDt48x11) ?hoDt48x11 ?h1Dt48x11 ?h2Dt48x11 ?h3Dt48x11 ?hqDt48x11 (Or.inl ⟨?h4Dt48x11, ?hyDt48x11⟩) (by assumption) ?restDt48x11
  case hoDt48x11 => (simp only [qa, qb, qc]; rfl)
  case h1Dt48x11 => kernel_rfl
  case h2Dt48x11 => kernel_rfl
  case h3Dt48x11 => kernel_rfl
  case h4Dt48x11 => rfl
  case hqDt48x11 => exact fun _ _ _ h => h
  case hyDt48x11 => (intro w hSw; (try dsimp only at hSw); go_simp <;> with_reducible rfl)
  (try simp only [Act.put, qd, qe, qf])
  refine wpAnyH_ready (rs := [12]) (by kernel_rfl) (by simp) ?_
  refine AllReadyH.cons (o := ?oiDq49) ?hoDq49 (fun K hK => ?restDq49) ?moreDq49
  case moreDq49 => exact AllReadyH.nil
  case hoDq49 => (simp only [qa, qb, qc]; rfl)
  go_simp
  refine hK.out _ _ ?hSnewDhq49 (fun hHeld => ?restDhq49)
  case hSnewDhq49 => ((try dsimp only); exact HS2.out _ _ _ (HS.out _ hFa))
  clear hK K
  (try simp only [Act.put, qd, qe, qf])
  refine wpAnyH_take (i := 13) (oi := ?oiDt51x13) (v := ?vDt51x13) ?hoDt51x13 ?h1Dt51x13 ?h2Dt51x13 ?h3Dt51x13 ?hqDt51x13 (Or.inl ⟨?h4Dt51x13, ?hyDt51x13⟩) (by assumption) ?restDt51x13
  case hoDt51x13 => (simp only [qa, qb, qc]; rfl)
  case h1Dt51x13 => kernel_rfl
  case h2Dt51x13 => kernel_rfl
  case h3Dt51x13 => kernel_rfl
  case h4Dt51x13 => rfl
  case hqDt51x13 => exact fun _ _ _ h => h
  case hyDt51x13 => (intro w hSw; (try dsimp only at hSw); go_simp <;> with_reducible rfl)
  (try simp only [Act.put, qd, qe, qf])
  refine wpAnyH_take (i := 14) (oi := ?oiDt53x14) (v := ?vDt53x14) ?hoDt53x14 ?h1Dt53x14 ?h2Dt53x14 ?h3Dt53x14 ?hqDt53x14 (Or.inl ⟨?h4Dt53x14, ?hyDt53x14⟩) (by assumption) ?restDt53x14
  case hoDt53x14 => (simp only [qa, qb, qc]; rfl)
  case h1Dt53x14 => kernel_rfl
  case h2Dt53x14 => kernel_rfl
  case h3Dt53x14 => kernel_rfl
  case h4Dt53x14 => rfl
  case hqDt53x14 => exact fun _ _ _ h => h
  case hyDt53x14 => (intro w hSw; (try dsimp only at hSw); go_simp <;> with_reducible rfl)
  (try simp only [Act.put, qd, qe, qf])
  refine wpAnyH_ready (rs := [15]) (by kernel_rfl) (by simp) ?_
  refine AllReadyH.cons (o := ?oiDq54) ?hoDq54 (fun K hK => ?restDq54) ?moreDq54
  case moreDq54 => exact AllReadyH.nil
  case hoDq54 => (simp only [qa, qb, qc]; rfl)
  go_simp
  refine hK.out _ _ ?hSnewDhq54 (fun hHeld => ?restDhq54)
  case hSnewDhq54 => ((try dsimp only); exact HS2.out _ _ _ (HS2.out _ _ _ (HS.out _ hFa)))
  clear hK K
  (try simp only [Act.put, qd, qe, qf])
  refine wpAnyH_done (by kernel_rfl) ?_ _
  have HW := HQ.out _ _ _ hBt hoT _ _ _ hown hgrow hat
  clear hown hgrow hat hca hfa hcb hfb
  rw [show ((w6.setCell ⟨gb, i * 6, none⟩ (.slice (some ⟨g6, 0, none⟩) (np + 1) cap6)).setCell ⟨gb, i * 6 + 4, none⟩ (.bool true)) = (w6.setCell ⟨gb, i * 6, none⟩ (.slice (some ⟨g6, 0, none⟩) (np + 1) cap6)).setCell ⟨gb, i * 6 + 4, none⟩ (.bool true) from rfl]
  generalize (w6.setCell ⟨gb, i * 6, none⟩ (.slice (some ⟨g6, 0, none⟩) (np + 1) cap6)).setCell ⟨gb, i * 6 + 4, none⟩ (.bool true) = w7 at *
  go_wp2
  go_ret
  exact ⟨rfl, HW.1, HW.2⟩
 case riDf401 =>
  go_simp
  refine (torn_any Au cu q 0 _ (Hz4.out.2.drewN 1) Hz4.out.1).mono ?_
  rintro e wt ⟨At, ct, rfl, hoT, hBT⟩
  have hBt : Below w4.heap.size w4 wt := hB40.trans hBT
  have hBta := hBt.alloc hBt.size (.cells #[.slice At 96 ct] 22)
  have hct := HC1.out _ hBt
  have hcta := HC1.out _ hBta
  try go_wp2_with fail
  refine hK.out _ _ ?hSnewDg55 (fun hHeld => ?restDg55)
  case hSnewDg55 => ((try dsimp only); exact HS.out _ (Fr.of_below hBt))
  clear hK K
  (try simp only [Act.put, qd, qe, qf])
  refine wpAnyH_ready (rs := [5, 8]) (by kernel_rfl) (by simp) ?_
  refine (AllReadyH.cons (o := ?oiDf560) ?hoDf560 (fun K hK => ?riDf560) (AllReadyH.cons (o := ?oiDf561) ?hoDf561 (fun K hK => ?riDf561) AllReadyH.nil))
  case hoDf560 => (simp only [qa, qb, qc]; rfl)
  case hoDf561 => (simp only [qa, qb, qc]; rfl)
  case riDf560 =>
   go_simp
   refine hK.out _ _ ?hSnewDg57 (fun hHeld => ?restDg57)
   case hSnewDg57 => ((try dsimp only); exact HS.out _ (Fr.of_below hBt))
   clear hK K
   (try simp only [Act.put, qd, qe, qf])
   refine wpAnyH_ready (rs := [8]) (by kernel_rfl) (by simp) ?_
   refine AllReadyH.cons (o := ?oiDq58) ?hoDq58 (fun K hK => ?restDq58) ?moreDq58
   case moreDq58 => exact AllReadyH.nil
   case hoDq58 => (simp only [qa, qb, qc]; rfl)
   go_simp
   refine hK.out _ _ ?hSnewDhq58 (fun hHeld => ?restDhq58)
   case hSnewDhq58 => ((try dsimp only); exact HS.out _ (Fr.of_below hBta))
   clear hK K
   (try simp only [Act.put, qd, qe, qf])
   refine wpAnyH_ready (rs := [9]) (by kernel_rfl) (by simp) ?_
   refine AllReadyH.cons (o := ?oiDq59) ?hoDq59 (fun K hK => ?restDq59) ?moreDq59
   case moreDq59 => exact AllReadyH.nil
   case hoDq59 => (simp only [qa, qb, qc]; rfl)
   refine step_append_page (by rfl) (.tmp 84) (.tmp 87) (by rfl) _ np xs (.slice At 96 ct) _ (by rfl) (by rfl) ?c1d2 ?c2d2 rfl hnp1 ?_
   case c1d2 => exact own_keep Ho.out (fun g hg => hBta.block g (Hrow.out g hg).1)
   case c2d2 => exact heap_alloc_new wt _
   intro g6 cap6 w6 hown hgrow hat
   replace hgrow : (wt.alloc (.cells #[.slice At 96 ct] 22)).grownBy w6 (Value.slice Ap np cp).ownBlock := hgrow
   replace hat : (Value.slice Ap np cp).ownBlock = some g6 ∨ g6 = (wt.alloc (.cells #[.slice At 96 ct] 22)).heap.size := hat
   have hFa : Fr (fun g => (Value.slice Ap np cp).ownBlock = some g) w4 w6 := (Fr.of_below hBta).trans (Fr.of_grown hgrow (fun g hg => hg)) (fun _ _ h => h)
   obtain ⟨hca, hfa, hcb, hfb⟩ := HC.out _ hFa
   refine hK.out _ _ ?hSnewDhq59 (fun hHeld => ?restDhq59)
   case hSnewDhq59 => ((try dsimp only); exact HS.out _ hFa)
   clear hK K
   (try simp only [Act.put, qd, qe, qf])
   refine wpAnyH_take (i := 10) (oi := ?oiDt61x10) (v := ?vDt61x10) ?hoDt61x10 ?h1Dt61x10 ?h2Dt61x10 ?h3Dt61x10 ?hqDt61x10 (Or.inl ⟨?h4Dt61x10, ?hyDt61x10⟩) (by assumption) ?restDt61x10
   case hoDt61x10 => (simp only [qa, qb, qc]; rfl)
   case h1Dt61x10 => kernel_rfl
   case h2Dt61x10 => kernel_rfl
   case h3Dt61x10 => kernel_rfl
   case h4Dt61x10 => rfl
   case hqDt61x10 => exact fun _ _ _ h => h
   case hyDt61x10 => (intro w hSw; (try dsimp only at hSw); go_simp <;> with_reducible rfl)
   (try simp only [Act.put, qd, qe, qf])
   refine wpAnyH_take (i := 11) (oi := ?oiDt63x11) (v := ?vDt63x11) ?hoDt63x11 ?h1Dt63x11 ?h2Dt63x11 ?h3Dt63x11 ?hqDt63x11 (Or.inl ⟨?h4Dt63x11, ?hyDt63x11⟩) (by assumption) ?restDt63x11
   case hoDt63x11 => (simp only [qa, qb, qc]; rfl)
   case h1Dt63x11 => kernel_rfl
   case h2Dt63x11 => kernel_rfl
   case h3Dt63x11 => kernel_rfl
   case h4Dt63x11 => rfl
   case hqDt63x11 => exact fun _ _ _ h => h
   case hyDt63x11 => (intro w hSw; (try dsimp only at hSw); go_simp <;> with_reducible rfl)
   (try simp only [Act.put, qd, qe, qf])
   refine wpAnyH_ready (rs := [12]) (by kernel_rfl) (by simp) ?_
   refine AllReadyH.cons (o := ?oiDq64) ?hoDq64 (fun K hK => ?restDq64) ?moreDq64
   case moreDq64 => exact AllReadyH.nil
   case hoDq64 => (simp only [qa, qb, qc]; rfl)
   go_simp
   refine hK.out _ _ ?hSnewDhq64 (fun hHeld => ?restDhq64)
   case hSnewDhq64 => ((try dsimp only); exact HS2.out _ _ _ (HS.out _ hFa))
   clear hK K
   (try simp only [Act.put, qd, qe, qf])
   refine wpAnyH_take (i := 13) (oi := ?oiDt66x13) (v := ?vDt66x13) ?hoDt66x13 ?h1Dt66x13 ?h2Dt66x13 ?h3Dt66x13 ?hqDt66x13 (Or.inl ⟨?h4Dt66x13, ?hyDt66x13⟩) (by assumption) ?restDt66x13
   case hoDt66x13 => (simp only [qa, qb, qc]; rfl)
   case h1Dt66x13 => kernel_rfl
   case h2Dt66x13 => kernel_rfl
   case h3Dt66x13 => kernel_rfl
   case h4Dt66x13 => rfl
   case hqDt66x13 => exact fun _ _ _ h => h
   case hyDt66x13 => (intro w hSw; (try dsimp only at hSw); go_simp <;> with_reducible rfl)
   (try simp only [Act.put, qd, qe, qf])
   refine wpAnyH_take (i := 14) (oi := ?oiDt68x14) (v := ?vDt68x14) ?hoDt68x14 ?h1Dt68x14 ?h2Dt68x14 ?h3Dt68x14 ?hqDt68x14 (Or.inl ⟨?h4Dt68x14, ?hyDt68x14⟩) (by assumption) ?restDt68x14
   case hoDt68x14 => (simp only [qa, qb, qc]; rfl)
   case h1Dt68x14 => kernel_rfl
   case h2Dt68x14 => kernel_rfl
   case h3Dt68x14 => kernel_rfl
   case h4Dt68x14 => rfl
   case hqDt68x14 => exact fun _ _ _ h => h
   case hyDt68x14 => (intro w hSw; (try dsimp only at hSw); go_simp <;> with_reducible rfl)
   (try simp only [Act.put, qd, qe, qf])
   refine wpAnyH_ready (rs := [15]) (by kernel_rfl) (by simp) ?_
   refine AllReadyH.cons (o := ?oiDq69) ?hoDq69 (fun K hK => ?restDq69) ?moreDq69
   case moreDq69 => exact AllReadyH.nil
   case hoDq69 => (simp only [qa, qb, qc]; rfl)
   go_simp
   refine hK.out _ _ ?hSnewDhq69 (fun hHeld => ?restDhq69)
   case hSnewDhq69 => ((try dsimp only); exact HS2.out _ _ _ (HS2.out _ _ _ (HS.out _ hFa)))
   clear hK K
   (try simp only [Act.put, qd, qe, qf])
   refine wpAnyH_done (by kernel_rfl) ?_ _
   have HW := HQ.out _ _ _ hBt hoT _ _ _ hown hgrow hat
   clear hown hgrow hat hca hfa hcb hfb
   rw [show ((w6.setCell ⟨gb, i * 6, none⟩ (.slice (some ⟨g6, 0, none⟩) (np + 1) cap6)).setCell ⟨gb, i * 6 + 4, none⟩ (.bool true)) = (w6.setCell ⟨gb, i * 6, none⟩ (.slice (some ⟨g6, 0, none⟩) (np + 1) cap6)).setCell ⟨gb, i * 6 + 4, none⟩ (.bool true) from rfl]
   generalize (w6.setCell ⟨gb, i * 6, none⟩ (.slice (some ⟨g6, 0, none⟩) (np + 1) cap6)).setCell ⟨gb, i * 6 + 4, none⟩ (.bool true) = w7 at *
   go_wp2
   go_ret
   exact ⟨rfl, HW.1, HW.2⟩
  case riDf561 =>
   go_simp
   refine hK.out _ _ ?hSnewDg70 (fun hHeld => ?restDg70)
   case hSnewDg70 => ((try dsimp only); exact HS.out _ (Fr.of_below hBta))
   clear hK K
   (try simp only [Act.put, qd, qe, qf])
   refine wpAnyH_ready (rs := [5]) (by kernel_rfl) (by simp) ?_
   refine AllReadyH.cons (o := ?oiDq71) ?hoDq71 (fun K hK => ?restDq71) ?moreDq71
   case moreDq71 => exact AllReadyH.nil
   case hoDq71 => (simp only [qa, qb, qc]; rfl)
   go_simp
   refine hK.out _ _ ?hSnewDhq71 (fun hHeld => ?restDhq71)
   case hSnewDhq71 => ((try dsimp only); exact HS.out _ (Fr.of_below hBta))
   clear hK K
   (try simp only [Act.put, qd, qe, qf])
   refine wpAnyH_ready (rs := [9]) (by kernel_rfl) (by simp) ?_
   refine AllReadyH.cons (o := ?oiDq72) ?hoDq72 (fun K hK => ?restDq72) ?moreDq72
   case moreDq72 => exact AllReadyH.nil
   case hoDq72 => (simp only [qa, qb, qc]; rfl)
   refine step_append_page (by rfl) (.tmp 84) (.tmp 87) (by rfl) _ np xs (.slice At 96 ct) _ (by rfl) (by rfl) ?c1d3 ?c2d3 rfl hnp1 ?_
   case c1d3 => exact own_keep Ho.out (fun g hg => hBta.block g (Hrow.out g hg).1)
   case c2d3 => exact heap_alloc_new wt _
   intro g6 cap6 w6 hown hgrow hat
   replace hgrow : (wt.alloc (.cells #[.slice At 96 ct] 22)).grownBy w6 (Value.slice Ap np cp).ownBlock := hgrow
   replace hat : (Value.slice Ap np cp).ownBlock = some g6 ∨ g6 = (wt.alloc (.cells #[.slice At 96 ct] 22)).heap.size := hat
   have hFa : Fr (fun g => (Value.slice Ap np cp).ownBlock = some g) w4 w6 := (Fr.of_below hBta).trans (Fr.of_grown hgrow (fun g hg => hg)) (fun _ _ h => h)
   obtain ⟨hca, hfa, hcb, hfb⟩ := HC.out _ hFa
   refine hK.out _ _ ?hSnewDhq72 (fun hHeld => ?restDhq72)
   case hSnewDhq72 => ((try dsimp only); exact HS.out _ hFa)
   clear hK K
   (try simp only [Act.put, qd, qe, qf])
   refine wpAnyH_take (i := 10) (oi := ?oiDt74x10) (v := ?vDt74x10) ?hoDt74x10 ?h1Dt74x10 ?h2Dt74x10 ?h3Dt74x10 ?hqDt74x10 (Or.inl ⟨?h4Dt74x10, ?hyDt74x10⟩) (by assumption) ?restDt74x10
   case hoDt74x10 => (simp only [qa, qb, qc]; rfl)
   case h1Dt74x10 => kernel_rfl
   case h2Dt74x10 => kernel_rfl
   case h3Dt74x10 => kernel_rfl
   case h4Dt74x10 => rfl
   case hqDt74x10 => exact fun _ _ _ h => h
   case hyDt74x10 => (intro w hSw; (try dsimp only at hSw); go_simp <;> with_reducible rfl)
   (try simp only [Act.put, qd, qe, qf])
   refine wpAnyH_take (i := 11) (oi := ?oiDt76x11) (v := ?vDt76x11) ?hoDt76x11 ?h1Dt76x11 ?h2Dt76x11 ?h3Dt76x11 ?hqDt76x11 (Or.inl ⟨?h4Dt76x11, ?hyDt76x11⟩) (by assumption) ?restDt76x11
   case hoDt76x11 => (simp only [qa, qb, qc]; rfl)
   case h1Dt76x11 => kernel_rfl
   case h2Dt76x11 => kernel_rfl
   case h3Dt76x11 => kernel_rfl
   case h4Dt76x11 => rfl
   case hqDt76x11 => exact fun _ _ _ h => h
   case hyDt76x11 => (intro w hSw; (try dsimp only at hSw); go_simp <;> with_reducible rfl)
   (try simp only [Act.put, qd, qe, qf])
   refine wpAnyH_ready (rs := [12]) (by kernel_rfl) (by simp) ?_
   refine AllReadyH.cons (o := ?oiDq77) ?hoDq77 (fun K hK => ?restDq77) ?moreDq77
   case moreDq77 => exact AllReadyH.nil
   case hoDq77 => (simp only [qa, qb, qc]; rfl)
   go_simp
   refine hK.out _ _ ?hSnewDhq77 (fun hHeld => ?restDhq77)
   case hSnewDhq77 => ((try dsimp only); exact HS2.out _ _ _ (HS.out _ hFa))
   clear hK K
   (try simp only [Act.put, qd, qe, qf])
   refine wpAnyH_take (i := 13) (oi := ?oiDt79x13) (v := ?vDt79x13) ?hoDt79x13 ?h1Dt79x13 ?h2Dt79x13 ?h3Dt79x13 ?hqDt79x13 (Or.inl ⟨?h4Dt79x13, ?hyDt79x13⟩) (by assumption) ?restDt79x13
   case hoDt79x13 => (simp only [qa, qb, qc]; rfl)
   case h1Dt79x13 => kernel_rfl
   case h2Dt79x13 => kernel_rfl
   case h3Dt79x13 => kernel_rfl
   case h4Dt79x13 => rfl
   case hqDt79x13 => exact fun _ _ _ h => h
   case hyDt79x13 => (intro w hSw; (try dsimp only at hSw); go_simp <;> with_reducible rfl)
   (try simp only [Act.put, qd, qe, qf])
   refine wpAnyH_take (i := 14) (oi := ?oiDt81x14) (v := ?vDt81x14) ?hoDt81x14 ?h1Dt81x14 ?h2Dt81x14 ?h3Dt81x14 ?hqDt81x14 (Or.inl ⟨?h4Dt81x14, ?hyDt81x14⟩) (by assumption) ?restDt81x14
   case hoDt81x14 => (simp only [qa, qb, qc]; rfl)
   case h1Dt81x14 => kernel_rfl
   case h2Dt81x14 => kernel_rfl
   case h3Dt81x14 => kernel_rfl
   case h4Dt81x14 => rfl
   case hqDt81x14 => exact fun _ _ _ h => h
   case hyDt81x14 => (intro w hSw; (try dsimp only at hSw); go_simp <;> with_reducible rfl)
   (try simp only [Act.put, qd, qe, qf])
   refine wpAnyH_ready (rs := [15]) (by kernel_rfl) (by simp) ?_
   refine AllReadyH.cons (o := ?oiDq82) ?hoDq82 (fun K hK => ?restDq82) ?moreDq82
   case moreDq82 => exact AllReadyH.nil
   case hoDq82 => (simp only [qa, qb, qc]; rfl)
   go_simp
   refine hK.out _ _ ?hSnewDhq82 (fun hHeld => ?restDhq82)
   case hSnewDhq82 => ((try dsimp only); exact HS2.out _ _ _ (HS2.out _ _ _ (HS.out _ hFa)))
   clear hK K
   (try simp only [Act.put, qd, qe, qf])
   refine wpAnyH_done (by kernel_rfl) ?_ _
   have HW := HQ.out _ _ _ hBt hoT _ _ _ hown hgrow hat
   clear hown hgrow hat hca hfa hcb hfb
   rw [show ((w6.setCell ⟨gb, i * 6, none⟩ (.slice (some ⟨g6, 0, none⟩) (np + 1) cap6)).setCell ⟨gb, i * 6 + 4, none⟩ (.bool true)) = (w6.setCell ⟨gb, i * 6, none⟩ (.slice (some ⟨g6, 0, none⟩) (np + 1) cap6)).setCell ⟨gb, i * 6 + 4, none⟩ (.bool true) from rfl]
   generalize (w6.setCell ⟨gb, i * 6, none⟩ (.slice (some ⟨g6, 0, none⟩) (np + 1) cap6)).setCell ⟨gb, i * 6 + 4, none⟩ (.bool true) = w7 at *
   go_wp2
   go_ret
   exact ⟨rfl, HW.1, HW.2⟩
end Go.Proofs.Ytpcbpljdiacbmaa.Nand

set_option linter.unusedVariables false
set_option linter.unusedSimpArgs false
namespace Go.Proofs.Ytpcbpljdiacbmaa.Nand
open Go.RowKit Go.Proofs.Ytpcbpljdiacbmaa.Kit

/-- An array in memory, but for what lies in its field way. -/
structure AQ (w : World) (F : Nat → Prop) (b gb : Nat) (pv : Nat → Value) (wv : Value) (N : NA) : Prop where
 hd : Blk w b (hdOf gb N wv) 67
 row : RowB w gb pv N.bs
 pgs : ∀ i, i < N.bs.length → PagesR w F (pv i) (N.blk i).pages
 apart : ∀ i j, i < N.bs.length → j < N.bs.length → i ≠ j → ∀ g, (pv i).ownBlock = some g → (pv j).ownBlock ≠ some g
 inb : F b
 ing : F gb
 low : ∀ g, F g → g < w.heap.size
 wf : N.Wf
theorem AR.toAQ {w : World} {F : Nat → Prop} {b gb : Nat} {pv : Nat → Value} {wv : Value} {N : NA} (h : AR w F b gb pv wv N) : AQ w F b gb pv wv N := ⟨h.hd, h.row, h.pgs, h.apart, h.inb, h.ing, h.low, h.wf⟩
theorem AQ.toAR {w : World} {F : Nat → Prop} {b gb : Nat} {pv : Nat → Value} {wv : Value} {N : NA} (h : AQ w F b gb pv wv N) (hw : WayR w F gb N.way wv) : AR w F b gb pv wv N := ⟨h.hd, h.row, h.pgs, h.apart, hw, h.inb, h.ing, h.low, h.wf⟩
theorem AQ.keep {w w' : World} {F : Nat → Prop} {b gb : Nat} {pv : Nat → Value} {wv : Value} {N : NA} (h : AQ w F b gb pv wv N) (hk : ∀ g, F g → w'.heap[g]? = w.heap[g]?) (hs : w.heap.size ≤ w'.heap.size) : AQ w' F b gb pv wv N :=
 ⟨by have := h.hd; unfold Blk at *; rw [hk b h.inb]; exact this, h.row.keep (hk gb h.ing), fun i hi => (h.pgs i hi).keep (fun g _ _ hg => hk g hg) (fun _ _ hg => hg), h.apart, h.inb, h.ing, fun g hg => Nat.lt_of_lt_of_le (h.low g hg) hs, h.wf⟩
theorem AQ.mono {w : World} {F F' : Nat → Prop} {b gb : Nat} {pv : Nat → Value} {wv : Value} {N : NA} (h : AQ w F b gb pv wv N) (hF : ∀ g, F g → F' g) (hl : ∀ g, F' g → g < w.heap.size) : AQ w F' b gb pv wv N :=
 ⟨h.hd, h.row, fun i hi => (h.pgs i hi).keep (fun _ _ _ _ => rfl) (fun g _ hg => hF g hg), h.apart, hF _ h.inb, hF _ h.ing, hl, h.wf⟩
/-- The way struck from the data. -/
theorem AQ.unway {w : World} {F : Nat → Prop} {b gb : Nat} {pv : Nat → Value} {wv : Value} {N : NA} (h : AQ w F b gb pv wv N) : AQ w F b gb pv wv { N with way := none } :=
 ⟨h.hd, h.row, h.pgs, h.apart, h.inb, h.ing, h.low, ⟨h.wf.nb, h.wf.np, h.wf.len, (fun u hu => nomatch hu), h.wf.armed, h.wf.doom⟩⟩
/-- Only the head and the row of blocks have changed, and no pages. -/
theorem AQ.upd {w w' : World} {F S : Nat → Prop} {b gb : Nat} {pv : Nat → Value} {wv : Value} {N : NA} (h : AQ w F b gb pv wv N) (hf : Fr S w w') (hS : ∀ g, S g → g = b ∨ g = gb) (N' : NA) (wv' : Value) (hb : Blk w' b (hdOf gb N' wv') 67) (hr : RowB w' gb pv N'.bs)
  (hl : N'.bs.length = N.bs.length) (hp : ∀ i, i < N.bs.length → (N'.blk i).pages = (N.blk i).pages) (wf : N'.Wf) : AQ w' F b gb pv wv' N' := by
 have hbt := h.hd
 obtain ⟨cs, hrt⟩ := h.row.block
 refine ⟨hb, hr, fun i hi => ?_, fun i j hi hj => h.apart i j (by omega) (by omega), h.inb, h.ing, fun g hg => Nat.lt_of_lt_of_le (h.low g hg) hf.size, wf⟩
 rw [hp i (by omega)]
 refine (h.pgs i (by omega)).keep (fun g cur ht hg => hf.block g (h.low g hg) (fun hs => ?_)) (fun _ _ hg => hg)
 unfold Blk at hbt
 rcases hS g hs with rfl | rfl
 ·rw [hbt] at ht
  rcases ht with ⟨e, _⟩ | e <;> (injection e with e; injection e with _ e; revert e; decide)
 ·rw [hrt] at ht
  rcases ht with ⟨e, _⟩ | e <;> (injection e with e; injection e with _ e; revert e; decide)
theorem AQ.ne {w : World} {F : Nat → Prop} {b gb : Nat} {pv : Nat → Value} {wv : Value} {N : NA} (h : AQ w F b gb pv wv N) : b ≠ gb := by
 rintro rfl
 obtain ⟨cs, hr⟩ := h.row.block
 have := h.hd
 unfold Blk at this
 rw [this] at hr
 injection hr with hr
 injection hr with _ hr
 revert hr
 decide
/-- A field of the head is stored. -/
theorem AQ.setHd {w : World} {F : Nat → Prop} {b gb : Nat} {pv : Nat → Value} {wv : Value} {N : NA} (h : AQ w F b gb pv wv N) (k : Nat) (v : Value) (N' : NA) (wv' : Value) (he : (hdOf gb N wv).setIfInBounds k v = hdOf gb N' wv') (hbs : N'.bs = N.bs) (wf : N'.Wf) :
  AQ (w.setCell ⟨b, k, none⟩ v) F b gb pv wv' N' := by
 have hf : Fr (fun g => g = b) w (w.setCell ⟨b, k, none⟩ v) := fr_set w b k v rfl
 refine h.upd hf (fun g hg => .inl hg) N' wv' ?_ ?_ (by rw [hbs]) (fun i _ => by unfold NA.blk; rw [hbs]) wf
 ·rw [← he]
  exact h.hd.set k v
 ·rw [hbs]
  exact h.row.keep (Below.heap_setCell w ⟨b, k, none⟩ v gb (fun e => h.ne e.symm))
/-- A field of a block, but its pages, is stored. -/
theorem AQ.setRec {w : World} {F : Nat → Prop} {b gb : Nat} {pv : Nat → Value} {wv : Value} {N : NA} (h : AQ w F b gb pv wv N) (i k : Nat) (v : Value) (x : NB) (hi : i < N.bs.length) (hk : k < 6) (hx : recOf (pv i) x = (recOf (pv i) (N.blk i)).set k v) (hp : x.pages = (N.blk i).pages) (wf : (N.setB i x).Wf) :
  AQ (w.setCell ⟨gb, i * 6 + k, none⟩ v) F b gb pv wv (N.setB i x) := by
 have hf : Fr (fun g => g = gb) w (w.setCell ⟨gb, i * 6 + k, none⟩ v) := fr_set w gb _ v rfl
 refine h.upd hf (fun g hg => .inr hg) _ wv ?_ ?_ (len_set ..) (fun j hj => ?_) wf
 ·have := h.hd.setOther (⟨gb, i * 6 + k, none⟩ : Addr) h.ne v
  unfold hdOf at *
  rw [len_set]
  exact this
 ·exact h.row.set i k hi hk v pv x hx (fun _ _ => rfl)
 ·rw [blk_set i j x hi]
  split
  ·rename_i e
   rw [e, hp]
  ·rfl

theorem AQ.bne {w : World} {F : Nat → Prop} {b gb g : Nat} {pv : Nat → Value} {wv : Value} {N : NA} {cs : Array Value} {T : TypeId} (h : AQ w F b gb pv wv N) (hb : Blk w g cs T) (h1 : T ≠ 67) (h2 : T ≠ 70) : ¬ (g = b ∨ g = gb) := by
 have hh := h.hd
 obtain ⟨cs', hr⟩ := h.row.block
 unfold Blk at hb hh
 rintro (rfl | rfl)
 ·rw [hh] at hb
  injection hb with hb
  injection hb with _ hb
  exact h1 hb.symm
 ·rw [hr] at hb
  injection hb with hb
  injection hb with _ hb
  exact h2 hb.symm
/-- The cells of one block. -/
theorem AQ.recs {w : World} {F : Nat → Prop} {b gb : Nat} {pv : Nat → Value} {wv : Value} {N : NA} (h : AQ w F b gb pv wv N) (i : Nat) (hi : i < N.bs.length) :
  (∃ A c, pv i = .slice A (N.blk i).pages.length c ∧ w.cell? ⟨gb, i * 6, none⟩ = some (.slice A (N.blk i).pages.length c)) ∧ w.cell? ⟨gb, i * 6 + 1, none⟩ = some (.int .i64 (N.blk i).erases) ∧ w.cell? ⟨gb, i * 6 + 2, none⟩ = some (.bool (N.blk i).half) ∧
  w.cell? ⟨gb, i * 6 + 3, none⟩ = some (.bool (N.blk i).dead) ∧ w.cell? ⟨gb, i * 6 + 4, none⟩ = some (.bool (N.blk i).failed) ∧ w.cell? ⟨gb, i * 6 + 5, none⟩ = some (.int .i64 ((N.blk i).doom : Int)) := by
 refine ⟨?_, h.row.cell i hi 1 _ rfl, h.row.cell i hi 2 _ rfl, h.row.cell i hi 3 _ rfl, h.row.cell i hi 4 _ rfl, h.row.cell i hi 5 _ rfl⟩
 obtain ⟨xs, ho, _⟩ := h.pgs i hi
 obtain ⟨A, c, e⟩ := own_slice ho
 refine ⟨A, c, e, ?_⟩
 rw [← e]
 exact h.row.cell i hi 0 _ rfl
theorem AQ.push {w w5 : World} {F F' : Nat → Prop} {b gb : Nat} {pv : Nat → Value} {wv v5 : Value} {M : NA} (h : AQ w F b gb pv wv M) (i : Nat) (hi : i < M.bs.length) (x : NB) (hx : recOf v5 x = (recOf (pv i) (M.blk i)).set 0 v5) (hW : Fr (fun g => (pv i).ownBlock = some g) w w5) (hF : ∀ g, F g → F' g) (hl : ∀ g, F' g → g < w5.heap.size)
  (hP : PagesR w5 F' v5 x.pages) (hat : ∀ g, v5.ownBlock = some g → (pv i).ownBlock = some g ∨ w.heap.size ≤ g) (wf : (M.setB i x).Wf) :
  AQ (w5.setCell ⟨gb, i * 6, none⟩ v5) F' b gb (updV pv i v5) wv (M.setB i x) := by
 obtain ⟨xs, ho, hf, hp⟩ := h.pgs i hi
 have hnb : (pv i).ownBlock ≠ some b := fun e => by
  obtain ⟨cur, hc, _⟩ := own_block ho b e
  exact AQ.bne h (show Blk w b cur 22 from hc) (by decide) (by decide) (.inl rfl)
 have hng : (pv i).ownBlock ≠ some gb := fun e => by
  obtain ⟨cur, hc, _⟩ := own_block ho gb e
  exact AQ.bne h (show Blk w gb cur 22 from hc) (by decide) (by decide) (.inr rfl)
 have hh5 : w5.heap[b]? = w.heap[b]? := hW.block b (h.low b h.inb) hnb
 have hg5 : w5.heap[gb]? = w.heap[gb]? := hW.block gb (h.low gb h.ing) hng
 have hrow5 := h.row.keep hg5
 obtain ⟨cs5, hcs5⟩ := hrow5.block
 have hsame : ∀ g, g ≠ gb → (w5.setCell ⟨gb, i * 6, none⟩ v5).heap[g]? = w5.heap[g]? := fun g hg => Below.heap_setCell w5 ⟨gb, i * 6, none⟩ v5 g hg
 refine ⟨?_, ?_, fun j hj => ?_, fun j k hj hk hjk => ?_, hF _ h.inb, hF _ h.ing, fun g hg => by rw [size_set]; exact hl g hg, wf⟩
 ·have := h.hd
  unfold Blk hdOf at *
  rw [len_set, hsame b h.ne, hh5]
  exact this
 ·exact hrow5.set i 0 hi (by decide) v5 (updV pv i v5) x (by unfold updV; rw [if_pos rfl]; exact hx) (fun j hj => by unfold updV; rw [if_neg hj])
 ·rw [len_set] at hj
  rw [blk_set i j x hi]
  unfold updV
  by_cases e : j = i
  ·rw [if_pos e, if_pos e]
   refine hP.keep (fun g cur ht _ => hsame g (fun e => ?_)) (fun _ _ hg => hg)
   subst e
   rw [hcs5] at ht
   rcases ht with ⟨e, _⟩ | e <;> (injection e with e; injection e with _ e; revert e; decide)
  ·rw [if_neg e, if_neg e]
   refine (h.pgs j hj).keep (fun g cur ht hg => ?_) (fun g _ hg => hF g hg)
   have hlt := h.low g hg
   have hgg : g ≠ gb := by
    rintro rfl
    obtain ⟨cs, hcs⟩ := h.row.block
    rw [hcs] at ht
    rcases ht with ⟨e, _⟩ | e <;> (injection e with e; injection e with _ e; revert e; decide)
   rw [hsame g hgg]
   refine hW.block g hlt (fun hv => ?_)
   rcases ht with ⟨_, hv2⟩ | ht
   ·exact h.apart i j hi hj (fun x => e x.symm) g hv hv2
   ·obtain ⟨cur', hc', _⟩ := own_block ho g hv
    rw [ht] at hc'
    injection hc' with hc'
    injection hc' with _ hc'
    revert hc'
    decide
 ·rw [len_set] at hj hk
  have key : ∀ j, j < M.bs.length → j ≠ i → ∀ g, v5.ownBlock = some g → (pv j).ownBlock ≠ some g := by
   intro j hj hne g hg hv
   obtain ⟨xj, hoj, _⟩ := h.pgs j hj
   have hlt := (own_block hoj g hv).choose_spec.2
   rcases hat g hg with e | e
   ·exact h.apart i j hi hj (fun x => hne x.symm) g e hv
   ·omega
  unfold updV
  intro g hg
  by_cases ej : j = i
  ·rw [if_pos ej] at hg
   rw [if_neg (fun x => hjk (by omega))]
   exact key k hk (fun x => hjk (by omega)) g hg
  ·rw [if_neg ej] at hg
   by_cases ek : k = i
   ·rw [if_pos ek]
    intro hv
    exact key j hj ej g hv hg
   ·rw [if_neg ek]
    exact h.apart j k hj hk hjk g hg

end Go.Proofs.Ytpcbpljdiacbmaa.Nand

set_option linter.unusedVariables false
set_option linter.unusedSimpArgs false
namespace Go.Proofs.Ytpcbpljdiacbmaa.Nand
open Go.RowKit Go.Proofs.Ytpcbpljdiacbmaa.Kit

theorem AQ.drewN {w : World} {F : Nat → Prop} {b gb : Nat} {pv : Nat → Value} {wv : Value} {N : NA} (h : AQ w F b gb pv wv N) (n : Nat) : AQ (w.drewN n) F b gb pv wv N := h.keep (fun _ _ => rfl) (Nat.le_refl _)
theorem nilPages (w : World) (F : Nat → Prop) : PagesR w F (.slice none 0 0) [] := ⟨[], ⟨rfl, .inl ⟨rfl, rfl⟩⟩, (fun g hg => by cases hg), fun j hj => absurd hj (by simp)⟩
set_option maxRecDepth 100000 in
set_option maxHeartbeats 4000000 in
theorem done_any (F : Nat → Prop) (b gb : Nat) (pv : Nat → Value) (wv : Value) (N : NA) (i c1 : Nat) (w : World) (h : AQ w F b gb pv wv N) (hi : i < N.bs.length) (hw : N.way = none) (hc : Blk w c1 #[.pointer (some ⟨gb, i * 6, none⟩)] 96) :
  Calls Try.prog 74 #[.pointer (some ⟨c1, 0, none⟩)] w fun e w' => e = .returned (.tuple #[]) ∧ AQ w' F b gb (updV pv i (.slice none 0 0)) wv (N.setB i (N.blk i).clean) ∧ Fr (fun g => g = gb) w w' := by
 have hne := AQ.bne h hc (by decide) (by decide)
 have hcg : c1 ≠ gb := fun e => hne (.inr e)
 obtain ⟨⟨Ap, cp, hpe, d0⟩, d1, d2, -, -, -⟩ := h.recs i hi
 have f0 := h.row.free (i * 6)
 have f1 := h.row.free (i * 6 + 1)
 have f2 := h.row.free (i * 6 + 2)
 have hc0 : w.cell? ⟨c1, 0, none⟩ = some (.pointer (some ⟨gb, i * 6, none⟩)) := hc.cell 0
 obtain ⟨x, hx⟩ : ∃ x, N.blk i = x := ⟨_, rfl⟩
 rw [hx] at hpe d0 d1 d2
 have hl1 : i < (N.setB i { x with pages := [] }).bs.length := by rw [len_set]; exact hi
 have hl2 : i < (N.setB i { x with pages := [], half := false }).bs.length := by rw [len_set]; exact hi
 have wf1 : ∀ y : NB, y.pages = [] → y.doom = x.doom → (N.setB i y).Wf := fun y hy hd => wf_push h.wf i y hi hw (by rw [hy]; exact Nat.zero_le _) (by rw [hd, hx])
 have H1 := h.push (v5 := .slice none 0 0) i hi { x with pages := [] } (by rw [hx]; rfl) (Fr.refl _ w) (fun _ hg => hg) (fun g hg => h.low g hg) (nilPages _ _) (fun g hg => nomatch hg) (wf1 _ rfl rfl)
 have H2 := H1.setRec i 2 (.bool false) { x with pages := [], half := false } hl1 (by decide) (by rw [blk_set _ _ _ hi, if_pos rfl]; rfl) (by rw [blk_set _ _ _ hi, if_pos rfl]) (by rw [setB_setB]; exact wf1 _ rfl rfl)
 rw [setB_setB] at H2
 have d1x := H2.row.cell i (by rw [len_set]; exact hi) 1 (.int .i64 x.erases) (by rw [show (N.setB i { x with pages := [], half := false }).bs.getD i default = (N.setB i { x with pages := [], half := false }).blk i from rfl, blk_set _ _ _ hi, if_pos rfl]; rfl)
 have f1x := H2.row.free (i * 6 + 1)
 replace d1x := hid d1x
 replace f1x := hid f1x
 have H3 := H2.setRec i 1 (.int .i64 (wrap64 (x.erases + 1))) x.clean hl2 (by decide) (by rw [blk_set _ _ _ hi, if_pos rfl]; rfl) (by rw [blk_set _ _ _ hi, if_pos rfl]; rfl) (by rw [setB_setB]; exact wf1 _ rfl rfl)
 rw [setB_setB] at H3
 have F3 := ((fr_set (F := fun g => g = gb) w gb (i * 6) (.slice none 0 0) rfl).set gb (i * 6 + 2) (.bool false) (.inl rfl)).set gb (i * 6 + 1) (.int .i64 (wrap64 (x.erases + 1))) (.inl rfl)
 replace H3 := hid H3
 replace F3 := hid F3
 have Hx := hid hx
 have HS := hid (fun (o : Nat) (v : Value) => (by
  have e1 := Below.heap_setCell w ⟨gb, o, none⟩ v c1 hcg
  have := hc0
  simp only [World.cell?] at this ⊢
  rw [e1]
  exact this : (w.setCell ⟨gb, o, none⟩ v).cell? ⟨c1, 0, none⟩ = some (.pointer (some ⟨gb, i * 6, none⟩))))
 have HS3 := hid (by
  have e1 := Below.heap_setCell (w.setCell ⟨gb, i * 6, none⟩ (.slice none 0 0)) ⟨gb, i * 6 + 2, none⟩ (.bool false) c1 hcg
  have := HS.out (i * 6) (.slice none 0 0)
  simp only [World.cell?] at this ⊢
  rw [e1]
  exact this : ((w.setCell ⟨gb, i * 6, none⟩ (.slice none 0 0)).setCell ⟨gb, i * 6 + 2, none⟩ (.bool false)).cell? ⟨c1, 0, none⟩ = some (.pointer (some ⟨gb, i * 6, none⟩)))
 have HS3c := HS3.out
 clear H1 H2 wf1 hl1 hl2 h hx hpe hc hne
 obtain ⟨er, her⟩ : ∃ z, x.erases = z := ⟨_, rfl⟩
 obtain ⟨hf, hhf⟩ : ∃ z, x.half = z := ⟨_, rfl⟩
 rw [her] at d1 H3 F3 d1x
 rw [hhf] at d2
 clear her hhf
 rw [Hx.out]
 go_enter Try.func74, Try.ntmps74
 go_wp2_with fail
 refine wp_region_held_drew (S := (fun w' => w'.cell? ⟨c1, 0, none⟩ = some (.pointer (some ⟨gb, i * 6, none⟩)))) (by kernel_rfl) ?hSnewEz (fun hHeld => ?restEz)
 case hSnewEz => ((try dsimp only); exact hc0)
 refine wpAnyH_take (i := 0) (oi := ?oiEt2x0) (v := ?vEt2x0) ?hoEt2x0 ?h1Et2x0 ?h2Et2x0 ?h3Et2x0 ?hqEt2x0 (Or.inl ⟨?h4Et2x0, ?hyEt2x0⟩) (by assumption) ?restEt2x0
 case hoEt2x0 => (simp only [qa, qb, qc]; rfl)
 case h1Et2x0 => kernel_rfl
 case h2Et2x0 => kernel_rfl
 case h3Et2x0 => kernel_rfl
 case h4Et2x0 => rfl
 case hqEt2x0 => exact fun _ _ _ h => h
 case hyEt2x0 => (intro w hSw; (try dsimp only at hSw); go_simp <;> with_reducible rfl)
 (try simp only [Act.put, qd, qe, qf])
 refine wpAnyH_take (i := 1) (oi := ?oiEt4x1) (v := ?vEt4x1) ?hoEt4x1 ?h1Et4x1 ?h2Et4x1 ?h3Et4x1 ?hqEt4x1 (Or.inl ⟨?h4Et4x1, ?hyEt4x1⟩) (by assumption) ?restEt4x1
 case hoEt4x1 => (simp only [qa, qb, qc]; rfl)
 case h1Et4x1 => kernel_rfl
 case h2Et4x1 => kernel_rfl
 case h3Et4x1 => kernel_rfl
 case h4Et4x1 => rfl
 case hqEt4x1 => exact fun _ _ _ h => h
 case hyEt4x1 => (intro w hSw; (try dsimp only at hSw); go_simp <;> with_reducible rfl)
 (try simp only [Act.put, qd, qe, qf])
 refine wpAnyH_take (i := 2) (oi := ?oiEt6x2) (v := ?vEt6x2) ?hoEt6x2 ?h1Et6x2 ?h2Et6x2 ?h3Et6x2 ?hqEt6x2 (Or.inl ⟨?h4Et6x2, ?hyEt6x2⟩) (by assumption) ?restEt6x2
 case hoEt6x2 => (simp only [qa, qb, qc]; rfl)
 case h1Et6x2 => kernel_rfl
 case h2Et6x2 => kernel_rfl
 case h3Et6x2 => kernel_rfl
 case h4Et6x2 => rfl
 case hqEt6x2 => exact fun _ _ _ h => h
 case hyEt6x2 => (intro w hSw; (try dsimp only at hSw); go_simp <;> with_reducible rfl)
 (try simp only [Act.put, qd, qe, qf])
 refine wpAnyH_take (i := 3) (oi := ?oiEt8x3) (v := ?vEt8x3) ?hoEt8x3 ?h1Et8x3 ?h2Et8x3 ?h3Et8x3 ?hqEt8x3 (Or.inl ⟨?h4Et8x3, ?hyEt8x3⟩) (by assumption) ?restEt8x3
 case hoEt8x3 => (simp only [qa, qb, qc]; rfl)
 case h1Et8x3 => kernel_rfl
 case h2Et8x3 => kernel_rfl
 case h3Et8x3 => kernel_rfl
 case h4Et8x3 => rfl
 case hqEt8x3 => exact fun _ _ _ h => h
 case hyEt8x3 => (intro w hSw; (try dsimp only at hSw); go_simp <;> with_reducible rfl)
 (try simp only [Act.put, qd, qe, qf])
 refine wpAnyH_ready (rs := [4]) (by kernel_rfl) (by simp) ?_
 refine AllReadyH.cons (o := ?oiEq9) ?hoEq9 (fun K hK => ?restEq9) ?moreEq9
 case moreEq9 => exact AllReadyH.nil
 case hoEq9 => (simp only [qa, qb, qc]; rfl)
 go_simp
 refine hK.out _ _ ?hSnewEhq9 (fun hHeld => ?restEhq9)
 case hSnewEhq9 => ((try dsimp only); exact HS.out _ _)
 clear hK K
 (try simp only [Act.put, qd, qe, qf])
 refine wpAnyH_take (i := 5) (oi := ?oiEt11x5) (v := ?vEt11x5) ?hoEt11x5 ?h1Et11x5 ?h2Et11x5 ?h3Et11x5 ?hqEt11x5 (Or.inl ⟨?h4Et11x5, ?hyEt11x5⟩) (by assumption) ?restEt11x5
 case hoEt11x5 => (simp only [qa, qb, qc]; rfl)
 case h1Et11x5 => kernel_rfl
 case h2Et11x5 => kernel_rfl
 case h3Et11x5 => kernel_rfl
 case h4Et11x5 => rfl
 case hqEt11x5 => exact fun _ _ _ h => h
 case hyEt11x5 => (intro w hSw; (try dsimp only at hSw); go_simp <;> with_reducible rfl)
 (try simp only [Act.put, qd, qe, qf])
 refine wpAnyH_take (i := 6) (oi := ?oiEt13x6) (v := ?vEt13x6) ?hoEt13x6 ?h1Et13x6 ?h2Et13x6 ?h3Et13x6 ?hqEt13x6 (Or.inl ⟨?h4Et13x6, ?hyEt13x6⟩) (by assumption) ?restEt13x6
 case hoEt13x6 => (simp only [qa, qb, qc]; rfl)
 case h1Et13x6 => kernel_rfl
 case h2Et13x6 => kernel_rfl
 case h3Et13x6 => kernel_rfl
 case h4Et13x6 => rfl
 case hqEt13x6 => exact fun _ _ _ h => h
 case hyEt13x6 => (intro w hSw; (try dsimp only at hSw); go_simp <;> with_reducible rfl)
 (try simp only [Act.put, qd, qe, qf])
 refine wpAnyH_ready (rs := [7]) (by kernel_rfl) (by simp) ?_
 refine AllReadyH.cons (o := ?oiEq14) ?hoEq14 (fun K hK => ?restEq14) ?moreEq14
 case moreEq14 => exact AllReadyH.nil
 case hoEq14 => (simp only [qa, qb, qc]; rfl)
 go_simp
 refine hK.out _ _ ?hSnewEhq14 (fun hHeld => ?restEhq14)
 case hSnewEhq14 => ((try dsimp only); exact HS3.out)
 clear hK K
 (try simp only [Act.put, qd, qe, qf])
 refine wpAnyH_done (by kernel_rfl) ?_ _
 generalize hX : World.setCell _ ⟨gb, i * 6 + 2, none⟩ (.bool false) = X at *
 have d1y := d1x.out
 have f1y := f1x.out
 clear d0 d1 d2 f0 f1 f2 hX
 go_wp2
 go_end0
 exact ⟨rfl, H3.out.drewN 1, F3.out.drewN 1⟩

set_option maxHeartbeats 2000000 in
theorem erase_no (F : Nat → Prop) (b gb : Nat) (pv : Nat → Value) (wv : Value) (N : NA) (i : Int) (ep : Int) (w : World) (h : AR w F b gb pv wv N) (he : N.eraseE i ep ≠ 0) :
  Calls Try.prog 64 #[.pointer (some ⟨b, 0, none⟩), .int .i64 i, .int .u64 ep] w fun e w' => e = .returned (.int .i64 (N.eraseE i ep)) ∧ Below w.heap.size w w' := by
 by_cases ha : N.atE i = 0
 ·obtain ⟨hi0, hi1, ho⟩ := atE_zero ha
  obtain ⟨i, rfl⟩ := Int.eq_ofNat_of_zero_le hi0
  have hi : i < N.bs.length := by omega
  have he' : N.eraseE (i : Int) ep = if ep < N.fence then 7 else 0 := by
   unfold NA.eraseE
   rw [ha, if_neg (by simp)]
  rw [he'] at he ⊢
  by_cases hf : ep < N.fence
  ·rw [if_pos hf]
   clear he he' ha hi0 hi1
   have hat := at_ok F b gb pv wv N i w h hi ho
   have hnb := h.wf.nb
   have HB := hid ((Below.refl w.heap.size w).alloc (Nat.le_refl _) (.cells #[.pointer (some ⟨gb, i * 6, none⟩)] 96))
   have H0 := hid h
   clear h
   go_enter Try.func64, Try.ntmps64
   go_wp2_with fail
   refine hat.mono ?_
   rintro e w ⟨rfl, rfl⟩
   clear hat
   go_upto_region 2 with (fail)
   obtain ⟨w1, hw1⟩ : ∃ W, W = w.alloc (.cells #[.pointer (some ⟨gb, i * 6, none⟩)] 96) := ⟨_, rfl⟩
   have hb1 : Blk w1 w.heap.size #[.pointer (some ⟨gb, i * 6, none⟩)] 96 := by rw [hw1]; exact Blk.new _ _ _
   rw [← hw1] at HB ⊢
   clear hw1
   obtain ⟨g1, hg1⟩ : ∃ g, w.heap.size = g := ⟨_, rfl⟩
   rw [hg1] at hb1 ⊢
   have Hg1 := hid hg1
   have H1 := hid (H0.out.later HB.out)
   have Hb1 := hid hb1
   clear hg1 hb1
   have c2 : w1.cell? ⟨b, 2, none⟩ = some (.int .u64 N.fence) := H1.out.hd.cell 2
   have hfd : decide (ep < N.fence) = true := decide_eq_true hf
   generalize N.fence = fe at *
   go_wp2
   go_ret
   exact ⟨rfl, HB.out⟩
  ·rw [if_neg hf] at he
   exact absurd rfl he
 ·have hat := at_no F b gb pv wv N i w h ha
  have he' : N.eraseE i ep = N.atE i := by
   unfold NA.eraseE
   rw [if_pos ha]
  rw [he'] at he ⊢
  clear he' he
  obtain ⟨r, hr⟩ : ∃ r, N.atE i = r := ⟨_, rfl⟩
  rw [hr] at hat ha ⊢
  have hb : (r != 0) = true := by rw [bne_iff_ne]; exact ha
  have HB := hid ((Below.refl w.heap.size w).alloc (Nat.le_refl _) (.cells #[.pointer none] 96))
  clear hr h
  go_enter Try.func64, Try.ntmps64
  go_wp2_with fail
  refine hat.mono ?_
  rintro e w ⟨rfl, rfl⟩
  clear hat
  go_wp2
  go_ret
  exact ⟨rfl, HB.out⟩

set_option maxRecDepth 100000 in
set_option maxHeartbeats 8000000 in
theorem erase_go (F : Nat → Prop) (b gb : Nat) (pv : Nat → Value) (wv : Value) (N : NA) (i : Nat) (ep : Int) (w : World) (h : AR w F b gb pv wv N) (hi : i < N.bs.length) (ho : N.off = false) (hf : N.fence ≤ ep) :
  Calls Try.prog 64 #[.pointer (some ⟨b, 0, none⟩), .int .i64 (i : Int), .int .u64 ep] w fun e w' => e = .returned (.int .i64 (N.erase (i : Int) ep).2) ∧ Arr w' (grow F w w') b (N.erase (i : Int) ep).1 ∧ Fr F w w' := by
 have her : N.erase (i : Int) ep = if (N.begun i).off then ({ N.begun i with way := some ⟨i, none, ((N.begun i).blk i).dead⟩ }, 9) else if ((N.begun i).blk i).dead then ((N.begun i).setB i { ((N.begun i).blk i) with failed := true }, 8) else ((N.begun i).setB i ((N.begun i).blk i).clean, 0) := by
  have h0 : N.atE (i : Int) = 0 := by
   unfold NA.atE
   rw [if_neg (by omega), ho]
   rfl
  have h1 : N.eraseE (i : Int) ep = 0 := by
   unfold NA.eraseE
   rw [if_neg (by rw [h0]; simp), if_neg (by omega)]
  unfold NA.erase
  rw [if_neg (by rw [h1]; simp)]
  rfl
 obtain ⟨R, hR⟩ : ∃ R, N.erase (i : Int) ep = R := ⟨_, rfl⟩
 rw [hR] at her ⊢
 have HR := hid her
 clear her hR
 have Hwf := hid h.wf
 have Hinb := hid h.inb
 have Hing := hid h.ing
 have Hlow := hid h.low
 have hat := at_ok F b gb pv wv N i w h hi ho
 have hnb := h.wf.nb
 have HB := hid ((Below.refl w.heap.size w).alloc (Nat.le_refl _) (.cells #[.pointer (some ⟨gb, i * 6, none⟩)] 96))
 have H0 := hid h
 clear h
 go_enter Try.func64, Try.ntmps64
 go_wp2_with fail
 refine hat.mono ?_
 rintro e w ⟨rfl, rfl⟩
 clear hat
 go_upto_region 2 with (fail)
 obtain ⟨w1, hw1⟩ : ∃ W, W = w.alloc (.cells #[.pointer (some ⟨gb, i * 6, none⟩)] 96) := ⟨_, rfl⟩
 have hb1 : Blk w1 w.heap.size #[.pointer (some ⟨gb, i * 6, none⟩)] 96 := by rw [hw1]; exact Blk.new _ _ _
 rw [← hw1] at HB ⊢
 clear hw1
 obtain ⟨g1, hg1⟩ : ∃ g, w.heap.size = g := ⟨_, rfl⟩
 rw [hg1] at hb1 ⊢
 have Hg1 := hid hg1
 have H1 := hid (H0.out.later HB.out)
 have Hb1 := hid hb1
 clear hg1 hb1
 have c2 : w1.cell? ⟨b, 2, none⟩ = some (.int .u64 N.fence) := H1.out.hd.cell 2
 have hfd : decide (ep < N.fence) = false := decide_eq_false (Int.not_lt.2 hf)
 have hff := Int.not_lt.2 hf
 have hbeg := begin_any F b gb pv wv N i w1 H1.out hi ho
 have k1 : w1.cell? ⟨g1, 0, none⟩ = some (.pointer (some ⟨gb, i * 6, none⟩)) := Hb1.out.cell 0
 go_wp2_with fail
 refine hbeg.mono ?_
 rintro e w4 ⟨rfl, h4, hF4⟩
 clear hbeg k1 c2 hfd hff
 have hne1 := blk_ne2 H1.out Hb1.out (by decide) (by decide)
 have hb4 : Blk w4 g1 #[.pointer (some ⟨gb, i * 6, none⟩)] 96 := (hF4.block g1 Hb1.out.lt hne1).trans Hb1.out
 have HF4 := hid (show Fr F w w4 from (Fr.of_below HB.out).trans (hF4.mono (fun g _ hg => (show F g from by rcases hg with rfl | rfl; exact Hinb.out; exact Hing.out))) (fun g _ hg => hg))
 have H4 := hid h4
 have Hb4 := hid hb4
 clear hF4 h4 hb4 H1 Hb1
 go_upto_region 8 with (fail)
 have hwn : N.way = none := wf_tick Hwf.out ho
 obtain ⟨dd, hdd⟩ : ∃ d, ((N.begun i).blk i).dead = d := ⟨_, rfl⟩
 obtain ⟨of, hof⟩ : ∃ d, (N.begun i).off = d := ⟨_, rfl⟩
 obtain ⟨w6, hw6⟩ : ∃ W, W = (w4.alloc (.cells #[.bool ((N.begun i).blk i).dead] 4)).alloc (.cells #[.func (.func 74) #[] #[.pointer (some ⟨g1, 0, none⟩)]] 1) := ⟨_, rfl⟩
 have hB6 : Below w4.heap.size w4 w6 := by rw [hw6]; exact ((Below.refl _ _).alloc (Nat.le_refl _) _).alloc (by simp) _
 have hbd : Blk w6 w4.heap.size #[.bool dd] 4 := by rw [hw6, ← hdd]; exact (Blk.new w4 _ _).alloc _
 have hbf : Blk w6 (w4.heap.size + 1) #[.func (.func 74) #[] #[.pointer (some ⟨g1, 0, none⟩)]] 1 := by
  rw [hw6]
  have := Blk.new (w4.alloc (.cells #[.bool ((N.begun i).blk i).dead] 4)) #[.func (.func 74) #[] #[.pointer (some ⟨g1, 0, none⟩)]] 1
  simpa using this
 rw [← hw6]
 have Hb6 := hid (Hb4.out.later hB6)
 have H6 := hid (H4.out.later hB6)
 have HF6 := hid (HF4.out.trans (Fr.of_below (F := F) hB6) (fun g _ hg => hg))
 obtain ⟨g4, hg4⟩ : ∃ g, w4.heap.size = g := ⟨_, rfl⟩
 rw [hg4] at hbd hbf ⊢
 have Hg4 := hid (show w.heap.size ≤ g4 from by rw [← hg4]; exact HF4.out.size)
 have Hbd := hid hbd
 have Hbf := hid hbf
 have kd : w6.cell? ⟨g4, 0, none⟩ = some (.bool dd) := hbd.cell 0
 have kf : w6.cell? ⟨g4 + 1, 0, none⟩ = some (.func (.func 74) #[] #[.pointer (some ⟨g1, 0, none⟩)]) := hbf.cell 0
 have kb : w6.cell? ⟨g1, 0, none⟩ = some (.pointer (some ⟨gb, i * 6, none⟩)) := Hb6.out.cell 0
 clear hw6 hg4 hB6 hbd hbf H4 Hb4 HF4
 cases of
 ·have hfr : (!(N.begun i).off) = true := by rw [hof]; rfl
  rw [hfr]
  have Hof := hid hof
  have Hdd := hid hdd
  have hib : i < (N.begun i).bs.length := by rw [len_begun]; exact hi
  cases dd
  ·rw [hdd]
   have hdone := done_any F b gb pv wv (N.begun i) i g1 w6 H6.out.toAQ hib hwn Hb6.out
   have HW := hid H6.out.way
   clear hfr hof hdd
   go_wp2_with fail
   refine hdone.mono ?_
   rintro e w7 ⟨rfl, h7, hF7⟩
   clear hdone
   have Hfin := hid (h7.toAR (show WayR w7 F gb (N.begun i).way wv from by
    have hw := HW.out
    have e : (N.begun i).way = none := hwn
    rw [e] at hw ⊢
    exact hw))
   have HFin := hid (HF6.out.trans (hF7.mono (fun g _ hg => (show F g from by rw [hg]; exact Hing.out))) (fun g _ hg => hg))
   clear h7 hF7
   go_wp2
   go_ret
   rw [show R = _ from HR.out, if_neg (by rw [Hof.out]; simp), if_neg (by rw [Hdd.out]; simp)]
   exact ⟨rfl, ⟨gb, _, wv, Hfin.out.grown w⟩, HFin.out⟩
  ·rw [hdd]
   have d4 := (H6.out.recs i hib).2.2.2.2.1
   have f4 := H6.out.row.free (i * 6 + 4)
   have Hfin := hid (H6.out.setRec i 4 (.bool true) { ((N.begun i).blk i) with failed := true } hib (by decide) rfl rfl (H6.out.wf.setB i _ hib rfl (H6.out.wf.doom i hib)))
   have HFin := hid (HF6.out.set gb (i * 6 + 4) (.bool true) (.inl Hing.out))
   generalize ((N.begun i).blk i).failed = fl at d4
   clear hfr hof hdd
   go_wp2
   go_ret
   rw [show R = _ from HR.out, if_neg (by rw [Hof.out]; simp), if_pos Hdd.out]
   exact ⟨rfl, ⟨gb, _, wv, Hfin.out.grown w⟩, HFin.out⟩
 ·have hfr : (!(N.begun i).off) = false := by rw [hof]; rfl
  rw [hfr]
  have e7 : w6.cell? ⟨b, 7, none⟩ = some wv := H6.out.hd.cell 7
  have f7 := H6.out.hd.free 7
  have Hof := hid hof
  have Hdd := hid hdd
  clear hfr hof hdd
  go_upto_region 10 with (fail)
  obtain ⟨fv, hfv⟩ : ∃ fv, Value.func (.func 75) #[] #[.pointer (some ⟨g4, 0, none⟩), .pointer (some ⟨g4 + 1, 0, none⟩), .pointer (some ⟨g1, 0, none⟩)] = fv := ⟨_, rfl⟩
  rw [hfv]
  have Hfin := hid (show AR (w6.setCell ⟨b, 7, none⟩ fv) (grow F w (w6.setCell ⟨b, 7, none⟩ fv)) b gb pv fv { N.begun i with way := some ⟨i, none, ((N.begun i).blk i).dead⟩ } from by
   rw [grow_size (size_set ..)]
   have hg := H6.out.grown w
   have hf : Fr (fun g => g = b) w6 (w6.setCell ⟨b, 7, none⟩ fv) := fr_set w6 b 7 fv rfl
   have hother : ∀ g cs T, Blk w6 g cs T → T ≠ 67 → T ≠ 70 → Blk (w6.setCell ⟨b, 7, none⟩ fv) g cs T := fun g cs T hb h1 h2 => hb.setOther ⟨b, 7, none⟩ (fun e => blk_ne2 H6.out hb h1 h2 (.inl e)) fv
   refine hg.upd hf (fun g hg => .inl hg) _ fv (by have := H6.out.hd.set 7 fv; exact this) (H6.out.row.keep (Below.heap_setCell w6 ⟨b, 7, none⟩ fv gb (fun e => H6.out.ne e.symm))) rfl (fun _ _ => rfl) ?_ ?_
   ·refine ⟨g1, g4, g4 + 1, hfv.symm, hother _ _ _ Hb6.out (by decide) (by decide), ?_, hother _ _ _ Hbf.out (by decide) (by decide), .inr ⟨by have := Hg1.out; omega, Hb6.out.lt⟩, .inr ⟨Hg4.out, Hbd.out.lt⟩, .inr ⟨by have := Hg4.out; omega, Hbf.out.lt⟩⟩
    show Blk _ g4 #[.bool ((N.begun i).blk i).dead] _
    rw [Hdd.out]
    exact hother _ _ _ Hbd.out (by decide) (by decide)
   ·refine ⟨H6.out.wf.nb, H6.out.wf.np, H6.out.wf.len, fun u hu => ?_, H6.out.wf.armed, H6.out.wf.doom⟩
    injection hu with hu
    subst hu
    exact ⟨Hof.out, by show i < (N.begun i).bs.length; rw [len_begun]; exact hi, fun q' hq => by cases hq⟩)
  have HFin := hid (HF6.out.set b 7 fv (.inl Hinb.out))
  clear e7 f7 hfv
  go_wp2
  go_ret
  rw [show R = _ from HR.out, if_pos Hof.out]
  exact ⟨rfl, ⟨gb, pv, fv, Hfin.out⟩, HFin.out⟩
end Go.Proofs.Ytpcbpljdiacbmaa.Nand
