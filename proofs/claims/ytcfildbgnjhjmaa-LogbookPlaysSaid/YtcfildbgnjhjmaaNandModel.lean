import Derived.Test.YtcfildbgnjhjmaaRecs
set_option linter.unusedVariables false
set_option linter.unusedSimpArgs false
namespace Go.Proofs.Ytcfildbgnjhjmaa.Nand
open Go.RowKit Go.Proofs.Ytcfildbgnjhjmaa.Kit

/-! The array, as plain data. -/
structure NB where
  pages : List (List Int)
  erases : Int
  half : Bool
  dead : Bool
  failed : Bool
  doom : Nat
instance : Inhabited NB := ⟨⟨[], 0, false, false, false, 0⟩⟩
/-- What was being done when the power went off: of block i the programming of q, or (none) its erasing. -/
structure Way where
  i : Nat
  q : Option (List Int)
  dead : Bool
structure NA where
  bs : List NB
  pages : Nat
  fence : Int
  boots : Int
  armed : Nat
  off : Bool
  ops : Int
  way : Option Way
def NA.blk (N : NA) (i : Nat) : NB := N.bs.getD i default
def NA.setB (N : NA) (i : Nat) (x : NB) : NA := { N with bs := N.bs.set i x }
def NB.tick (x : NB) : NB := { x with doom := x.doom - 1, dead := x.dead || x.doom == 1 }
def NA.tick (N : NA) : NA := { N with ops := wrap64 (N.ops + 1), armed := N.armed - 1, off := N.armed == 1 }
def NA.begun (N : NA) (i : Nat) : NA := N.tick.setB i (N.blk i).tick
def tornL (q : List Int) (n : Int) : List Int := q.take n.toNat ++ List.replicate (q.length - n.toNat) 255
def NB.add (x : NB) (q : List Int) : NB := { x with pages := x.pages ++ [q] }
def NB.clean (x : NB) : NB := { x with pages := [], half := false, erases := wrap64 (x.erases + 1) }
def NA.atE (N : NA) (i : Int) : Int := if i < 0 ∨ N.bs.length ≤ i then 1 else if N.off then 9 else 0
def NA.readE (N : NA) (i p : Int) : Int :=
  if N.atE i ≠ 0 then N.atE i else if p < 0 ∨ N.pages ≤ p then 1 else if (N.blk i.toNat).pages.length ≤ p then 5 else if (N.blk i.toNat).half then 4 else 0
/-- Why a programming isn't begun; 0: it is. -/
def NA.progE (N : NA) (i p : Int) (n : Nat) (ep : Int) : Int :=
  if N.atE i ≠ 0 then N.atE i else if p < 0 ∨ N.pages ≤ p then 1 else if n ≠ 96 then 3 else if p ≠ (N.blk i.toNat).pages.length ∨ (N.blk i.toNat).half = true then 6 else if ep < N.fence then 7 else 0
def NA.prog (N : NA) (i p : Int) (q : List Int) (ep : Int) : NA × Int :=
  if N.progE i p q.length ep ≠ 0 then (N, N.progE i p q.length ep)
  else
    let j := i.toNat
    let M := N.begun j
    if M.off then ({ M with way := some ⟨j, some q, (M.blk j).dead⟩ }, 9)
    else if (M.blk j).dead then (M.setB j { (M.blk j).add (tornL q 0) with failed := true }, 8)
    else (M.setB j ((M.blk j).add q), 0)
def NA.eraseE (N : NA) (i : Int) (ep : Int) : Int := if N.atE i ≠ 0 then N.atE i else if ep < N.fence then 7 else 0
def NA.erase (N : NA) (i : Int) (ep : Int) : NA × Int :=
  if N.eraseE i ep ≠ 0 then (N, N.eraseE i ep)
  else
    let j := i.toNat
    let M := N.begun j
    if M.off then ({ M with way := some ⟨j, none, (M.blk j).dead⟩ }, 9)
    else if (M.blk j).dead then (M.setB j { (M.blk j) with failed := true }, 8)
    else (M.setB j (M.blk j).clean, 0)
def NA.raise (N : NA) (ep : Int) : NA × Int := if N.off then (N, 9) else if ep ≤ N.fence then (N, 7) else ({ N with fence := ep }, 0)
def NA.arm (N : NA) (n : Int) : NA × Int := if n < 0 then (N, 1) else ({ N with armed := n.toNat }, 0)
def NA.doomed (N : NA) (i n : Int) : NA × Int := if i < 0 ∨ N.bs.length ≤ i ∨ n < 0 then (N, 1) else (N.setB i.toNat { N.blk i.toNat with doom := n.toNat }, 0)
/-- What becomes of the block that was cut. -/
def NA.fall (N : NA) (cut : Int) : NA :=
  match N.way with
  | none => N
  | some u =>
    match u.q with
    | some q => if 0 < cut then N.setB u.i ((N.blk u.i).add (tornL q cut)) else N
    | none => if 96 ≤ cut ∧ u.dead = false then N.setB u.i (N.blk u.i).clean else if 0 < cut then N.setB u.i { N.blk u.i with half := decide (0 < (N.blk u.i).pages.length) } else N
def NA.restart (N : NA) (cut : Int) : NA := { N.fall cut with way := none, off := false, armed := 0, fence := 0, boots := wrap64 (N.boots + 1) }
def newB (dead : Bool) : NB := ⟨[], 0, false, dead, dead, 0⟩
def newA (n p : Nat) (bad : List Int) : NA := ⟨(List.range n).map (fun i : Nat => newB (decide ((i : Int) ∈ bad))), p, 0, 0, 0, false, 0, none⟩

/-- What always holds. -/
structure NA.Wf (N : NA) : Prop where
  nb : 1 ≤ N.bs.length ∧ N.bs.length ≤ 64
  np : 1 ≤ N.pages ∧ N.pages ≤ 32
  len : ∀ i, i < N.bs.length → (N.blk i).pages.length ≤ N.pages
  way : ∀ u, N.way = some u → N.off = true ∧ u.i < N.bs.length ∧ ∀ q, u.q = some q → (N.blk u.i).pages.length < N.pages
  armed : N.armed ≤ 9223372036854775807
  doom : ∀ i, i < N.bs.length → (N.blk i).doom ≤ 9223372036854775807

theorem blk_set {N : NA} (i j : Nat) (x : NB) (hi : i < N.bs.length) : (N.setB i x).blk j = if j = i then x else N.blk j := by
  unfold NA.blk NA.setB
  simp only
  rw [List.getD_eq_getElem?_getD, List.getElem?_set, List.getD_eq_getElem?_getD]
  by_cases e : i = j
  · subst e
    rw [if_pos rfl, if_pos hi, if_pos rfl]
    rfl
  · rw [if_neg e, if_neg (fun x => e x.symm)]
theorem len_set (N : NA) (i : Nat) (x : NB) : (N.setB i x).bs.length = N.bs.length := by unfold NA.setB; simp
theorem blk_tick (N : NA) (j : Nat) : N.tick.blk j = N.blk j := rfl
theorem len_tick (N : NA) : N.tick.bs.length = N.bs.length := rfl
theorem blk_begun {N : NA} (i j : Nat) (hi : i < N.bs.length) : (N.begun i).blk j = if j = i then (N.blk i).tick else N.blk j := by
  unfold NA.begun
  rw [blk_set (N := N.tick) i j _ hi, blk_tick]
theorem len_begun (N : NA) (i : Nat) : (N.begun i).bs.length = N.bs.length := by unfold NA.begun; rw [len_set, len_tick]
theorem begun_off (N : NA) (i : Nat) : (N.begun i).off = (N.armed == 1) := rfl
theorem tornL_len (q : List Int) (n : Int) : (tornL q n).length = q.length := by
  unfold tornL
  rw [List.length_append, List.length_take, List.length_replicate]
  omega
theorem tornL_zero (q : List Int) : tornL q 0 = List.replicate q.length 255 := by
  unfold tornL
  simp
theorem tornL_wf (q : List Int) (n : Int) (h : ∀ x ∈ q, (Lit.int .u8 x).wf = true) : ∀ x ∈ tornL q n, (Lit.int .u8 x).wf = true := by
  intro x hx
  unfold tornL at hx
  rcases List.mem_append.1 hx with hx | hx
  · exact h x (List.mem_of_mem_take hx)
  · rw [List.mem_replicate] at hx
    rw [hx.2]
    rfl
/-- Another block i, with as many pages. -/
theorem NA.Wf.setB {N : NA} (h : N.Wf) (i : Nat) (x : NB) (hi : i < N.bs.length) (hp : x.pages.length = (N.blk i).pages.length) (hd : x.doom ≤ 9223372036854775807) : (N.setB i x).Wf := by
  refine ⟨by rw [len_set]; exact h.nb, h.np, fun j hj => ?_, fun u hu => ?_, h.armed, fun j hj => ?_⟩
  · rw [len_set] at hj
    rw [blk_set i j x hi]
    split
    · rename_i e
      subst e
      rw [hp]
      exact h.len j hj
    · exact h.len j hj
  · obtain ⟨h1, h2, h3⟩ := h.way u hu
    refine ⟨h1, by rw [len_set]; exact h2, fun q hq => ?_⟩
    rw [blk_set i u.i x hi]
    split
    · rename_i e
      rw [hp, ← e]
      exact h3 q hq
    · exact h3 q hq
  · rw [len_set] at hj
    rw [blk_set i j x hi]
    split
    · exact hd
    · exact h.doom j hj
end Go.Proofs.Ytcfildbgnjhjmaa.Nand
