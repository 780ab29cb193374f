import Derived.Test.YtcfildbgnjhjmaaNandB
set_option linter.unusedVariables false
set_option linter.unusedSimpArgs false
namespace Go.Proofs.Ytcfildbgnjhjmaa.Nand
open Go.RowKit Go.Proofs.Ytcfildbgnjhjmaa.Kit

/-! What the operations come to where nothing is armed. -/
def NA.opd (N : NA) : NA := { N with ops := wrap64 (N.ops + 1) }
theorem tick_calm (x : NB) (h : x.doom = 0) : x.tick = x := by
  unfold NB.tick
  rw [h]
  cases x
  simp at h
  subst h
  simp
theorem setB_self (N : NA) (i : Nat) (hi : i < N.bs.length) : N.setB i (N.blk i) = N := by
  unfold NA.setB NA.blk
  rw [List.getD_eq_getElem?_getD, List.getElem?_eq_getElem hi]
  simp
theorem begun_calm {N : NA} (i : Nat) (hi : i < N.bs.length) (ha : N.armed = 0) (ho : N.off = false) (hd : (N.blk i).doom = 0) : N.begun i = N.opd := by
  unfold NA.begun
  rw [tick_calm _ hd]
  have e : N.tick = N.opd := by
    unfold NA.tick NA.opd
    rw [ha, ho]
    rfl
  rw [e]
  exact setB_self N.opd i hi
theorem atE_in {N : NA} (i : Nat) (hi : i < N.bs.length) (ho : N.off = false) : N.atE (i : Int) = 0 := by
  unfold NA.atE
  rw [if_neg (by omega), ho]
  rfl
theorem progE_in {N : NA} (i p : Nat) (n : Nat) (ep : Int) (hi : i < N.bs.length) (ho : N.off = false) (hp : p = (N.blk i).pages.length) (hp2 : p < N.pages) (hn : n = 96) (hh : (N.blk i).half = false) (hf : N.fence ≤ ep) : N.progE (i : Int) (p : Int) n ep = 0 := by
  unfold NA.progE
  rw [if_neg (by rw [atE_in i hi ho]; simp), if_neg (by omega), if_neg (by rw [hn]; simp), if_neg (by rw [show ((i : Int)).toNat = i by omega, hh]; simp; omega), if_neg (by omega)]
theorem prog_calm {N : NA} (i p : Nat) (q : List Int) (ep : Int) (hi : i < N.bs.length) (ha : N.armed = 0) (ho : N.off = false) (hd : (N.blk i).doom = 0) (hdd : (N.blk i).dead = false) (hp : p = (N.blk i).pages.length) (hp2 : p < N.pages) (hn : q.length = 96) (hh : (N.blk i).half = false) (hf : N.fence ≤ ep) :
    N.prog (i : Int) (p : Int) q ep = (N.opd.setB i ((N.blk i).add q), 0) := by
  rw [prog_eq (progE_in i p q.length ep hi ho hp hp2 hn hh hf), begun_calm i hi ha ho hd]
  rw [if_neg (by rw [show N.opd.off = N.off from rfl, ho]; simp), if_neg (by rw [show (N.opd.blk i).dead = (N.blk i).dead from rfl, hdd]; simp)]
  rfl
theorem prog_fall {N : NA} (i p : Nat) (q : List Int) (ep : Int) (hi : i < N.bs.length) (ha : N.armed = 0) (ho : N.off = false) (hd : (N.blk i).doom = 0) (hdd : (N.blk i).dead = true) (hp : p = (N.blk i).pages.length) (hp2 : p < N.pages) (hn : q.length = 96) (hh : (N.blk i).half = false) (hf : N.fence ≤ ep) :
    N.prog (i : Int) (p : Int) q ep = (N.opd.setB i { (N.blk i).add (tornL q 0) with failed := true }, 8) := by
  rw [prog_eq (progE_in i p q.length ep hi ho hp hp2 hn hh hf), begun_calm i hi ha ho hd]
  rw [if_neg (by rw [show N.opd.off = N.off from rfl, ho]; simp), if_pos (by rw [show (N.opd.blk i).dead = (N.blk i).dead from rfl, hdd])]
  rfl
theorem prog_err {N : NA} (i p : Int) (q : List Int) (ep : Int) (h : N.progE i p q.length ep ≠ 0) : N.prog i p q ep = (N, N.progE i p q.length ep) := by
  unfold NA.prog
  rw [if_pos h]
theorem erase_eq {N : NA} {i : Nat} {ep : Int} (hi : i < N.bs.length) (ho : N.off = false) (hf : N.fence ≤ ep) : N.erase (i : Int) ep = if (N.begun i).off then ({ N.begun i with way := some ⟨i, none, ((N.begun i).blk i).dead⟩ }, 9) else if ((N.begun i).blk i).dead then ((N.begun i).setB i { ((N.begun i).blk i) with failed := true }, 8) else ((N.begun i).setB i ((N.begun i).blk i).clean, 0) := by
  have h1 : N.eraseE (i : Int) ep = 0 := by
    unfold NA.eraseE
    rw [if_neg (by rw [atE_in i hi ho]; simp), if_neg (by omega)]
  unfold NA.erase
  rw [if_neg (by rw [h1]; simp)]
  rfl
theorem erase_calm {N : NA} (i : Nat) (ep : Int) (hi : i < N.bs.length) (ha : N.armed = 0) (ho : N.off = false) (hd : (N.blk i).doom = 0) (hdd : (N.blk i).dead = false) (hf : N.fence ≤ ep) :
    N.erase (i : Int) ep = (N.opd.setB i (N.blk i).clean, 0) := by
  rw [erase_eq hi ho hf, begun_calm i hi ha ho hd]
  rw [if_neg (by rw [show N.opd.off = N.off from rfl, ho]; simp), if_neg (by rw [show (N.opd.blk i).dead = (N.blk i).dead from rfl, hdd]; simp)]
  rfl
theorem erase_fall {N : NA} (i : Nat) (ep : Int) (hi : i < N.bs.length) (ha : N.armed = 0) (ho : N.off = false) (hd : (N.blk i).doom = 0) (hdd : (N.blk i).dead = true) (hf : N.fence ≤ ep) :
    N.erase (i : Int) ep = (N.opd.setB i { N.blk i with failed := true }, 8) := by
  rw [erase_eq hi ho hf, begun_calm i hi ha ho hd]
  rw [if_neg (by rw [show N.opd.off = N.off from rfl, ho]; simp), if_pos (by rw [show (N.opd.blk i).dead = (N.blk i).dead from rfl, hdd])]
  rfl
end Go.Proofs.Ytcfildbgnjhjmaa.Nand
