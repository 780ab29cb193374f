import Derived.Test.YtpcbpljdiacbmaaJScanCop
import Derived.Test.YtpcbpljdiacbmaaJPmapAll
set_option linter.unusedVariables false
set_option linter.unusedSimpArgs false
namespace Go.Proofs.Ytpcbpljdiacbmaa.Scan
open Go.RowKit Go.Proofs.Ytpcbpljdiacbmaa.Kit Go.Proofs.Ytpcbpljdiacbmaa.Oct Go.Proofs.Ytpcbpljdiacbmaa.Sheet Go.Proofs.Ytpcbpljdiacbmaa.Nand Go.Proofs.Ytpcbpljdiacbmaa.Plan Go.Proofs.Ytpcbpljdiacbmaa.Log Go.Proofs.Ytpcbpljdiacbmaa.Pmap

/-! What an array holds, out of what was found on its blocks. -/
def tagF (i : Int) (l : List Fd) : List (Int × Fd) := l.map fun x => (i, x)
def flatF (us : List Int) (L : Int → List Fd) : List (Int × Fd) := us.flatMap fun i => tagF i (L i)
theorem flatF_snoc (us : List Int) (i : Int) (L : Int → List Fd) : flatF (us ++ [i]) L = flatF us L ++ tagF i (L i) := by
 unfold flatF; rw [List.flatMap_append, List.flatMap_singleton]
theorem flatF_congr {us : List Int} {L L' : Int → List Fd} (h : ∀ i ∈ us, L i = L' i) : flatF us L = flatF us L' := by
 unfold flatF; exact flat_ext us fun i hi => by rw [h i hi]
theorem tagF_take (i : Int) (l : List Fd) (q : Nat) (hq : q < l.length) : tagF i (l.take (q + 1)) = tagF i (l.take q) ++ [(i, l.getD q default)] := by
 unfold tagF
 rw [List.take_add_one, List.getElem?_eq_getElem hq, List.map_append]
 congr 1
 rw [List.getD_eq_getElem?_getD, List.getElem?_eq_getElem hq]
 rfl
/-- The newest page of address a. -/
def newer (a : Int) (o : Option (Int × Fd)) (y : Int × Fd) : Option (Int × Fd) :=
 if (y.2.p.a : Int) = a then (match o with | none => some y | some z => if z.2.p.S < y.2.p.S then some y else o) else o
def newest (a : Int) (l : List (Int × Fd)) : Option (Int × Fd) := l.foldl (newer a) none
theorem newest_snoc (a : Int) (l : List (Int × Fd)) (y : Int × Fd) : newest a (l ++ [y]) = newer a (newest a l) y := by
 unfold newest; rw [List.foldl_append]; rfl
theorem newest_spec (a : Int) (l : List (Int × Fd)) : ∀ y, newest a l = some y → y ∈ l ∧ (y.2.p.a : Int) = a := by
 have key : ∀ (n : Nat) (l : List (Int × Fd)), l.length = n → ∀ y, newest a l = some y → y ∈ l ∧ (y.2.p.a : Int) = a := by
  intro n
  induction n with
  | zero =>
   intro l hl y h
   rw [List.eq_nil_of_length_eq_zero hl] at h
   cases h
  | succ n ih =>
   intro l hl y h
   rcases List.eq_nil_or_concat l with rfl | ⟨l', z, rfl⟩
   ·cases h
   ·rw [List.concat_eq_append] at h hl ⊢
    rw [List.length_append, List.length_singleton] at hl
    rw [newest_snoc] at h
    have ih' := ih l' (by omega)
    unfold newer at h
    by_cases hz : (z.2.p.a : Int) = a
    ·rw [if_pos hz] at h
     cases hn : newest a l' with
     | none =>
      rw [hn] at h
      injection h with h
      subst h
      exact ⟨List.mem_append_right _ (List.mem_singleton.2 rfl), hz⟩
     | some u =>
      rw [hn] at h
      have h : (if u.2.p.S < z.2.p.S then some z else some u) = some y := h
      split at h
      ·injection h with h
       subst h
       exact ⟨List.mem_append_right _ (List.mem_singleton.2 rfl), hz⟩
      ·injection h with h
       subst h
       obtain ⟨h1, h2⟩ := ih' u hn
       exact ⟨List.mem_append_left _ h1, h2⟩
    ·rw [if_neg hz] at h
     obtain ⟨h1, h2⟩ := ih' y h
     exact ⟨List.mem_append_left _ h1, h2⟩
 exact key l.length l rfl
/-- What the map of pages has. -/
def pgsF (l : List (Int × Fd)) : Int → Option Value := fun a => (newest a l).map fun y => y.2.val y.1
/-- How many addresses have a page, below M. -/
def keysN (l : List (Int × Fd)) (M : Nat) : Nat := cnum (fun a => (newest (a : Int) l).isSome) M
theorem pgs_other (l : List (Int × Fd)) (y : Int × Fd) (a : Int) (h : (y.2.p.a : Int) ≠ a) : newest a (l ++ [y]) = newest a l := by
 rw [newest_snoc]; exact if_neg h
/-- A page that is newer than what there was of its address. -/
theorem pgs_put (l : List (Int × Fd)) (y : Int × Fd) (h : ∀ z, newest (y.2.p.a : Int) l = some z → z.2.p.S < y.2.p.S) : pgsF (l ++ [y]) = putF (pgsF l) (y.2.p.a : Int) (y.2.val y.1) := by
 funext a
 unfold pgsF putF
 by_cases e : a = (y.2.p.a : Int)
 ·subst e
  rw [if_pos rfl, newest_snoc]
  unfold newer
  rw [if_pos rfl]
  cases hn : newest (y.2.p.a : Int) l with
  | none => rfl
  | some z =>
   show Option.map _ (if z.2.p.S < y.2.p.S then some y else some z) = _
   rw [if_pos (h z hn)]
   rfl
 ·rw [if_neg e, pgs_other l y a (fun h => e h.symm)]
theorem pgs_same (l : List (Int × Fd)) (y z : Int × Fd) (h : newest (y.2.p.a : Int) l = some z) (hs : ¬ z.2.p.S < y.2.p.S) : pgsF (l ++ [y]) = pgsF l := by
 funext a
 unfold pgsF
 by_cases e : (y.2.p.a : Int) = a
 ·subst e
  rw [newest_snoc]
  unfold newer
  rw [if_pos rfl, h]
  show Option.map _ (if z.2.p.S < y.2.p.S then some y else some z) = _
  rw [if_neg hs]
 ·rw [pgs_other l y a e]
theorem keys_put (l : List (Int × Fd)) (y : Int × Fd) (M : Nat) (hM : y.2.p.a < M) : keysN (l ++ [y]) M = if (pgsF l (y.2.p.a : Int)).isSome then keysN l M else keysN l M + 1 := by
 have hu := cnum_upd (fun a => (newest (a : Int) l).isSome) (fun a => (newest (a : Int) (l ++ [y])).isSome) M y.2.p.a hM (fun a ha => by
  show (newest (a : Int) l).isSome = (newest (a : Int) (l ++ [y])).isSome
  rw [pgs_other l y (a : Int) (by omega)])
 have h1 : (newest (y.2.p.a : Int) (l ++ [y])).isSome = true := by
  rw [newest_snoc]
  unfold newer
  rw [if_pos rfl]
  cases newest (y.2.p.a : Int) l with
  | none => rfl
  | some z =>
   show (if z.2.p.S < y.2.p.S then some y else some z).isSome = true
   split <;> rfl
 rw [if_pos h1] at hu
 have h2 : (pgsF l (y.2.p.a : Int)).isSome = (newest (y.2.p.a : Int) l).isSome := by
  unfold pgsF
  cases newest (y.2.p.a : Int) l <;> rfl
 unfold keysN
 rw [h2]
 split at hu
 ·rename_i h; rw [if_pos h]; omega
 ·rename_i h; rw [if_neg h]; omega
theorem keys_same (l : List (Int × Fd)) (y : Int × Fd) (M : Nat) (h : (newest (y.2.p.a : Int) l).isSome = true) : keysN (l ++ [y]) M = keysN l M := by
 refine cnum_congr _ _ _ fun a ha => ?_
 by_cases e : (y.2.p.a : Int) = (a : Int)
 ·rw [← e, h, newest_snoc]
  unfold newer
  rw [if_pos rfl]
  cases hn : newest (y.2.p.a : Int) l with
  | none => rw [hn] at h; cases h
  | some z =>
   show (if z.2.p.S < y.2.p.S then some y else some z).isSome = true
   split <;> rfl
 ·rw [pgs_other l y (a : Int) e]

/-- The greatest number. -/
def seqOf (l : List (Int × Fd)) : Nat := l.foldl (fun s y => max s y.2.p.S) 0
theorem seqOf_snoc (l : List (Int × Fd)) (y : Int × Fd) : seqOf (l ++ [y]) = max (seqOf l) y.2.p.S := by
 unfold seqOf; rw [List.foldl_append]; rfl
def strikeL (L : Int → List Fd) (i : Int) : Int → List Fd := fun j => if j = i then [] else L j
/-- Blocks that are but copies are taken out, one behind the other. -/
def spoilS (us : List Int) (L : Int → List Fd) : (Int → List Fd) × List Int :=
 us.foldl (fun st i => if copiedB st.1 i then (strikeL st.1 i, st.2 ++ [i]) else st) (L, [])
theorem spoilS_snoc (us : List Int) (L : Int → List Fd) (i : Int) : spoilS (us ++ [i]) L = if copiedB (spoilS us L).1 i then (strikeL (spoilS us L).1 i, (spoilS us L).2 ++ [i]) else spoilS us L := by
 unfold spoilS; rw [List.foldl_append]; rfl
theorem spoilS_sub (us : List Int) (L : Int → List Fd) (j : Int) : (spoilS us L).1 j = L j ∨ (spoilS us L).1 j = [] := by
 have key : ∀ (n : Nat) (us : List Int), us.length = n → (spoilS us L).1 j = L j ∨ (spoilS us L).1 j = [] := by
  intro n
  induction n with
  | zero =>
   intro us h
   rw [List.eq_nil_of_length_eq_zero h]
   exact .inl rfl
  | succ n ih =>
   intro us h
   rcases List.eq_nil_or_concat us with rfl | ⟨u', i, rfl⟩
   ·exact .inl rfl
   ·rw [List.concat_eq_append] at h ⊢
    rw [List.length_append, List.length_singleton] at h
    rw [spoilS_snoc]
    split
    ·show (strikeL _ i) j = L j ∨ (strikeL _ i) j = []
     unfold strikeL
     split
     ·exact .inr rfl
     ·exact ih u' (by omega)
    ·exact ih u' (by omega)
 exact key us.length us rfl
theorem spoilS_len (us : List Int) (L : Int → List Fd) : (spoilS us L).2.length ≤ us.length := by
 have key : ∀ (n : Nat) (us : List Int), us.length = n → (spoilS us L).2.length ≤ n := by
  intro n
  induction n with
  | zero =>
   intro us h
   rw [List.eq_nil_of_length_eq_zero h]
   exact Nat.le_refl _
  | succ n ih =>
   intro us h
   rcases List.eq_nil_or_concat us with rfl | ⟨u', i, rfl⟩
   ·exact Nat.zero_le _
   ·rw [List.concat_eq_append] at h ⊢
    rw [List.length_append, List.length_singleton] at h
    have := ih u' (by omega)
    rw [spoilS_snoc]
    split
    ·show (_ ++ [i]).length ≤ _
     rw [List.length_append, List.length_singleton]
     omega
    ·omega
 exact key us.length us rfl
theorem take_snocI (l : List Int) (p : Nat) (h : p < l.length) : l.take (p + 1) = l.take p ++ [l.getD p 0] := by
 rw [List.take_add_one, List.getElem?_eq_getElem h, List.getD_eq_getElem?_getD, List.getElem?_eq_getElem h]
 rfl
theorem us_nodup (nb : Nat) (bad : List Int) : (us nb bad).Nodup := by
 unfold us usb
 refine List.Pairwise.filter _ ?_
 exact List.Pairwise.map _ (fun a b h e => h (by injection e)) List.nodup_range
end Go.Proofs.Ytpcbpljdiacbmaa.Scan
