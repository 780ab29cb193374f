import Derived.Test.YtnlidokfmpfepaaPmapMoves
set_option linter.unusedVariables false
set_option linter.unusedSimpArgs false
namespace Go.Proofs.Ytnlidokfmpfepaa.Pmap
open Go.RowKit Go.Proofs.Ytnlidokfmpfepaa.Kit

/-- The state of PmapFull: which addresses have a page. -/
def fAt (n : Nat) (h : List Bool) : List (Int × Int) := (List.range 40).map (fun k => if h.getD k false = true then (1, (n : Int) - 1 - k) else (0, 0))
def fNum (n : Nat) (h : List Bool) : Nat := (List.range n).countP (fun k => h.getD k false)
def fCnt (n : Nat) (h : List Bool) : List Int := [0, (fNum n h : Int), 0]
def fOk (n : Nat) (h : List Bool) : Prop := h.length = 40 ∧ ∀ k, h.getD k false = true → k < n
theorem fAt_len (n : Nat) (h : List Bool) : (fAt n h).length = 40 := by simp [fAt]
theorem fAt_get (n : Nat) (h : List Bool) (k : Nat) (hk : k < 40) : (fAt n h).getD k (0, 0) = if h.getD k false = true then (1, (n : Int) - 1 - k) else (0, 0) := by
  unfold fAt
  rw [List.getD_eq_getElem?_getD, List.getElem?_map, List.getElem?_range hk]
  rfl
theorem getD_set_b (h : List Bool) (k j : Nat) (hk : k < h.length) (v : Bool) : (h.set k v).getD j false = if j = k then v else h.getD j false := by
  rw [List.getD_eq_getElem?_getD, List.getElem?_set, List.getD_eq_getElem?_getD]
  by_cases e : k = j
  · subst e
    rw [if_pos rfl, if_pos hk, if_pos rfl]
    rfl
  · rw [if_neg e, if_neg (fun x => e x.symm)]
theorem fAt_set (n : Nat) (h : List Bool) (k : Nat) (hk : k < 40) (hl : h.length = 40) : (fAt n h).set k (1, (n : Int) - 1 - k) = fAt n (h.set k true) := by
  apply List.ext_getElem
  · rw [List.length_set, fAt_len, fAt_len]
  · intro i h1 h2
    rw [fAt_len] at h2
    have e1 : ((fAt n h).set k (1, (n : Int) - 1 - k))[i] = if k = i then (1, (n : Int) - 1 - k) else (fAt n h)[i]'(by rw [fAt_len]; exact h2) := by rw [List.getElem_set]
    have e2 : ∀ g : List Bool, (fAt n g)[i]'(by rw [fAt_len]; exact h2) = if g.getD i false = true then (1, (n : Int) - 1 - i) else (0, 0) := fun g => by
      have := fAt_get n g i h2
      rw [List.getD_eq_getElem?_getD, List.getElem?_eq_getElem (by rw [fAt_len]; exact h2)] at this
      exact this
    rw [e1, e2, e2, getD_set_b h k i (by omega)]
    by_cases e : k = i
    · subst e
      simp
    · have e' : ¬ i = k := fun x => e x.symm
      simp only [if_neg e, if_neg e']
theorem fNum_set (n : Nat) (h : List Bool) (k : Nat) (hk : k < n) (hl : k < h.length) (hf : h.getD k false = false) : fNum n (h.set k true) = fNum n h + 1 := by
  have aux : ∀ m, (List.range m).countP (fun j => (h.set k true).getD j false) = (List.range m).countP (fun j => h.getD j false) + if k < m then 1 else 0 := by
    intro m
    induction m with
    | zero => rfl
    | succ m ih =>
      rw [List.range_succ, List.countP_append, List.countP_append, ih]
      have e : ∀ g : List Bool, List.countP (fun j => g.getD j false) [m] = if g.getD m false = true then 1 else 0 := fun g => by
        rw [List.countP_cons, List.countP_nil, Nat.zero_add]
      rw [e, e, getD_set_b h k m hl]
      by_cases hkm : m = k
      · subst hkm
        rw [if_pos rfl, if_pos rfl, hf, if_neg (Nat.lt_irrefl _), if_neg (by simp), if_pos (Nat.lt_succ_self _)]
      · rw [if_neg hkm]
        by_cases h2 : k < m
        · have h3 : k < m + 1 := by omega
          simp only [if_pos h2, if_pos h3]
          omega
        · have h3 : ¬ k < m + 1 := by omega
          simp only [if_neg h2, if_neg h3]
          omega
  unfold fNum
  rw [aux n, if_pos hk]
theorem fNum_le (n : Nat) (h : List Bool) : fNum n h ≤ n := by
  unfold fNum
  exact Nat.le_trans List.countP_le_length (by rw [List.length_range]; exact Nat.le_refl _)
theorem f_start (n : Nat) : fAt n (List.replicate 40 false) = List.replicate 40 (0, 0) ∧ fCnt n (List.replicate 40 false) = List.replicate 3 0 := by
  have g : ∀ k, (List.replicate 40 false).getD k false = false := fun k => by
    rw [List.getD_eq_getElem?_getD, List.getElem?_replicate]
    split <;> rfl
  constructor
  · unfold fAt
    simp only [g]
    rfl
  · unfold fCnt fNum
    simp only [g]
    rw [List.countP_eq_zero.2 (fun a _ => by simp)]
    rfl
theorem f_scnt (n : Nat) (h : List Bool) (k : Nat) (hk : k < n) (hn : n ≤ 32) (hl : h.length = 40) (hf : h.getD k false = false) : scnt (fAt n h) h (fCnt n h) k 1 = fCnt n (h.set k true) := by
  have hd : dcnt (fAt n h) h (fCnt n h) k = fCnt n h := by unfold dcnt; rw [hf]; exact if_neg (by simp)
  unfold scnt
  rw [hd]
  unfold fCnt
  rw [fNum_set n h k hk (by omega) hf]
  rfl

/-- The addresses that have a page, the greatest first. -/
def fL (n : Nat) (h : List Bool) : List Nat := (List.range n).reverse.filter (fun k => h.getD k false)
theorem fL_len (n : Nat) (h : List Bool) : (fL n h).length = fNum n h := by
  unfold fL fNum
  rw [← List.countP_eq_length_filter, List.countP_reverse]
theorem fL_mem (n : Nat) (h : List Bool) (i : Nat) (hi : i < (fL n h).length) : h.getD ((fL n h).getD i 0) false = true ∧ (fL n h).getD i 0 < n := by
  have hm : (fL n h).getD i 0 ∈ fL n h := by
    rw [List.getD_eq_getElem?_getD, List.getElem?_eq_getElem hi]
    exact List.getElem_mem _
  unfold fL at hm
  rw [List.mem_filter, List.mem_reverse, List.mem_range] at hm
  exact ⟨hm.2, hm.1⟩
theorem fL_dec (n : Nat) (h : List Bool) (i : Nat) (hi : i + 1 < (fL n h).length) : (fL n h).getD (i + 1) 0 < (fL n h).getD i 0 := by
  have hp : (fL n h).Pairwise (fun a b => b < a) := by
    unfold fL
    apply List.Pairwise.filter
    rw [List.pairwise_reverse]
    exact List.pairwise_lt_range
  have := List.pairwise_iff_getElem.1 hp i (i + 1) (by omega) hi (by omega)
  rw [List.getD_eq_getElem?_getD, List.getElem?_eq_getElem hi, List.getD_eq_getElem?_getD, List.getElem?_eq_getElem (by omega)]
  exact this

def fV (n m : Nat) (h : List Bool) (P : Nat) : Int := if P < n ∧ n - 1 - P < m ∧ h.getD (n - 1 - P) false = true then ((n - P : Nat) : Int) else 0
theorem by_get (n : Nat) (h : List Bool) (hn : n ≤ 32) (hok : fOk n h) (m : Nat) (hm : m ≤ 40) : ∀ P, P < 32 → (byL (fAt n h) h 1 m).getD P 0 = fV n m h P := by
  induction m with
  | zero =>
    intro P hP
    have : (byL (fAt n h) h 1 0).getD P 0 = 0 := by
      show (List.replicate 32 (0 : Int)).getD P 0 = 0
      rw [List.getD_eq_getElem?_getD, List.getElem?_replicate]
      split <;> rfl
    rw [this]
    unfold fV
    rw [if_neg (by omega)]
  | succ m ih =>
    intro P hP
    have ih := ih (by omega) P hP
    rw [byL_succ]
    unfold byF
    rw [fAt_get n h m (by omega)]
    cases hm' : h.getD m false
    · rw [if_neg (by simp)]
      rw [ih]
      unfold fV
      by_cases hc : P < n ∧ n - 1 - P < m ∧ h.getD (n - 1 - P) false = true
      · rw [if_pos hc, if_pos ⟨hc.1, by omega, hc.2.2⟩]
      · rw [if_neg hc, if_neg]
        rintro ⟨h1, h2, h3⟩
        refine hc ⟨h1, ?_, h3⟩
        have : n - 1 - P ≠ m := fun e => by rw [e, hm'] at h3; cases h3
        omega
    · have hmn := hok.2 m hm'
      rw [if_pos rfl, if_pos ⟨rfl, rfl⟩]
      have e : ((n : Int) - 1 - (m : Int)).toNat = n - 1 - m := by omega
      rw [e, List.getD_eq_getElem?_getD, List.getElem?_set]
      by_cases hPm : n - 1 - m = P
      · rw [if_pos hPm, if_pos (by rw [byL_len]; omega)]
        unfold fV
        rw [if_pos ⟨by omega, by omega, by rw [show n - 1 - P = m by omega]; exact hm'⟩]
        show ((m : Int) + 1) = _
        omega
      · rw [if_neg hPm, ← List.getD_eq_getElem?_getD, ih]
        unfold fV
        by_cases hc : P < n ∧ n - 1 - P < m ∧ h.getD (n - 1 - P) false = true
        · rw [if_pos hc, if_pos ⟨hc.1, by omega, hc.2.2⟩]
        · rw [if_neg hc, if_neg]
          rintro ⟨h1, h2, h3⟩
          exact hc ⟨h1, by omega, h3⟩
theorem by_eq (n : Nat) (h : List Bool) (hn : n ≤ 32) (hok : fOk n h) : byL (fAt n h) h 1 40 = (List.range 32).map (fun P => fV n 40 h P) := by
  apply List.ext_getElem
  · rw [byL_len]; simp
  · intro i h1 h2
    rw [byL_len] at h1
    have := by_get n h hn hok 40 (Nat.le_refl _) i h1
    rw [List.getD_eq_getElem?_getD, List.getElem?_eq_getElem (by rw [byL_len]; exact h1)] at this
    simp only [List.getElem_map, List.getElem_range]
    exact this
theorem outs_append (a b : List Int) : outs (a ++ b) = outs a ++ outs b := by
  unfold outs
  rw [List.filter_append, List.map_append]
theorem outs_fV (n : Nat) (h : List Bool) (hn : n ≤ 32) (m : Nat) (hm : m ≤ n) : outs ((List.range m).map (fun P => fV n 40 h P)) = (((List.range m).map (fun P => n - 1 - P)).filter (fun k => h.getD k false)).map (fun k : Nat => (k : Int)) := by
  induction m with
  | zero => rfl
  | succ m ih =>
    rw [List.range_succ, List.map_append, outs_append, ih (by omega), List.map_append, List.filter_append, List.map_append]
    congr 1
    show outs [fV n 40 h m] = _
    unfold fV
    cases hh : h.getD (n - 1 - m) false
    · rw [if_neg (by simp)]
      rw [List.getD_eq_getElem?_getD] at hh
      simp [outs, hh]
    · rw [if_pos ⟨by omega, by omega, rfl⟩]
      have h0 : (0 : Int) < ((n - m : Nat) : Int) := by omega
      have h1 : ((n - m : Nat) : Int) - 1 = ((n - 1 - m : Nat) : Int) := by omega
      rw [List.getD_eq_getElem?_getD] at hh
      generalize ((n - m : Nat) : Int) = y at *
      simp [outs, hh, h0, h1]
theorem outs_rest (n : Nat) (h : List Bool) (d : Nat) : outs ((List.range d).map (fun j => fV n 40 h (n + j))) = [] := by
  induction d with
  | zero => rfl
  | succ d ih =>
    rw [List.range_succ, List.map_append, outs_append, ih]
    show outs [fV n 40 h (n + d)] = []
    unfold fV
    rw [if_neg (by omega)]
    rfl
theorem range_rev (n : Nat) : (List.range n).map (fun P => n - 1 - P) = (List.range n).reverse := by
  apply List.ext_getElem
  · simp
  · intro i h1 h2
    simp at h1 h2
    simp [List.getElem_reverse]
theorem outs_by (n : Nat) (h : List Bool) (hn : n ≤ 32) (hok : fOk n h) : outs (byL (fAt n h) h 1 40) = (fL n h).map (fun k : Nat => (k : Int)) := by
  rw [by_eq n h hn hok]
  have e : (List.range 32).map (fun P => fV n 40 h P) = (List.range n).map (fun P => fV n 40 h P) ++ (List.range (32 - n)).map (fun j => fV n 40 h (n + j)) := by
    rw [show (32 : Nat) = n + (32 - n) by omega, List.range_add, List.map_append, List.map_map, Nat.add_sub_cancel_left]
    rfl
  rw [e, outs_append, outs_rest, List.append_nil, outs_fV n h hn n (Nat.le_refl _), range_rev]
  rfl
end Go.Proofs.Ytnlidokfmpfepaa.Pmap
