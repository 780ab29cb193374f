import Derived.Test.YtnlidokfmpfepaaPoolRight
import Derived.Test.YtnlidokfmpfepaaPoolLeastLaw
set_option linter.unusedVariables false
set_option linter.unusedSimpArgs false
namespace Go.Proofs.Ytnlidokfmpfepaa.Pool
open Go.RowKit Go.Proofs.Ytnlidokfmpfepaa.Kit Go.Maps

theorem PS.other {w w' : World} {b g n : Nat} {A : Option Addr} {m c : Nat} {xs : List Int} {hs : List (Option Nat)} (h : PS w b g n A m c xs hs) {r : Nat} (hG : w.grownBy w' (some r)) (hb : b ≠ r) (hg : g ≠ r) (hn : 0 < m → ∀ a, A = some a → a.block ≠ r) : PS w' b g n A m c xs hs := by
  obtain ⟨D, ho, q⟩ := h.mp
  exact ⟨h.blk.grown hG (by simpa using hb), h.nums.grown hG (fun h0 a ha => by simpa using hn h0 a ha), ⟨D, ho.kept hG (by first | simpa using hg | simpa using hg.symm), q⟩, h.len, h.xb, h.mc, h.mm⟩

def goodB (xs : List Int) (i : Nat) : Bool := decide (0 ≤ xs.getD i 0) && decide (xs.getD i 0 < 64) && (decide (i = 0) || decide (xs.getD (i - 1) 0 < xs.getD i 0))
def riseB (xs : List Int) : Nat → Bool
  | 0 => true
  | k + 1 => riseB xs k && goodB xs k
theorem goodB_iff (xs : List Int) (i : Nat) : goodB xs i = true ↔ goodAt xs i := by
  unfold goodB goodAt
  simp only [Bool.and_eq_true, Bool.or_eq_true, decide_eq_true_eq]
  constructor
  · rintro ⟨⟨h1, h2⟩, h3⟩
    exact ⟨h1, h2, fun h0 => by rcases h3 with h3 | h3 <;> omega⟩
  · rintro ⟨h1, h2, h3⟩
    refine ⟨⟨h1, h2⟩, ?_⟩
    by_cases h0 : i = 0
    · exact .inl h0
    · exact .inr (h3 (by omega))
theorem riseB_iff (xs : List Int) : ∀ k, riseB xs k = true ↔ ∀ i, i < k → goodAt xs i := by
  intro k
  induction k with
  | zero => exact ⟨fun _ i hi => absurd hi (by omega), fun _ => rfl⟩
  | succ k ih =>
    unfold riseB
    rw [Bool.and_eq_true, ih, goodB_iff]
    constructor
    · rintro ⟨h1, h2⟩ i hi
      rcases Nat.lt_succ_iff_lt_or_eq.1 hi with h | rfl
      · exact h1 i h
      · exact h2
    · intro h
      exact ⟨fun i hi => h i (by omega), h k (by omega)⟩
theorem rise_iff (xs : List Int) : riseB xs xs.length = true ↔ Rise xs := riseB_iff xs xs.length

theorem getD_set_g {α : Type} (l : List α) (k j : Nat) (v d : α) (hk : k < l.length) : (l.set k v).getD j d = if j = k then v else l.getD j d := by
  rw [List.getD_eq_getElem?_getD, List.getElem?_set, List.getD_eq_getElem?_getD]
  by_cases e : k = j
  · subst e
    rw [if_pos rfl, if_pos hk, if_pos rfl]
    rfl
  · rw [if_neg e, if_neg (fun x => e x.symm)]
theorem getD_rep {α : Type} (n j : Nat) (v : α) : (List.replicate n v).getD j v = v := by
  rw [List.getD_eq_getElem?_getD, List.getElem?_replicate]
  split <;> rfl
/-- is: which blocks there are. -/
def isOf (xs : List Int) : List Bool := xs.foldl (fun bs x => bs.set x.toNat true) (List.replicate 64 false)
theorem isOf_snoc (xs : List Int) (x : Int) : isOf (xs ++ [x]) = (isOf xs).set x.toNat true := by
  unfold isOf
  rw [List.foldl_append]
  rfl
theorem isOf_facts : ∀ (xs : List Int), (∀ x ∈ xs, 0 ≤ x ∧ x < 64) → (isOf xs).length = 64 ∧ ∀ k : Nat, k < 64 → ((k : Int) ∈ xs ↔ (isOf xs).getD k false = true) := by
  have aux : ∀ (l : List Int) (bs : List Bool), bs.length = 64 → (∀ x ∈ l, 0 ≤ x ∧ x < 64) → (l.foldl (fun bs x => bs.set x.toNat true) bs).length = 64 ∧ ∀ k : Nat, k < 64 → ((l.foldl (fun bs x => bs.set x.toNat true) bs).getD k false = true ↔ (k : Int) ∈ l ∨ bs.getD k false = true) := by
    intro l
    induction l with
    | nil => intro bs hb _; exact ⟨hb, fun k _ => by simp⟩
    | cons x l ih =>
      intro bs hb hx
      have hx0 := hx x List.mem_cons_self
      obtain ⟨h1, h2⟩ := ih (bs.set x.toNat true) (by rw [List.length_set]; exact hb) (fun y hy => hx y (List.mem_cons_of_mem _ hy))
      rw [List.foldl_cons]
      refine ⟨h1, fun k hk => ?_⟩
      rw [h2 k hk, getD_set_g bs x.toNat k true false (by omega), List.mem_cons]
      by_cases e : k = x.toNat
      · rw [if_pos e]
        have : (k : Int) = x := by omega
        simp [this]
      · rw [if_neg e]
        have : ¬ (k : Int) = x := by omega
        simp [this]
  intro xs hx
  obtain ⟨h1, h2⟩ := aux xs (List.replicate 64 false) (by simp) hx
  refine ⟨h1, fun k hk => ?_⟩
  rw [show isOf xs = xs.foldl (fun bs x => bs.set x.toNat true) (List.replicate 64 false) from rfl, h2 k hk, getD_rep]
  simp
theorem rise_bd (xs : List Int) (h : Rise xs) : ∀ x ∈ xs, 0 ≤ x ∧ x < 64 := by
  intro x hx
  obtain ⟨i, hi, rfl⟩ := List.mem_iff_getElem.1 hx
  have := h i hi
  unfold goodAt at this
  rw [List.getD_eq_getElem?_getD, List.getElem?_eq_getElem hi] at this
  exact ⟨this.1, this.2.1⟩
theorem rel_start (xs : List Int) (h : Rise xs) : Rel (newH xs) (List.replicate 64 0) (isOf xs) xs := by
  have hb := rise_bd xs h
  obtain ⟨h1, h2⟩ := isOf_facts xs hb
  refine ⟨by simp, h1, fun k hk => ?_, fun k => by rw [getD_rep]; omega, fun j k hj hk e1 e2 => ?_, h2⟩
  · rw [← hAt_nat _ k hk, newH_at xs hb, getD_rep]
    by_cases e : (k : Int) ∈ xs
    · rw [if_pos e, if_pos ((h2 k hk).1 e)]
    · rw [if_neg e, if_neg (fun x => e ((h2 k hk).2 x))]
  · rw [← hAt_nat _ j hj, newH_at xs hb] at e1
    split at e1 <;> cases e1
/-- What the law's loop makes of how: those below k that were open are used. -/
def clr (hv : List Nat) (bs : List Bool) (k : Nat) : List Nat := (List.range 64).map (fun j => if j < k ∧ bs.getD j false = true ∧ hv.getD j 0 = 2 then 1 else hv.getD j 0)
theorem clr_len (hv : List Nat) (bs : List Bool) (k : Nat) : (clr hv bs k).length = 64 := by simp [clr]
theorem clr_at (hv : List Nat) (bs : List Bool) (k j : Nat) (hj : j < 64) : (clr hv bs k).getD j 0 = if j < k ∧ bs.getD j false = true ∧ hv.getD j 0 = 2 then 1 else hv.getD j 0 := by
  unfold clr
  rw [List.getD_eq_getElem?_getD, List.getElem?_map, List.getElem?_range hj]
  rfl
theorem list_ext64 {a b : List Nat} (ha : a.length = 64) (hb : b.length = 64) (h : ∀ j, j < 64 → a.getD j 0 = b.getD j 0) : a = b := by
  refine List.ext_getElem (ha.trans hb.symm) (fun j h1 h2 => ?_)
  have := h j (by omega)
  simpa [List.getD_eq_getElem?_getD, List.getElem?_eq_getElem h1, List.getElem?_eq_getElem h2] using this
theorem clr_zero (hv : List Nat) (bs : List Bool) (hl : hv.length = 64) : clr hv bs 0 = hv :=
  list_ext64 (clr_len ..) hl (fun j hj => by rw [clr_at hv bs 0 j hj, if_neg (by omega)])
theorem clr_keep (hv : List Nat) (bs : List Bool) (k : Nat) (h : ¬ (bs.getD k false = true ∧ hv.getD k 0 = 2)) : clr hv bs (k + 1) = clr hv bs k := by
  refine list_ext64 (clr_len ..) (clr_len ..) (fun j hj => ?_)
  rw [clr_at _ _ _ j hj, clr_at _ _ _ j hj]
  by_cases e : j = k
  · subst e
    rw [if_neg (fun x => h x.2), if_neg (fun x => h x.2)]
  · by_cases e2 : j < k ∧ bs.getD j false = true ∧ hv.getD j 0 = 2
    · rw [if_pos e2, if_pos ⟨by omega, e2.2⟩]
    · rw [if_neg e2, if_neg (fun x => e2 ⟨by omega, x.2⟩)]
theorem clr_hit (hv : List Nat) (bs : List Bool) (k : Nat) (hk : k < 64) (h : bs.getD k false = true ∧ hv.getD k 0 = 2) : clr hv bs (k + 1) = (clr hv bs k).set k 1 := by
  refine list_ext64 (clr_len ..) (by rw [List.length_set, clr_len]) (fun j hj => ?_)
  rw [getD_set_g _ k j 1 0 (by rw [clr_len]; exact hk), clr_at _ _ _ j hj, clr_at _ _ _ j hj]
  by_cases e : j = k
  · subst e
    rw [if_pos rfl, if_pos ⟨by omega, h⟩]
  · rw [if_neg e]
    by_cases e2 : j < k ∧ bs.getD j false = true ∧ hv.getD j 0 = 2
    · rw [if_pos e2, if_pos ⟨by omega, e2.2⟩]
    · rw [if_neg e2, if_neg (fun x => e2 ⟨by omega, x.2⟩)]
theorem clr_same (hv : List Nat) (bs : List Bool) (k : Nat) : (clr hv bs k).getD k 0 = if 64 ≤ k then 0 else hv.getD k 0 := by
  by_cases h : 64 ≤ k
  · rw [if_pos h, List.getD_eq_getElem?_getD, List.getElem?_eq_none (by rw [clr_len]; exact h)]
    rfl
  · rw [if_neg h, clr_at _ _ _ k (by omega), if_neg (by omega)]
theorem rel_set {hs : List (Option Nat)} {hv : List Nat} {bs : List Bool} {xs : List Int} (R : Rel hs hv bs xs) (hl : hs.length = 64) (k v u : Nat) (hk : k < 64) (hu : hs.getD k none = some u) (hv3 : v ≤ 3) :
    Rel (setH xs hs k v) ((if v = 2 then clr hv bs 64 else hv).set k v) bs xs := by
  have hlen : (if v = 2 then clr hv bs 64 else hv).length = 64 := by
    split
    · exact clr_len ..
    · exact R.lh
  have hbk : bs.getD k false = true := by
    have := R.eq k hk
    rw [hu] at this
    cases hb : bs.getD k false
    · rw [hb] at this
      simp at this
    · rfl
  have hat : ∀ j, j < 64 → (setH xs hs k v).getD j none = if j = k then some v else if v = 2 ∧ hs.getD j none = some 2 then some 1 else hs.getD j none := by
    intro j hj
    rw [← hAt_nat _ j hj, hAt_setH xs hs k v hk hl]
    by_cases e : j = k
    · rw [if_pos (by omega), if_pos e]
    · rw [if_neg (by omega), if_neg e]
      by_cases e2 : v = 2 ∧ hs.getD j none = some 2
      · rw [if_pos e2]
        rcases fOpen_eq R with ⟨h1, h2⟩ | ⟨o, ho, h1, h2, h3⟩
        · rcases openL_spec hs 64 with ⟨_, q⟩ | ⟨j', _, q, _⟩
          · exact absurd e2.2 (q j hj)
          · omega
        · have := R.one o j ho hj h3 e2.2
          subst this
          rw [if_pos ⟨e2.1, h1⟩]
      · rw [if_neg e2, hAt_nat _ j hj]
        by_cases e3 : v = 2 ∧ fOpen xs hs = some (j : Int)
        · have := (fOpen_mem xs hs _ e3.2).2
          rw [hAt_nat _ j hj] at this
          exact absurd ⟨e3.1, this⟩ e2
        · rw [if_neg e3]
  refine ⟨by rw [List.length_set]; exact hlen, R.lb, fun j hj => ?_, fun j => ?_, fun i j hi hj e1 e2 => ?_, R.mem⟩
  · rw [hat j hj, getD_set_g _ k j v 0 (by omega)]
    by_cases e : j = k
    · subst e
      rw [if_pos rfl, if_pos rfl, if_pos hbk]
    · rw [if_neg e, if_neg e, R.eq j hj]
      by_cases h2 : v = 2
      · rw [if_pos h2, clr_at _ _ _ j hj]
        by_cases hb : bs.getD j false = true
        · simp only [hb, if_true]
          by_cases h3 : hv.getD j 0 = 2
          · simp only [h3, h2]
            simp [hj]
          · rw [if_neg (by rintro ⟨_, x⟩; injection x with x; exact h3 x), if_neg (fun x => h3 x.2.2)]
        · rw [if_neg hb, if_neg (fun x => by cases x.2), if_neg hb]
      · rw [if_neg h2, if_neg (fun x => h2 x.1)]
  · by_cases hj : j < 64
    · rw [getD_set_g _ k j v 0 (by omega)]
      split
      · exact hv3
      · split
        · rw [clr_at _ _ _ j hj]
          split
          · omega
          · exact R.le j
        · exact R.le j
    · rw [List.getD_eq_getElem?_getD, List.getElem?_eq_none (by rw [List.length_set]; omega)]
      exact Nat.zero_le _
  · rw [hat i hi] at e1
    rw [hat j hj] at e2
    by_cases h2 : v = 2
    · have no : ∀ i, i < 64 → (if i = k then some v else if v = 2 ∧ hs.getD i none = some 2 then some 1 else hs.getD i none) = some 2 → i = k := by
        intro i hi e
        by_cases h : i = k
        · exact h
        · rw [if_neg h] at e
          by_cases h3 : hs.getD i none = some 2
          · rw [if_pos ⟨h2, h3⟩] at e
            cases e
          · rw [if_neg (fun x => h3 x.2)] at e
            exact absurd e h3
      rw [no i hi e1, no j hj e2]
    · have no : ∀ i, i < 64 → (if i = k then some v else if v = 2 ∧ hs.getD i none = some 2 then some 1 else hs.getD i none) = some 2 → hs.getD i none = some 2 := by
        intro i hi e
        by_cases h : i = k
        · rw [if_pos h] at e
          injection e with e
          exact absurd e h2
        · rw [if_neg h, if_neg (fun x => h2 x.1)] at e
          exact e
      exact R.one i j hi hj (no i hi e1) (no j hj e2)
end Go.Proofs.Ytnlidokfmpfepaa.Pool
