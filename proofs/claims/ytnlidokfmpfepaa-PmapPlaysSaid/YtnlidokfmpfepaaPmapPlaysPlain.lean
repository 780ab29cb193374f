import Derived.Test.YtnlidokfmpfepaaPmapSet
import Derived.Test.YtnlidokfmpfepaaPmapOn
set_option linter.unusedVariables false
set_option linter.unusedSimpArgs false
namespace Go.Proofs.Ytnlidokfmpfepaa.Pmap
open Go.RowKit Go.Proofs.Ytnlidokfmpfepaa.Kit

/-! Two predicates that differ at one number alone. -/
def cnum (p : Nat → Bool) (n : Nat) : Nat := (List.range n).countP p
theorem cnum_succ (p : Nat → Bool) (n : Nat) : cnum p (n + 1) = cnum p n + (if p n = true then 1 else 0) := by
  unfold cnum
  rw [List.range_succ, List.countP_append]
  simp [List.countP_cons, List.countP_nil]
theorem cnum_le (p : Nat → Bool) (n : Nat) : cnum p n ≤ n := by
  unfold cnum
  exact Nat.le_trans List.countP_le_length (by rw [List.length_range]; exact Nat.le_refl _)
theorem cnum_congr (p q : Nat → Bool) (n : Nat) (h : ∀ a, a < n → p a = q a) : cnum p n = cnum q n := by
  induction n with
  | zero => rfl
  | succ n ih => rw [cnum_succ, cnum_succ, ih (fun a ha => h a (by omega)), h n (by omega)]
theorem cnum_upd (p q : Nat → Bool) (n k : Nat) (hk : k < n) (h : ∀ a, a ≠ k → p a = q a) : cnum q n + (if p k = true then 1 else 0) = cnum p n + (if q k = true then 1 else 0) := by
  induction n with
  | zero => cases hk
  | succ n ih =>
    rw [cnum_succ, cnum_succ]
    by_cases e : k = n
    · subst e
      rw [cnum_congr p q k (fun a ha => h a (by omega))]
      omega
    · have := ih (by omega)
      rw [h n (by omega)]
      omega
theorem cnum_pos (p : Nat → Bool) (n k : Nat) (hk : k < n) (h : p k = true) : 1 ≤ cnum p n := by
  induction n with
  | zero => cases hk
  | succ n ih =>
    rw [cnum_succ]
    by_cases e : k = n
    · subst e; rw [if_pos h]; omega
    · have := ih (by omega); omega
theorem isum_set (l : List Int) (i : Nat) (v : Int) (h : i < l.length) : isum (l.set i v) = isum l - l.getD i 0 + v := by
  induction l generalizing i with
  | nil => cases h
  | cons x l ih =>
    cases i with
    | zero => simp [isum, List.getD]; omega
    | succ i =>
      have := ih i (by simpa using h)
      simp only [List.set_cons_succ, isum, this]
      rw [show (x :: l).getD (i + 1) 0 = l.getD i 0 from rfl]
      omega
theorem getD_set_any {α : Type} (l : List α) (k j : Nat) (d v : α) (hk : k < l.length) : (l.set k v).getD j d = if j = k then v else l.getD j d := by
  rw [List.getD_eq_getElem?_getD, List.getElem?_set, List.getD_eq_getElem?_getD]
  by_cases e : k = j
  · subst e
    rw [if_pos rfl, if_pos rfl, if_pos hk]
    rfl
  · rw [if_neg e, if_neg (fun x => e x.symm)]

/-! The map as it is. -/
def onP (at' : List (Int × Int)) (has : List Bool) (k : Nat) (a : Nat) : Bool := has.getD a false && decide ((at'.getD a (0, 0)).1 = (k : Int))
structure PI (N M : Nat) (at' : List (Int × Int)) (has : List Bool) (cnt : List Int) : Prop where
  la : at'.length = N
  lh : has.length = N
  lc : cnt.length = M
  here : ∀ a, has.getD a false = true → (0 ≤ (at'.getD a (0, 0)).1 ∧ (at'.getD a (0, 0)).1 < M) ∧ 0 ≤ (at'.getD a (0, 0)).2 ∧ (at'.getD a (0, 0)).2 < 32
  gone : ∀ a, has.getD a false = false → at'.getD a (0, 0) = (0, 0)
  inj : ∀ a c, has.getD a false = true → has.getD c false = true → at'.getD a (0, 0) = at'.getD c (0, 0) → a = c
  on : ∀ k, k < M → cnt.getD k 0 = (cnum (onP at' has k) N : Int)
  all : isum cnt = (cnum (fun a => has.getD a false) N : Int)
theorem has_lt {has : List Bool} {a : Nat} (h : has.getD a false = true) : a < has.length := by
  by_cases e : a < has.length
  · exact e
  · rw [List.getD_eq_getElem?_getD, List.getElem?_eq_none (by omega)] at h
    cases h
theorem PI.start (N M : Nat) : PI N M (List.replicate N (0, 0)) (List.replicate N false) (List.replicate M 0) := by
  have hf : ∀ a, (List.replicate N false).getD a false = false := fun a => by
    rw [List.getD_eq_getElem?_getD, List.getElem?_replicate]; split <;> rfl
  have hz : ∀ n p, (∀ a, p a = false) → cnum p n = 0 := fun n p hp => by
    induction n with
    | zero => rfl
    | succ n ih => rw [cnum_succ, ih, hp n]; rfl
  refine ⟨by simp, by simp, by simp, fun a h => ?_, fun a _ => ?_, fun a c h => ?_, fun k hk => ?_, ?_⟩
  · rw [hf a] at h; cases h
  · rw [List.getD_eq_getElem?_getD, List.getElem?_replicate]; split <;> rfl
  · rw [hf a] at h; cases h
  · rw [hz N _ (fun a => by unfold onP; rw [hf a]; rfl), List.getD_eq_getElem?_getD, List.getElem?_replicate]
    split <;> rfl
  · rw [hz N _ (fun a => hf a)]
    induction M with
    | zero => rfl
    | succ m ih => rw [List.replicate_succ]; simp only [isum]; omega
theorem PI.drop {N M : Nat} {at' : List (Int × Int)} {has : List Bool} {cnt : List Int} (h : PI N M at' has cnt) (k : Nat) (hk : k < N) :
    PI N M (at'.set k (0, 0)) (has.set k false) (dcnt at' has cnt k) := by
  have hA : ∀ a, (at'.set k ((0 : Int), (0 : Int))).getD a (0, 0) = if a = k then (0, 0) else at'.getD a (0, 0) := fun a => getD_set_any _ _ _ _ _ (by rw [h.la]; exact hk)
  have hH : ∀ a, (has.set k false).getD a false = if a = k then false else has.getD a false := fun a => getD_set_any _ _ _ _ _ (by rw [h.lh]; exact hk)
  have hne : ∀ a, (has.set k false).getD a false = true → a ≠ k ∧ has.getD a false = true := fun a ha => by
    rw [hH] at ha
    by_cases e : a = k
    · rw [if_pos e] at ha; cases ha
    · rw [if_neg e] at ha; exact ⟨e, ha⟩
  have hup : ∀ j, cnum (onP (at'.set k (0, 0)) (has.set k false) j) N + (if onP at' has j k = true then 1 else 0) = cnum (onP at' has j) N := fun j => by
    have := cnum_upd (onP at' has j) (onP (at'.set k (0, 0)) (has.set k false) j) N k hk (fun a ha => by unfold onP; rw [hA, hH, if_neg ha, if_neg ha])
    rw [this]
    have : onP (at'.set k (0, 0)) (has.set k false) j k = false := by unfold onP; rw [hH, if_pos rfl]; rfl
    rw [this]
    rfl
  have hal : cnum (fun a => (has.set k false).getD a false) N + (if has.getD k false = true then 1 else 0) = cnum (fun a => has.getD a false) N := by
    have := cnum_upd (fun a => has.getD a false) (fun a => (has.set k false).getD a false) N k hk (fun a ha => by rw [hH, if_neg ha])
    rw [this, hH, if_pos rfl]
    rfl
  refine ⟨by rw [List.length_set]; exact h.la, by rw [List.length_set]; exact h.lh, ?_, fun a ha => ?_, fun a ha => ?_, fun a c ha hc => ?_, fun j hj => ?_, ?_⟩
  · unfold dcnt; split
    · rw [List.length_set]; exact h.lc
    · exact h.lc
  · obtain ⟨e, ha⟩ := hne a ha
    rw [hA, if_neg e]
    exact h.here a ha
  · rw [hA]
    by_cases e : a = k
    · rw [if_pos e]
    · rw [if_neg e]
      rw [hH, if_neg e] at ha
      exact h.gone a ha
  · obtain ⟨e, ha⟩ := hne a ha
    obtain ⟨e2, hc⟩ := hne c hc
    rw [hA, hA, if_neg e, if_neg e2]
    exact h.inj a c ha hc
  · have hu := hup j
    have ho := h.on j hj
    unfold dcnt
    by_cases hh : has.getD k false = true
    · rw [if_pos hh]
      have hb := (h.here k hh).1
      rw [getD_set_any _ _ _ _ _ (by rw [h.lc]; omega)]
      by_cases e : j = (at'.getD k (0, 0)).1.toNat
      · rw [if_pos e, ← e, ho]
        rw [if_pos (by unfold onP; rw [hh, Bool.true_and]; exact decide_eq_true (by omega))] at hu
        omega
      · rw [if_neg e, ho]
        rw [if_neg (by unfold onP; rw [hh, Bool.true_and, decide_eq_false (by omega)]; simp)] at hu
        omega
    · rw [if_neg hh, ho]
      rw [if_neg (by unfold onP; rw [Bool.eq_false_iff.2 hh]; simp)] at hu
      omega
  · have ha := h.all
    unfold dcnt
    by_cases hh : has.getD k false = true
    · rw [if_pos hh] at hal ⊢
      have hb := (h.here k hh).1
      rw [isum_set _ _ _ (by rw [h.lc]; omega)]
      omega
    · rw [if_neg hh] at hal ⊢
      omega
theorem PI.set {N M : Nat} {at' : List (Int × Int)} {has : List Bool} {cnt : List Int} (h : PI N M at' has cnt) (k B P : Nat) (hk : k < N) (hB : B < M) (hP : P < 32)
    (hno : ∀ a, a ≠ k → has.getD a false = true → at'.getD a (0, 0) ≠ ((B : Int), (P : Int))) :
    PI N M (at'.set k ((B : Int), (P : Int))) (has.set k true) (scnt at' has cnt k B) := by
  have hd := h.drop k hk
  have hA : ∀ a, (at'.set k ((B : Int), (P : Int))).getD a (0, 0) = if a = k then ((B : Int), (P : Int)) else at'.getD a (0, 0) := fun a => getD_set_any _ _ _ _ _ (by rw [h.la]; exact hk)
  have hH : ∀ a, (has.set k true).getD a false = if a = k then true else has.getD a false := fun a => getD_set_any _ _ _ _ _ (by rw [h.lh]; exact hk)
  have hA0 : ∀ a, (at'.set k ((0 : Int), (0 : Int))).getD a (0, 0) = if a = k then (0, 0) else at'.getD a (0, 0) := fun a => getD_set_any _ _ _ _ _ (by rw [h.la]; exact hk)
  have hH0 : ∀ a, (has.set k false).getD a false = if a = k then false else has.getD a false := fun a => getD_set_any _ _ _ _ _ (by rw [h.lh]; exact hk)
  have hup : ∀ j, cnum (onP (at'.set k ((B : Int), (P : Int))) (has.set k true) j) N = cnum (onP (at'.set k (0, 0)) (has.set k false) j) N + (if j = B then 1 else 0) := fun j => by
    have := cnum_upd (onP (at'.set k (0, 0)) (has.set k false) j) (onP (at'.set k ((B : Int), (P : Int))) (has.set k true) j) N k hk (fun a ha => by unfold onP; rw [hA, hH, hA0, hH0, if_neg ha, if_neg ha, if_neg ha, if_neg ha])
    rw [if_neg (show ¬ (onP (at'.set k (0, 0)) (has.set k false) j k = true) by unfold onP; rw [hH0, if_pos rfl]; simp)] at this
    have e : onP (at'.set k ((B : Int), (P : Int))) (has.set k true) j k = decide (j = B) := by
      unfold onP
      rw [hH, hA, if_pos rfl, if_pos rfl, Bool.true_and]
      by_cases e : j = B
      · rw [decide_eq_true e, decide_eq_true (by omega)]
      · rw [decide_eq_false e, decide_eq_false (by omega)]
    rw [e] at this
    by_cases e : j = B
    · rw [if_pos e]; rw [if_pos (decide_eq_true e)] at this; omega
    · rw [if_neg e]; rw [if_neg (by rw [decide_eq_false e]; simp)] at this; omega
  have hal : cnum (fun a => (has.set k true).getD a false) N = cnum (fun a => (has.set k false).getD a false) N + 1 := by
    have := cnum_upd (fun a => (has.set k false).getD a false) (fun a => (has.set k true).getD a false) N k hk (fun a ha => by rw [hH, hH0, if_neg ha, if_neg ha])
    rw [hH0, hH, if_pos rfl, if_pos rfl] at this
    simpa using this
  have hlc := hd.lc
  refine ⟨by rw [List.length_set]; exact h.la, by rw [List.length_set]; exact h.lh, by unfold scnt; rw [List.length_set]; exact hlc, fun a ha => ?_, fun a ha => ?_, fun a c ha hc => ?_, fun j hj => ?_, ?_⟩
  · rw [hA]
    rw [hH] at ha
    by_cases e : a = k
    · rw [if_pos e]; exact ⟨⟨by simp, by show (B : Int) < M; omega⟩, by simp, by show (P : Int) < 32; omega⟩
    · rw [if_neg e]; rw [if_neg e] at ha; exact h.here a ha
  · rw [hH] at ha
    by_cases e : a = k
    · rw [if_pos e] at ha; cases ha
    · rw [if_neg e] at ha; rw [hA, if_neg e]; exact h.gone a ha
  · rw [hA, hA]
    rw [hH] at ha hc
    by_cases e : a = k
    · by_cases e2 : c = k
      · intro _; omega
      · rw [if_pos e, if_neg e2]
        rw [if_neg e2] at hc
        intro x
        exact absurd x.symm (hno c e2 hc)
    · rw [if_neg e] at ha
      by_cases e2 : c = k
      · rw [if_neg e, if_pos e2]
        intro x
        exact absurd x (hno a e ha)
      · rw [if_neg e, if_neg e2]
        rw [if_neg e2] at hc
        exact h.inj a c ha hc
  · have ho := hd.on j hj
    unfold scnt
    rw [getD_set_any _ _ _ _ _ (by rw [hlc]; exact hB), hup j]
    by_cases e : j = B
    · subst e
      rw [if_pos rfl, if_pos rfl, ho]
      omega
    · rw [if_neg e, if_neg e, ho]
      omega
  · have ha := hd.all
    unfold scnt
    rw [isum_set _ _ _ (by rw [hlc]; exact hB), hal]
    omega

/-! What On tells. -/
theorem byL_spec {N M : Nat} {at' : List (Int × Int)} {has : List Bool} {cnt : List Int} (h : PI N M at' has cnt) (k n : Nat) :
    (∀ P, P < 32 → (byL at' has k n).getD P 0 = 0 ∨ ∃ a : Nat, a < n ∧ (byL at' has k n).getD P 0 = (a : Int) + 1 ∧ has.getD a false = true ∧ at'.getD a (0, 0) = ((k : Int), (P : Int))) ∧
    (byL at' has k n).countP (fun x => decide (0 < x)) = cnum (onP at' has k) n := by
  induction n with
  | zero =>
    refine ⟨fun P hP => .inl ?_, ?_⟩
    · show (List.replicate 32 (0 : Int)).getD P 0 = 0
      rw [List.getD_eq_getElem?_getD, List.getElem?_replicate]
      split <;> rfl
    · rfl
  | succ n ih =>
    obtain ⟨h1, h2⟩ := ih
    have hlen := byL_len at' has k n
    rw [byL_succ, cnum_succ]
    unfold byF
    by_cases hc : has.getD n false = true ∧ (at'.getD n (0, 0)).1 = (k : Int)
    · rw [if_pos hc]
      have hp := (h.here n hc.1).2
      obtain ⟨P0, hP0⟩ : ∃ P0 : Nat, (at'.getD n (0, 0)).2 = (P0 : Int) := ⟨_, (Int.toNat_of_nonneg hp.1).symm⟩
      have hP32 : P0 < 32 := by omega
      rw [show (at'.getD n (0, 0)).2.toNat = P0 by omega]
      have heq : at'.getD n (0, 0) = ((k : Int), (P0 : Int)) := Prod.ext hc.2 hP0
      have hz : (byL at' has k n).getD P0 0 = 0 := by
        rcases h1 P0 hP32 with h1 | ⟨a, ha, -, hh, he⟩
        · exact h1
        · have := h.inj a n hh hc.1 (he.trans heq.symm)
          omega
      refine ⟨fun P hP => ?_, ?_⟩
      · rw [getD_set_any _ _ _ _ _ (by rw [hlen]; exact hP32)]
        by_cases e : P = P0
        · subst e
          rw [if_pos rfl]
          exact .inr ⟨n, by omega, rfl, hc.1, heq⟩
        · rw [if_neg e]
          rcases h1 P hP with h1 | ⟨a, ha, r⟩
          · exact .inl h1
          · exact .inr ⟨a, by omega, r⟩
      · rw [List.countP_set (h := by rw [hlen]; exact hP32), h2]
        have hz2 : (byL at' has k n)[P0]'(by rw [hlen]; exact hP32) = 0 := by
          rw [List.getD_eq_getElem?_getD, List.getElem?_eq_getElem (by rw [hlen]; exact hP32)] at hz
          exact hz
        rw [hz2, if_neg (by simp), if_pos (by exact decide_eq_true (by omega)), if_pos (by unfold onP; rw [hc.1, Bool.true_and]; exact decide_eq_true hc.2)]
        omega
    · rw [if_neg hc]
      refine ⟨fun P hP => ?_, ?_⟩
      · rcases h1 P hP with h1 | ⟨a, ha, r⟩
        · exact .inl h1
        · exact .inr ⟨a, by omega, r⟩
      · rw [h2, if_neg]
        · rfl
        · unfold onP
          intro x
          rw [Bool.and_eq_true] at x
          exact hc ⟨x.1, of_decide_eq_true x.2⟩
def qsL (l : List Int) : List Nat := (List.range 32).filter (fun P => decide (0 < l.getD P 0))
theorem outs_qs (l : List Int) (h : l.length = 32) : outs l = (qsL l).map (fun P => l.getD P 0 - 1) := by
  have e : l = (List.range 32).map (fun P => l.getD P 0) := by
    apply List.ext_getElem
    · simp [h]
    · intro i h1 h2
      rw [List.getElem_map, List.getElem_range, List.getD_eq_getElem?_getD, List.getElem?_eq_getElem h1]
      rfl
  unfold outs qsL
  conv => lhs; rw [e]
  rw [List.filter_map, List.map_map]
  rfl
theorem qsL_len (l : List Int) (h : l.length = 32) : (qsL l).length = (outs l).length := by rw [outs_qs l h, List.length_map]
theorem outs_len (l : List Int) : (outs l).length = l.countP (fun x => decide (0 < x)) := by
  unfold outs
  rw [List.length_map, List.countP_eq_length_filter]
/-- The i-th that On tells: it is there, on k, and its page is greater than the one's ahead. -/
theorem outs_at {N M : Nat} {at' : List (Int × Int)} {has : List Bool} {cnt : List Int} (h : PI N M at' has cnt) (k : Nat) (hk : k < M) :
    ((outs (byL at' has k N)).length : Int) = cnt.getD k 0 ∧ (outs (byL at' has k N)).length ≤ 32 ∧
    (∀ i, i < (outs (byL at' has k N)).length → ∃ a : Nat, a < N ∧ (outs (byL at' has k N)).getD i 0 = (a : Int) ∧ has.getD a false = true ∧ (at'.getD a (0, 0)).1 = (k : Int) ∧ (at'.getD a (0, 0)).2 = (((qsL (byL at' has k N)).getD i 0 : Nat) : Int)) ∧
    (∀ i, i + 1 < (outs (byL at' has k N)).length → (qsL (byL at' has k N)).getD i 0 < (qsL (byL at' has k N)).getD (i + 1) 0) := by
  obtain ⟨h1, h2⟩ := byL_spec h k N
  have hlen := byL_len at' has k N
  generalize byL at' has k N = l at *
  have hq := qsL_len l hlen
  refine ⟨by rw [outs_len, h2, h.on k hk], ?_, fun i hi => ?_, fun i hi => ?_⟩
  · rw [outs_len, ← hlen]; exact List.countP_le_length
  · have hi2 : i < (qsL l).length := by omega
    have hm : (qsL l).getD i 0 ∈ qsL l := by
      rw [List.getD_eq_getElem?_getD, List.getElem?_eq_getElem hi2]
      exact List.getElem_mem _
    have hm2 := List.mem_filter.1 (show (qsL l).getD i 0 ∈ (List.range 32).filter _ from hm)
    have hP := List.mem_range.1 hm2.1
    have hpos := of_decide_eq_true hm2.2
    have hg : (outs l).getD i 0 = l.getD ((qsL l).getD i 0) 0 - 1 := by
      rw [outs_qs l hlen, List.getD_eq_getElem?_getD, List.getElem?_map, List.getD_eq_getElem?_getD, List.getD_eq_getElem?_getD, List.getElem?_eq_getElem hi2]
      rfl
    rcases h1 _ hP with h0 | ⟨a, ha, hv, hh, he⟩
    · omega
    · exact ⟨a, ha, by rw [hg, hv]; omega, hh, by rw [he], by rw [he]⟩
  · have hp : (qsL l).Pairwise (fun a b => a < b) := by
      unfold qsL
      exact List.Pairwise.filter _ List.pairwise_lt_range
    have h3 := List.pairwise_iff_getElem.1 hp i (i + 1) (by omega) (by omega) (by omega)
    rw [List.getD_eq_getElem?_getD, List.getElem?_eq_getElem (by omega), List.getD_eq_getElem?_getD, List.getElem?_eq_getElem (by omega)]
    exact h3
end Go.Proofs.Ytnlidokfmpfepaa.Pmap
