import Derived.Test.YtlmjngkblmfdmaaPlanWalks
set_option linter.unusedVariables false
set_option linter.unusedSimpArgs false
namespace Go.Proofs.Ytlmjngkblmfdmaa.Plan
open Go.RowKit Go.Proofs.Ytlmjngkblmfdmaa.Kit

theorem usb_nil_len (i : Nat) : (usb i []).length = i - 2 := by
  induction i with
  | zero => rfl
  | succ i ih =>
    rw [usb_succ, List.length_append, ih]
    by_cases h : 2 ≤ i
    · rw [if_pos ⟨h, by simp⟩]; simp; omega
    · rw [if_neg (by omega)]; simp; omega

theorem usb_grow {B : Int} {bad : List Int} (h2 : 2 ≤ B) (hb : B ∉ bad) : usb (B + 1).toNat bad = usb B.toNat bad ++ [B] := by
  have e : (B + 1).toNat = B.toNat + 1 := by omega
  have e2 : ((B.toNat : Nat) : Int) = B := by omega
  rw [e, usb_succ, e2, if_pos ⟨by omega, hb⟩]

theorem usb_drop (i : Nat) (bad : List Int) (j : Int) (h2 : 2 ≤ j) (hj : j ∉ bad) : (usb i (bad ++ [j])).length + (if j < i then 1 else 0) = (usb i bad).length := by
  induction i with
  | zero => rw [if_neg (by omega)]; rfl
  | succ i ih =>
    rw [usb_succ, usb_succ, List.length_append, List.length_append]
    by_cases hi : (i : Int) = j
    · subst hi
      rw [if_neg (show ¬ ((i : Int) < (i : Int)) by omega)] at ih
      rw [if_neg (show ¬ (2 ≤ i ∧ (i : Int) ∉ bad ++ [(i : Int)]) by simp), if_pos (show 2 ≤ i ∧ (i : Int) ∉ bad from ⟨by omega, hj⟩), if_pos (show (i : Int) < ((i + 1 : Nat) : Int) by omega)]
      simp
      omega
    · have e : (2 ≤ i ∧ (i : Int) ∉ bad ++ [j]) ↔ (2 ≤ i ∧ (i : Int) ∉ bad) := by simp [hi]
      have e2 : (j < ((i + 1 : Nat) : Int)) ↔ (j < (i : Int)) := by omega
      simp only [e, e2]
      omega

theorem fm_yes {B P S : Int} {bad : List Int} (h : fm B P S bad = true) : 4 ≤ B ∧ B ≤ 64 ∧ 2 ≤ P ∧ P ≤ 32 ∧ 0 ≤ S ∧ S ≤ 8 ∧ okTo B bad bad.length ∧ 0 < cap B P S bad := by
  unfold fm at h; exact of_decide_eq_true h

theorem ok_notin {B : Int} {bad : List Int} (h : okTo B bad bad.length) (x : Int) (hx : B ≤ x) : x ∉ bad := by
  intro hm
  obtain ⟨j, hj, rfl⟩ := List.getElem_of_mem hm
  have := h j hj
  have e : bad.getD j 0 = bad[j] := by rw [List.getD_eq_getElem?_getD, List.getElem?_eq_getElem hj]; rfl
  omega

theorem cap_grow {B P S : Int} {bad : List Int} (h2 : 2 ≤ B) (hb : B ∉ bad) : cap (B + 1) P S bad = cap B P S bad + P := by
  unfold cap
  rw [usb_grow h2 hb, List.length_append]
  have e : (((usb B.toNat bad).length + [B].length : Nat) : Int) - S - 1 = ((usb B.toNat bad).length - S - 1) + 1 := by simp; omega
  rw [e, Int.mul_add]
  omega
theorem cap_spare (B P S : Int) (bad : List Int) : cap B P (S + 1) bad = cap B P S bad - P := by
  unfold cap
  have e : ((usb B.toNat bad).length : Int) - (S + 1) - 1 = ((usb B.toNat bad).length - S - 1) - 1 := by omega
  rw [e, Int.mul_sub]
  omega
theorem fm_grow {B P S : Int} {bad : List Int} (h : fm B P S bad = true) (h64 : B ≠ 64) : fm (B + 1) P S bad = true := by
  obtain ⟨h1, h2, h3, h4, h5, h6, h7, h8⟩ := fm_yes h
  unfold fm
  rw [decide_eq_true_eq]
  refine ⟨by omega, by omega, h3, h4, h5, h6, fun j hj => ?_, ?_⟩
  · have := h7 j hj
    exact ⟨this.1, by omega, this.2.2⟩
  · rw [cap_grow (by omega) (ok_notin h7 B (by omega))]
    omega
theorem cap_bad {B P S : Int} {bad : List Int} {j : Int} (h2 : 2 ≤ j) (hj : j ∉ bad) (hB : j < B) : ((usb B.toNat (bad ++ [j])).length : Int) = (usb B.toNat bad).length - 1 ∧ cap B P S (bad ++ [j]) = cap B P S bad - P := by
  have h := usb_drop B.toNat bad j h2 hj
  rw [if_pos (by omega)] at h
  refine ⟨by omega, ?_⟩
  unfold cap
  have e : ((usb B.toNat (bad ++ [j])).length : Int) - S - 1 = ((usb B.toNat bad).length - S - 1) - 1 := by omega
  rw [e, Int.mul_sub]
  omega
theorem fm_bad {B P S : Int} {bad : List Int} {j : Int} (h : fm B P S bad = true) (h2 : 2 ≤ j) (hj : j ∉ bad) (hB : j < B) : fm B P S (bad ++ [j]) = decide (P < cap B P S bad) := by
  obtain ⟨h1, h2', h3, h4, h5, h6, h7, h8⟩ := fm_yes h
  have hc := (cap_bad (P := P) (S := S) h2 hj hB).2
  have hok : okTo B (bad ++ [j]) (bad ++ [j]).length := by
    intro i hi
    rw [List.length_append] at hi
    simp at hi
    by_cases hib : i < bad.length
    · have := h7 i hib
      have e : (bad ++ [j]).getD i 0 = bad.getD i 0 := by simp [List.getD_eq_getElem?_getD, List.getElem?_append_left hib]
      rw [e, List.take_append_of_le_length (by omega)]
      exact this
    · have hib' : i = bad.length := by omega
      subst hib'
      have e : (bad ++ [j]).getD bad.length 0 = j := by simp [List.getD_eq_getElem?_getD]
      rw [e, List.take_append_of_le_length (by omega), List.take_length]
      exact ⟨h2, hB, hj⟩
  unfold fm
  by_cases hp : P < cap B P S bad
  · rw [decide_eq_true hp, decide_eq_true_eq]
    exact ⟨h1, h2', h3, h4, h5, h6, hok, by rw [hc]; omega⟩
  · rw [decide_eq_false hp, decide_eq_false_iff_not]
    rintro ⟨-, -, -, -, -, -, -, h⟩
    rw [hc] at h
    omega
theorem few {B P S : Int} (hB : 0 ≤ B) (hP : 0 ≤ P) (hS : 0 ≤ S) : fm B P S [] = decide (4 ≤ B ∧ B ≤ 64 ∧ 2 ≤ P ∧ P ≤ 32 ∧ S ≤ 8 ∧ 3 ≤ P * (B - 3 - S)) := by
  have hok : okTo B [] ([] : List Int).length := fun j hj => absurd hj (by simp)
  by_cases h4 : 4 ≤ B
  · have hc : cap B P S [] = P * (B - 3 - S) - 2 := by
      unfold cap
      rw [usb_nil_len]
      have e : ((B.toNat - 2 : Nat) : Int) - S - 1 = B - 3 - S := by omega
      rw [e]
    unfold fm
    rw [hc]
    have e : (4 ≤ B ∧ B ≤ 64 ∧ 2 ≤ P ∧ P ≤ 32 ∧ 0 ≤ S ∧ S ≤ 8 ∧ okTo B [] ([] : List Int).length ∧ 0 < P * (B - 3 - S) - 2) ↔ (4 ≤ B ∧ B ≤ 64 ∧ 2 ≤ P ∧ P ≤ 32 ∧ S ≤ 8 ∧ 3 ≤ P * (B - 3 - S)) := by
      generalize P * (B - 3 - S) = x
      constructor
      · rintro ⟨a, b, c, d, e, f, g, h⟩; exact ⟨a, b, c, d, f, by omega⟩
      · rintro ⟨a, b, c, d, f, h⟩; exact ⟨a, b, c, d, hS, f, hok, by omega⟩
    simp only [e]
  · unfold fm
    rw [decide_eq_false (by rintro ⟨h, -⟩; exact h4 h), decide_eq_false (by rintro ⟨h, -⟩; exact h4 h)]
theorem rooms {B P S : Int} {bad : List Int} (h : fm B P S bad = true) : 1 ≤ ((usb B.toNat bad).length : Int) - S - 1 ∧ cap B P S bad + 1 < (((usb B.toNat bad).length : Int) - S - 1) * P := by
  obtain ⟨h1, h2', h3, h4, h5, h6, h7, h8⟩ := fm_yes h
  unfold cap at *
  rw [Int.mul_comm] at h8
  rw [Int.mul_comm P]
  generalize ((usb B.toNat bad).length : Int) - S - 1 = x at *
  refine ⟨?_, by omega⟩
  by_cases hx : 1 ≤ x
  · exact hx
  · have : x * P ≤ 0 := Int.mul_nonpos_of_nonpos_of_nonneg (by omega) (by omega)
    omega
end Go.Proofs.Ytlmjngkblmfdmaa.Plan
