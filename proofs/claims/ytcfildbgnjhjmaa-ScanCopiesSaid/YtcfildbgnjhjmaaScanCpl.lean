import Derived.Test.YtcfildbgnjhjmaaScanNew
set_option linter.unusedVariables false
set_option linter.unusedSimpArgs false
namespace Go.Proofs.Ytcfildbgnjhjmaa.Scan
open Go.RowKit Go.Proofs.Ytcfildbgnjhjmaa.Kit Go.Proofs.Ytcfildbgnjhjmaa.Oct Go.Proofs.Ytcfildbgnjhjmaa.Sheet Go.Proofs.Ytcfildbgnjhjmaa.Nand Go.Proofs.Ytcfildbgnjhjmaa.Plan Go.Proofs.Ytcfildbgnjhjmaa.Log Go.Proofs.Ytcfildbgnjhjmaa.Pmap Go.Maps

/-! What is found where one block was copied over another one. -/
def pF (d : List Int) (i : Nat) : Pg := ⟨1, 0, 1 + i, i, 0, [d.getD i 0]⟩
def pT (d : List Int) (fr i : Nat) : Pg := ⟨1, 0, 100 + i, i, fr + 1, [d.getD i 0]⟩
def isU8 (d : List Int) : Prop := ∀ i, 0 ≤ d.getD i 0 ∧ d.getD i 0 ≤ 255
theorem pF_ok {d : List Int} {i : Nat} (hd : isU8 d) (hi : i < 60000) : (pF d i).ok := pg_ok ⟨by omega, by omega, by omega, by omega, by omega, by omega, by simp, .inl rfl, fun x hx => by rw [List.mem_singleton.1 hx]; have := hd i; omega⟩
theorem pT_ok {d : List Int} {fr i : Nat} (hd : isU8 d) (hi : i < 60000) (hf : fr < 64) : (pT d fr i).ok := pg_ok ⟨by omega, by omega, by omega, by omega, by omega, by omega, by simp, .inl rfl, fun x hx => by rw [List.mem_singleton.1 hx]; have := hd i; omega⟩
def rowP (f : Nat → Pg) (n : Nat) : List (List Int) := (List.range n).map fun i => (f i).bytes
theorem rowP_len (f : Nat → Pg) (n : Nat) : (rowP f n).length = n := by simp [rowP]
theorem rowP_get (f : Nat → Pg) (n k : Nat) (hk : k < n) : (rowP f n).getD k [] = (f k).bytes := by
  rw [List.getD_eq_getElem?_getD, List.getElem?_eq_getElem (by rw [rowP_len]; exact hk)]
  simp [rowP]
theorem rowP_succ (f : Nat → Pg) (n : Nat) : rowP f (n + 1) = rowP f n ++ [(f n).bytes] := by
  unfold rowP; rw [List.range_succ, List.map_append]; rfl
structure Ads (FL : List (Int × Fd)) (k : Nat) (d : List Int) : Prop where
  all : ∀ z ∈ FL, z.2.p.a < k ∧ z.2.p.ys = [d.getD z.2.p.a 0]
  ex : ∀ i, i < k → ∃ z ∈ FL, z.2.p.a = i
theorem Ads.look {FL : List (Int × Fd)} {k : Nat} {d : List Int} (h : Ads FL k d) (i : Nat) (hi : i < k) : ∃ y, newest (i : Int) FL = some y ∧ y ∈ FL ∧ y.2.p.ys = [d.getD i 0] := by
  obtain ⟨z, hz, hza⟩ := h.ex i hi
  obtain ⟨y, hy, hym, hya, -⟩ := newest_has (a := (i : Int)) hz (by rw [hza])
  have e : y.2.p.a = i := by omega
  refine ⟨y, hy, hym, ?_⟩
  have := (h.all y hym).2
  rw [e] at this
  exact this
theorem Ads.keys {FL : List (Int × Fd)} {k : Nat} {d : List Int} (h : Ads FL k d) (M : Nat) (hM : k ≤ M) : keysN FL M = k := by
  refine Eq.trans (cnum_congr _ _ _ fun a ha => ?_) (cnum_lt M k hM)
  by_cases e : a < k
  · obtain ⟨y, hy, -⟩ := h.look a e
    rw [hy, decide_eq_true e]; rfl
  · rw [newest_no (fun z hz e' => e (by have := (h.all z hz).1; omega)), decide_eq_false e]; rfl
theorem spoil_one {us : List Int} {L : Int → List Fd} {t : Int} (nd : us.Nodup) (ht : t ∈ us) (hc : copiedB L t = true) (ho : ∀ j ∈ us, j ≠ t → copiedB L j = false ∧ copiedB (strikeL L t) j = false) : spoilS us L = (strikeL L t, [t]) := by
  have key : ∀ l : List Int, (∀ j ∈ l, j ∈ us) → l.Nodup → spoilS l L = if t ∈ l then (strikeL L t, [t]) else (L, []) := by
    intro l
    induction l using snoc_ind with
    | h0 => intro _ _; rfl
    | h1 l i ih =>
      intro hs hn
      have hn' := List.nodup_append.1 hn
      have e := ih (fun j hj => hs j (List.mem_append_left _ hj)) hn'.1
      have hi : i ∉ l := fun hm => hn'.2.2 i hm i (List.mem_singleton.2 rfl) rfl
      have hiu : i ∈ us := hs i (List.mem_append_right _ (List.mem_singleton.2 rfl))
      rw [spoilS_snoc, e]
      by_cases hit : i = t
      · subst hit
        rw [if_neg hi, if_pos (List.mem_append_right _ (List.mem_singleton.2 rfl))]
        show (if copiedB L i = true then _ else _) = _
        rw [if_pos hc]
        rfl
      · obtain ⟨o1, o2⟩ := ho i hiu hit
        by_cases hm : t ∈ l
        · rw [if_pos hm, if_pos (List.mem_append_left _ hm)]
          show (if copiedB (strikeL L t) i = true then _ else _) = _
          rw [if_neg (by rw [o2]; decide)]
        · rw [if_neg hm]
          rw [show (if t ∈ l ++ [i] then (strikeL L t, [t]) else (L, [])) = (L, []) from if_neg (show ¬ t ∈ l ++ [i] from fun h => by
            rcases List.mem_append.1 h with h | h
            · exact hm h
            · exact hit (List.mem_singleton.1 h).symm)]
          show (if copiedB L i = true then _ else _) = _
          rw [if_neg (by rw [o1]; decide)]
  rw [key us (fun _ h => h) nd, if_pos ht]
section
variable {L : Int → List Fd} {N : NA} {M0 k kf ct fr dt : Nat} {U : List Int} {d : List Int}
/-- What is found on the two blocks. -/
structure CpL (L : Int → List Fd) (U : List Int) (d : List Int) (kf ct fr dt : Nat) : Prop where
  ff : ∀ x ∈ L (fr : Int), x.p = pF d x.k ∧ x.k < kf
  ffx : ∀ j, j < kf → ∃ x ∈ L (fr : Int), x.k = j
  tt : ∀ x ∈ L (dt : Int), x.p = pT d fr x.k ∧ x.k < ct
  ttx : ∀ j, j < ct → ∃ x ∈ L (dt : Int), x.k = j
  no : ∀ i ∈ U, i ≠ (fr : Int) → i ≠ (dt : Int) → L i = []
theorem CpL.of (hd : isU8 d) (hk : kf ≤ 60) (hc : ct ≤ 60) (hf : fr < 64) (hM : kf ≤ M0 + 1) (hM2 : ct ≤ M0 + 1) (h0 : (fr : Int) ∈ U) (h1 : (dt : Int) ∈ U) (hne : fr ≠ dt) (hU : ∀ x ∈ U, 0 ≤ x)
    (hp : ∀ j, (N.blk j).pages = if j = dt then rowP (pT d fr) ct else if j = fr then rowP (pF d) kf else []) (hT : Told (M0 : Int) U (fun i => (N.blk i.toNat).pages) L) : CpL L U d kf ct fr dt := by
  have pf : (N.blk fr).pages = rowP (pF d) kf := by rw [hp, if_neg hne, if_pos rfl]
  have pt : (N.blk dt).pages = rowP (pT d fr) ct := by rw [hp, if_pos rfl]
  refine ⟨fun x hx => ?_, fun j hj => ?_, fun x hx => ?_, fun j hj => ?_, fun i hi n1 n2 => ?_⟩
  · obtain ⟨k1, k2, -⟩ := hT.mem h0 hx
    replace k1 : x.k < (N.blk ((fr : Int)).toNat).pages.length := k1
    replace k2 : rdP ((N.blk ((fr : Int)).toNat).pages.getD x.k []) = some x.p := k2
    rw [Int.toNat_natCast, pf, rowP_len] at k1
    rw [Int.toNat_natCast, pf, rowP_get _ _ _ k1, rdP_yes (pF_ok hd (by omega)) rfl] at k2
    injection k2 with k2
    exact ⟨k2.symm, k1⟩
  · obtain ⟨x, hx, e, -⟩ := hT.has h0 (k := j) (p := pF d j) (by rw [Int.toNat_natCast, pf, rowP_len]; exact hj) (by rw [Int.toNat_natCast, pf, rowP_get _ _ _ hj]; exact rdP_yes (pF_ok hd (by omega)) rfl) (by show (1 : Nat) ≠ 3; omega) (by show (j : Int) ≤ _; omega)
    exact ⟨x, hx, e⟩
  · obtain ⟨k1, k2, -⟩ := hT.mem h1 hx
    replace k1 : x.k < (N.blk ((dt : Int)).toNat).pages.length := k1
    replace k2 : rdP ((N.blk ((dt : Int)).toNat).pages.getD x.k []) = some x.p := k2
    rw [Int.toNat_natCast, pt, rowP_len] at k1
    rw [Int.toNat_natCast, pt, rowP_get _ _ _ k1, rdP_yes (pT_ok hd (by omega) hf) rfl] at k2
    injection k2 with k2
    exact ⟨k2.symm, k1⟩
  · obtain ⟨x, hx, e, -⟩ := hT.has h1 (k := j) (p := pT d fr j) (by rw [Int.toNat_natCast, pt, rowP_len]; exact hj) (by rw [Int.toNat_natCast, pt, rowP_get _ _ _ hj]; exact rdP_yes (pT_ok hd (by omega) hf) rfl) (by show (1 : Nat) ≠ 3; omega) (by show (j : Int) ≤ _; omega)
    exact ⟨x, hx, e⟩
  · cases hL : L i with
    | nil => rfl
    | cons x r =>
      obtain ⟨k1, -⟩ := hT.mem hi (x := x) (by rw [hL]; exact List.mem_cons_self)
      replace k1 : x.k < (N.blk i.toNat).pages.length := k1
      have := hU i hi
      rw [hp, if_neg (by omega), if_neg (by omega)] at k1
      exact absurd k1 (by simp)
theorem copied_nil {L : Int → List Fd} {i : Int} (h : L i = []) : copiedB L i = false := by unfold copiedB; rw [h]
theorem CpL.copied (h : CpL L U d kf ct fr dt) (hc0 : 0 < ct) (hck : ct ≤ kf) (hne : fr ≠ dt) (hk : kf ≤ 60) : copiedB L (dt : Int) = true := by
  unfold copiedB
  cases hL : L (dt : Int) with
  | nil =>
    obtain ⟨x, hx, -⟩ := h.ttx 0 hc0
    rw [hL] at hx
    cases hx
  | cons x0 r =>
    have hto : ∀ x ∈ x0 :: r, x.p = pT d fr x.k ∧ x.k < ct := fun x hx => h.tt x (by rw [hL]; exact hx)
    have e0 : x0.p.f = fr + 1 := by rw [(hto x0 List.mem_cons_self).1]; rfl
    simp only
    rw [Bool.and_eq_true]
    refine ⟨decide_eq_true (by omega), List.all_eq_true.2 fun x hx => ?_⟩
    obtain ⟨h1, h2⟩ := hto x hx
    rw [Bool.and_eq_true]
    refine ⟨decide_eq_true (by rw [h1, e0]; rfl), List.any_eq_true.2 ?_⟩
    obtain ⟨o, ho, hok⟩ := h.ffx x.k (by omega)
    rw [e0, show (((fr + 1 : Nat) : Int) - 1) = (fr : Int) by omega]
    refine ⟨o, ho, ?_⟩
    unfold copyOf
    rw [(h.ff o ho).1, h1, hok]
    refine decide_eq_true ⟨rfl, rfl, ?_, rfl⟩
    show 1 + x.k < 100 + x.k
    omega
theorem CpL.caseA (h : CpL L U d kf ct fr dt) (hd : U.Nodup) (h0 : (fr : Int) ∈ U) (h1 : (dt : Int) ∈ U) (hc0 : 0 < ct) (hck : ct ≤ kf) (hne : fr ≠ dt) (hk : kf ≤ 60) :
    spoilS U L = (strikeL L (dt : Int), [(dt : Int)]) ∧ Ads (flatF U (strikeL L (dt : Int))) kf d := by
  have hs : ∀ x ∈ strikeL L (dt : Int) (fr : Int), x.p = pF d x.k ∧ x.k < kf := fun x hx => by
    unfold strikeL at hx
    rw [if_neg (by omega)] at hx
    exact h.ff x hx
  refine ⟨spoil_one hd h1 (h.copied hc0 hck hne hk) fun j hj hjt => ?_, fun z hz => ?_, fun i hi => ?_⟩
  · by_cases hjf : j = (fr : Int)
    · subst hjf
      exact ⟨copied_no fun x hx => by rw [(h.ff x hx).1]; rfl, copied_no fun x hx => by rw [(hs x hx).1]; rfl⟩
    · have := h.no j hj hjf hjt
      exact ⟨copied_nil this, copied_nil (by unfold strikeL; rw [if_neg hjt]; exact this)⟩
  · obtain ⟨z1, z2⟩ := flatF_mem.1 hz
    by_cases hjf : z.1 = (fr : Int)
    · rw [hjf] at z2
      obtain ⟨e1, e2⟩ := hs _ z2
      rw [e1]
      exact ⟨e2, rfl⟩
    · exfalso
      unfold strikeL at z2
      by_cases hjt : z.1 = (dt : Int)
      · rw [if_pos hjt] at z2; cases z2
      · rw [if_neg hjt, h.no z.1 z1 hjf hjt] at z2; cases z2
  · obtain ⟨x, hx, e⟩ := h.ffx i hi
    refine ⟨((fr : Int), x), flatF_mem.2 ⟨h0, ?_⟩, ?_⟩
    · show x ∈ strikeL L (dt : Int) (fr : Int)
      unfold strikeL
      rw [if_neg (by omega)]
      exact hx
    · show x.p.a = i
      rw [(h.ff x hx).1, e]
      rfl
theorem CpL.caseO (h : CpL L U d kf 0 fr dt) (h0 : (fr : Int) ∈ U) : spoilS U L = (L, []) ∧ Ads (flatF U L) kf d := by
  have hto : L (dt : Int) = [] := by
    cases hL : L (dt : Int) with
    | nil => rfl
    | cons x r => have := (h.tt x (by rw [hL]; exact List.mem_cons_self)).2; omega
  have hall : ∀ i ∈ U, ∀ x ∈ L i, x.p = pF d x.k ∧ x.k < kf := fun i hi x hx => by
    by_cases hjf : i = (fr : Int)
    · rw [hjf] at hx; exact h.ff x hx
    · by_cases hjt : i = (dt : Int)
      · rw [hjt, hto] at hx; cases hx
      · rw [h.no i hi hjf hjt] at hx; cases hx
  refine ⟨spoil_no fun i hi => copied_no fun x hx => by rw [(hall i hi x hx).1]; rfl, fun z hz => ?_, fun i hi => ?_⟩
  · obtain ⟨z1, z2⟩ := flatF_mem.1 hz
    obtain ⟨e1, e2⟩ := hall _ z1 _ z2
    rw [e1]
    exact ⟨e2, rfl⟩
  · obtain ⟨x, hx, e⟩ := h.ffx i hi
    exact ⟨((fr : Int), x), flatF_mem.2 ⟨h0, hx⟩, by show x.p.a = i; rw [(h.ff x hx).1, e]; rfl⟩
theorem CpL.caseB (h : CpL L U d 0 ct fr dt) (h1 : (dt : Int) ∈ U) : spoilS U L = (L, []) ∧ Ads (flatF U L) ct d := by
  have hfr : L (fr : Int) = [] := by
    cases hL : L (fr : Int) with
    | nil => rfl
    | cons x r => have := (h.ff x (by rw [hL]; exact List.mem_cons_self)).2; omega
  have hall : ∀ i ∈ U, ∀ x ∈ L i, x.p = pT d fr x.k ∧ x.k < ct := fun i hi x hx => by
    by_cases hjt : i = (dt : Int)
    · rw [hjt] at hx; exact h.tt x hx
    · by_cases hjf : i = (fr : Int)
      · rw [hjf, hfr] at hx; cases hx
      · rw [h.no i hi hjf hjt] at hx; cases hx
  refine ⟨spoil_no fun i hi => ?_, fun z hz => ?_, fun i hi => ?_⟩
  · unfold copiedB
    cases hL : L i with
    | nil => rfl
    | cons x0 r =>
      have e0 : x0.p.f = fr + 1 := by rw [(hall i hi x0 (by rw [hL]; exact List.mem_cons_self)).1]; rfl
      simp only
      rw [e0, show (((fr + 1 : Nat) : Int) - 1) = (fr : Int) by omega, hfr]
      simp
  · obtain ⟨z1, z2⟩ := flatF_mem.1 hz
    obtain ⟨e1, e2⟩ := hall _ z1 _ z2
    rw [e1]
    exact ⟨e2, rfl⟩
  · obtain ⟨x, hx, e⟩ := h.ttx i hi
    exact ⟨((dt : Int), x), flatF_mem.2 ⟨h1, hx⟩, by show x.p.a = i; rw [(h.tt x hx).1, e]; rfl⟩
end

end Go.Proofs.Ytcfildbgnjhjmaa.Scan
