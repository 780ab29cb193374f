import Derived.Test.YtcfildbgnjhjmaaLogClaim
set_option linter.unusedVariables false
set_option linter.unusedSimpArgs false
namespace Go.Proofs.Ytcfildbgnjhjmaa.Log
open Go.RowKit Go.Proofs.Ytcfildbgnjhjmaa.Kit Go.Proofs.Ytcfildbgnjhjmaa.Oct Go.Proofs.Ytcfildbgnjhjmaa.Sheet Go.Proofs.Ytcfildbgnjhjmaa.Nand

/-! The plain law of a claim. -/
/-- Of M but block i is as in N, and that block is x. -/
structure Upd (N M : NA) (i : Nat) (x : NB) : Prop where
  here : M.blk i = x
  there : ∀ j, j ≠ i → M.blk j = N.blk j
  len : M.bs.length = N.bs.length
  pages : M.pages = N.pages
  fence : M.fence = N.fence
  armed : M.armed = 0
  on : M.off = false
theorem upd_set {N M : NA} {i : Nat} (x : NB) (hi : i < N.bs.length) (h : M = { N.tick.setB i x with way := M.way }) (ha : N.armed = 0) : Upd N M i x := by
  have e : M.bs = N.bs.set i x := by rw [h]; rfl
  refine ⟨?_, fun j hj => ?_, ?_, ?_, ?_, ?_, ?_⟩
  · unfold NA.blk; rw [e, List.getD_eq_getElem?_getD, List.getElem?_set_self hi]; rfl
  · unfold NA.blk; rw [e, List.getD_eq_getElem?_getD, List.getElem?_set_ne (Ne.symm hj), ← List.getD_eq_getElem?_getD]
  · rw [e, List.length_set]
  · rw [h]; rfl
  · rw [h]; rfl
  · rw [h]; show N.armed - 1 = 0; omega
  · rw [h]; show (N.armed == 1) = false; rw [ha]; rfl
theorem begun_set (N : NA) (i : Nat) (x : NB) : (N.begun i).setB i x = N.tick.setB i x := by
  unfold NA.begun NA.setB
  simp
theorem prog_upd {N : NA} {i : Nat} {q : List Int} {ep : Int} (hi : i < N.bs.length) (ho : N.off = false) (ha : N.armed = 0) (hh : (N.blk i).half = false) (hl : (N.blk i).pages.length < N.pages) (hf : N.fence ≤ ep) (hq : q.length = 96) :
    (((N.blk i).tick.dead = true ∧ (N.prog (i : Int) ((N.blk i).pages.length : Int) q ep).2 = 8) ∧ Upd N (N.prog (i : Int) ((N.blk i).pages.length : Int) q ep).1 i { (N.blk i).tick.add (tornL q 0) with failed := true }) ∨
    (((N.blk i).tick.dead = false ∧ (N.prog (i : Int) ((N.blk i).pages.length : Int) q ep).2 = 0) ∧ Upd N (N.prog (i : Int) ((N.blk i).pages.length : Int) q ep).1 i ((N.blk i).tick.add q)) := by
  have hb : (N.begun i).blk i = (N.blk i).tick := by rw [blk_begun i i hi, if_pos rfl]
  have hoff : (N.begun i).off = false := by rw [begun_off, ha]; rfl
  rw [prog_eq (progE_in i _ _ ep hi ho rfl hl hq hh hf), hb, hoff, if_neg (by simp)]
  cases hd : (N.blk i).tick.dead
  · right
    rw [if_neg (by simp)]
    exact ⟨⟨rfl, rfl⟩, upd_set _ hi (by rw [begun_set]) ha⟩
  · left
    rw [if_pos rfl]
    exact ⟨⟨rfl, rfl⟩, upd_set _ hi (by rw [begun_set]) ha⟩
theorem erase_upd {N : NA} {i : Nat} {ep : Int} (hi : i < N.bs.length) (ho : N.off = false) (ha : N.armed = 0) (hf : N.fence ≤ ep) :
    (((N.blk i).tick.dead = true ∧ (N.erase (i : Int) ep).2 = 8) ∧ Upd N (N.erase (i : Int) ep).1 i { (N.blk i).tick with failed := true }) ∨
    (((N.blk i).tick.dead = false ∧ (N.erase (i : Int) ep).2 = 0) ∧ Upd N (N.erase (i : Int) ep).1 i (N.blk i).tick.clean) := by
  have hb : (N.begun i).blk i = (N.blk i).tick := by rw [blk_begun i i hi, if_pos rfl]
  have hoff : (N.begun i).off = false := by rw [begun_off, ha]; rfl
  rw [erase_eq hi ho hf, hb, hoff, if_neg (by simp)]
  cases hd : (N.blk i).tick.dead
  · right
    rw [if_neg (by simp)]
    exact ⟨⟨rfl, rfl⟩, upd_set _ hi (by rw [begun_set]) ha⟩
  · left
    rw [if_pos rfl]
    exact ⟨⟨rfl, rfl⟩, upd_set _ hi (by rw [begun_set]) ha⟩

/-- Blocks 0 and 1 tell c 0 and c 1; but q none is sick. -/
structure St (q : Nat) (N : NA) (c : Nat → List (Option (Nat × Nat))) : Prop where
  nb : 2 ≤ N.bs.length
  on : N.off = false
  armed : N.armed = 0
  half : ∀ i, i < 2 → (N.blk i).half = false
  bk : ∀ i, i < 2 → LBk (N.blk i) (c i)
  sick : ∀ i, i < 2 → i ≠ q → (N.blk i).doom = 0 ∧ (N.blk i).dead = false
theorem St.lg {q : Nat} {N : NA} {c : Nat → List (Option (Nat × Nat))} (h : St q N c) : LG N (c 0) (c 1) :=
  ⟨h.nb, h.on, ⟨h.half 0 (by omega), h.half 1 (by omega)⟩, h.bk 0 (by omega), h.bk 1 (by omega)⟩
def chg (c : Nat → List (Option (Nat × Nat))) (i : Nat) (l : List (Option (Nat × Nat))) : Nat → List (Option (Nat × Nat)) := fun j => if j = i then l else c j
theorem chg_here (c : Nat → List (Option (Nat × Nat))) (i : Nat) (l : List (Option (Nat × Nat))) : chg c i l i = l := if_pos rfl
theorem chg_there (c : Nat → List (Option (Nat × Nat))) (i : Nat) (l : List (Option (Nat × Nat))) (j : Nat) (h : j ≠ i) : chg c i l j = c j := if_neg h
theorem St.upd {q : Nat} {N M : NA} {c : Nat → List (Option (Nat × Nat))} {i : Nat} {x : NB} {l : List (Option (Nat × Nat))} (h : St q N c) (hu : Upd N M i x) (hh : i < 2 → x.half = false) (hb : i < 2 → LBk x l) (hs : i < 2 → i ≠ q → x.doom = 0 ∧ x.dead = false) : St q M (chg c i l) := by
  refine ⟨by rw [hu.len]; exact h.nb, hu.on, hu.armed, fun j hj => ?_, fun j hj => ?_, fun j hj hq => ?_⟩
  · by_cases e : j = i
    · subst e; rw [hu.here]; exact hh hj
    · rw [hu.there j e]; exact h.half j hj
  · by_cases e : j = i
    · subst e; rw [hu.here, chg_here]; exact hb hj
    · rw [hu.there j e, chg_there _ _ _ _ e]; exact h.bk j hj
  · by_cases e : j = i
    · subst e; rw [hu.here]; exact hs hj hq
    · rw [hu.there j e]; exact h.sick j hj hq
theorem getD_app_l {α : Type} {l1 l2 : List α} {d : α} {k : Nat} (h : k < l1.length) : (l1 ++ l2).getD k d = l1.getD k d := by
  rw [List.getD_eq_getElem?_getD, List.getD_eq_getElem?_getD, List.getElem?_append_left h]
theorem getD_app_r {α : Type} {l1 l2 : List α} {d : α} {k : Nat} (h : l1.length ≤ k) : (l1 ++ l2).getD k d = l2.getD (k - l1.length) d := by
  rw [List.getD_eq_getElem?_getD, List.getD_eq_getElem?_getD, List.getElem?_append_right h]
theorem LBk.same {x y : NB} {l : List (Option (Nat × Nat))} (h : LBk x l) (hp : y.pages = x.pages) : LBk y l := ⟨by rw [hp]; exact h.len, fun k hk => by rw [hp]; exact h.tells k hk, fun k hk => by rw [hp]; exact h.bytes k hk⟩
theorem LBk.snoc {x y : NB} {l : List (Option (Nat × Nat))} (h : LBk x l) (p : List Int) (o : Option (Nat × Nat)) (hp : y.pages = x.pages ++ [p]) (ht : Tells p o) (hb : IsB p) : LBk y (l ++ [o]) := by
  have hl := h.len
  refine ⟨by rw [hp, List.length_append, List.length_append, h.len]; rfl, fun k hk => ?_, fun k hk => ?_⟩
  · rw [List.length_append, List.length_singleton] at hk
    rw [hp]
    by_cases e : k < l.length
    · rw [getD_app_l (by omega), getD_app_l e]
      exact h.tells k e
    · obtain rfl : k = l.length := by omega
      rw [getD_app_r (by omega), getD_app_r (by omega), hl, Nat.sub_self]
      exact ht
  · rw [List.length_append, List.length_singleton] at hk
    rw [hp]
    by_cases e : k < l.length
    · rw [getD_app_l (by omega)]
      exact h.bytes k e
    · obtain rfl : k = l.length := by omega
      rw [getD_app_r (by omega), hl, Nat.sub_self]
      exact hb
theorem LBk.nil {x : NB} (h : x.pages = []) : LBk x [] := ⟨by rw [h]; rfl, fun k hk => absurd hk (by simp), fun k hk => absurd hk (by simp)⟩
theorem best_none (l : List (Option (Nat × Nat))) : best (l ++ [none]) = best l := by rw [best_snoc]; rfl
theorem clPage_tells {E who : Nat} (hE : E < 281474976710656) (hw : who < 65536) : Tells (clPage E who) (some (E, who)) :=
  ⟨E, 0, [], ⟨by omega, by omega, hE, hE, hw, by omega, by simp, .inr rfl, fun x hx => by cases hx⟩, rfl⟩
theorem clPage_isB (E who : Nat) : IsB (clPage E who) := page_isB _ _ _ _ _ (fun x hx => by cases hx)
theorem clPage_len (E who : Nat) : (clPage E who).length = 96 := page_len _ _ _ _ _ _ (by decide)
theorem torn_zero_len (q : List Int) (hq : q.length = 96) : (tornL q 0).length = 96 := by rw [tornL_len, hq]
theorem torn_tells (q : List Int) (hq : q.length = 96) : Tells (tornL q 0) none := by
  intro E S a f ys hf e
  refine not_page_last (xs := tornL q 0) (.inr ?_) ⟨3, E, S, a, f, ys, hf, e⟩
  rw [tornL_zero, hq]
  decide
theorem torn_isB (q : List Int) : IsB (tornL q 0) := by
  rw [tornL_zero]
  intro x hx
  rw [List.eq_of_mem_replicate hx]
  omega
theorem tick_facts (x : NB) : x.tick.pages = x.pages ∧ x.tick.half = x.half ∧ x.tick.failed = x.failed := ⟨rfl, rfl, rfl⟩

/-- What a claim doesn't touch. -/
structure Fx (N M : NA) (S : Nat → Prop) : Prop where
  len : M.bs.length = N.bs.length
  pages : M.pages = N.pages
  fence : M.fence = N.fence
  there : ∀ j, ¬ S j → M.blk j = N.blk j
  failed : ∀ j, (N.blk j).failed = true → (M.blk j).failed = true
theorem Fx.refl (N : NA) (S : Nat → Prop) : Fx N N S := ⟨rfl, rfl, rfl, fun _ _ => rfl, fun _ h => h⟩
theorem Fx.trans {N M L : NA} {S : Nat → Prop} (h : Fx N M S) (k : Fx M L S) : Fx N L S := ⟨k.len.trans h.len, k.pages.trans h.pages, k.fence.trans h.fence, fun j hj => (k.there j hj).trans (h.there j hj), fun j hj => k.failed j (h.failed j hj)⟩
theorem Upd.fx {N M : NA} {i : Nat} {x : NB} (h : Upd N M i x) (S : Nat → Prop) (hi : S i) (hf : (N.blk i).failed = true → x.failed = true) : Fx N M S :=
  ⟨h.len, h.pages, h.fence, fun j hj => h.there j (fun e => hj (e ▸ hi)), fun j hj => by
    by_cases e : j = i
    · subst e; rw [h.here]; exact hf hj
    · rw [h.there j e]; exact hj⟩
theorem not_dead {q : Nat} {N : NA} {c : Nat → List (Option (Nat × Nat))} {i : Nat} (h : St q N c) (hi : i < 2) (hq : i ≠ q) : (N.blk i).tick = N.blk i ∧ (N.blk i).dead = false := by
  obtain ⟨h1, h2⟩ := h.sick i hi hq
  exact ⟨tick_calm _ h1, h2⟩

theorem fill_st {q i E who : Nat} (hi : i < 2) (hE : E < 281474976710656) (hw : who < 65536) : ∀ (k : Nat) (N : NA) (c : Nat → List (Option (Nat × Nat))), St q N c → N.fence ≤ (E : Int) → N.pages ≤ (N.blk i).pages.length + k →
    ∃ l, St q (fill i (clPage E who) E k N).1 (chg c i l) ∧ Fx N (fill i (clPage E who) E k N).1 (fun j => j = i) ∧
      (((fill i (clPage E who) E k N).2 = some 0 ∧ ∃ t, best t = best (c i) ∧ l = t ++ [some (E, who)]) ∨ ((fill i (clPage E who) E k N).2 = none ∧ best l = best (c i))) := by
  intro k
  induction k with
  | zero =>
    intro N c h hf hp
    refine ⟨c i, ?_, Fx.refl _ _, .inr ⟨rfl, rfl⟩⟩
    have e : chg c i (c i) = c := funext fun j => by unfold chg; split; rename_i e; rw [e]; rfl
    rw [e]
    exact h
  | succ k ih =>
    intro N c h hf hp
    by_cases hl : (N.blk i).pages.length < N.pages
    · rcases prog_upd (q := clPage E who) (by have := h.nb; omega) h.on h.armed (h.half i hi) hl hf (clPage_len _ _) with ⟨⟨hd, he⟩, hu⟩ | ⟨⟨hd, he⟩, hu⟩
      · have hq : i = q := by
          by_cases e : i = q
          · exact e
          · obtain ⟨e1, e2⟩ := not_dead h hi e
            rw [e1, e2] at hd
            cases hd
        have hs := h.upd (l := c i ++ [none]) hu (fun _ => h.half i hi) (fun _ => (h.bk i hi).snoc (tornL (clPage E who) 0) none rfl (torn_tells _ (clPage_len _ _)) (torn_isB _)) (fun _ e => absurd hq e)
        have hfx := hu.fx (fun j => j = i) rfl (fun _ => rfl)
        have hlen : ((N.prog (i : Int) ((N.blk i).pages.length : Int) (clPage E who) E).1.blk i).pages.length = (N.blk i).pages.length + 1 := by
          rw [hu.here]
          show ((N.blk i).pages ++ [_]).length = _
          rw [List.length_append]; rfl
        obtain ⟨l, h1, h2, h3⟩ := ih _ _ hs (by rw [hu.fence]; exact hf) (by rw [hu.pages, hlen]; omega)
        have ef : fill i (clPage E who) E (k + 1) N = fill i (clPage E who) E k (N.prog (i : Int) ((N.blk i).pages.length : Int) (clPage E who) E).1 := by
          conv => lhs; unfold fill
          rw [if_pos hl, if_pos he]
        rw [ef]
        have ec : chg (chg c i (c i ++ [none])) i l = chg c i l := funext fun j => by unfold chg; split <;> rfl
        rw [ec] at h1
        rw [chg_here, best_none] at h3
        exact ⟨l, h1, hfx.trans h2, h3⟩
      · have hs := h.upd (l := c i ++ [some (E, who)]) hu (fun _ => h.half i hi) (fun _ => (h.bk i hi).snoc (clPage E who) _ rfl (clPage_tells hE hw) (clPage_isB _ _)) (fun _ e => by
          obtain ⟨e1, e2⟩ := not_dead h hi e
          rw [e1]
          exact h.sick i hi e)
        have hfx := hu.fx (fun j => j = i) rfl (fun h => h)
        have ef : fill i (clPage E who) E (k + 1) N = ((N.prog (i : Int) ((N.blk i).pages.length : Int) (clPage E who) E).1, some 0) := by
          conv => lhs; unfold fill
          rw [if_pos hl, if_neg (by rw [he]; decide), he]
        rw [ef]
        exact ⟨_, hs, hfx, .inl ⟨rfl, c i, rfl, rfl⟩⟩
    · rw [fill_full _ hl]
      refine ⟨c i, ?_, Fx.refl _ _, .inr ⟨rfl, rfl⟩⟩
      have e : chg c i (c i) = c := funext fun j => by unfold chg; split; rename_i e; rw [e]; rfl
      rw [e]
      exact h

theorem top_gt {c : Nat → List (Option (Nat × Nat))} {i : Nat} (hi : i < 2) (h : (best (c (1 - i))).1 < (best (c i)).1) : top (c 0) (c 1) = best (c i) := by
  unfold top
  rcases (show i = 0 ∨ i = 1 by omega) with rfl | rfl
  · rw [if_neg (by have h : (best (c 1)).1 < (best (c 0)).1 := h; omega)]
  · exact if_pos h
theorem top_congr {c c' : Nat → List (Option (Nat × Nat))} (h0 : best (c' 0) = best (c 0)) (h1 : best (c' 1) = best (c 1)) : top (c' 0) (c' 1) = top (c 0) (c 1) := by
  unfold top; rw [h0, h1]
theorem at_facts (c : Nat → List (Option (Nat × Nat))) : ∃ a, atOf (best (c 0)) (best (c 1)) = a ∧ a < 2 ∧ top (c 0) (c 1) = best (c a) ∧ (best (c (1 - a))).1 ≤ (best (c a)).1 ∧ (a = 1 → (best (c 0)).1 < (best (c 1)).1) := by
  by_cases h : (best (c 0)).1 < (best (c 1)).1
  · refine ⟨1, ?_, by omega, ?_, by show (best (c 0)).1 ≤ _; omega, fun _ => h⟩
    · unfold atOf; rw [if_pos h]
    · unfold top; rw [if_pos h]
  · refine ⟨0, ?_, by omega, ?_, by show (best (c 1)).1 ≤ _; omega, fun e => by omega⟩
    · unfold atOf; rw [if_neg h]
    · unfold top; rw [if_neg h]
theorem up_gt {x : Nat × Nat} {E who : Nat} (h : x.1 < E) : up x (some (E, who)) = (E, who) := if_pos h

theorem claim_st {q E who : Nat} {N : NA} {c : Nat → List (Option (Nat × Nat))} (h : St q N c) (hE1 : 1 ≤ E) (hE : E < 281474976710656) (hw : who ≤ 1) (hnp : 1 ≤ N.pages ∧ N.pages ≤ 32) (hf : N.fence ≤ (E : Int)) (ht : (top (c 0) (c 1)).1 < E) :
    ∃ c', St q (claimN N (c 0) (c 1) (E : Int) (who : Int)).1 c' ∧ Fx N (claimN N (c 0) (c 1) (E : Int) (who : Int)).1 (fun j => j < 2) ∧
      (((claimN N (c 0) (c 1) (E : Int) (who : Int)).2 = 0 ∧ top (c' 0) (c' 1) = (E, who)) ∨ ((claimN N (c 0) (c 1) (E : Int) (who : Int)).2 = 8 ∧ q < 2 ∧ ((claimN N (c 0) (c 1) (E : Int) (who : Int)).1.blk q).failed = true ∧ top (c' 0) (c' 1) = top (c 0) (c 1))) := by
  obtain ⟨a, hat, ha, hta, hoa, ha1⟩ := at_facts c
  have hcl : claimN N (c 0) (c 1) (E : Int) (who : Int) = goOn a (clPage E who) E N := by
    unfold claimN
    rw [if_neg (by omega), if_neg (by omega), hat, Int.toNat_natCast, Int.toNat_natCast]
  rw [hcl]
  rw [hta] at ht
  obtain ⟨l, h1, h2, h3⟩ := fill_st (q := q) (i := a) (who := who) ha hE (by omega) 33 N c h hf (by omega)
  have h2' : Fx N (fill a (clPage E who) E 33 N).1 (fun j => j < 2) := ⟨h2.len, h2.pages, h2.fence, fun j hj => h2.there j (fun e => hj (by omega)), h2.failed⟩
  unfold goOn
  generalize fill a (clPage E who) E 33 N = r at *
  obtain ⟨M, e⟩ := r
  replace h1 : St q M (chg c a l) := h1
  replace h2 : Fx N M (fun j => j < 2) := h2'
  clear h2'
  rcases h3 with ⟨he, t, ht1, hl⟩ | ⟨he, hbl⟩
  · obtain rfl : e = some 0 := he
    refine ⟨chg c a l, h1, h2, .inl ⟨rfl, ?_⟩⟩
    have hb : best l = (E, who) := by rw [hl, best_snoc, ht1, up_gt ht]
    rw [top_gt (i := a) ha (by rw [chg_here, chg_there _ _ _ _ (by omega), hb]; show _ < E; omega), chg_here, hb]
  · obtain rfl : e = none := he
    show ∃ c', St q (other a (clPage E who) E M).1 c' ∧ Fx N (other a (clPage E who) E M).1 (fun j => j < 2) ∧ (((other a (clPage E who) E M).2 = 0 ∧ _) ∨ ((other a (clPage E who) E M).2 = 8 ∧ q < 2 ∧ ((other a (clPage E who) E M).1.blk q).failed = true ∧ _))
    obtain ⟨o, ho⟩ : ∃ o, 1 - a = o := ⟨_, rfl⟩
    have ho2 : o < 2 := by omega
    have hoa' : o ≠ a := by omega
    have hlen : o < M.bs.length := by have := h1.nb; omega
    unfold other
    rw [ho]
    rw [ho] at hoa
    rcases erase_upd (ep := (E : Int)) hlen h1.on h1.armed (by rw [h2.fence]; exact hf) with ⟨⟨hd, he⟩, hu⟩ | ⟨⟨hd, he⟩, hu⟩
    · rw [if_neg (by rw [he]; decide)]
      have hq : o = q := by
        by_cases e : o = q
        · exact e
        · obtain ⟨e1, e2⟩ := not_dead h1 ho2 e
          rw [e1, e2] at hd
          cases hd
      have hs := h1.upd (l := c o) hu (fun _ => h1.half o ho2) (fun _ => by
        have := h1.bk o ho2
        rw [chg_there _ _ _ _ hoa'] at this
        exact this.same rfl) (fun _ e => absurd hq e)
      refine ⟨_, hs, h2.trans (hu.fx _ ho2 (fun _ => rfl)), .inr ⟨he, by omega, by rw [← hq, hu.here], ?_⟩⟩
      have hbo : ∀ j, j < 2 → best (chg (chg c a l) o (c o) j) = best (c j) := fun j hj => by
        by_cases e : j = o
        · rw [e, chg_here]
        · obtain rfl : j = a := by omega
          rw [chg_there _ _ _ _ e, chg_here, hbl]
      exact (top_congr (hbo 0 (by omega)) (hbo 1 (by omega))).trans rfl
    · rw [if_pos he]
      have hs := h1.upd (l := []) hu (fun _ => rfl) (fun _ => LBk.nil rfl) (fun _ e => by
        obtain ⟨e1, e2⟩ := not_dead h1 ho2 e
        rw [e1]
        exact h1.sick o ho2 e)
      have hfx := h2.trans (hu.fx (fun j => j < 2) ho2 (fun h => h))
      generalize (M.erase (o : Int) E).1 = L at *
      have hL0 : (L.blk o).pages.length = 0 := by rw [hu.here]; rfl
      have hLn : 0 < L.pages := by
        rw [hfx.pages]
        exact hnp.1
      rcases prog_upd (N := L) (i := o) (q := clPage E who) (ep := (E : Int)) (by rw [hu.len]; exact hlen) hu.on hu.armed (by rw [hu.here]; rfl) (by rw [hL0]; exact hLn) (by rw [hfx.fence]; exact hf) (clPage_len _ _) with ⟨⟨hd2, he2⟩, hu2⟩ | ⟨⟨hd2, he2⟩, hu2⟩
      · rw [hL0] at hu2 he2
        have hq : o = q := by
          by_cases e : o = q
          · exact e
          · obtain ⟨e1, e2⟩ := not_dead hs ho2 e
            rw [e1, e2] at hd2
            cases hd2
        have hs2 := hs.upd (l := [] ++ [none]) hu2 (fun _ => hs.half o ho2) (fun _ => by
          have := hs.bk o ho2
          rw [chg_here] at this
          exact this.snoc (tornL (clPage E who) 0) none rfl (torn_tells _ (clPage_len _ _)) (torn_isB _)) (fun _ e => absurd hq e)
        refine ⟨_, hs2, hfx.trans (hu2.fx _ ho2 (fun _ => rfl)), .inr ⟨he2, by omega, by rw [← hq]; show (NA.blk _ _).failed = true; rw [show ((0 : Nat) : Int) = 0 from rfl] at hu2; rw [hu2.here], ?_⟩⟩
        have e1 : best (chg (chg (chg c a l) o []) o ([] ++ [none]) a) = best (c a) := by rw [chg_there _ _ _ _ (Ne.symm hoa'), chg_there _ _ _ _ (Ne.symm hoa'), chg_here, hbl]
        have e2 : best (chg (chg (chg c a l) o []) o ([] ++ [none]) o) = (0, 0) := by rw [chg_here]; rfl
        rw [hta, ← e1]
        generalize chg (chg (chg c a l) o []) o ([] ++ [none]) = c' at *
        unfold top
        rcases (show a = 0 ∨ a = 1 by omega) with rfl | rfl
        · obtain rfl : o = 1 := ho.symm
          rw [if_neg (by rw [e2]; exact Nat.not_lt_zero _)]
        · obtain rfl : o = 0 := ho.symm
          have hpos := ha1 rfl
          rw [if_pos (by rw [e1, e2]; exact Nat.lt_of_le_of_lt (Nat.zero_le _) hpos)]
      · rw [hL0] at hu2 he2
        have hs2 := hs.upd (l := [] ++ [some (E, who)]) hu2 (fun _ => hs.half o ho2) (fun _ => by
          have := hs.bk o ho2
          rw [chg_here] at this
          exact this.snoc (clPage E who) _ rfl (clPage_tells hE (by omega)) (clPage_isB _ _)) (fun _ e => by
          obtain ⟨e1, e2⟩ := not_dead hs ho2 e
          rw [e1]
          exact hs.sick o ho2 e)
        refine ⟨_, hs2, hfx.trans (hu2.fx _ ho2 (fun h => h)), .inl ⟨he2, ?_⟩⟩
        have e1 : best (chg (chg (chg c a l) o []) o ([] ++ [some (E, who)]) a) = best (c a) := by rw [chg_there _ _ _ _ (Ne.symm hoa'), chg_there _ _ _ _ (Ne.symm hoa'), chg_here, hbl]
        have e2 : best (chg (chg (chg c a l) o []) o ([] ++ [some (E, who)]) o) = (E, who) := by rw [chg_here]; exact up_gt (show 0 < E by omega)
        generalize chg (chg (chg c a l) o []) o ([] ++ [some (E, who)]) = c' at *
        rw [top_gt (i := o) ho2 (by rw [show 1 - o = a by omega, e1, e2]; exact ht), e2]
end Go.Proofs.Ytcfildbgnjhjmaa.Log
