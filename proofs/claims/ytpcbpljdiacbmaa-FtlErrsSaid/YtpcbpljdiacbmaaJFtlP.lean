import Derived.Test.YtpcbpljdiacbmaaJFtlM
set_option linter.unusedVariables false
set_option linter.unusedSimpArgs false
namespace Go.Proofs.Ytpcbpljdiacbmaa.Ftl
open Go.RowKit Go.Proofs.Ytpcbpljdiacbmaa.Kit Go.Proofs.Ytpcbpljdiacbmaa.Oct Go.Proofs.Ytpcbpljdiacbmaa.Sheet Go.Proofs.Ytpcbpljdiacbmaa.Nand Go.Proofs.Ytpcbpljdiacbmaa.Plan Go.Proofs.Ytpcbpljdiacbmaa.Scan Go.Proofs.Ytpcbpljdiacbmaa.Pmap Go.Proofs.Ytpcbpljdiacbmaa.Pool

/-! What an operation with the array does. -/
structure Rest (N N' : NA) (b : Nat) : Prop where
 len : N'.bs.length = N.bs.length
 pages : N'.pages = N.pages
 fence : N'.fence = N.fence
 other : ∀ j, j ≠ b → N'.blk j = N.blk j
 armed : N'.armed = N.armed - 1
 doom : (N'.blk b).doom = (N.blk b).doom - 1
 dead : (N'.blk b).dead = ((N.blk b).dead || (N.blk b).doom == 1)
theorem rest_begun {N : NA} {b : Nat} (hb : b < N.bs.length) : Rest N (N.begun b) b :=
 ⟨len_begun N b, rfl, rfl, fun j hj => by rw [blk_begun b j hb, if_neg hj], rfl, by rw [blk_begun b b hb, if_pos rfl]; rfl, by rw [blk_begun b b hb, if_pos rfl]; rfl⟩
theorem begun_at {N : NA} {b : Nat} (hb : b < N.bs.length) : (N.begun b).blk b = (N.blk b).tick := by rw [blk_begun b b hb, if_pos rfl]
theorem rest_set {N M : NA} {b : Nat} (h : Rest N M b) (x : NB) (hb : b < N.bs.length) (hd : x.doom = (M.blk b).doom) (hdd : x.dead = (M.blk b).dead) : Rest N (M.setB b x) b := by
 have hl : b < M.bs.length := by rw [h.len]; exact hb
 refine ⟨by rw [len_set]; exact h.len, h.pages, h.fence, fun j hj => ?_, h.armed, ?_, ?_⟩
 ·rw [blk_set b j x hl, if_neg hj]; exact h.other j hj
 ·rw [blk_set b b x hl, if_pos rfl, hd]; exact h.doom
 ·rw [blk_set b b x hl, if_pos rfl, hdd]; exact h.dead
theorem prog_spec {N : NA} {b : Nat} {q : List Int} {ep : Int} (hb : b < N.bs.length) (ho : N.off = false) (hk : (N.blk b).pages.length < N.pages) (hq : q.length = 96) (hh : (N.blk b).half = false) :
  (ep < N.fence ∧ N.prog (b : Int) ((N.blk b).pages.length : Int) q ep = (N, 7)) ∨
  (N.fence ≤ ep ∧ ∃ N' e, N.prog (b : Int) ((N.blk b).pages.length : Int) q ep = (N', e) ∧ Rest N N' b ∧ (N'.blk b).half = false ∧ (N'.blk b).erases = (N.blk b).erases ∧
   ((e = 9 ∧ N.armed = 1 ∧ N'.off = true ∧ (∃ dd, N'.way = some ⟨b, some q, dd⟩) ∧ (N'.blk b).pages = (N.blk b).pages ∧ (N'.blk b).failed = (N.blk b).failed) ∨
    (e = 8 ∧ N'.off = false ∧ N'.way = N.way ∧ (N'.blk b).pages = (N.blk b).pages ++ [tornL q 0] ∧ (N'.blk b).failed = true ∧ (N'.blk b).dead = true) ∨
    (e = 0 ∧ N'.off = false ∧ N'.way = N.way ∧ (N'.blk b).pages = (N.blk b).pages ++ [q] ∧ (N'.blk b).failed = (N.blk b).failed ∧ (N'.blk b).dead = false))) := by
 by_cases hf : N.fence ≤ ep
 ·refine .inr ⟨hf, ?_⟩
  rw [prog_eq (progE_in b _ q.length ep hb ho rfl hk hq hh hf)]
  have hr := rest_begun hb
  have hl : b < (N.begun b).bs.length := by rw [len_begun]; exact hb
  by_cases hof : (N.begun b).off = true
  ·rw [if_pos hof]
   refine ⟨_, _, rfl, ⟨hr.len, hr.pages, hr.fence, hr.other, hr.armed, hr.doom, hr.dead⟩, ?_, ?_, .inl ⟨rfl, ?_, hof, ⟨_, rfl⟩, ?_, ?_⟩⟩
   ·show ((N.begun b).blk b).half = false
    rw [begun_at hb]; exact hh
   ·show ((N.begun b).blk b).erases = _
    rw [begun_at hb]; rfl
   ·rw [begun_off] at hof
    exact beq_iff_eq.1 hof
   ·show ((N.begun b).blk b).pages = _
    rw [begun_at hb]; rfl
   ·show ((N.begun b).blk b).failed = _
    rw [begun_at hb]; rfl
  ·have hof' : (N.begun b).off = false := by cases h : (N.begun b).off; rfl; exact absurd h hof
   rw [if_neg hof]
   by_cases hd : ((N.begun b).blk b).dead = true
   ·rw [if_pos hd]
    refine ⟨_, _, rfl, rest_set hr _ hb rfl rfl, ?_, ?_, .inr (.inl ⟨rfl, hof', rfl, ?_, ?_, ?_⟩)⟩ <;> rw [blk_set b b _ hl, if_pos rfl]
    ·show ((N.begun b).blk b).half = false
     rw [begun_at hb]; exact hh
    ·show ((N.begun b).blk b).erases = _
     rw [begun_at hb]; rfl
    ·show ((N.begun b).blk b).pages ++ _ = _
     rw [begun_at hb]; rfl
    ·exact hd
   ·have hd' : ((N.begun b).blk b).dead = false := by cases h : ((N.begun b).blk b).dead; rfl; exact absurd h hd
    rw [if_neg hd]
    refine ⟨_, _, rfl, rest_set hr _ hb rfl rfl, ?_, ?_, .inr (.inr ⟨rfl, hof', rfl, ?_, ?_, ?_⟩)⟩ <;> rw [blk_set b b _ hl, if_pos rfl]
    ·show ((N.begun b).blk b).half = false
     rw [begun_at hb]; exact hh
    ·show ((N.begun b).blk b).erases = _
     rw [begun_at hb]; rfl
    ·show ((N.begun b).blk b).pages ++ _ = _
     rw [begun_at hb]; rfl
    ·show ((N.begun b).blk b).failed = _
     rw [begun_at hb]; rfl
    ·exact hd'
 ·refine .inl ⟨by omega, ?_⟩
  have he : N.progE (b : Int) ((N.blk b).pages.length : Int) q.length ep = 7 := by
   unfold NA.progE
   rw [if_neg (by rw [atE_in b hb ho]; simp), if_neg (by omega), if_neg (by rw [hq]; simp), if_neg (by rw [show ((b : Int)).toNat = b by omega, hh]; simp), if_pos (by omega)]
  rw [prog_err _ _ _ _ (by rw [he]; decide), he]
theorem erase_spec {N : NA} {b : Nat} {ep : Int} (hb : b < N.bs.length) (ho : N.off = false) :
  (ep < N.fence ∧ N.erase (b : Int) ep = (N, 7)) ∨
  (N.fence ≤ ep ∧ ∃ N' e, N.erase (b : Int) ep = (N', e) ∧ Rest N N' b ∧
   ((e = 9 ∧ N.armed = 1 ∧ N'.off = true ∧ (∃ dd, N'.way = some ⟨b, none, dd⟩) ∧ (N'.blk b).pages = (N.blk b).pages ∧ (N'.blk b).half = (N.blk b).half ∧ (N'.blk b).failed = (N.blk b).failed ∧ (N'.blk b).erases = (N.blk b).erases) ∨
    (e = 8 ∧ N'.off = false ∧ N'.way = N.way ∧ (N'.blk b).pages = (N.blk b).pages ∧ (N'.blk b).half = (N.blk b).half ∧ (N'.blk b).failed = true ∧ (N'.blk b).dead = true ∧ (N'.blk b).erases = (N.blk b).erases) ∨
    (e = 0 ∧ N'.off = false ∧ N'.way = N.way ∧ (N'.blk b).pages = [] ∧ (N'.blk b).half = false ∧ (N'.blk b).failed = (N.blk b).failed ∧ (N'.blk b).dead = false ∧ (N'.blk b).erases = wrap64 ((N.blk b).erases + 1)))) := by
 by_cases hf : N.fence ≤ ep
 ·refine .inr ⟨hf, ?_⟩
  rw [erase_eq hb ho hf]
  have hr := rest_begun hb
  have hl : b < (N.begun b).bs.length := by rw [len_begun]; exact hb
  by_cases hof : (N.begun b).off = true
  ·rw [if_pos hof]
   refine ⟨_, _, rfl, ⟨hr.len, hr.pages, hr.fence, hr.other, hr.armed, hr.doom, hr.dead⟩, .inl ⟨rfl, ?_, hof, ⟨_, rfl⟩, ?_, ?_, ?_, ?_⟩⟩
   ·rw [begun_off] at hof
    exact beq_iff_eq.1 hof
   ·show ((N.begun b).blk b).pages = _
    rw [begun_at hb]; rfl
   ·show ((N.begun b).blk b).half = _
    rw [begun_at hb]; rfl
   ·show ((N.begun b).blk b).failed = _
    rw [begun_at hb]; rfl
   ·show ((N.begun b).blk b).erases = _
    rw [begun_at hb]; rfl
  ·have hof' : (N.begun b).off = false := by cases h : (N.begun b).off; rfl; exact absurd h hof
   rw [if_neg hof]
   by_cases hd : ((N.begun b).blk b).dead = true
   ·rw [if_pos hd]
    refine ⟨_, _, rfl, rest_set hr _ hb rfl rfl, .inr (.inl ⟨rfl, hof', rfl, ?_, ?_, ?_, ?_, ?_⟩)⟩ <;> rw [blk_set b b _ hl, if_pos rfl]
    ·show ((N.begun b).blk b).pages = _
     rw [begun_at hb]; rfl
    ·show ((N.begun b).blk b).half = _
     rw [begun_at hb]; rfl
    ·exact hd
    ·show ((N.begun b).blk b).erases = _
     rw [begun_at hb]; rfl
   ·have hd' : ((N.begun b).blk b).dead = false := by cases h : ((N.begun b).blk b).dead; rfl; exact absurd h hd
    rw [if_neg hd]
    refine ⟨_, _, rfl, rest_set hr _ hb rfl rfl, .inr (.inr ⟨rfl, hof', rfl, ?_, ?_, ?_, ?_, ?_⟩)⟩ <;> rw [blk_set b b _ hl, if_pos rfl]
    ·rfl
    ·rfl
    ·show ((N.begun b).blk b).failed = _
     rw [begun_at hb]; rfl
    ·exact hd'
    ·show wrap64 (((N.begun b).blk b).erases + 1) = _
     rw [begun_at hb]; rfl
 ·refine .inl ⟨by omega, ?_⟩
  have he : N.eraseE (b : Int) ep = 7 := by
   unfold NA.eraseE
   rw [if_neg (by rw [atE_in b hb ho]; simp), if_pos (by omega)]
  unfold NA.erase
  rw [if_pos (by rw [he]; decide), he]

/-! What always holds between the calls of an FTL. -/
structure FWf (c : FC) (st : FT) : Prop where
 pi : PI c.M c.nb st.at' st.has st.cnt
 loc : ∀ a, st.has.getD a false = true → (st.at'.getD a (0, 0)).2 < ((st.N.blk (st.at'.getD a (0, 0)).1.toNat).pages.length : Int)
 lb : st.N.bs.length = c.nb
 lp : st.N.pages = c.np
 er : ∀ i, kwf (st.N.blk i).erases
theorem kwf_wrap (z : Int) : kwf (wrap64 z) := by
 refine kwf_of ?_
 unfold wrap64
 have := IntKind.wrap_i64 z
 omega
theorem FWf.how {c : FC} {st : FT} (h : FWf c st) (b v : Nat) : FWf c (st.how c b v) := ⟨h.pi, h.loc, h.lb, h.lp, h.er⟩
/-- An array of which but block b's pages, which have become more, stands as it did. -/
theorem FWf.same {c : FC} {st : FT} {N' : NA} {b : Nat} (h : FWf c st) (hr : Rest st.N N' b) (hp : (st.N.blk b).pages.length ≤ (N'.blk b).pages.length) (he : (N'.blk b).erases = (st.N.blk b).erases) : FWf c { st with N := N' } := by
 refine ⟨h.pi, fun a ha => ?_, by rw [← h.lb]; exact hr.len, by rw [← h.lp]; exact hr.pages, fun i => ?_⟩
 ·have := h.loc a ha
  by_cases e : (st.at'.getD a (0, 0)).1.toNat = b
  ·show (st.at'.getD a (0, 0)).2 < ((N'.blk (st.at'.getD a (0, 0)).1.toNat).pages.length : Int)
   rw [e] at this ⊢
   omega
  ·show (st.at'.getD a (0, 0)).2 < ((N'.blk (st.at'.getD a (0, 0)).1.toNat).pages.length : Int)
   rw [hr.other _ e]
   exact this
 ·by_cases e : i = b
  ·rw [e]
   show kwf (N'.blk b).erases
   rw [he]
   exact h.er b
  ·show kwf (N'.blk i).erases
   rw [hr.other i e]
   exact h.er i
theorem FWf.num {c : FC} {st : FT} (h : FWf c st) (n : Nat) : FWf c { st with seq := n } := ⟨h.pi, h.loc, h.lb, h.lp, h.er⟩
/-- How many pages of a block count. -/
theorem FWf.cn_pos {c : FC} {st : FT} (h : FWf c st) {a : Nat} (ha : st.has.getD a false = true) {b : Nat} (hb : (st.at'.getD a (0, 0)).1 = (b : Int)) : 1 ≤ st.cn b := by
 have hlt : a < c.M := by rw [← h.pi.lh]; exact has_lt ha
 have hbb := (h.pi.here a ha).1
 have := h.pi.on b (by omega)
 unfold FT.cn
 rw [this]
 have := cnum_pos (onP st.at' st.has b) c.M a hlt (by unfold onP; rw [ha, decide_eq_true hb]; rfl)
 omega
theorem erase_off {N : NA} {b : Nat} {ep : Int} (hb : b < N.bs.length) (ho : N.off = true) : N.erase (b : Int) ep = (N, 9) := by
 have he : N.eraseE (b : Int) ep = 9 := by
  have ha : N.atE (b : Int) = 9 := by
   unfold NA.atE
   rw [if_neg (by omega), ho]
   rfl
  unfold NA.eraseE
  rw [if_pos (by rw [ha]; decide), ha]
 unfold NA.erase
 rw [if_pos (by rw [he]; decide), he]
theorem FWf.erase {c : FC} {st : FT} (h : FWf c st) (b : Nat) (hb : b < c.nb) (hc : st.cn b ≤ 0) : FWf c (eraseF c st b).1 := by
 have key : FWf c { st with N := (st.N.erase (b : Int) c.ep).1 } := by
  have hb' : b < st.N.bs.length := by rw [h.lb]; exact hb
  cases ho : st.N.off with
  | true =>
   rw [erase_off hb' ho]
   exact h
  | false =>
   rcases erase_spec (ep := (c.ep : Int)) hb' ho with ⟨-, e⟩ | ⟨-, N', e, he, hr, hh⟩
   ·rw [e]; exact h
   ·rw [he]
    refine ⟨h.pi, fun a ha => ?_, by rw [← h.lb]; exact hr.len, by rw [← h.lp]; exact hr.pages, fun i => ?_⟩
    ·have hne : (st.at'.getD a (0, 0)).1.toNat ≠ b := fun x => by
      have := (h.pi.here a ha).1
      have := h.cn_pos ha (b := b) (by omega)
      omega
     show (st.at'.getD a (0, 0)).2 < ((N'.blk (st.at'.getD a (0, 0)).1.toNat).pages.length : Int)
     rw [hr.other _ hne]
     exact h.loc a ha
    ·by_cases e : i = b
     ·rw [e]
      show kwf (N'.blk b).erases
      rcases hh with ⟨-, -, -, -, -, -, -, g⟩ | ⟨-, -, -, -, -, -, -, g⟩ | ⟨-, -, -, -, -, -, -, g⟩
      ·rw [g]; exact h.er b
      ·rw [g]; exact h.er b
      ·rw [g]; exact kwf_wrap _
     ·show kwf (N'.blk i).erases
      rw [hr.other i e]
      exact h.er i
 unfold eraseF
 split
 ·exact key.how b 0
 ·split
  ·exact key.how b 3
  ·exact key
theorem FWf.program {c : FC} {st : FT} (h : FWf c st) (b : Nat) (hb : b < c.nb) (hnp : c.np ≤ 32) (K a f : Nat) (ys : List Int) (ha : a < c.M) : FWf c (programF c st b K a f ys).1 := by
 have hb' : b < st.N.bs.length := by rw [h.lb]; exact hb
 unfold programF FT.prg
 by_cases he : st.N.progE (b : Int) ((st.N.blk b).pages.length : Int) (st.next c K a f ys).length c.ep = 0
 ·obtain ⟨g1, g2, g3, g4, g5, g6, g7⟩ := progE_ok he
  rw [Int.toNat_natCast] at g5 g6
  have ho : st.N.off = false := by
   unfold NA.atE at g1
   rw [if_neg (by omega)] at g1
   cases e : st.N.off
   ·rfl
   ·rw [e] at g1; cases g1
  rcases prog_spec (q := st.next c K a f ys) (ep := (c.ep : Int)) hb' ho (by omega) g4 g6 with ⟨x, -⟩ | ⟨-, N', e, hpe, hr, hh, her, hcase⟩
  ·omega
  ·rw [hpe]
   have hk2 : (st.N.blk b).pages.length < 32 := by rw [h.lp] at g3; omega
   rcases hcase with ⟨rfl, -, -, -, hp, -⟩ | ⟨rfl, -, -, hp, -⟩ | ⟨rfl, -, -, hp, -⟩
   ·rw [if_neg (show ¬ ((9 : Int) = 8 ∨ (9 : Int) = 6) by decide), if_neg (show ¬ ((9 : Int) = 0) by decide)]
    exact (h.same hr (by rw [hp]; exact Nat.le_refl _) her).num _
   ·rw [if_pos (show ((8 : Int) = 8 ∨ (8 : Int) = 6) by decide)]
    exact ((h.same hr (by rw [hp, List.length_append]; omega) her).num _).how _ _
   ·rw [if_neg (show ¬ ((0 : Int) = 8 ∨ (0 : Int) = 6) by decide), if_pos (show (0 : Int) = 0 from rfl)]
    have h1 := h.same hr (by rw [hp, List.length_append]; omega) her
    have hpi := h.pi.set a b (st.N.blk b).pages.length ha hb hk2 (fun a' _ ha' e => by
     have h2 := h.loc a' ha'
     rw [e] at h2
     have h2 : ((st.N.blk b).pages.length : Int) < ((st.N.blk ((b : Int)).toNat).pages.length : Int) := h2
     rw [Int.toNat_natCast] at h2
     omega)
    refine ⟨hpi, fun a' ha' => ?_, h1.lb, h1.lp, h1.er⟩
    show ((st.at'.set a ((b : Int), ((st.N.blk b).pages.length : Int))).getD a' (0, 0)).2 < ((N'.blk ((st.at'.set a ((b : Int), ((st.N.blk b).pages.length : Int))).getD a' (0, 0)).1.toNat).pages.length : Int)
    have ha2 : (st.has.set a true).getD a' false = true := ha'
    rw [getD_set_any _ _ _ _ _ (by rw [h.pi.la]; exact ha)]
    rw [getD_set_any _ _ _ _ _ (by rw [h.pi.lh]; exact ha)] at ha2
    by_cases e : a' = a
    ·rw [if_pos e]
     show ((st.N.blk b).pages.length : Int) < ((N'.blk ((b : Int)).toNat).pages.length : Int)
     rw [Int.toNat_natCast, hp, List.length_append, List.length_singleton]
     omega
    ·rw [if_neg e] at ha2 ⊢
     exact h1.loc a' ha2
 ·rw [prog_err _ _ _ _ he]
  have h0 : FWf c { st with seq := st.seq + 1 } := h.num _
  split
  ·exact h0.how _ _
  ·exact h0
end Go.Proofs.Ytpcbpljdiacbmaa.Ftl
