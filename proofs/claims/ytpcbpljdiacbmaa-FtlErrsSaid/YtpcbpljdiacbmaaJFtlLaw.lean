import Derived.Test.YtpcbpljdiacbmaaJFtlPl
import Derived.Test.YtpcbpljdiacbmaaJFtlQ
import Derived.Test.YtpcbpljdiacbmaaJScanGeo
import Derived.Test.YtpcbpljdiacbmaaJFtlK
import Derived.Lib.SlBytesConst
import Derived.Test.YtpcbpljdiacbmaaJRecs
set_option linter.unusedVariables false
set_option linter.unusedSimpArgs false
namespace Go.Proofs.Ytpcbpljdiacbmaa.Ftl
open Go.RowKit Go.Proofs.Ytpcbpljdiacbmaa.Kit Go.Proofs.Ytpcbpljdiacbmaa.Oct Go.Proofs.Ytpcbpljdiacbmaa.Sheet Go.Proofs.Ytpcbpljdiacbmaa.Nand Go.Proofs.Ytpcbpljdiacbmaa.Plan Go.Proofs.Ytpcbpljdiacbmaa.Scan Go.Proofs.Ytpcbpljdiacbmaa.Pmap Go.Proofs.Ytpcbpljdiacbmaa.Pool

/-! Mounting, as plain data. -/
theorem newH_at (xs : List Int) (h : ∀ x ∈ xs, 0 ≤ x ∧ x < 64) (j : Int) : hAt (newH xs) j = if j ∈ xs then some 0 else none := by
 have aux : ∀ (l : List Int) (hs : List (Option Nat)), hs.length = 64 → (∀ x ∈ l, 0 ≤ x ∧ x < 64) → hAt (l.foldl (fun hs x => hs.set x.toNat (some 0)) hs) j = if j ∈ l then some 0 else hAt hs j := by
  intro l
  induction l with
  | nil => intro hs _ _; simp
  | cons x l ih =>
   intro hs hl hx
   have hx0 := hx x List.mem_cons_self
   rw [List.foldl_cons, ih _ (by rw [List.length_set]; exact hl) (fun y hy => hx y (List.mem_cons_of_mem _ hy)), hAt_set hs x.toNat (by omega) hl]
   have ex : ((x.toNat : Nat) : Int) = x := by omega
   rw [ex]
   by_cases e1 : j ∈ l
   ·rw [if_pos e1, if_pos (List.mem_cons_of_mem _ e1)]
   ·rw [if_neg e1]
    by_cases e2 : j = x
    ·subst e2
     rw [if_pos rfl, if_pos List.mem_cons_self]
    ·rw [if_neg e2, if_neg (by rw [List.mem_cons]; rintro (h | h); exact e2 h; exact e1 h)]
 unfold newH
 rw [aux xs _ (by simp) h]
 by_cases e : j ∈ xs
 ·rw [if_pos e, if_pos e]
 ·rw [if_neg e, if_neg e]
  unfold hAt
  split
  ·rw [List.getD_eq_getElem?_getD, List.getElem?_replicate]
   split <;> rfl
  ·rfl
section
variable {c : FC} {N : NA} {st : FT} {ex : Nat → Prop} {c0 c1 : Nat → Option (Int × Fo)} {s b : Nat} {fe : Int}
/-- A used block is opened again. -/
theorem Pol.reopen (h : Pol c st ex) {b : Nat} (hb : b < 64) (hu : hAt st.hs (b : Int) = some 1) (hno : NoOpen st) (hcp : Cop (L0 c st.N) (b : Int) → (st.N.blk b).pages.length < c.np) : Pol c (st.how c b 2) ex := by
 have hfo : fOpen c.xs st.hs = none := no_fOpen hno
 have hat : ∀ j, hAt (st.how c b 2).hs j = if j = (b : Int) then some 2 else hAt st.hs j := fun j => by
  rw [how_at h.hl hb hu (fun e => by cases e)]
  by_cases e : j = (b : Int)
  ·rw [if_pos e, if_pos e]
  ·rw [if_neg e, if_neg e, if_neg (fun x => by rw [hfo] at x; cases x.2)]
 have hin : (b : Int) ∈ c.xs := hs_in h.none_ hu
 refine ⟨by rw [how_len]; exact h.hl, fun i hi => ?_, fun i hi => ?_, fun i hi => ?_, fun i hi h0 he => ?_, fun i hi h1 => ?_, fun i hi h2 => ?_, fun i j hi hj => ?_⟩
 ·rw [hat]
  by_cases e : (i : Int) = (b : Int)
  ·rw [if_pos e]; exact ⟨2, by omega, rfl⟩
  ·rw [if_neg e]; exact h.pool i hi
 ·rw [hat, if_neg (fun e => hi (by rw [e]; exact hin))]
  exact h.none_ i hi
 ·rw [hat]
  show _ ↔ (st.N.blk i).failed = true
  by_cases e : (i : Int) = (b : Int)
  ·have eb : i = b := by omega
   rw [if_pos e, eb, live_of h hu (by omega)]
   constructor
   ·intro x; injection x with x; cases x
   ·intro x; cases x
  ·rw [if_neg e]; exact h.dead i hi
 ·rw [hat] at h0
  by_cases e : (i : Int) = (b : Int)
  ·rw [if_pos e] at h0; cases h0
  ·rw [if_neg e] at h0
   exact h.free i hi h0 he
 ·rw [hat] at h1
  by_cases e : (i : Int) = (b : Int)
  ·rw [if_pos e] at h1; cases h1
  ·rw [if_neg e] at h1
   exact h.used i hi h1
 ·rw [hat] at h2
  by_cases e : (i : Int) = (b : Int)
  ·have eb : i = b := by omega
   rw [eb]
   exact ⟨(h.used b hin hu).1, hcp⟩
  ·rw [if_neg e] at h2
   exact absurd h2 (hno i)
 ·rw [hat] at hi hj
  by_cases e : (i : Int) = (b : Int)
  ·by_cases e2 : (j : Int) = (b : Int)
   ·omega
   ·rw [if_neg e2] at hj
    exact absurd hj (hno j)
  ·rw [if_neg e] at hi
   exact absurd hi (hno i)
/-- A block on which no page counts is erased. -/
theorem AOk.erase (h : AOk c N c0 s) (hnb : c.nb ≤ 64) (hb : (b : Int) ∈ c.xs) (hcb : ∀ a i x, c0 a = some (i, x) → i ≠ (b : Int)) (hfb : (N.blk b).failed = false) (hon : N.off = false) {ep : Int} :
  (ep < N.fence ∧ N.erase (b : Int) ep = (N, 7)) ∨
  (N.fence ≤ ep ∧ ∃ N' e, N.erase (b : Int) ep = (N', e) ∧ Rest N N' b ∧
   ((e = 9 ∧ N'.off = true ∧ ∀ cut, AOk c (N'.restart cut) c0 s) ∨
    (e = 8 ∧ N'.off = false ∧ AOk c N' c0 s ∧ (N'.blk b).failed = true ∧ L0 c N' = L0 c N) ∨
    (e = 0 ∧ N'.off = false ∧ AOk c N' c0 s ∧ (N'.blk b).pages = [] ∧ (N'.blk b).half = false ∧ (N'.blk b).failed = false ∧ L0 c N' = clrL (L0 c N) (b : Int)))) := by
 obtain ⟨b', eb, -, bn⟩ := xs_nat hb
 have eb : b = b' := by omega
 subst eb
 have hb' : b < N.bs.length := by rw [h.lb]; exact bn
 rcases erase_spec (ep := ep) hb' hon with ⟨hf, e⟩ | ⟨hf, N', z, he, hr, hh⟩
 ·exact .inl ⟨hf, e⟩
 ·refine .inr ⟨hf, N', z, he, hr, ?_⟩
  have her : ∀ i, kwf (N'.blk i).erases := fun i => by
   by_cases e : i = b
   ·rw [e]
    rcases hh with ⟨-, -, -, -, -, -, -, g⟩ | ⟨-, -, -, -, -, -, -, g⟩ | ⟨-, -, -, -, -, -, -, g⟩
    ·rw [g]; exact h.er b
    ·rw [g]; exact h.er b
    ·rw [g]; exact kwf_wrap _
   ·rw [hr.other i e]; exact h.er i
  rcases hh with ⟨rfl, h1, h2, ⟨d, h3⟩, h4, h5, h6, -⟩ | ⟨rfl, h1, h2, h3, h4, h5, h6, -⟩ | ⟨rfl, h1, h2, h3, h4, h5, h6, -⟩
  ·exact .inl ⟨rfl, h2, fun cut => h.cut_erase hnb hb hcb hfb hr h3 h5 h4 h6 her cut⟩
  ·have hL : L0 c N' = L0 c N := L0_congr (fun i hi => by
    by_cases e : i = b
    ·rw [e]; unfold NB.seen; rw [h3, h4]
    ·rw [hr.other i e])
   refine .inr (.inl ⟨rfl, h1, h.same (Nat.le_refl _) hr.len hr.pages (fun i => ?_) (fun i hi => ?_) her, h5, hL⟩)
   ·by_cases e : i = b
    ·rw [e]; exact ⟨h3, h4⟩
    ·rw [hr.other i e]; exact ⟨rfl, rfl⟩
   ·by_cases e : i = b
    ·rw [e]; exact h5
    ·rw [hr.other i e]; exact hi
  ·have hL : L0 c N' = clrL (L0 c N) (b : Int) := L0_clr hr.other (by unfold NB.seen; rw [h3]; split <;> rfl)
   have hfl' : (fun i => (N'.blk i).failed) = fun i => (N.blk i).failed := funext (fun i => by
    by_cases e : i = b
    ·rw [e]; exact h5
    ·rw [hr.other i e])
   refine .inr (.inr ⟨rfl, h1, ⟨by rw [hr.len, h.lb], by rw [hr.pages, h.lp], fun j q hq => ?_, her, by rw [hL]; exact h.good.clr hcb, fun i hi x hx => ?_, fun i => ?_, fun i hi hfi hhi => ?_, ?_⟩, h3, h4, by rw [h5]; exact hfb, hL⟩)
   ·by_cases e : j = b
    ·rw [e, h3] at hq; cases hq
    ·exact h.bytes j q (by rw [← hr.other j e]; exact hq)
   ·rw [hL] at hx
    exact h.num i hi x (clrL_mem hx).2
   ·by_cases e : i = b
    ·rw [e, h3]; exact Nat.zero_le _
    ·rw [hr.other i e]; exact h.cap i
   ·by_cases e : i = b
    ·rw [e, h4] at hhi; cases hhi
    ·rw [hr.other i e] at hfi hhi ⊢; exact h.half i hi hfi hhi
   ·rw [hL, hfl']
    exact h.few.clr (xs_64 hnb) hb hfb
/-- While it is mounted: the blocks pre are done. -/
structure MI (c : FC) (pre : List Int) (c1 : Nat → Option (Int × Fo)) (fe : Int) (s : FT) : Prop where
 aok : AOk c s.N c1 s.seq
 wf : FWf c s
 on : s.N.off = false
 fen : s.N.fence = fe
 cf : cF s = c1
 cfs : ∀ a, s.has.getD a false = (cF s a).isSome
 hl : s.hs.length = 64
 none_ : ∀ i : Int, i ∉ c.xs → hAt s.hs i = none
 todo : ∀ i : Nat, (i : Int) ∈ c.xs → (i : Int) ∉ pre → hAt s.hs (i : Int) = some 0
 done : ∀ i : Nat, (i : Int) ∈ pre → (i : Int) ∈ c.xs ∧ (((s.N.blk i).failed = true ∧ hAt s.hs (i : Int) = some 3) ∨ ((s.N.blk i).failed = false ∧ (s.N.blk i).pages = [] ∧ hAt s.hs (i : Int) = some 0) ∨ ((s.N.blk i).failed = false ∧ 0 < s.cn i ∧ hAt s.hs (i : Int) = some 1))
 nc : ∀ a i x, c1 a = some (i, x) → ¬ Cop (L0 c s.N) i
/-- Which block is to be open. -/
def OpI (c : FC) (s : FT) (op : Int) : Prop := op = -1 ∨ ∃ b : Nat, op = (b : Int) ∧ hAt s.hs (b : Int) = some 1 ∧ (s.N.blk b).pages.length < c.np
theorem nwF_two (q : Nat → Nat) (b : Nat) (l : List Int) : ∀ m : Nat × Int, (nwF q b l m).2 = m.2 ∨ (nwF q b l m).2 = (b : Int) := by
 induction l with
 | nil => intro m; exact .inl rfl
 | cons x l ih =>
  intro m
  unfold nwF
  rw [List.foldl_cons]
  split
  ·rcases ih (q x.toNat, (b : Int)) with h | h
   ·exact .inr h
   ·exact .inr h
  ·exact ih m
/-- The state behind one more block. -/
theorem MI.next {pre : List Int} {st' : FT} {N' : NA} (h : MI c pre c1 fe st) (hb : (b : Int) ∈ c.xs) (hnp : (b : Int) ∉ pre) (hN : st'.N = N') (hsq : st'.seq = st.seq) (hcf : cF st' = c1) (hhas : st'.has = st.has) (hcnt : st'.cnt = st.cnt) (haok : AOk c N' c1 st.seq) (hwf : FWf c st') (hon : N'.off = false) (hfe : N'.fence = fe) (hot : ∀ j, j ≠ b → N'.blk j = st.N.blk j) (hl : st'.hs.length = 64) {v : Nat} (hat : ∀ j, hAt st'.hs j = if j = (b : Int) then some v else hAt st.hs j) (hnc : ∀ a i x, c1 a = some (i, x) → ¬ Cop (L0 c N') i)
  (hd : ((N'.blk b).failed = true ∧ v = 3) ∨ ((N'.blk b).failed = false ∧ (N'.blk b).pages = [] ∧ v = 0) ∨ ((N'.blk b).failed = false ∧ 0 < st.cn b ∧ v = 1)) : MI c (pre ++ [(b : Int)]) c1 fe st' := by
 subst hN
 refine ⟨by rw [hsq]; exact haok, hwf, hon, hfe, hcf, fun a => ?_, hl, fun i hi => ?_, fun i hi hp => ?_, fun i hi => ?_, hnc⟩
 ·rw [hhas, h.cfs a, h.cf, hcf]
 ·rw [hat, if_neg (fun e => hi (by rw [e]; exact hb))]
  exact h.none_ i hi
 ·rw [hat, if_neg (fun e => hp (List.mem_append_right _ (List.mem_singleton.2 e)))]
  exact h.todo i hi (fun x => hp (List.mem_append_left _ x))
 ·have ecn : st'.cn i = st.cn i := by unfold FT.cn; rw [hcnt]
  rcases List.mem_append.1 hi with hi | hi
  ·have hib : i ≠ b := fun e => hnp (by rw [← e]; exact hi)
   rw [hat, if_neg (by omega), hot i hib, ecn]
   exact h.done i hi
  ·have hib : i = b := by have := List.mem_singleton.1 hi; omega
   subst hib
   rw [hat, if_pos rfl, ecn]
   refine ⟨hb, ?_⟩
   rcases hd with ⟨h1, h2⟩ | ⟨h1, h2, h3⟩ | ⟨h1, h2, h3⟩
   ·exact .inl ⟨h1, by rw [h2]⟩
   ·exact .inr (.inl ⟨h1, h2, by rw [h3]⟩)
   ·exact .inr (.inr ⟨h1, h2, by rw [h3]⟩)
theorem OpI.keep {st' : FT} {op : Int} (h : OpI c st op) (hb0 : hAt st.hs (b : Int) ≠ some 1) (hot : ∀ j, j ≠ b → st'.N.blk j = st.N.blk j) {v : Nat} (hat : ∀ j, hAt st'.hs j = if j = (b : Int) then some v else hAt st.hs j) : OpI c st' op := by
 rcases h with h | ⟨k, rfl, h1, h2⟩
 ·exact .inl h
 ·have hkb : k ≠ b := fun e => hb0 (by rw [← e]; exact h1)
  exact .inr ⟨k, rfl, by rw [hat, if_neg (by omega)]; exact h1, by rw [hot k hkb]; exact h2⟩
set_option maxHeartbeats 2000000 in
theorem mstep_law (hk : CK c) {pre : List Int} {q : Nat → Nat} {nw : Nat} {op : Int} (h : MI c pre c1 fe st) (hop : OpI c st op) (hb : (b : Int) ∈ c.xs) (hnp : (b : Int) ∉ pre) :
  ∃ st' nw' op' z, mstep c q b (st, nw, op) = ((st', nw', op'), z) ∧
   ((z = 0 ∧ MI c (pre ++ [(b : Int)]) c1 fe st' ∧ OpI c st' op' ∧ st'.seq = st.seq) ∨ (z = 7 ∧ (c.ep : Int) < fe) ∨ (z = 9 ∧ Fell c st'.N (fun D => D = Vof c1) st.seq)) := by
 obtain ⟨b', eb, b2, bn⟩ := xs_nat hb
 have eb : b = b' := by omega
 subst eb
 have hnb := hk.nb
 have hb64 : b < 64 := by omega
 have h0 := h.todo b hb hnp
 by_cases hf : (st.N.blk b).failed = true
 ·rw [m_failed hf]
  have hat := how_at0 (c := c) (s := st) (v := 3) h.hl hb64 h0 (fun _ => rfl) (by omega)
  exact ⟨_, _, _, _, rfl, .inl ⟨rfl, h.next (st' := st.how c b 3) hb hnp rfl rfl h.cf rfl rfl h.aok (h.wf.how b 3) h.on h.fen (fun _ _ => rfl) (by rw [how_len]; exact h.hl) hat h.nc (.inl ⟨hf, rfl⟩), hop.keep (by rw [h0]; simp) (fun _ _ => rfl) hat, rfl⟩⟩
 ·have hf' : (st.N.blk b).failed = false := by cases e : (st.N.blk b).failed; rfl; exact absurd e hf
  by_cases hp0 : (st.N.blk b).pages.length = 0
  ·rw [m_empty hf hp0]
   have hat : ∀ j, hAt st.hs j = if j = (b : Int) then some 0 else hAt st.hs j := fun j => by
    by_cases e : j = (b : Int)
    ·rw [if_pos e, e]; exact h0
    ·rw [if_neg e]
   exact ⟨_, _, _, _, rfl, .inl ⟨rfl, h.next (st' := st) hb hnp rfl rfl h.cf rfl rfl h.aok h.wf h.on h.fen (fun _ _ => rfl) h.hl hat h.nc (.inr (.inl ⟨hf', List.eq_nil_of_length_eq_zero hp0, rfl⟩)), hop, rfl⟩⟩
  ·have hat1 := how_at0 (c := c) (s := st) (v := 1) h.hl hb64 h0 (fun x => by cases x) (by omega)
   have h1 : hAt (st.how c b 1).hs (b : Int) = some 1 := by rw [hat1, if_pos rfl]
   have hl1 : (st.how c b 1).hs.length = 64 := by rw [how_len]; exact h.hl
   by_cases hc0 : st.cn b = 0
   ·rw [m_erase hf hp0 hc0]
    have hcb : ∀ a i x, c1 a = some (i, x) → i ≠ (b : Int) := fun a i x hx e => by
     rw [← h.cf] at hx
     obtain ⟨k1, k2, -⟩ := cF_some hx
     have := (h.wf.pi.here a k1).1
     have := h.wf.cn_pos k1 (b := b) (by omega)
     omega
    have hfw := (h.wf.how (b := b) (v := 1)).erase b bn (show (st.how c b 1).cn b ≤ 0 by show st.cn b ≤ 0; omega)
    rcases h.aok.erase hnb hb hcb hf' h.on (ep := (c.ep : Int)) with ⟨hfe, e⟩ | ⟨hfe, N', z, e, hr, hcase⟩
    ·have hE : eraseF c (st.how c b 1) b = (st.how c b 1, 7) := by
      unfold eraseF
      rw [show (st.how c b 1).N = st.N from rfl, e, if_neg (by simp), if_neg (by simp)]
      rfl
     rw [hE]
     exact ⟨_, _, _, _, rfl, .inr (.inl ⟨rfl, by rw [← h.fen]; exact hfe⟩)⟩
    ·have hcF : cF { (st.how c b 1) with N := N' } = c1 := by
      rw [← h.cf]
      refine cF_congr (st := st) (st' := { (st.how c b 1) with N := N' }) rfl rfl (fun a ha => ?_)
      show rdP ((N'.blk (st.at'.getD a (0, 0)).1.toNat).pages.getD (st.at'.getD a (0, 0)).2.toNat []) = st.pg a
      rw [hr.other _ (fun x => ?_)]
      ·rfl
      ·have := (h.wf.pi.here a ha).1
       have := h.wf.cn_pos ha (b := b) (by omega)
       omega
     rcases hcase with ⟨rfl, hoff, hcut⟩ | ⟨rfl, hon, haok, hfl, hL⟩ | ⟨rfl, hon, haok, hpg, hhf, hfl, hL⟩
     ·have hE : eraseF c (st.how c b 1) b = ({ (st.how c b 1) with N := N' }, 9) := by
       unfold eraseF
       rw [show (st.how c b 1).N = st.N from rfl, e, if_neg (by simp), if_neg (by simp)]
      rw [hE]
      exact ⟨_, _, _, _, rfl, .inr (.inr ⟨rfl, hoff, fun cut => ⟨c1, hcut cut, rfl⟩⟩)⟩
     ·have hE : eraseF c (st.how c b 1) b = (({ (st.how c b 1) with N := N' } : FT).how c b 3, 0) := by
       unfold eraseF
       rw [show (st.how c b 1).N = st.N from rfl, e, if_neg (by simp), if_pos (by simp)]
      rw [hE] at hfw ⊢
      have hat := how_at0 (c := c) (s := ({ (st.how c b 1) with N := N' } : FT)) (v := 3) hl1 hb64 h1 (fun _ => rfl) (by omega)
      have hat' : ∀ j, hAt (({ (st.how c b 1) with N := N' } : FT).how c b 3).hs j = if j = (b : Int) then some 3 else hAt st.hs j := fun j => by
       rw [hat]
       by_cases ej : j = (b : Int)
       ·rw [if_pos ej, if_pos ej]
       ·rw [if_neg ej, if_neg ej]
        show hAt (st.how c b 1).hs j = _
        rw [hat1, if_neg ej]
      exact ⟨_, _, _, _, rfl, .inl ⟨rfl, h.next (st' := ({ (st.how c b 1) with N := N' } : FT).how c b 3) (N' := N') hb hnp rfl rfl hcF rfl rfl haok hfw hon (hr.fence.trans h.fen) hr.other (by rw [how_len]; exact hl1) hat' (by rw [hL]; exact h.nc) (.inl ⟨hfl, rfl⟩), hop.keep (st' := ({ (st.how c b 1) with N := N' } : FT).how c b 3) (by rw [h0]; simp) hr.other hat', rfl⟩⟩
     ·have hE : eraseF c (st.how c b 1) b = (({ (st.how c b 1) with N := N' } : FT).how c b 0, 0) := by
       unfold eraseF
       rw [show (st.how c b 1).N = st.N from rfl, e, if_pos (by simp)]
      rw [hE] at hfw ⊢
      have hat := how_at0 (c := c) (s := ({ (st.how c b 1) with N := N' } : FT)) (v := 0) hl1 hb64 h1 (fun x => by cases x) (by omega)
      have hat' : ∀ j, hAt (({ (st.how c b 1) with N := N' } : FT).how c b 0).hs j = if j = (b : Int) then some 0 else hAt st.hs j := fun j => by
       rw [hat]
       by_cases ej : j = (b : Int)
       ·rw [if_pos ej, if_pos ej]
       ·rw [if_neg ej, if_neg ej]
        show hAt (st.how c b 1).hs j = _
        rw [hat1, if_neg ej]
      exact ⟨_, _, _, _, rfl, .inl ⟨rfl, h.next (st' := ({ (st.how c b 1) with N := N' } : FT).how c b 0) (N' := N') hb hnp rfl rfl hcF rfl rfl haok hfw hon (hr.fence.trans h.fen) hr.other (by rw [how_len]; exact hl1) hat' (fun a i x hx hC => h.nc a i x hx (by rw [hL] at hC; exact hC.clr.2.1)) (.inr (.inl ⟨hfl, hpg, rfl⟩)), hop.keep (st' := ({ (st.how c b 1) with N := N' } : FT).how c b 0) (by rw [h0]; simp) hr.other hat', rfl⟩⟩
   ·rw [m_used hf hp0 hc0]
    have hcp : 0 < st.cn b := by
     have := h.wf.pi.on b bn
     unfold FT.cn at hc0 ⊢
     omega
    have hN := h.next (st' := st.how c b 1) hb hnp rfl rfl h.cf rfl rfl h.aok (h.wf.how b 1) h.on h.fen (fun _ _ => rfl) hl1 hat1 h.nc (.inr (.inr ⟨hf', hcp, rfl⟩))
    have hK : OpI c (st.how c b 1) op := hop.keep (st' := st.how c b 1) (by rw [h0]; simp) (fun _ _ => rfl) hat1
    refine ⟨_, _, _, _, rfl, .inl ⟨rfl, hN, ?_, rfl⟩⟩
    show OpI c (st.how c b 1) (innerF (decide ((st.N.blk b).pages.length < c.np)) q b (st.on c b) (nw, op)).2
    unfold innerF
    by_cases hlt : (st.N.blk b).pages.length < c.np
    ·rw [if_pos (decide_eq_true hlt)]
     rcases nwF_two q b (st.on c b) (nw, op) with g | g
     ·rw [g]; exact hK
     ·rw [g]; exact .inr ⟨b, rfl, h1, hlt⟩
    ·rw [if_neg (by simpa using hlt)]
     exact hK
theorem mloop_law (hk : CK c) {q : Nat → Nat} : ∀ (l pre : List Int) (st : FT) (nw : Nat) (op : Int), c.xs = pre ++ l → MI c pre c1 fe st → OpI c st op →
  ∃ st' nw' op' z, mloop c q l (st, nw, op) = ((st', nw', op'), z) ∧ ((z = 0 ∧ MI c c.xs c1 fe st' ∧ OpI c st' op' ∧ st'.seq = st.seq) ∨ (z = 7 ∧ (c.ep : Int) < fe) ∨ (z = 9 ∧ Fell c st'.N (fun D => D = Vof c1) st.seq)) := by
 intro l
 induction l with
 | nil =>
  intro pre st nw op e h hop
  rw [List.append_nil] at e
  exact ⟨_, _, _, _, rfl, .inl ⟨rfl, by rw [e]; exact h, hop, rfl⟩⟩
 | cons x l ih =>
  intro pre st nw op e h hop
  have hx : x ∈ c.xs := by rw [e]; exact List.mem_append_right _ List.mem_cons_self
  obtain ⟨k, rfl, k2, kn⟩ := xs_nat hx
  have hnd : c.xs.Nodup := us_nodup c.nb c.bad
  have hnp : (k : Int) ∉ pre := fun hm => by
   rw [e] at hnd
   exact (List.nodup_append.1 hnd).2.2 _ hm _ List.mem_cons_self rfl
  obtain ⟨st', nw', op', z, h1, h2⟩ := mstep_law hk (q := q) (nw := nw) h hop hx hnp
  rw [mloop_cons, h1]
  rcases h2 with ⟨rfl, h3, h4, h5⟩ | ⟨rfl, h3⟩ | ⟨rfl, h3⟩
  ·rw [if_neg (by simp)]
   obtain ⟨st2, nw2, op2, z2, g1, g2⟩ := ih (pre ++ [(k : Int)]) st' nw' op' (by rw [e, List.append_assoc]; rfl) h3 h4
   refine ⟨st2, nw2, op2, z2, g1, ?_⟩
   rw [h5] at g2
   exact g2
  ·rw [if_pos (by simp)]
   exact ⟨_, _, _, _, rfl, .inr (.inl ⟨rfl, h3⟩)⟩
  ·rw [if_pos (by simp)]
   exact ⟨_, _, _, _, rfl, .inr (.inr ⟨rfl, h3⟩)⟩
end
end Go.Proofs.Ytpcbpljdiacbmaa.Ftl

set_option linter.unusedVariables false
set_option linter.unusedSimpArgs false
namespace Go.Proofs.Ytpcbpljdiacbmaa.Ftl
open Go.RowKit Go.Proofs.Ytpcbpljdiacbmaa.Kit Go.Proofs.Ytpcbpljdiacbmaa.Oct Go.Proofs.Ytpcbpljdiacbmaa.Sheet Go.Proofs.Ytpcbpljdiacbmaa.Nand Go.Proofs.Ytpcbpljdiacbmaa.Plan Go.Proofs.Ytpcbpljdiacbmaa.Scan Go.Proofs.Ytpcbpljdiacbmaa.Pmap Go.Proofs.Ytpcbpljdiacbmaa.Pool

/-! What mounting comes to, as plain data. -/
section
variable {c : FC} {N : NA} {st : FT} {c0 c1 : Nat → Option (Int × Fo)} {s b : Nat} {fe op : Int}
theorem MI.counted (h : MI c c.xs c1 fe st) {i : Nat} (hi : (i : Int) ∈ c.xs) (hc : 0 < st.cn i) : ∃ a x, c1 a = some ((i : Int), x) ∧ x ∈ L0 c st.N (i : Int) := by
 obtain ⟨i', ei, -, hin⟩ := xs_nat hi
 have hon := h.wf.pi.on i (by omega)
 unfold FT.cn at hc
 obtain ⟨a, ha, ho⟩ := cnum_ex (onP st.at' st.has i) c.M (by omega)
 unfold onP at ho
 rw [Bool.and_eq_true, decide_eq_true_iff] at ho
 have h1 := h.cfs a
 rw [ho.1] at h1
 obtain ⟨⟨j, x⟩, hx⟩ := Option.isSome_iff_exists.1 h1.symm
 obtain ⟨-, hj, -, -⟩ := cF_some hx
 rw [ho.2] at hj
 subst hj
 rw [h.cf] at hx
 exact ⟨a, x, hx, (h.aok.good.here a _ x hx).2.1⟩
theorem MI.at0 (hk : CK c) (h : MI c c.xs c1 fe st) : At c st ∧ NoOpen st := by
 have hnb := hk.nb
 have hno : NoOpen st := fun i h2 => by
  have hx : (i : Int) ∈ c.xs := hs_in h.none_ h2
  obtain ⟨-, hd⟩ := h.done i hx
  rcases hd with ⟨-, e⟩ | ⟨-, -, e⟩ | ⟨-, -, e⟩ <;> rw [h2] at e <;> cases e
 have hone : ∀ i : Nat, (i : Int) ∈ c.xs → hAt st.hs (i : Int) = some 1 → (st.N.blk i).half = false ∧ ¬ Cop (L0 c st.N) (i : Int) ∧ L0 c st.N (i : Int) ≠ [] ∧ (st.N.blk i).failed = false := fun i hi h1 => by
  obtain ⟨-, hd⟩ := h.done i hi
  rcases hd with ⟨-, e⟩ | ⟨-, -, e⟩ | ⟨hf, hc, e⟩
  ·rw [h1] at e; cases e
  ·rw [h1] at e; cases e
  ·obtain ⟨a, x, hx, hm⟩ := h.counted hi hc
   have := (L0_mem hm).2.1
   rw [Int.toNat_natCast] at this
   exact ⟨this, h.nc a _ x hx, List.ne_nil_of_mem hm, hf⟩
 have hpol : Pol c st (fun _ => False) := by
  refine ⟨h.hl, fun i hi => ?_, h.none_, fun i hi => ?_, fun i hi h0 _ => ?_, fun i hi h1 => ⟨(hone i hi h1).1, (hone i hi h1).2.1⟩, fun i hi h2 => absurd h2 (hno i), fun i j hi => absurd hi (hno i)⟩
  ·obtain ⟨-, hd⟩ := h.done i hi
   rcases hd with ⟨-, e⟩ | ⟨-, -, e⟩ | ⟨-, -, e⟩
   ·exact ⟨3, by omega, e⟩
   ·exact ⟨0, by omega, e⟩
   ·exact ⟨1, by omega, e⟩
  ·obtain ⟨-, hd⟩ := h.done i hi
   rcases hd with ⟨hf, e⟩ | ⟨hf, -, e⟩ | ⟨hf, -, e⟩
   ·rw [e, hf]; simp
   ·rw [e, hf]; simp
   ·rw [e, hf]; simp
  ·obtain ⟨-, hd⟩ := h.done i hi
   rcases hd with ⟨-, e⟩ | ⟨hf, hp, e⟩ | ⟨-, -, e⟩
   ·rw [h0] at e; cases e
   ·refine ⟨hp, ?_⟩
    cases eh : (st.N.blk i).half with
    | false => rfl
    | true => exact absurd hp (h.aok.half i hi hf eh)
   ·rw [h0] at e; cases e
 have hgood : Good c.xs (dd st.N) (L0 c st.N) (cF st) := by
  rw [h.cf]
  refine h.aok.good.fin h.nc (fun i hi hdi hL => ?_)
  obtain ⟨k, rfl, -⟩ := xs_nat hi
  obtain ⟨-, hd⟩ := h.done k hi
  rcases hd with ⟨hf, -⟩ | ⟨hf, hp, -⟩ | ⟨hf, hc, -⟩
  ·exact absurd (show dd st.N (k : Int) by unfold dd; rw [Int.toNat_natCast]; exact hf) hdi
  ·exact absurd (L0_nil (.inl hp)) hL
  ·obtain ⟨a, x, hx, -⟩ := h.counted hi hc
   exact ⟨a, x, hx⟩
 have hroom : 1 + c.S ≤ cntH st.hs 0 + cntH st.hs 3 := by
  obtain ⟨e, he, hn⟩ := h.aok.few
  have h1 := xs_le hnb hpol hno
  have h2 : cntH st.hs 1 ≤ cnum (liveL c.xs (fun i => (st.N.blk i).failed) (L0 c st.N) e) 64 := cnum_mono 64 (fun i hi hu => by
   have h1 : hAt st.hs (i : Int) = some 1 := by rw [hAt_nat st.hs i hi]; simpa using hu
   have hx := hs_in h.none_ h1
   obtain ⟨g1, g2, g3, g4⟩ := hone i hx h1
   exact liveL_iff.2 ⟨hx, g4, g3, fun ei => g2 (by rw [ei]; exact he (by rw [← ei]; exact hx))⟩)
  omega
 exact ⟨⟨⟨h.wf, h.on, h.aok.bytes, hgood, h.cfs, h.aok.num⟩, hpol, h.aok.cap, hroom⟩, hno⟩
/-- The block that had room is open. -/
theorem At.reopen (hk : CK c) (h : At c st) (ho : NoOpen st) (hb : hAt st.hs (b : Int) = some 1) (hp : (st.N.blk b).pages.length < c.np) : At c (st.how c b 2) := by
 obtain ⟨b', eb, -, bn⟩ := xs_nat (hs_in h.pol.none_ hb)
 have hb64 : b < 64 := by have := hk.nb; omega
 have c2 := fun w => how_cnt (c := c) (st := st) (v := 2) (w := w) h.pol.hl hb64 hb (fun x => by cases x) (.inr (no_fOpen ho))
 have c20 := c2 0
 have c23 := c2 3
 simp at c20 c23
 exact ⟨h.cor.how b 2, h.pol.reopen hb64 hb ho (fun _ => hp), h.cap, by have := h.room; omega⟩
/-- What mounting comes to. -/
def MntO (c : FC) (fe : Int) (D : Nat → Option (List Int)) (s : Nat) (R : FT × Int) : Prop :=
 (R.2 = 0 ∧ At c R.1 ∧ Vof (cF R.1) = D ∧ R.1.N.fence = fe ∧ R.1.seq ≤ s) ∨ (R.2 = 7 ∧ (c.ep : Int) < fe) ∨ (R.2 = 9 ∧ Fell c R.1.N (fun D' => D' = D) s)
theorem mountF_law (hk : CK c) {q : Nat → Nat} (h : MI c [] c1 fe st) : MntO c fe (Vof c1) st.seq (mountF c q st) := by
 obtain ⟨st', nw', op', z, h1, h2⟩ := mloop_law hk (q := q) c.xs [] st 0 (-1) rfl h (.inl rfl)
 unfold mountF
 simp only [h1]
 rcases h2 with ⟨rfl, h3, h4, h5⟩ | ⟨rfl, h3⟩ | ⟨rfl, h3⟩
 ·rw [if_neg (by simp)]
  obtain ⟨g1, g2⟩ := h3.at0 hk
  rcases h4 with rfl | ⟨b, rfl, h6, h7⟩
  ·rw [if_neg (by omega)]
   exact .inl ⟨rfl, g1, by rw [h3.cf], h3.fen, by rw [h5]; exact Nat.le_refl _⟩
  ·rw [if_pos (by omega), Int.toNat_natCast]
   exact .inl ⟨rfl, g1.reopen hk g2 h6 h7, by show Vof (cF st') = _; rw [h3.cf], h3.fen, by show st'.seq ≤ _; rw [h5]; exact Nat.le_refl _⟩
 ·rw [if_pos (by simp)]
  exact .inr (.inl ⟨rfl, h3⟩)
 ·rw [if_pos (by simp)]
  exact .inr (.inr ⟨rfl, h3⟩)
theorem seqOf_le {l : List (Int × Scan.Fd)} {m : Nat} (h : ∀ y ∈ l, y.2.p.S ≤ m) : seqOf l ≤ m := by
 induction l using snoc_ind with
 | h0 => exact Nat.zero_le _
 | h1 l y ih =>
  rw [seqOf_snoc]
  have h1 := ih (fun z hz => h z (List.mem_append_left _ hz))
  have h2 := h y (List.mem_append_right _ (List.mem_singleton.2 rfl))
  omega
theorem le_seqOf {l : List (Int × Scan.Fd)} {y : Int × Scan.Fd} (h : y ∈ l) : y.2.p.S ≤ seqOf l := by
 induction l using snoc_ind with
 | h0 => cases h
 | h1 l z ih =>
  rw [seqOf_snoc]
  rcases List.mem_append.1 h with h | h
  ·have := ih h; omega
  ·rw [List.mem_singleton.1 h]; omega
/-- An array that can be mounted, and what All found on it. -/
theorem mount_start (hk : CK c) (h : AOk c N c0 s) (hon : N.off = false) {L : Int → List Scan.Fd} {at' : List (Int × Int)} {has : List Bool} {cnt : List Int} {FL : List (Int × Scan.Fd)} (hFL : FL = flatF (us c.nb c.bad) (spoilS (us c.nb c.bad) L).1) (hst : st = ⟨N, at', has, cnt, newH (us c.nb c.bad), seqOf (flatF (us c.nb c.bad) L)⟩)
  (hL : (∀ i : Int, i ∉ us c.nb c.bad → L i = []) ∧ ∀ i : Nat, (i : Int) ∈ us c.nb c.bad → (L (i : Int)).map (fun x => (x.k, x.p)) = found ((c.M - 1 : Nat) : Int) (NB.seen (N.blk i)))
  (ht : ∀ a, a < c.M → has.getD a false = (newest (a : Int) FL).isSome ∧ ∀ y, newest (a : Int) FL = some y → at'.getD a (0, 0) = (y.1, (y.2.k : Int))) (hw : FWf c st) : MI c [] (cF st) N.fence st ∧ Vof (cF st) = Vof c0 ∧ st.seq ≤ s := by
 have hM := hk.M
 have hLL : foL L = L0 c N := by
  funext i
  unfold L0
  by_cases hi : i ∈ c.xs
  ·rw [if_pos hi]
   obtain ⟨k, rfl, -⟩ := xs_nat hi
   rw [Int.toNat_natCast, show (c.M : Int) - 1 = ((c.M - 1 : Nat) : Int) by omega]
   exact hL.2 k hi
  ·rw [if_neg hi]
   unfold foL
   rw [hL.1 i hi]
   rfl
 have hN := newC_is (U := c.xs) (L := L) (us_nodup c.nb c.bad) (by rw [hLL]; exact h.good.once)
 rw [hLL] at hN
 have hFLn : ∀ a : Nat, newC c.xs L a = (newest (a : Int) FL).map fun y => (y.1, (y.2.k, y.2.p)) := fun a => by rw [hFL]; rfl
 have hcf : cF st = newC c.xs L := by
  funext a
  by_cases ha : a < c.M
  ·obtain ⟨t1, t2⟩ := ht a ha
   rw [hFLn]
   unfold cF
   have e1 : st.has.getD a false = (newest (a : Int) FL).isSome := by rw [hst]; exact t1
   rw [e1]
   cases hn : newest (a : Int) FL with
   | none => rfl
   | some y =>
    have hy : newC c.xs L a = some (y.1, (y.2.k, y.2.p)) := by rw [hFLn, hn]; rfl
    obtain ⟨⟨-, -, m3, -⟩, -⟩ := hN.some_ a _ _ hy
    obtain ⟨-, -, -, m4, -⟩ := L0_mem m3
    have eat : st.at'.getD a (0, 0) = (y.1, (y.2.k : Int)) := by rw [hst]; exact t2 y hn
    have epg : st.pg a = some y.2.p := by
     unfold FT.pg
     rw [eat]
     simp only [Int.toNat_natCast]
     rw [hst]
     exact m4
    rw [epg, eat]
    simp
  ·have e1 : st.has.getD a false = false := by
    cases e : st.has.getD a false with
    | false => rfl
    | true =>
     have := has_lt e
     rw [hw.pi.lh] at this
     exact absurd this ha
   unfold cF
   rw [e1, if_neg (by simp)]
   cases hn : newC c.xs L a with
   | none => rfl
   | some y =>
    obtain ⟨⟨-, -, m3, m4⟩, -⟩ := hN.some_ a y.1 y.2 hn
    have := (L0_mem m3).2.2.2.2.2
    omega
 rw [← hcf] at hN
 obtain ⟨hg, hV⟩ := h.good.mount hN
 have hnum : ∀ i ∈ c.xs, ∀ x ∈ L0 c N i, x.2.S ≤ st.seq := fun i hi x hx => by
  rw [← hLL] at hx
  obtain ⟨z, hz, rfl⟩ := foL_mem.1 hx
  rw [hst]
  exact le_seqOf (y := (i, z)) (flatF_mem.2 ⟨hi, hz⟩)
 have hle : st.seq ≤ s := by
  rw [hst]
  refine seqOf_le (fun y hy => ?_)
  obtain ⟨h1, h2⟩ := flatF_mem.1 hy
  exact h.num y.1 h1 (y.2.k, y.2.p) (by rw [← hLL]; exact foL_mem.2 ⟨y.2, h2, rfl⟩)
 have eN : st.N = N := by rw [hst]
 have hhs : st.hs = newH c.xs := by rw [hst]; rfl
 have hat : ∀ j, hAt st.hs j = if j ∈ c.xs then some 0 else none := fun j => by rw [hhs]; exact newH_at c.xs (xs_64 hk.nb) j
 refine ⟨⟨by rw [eN]; exact ⟨h.lb, h.lp, h.bytes, h.er, hg, hnum, h.cap, h.half, h.few⟩, hw, by rw [eN]; exact hon, by rw [eN], rfl, fun a => ?_, by rw [hhs]; exact newH_len _, fun i hi => by rw [hat, if_neg hi], fun i hi _ => by rw [hat, if_pos hi], fun i hi => by (cases hi), fun a i x hx => ?_⟩, funext hV, hle⟩
 ·by_cases ha : a < c.M
  ·rw [hcf, hFLn, show st.has.getD a false = (newest (a : Int) FL).isSome by rw [hst]; exact (ht a ha).1]
   cases newest (a : Int) FL <;> rfl
  ·have e1 : st.has.getD a false = false := by
    cases e : st.has.getD a false with
    | false => rfl
    | true =>
     have := has_lt e
     rw [hw.pi.lh] at this
     exact absurd this ha
   unfold cF
   rw [e1, if_neg (by simp)]
   rfl
 ·rw [eN]
  exact (hN.some_ a i x hx).1.2.1
theorem mloop_ops (c : FC) (q : Nat → Nat) : ∀ (l : List Int) (m : FT × Nat × Int), Ops c.ep m.1.N (mloop c q l m).1.1.N := by
 intro l
 induction l with
 | nil => intro m; exact .refl
 | cons x l ih =>
  intro m
  have h1 : Ops c.ep m.1.N (mstep c q x.toNat m).1.1.N := by
   unfold mstep
   split
   ·exact .refl
   ·split
    ·exact .refl
    ·split
     ·exact eraseF_ops c (m.1.how c x.toNat 1) x.toNat
     ·split <;> exact .refl
  unfold mloop
  split
  ·exact h1
  ·exact h1.trans (ih _)
theorem mountF_ops (c : FC) (q : Nat → Nat) (st : FT) : Ops c.ep st.N (mountF c q st).1.N := by
 have h := mloop_ops c q c.xs (st, 0, -1)
 unfold mountF
 simp only
 split
 ·exact h
 ·split <;> exact h
end
end Go.Proofs.Ytpcbpljdiacbmaa.Ftl

set_option linter.unusedVariables false
set_option linter.unusedSimpArgs false
namespace Go.Proofs.Ytpcbpljdiacbmaa.Scan
open Go.RowKit Go.Proofs.Ytpcbpljdiacbmaa.Kit Go.Proofs.Ytpcbpljdiacbmaa.Oct Go.Proofs.Ytpcbpljdiacbmaa.Sheet Go.Proofs.Ytpcbpljdiacbmaa.Nand Go.Proofs.Ytpcbpljdiacbmaa.Plan

set_option maxRecDepth 100000 in
set_option maxHeartbeats 4000000 in
theorem geometry_low (n : Nat) (hn : n < 256) (w : World) :
  Calls Try.prog 14 #[.int .u8 (n : Int)] w fun e w' => ∃ A m c, e = .returned (.agg #[.int .i64 (gB n : Int), .int .i64 (gP n : Int), .int .i64 (gS n : Int), .slice A m c]) ∧ Geo w' (gB n) (gP n) (gS n : Int) A m c (gL n) ∧ Below w.heap.size w w' ∧ ∀ ad, A = some ad → w.heap.size ≤ ad.block ∧ ad.block < w'.heap.size := by
 have hfm := geo_all ⟨n, hn⟩
 have w1 : IntKind.i64.wrap (n : Int) = (n : Int) := IntWalk.i64_in _ (by omega)
 have w2 : IntKind.i64.wrap (5 + (n : Int) % 5) = ((gB n : Nat) : Int) := by unfold gB; rw [IntWalk.i64_in _ (by omega)]; omega
 have w3 : IntKind.i64.wrap ((n : Int) / 8) = (n : Int) / 8 := IntWalk.i64_in _ (by omega)
 have w4 : IntKind.i64.wrap (2 + (n : Int) / 8 % 4) = ((gP n : Nat) : Int) := by unfold gP; rw [IntWalk.i64_in _ (by omega)]; omega
 have hL : gL n = if n % 3 = 0 ∧ 5 < gB n then [3] else [] := rfl
 have hS : gS n = if n % 4 = 0 ∧ 7 < gB n then 1 else 0 := rfl
 have hb : 5 ≤ gB n ∧ gB n ≤ 9 := by unfold gB; omega
 generalize gB n = B at *
 generalize gP n = P at *
 generalize gL n = L at *
 generalize gS n = S at *
 have Hfm := hid hfm
 have HL := hid hL
 have HS := hid hS
 clear hfm hL hS
 go_enter Try.func14, Try.ntmps14
 go_upto_region 2 with (fail)
 generalize hw2 : World.alloc (World.alloc w _) _ = wa
 obtain ⟨g2, hg2⟩ : ∃ g, w.heap.size = g := ⟨_, rfl⟩
 have hb2 : Blk wa g2 #[.int .i64 0, .int .i64 0, .int .i64 0, .slice none 0 0] 26 := by rw [← hw2, ← hg2]; exact (Blk.new w _ _).alloc _
 have hb3 : Blk wa (g2 + 1) #[.int .i64 (B : Int), .int .i64 (P : Int), .int .i64 0, .slice none 0 0] 26 := by
  rw [← hw2, ← hg2]
  have := Blk.new (w.alloc (.cells #[.int .i64 0, .int .i64 0, .int .i64 0, .slice none 0 0] 26)) #[.int .i64 (B : Int), .int .i64 (P : Int), .int .i64 0, .slice none 0 0] 26
  simpa using this
 have hBa : Below g2 w wa := by rw [← hw2, ← hg2]; exact ((Below.refl _ _).alloc (Nat.le_refl _) _).alloc (by simp) _
 obtain ⟨g3, hg3⟩ : ∃ g, g2 + 1 = g := ⟨_, rfl⟩
 rw [hg2, hg3]
 rw [hg3] at hb3
 have hlt3 := hb3.lt
 have hg23 : g2 < g3 := by omega
 obtain ⟨k0, k1, k2, k3⟩ : wa.cell? ⟨g3, 0, none⟩ = some (.int .i64 (B : Int)) ∧ wa.cell? ⟨g3, 1, none⟩ = some (.int .i64 (P : Int)) ∧ wa.cell? ⟨g3, 2, none⟩ = some (.int .i64 0) ∧ wa.cell? ⟨g3, 3, none⟩ = some (.slice none 0 0) := ⟨hb3.cell 0, hb3.cell 1, hb3.cell 2, hb3.cell 3⟩
 have f3 := hb3.free 3
 have Hg2 := hid hg2
 have Hb2 := hid hb2
 have Hb3 := hid hb3
 have HBa := hid hBa
 clear hw2 hb2 hb3 hBa hg2 hg3 w1 w2 w3 w4
 go_cut [21] (fun t wx => ∃ q : Bool, t = .bool q ∧ (q = true ↔ n % 3 = 0 ∧ 5 < B) ∧ wx = wa)
 case first =>
  by_cases h3 : n % 3 = 0
  ·have h3b : ((n : Int) % 3 == 0) = true := by rw [beq_iff_eq]; omega
   by_cases hB5 : 5 < B
   ·have hB5I : (5 : Int) < (B : Int) := by omega
    have He := hid (show n % 3 = 0 ∧ 5 < B from ⟨h3, hB5⟩)
    clear h3
    go_wp2
    go_meet
    case rel => exact ⟨_, rfl, ⟨fun _ => He.out, fun h => by first | rfl | exact decide_eq_true hB5I⟩, rfl⟩
   ·have hB5I : (B : Int) ≤ 5 := by omega
    have He := hid (show ¬ (n % 3 = 0 ∧ 5 < B) from fun h => hB5 h.2)
    clear h3 hB5
    go_wp2
    go_meet
    case rel => exact ⟨_, rfl, ⟨fun h => by first | (cases h; done) | (have := of_decide_eq_true h; omega), fun h => absurd h He.out⟩, rfl⟩
  ·have h3b : ((n : Int) % 3 == 0) = false := by rw [beq_eq_false_iff_ne]; omega
   have He := hid (show ¬ (n % 3 = 0 ∧ 5 < B) from fun h => h3 h.1)
   clear h3
   go_wp2
   go_meet
   case rel => exact ⟨_, rfl, ⟨fun h => by first | (cases h; done) | (have := of_decide_eq_true h; omega), fun h => absurd h He.out⟩, rfl⟩
 case rest =>
 obtain ⟨q, rfl, hq, hwx⟩ := hcut
 rw [hwx]
 clear hwx
 have Hq := hid hq
 clear hq
 go_upto_if 21 with (fail)
 go_cut [] (fun wx => ∃ (A : Option Addr) (m c : Nat), Blk wx g3 #[.int .i64 (B : Int), .int .i64 (P : Int), .int .i64 0, .slice A m c] 26 ∧ Nums wx .i64 A m L ∧ m ≤ c ∧ (∀ a, A = some a → g3 < a.block ∧ 0 < m) ∧ Blk wx g2 #[.int .i64 0, .int .i64 0, .int .i64 0, .slice none 0 0] 26 ∧ Below g2 w wx)
 case first =>
  cases q
  ·have hLe := HL.out
   rw [if_neg (fun h => by cases Hq.out.mpr h)] at hLe
   have HLe := hid hLe
   clear hLe
   go_wp2
   go_meet
   case rel => exact ⟨none, 0, 0, Hb3.out, by rw [HLe.out]; exact Nums.none _ _ _, Nat.le_refl _, (fun a ha => by cases ha), Hb2.out, HBa.out⟩
  ·have hLe := HL.out
   rw [if_pos (Hq.out.mp rfl)] at hLe
   have HLe := hid hLe
   have k3' : (wa.alloc (.cells #[.int .i64 3] 3)).cell? ⟨g3, 3, none⟩ = some (.slice none 0 0) := (Hb3.out.alloc _).cell 3
   have f3' : (wa.alloc (.cells #[.int .i64 3] 3)).frozen? ⟨g3, 3, none⟩ = false := (Hb3.out.alloc _).free 3
   clear hLe
   go_wp2
   go_meet
   case rel =>
    refine ⟨some ⟨wa.heap.size, 0, none⟩, 1, 1, ?_, ?_, Nat.le_refl _, ?_, ?_, ?_⟩
    ·have := Hb3.out.set 3 (.slice (some ⟨wa.heap.size, 0, none⟩) 1 1)
     refine Blk.alloc ?_ _
     simpa using this
    ·rw [HLe.out]
     have h1 := Blk.new (wa.setCell ⟨g3, 3, none⟩ (.slice (some ⟨wa.heap.size, 0, none⟩) 1 1)) #[.int .i64 3] 3
     rw [size_set] at h1
     exact nums_one _ _ 3 h1 (kwf_of (by omega))
    ·intro a ha
     injection ha with ha
     rw [← ha]
     exact ⟨hlt3, Nat.one_pos⟩
    ·exact (Hb2.out.setOther _ (by show g2 ≠ g3; omega) _).alloc _
    ·exact (HBa.out.setCell (by show g2 ≤ g3; omega) _).alloc (by simp; omega) _
 case rest =>
  obtain ⟨A, m, c, hb3, hz, hmc, hAb, hb2, hB⟩ := hcut
  obtain ⟨wb, rfl⟩ : ∃ W, W = wc := ⟨_, rfl⟩
  clear k0 k1 k2 k3 f3 Hb2 Hb3 HBa HL Hq
  obtain ⟨k0, k1, k2, k3⟩ := geo_four hb3
  have f2 := hb3.free 2
  have Hb3 := hid hb3
  have Hz := hid hz
  have HAb := hid hAb
  have Hb2 := hid hb2
  have HB := hid hB
  clear hb3 hz hAb hb2 hB
  go_upto_region 4 with (fail)
  go_cut [31] (fun t wx => ∃ q : Bool, t = .bool q ∧ (q = true ↔ n % 4 = 0 ∧ 7 < B) ∧ wx = wb)
  case first =>
   by_cases h3 : n % 4 = 0
   ·have h3b : ((n : Int) % 4 == 0) = true := by rw [beq_iff_eq]; omega
    by_cases hB5 : 7 < B
    ·have hB5I : (7 : Int) < (B : Int) := by omega
     have He := hid (show n % 4 = 0 ∧ 7 < B from ⟨h3, hB5⟩)
     clear h3
     go_wp2
     go_meet
     case rel => exact ⟨_, rfl, ⟨fun _ => He.out, fun h => by first | rfl | exact decide_eq_true hB5I⟩, rfl⟩
    ·have hB5I : (B : Int) ≤ 7 := by omega
     have He := hid (show ¬ (n % 4 = 0 ∧ 7 < B) from fun h => hB5 h.2)
     clear h3 hB5
     go_wp2
     go_meet
     case rel => exact ⟨_, rfl, ⟨fun h => by first | (cases h; done) | (have := of_decide_eq_true h; omega), fun h => absurd h He.out⟩, rfl⟩
   ·have h3b : ((n : Int) % 4 == 0) = false := by rw [beq_eq_false_iff_ne]; omega
    have He := hid (show ¬ (n % 4 = 0 ∧ 7 < B) from fun h => h3 h.1)
    clear h3
    go_wp2
    go_meet
    case rel => exact ⟨_, rfl, ⟨fun h => by first | (cases h; done) | (have := of_decide_eq_true h; omega), fun h => absurd h He.out⟩, rfl⟩
  case rest =>
  obtain ⟨q2, rfl, hq2, hwx⟩ := hcut
  rw [hwx]
  clear hwx
  have Hq2 := hid hq2
  clear hq2
  go_upto_if 31 with (fail)
  go_cut [] (fun wx => Blk wx g3 #[.int .i64 (B : Int), .int .i64 (P : Int), .int .i64 (S : Int), .slice A m c] 26 ∧ Nums wx .i64 A m L ∧ Blk wx g2 #[.int .i64 0, .int .i64 0, .int .i64 0, .slice none 0 0] 26 ∧ Below g2 w wx)
  case first =>
   cases q2
   ·have hSe := HS.out
    rw [if_neg (fun h => by cases Hq2.out.mpr h)] at hSe
    have HSe := hid hSe
    clear hSe
    go_wp2
    go_meet
    case rel => exact ⟨by rw [HSe.out]; exact Hb3.out, Hz.out, Hb2.out, HB.out⟩
   ·have hSe := HS.out
    rw [if_pos (Hq2.out.mp rfl)] at hSe
    have HSe := hid hSe
    clear hSe
    go_wp2
    go_meet
    case rel =>
     refine ⟨?_, nums_fr Hz.out ((Nand.Fr.refl (fun x => x = g3) wb).set g3 2 _ (.inl rfl)) (fun _ a ha hs => by have := (HAb.out a ha).1; omega), Hb2.out.setOther _ (by show g2 ≠ g3; omega) _, HB.out.setCell (by show g2 ≤ g3; omega) _⟩
     rw [HSe.out]
     have := Hb3.out.set 2 (.int .i64 1)
     simpa using this
  case rest =>
   obtain ⟨hb3, hz, hb2, hB⟩ := hcut
   clear k0 k1 k2 k3 f2 Hb3 Hz Hb2 HB HS Hq2
   obtain ⟨k0, k1, k2, k3⟩ := geo_four hb3
   obtain ⟨y0, y1, y2, y3⟩ := geo_four hb2
   have f0 := hb2.free 0
   have f1 := hb2.free 1
   have f2 := hb2.free 2
   have f3 := hb2.free 3
   have Hz := hid hz
   have Hb2 := hid hb2
   have HB := hid hB
   clear hb3 hz hb2 hB
   go_wp2
   have hw : Blk ((((wc.setCell ⟨g2, 0, none⟩ (.int .i64 (B : Int))).setCell ⟨g2, 1, none⟩ (.int .i64 (P : Int))).setCell ⟨g2, 2, none⟩ (.int .i64 (S : Int))).setCell ⟨g2, 3, none⟩ (.slice A m c)) g2 #[.int .i64 (B : Int), .int .i64 (P : Int), .int .i64 (S : Int), .slice A m c] 26 := by
    have := (((Hb2.out.set 0 (.int .i64 (B : Int))).set 1 (.int .i64 (P : Int))).set 2 (.int .i64 (S : Int))).set 3 (.slice A m c)
    simpa using this
   have hf : Nand.Fr (fun x => x = g2) wc ((((wc.setCell ⟨g2, 0, none⟩ (.int .i64 (B : Int))).setCell ⟨g2, 1, none⟩ (.int .i64 (P : Int))).setCell ⟨g2, 2, none⟩ (.int .i64 (S : Int))).setCell ⟨g2, 3, none⟩ (.slice A m c)) := ((((Nand.Fr.refl (fun x => x = g2) wc).set g2 0 _ (.inl rfl)).set g2 1 _ (.inl rfl)).set g2 2 _ (.inl rfl)).set g2 3 _ (.inl rfl)
   refine bodyPost_ret (results_cell_row (P := Try.prog) rfl _ _ g2 _ _ (0, 0) _ rfl hw Try.underlying26 rfl (by kernel_rfl)) rfl ?_
   have hzf : Nums _ .i64 A m L := nums_fr Hz.out hf (fun _ a ha hs => by have := (HAb.out a ha).1; omega)
   exact ⟨A, m, c, rfl, ⟨nums_fr Hz.out hf (fun _ a ha hs => by have := (HAb.out a ha).1; omega), hmc, Hfm.out⟩, by rw [Hg2.out]; exact (((HB.out.setCell (Nat.le_refl _) _).setCell (Nat.le_refl _) _).setCell (Nat.le_refl _) _).setCell (Nat.le_refl _) _, fun ad had => by
    obtain ⟨h1, h2⟩ := HAb.out ad had
    refine ⟨by have := Hg2.out; omega, ?_⟩
    obtain ⟨b', o', e', hc'⟩ := hzf.cell 0 h2
    rw [e'] at had
    injection had with had
    subst had
    exact World.block_lt_of_cell? _ _ (hc' 0 h2)⟩
end Go.Proofs.Ytpcbpljdiacbmaa.Scan

set_option linter.unusedVariables false
set_option linter.unusedSimpArgs false
namespace Go.Proofs.Ytpcbpljdiacbmaa.Ftl
open Go.RowKit Go.Proofs.Ytpcbpljdiacbmaa.Kit Go.Proofs.Ytpcbpljdiacbmaa.Oct Go.Proofs.Ytpcbpljdiacbmaa.Sheet Go.Proofs.Ytpcbpljdiacbmaa.Nand Go.Proofs.Ytpcbpljdiacbmaa.Plan Go.Proofs.Ytpcbpljdiacbmaa.Scan Go.Proofs.Ytpcbpljdiacbmaa.Pmap Go.Proofs.Ytpcbpljdiacbmaa.Pool

/-! What a law knows at a world. -/
/-- Since w (of which nothing has changed) the array and the FTL stand as st; the blocks K, which are the law's own, are as they are in V. -/
structure LF (c : FC) (o : FId) (A : Option Addr) (n cc : Nat) (K : Nat → Prop) (V w w1 : World) (st : FT) : Prop where
 fr : FR c o (fun _ => False) (fun g => g < w.heap.size ∨ K g) V w w1 st
 new : ∀ g, o.K g → w.heap.size ≤ g
 low : ∀ g, K g → w.heap.size ≤ g
 old : ∀ g, g < w.heap.size → V.heap[g]? = w.heap[g]?
 ab : o.Ab = A ∧ o.nbad = n ∧ o.cbad = cc
 wf : FWf c st
/-- The law's own blocks, and the one that the list of bad blocks lies in. -/
def withA (K : Nat → Prop) (A : Option Addr) : Nat → Prop := fun g => K g ∨ ∃ ad, A = some ad ∧ g = ad.block
section
variable {c : FC} {o : FId} {A : Option Addr} {n cc b s : Nat} {K K' : Nat → Prop} {V w w1 w2 : World} {st : FT} {N : NA} {c0 : Nat → Option (Int × Fo)}
theorem LF.below (h : LF c o A n cc K V w w1 st) : Below w.heap.size w w1 := by
 have hf := h.fr.fr
 exact ⟨hf.os, hf.tape, hf.output, hf.size, fun g hg => (h.fr.mineQ g (.inl hg)).2.2.trans (h.old g hg)⟩
theorem LF.later (h : LF c o A n cc K V w w1 st) (hB : Below w1.heap.size w1 w2) : LF c o A n cc K V w w2 st := ⟨h.fr.later hB, h.new, h.low, h.old, h.ab, h.wf⟩
theorem LF.drew (h : LF c o A n cc K V w w1 st) : LF c o A n cc K V w w1.drew st := h.later (below_drewN (Below.refl _ _) 1)
theorem LF.now (h : LF c o A n cc K V w w1 st) : LF c o A n cc K w1 w w1 st := ⟨h.fr.now, h.new, h.low, fun g hg => h.below.block g hg, h.ab, h.wf⟩
theorem LF.geo (h : LF c o A n cc K V w w1 st) : Geo w1 c.nb c.np (c.S : Int) A n cc c.bad := by
 have := h.fr.ft.geo
 rw [h.ab.1, h.ab.2.1, h.ab.2.2] at this
 exact this
theorem LF.blk {g : Nat} {cs : Array Value} {T : TypeId} (h : LF c o A n cc K V w w1 st) (hg : K g) (hb : Blk V g cs T) : Blk w1 g cs T := h.fr.blk (.inr hg) hb
theorem LF.heap {g : Nat} (h : LF c o A n cc K V w w1 st) (hg : K g) : w1.heap[g]? = V.heap[g]? := (h.fr.mineQ g (.inr hg)).2.2
theorem LF.more (h : LF c o A n cc K V w w1 st) (hB : Below w1.heap.size w1 w2) (hK : ∀ g, K' g → K g ∨ (w1.heap.size ≤ g ∧ g < w2.heap.size)) (hK2 : ∀ g, K g → K' g) : LF c o A n cc K' w2 w w2 st := by
 have hb := (h.later hB).below
 refine ⟨h.fr.more hB (fun g hg => ?_) (fun g hg => hg.imp id (hK2 g)), h.new, fun g hg => ?_, fun g hg => hb.block g hg, h.ab, h.wf⟩
 ·rcases hg with hg | hg
  ·exact .inl (.inl hg)
  ·exact (hK g hg).imp .inr id
 ·rcases hK g hg with hg | hg
  ·exact h.low g hg
  ·exact Nat.le_trans h.below.size hg.1
theorem LF.less (h : LF c o A n cc K V w w1 st) (hK : ∀ g, K' g → K g) : LF c o A n cc K' V w w1 st :=
 ⟨h.fr.back (fun g hg => ⟨hg.imp id (hK g), rfl⟩) (fun g hg => by
  rcases hg with hg | hg
  ·exact .inl (.inl hg)
  ·exact .inr (h.low g hg)), h.new, fun g hg => h.low g (hK g hg), h.old, h.ab, h.wf⟩
theorem LF.store (h : LF c o A n cc K V w w1 st) (g i : Nat) (v : Value) (hg : K g) : LF c o A n cc K (w1.setCell ⟨g, i, none⟩ v) w (w1.setCell ⟨g, i, none⟩ v) st := by
 have hb := below_set h.below (h.low g hg) i v
 exact ⟨h.fr.mine ((Nand.Fr.refl _ w1).set g i v (.inl (.inr hg))), h.new, h.low, fun k hk => hb.block k hk, h.ab, h.wf⟩
theorem LF.arr (h : LF c o A n cc K V w w1 st) : ∃ F', Arr w1 F' o.ba st.N := h.fr.arr
/-- The array, without the FTL. -/
theorem LF.run (h : LF c o A n cc K V w w1 st) : Run (fun _ => False) w w1 o.ba st.N (withA K A) w1 := by
 have hB := h.below
 have hne := h.new
 have hlo := h.low
 have hab := h.ab.1
 obtain ⟨F', h1, h2, h3, h4, h5, h6, h7⟩ := h.fr
 refine ⟨F', h1, h3, Nand.Fr.of_below hB, fun g hg => ?_⟩
 rcases hg with hg | ⟨ad, had, rfl⟩
 ·exact ⟨(h7 g (.inr hg)).1.1, hlo g hg, (h7 g (.inr hg)).2.1, rfl⟩
 ·have hk : o.K ad.block := .inr (.inr (.inr (.inl ⟨ad, by rw [hab]; exact had, rfl⟩)))
  exact ⟨fun x => h4 _ x hk, hne _ hk, h6 _ hk, rfl⟩
theorem LF.apart (h : LF c o A n cc K V w w1 st) : ∀ g, K g → ∀ ad, A = some ad → g ≠ ad.block := fun g hg ad had e => by
 have := (h.fr.mineQ g (.inr hg)).1
 exact this (.inr (.inr (.inr (.inl ⟨ad, by rw [h.ab.1]; exact had, e⟩))))
/-- The array was mounted. -/
theorem mount_lf {b : Nat} {o : FId} {R : FT × Int} (hR : Run (fun _ => False) w w1 b N (withA K A) w1) (hKA : ∀ g, K g → ∀ ad, A = some ad → g ≠ ad.block) {F' : Nat → Prop} (hF' : ∀ g, F' g → w.heap.size ≤ g) (hF : ∀ g, withA K A g → ¬ F' g) (hK1 : ∀ g, o.K g → w1.heap.size ≤ g ∨ ∃ ad, A = some ad ∧ g = ad.block) (hab : o.Ab = A ∧ o.nbad = n ∧ o.cbad = cc) (hfr : FR c o F' (fun _ => False) w2 w1 w2 R.1) (hwf : FWf c R.1) : LF c o A n cc K w1 w w2 R.1 := by
 have hB := hR.below
 have hfr2 := hfr.fr
 obtain ⟨F1, -, -, -, r4⟩ := hR
 obtain ⟨F2, h1, h2, h3, h4, h5, h6, -⟩ := hfr
 have hnew : ∀ g, o.K g → w.heap.size ≤ g := fun g hg => by
  rcases hK1 g hg with x | ⟨ad, had, rfl⟩
  ·exact Nat.le_trans hB.size x
  ·exact (r4 _ (.inr ⟨ad, had, rfl⟩)).2.1
 have hmut : ∀ g, o.mut g → w1.heap.size ≤ g := fun g hg => by
  rcases hK1 g (.inl hg) with x | ⟨ad, had, rfl⟩
  ·exact x
  ·exact absurd hg (h2.ap.ab ad (by rw [hab.1]; exact had))
 have hF2 : ∀ g, F2 g → w.heap.size ≤ g := fun g hg => by
  rcases h3 g hg with x | x
  ·exact hF' g x
  ·exact Nat.le_trans hB.size x
 refine ⟨⟨F2, h1, h2, fun g hg => .inr (hF2 g hg), h4, ⟨hfr2.os.trans hB.os, hfr2.tape.trans hB.tape, hfr2.output.trans hB.output, Nat.le_trans hB.size hfr2.size, fun g hg hn => absurd (.inr (.inr (.inl hg))) hn⟩, h6, fun g hg => ?_⟩, hnew, fun g hg => (r4 g (.inl hg)).2.1, fun g hg => hB.block g hg, hab, hwf⟩
 rcases hg with hg | hg
 ·have hg1 : g < w1.heap.size := Nat.lt_of_lt_of_le hg hB.size
  refine ⟨⟨fun x => by have := hF2 g x; omega, fun x => by have := hnew g x; omega⟩, Nat.lt_of_lt_of_le hg1 hfr2.size, hfr2.block g hg1 (fun x => ?_)⟩
  rcases x with x | x | x
  ·have := hF' g x; omega
  ·have := hmut g x; omega
  ·exact x
 ·obtain ⟨-, r5, r6, -⟩ := r4 g (.inl hg)
  have hnF : ¬ F' g := hF g (.inl hg)
  refine ⟨⟨fun x => ?_, fun x => ?_⟩, Nat.lt_of_lt_of_le r6 hfr2.size, hfr2.block g r6 (fun x => ?_)⟩
  ·rcases h3 g x with y | y
   ·exact hnF y
   ·omega
  ·rcases hK1 g x with y | ⟨ad, had, y⟩
   ·omega
   ·exact hKA g hg ad had y
  ·rcases x with x | x | x
   ·exact hnF x
   ·have := hmut g x; omega
   ·exact x
theorem lmount (hk : CK c) (hR : Run (fun _ => False) w w1 b N (withA K A) w1) (hKA : ∀ g, K g → ∀ ad, A = some ad → g ≠ ad.block) (hg : Geo w1 c.nb c.np (c.S : Int) A n cc c.bad) (hA : AOk c N c0 s) (hon : N.off = false) :
  Calls Try.prog 16 #[.pointer (some ⟨b, 0, none⟩), .agg #[.int .i64 (c.nb : Int), .int .i64 (c.np : Int), .int .i64 (c.S : Int), .slice A n cc], .int .u64 (c.ep : Int)] w1 fun e w' => ∃ o R, o.ba = b ∧
   (R.2 = 0 → e = .returned (.tuple #[.pointer (some ⟨o.bf, 0, none⟩), .int .i64 0])) ∧ (R.2 ≠ 0 → e = .returned (.tuple #[.pointer none, .int .i64 R.2])) ∧ LF c o A n cc K w1 w w' R.1 ∧ MntO c N.fence (Vof c0) s R ∧ Ops c.ep N R.1.N := by
 have hR0 := hR
 obtain ⟨F', r1, r2, r3, r4⟩ := hR
 refine (mount_run r1 hA.lb hA.lp hon hA.bytes hA.er A n cc hg (fun ad had => ⟨(r4 _ (.inr ⟨ad, had, rfl⟩)).2.2.1, (r4 _ (.inr ⟨ad, had, rfl⟩)).1⟩) hk.ok hk.M hk.ep.1 hk.ep.2).mono ?_
 rintro e w' ⟨o, L, at', has, cnt, st0, FL, R, q1, q2, q3, q4, q5, q6, q7, q8, q9, q10, q11, q12, q13⟩
 obtain ⟨m1, m2, m3⟩ := mount_start hk hA hon q4 q5 q6 q7 q8
 have hm := mountF_law hk (q := qOf FL) m1
 rw [q9, m2] at hm
 have ho := mountF_ops c (qOf FL) st0
 rw [q9] at ho
 have eN : st0.N = N := by rw [q5]
 rw [eN] at ho
 refine ⟨o, R, q1, q10, q11, mount_lf hR0 hKA (fun g hg => (r2 g hg).resolve_left id) (fun g hg => (r4 g hg).1) q3 q2 q12 q13, ?_, ho⟩
 rcases hm with ⟨g0, g1, g2, g3, g4⟩ | ⟨g0, g1⟩ | ⟨g0, g1⟩
 ·exact .inl ⟨g0, g1, g2, g3, Nat.le_trans g4 m3⟩
 ·exact .inr (.inl ⟨g0, g1⟩)
 ·exact .inr (.inr ⟨g0, g1.mono (fun D hD => hD) m3⟩)
/-! The calls of an FTL. -/
theorem put_ex (hk : CK c) (hA : At c st) (hs : st.seq + 7000 ≤ 281474976710000) (kd a : Nat) (ys : List Int) (ha : a < c.M) (hK : kd = 1 ∨ kd = 2) (hy : ys.length ≤ 64) (hy1 : kd = 1 ∨ ys.length = 0) (hB : IsB ys) : ∃ R, putG c 100 3 65 st kd a ys = some R ∧ PutO c st 7000 a ys R ∧ Ops c.ep st.N R.1.N := by
 obtain ⟨R, h1, h2⟩ := put_law hk 100 0 kd a ys (by omega) ha hK hy hy1 hB 65 st hA (by omega) (by omega)
 refine ⟨R, h1, ?_, putG_ops c 100 3 65 st kd a ys R h1⟩
 rcases h2 with ⟨g0, g1, g2, g3, g4, g5⟩ | ⟨g0, g1, g2, g3, g4, g5⟩ | ⟨g0, g1⟩ | ⟨g0, g1, g2, g3, g4, g5⟩
 ·exact .inl ⟨g0, g1, g2, g3, g4, by omega⟩
 ·exact .inr (.inl ⟨g0, g1, g2, g3, g4, by omega⟩)
 ·exact .inr (.inr (.inl ⟨g0, g1.mono (fun _ h => h) (by omega)⟩))
 ·exact .inr (.inr (.inr ⟨g0, g1, g2, g3, g4, by omega⟩))
theorem LF.step {st' : FT} (h : LF c o A n cc K V w w1 st) (hf : FR c o (fun _ => False) (fun g => g < w.heap.size ∨ K g) V w w2 st') (hw : FWf c st') : LF c o A n cc K V w w2 st' := ⟨hf, h.new, h.low, h.old, h.ab, hw⟩
theorem LF.write (h : LF c o A n cc K V w w1 st) (hk : CK c) (a : Nat) (ys : List Int) (A' : Option Addr) (n' c' : Nat) (hz : Nums V .u8 A' n' ys) (hin : 0 < n' → ∀ ad, A' = some ad → ad.block < w.heap.size ∨ K ad.block) (hy : IsB ys) (ha : a < c.M) (hn : n' ≤ 64) (R : FT × Int) (hR : putG c 100 3 65 st 1 a ys = some R) :
  Calls Try.prog 18 #[.pointer (some ⟨o.bf, 0, none⟩), .int .i64 (a : Int), .slice A' n' c'] w1 fun e w' => e = .returned (.int .i64 R.2) ∧ LF c o A n cc K V w w' R.1 := by
 refine (write_run h.fr h.wf hk.ok hk.ep.2 100 3 65 a ys A' n' c' hz hin hy ha hn R hR).mono ?_
 rintro e w' ⟨he, hf, hw⟩
 exact ⟨he, h.step hf hw⟩
theorem LF.trim (h : LF c o A n cc K V w w1 st) (hk : CK c) (a : Nat) (ha : a < c.M) (hh : st.has.getD a false = true) (R : FT × Int) (hR : putG c 100 3 65 st 2 a [] = some R) :
  Calls Try.prog 20 #[.pointer (some ⟨o.bf, 0, none⟩), .int .i64 (a : Int)] w1 fun e w' => e = .returned (.int .i64 R.2) ∧ LF c o A n cc K V w w' R.1 := by
 refine (trim_run h.fr h.wf hk.ok hk.ep.2 100 3 65 a ha hh R hR).mono ?_
 rintro e w' ⟨he, hf, hw⟩
 exact ⟨he, h.step hf hw⟩
theorem At.rd (hA : At c st) (a : Nat) : ∃ p, st.rd a p ∧ p.ys = (Vof (cF st) a).getD [] := by
 cases hh : st.has.getD a false with
 | false =>
  refine ⟨_, .inl ⟨hh, rfl⟩, ?_⟩
  have := hA.cor.cf a
  rw [hh] at this
  unfold Vof
  cases hc : cF st a with
  | none => rfl
  | some y => rw [hc] at this; cases this
 | true =>
  obtain ⟨x, hx, -, -, hr, -⟩ := hA.cor.reads hA.cap hh
  have h2 := rdF_rd hr
  refine ⟨x.2, h2.2, ?_⟩
  unfold Vof
  rw [hx]
  rfl
theorem LF.read (h : LF c o A n cc K V w w1 st) (hk : CK c) (hA : At c st) (a : Nat) (ha : a < c.M) :
  Calls Try.prog 21 #[.pointer (some ⟨o.bf, 0, none⟩), .int .i64 (a : Int)] w1 fun e w' => ∃ A' n' c', e = .returned (.tuple #[.slice A' n' c', .int .i64 0]) ∧ Nums w' .u8 A' n' ((Vof (cF st) a).getD []) ∧ Below w1.heap.size w1 w' ∧ (0 < n' → ∀ ad, A' = some ad → w1.heap.size ≤ ad.block) := by
 obtain ⟨p, hp, hy⟩ := hA.rd a
 rw [← hy]
 exact read_run h.fr hk.ok a ha p hp
/-- An operation with the array that the FTL doesn't see. -/
theorem LF.calls {P : Program} {fn : FuncId} {args : Array Value} {N' : NA} {R : Ending → Prop} (h : LF c o A n cc K V w w1 st) (hw : FWf c { st with N := N' })
  (hc : ∀ F', Arr w1 F' o.ba st.N → Calls P fn args w1 fun e w' => R e ∧ Arr w' (grow F' w1 w') o.ba N' ∧ Nand.Fr F' w1 w') : Calls P fn args w1 fun e w' => R e ∧ LF c o A n cc K V w w' { st with N := N' } := by
 refine (h.fr.calls hc).mono ?_
 rintro e w' ⟨he, hf⟩
 exact ⟨he, h.step hf hw⟩
/-- Another array whose pages are as they were. -/
theorem FWf.arr {N' : NA} (h : FWf c st) (hl : N'.bs.length = st.N.bs.length) (hp : N'.pages = st.N.pages) (hb : ∀ i, (N'.blk i).pages = (st.N.blk i).pages ∧ (N'.blk i).erases = (st.N.blk i).erases) : FWf c { st with N := N' } :=
 ⟨h.pi, fun a ha => by
  show _ < ((N'.blk _).pages.length : Int)
  rw [(hb _).1]
  exact h.loc a ha, by rw [← h.lb]; exact hl, by rw [← h.lp]; exact hp, fun i => by show kwf (N'.blk i).erases; rw [(hb i).2]; exact h.er i⟩
theorem At.arr {N' : NA} (h : At c st) (hl : N'.bs.length = st.N.bs.length) (hp : N'.pages = st.N.pages) (ho : N'.off = false) (hb : ∀ i, (N'.blk i).pages = (st.N.blk i).pages ∧ (N'.blk i).erases = (st.N.blk i).erases ∧ (N'.blk i).half = (st.N.blk i).half ∧ (N'.blk i).failed = (st.N.blk i).failed) : At c { st with N := N' } ∧ cF { st with N := N' } = cF st := by
 have hw := h.cor.wf.arr hl hp (fun i => ⟨(hb i).1, (hb i).2.1⟩)
 have hL : L0 c N' = L0 c st.N := L0_congr (fun i hi => by unfold NB.seen; rw [(hb i).1, (hb i).2.2.1])
 have hcf : cF { st with N := N' } = cF st := cF_congr rfl rfl (fun a ha => by
  show rdP ((N'.blk _).pages.getD _ []) = rdP ((st.N.blk _).pages.getD _ [])
  rw [(hb _).1])
 have hdd : dd N' = dd st.N := by
  funext i
  unfold dd
  rw [(hb _).2.2.2]
 refine ⟨⟨⟨hw, ho, fun j q hq => h.cor.bytes j q (by rw [← (hb j).1]; exact hq), ?_, fun a => by rw [hcf]; exact h.cor.cf a, fun i hi x hx => ?_⟩, ⟨h.pol.hl, h.pol.pool, h.pol.none_, fun i hi => ?_, fun i hi h0 he => ?_, fun i hi h1 => ?_, fun i hi h2 => ?_, h.pol.one⟩, fun i => ?_, h.room⟩, hcf⟩
 ·show Good c.xs (dd N') (L0 c N') (cF { st with N := N' })
  rw [hcf, hL, hdd]
  exact h.cor.good
 ·have hx : x ∈ L0 c N' i := hx
  rw [hL] at hx
  exact h.cor.num i hi x hx
 ·show _ ↔ (N'.blk i).failed = true
  rw [(hb i).2.2.2]
  exact h.pol.dead i hi
 ·show (N'.blk i).pages = [] ∧ (N'.blk i).half = false
  rw [(hb i).1, (hb i).2.2.1]
  exact h.pol.free i hi h0 he
 ·show (N'.blk i).half = false ∧ ¬ Cop (L0 c N') (i : Int)
  rw [(hb i).2.2.1, hL]
  exact h.pol.used i hi h1
 ·show (N'.blk i).half = false ∧ (Cop (L0 c N') (i : Int) → (N'.blk i).pages.length < c.np)
  rw [(hb i).2.2.1, hL, (hb i).1]
  exact h.pol.opn i hi h2
 ·show (N'.blk i).pages.length ≤ c.np
  rw [(hb i).1]
  exact h.cap i
/-- A new array can be mounted. -/
theorem AOk.new (hk : CK c) : AOk c (newA c.nb c.np c.bad) (fun _ => none) 0 := by
 have hp := newA_pages c.nb c.np c.bad
 have hL : L0 c (newA c.nb c.np c.bad) = fun _ => [] := by
  funext i
  unfold L0
  split
  ·unfold NB.seen
   split
   ·rfl
   ·rw [hp]; rfl
  ·rfl
 refine ⟨newA_len _ _ _, rfl, fun j q hq => (by rw [hp] at hq; cases hq), fun i => ?_, ?_, fun i hi x hx => (by rw [hL] at hx; cases hx), fun i => by rw [hp]; exact Nat.zero_le _, fun i hi hf hh => ?_, ?_⟩
 ·by_cases h : i < c.nb
  ·rw [newA_blk _ _ _ i h]
   show kwf 0
   exact kwf_of (by omega)
  ·unfold NA.blk
   rw [List.getD_eq_getElem?_getD, List.getElem?_eq_none (by rw [newA_len]; omega)]
   show kwf 0
   exact kwf_of (by omega)
 ·rw [hL]
  exact ⟨fun a i x h => by (cases h), fun i _ x hx => by (cases hx), fun i _ x hx => by (cases hx), fun a i x h => by (cases h), fun i _ hc => absurd rfl hc.1, fun i _ j _ x hx => by (cases hx), fun _ _ => rfl⟩
 ·exfalso
  obtain ⟨i', ei, -, hin⟩ := xs_nat hi
  rw [newA_blk _ _ _ i (by omega)] at hh
  cases hh
 ·refine ⟨-1, fun h => absurd h (fun x => by have := xs_64 hk.nb _ x; omega), ?_⟩
  rw [cnum_zero 64 (fun i hi => ?_)]
  ·have hM := hk.ok
   have hM1 := hk.M
   unfold FC.ok Plan.cap at hM
   have hlen : (usb ((c.nb : Int)).toNat c.bad).length = c.xs.length := by rw [Int.toNat_natCast]; rfl
   rw [hlen] at hM
   by_cases hle : 0 + 1 + c.S ≤ c.xs.length
   ·exact hle
   ·exfalso
    have : (c.np : Int) * ((c.xs.length : Int) - c.S - 1) ≤ (c.np : Int) * 0 := Int.mul_le_mul_of_nonneg_left (by omega) (by omega)
    omega
  ·cases e : liveL c.xs (fun i => ((newA c.nb c.np c.bad).blk i).failed) (L0 c (newA c.nb c.np c.bad)) (-1) i with
   | false => rfl
   | true =>
    have := (liveL_iff.1 e).2.2.1
    rw [hL] at this
    exact absurd rfl this
end
/-- Another epoch. -/
def FC.at (c : FC) (e : Nat) : FC := { c with ep := e }
theorem CK.at {c : FC} (h : CK c) {e : Nat} (h1 : 1 ≤ e) (h2 : e < 281474976710656) : CK (c.at e) := ⟨h.nb, h.np, h.ok, h.M, ⟨h1, h2⟩, h.M16⟩
theorem AOk.at {c : FC} {N : NA} {c0 : Nat → Option (Int × Fo)} {s : Nat} (h : AOk c N c0 s) (e : Nat) : AOk (c.at e) N c0 s := ⟨h.lb, h.lp, h.bytes, h.er, h.good, h.num, h.cap, h.half, h.few⟩
end Go.Proofs.Ytpcbpljdiacbmaa.Ftl

set_option linter.unusedVariables false
set_option linter.unusedSimpArgs false
namespace Go.Proofs.Ytpcbpljdiacbmaa.Ftl
open Go.RowKit Go.Proofs.Ytpcbpljdiacbmaa.Kit Go.Proofs.Ytpcbpljdiacbmaa.Oct Go.Proofs.Ytpcbpljdiacbmaa.Sheet Go.Proofs.Ytpcbpljdiacbmaa.Nand Go.Proofs.Ytpcbpljdiacbmaa.Plan Go.Proofs.Ytpcbpljdiacbmaa.Scan Go.Proofs.Ytpcbpljdiacbmaa.Pmap Go.Proofs.Ytpcbpljdiacbmaa.Pool

/-! Has each address its data? -/
def strs (ys : List (List Int)) : Array Value := (ys.map fun y => Value.string (strOfNums y)).toArray
section
variable {c : FC} {o : FId} {A : Option Addr} {n cc : Nat} {K : Nat → Prop} {V w w1 : World} {st : FT}
theorem strs_cell {W : World} {g : Nat} {ys : List (List Int)} (h : Blk W g (strs ys) 9) (i : Nat) (hi : i < ys.length) : W.cell? ⟨g, i, none⟩ = some (.string (strOfNums (ys.getD i []))) := by
 have h1 := h.cell i
 rw [h1]
 unfold strs
 rw [List.getElem?_toArray, List.getElem?_map, List.getElem?_eq_getElem hi, List.getD_eq_getElem?_getD, List.getElem?_eq_getElem hi]
 rfl
set_option maxRecDepth 100000 in
set_option maxHeartbeats 4000000 in
theorem right_any (h : LF c o A n cc K V w w1 st) (hk : CK c) (hA : At c st) (g m : Nat) (ys : List (List Int)) (hb : Blk w1 g (strs ys) 9) (hm : ys.length = m) (hM : m ≤ c.M) (hy : ∀ i, i < m → (Vof (cF st) i).getD [] = ys.getD i []) :
  Calls Try.prog 22 #[.pointer (some ⟨o.bf, 0, none⟩), .slice (some ⟨g, 0, none⟩) m m] w1 fun e w' => e = .returned (.bool true) ∧ Below w1.heap.size w1 w' := by
 have hM16 := hk.M16
 have hm64 : m < 65536 := by omega
 have Hrd := hid (fun (W : World) (hW : Below w1.heap.size w1 W) (i : Nat) (hi : i < m) => (h.later hW).read hk hA i (by omega))
 have Hb := hid hb
 have Hm := hid hm
 have Hy := hid hy
 clear h hA hk hb hm hM hM16 hy
 go_enter Try.func22, Try.ntmps22
 go_wp2
 go_loopw [5] (fun t w' => ∃ k : Nat, k ≤ m ∧ t = .int .i64 (k : Int) ∧ Below w1.heap.size w1 w') (fun t _ => m - (intOf t).toNat)
 case atStart => exact ⟨0, by omega, rfl, Below.refl _ _⟩
 case round =>
  obtain ⟨k, hkm, rfl, hB⟩ := hrel
  by_cases hlt : k < m
  ·have hltI : (k : Int) < (m : Int) := by omega
   have hrd := Hrd.out wr hB k hlt
   have HB := hid hB
   clear hB
   go_wp2_with fail
   refine hrd.mono ?_
   rintro e w2 ⟨A', n', c', rfl, hz, hB2, -⟩
   have hB12 := HB.out.trans (hB2.mono HB.out.size)
   have hc2 := strs_cell (Hb.out.later hB12) k (by rw [Hm.out]; exact hlt)
   have Hcv := hid (show (convert 22 9 (.slice A' n' c')).run Try.prog w2.drew = .ok (.string (strOfNums (ys.getD k []))) w2.drew ∧ w2.drew.cell? ⟨g, k, none⟩ = some (.string (strOfNums (ys.getD k []))) from ⟨by rw [← Hy.out k hlt]; exact conv_str (hz.below (below_drewN (Below.refl _ _) 1)), hc2⟩)
   have HB12 := hid (below_drewN hB12 1)
   clear hrd hz hB2 hB12 hc2
   go_wp2_with fail
   refine wp_region_held_drew (S := (fun w' => (convert 22 9 (.slice A' n' c')).run Try.prog w' = .ok (.string (strOfNums (ys.getD k []))) w' ∧ w'.cell? ⟨g, k, none⟩ = some (.string (strOfNums (ys.getD k []))))) (by kernel_rfl) ?hSnewRtz (fun hHeld => ?restRtz)
   case hSnewRtz => ((try dsimp only); exact Hcv.out)
   refine wpAnyH_take (i := 0) (oi := ?oiRtt2x0) (v := ?vRtt2x0) ?hoRtt2x0 ?h1Rtt2x0 ?h2Rtt2x0 ?h3Rtt2x0 ?hqRtt2x0 (Or.inl ⟨?h4Rtt2x0, ?hyRtt2x0⟩) (by assumption) ?restRtt2x0
   case hoRtt2x0 => (simp only [qa, qb, qc]; rfl)
   case h1Rtt2x0 => kernel_rfl
   case h2Rtt2x0 => kernel_rfl
   case h3Rtt2x0 => kernel_rfl
   case h4Rtt2x0 => rfl
   case hqRtt2x0 => exact fun _ _ _ h => h
   case hyRtt2x0 => (intro w hSw; (try dsimp only at hSw); go_simp <;> with_reducible rfl)
   (try simp only [Act.put, qd, qe, qf])
   refine wpAnyH_take (i := 1) (oi := ?oiRtt4x1) (v := ?vRtt4x1) ?hoRtt4x1 ?h1Rtt4x1 ?h2Rtt4x1 ?h3Rtt4x1 ?hqRtt4x1 (Or.inl ⟨?h4Rtt4x1, ?hyRtt4x1⟩) (by assumption) ?restRtt4x1
   case hoRtt4x1 => (simp only [qa, qb, qc]; rfl)
   case h1Rtt4x1 => kernel_rfl
   case h2Rtt4x1 => kernel_rfl
   case h3Rtt4x1 => kernel_rfl
   case h4Rtt4x1 => rfl
   case hqRtt4x1 => exact fun _ _ _ h => h
   case hyRtt4x1 => (intro w hSw; (try dsimp only at hSw); go_simp <;> with_reducible rfl)
   (try simp only [Act.put, qd, qe, qf])
   refine wpAnyH_take (i := 2) (oi := ?oiRtt6x2) (v := ?vRtt6x2) ?hoRtt6x2 ?h1Rtt6x2 ?h2Rtt6x2 ?h3Rtt6x2 ?hqRtt6x2 (Or.inl ⟨?h4Rtt6x2, ?hyRtt6x2⟩) (by assumption) ?restRtt6x2
   case hoRtt6x2 => (simp only [qa, qb, qc]; rfl)
   case h1Rtt6x2 => kernel_rfl
   case h2Rtt6x2 => kernel_rfl
   case h3Rtt6x2 => kernel_rfl
   case h4Rtt6x2 => rfl
   case hqRtt6x2 => exact fun _ _ _ h => h
   case hyRtt6x2 => (intro w hSw; (try dsimp only at hSw); go_simp <;> with_reducible rfl)
   (try simp only [Act.put, qd, qe, qf])
   refine wpAnyH_take (i := 3) (oi := ?oiRtt8x3) (v := ?vRtt8x3) ?hoRtt8x3 ?h1Rtt8x3 ?h2Rtt8x3 ?h3Rtt8x3 ?hqRtt8x3 (Or.inl ⟨?h4Rtt8x3, ?hyRtt8x3⟩) (by assumption) ?restRtt8x3
   case hoRtt8x3 => (simp only [qa, qb, qc]; rfl)
   case h1Rtt8x3 => kernel_rfl
   case h2Rtt8x3 => kernel_rfl
   case h3Rtt8x3 => kernel_rfl
   case h4Rtt8x3 => rfl
   case hqRtt8x3 => exact fun _ _ _ h => h
   case hyRtt8x3 => (intro w hSw; (try dsimp only at hSw); go_simp <;> with_reducible rfl)
   (try simp only [Act.put, qd, qe, qf])
   refine wpAnyH_take (i := 4) (oi := ?oiRtt10x4) (v := ?vRtt10x4) ?hoRtt10x4 ?h1Rtt10x4 ?h2Rtt10x4 ?h3Rtt10x4 ?hqRtt10x4 (Or.inl ⟨?h4Rtt10x4, ?hyRtt10x4⟩) (by assumption) ?restRtt10x4
   case hoRtt10x4 => (simp only [qa, qb, qc]; rfl)
   case h1Rtt10x4 => kernel_rfl
   case h2Rtt10x4 => kernel_rfl
   case h3Rtt10x4 => kernel_rfl
   case h4Rtt10x4 => rfl
   case hqRtt10x4 => exact fun _ _ _ h => h
   case hyRtt10x4 => (intro w hSw; (try dsimp only at hSw); go_simp <;> with_reducible rfl)
   (try simp only [Act.put, qd, qe, qf])
   refine wpAnyH_take (i := 5) (oi := ?oiRtt12x5) (v := ?vRtt12x5) ?hoRtt12x5 ?h1Rtt12x5 ?h2Rtt12x5 ?h3Rtt12x5 ?hqRtt12x5 (Or.inl ⟨?h4Rtt12x5, ?hyRtt12x5⟩) (by assumption) ?restRtt12x5
   case hoRtt12x5 => (simp only [qa, qb, qc]; rfl)
   case h1Rtt12x5 => kernel_rfl
   case h2Rtt12x5 => kernel_rfl
   case h3Rtt12x5 => kernel_rfl
   case h4Rtt12x5 => rfl
   case hqRtt12x5 => exact fun _ _ _ h => h
   case hyRtt12x5 => (intro w hSw; (try dsimp only at hSw); go_simp <;> with_reducible rfl)
   (try simp only [Act.put, qd, qe, qf])
   refine wpAnyH_take (i := 6) (oi := ?oiRtt14x6) (v := ?vRtt14x6) ?hoRtt14x6 ?h1Rtt14x6 ?h2Rtt14x6 ?h3Rtt14x6 ?hqRtt14x6 (Or.inl ⟨?h4Rtt14x6, ?hyRtt14x6⟩) (by assumption) ?restRtt14x6
   case hoRtt14x6 => (simp only [qa, qb, qc]; rfl)
   case h1Rtt14x6 => kernel_rfl
   case h2Rtt14x6 => kernel_rfl
   case h3Rtt14x6 => kernel_rfl
   case h4Rtt14x6 => rfl
   case hqRtt14x6 => exact fun _ _ _ h => h
   case hyRtt14x6 => (intro w hSw; (try dsimp only at hSw); go_simp <;> with_reducible rfl)
   (try simp only [Act.put, qd, qe, qf])
   refine wpAnyH_take (i := 7) (oi := ?oiRtt16x7) (v := ?vRtt16x7) ?hoRtt16x7 ?h1Rtt16x7 ?h2Rtt16x7 ?h3Rtt16x7 ?hqRtt16x7 (Or.inl ⟨?h4Rtt16x7, ?hyRtt16x7⟩) (by assumption) ?restRtt16x7
   case hoRtt16x7 => (simp only [qa, qb, qc]; rfl)
   case h1Rtt16x7 => kernel_rfl
   case h2Rtt16x7 => kernel_rfl
   case h3Rtt16x7 => kernel_rfl
   case h4Rtt16x7 => rfl
   case hqRtt16x7 => exact fun _ _ _ h => h
   case hyRtt16x7 => (intro w hSw; (try dsimp only at hSw); go_simp <;> with_reducible rfl)
   (try simp only [Act.put, qd, qe, qf])
   refine wpAnyH_take (i := 8) (oi := ?oiRtt18x8) (v := ?vRtt18x8) ?hoRtt18x8 ?h1Rtt18x8 ?h2Rtt18x8 ?h3Rtt18x8 ?hqRtt18x8 (Or.inl ⟨?h4Rtt18x8, ?hyRtt18x8⟩) (by assumption) ?restRtt18x8
   case hoRtt18x8 => (simp only [qa, qb, qc]; rfl)
   case h1Rtt18x8 => kernel_rfl
   case h2Rtt18x8 => kernel_rfl
   case h3Rtt18x8 => kernel_rfl
   case h4Rtt18x8 => rfl
   case hqRtt18x8 => exact fun _ _ _ h => h
   case hyRtt18x8 => (intro w hSw; (try dsimp only at hSw); go_simp <;> with_reducible rfl)
   (try simp only [Act.put, qd, qe, qf])
   refine wpAnyH_take (i := 9) (oi := ?oiRtt20x9) (v := ?vRtt20x9) ?hoRtt20x9 ?h1Rtt20x9 ?h2Rtt20x9 ?h3Rtt20x9 ?hqRtt20x9 (Or.inl ⟨?h4Rtt20x9, ?hyRtt20x9⟩) (by assumption) ?restRtt20x9
   case hoRtt20x9 => (simp only [qa, qb, qc]; rfl)
   case h1Rtt20x9 => kernel_rfl
   case h2Rtt20x9 => kernel_rfl
   case h3Rtt20x9 => kernel_rfl
   case h4Rtt20x9 => rfl
   case hqRtt20x9 => exact fun _ _ _ h => h
   case hyRtt20x9 => (intro w hSw; (try dsimp only at hSw); go_simp <;> with_reducible rfl)
   (try simp only [Act.put, qd, qe, qf])
   refine wpAnyH_take (i := 10) (oi := ?oiRtt22x10) (v := ?vRtt22x10) ?hoRtt22x10 ?h1Rtt22x10 ?h2Rtt22x10 ?h3Rtt22x10 ?hqRtt22x10 (Or.inl ⟨?h4Rtt22x10, ?hyRtt22x10⟩) (by assumption) ?restRtt22x10
   case hoRtt22x10 => (simp only [qa, qb, qc]; rfl)
   case h1Rtt22x10 => kernel_rfl
   case h2Rtt22x10 => kernel_rfl
   case h3Rtt22x10 => kernel_rfl
   case h4Rtt22x10 => rfl
   case hqRtt22x10 => exact fun _ _ _ h => h
   case hyRtt22x10 => (intro w hSw; (try dsimp only at hSw); go_simp <;> with_reducible rfl)
   (try simp only [Act.put, qd, qe, qf])
   refine wpAnyH_done (by kernel_rfl) ?_ _
   go_wp2
   go_roundw
   case rel => exact ⟨k + 1, by omega, by go_num, HB12.out⟩
   case measure => simp [intOf]; omega
  ·obtain rfl : k = m := by omega
   go_wp2
   go_ret
   exact ⟨rfl, hB⟩
end
end Go.Proofs.Ytpcbpljdiacbmaa.Ftl

set_option linter.unusedVariables false
set_option linter.unusedSimpArgs false
namespace Go.Proofs.Ytpcbpljdiacbmaa.Ftl
open Go.RowKit Go.Proofs.Ytpcbpljdiacbmaa.Kit Go.Proofs.Ytpcbpljdiacbmaa.Oct Go.Proofs.Ytpcbpljdiacbmaa.Sheet Go.Proofs.Ytpcbpljdiacbmaa.Nand Go.Proofs.Ytpcbpljdiacbmaa.Plan Go.Proofs.Ytpcbpljdiacbmaa.Scan Go.Proofs.Ytpcbpljdiacbmaa.Pmap Go.Proofs.Ytpcbpljdiacbmaa.Pool

/-! Where nothing is cut, and no block fails. -/
structure CalmN (c : FC) (N : NA) : Prop where
 hale : ∀ i : Nat, (i : Int) ∈ c.xs → Hale1 N i
 armed : N.armed = 0
 fence : N.fence = 0
section
variable {c : FC} {o : FId} {A : Option Addr} {n cc b s a : Nat} {K K' : Nat → Prop} {V w w1 w2 : World} {st : FT} {N N' : NA} {c0 : Nat → Option (Int × Fo)} {D : Nat → Option (List Int)} {R : FT × Int} {ys : List Int}
theorem CalmN.ops {ep : Int} (h : CalmN c N) (ho : Ops ep N N') : CalmN c N' := ⟨fun i hi => ho.hale (h.hale i hi), ho.calm h.armed, ho.fence.trans h.fence⟩
theorem CalmN.new : CalmN c (newA c.nb c.np c.bad) := by
 refine ⟨fun i hi => ?_, rfl, rfl⟩
 obtain ⟨i', ei, -, hin⟩ := xs_nat hi
 have hb := ((usb_mem c.nb c.bad (i : Int)).1 hi).2.2
 unfold Hale1
 rw [newA_blk _ _ _ i (by omega)]
 exact ⟨decide_eq_false hb, rfl, decide_eq_false hb⟩
theorem CalmN.at (h : CalmN c N) (e : Nat) : CalmN (c.at e) N := ⟨h.hale, h.armed, h.fence⟩
theorem CalmN.none_dead {ex : Nat → Prop} (h : CalmN c st.N) (hp : Pol c st ex) : cntH st.hs 3 = 0 := by
 rw [dead_count hp]
 refine cnum_zero 64 (fun i hi => ?_)
 by_cases hx : (i : Int) ∈ c.xs
 ·rw [(h.hale i hx).2.2, Bool.and_false]
 ·rw [decide_eq_false hx, Bool.false_and]
/-- An FTL at rest, its data, its number; nothing is cut, nothing fails. -/
structure Sound (c : FC) (st : FT) (D : Nat → Option (List Int)) (s : Nat) : Prop where
 rest : At c st
 data : Vof (cF st) = D
 seq : st.seq ≤ s
 calm : CalmN c st.N
theorem Sound.aok (h : Sound c st D s) (hk : CK c) : AOk c st.N (cF st) s := (h.rest.aok hk.nb).later h.seq
theorem Sound.put (h : Sound c st D s) (hp : PutO c st 7000 a ys R) (ho : Ops c.ep st.N R.1.N) : R.2 = 0 ∧ Sound c R.1 (updV D a ys) (s + 7000) := by
 have hc := h.calm.ops ho
 have hs := h.seq
 rcases hp with ⟨g0, g1, g2, g3, g4, g5⟩ | ⟨g0, g1, g2, g3, g4, g5⟩ | ⟨g0, g1⟩ | ⟨g0, g1, g2, g3, g4, g5⟩
 ·exact ⟨g0, g1, by rw [g2, h.data], by omega, hc⟩
 ·have := h.calm.fence
  omega
 ·have := ho.on h.calm.armed h.rest.cor.on
  rw [g1.1] at this
  cases this
 ·rw [hc.none_dead g1.pol] at g3
  omega
theorem Sound.mount (hc : CalmN c N) (hon : N.off = false) (hm : MntO c N.fence D s R) (ho : Ops c.ep N R.1.N) : R.2 = 0 ∧ Sound c R.1 D s := by
 have hc' := hc.ops ho
 rcases hm with ⟨g0, g1, g2, g3, g4⟩ | ⟨g0, g1⟩ | ⟨g0, g1⟩
 ·exact ⟨g0, g1, g2, g4, hc'⟩
 ·have := hc.fence
  omega
 ·have := ho.on hc.armed hon
  rw [g1.1] at this
  cases this
theorem cmount (hk : CK c) (hR : Run (fun _ => False) w w1 b N (withA K A) w1) (hKA : ∀ g, K g → ∀ ad, A = some ad → g ≠ ad.block) (hg : Geo w1 c.nb c.np (c.S : Int) A n cc c.bad) (hA : AOk c N c0 s) (hon : N.off = false) (hc : CalmN c N) :
  Calls Try.prog 16 #[.pointer (some ⟨b, 0, none⟩), .agg #[.int .i64 (c.nb : Int), .int .i64 (c.np : Int), .int .i64 (c.S : Int), .slice A n cc], .int .u64 (c.ep : Int)] w1 fun e w' => ∃ o st, o.ba = b ∧ e = .returned (.tuple #[.pointer (some ⟨o.bf, 0, none⟩), .int .i64 0]) ∧ LF c o A n cc K w1 w w' st ∧ Sound c st (Vof c0) s ∧ Ops c.ep N st.N := by
 refine (lmount hk hR hKA hg hA hon).mono ?_
 rintro e w' ⟨o, R, h1, h2, h3, h4, h5, h6⟩
 obtain ⟨g1, g2⟩ := Sound.mount hc hon h5 h6
 exact ⟨o, R.1, h1, h2 g1, h4, g2, h6⟩
/-- An FTL is mounted anew. -/
theorem LF.again (h : LF c o A n cc K V w w1 st) (hk : CK c) (hS : Sound c st D s) {e : Nat} (h1 : 1 ≤ e) (h2 : e < 281474976710656) :
  Calls Try.prog 16 #[.pointer (some ⟨o.ba, 0, none⟩), .agg #[.int .i64 (c.nb : Int), .int .i64 (c.np : Int), .int .i64 (c.S : Int), .slice A n cc], .int .u64 (e : Int)] w1 fun e' w' => ∃ o' st', o'.ba = o.ba ∧ e' = .returned (.tuple #[.pointer (some ⟨o'.bf, 0, none⟩), .int .i64 0]) ∧ LF (c.at e) o' A n cc K w1 w w' st' ∧ Sound (c.at e) st' D s ∧ Ops e st.N st'.N := by
 have := cmount (c := c.at e) (hk.at h1 h2) h.run h.apart h.geo ((hS.aok hk).at e) hS.rest.cor.on (hS.calm.at e)
 rw [hS.data] at this
 exact this
theorem LF.cwrite (h : LF c o A n cc K V w w1 st) (hk : CK c) (hS : Sound c st D s) (hs : s + 7000 ≤ 281474976710000) (a : Nat) (ys : List Int) (A' : Option Addr) (n' c' : Nat) (hz : Nums V .u8 A' n' ys) (hin : 0 < n' → ∀ ad, A' = some ad → ad.block < w.heap.size ∨ K ad.block) (hy : IsB ys) (ha : a < c.M) (hn : n' ≤ 64) :
  Calls Try.prog 18 #[.pointer (some ⟨o.bf, 0, none⟩), .int .i64 (a : Int), .slice A' n' c'] w1 fun e w' => e = .returned (.int .i64 0) ∧ ∃ st', LF c o A n cc K V w w' st' ∧ Sound c st' (updV D a ys) (s + 7000) ∧ Ops c.ep st.N st'.N := by
 obtain ⟨R, r1, r2, r3⟩ := put_ex hk hS.rest (by have := hS.seq; omega) 1 a ys ha (.inl rfl) (by rw [hz.len]; exact hn) (.inl rfl) hy
 obtain ⟨g1, g2⟩ := hS.put r2 r3
 refine (h.write hk a ys A' n' c' hz hin hy ha hn R r1).mono ?_
 rintro e w' ⟨he, hL⟩
 rw [g1] at he
 exact ⟨he, R.1, hL, g2, r3⟩
theorem LF.ctrim (h : LF c o A n cc K V w w1 st) (hk : CK c) (hS : Sound c st D s) (hs : s + 7000 ≤ 281474976710000) (a : Nat) (ha : a < c.M) :
  Calls Try.prog 20 #[.pointer (some ⟨o.bf, 0, none⟩), .int .i64 (a : Int)] w1 fun e w' => e = .returned (.int .i64 0) ∧ ∃ st', LF c o A n cc K V w w' st' ∧ Sound c st' (if D a = none then D else updV D a []) (s + 7000) ∧ (D a = none → st' = st) := by
 have hcf := hS.rest.cor.cf a
 have hD : D a = none ↔ st.has.getD a false = false := by
  rw [← hS.data, hcf]
  unfold Vof
  cases cF st a <;> simp
 by_cases hn : D a = none
 ·rw [if_pos hn]
  refine (trim_none h.fr hk.ok a ha (hD.1 hn)).mono ?_
  rintro e w' ⟨he, hB⟩
  exact ⟨he, st, h.later hB, ⟨hS.rest, hS.data, by have := hS.seq; omega, hS.calm⟩, fun _ => rfl⟩
 ·rw [if_neg hn]
  have hh : st.has.getD a false = true := by
   cases e : st.has.getD a false with
   | true => rfl
   | false => exact absurd (hD.2 e) hn
  obtain ⟨R, r1, r2, r3⟩ := put_ex hk hS.rest (by have := hS.seq; omega) 2 a [] ha (.inr rfl) (by simp) (.inr rfl) (fun x hx => by cases hx)
  obtain ⟨g1, g2⟩ := hS.put r2 r3
  refine (h.trim hk a ha hh R r1).mono ?_
  rintro e w' ⟨he, hL⟩
  rw [g1] at he
  exact ⟨he, R.1, hL, g2, fun x => absurd x hn⟩
theorem LF.cread (h : LF c o A n cc K V w w1 st) (hk : CK c) (hS : Sound c st D s) (a : Nat) (ha : a < c.M) :
  Calls Try.prog 21 #[.pointer (some ⟨o.bf, 0, none⟩), .int .i64 (a : Int)] w1 fun e w' => ∃ A' n' c', e = .returned (.tuple #[.slice A' n' c', .int .i64 0]) ∧ Nums w' .u8 A' n' ((D a).getD []) ∧ Below w1.heap.size w1 w' := by
 refine (h.read hk hS.rest a ha).mono ?_
 rintro e w' ⟨A', n', c', he, hz, hB, -⟩
 rw [hS.data] at hz
 exact ⟨A', n', c', he, hz, hB⟩
end
/-- The geometries of the laws. -/
def cG (n e : Nat) : FC := ⟨gB n, gP n, gS n, gL n, capN n + 1, e⟩
theorem cG_ok {n e : Nat} (hn : n < 256) (h1 : 1 ≤ e) (h2 : e < 281474976710656) : CK (cG n e) := by
 have hgB : 5 ≤ gB n ∧ gB n ≤ 9 := by unfold gB; omega
 have hgP : 2 ≤ gP n ∧ gP n ≤ 5 := by unfold gP; omega
 obtain ⟨-, hcap, hM1, hM60⟩ := geo_more ⟨n, hn⟩
 have hcap : Plan.cap (gB n : Int) (gP n : Int) (gS n : Int) (gL n) = (capN n : Int) := hcap
 have hM60 : capN n ≤ 60 := hM60
 refine ⟨by show gB n ≤ 64; omega, ⟨by show 2 ≤ gP n; omega, by show gP n ≤ 32; omega⟩, ?_, by show 1 ≤ capN n + 1; omega, ⟨h1, h2⟩, by show capN n + 1 < 65536; omega⟩
 show Plan.cap (gB n : Int) (gP n : Int) (gS n : Int) (gL n) = ((capN n + 1 : Nat) : Int) - 1
 rw [hcap]
 omega
end Go.Proofs.Ytpcbpljdiacbmaa.Ftl

set_option linter.unusedVariables false
set_option linter.unusedSimpArgs false
namespace Go.Proofs.Ytpcbpljdiacbmaa.Ftl
open Go.RowKit Go.Proofs.Ytpcbpljdiacbmaa.Kit Go.Proofs.Ytpcbpljdiacbmaa.Oct Go.Proofs.Ytpcbpljdiacbmaa.Sheet Go.Proofs.Ytpcbpljdiacbmaa.Nand Go.Proofs.Ytpcbpljdiacbmaa.Plan Go.Proofs.Ytpcbpljdiacbmaa.Scan Go.Proofs.Ytpcbpljdiacbmaa.Pmap Go.Proofs.Ytpcbpljdiacbmaa.Pool

/-! The document's example. -/
theorem new_run (nb pg : Nat) (A : Option Addr) (m cc : Nat) (bad : List Int) (K : Nat → Prop) (w w2 : World) (hB : Below w.heap.size w w2) (hn : 1 ≤ nb ∧ nb ≤ 64) (hp : 1 ≤ pg ∧ pg ≤ 32) (hz : Nums w2 .i64 A m bad) (hbad : ∀ x ∈ bad, 0 ≤ x ∧ x < (nb : Int)) (hK : ∀ g, withA K A g → w.heap.size ≤ g ∧ g < w2.heap.size) :
  Calls Try.prog 15 #[.int .i64 (nb : Int), .int .i64 (pg : Int), .slice A m cc] w2 fun e w' => ∃ b, e = .returned (.tuple #[.pointer (some ⟨b, 0, none⟩), .int .i64 0]) ∧ Run (fun _ => False) w w' b (newA nb pg bad) (withA K A) w' ∧ Below w2.heap.size w2 w' := by
 refine (Nand.new_any nb pg A m cc bad w2 hn hp hz hbad).mono ?_
 rintro e w' ⟨b, he, hA, hB2⟩
 refine ⟨b, he, ⟨_, hA, fun g hg => .inr (Nat.le_trans hB.size hg.1), Nand.Fr.of_below (hB.trans (hB2.mono hB.size)), fun g hg => ?_⟩, hB2⟩
 obtain ⟨h1, h2⟩ := hK g hg
 exact ⟨fun x => by have := x.1; omega, h1, Nat.lt_of_lt_of_le h2 hB2.size, rfl⟩
def c6 : FC := ⟨6, 2, 0, [], 5, 1⟩
theorem c6_ok : CK c6 := by
 have h := cG_ok (n := 1) (e := 1) (by omega) (by omega) (by omega)
 have e : cG 1 1 = c6 := by
  have h1 : capN 1 = 4 := by decide +kernel
  unfold cG c6
  rw [h1]
  rfl
 rw [e] at h
 exact h
def gk (g1 : Nat) : Nat → Prop := fun g => g = g1
section
variable {c : FC} {o : FId} {A : Option Addr} {n cc s a : Nat} {K K' : Nat → Prop} {V V' w w1 w2 : World} {st : FT} {D : Nat → Option (List Int)}
theorem LF.back (h : LF c o A n cc K' V' w w2 st) (hK : ∀ g, K g → K' g ∧ V'.heap[g]? = V.heap[g]?) (hV : ∀ g, g < w.heap.size → V.heap[g]? = w.heap[g]?) : LF c o A n cc K V w w2 st :=
 ⟨h.fr.back (fun g hg => by
  rcases hg with hg | hg
  ·exact ⟨.inl hg, (h.old g hg).trans (hV g hg).symm⟩
  ·exact ⟨.inr (hK g hg).1, (hK g hg).2⟩) (fun g hg => by
  rcases hg with hg | hg
  ·exact .inl (.inl hg)
  ·exact .inr (h.low g hg)), h.new, fun g hg => h.low g (hK g hg).1, hV, h.ab, h.wf⟩
/-- What is written was made just now. -/
theorem LF.cwrite_lit (h : LF c o A n cc K V w w1 st) (hk : CK c) (hS : Sound c st D s) (hs : s + 7000 ≤ 281474976710000) (a : Nat) (ys : List Int) (m : Nat) (hm : ys.length = m) (hy : IsB ys) (ha : a < c.M) (hn : m ≤ 64) (c' : Nat) (fr : Nat × Nat) :
  Calls Try.prog 18 #[.pointer (some ⟨o.bf, 0, none⟩), .int .i64 (a : Int), .slice (some ⟨w1.heap.size, 0, none⟩) m c'] (w1.alloc (.cells (ys.map (Value.int .u8)).toArray 5 fr)) fun e w' => e = .returned (.int .i64 0) ∧ ∃ st', LF c o A n cc K V w w' st' ∧ Sound c st' (updV D a ys) (s + 7000) ∧ Ops c.ep st.N st'.N := by
 have hB : Below w1.heap.size w1 (w1.alloc (.cells (ys.map (Value.int .u8)).toArray 5 fr)) := (Below.refl _ _).alloc (Nat.le_refl _) _
 have hz : Nums (w1.alloc (.cells (ys.map (Value.int .u8)).toArray 5 fr)) .u8 (some ⟨w1.heap.size, 0, none⟩) m ys := nums_lit (heap_alloc_new _ _) hm (wf_of hy)
 have hL := h.more (K' := fun g => K g ∨ g = w1.heap.size) hB (fun g hg => by
  rcases hg with hg | hg
  ·exact .inl hg
  ·exact .inr ⟨by omega, by rw [hg]; simp⟩) (fun g hg => .inl hg)
 refine (hL.cwrite hk hS hs a ys _ m c' hz (fun _ ad had => by
  injection had with had
  rw [← had]
  exact .inr (.inr rfl)) hy ha hn).mono ?_
 rintro e w' ⟨he, st', hL', hS', hO⟩
 exact ⟨he, st', hL'.back (fun g hg => ⟨.inl hg, (hB.block g (h.fr.mineQ g (.inr hg)).2.1).trans (h.heap hg)⟩) h.old, hS', hO⟩
end
set_option maxRecDepth 100000 in
set_option maxHeartbeats 4000000 in
theorem awake_ftl (w : World) : Calls Try.prog 13 #[] w fun e w' => e = .returned (.bool true) ∧ Below w.heap.size w w' := by
 have hgeo : Calls Try.prog 14 #[.int .u8 1] w fun e w' => ∃ A m c, e = .returned (.agg #[.int .i64 6, .int .i64 2, .int .i64 0, .slice A m c]) ∧ Geo w' 6 2 0 A m c [] ∧ Below w.heap.size w w' ∧ ∀ ad, A = some ad → w.heap.size ≤ ad.block ∧ ad.block < w'.heap.size := geometry_low 1 (by omega) w
 go_enter Try.func13, Try.ntmps13
 go_wp2_with fail
 refine hgeo.mono ?_
 rintro e w1 ⟨A, m, cc, rfl, hg1, hB1, hA1⟩
 clear hgeo
 go_upto_region 2 with (fail)
 generalize hw2 : World.alloc w1 _ = w2
 obtain ⟨g1, hg1e⟩ : ∃ g, w1.heap.size = g := ⟨_, rfl⟩
 have hB2 : Below w1.heap.size w1 w2 := by rw [← hw2]; exact (Below.refl _ _).alloc (Nat.le_refl _) _
 have hb1 : Blk w2 g1 #[.int .i64 6, .int .i64 2, .int .i64 0, .slice A m cc] 26 := by rw [← hw2, ← hg1e]; exact Blk.new _ _ _
 have hg2 := hg1.later hB2
 have hnew : Calls Try.prog 15 #[.int .i64 6, .int .i64 2, .slice A m cc] w2 fun e w' => ∃ b, e = .returned (.tuple #[.pointer (some ⟨b, 0, none⟩), .int .i64 0]) ∧ Run (fun _ => False) w w' b (newA 6 2 []) (withA (gk g1) A) w' ∧ Below w2.heap.size w2 w' := new_run 6 2 A m cc [] (gk g1) w w2 (hB1.trans (hB2.mono hB1.size)) (by omega) (by omega) hg2.nums (by simp) (fun g hg => by
  have h1 := hB1.size
  have h2 := hb1.lt
  rcases hg with hg | ⟨ad, had, rfl⟩
  ·have hg : g = g1 := hg
   rw [hg]
   omega
  ·have := hA1 ad had
   omega)
 have hne : ∀ g, gk g1 g → ∀ ad, A = some ad → g ≠ ad.block := fun g hg ad had => by
  have hg : g = g1 := hg
  have := hA1 ad had
  omega
 obtain ⟨z0, z1, z2, z3⟩ := geo_four hb1
 rw [hg1e]
 have Hne := hid hne
 have Hb1 := hid hb1
 have Hg2 := hid hg2
 clear hw2 hg1e hB1 hB2 hb1 hg1 hg2 hA1 hne
 go_wp2_with fail
 refine hnew.mono ?_
 rintro e w3 ⟨b, rfl, hR3, hB3⟩
 clear hnew z0 z1 z2 z3
 have hb3 := Hb1.out.later hB3
 have hg3 := Hg2.out.later hB3
 have hmt : Calls Try.prog 16 #[.pointer (some ⟨b, 0, none⟩), .agg #[.int .i64 6, .int .i64 2, .int .i64 0, .slice A m cc], .int .u64 1] w3 fun e w' => ∃ o st, o.ba = b ∧ e = .returned (.tuple #[.pointer (some ⟨o.bf, 0, none⟩), .int .i64 0]) ∧ LF c6 o A m cc (gk g1) w3 w w' st ∧ Sound c6 st (Vof (fun _ => none)) 0 ∧ Ops c6.ep (newA 6 2 []) st.N := cmount (c := c6) c6_ok hR3 Hne.out hg3 (AOk.new c6_ok) rfl CalmN.new
 obtain ⟨z0, z1, z2, z3⟩ := geo_four hb3
 have Hb3 := hid hb3
 clear hR3 hB3 hg3 hb3 Hb1 Hg2 Hne
 go_wp2_with fail
 refine hmt.mono ?_
 rintro e w4 ⟨o, st, hob, rfl, hL4, hS4, -⟩
 clear hmt z0 z1 z2 z3
 subst hob
 have HL4 := hid hL4
 have HS4 := hid hS4
 clear hL4 hS4
 have hcv := Lib.run_convert_bytes_const (P := Try.prog) w4 22 5 #[.int .u8 97] 1 1 Try.underlying22 Try.underlying5
 go_wp2_with fail
 have hw1 : Calls Try.prog 18 #[.pointer (some ⟨o.bf, 0, none⟩), .int .i64 0, .slice (some ⟨w4.heap.size, 0, none⟩) 1 1] (w4.alloc (.cells #[.int .u8 97] 5 (1, 2))) fun e w' => e = .returned (.int .i64 0) ∧ ∃ st', LF c6 o A m cc (gk g1) w3 w w' st' ∧ Sound c6 st' (updV (Vof (fun _ => none)) 0 [97]) (0 + 7000) ∧ Ops c6.ep st.N st'.N := HL4.out.cwrite_lit c6_ok HS4.out (by omega) 0 [97] 1 rfl (fun x hx => by rw [List.mem_singleton.1 hx]; decide) (by decide) (by omega) 1 (1, 2)
 refine hw1.mono ?_
 rintro e w5 ⟨rfl, st5, hL5, hS5, -⟩
 clear hw1 hcv
 have HL5 := hid hL5
 have HS5 := hid hS5
 clear hL5 hS5 HL4 HS4
 have hcv := Lib.run_convert_bytes_const (P := Try.prog) w5 22 5 #[.int .u8 98] 1 1 Try.underlying22 Try.underlying5
 go_wp2_with fail
 have hw1 : Calls Try.prog 18 #[.pointer (some ⟨o.bf, 0, none⟩), .int .i64 0, .slice (some ⟨w5.heap.size, 0, none⟩) 1 1] (w5.alloc (.cells #[.int .u8 98] 5 (1, 2))) fun e w' => e = .returned (.int .i64 0) ∧ ∃ st', LF c6 o A m cc (gk g1) w3 w w' st' ∧ Sound c6 st' (updV (updV (Vof (fun _ => none)) 0 [97]) 0 [98]) (0 + 7000 + 7000) ∧ Ops c6.ep st5.N st'.N := HL5.out.cwrite_lit c6_ok HS5.out (by omega) 0 [98] 1 rfl (fun x hx => by rw [List.mem_singleton.1 hx]; decide) (by decide) (by omega) 1 (1, 2)
 refine hw1.mono ?_
 rintro e w6 ⟨rfl, st6, hL6, hS6, -⟩
 clear hw1 hcv
 have htr : Calls Try.prog 20 #[.pointer (some ⟨o.bf, 0, none⟩), .int .i64 0] w6 fun e w' => e = .returned (.int .i64 0) ∧ ∃ st', LF c6 o A m cc (gk g1) w3 w w' st' ∧ Sound c6 st' (if updV (updV (Vof (fun _ => none)) 0 [97]) 0 [98] 0 = none then _ else updV (updV (updV (Vof (fun _ => none)) 0 [97]) 0 [98]) 0 []) (0 + 7000 + 7000 + 7000) ∧ _ := hL6.ctrim c6_ok hS6 (by omega) 0 (by decide)
 clear hL6 hS6 HL5 HS5
 go_wp2_with fail
 refine htr.mono ?_
 rintro e w7 ⟨rfl, st7, hL7, hS7, -⟩
 clear htr
 rw [if_neg (by simp [updV])] at hS7
 have hb7 := hL7.blk (show gk g1 g1 from rfl) Hb3.out
 obtain ⟨z0, z1, z2, z3⟩ := geo_four hb7
 have hmt : Calls Try.prog 16 #[.pointer (some ⟨o.ba, 0, none⟩), .agg #[.int .i64 6, .int .i64 2, .int .i64 0, .slice A m cc], .int .u64 1] w7 fun e' w' => ∃ o' st', o'.ba = o.ba ∧ e' = .returned (.tuple #[.pointer (some ⟨o'.bf, 0, none⟩), .int .i64 0]) ∧ LF c6 o' A m cc (gk g1) w7 w w' st' ∧ Sound c6 st' (updV (updV (updV (Vof (fun _ => none)) 0 [97]) 0 [98]) 0 []) (0 + 7000 + 7000 + 7000) ∧ Ops 1 st7.N st'.N := hL7.again c6_ok hS7 (e := 1) (by omega) (by omega)
 clear hL7 hS7 hb7
 go_wp2_with fail
 refine hmt.mono ?_
 rintro e w8 ⟨o2, st8, -, rfl, hL8, hS8, -⟩
 clear hmt z0 z1 z2 z3
 have hrd : Calls Try.prog 21 #[.pointer (some ⟨o2.bf, 0, none⟩), .int .i64 0] w8 fun e w' => ∃ A' n' c', e = .returned (.tuple #[.slice A' n' c', .int .i64 0]) ∧ Nums w' .u8 A' n' ((updV (updV (updV (Vof (fun _ => none)) 0 [97]) 0 [98]) 0 [] 0).getD []) ∧ Below w8.heap.size w8 w' := hL8.cread c6_ok hS8 0 (by decide)
 have HL8 := hid hL8
 clear hL8 hS8
 go_wp2_with fail
 refine hrd.mono ?_
 rintro e w9 ⟨A', n', c', rfl, hz, hB9⟩
 have hn0 : n' = 0 := hz.len.symm
 subst hn0
 have hL9 := HL8.out.later hB9
 have hep : Calls Try.prog 23 #[.pointer (some ⟨o2.bf, 0, none⟩)] w9 fun e w' => e = .returned (.int .u64 1) ∧ w' = w9 := epoch_run hL9.fr
 have HL9 := hid hL9
 clear hrd hz hB9 HL8 hL9
 go_wp2_with fail
 refine hep.mono ?_
 rintro e w10 ⟨rfl, rfl⟩
 clear hep
 go_wp2
 go_ret
 exact ⟨rfl, HL9.out.below⟩
end Go.Proofs.Ytpcbpljdiacbmaa.Ftl

set_option linter.unusedVariables false
set_option linter.unusedSimpArgs false
namespace Go.Proofs.Ytpcbpljdiacbmaa.Ftl
open Go.RowKit Go.Proofs.Ytpcbpljdiacbmaa.Kit Go.Proofs.Ytpcbpljdiacbmaa.Oct Go.ChangeShapes Go.WideShapes

/-! What a law is called with. -/
structure FAct where
 kind : Int
 addr : Int
 near : Bool
 A : Option Addr
 dn : Nat
 dc : Nat
 ys : List Int
 n : Int
instance : Inhabited FAct := ⟨⟨0, 0, false, none, 0, 0, [], 0⟩⟩
def FAct.enc (x : FAct) : List Value := [.int .u8 x.kind, .int .i64 x.addr, .bool x.near, .slice x.A x.dn x.dc, .int .u8 x.n]
def FAct.ok (w : World) (x : FAct) : Prop := (0 ≤ x.kind ∧ x.kind ≤ 255) ∧ (-9223372036854775808 ≤ x.addr ∧ x.addr ≤ 9223372036854775807) ∧ Nums w .u8 x.A x.dn x.ys ∧ (0 ≤ x.n ∧ x.n ≤ 255)
set_option maxRecDepth 100000 in
theorem open_facts {H : Type} {enc : TypeId × Value → H} {w : World} {v : Value} {d : DataW H} {ps : List MemPlace} {r : Reach} {b0 : Nat}
  (hval : Value.okWide Try.prog w r b0 44 v) (h : DataW.Trod enc Try.prog w 0 (fun _ => true) true 44 v d ps) :
  ∃ C m c ys, v = .slice C m c ∧ Recs w C m 5 FAct.enc FAct.ok ys := by
 obtain ⟨C, m, c, ys, e, -, hr⟩ := open_recs FAct.enc FAct.ok Try.underlying44 Try.underlying48 (by kernel_rfl) (by kernel_rfl) (by decide) hval h (fun c n hc => by
  obtain ⟨y0, h0⟩ := hc 0 _ rfl
  obtain ⟨x0, e0, -, w0⟩ := DataW.trod_int Try.underlying5 h0
  injection e0 with e0 _
  obtain ⟨y1, h1⟩ := hc 1 _ rfl
  obtain ⟨x1, e1, -, w1⟩ := DataW.trod_int Try.underlying3 h1
  injection e1 with e1 _
  obtain ⟨y2, h2⟩ := hc 2 _ rfl
  obtain ⟨x2, e2, -⟩ := DataW.trod_bool Try.underlying4 h2
  injection e2 with e2 _
  obtain ⟨y3, h3⟩ := hc 3 _ rfl
  obtain ⟨A3, n3, c3, zs, e3, -, hz⟩ := trod_nums Try.underlying22 Try.underlying5 (by kernel_rfl) h3
  obtain ⟨y4, h4⟩ := hc 4 _ rfl
  obtain ⟨x4, e4, -, w4⟩ := DataW.trod_int Try.underlying5 h4
  injection e4 with e4 _
  refine ⟨⟨x0, x1, x2, A3, n3, c3, zs, x4⟩, fun k u hk => ?_, wf_u8 w0, wf_i64 w1, hz, wf_u8 w4⟩
  match k with
  | 0 =>
   injection hk with hk
   exact ⟨by decide, e0.trans hk⟩
  | 1 =>
   injection hk with hk
   exact ⟨by decide, e1.trans hk⟩
  | 2 =>
   injection hk with hk
   exact ⟨by decide, e2.trans hk⟩
  | 3 =>
   injection hk with hk
   exact ⟨by decide, e3.trans hk⟩
  | 4 =>
   injection hk with hk
   exact ⟨by decide, e4.trans hk⟩
  | (k + 5) => cases hk)
 exact ⟨C, m, c, ys, e, hr⟩
theorem FAct.ok.later {w w' : World} {x : FAct} (h : x.ok w) (hB : Below w.heap.size w w') : x.ok w' := ⟨h.1, h.2.1, h.2.2.1.below hB, h.2.2.2⟩
end Go.Proofs.Ytpcbpljdiacbmaa.Ftl

set_option linter.unusedVariables false
set_option linter.unusedSimpArgs false
namespace Go.Proofs.Ytpcbpljdiacbmaa.Ftl
open Go.RowKit Go.Proofs.Ytpcbpljdiacbmaa.Kit Go.Proofs.Ytpcbpljdiacbmaa.Oct Go.Proofs.Ytpcbpljdiacbmaa.Sheet Go.Proofs.Ytpcbpljdiacbmaa.Nand Go.Proofs.Ytpcbpljdiacbmaa.Plan Go.Proofs.Ytpcbpljdiacbmaa.Scan Go.Proofs.Ytpcbpljdiacbmaa.Pmap Go.Proofs.Ytpcbpljdiacbmaa.Pool

/-! What the laws share. -/
def gk2 (g1 gn : Nat) : Nat → Prop := fun g => g = g1 ∨ g = gn
set_option maxRecDepth 100000 in
theorem make_strs (W : World) (M : Nat) (h : M ≤ 65536) : (Instr.makeSlice 45 (.int .i64 (M : Int)) (.int .i64 (M : Int))).run Try.prog W = .ok (.slice (some ⟨W.heap.size, 0, none⟩) M M) (W.alloc (.cells (strs (List.replicate M [])) 9)) := by
 obtain ⟨i1, hi1, hz1⟩ : ∃ i : TypeInfo, Try.prog.info? 9 = some i ∧ i.zero = some (.string (strOfNums [])) ∧ i.size = 1 ∧ i.bytes = 16 := ⟨_, rfl, rfl, rfl, rfl⟩
 have := run_make (P := Try.prog) W 45 9 i1 _ Try.underlying45 hi1 hz1.1 .i64 .i64 (M : Int) (M : Int) (by omega) (Int.le_refl _) (by rw [hz1.2.2]; omega) (by omega)
 rw [hz1.2.1, Int.toNat_natCast, Nat.mul_one] at this
 unfold strs
 rw [List.map_replicate, ← made_one]
 exact this
theorem strs_set (ys : List (List Int)) (i : Nat) (y : List Int) : (strs ys).setIfInBounds i (.string (strOfNums y)) = strs (ys.set i y) := by
 unfold strs
 rw [List.setIfInBounds_toArray, List.map_set]
theorem five {w : World} {g : Nat} {v0 v1 v2 v3 v4 : Value} {T : TypeId} (h : Blk w g #[v0, v1, v2, v3, v4] T) : w.cell? ⟨g, 0, none⟩ = some v0 ∧ w.cell? ⟨g, 1, none⟩ = some v1 ∧ w.cell? ⟨g, 2, none⟩ = some v2 ∧ w.cell? ⟨g, 3, none⟩ = some v3 ∧ w.cell? ⟨g, 4, none⟩ = some v4 := ⟨h.cell 0, h.cell 1, h.cell 2, h.cell 3, h.cell 4⟩
theorem FAct.cells {w : World} {b o k : Nat} {x : FAct} (h : ∀ j v, x.enc[j]? = some v → w.cell? ⟨b, o + k * 5 + j, none⟩ = some v) : w.cell? ⟨b, o + k * 5, none⟩ = some (.int .u8 x.kind) ∧ w.cell? ⟨b, o + k * 5 + 1, none⟩ = some (.int .i64 x.addr) ∧ w.cell? ⟨b, o + k * 5 + 2, none⟩ = some (.bool x.near) ∧ w.cell? ⟨b, o + k * 5 + 3, none⟩ = some (.slice x.A x.dn x.dc) ∧ w.cell? ⟨b, o + k * 5 + 4, none⟩ = some (.int .u8 x.n) :=
 ⟨h 0 _ rfl, h 1 _ rfl, h 2 _ rfl, h 3 _ rfl, h 4 _ rfl⟩
theorem rem_nat (x : Int) (h : 0 ≤ x) (m : Nat) (hm : 0 < m) : ∃ U : Nat, x % (m : Int) = (U : Int) ∧ x.tmod (m : Int) = (U : Int) ∧ U < m := by
 have h1 := Int.emod_nonneg x (show (m : Int) ≠ 0 by omega)
 have h2 := Int.emod_lt_of_pos x (show (0 : Int) < (m : Int) by omega)
 exact ⟨(x % (m : Int)).toNat, by omega, by rw [Int.tmod_eq_emod_of_nonneg h]; omega, by omega⟩
theorem Sound.up {c : FC} {st : FT} {D : Nat → Option (List Int)} {s s' : Nat} (h : Sound c st D s) (hs : s ≤ s') : Sound c st D s' := ⟨h.rest, h.data, Nat.le_trans h.seq hs, h.calm⟩
/-- The addresses have their data. -/
def Fits (c : FC) (D : Nat → Option (List Int)) (ys : List (List Int)) : Prop := ys.length = c.M ∧ ∀ i, i < c.M → (D i).getD [] = ys.getD i []
theorem Fits.new (c : FC) : Fits c (Vof (fun _ => none)) (List.replicate c.M []) := ⟨List.length_replicate, fun i hi => by
 rw [List.getD_eq_getElem?_getD, List.getElem?_replicate, if_pos hi]; rfl⟩
theorem Fits.set {c : FC} {D : Nat → Option (List Int)} {ys : List (List Int)} (h : Fits c D ys) {a : Nat} (ha : a < c.M) (y : List Int) : Fits c (updV D a y) (ys.set a y) := by
 refine ⟨by rw [List.length_set]; exact h.1, fun i hi => ?_⟩
 unfold updV
 by_cases e : i = a
 ·rw [if_pos e, e, List.getD_eq_getElem?_getD, List.getElem?_set_self (by rw [h.1]; exact ha)]
  try rfl
 ·rw [if_neg e, h.2 i hi, List.getD_eq_getElem?_getD, List.getD_eq_getElem?_getD, List.getElem?_set_ne (fun x => e x.symm)]
theorem Fits.trim {c : FC} {D : Nat → Option (List Int)} {ys : List (List Int)} (h : Fits c D ys) {a : Nat} (ha : a < c.M) : Fits c (if D a = none then D else updV D a []) (ys.set a []) := by
 by_cases e : D a = none
 ·rw [if_pos e]
  refine ⟨by rw [List.length_set]; exact h.1, fun i hi => ?_⟩
  by_cases ei : i = a
  ·rw [ei, e, List.getD_eq_getElem?_getD, List.getElem?_set_self (by rw [h.1]; exact ha)]
   try rfl
  ·rw [h.2 i hi, List.getD_eq_getElem?_getD, List.getD_eq_getElem?_getD, List.getElem?_set_ne (fun x => ei x.symm)]
 ·rw [if_neg e]; exact h.set ha []
section
variable {c : FC} {o : FId} {A : Option Addr} {n cc s a : Nat} {K K' : Nat → Prop} {V w w1 w2 : World} {st : FT} {D : Nat → Option (List Int)}
/-- .. what is written came in. -/
theorem LF.cwrite_old (h : LF c o A n cc K V w w1 st) (hk : CK c) (hS : Sound c st D s) (hs : s + 7000 ≤ 281474976710000) (a : Nat) (ys : List Int) (A' : Option Addr) (n' c' : Nat) (hz : Nums w .u8 A' n' ys) (ha : a < c.M) (hn : n' ≤ 64) :
  Calls Try.prog 18 #[.pointer (some ⟨o.bf, 0, none⟩), .int .i64 (a : Int), .slice A' n' c'] w1 fun e w' => e = .returned (.int .i64 0) ∧ ∃ st', LF c o A n cc K V w w' st' ∧ Sound c st' (updV D a ys) (s + 7000) ∧ Ops c.ep st.N st'.N := by
 have hlt : 0 < n' → ∀ ad, A' = some ad → ad.block < w.heap.size := fun h0 ad had => by
  obtain ⟨b', o', e', hc'⟩ := hz.cell 0 h0
  rw [e'] at had
  injection had with had
  rw [← had]
  exact World.block_lt_of_cell? w _ (hc' 0 h0)
 exact h.cwrite hk hS hs a ys A' n' c' (nums_blk hz (fun h0 ad had => h.old _ (hlt h0 ad had))) (fun h0 ad had => .inl (hlt h0 ad had)) (fun x hx => wf_u8 (hz.wf x hx)) ha hn
/-- How many blocks have failed, and are free. -/
theorem LF.cfailed (h : LF c o A n cc K V w w1 st) (hS : Sound c st D s) :
  Calls Try.prog 24 #[.pointer (some ⟨o.bf, 0, none⟩)] w1 fun e w' => e = .returned (.int .i64 0) ∧ Below w1.heap.size w1 w' := by
 have := failed_run h.fr
 rw [hS.calm.none_dead hS.rest.pol] at this
 exact this
theorem LF.cfree (h : LF c o A n cc K V w w1 st) (hS : Sound c st D s) : ∃ q : Nat, 1 ≤ q ∧ ∀ W, Below w1.heap.size w1 W →
  Calls Try.prog 25 #[.pointer (some ⟨o.bf, 0, none⟩)] W fun e w' => e = .returned (.int .i64 (q : Int)) ∧ Below W.heap.size W w' := by
 have h1 := hS.rest.room
 rw [hS.calm.none_dead hS.rest.pol] at h1
 exact ⟨cntH st.hs 0, by omega, fun W hW => fre_run (h.later hW).fr⟩
end
end Go.Proofs.Ytpcbpljdiacbmaa.Ftl
