import Derived.Test.YtpcbpljdiacbmaaJFtlI
import Derived.Test.YtpcbpljdiacbmaaJFtlO
import Derived.Test.YtpcbpljdiacbmaaJFtlF
import Derived.Test.YtpcbpljdiacbmaaJFtlH
set_option linter.unusedVariables false
set_option linter.unusedSimpArgs false
namespace Go.Proofs.Ytpcbpljdiacbmaa.Ftl
open Go.RowKit Go.Proofs.Ytpcbpljdiacbmaa.Kit Go.Proofs.Ytpcbpljdiacbmaa.Oct Go.Proofs.Ytpcbpljdiacbmaa.Sheet Go.Proofs.Ytpcbpljdiacbmaa.Nand Go.Proofs.Ytpcbpljdiacbmaa.Plan Go.Proofs.Ytpcbpljdiacbmaa.Scan Go.Proofs.Ytpcbpljdiacbmaa.Pmap Go.Proofs.Ytpcbpljdiacbmaa.Pool
theorem hAt_setH (xs : List Int) (hs : List (Option Nat)) (k v : Nat) (hk : k < 64) (hl : hs.length = 64) (j : Int) : hAt (setH xs hs k v) j = if j = (k : Int) then some v else if v = 2 ∧ fOpen xs hs = some j then some 1 else hAt hs j := by
 unfold setH
 by_cases h2 : v = 2
 ·rw [if_pos h2]
  cases ho : fOpen xs hs with
  | none =>
   simp only
   rw [hAt_set hs k hk hl]
   simp
  | some o =>
   have hoh := (fOpen_mem xs hs o ho).2
   have ho64 : 0 ≤ o ∧ o < 64 := by
    unfold hAt at hoh
    split at hoh
    ·assumption
    ·cases hoh
   simp only
   rw [hAt_set _ k hk (by rw [List.length_set]; exact hl), hAt_set hs o.toNat (by omega) hl]
   have eo : ((o.toNat : Nat) : Int) = o := by omega
   rw [eo]
   by_cases e : j = (k : Int)
   ·rw [if_pos e, if_pos e]
   ·rw [if_neg e, if_neg e]
    by_cases e2 : j = o
    ·rw [if_pos e2, if_pos ⟨h2, by rw [e2]⟩]
    ·rw [if_neg e2, if_neg (fun h => e2 (by injection h.2 with h; exact h.symm))]
 ·rw [if_neg h2, hAt_set hs k hk hl]
  by_cases e : j = (k : Int)
  ·rw [if_pos e, if_pos e]
  ·rw [if_neg e, if_neg e, if_neg (fun h => h2 h.1)]

section
variable {c : FC} {st : FT}
/-- How the blocks stand once one of them has been set. -/
theorem how_at {b u v : Nat} (hl : st.hs.length = 64) (hb : b < 64) (hu : hAt st.hs (b : Int) = some u) (hd : u = 3 → v = 3) (j : Int) : hAt (st.how c b v).hs j = if j = (b : Int) then some v else if v = 2 ∧ fOpen c.xs st.hs = some j then some 1 else hAt st.hs j := by
 have e : (st.how c b v).hs = setH c.xs st.hs b v := by
  show poolSet c.xs st.hs b v = _
  unfold poolSet
  rw [hu]
  simp only
  rw [if_neg (fun h => h.2 (hd h.1))]
 rw [e]
 exact hAt_setH c.xs st.hs b v hb hl j
theorem how_len (b v : Nat) : (st.how c b v).hs.length = st.hs.length := poolSet_len _ _ _ _
theorem how_dead {b v : Nat} (hu : hAt st.hs (b : Int) = some 3) (hv : v ≠ 3) : st.how c b v = st := by
 have e : (st.how c b v).hs = st.hs := by
  show poolSet c.xs st.hs b v = _
  unfold poolSet
  rw [hu]
  simp only
  rw [if_pos ⟨trivial, hv⟩]
 unfold FT.how at *
 have e : poolSet c.xs st.hs b v = st.hs := e
 rw [e]
theorem countP_upd (p p' : Nat → Bool) (k : Nat) (he : ∀ i, i ≠ k → p' i = p i) : ∀ n, k < n → (List.range n).countP p' + (if p k = true then 1 else 0) = (List.range n).countP p + (if p' k = true then 1 else 0) := by
 have low : ∀ n, n ≤ k → (List.range n).countP p' = (List.range n).countP p := by
  intro n hn
  refine List.countP_congr (fun x hx => ?_)
  have := List.mem_range.1 hx
  rw [he x (by omega)]
 intro n
 induction n with
 | zero => intro h; omega
 | succ n ih =>
  intro h
  rw [List.range_succ, List.countP_append, List.countP_append, List.countP_singleton, List.countP_singleton]
  by_cases hn : k = n
  ·subst hn
   rw [low k (Nat.le_refl _)]
   omega
  ·have := ih (by omega)
   rw [he n (fun e => hn e.symm)]
   omega
theorem cntH_set {hs : List (Option Nat)} {k u v w : Nat} (hk : k < 64) (hl : hs.length = 64) (hu : hs.getD k none = some u) : cntH (hs.set k (some v)) w + (if u = w then 1 else 0) = cntH hs w + (if v = w then 1 else 0) := by
 have := countP_upd (fun i => hs.getD i none == some w) (fun i => (hs.set k (some v)).getD i none == some w) k (fun i hi => by
  rw [getD_set_o hs k i (by omega), if_neg hi]) 64 hk
 rw [getD_set_o hs k k (by omega), if_pos rfl, hu] at this
 unfold cntH
 have e1 : ((some u == some w) = true) ↔ u = w := by simp
 have e2 : ((some v == some w) = true) ↔ v = w := by simp
 by_cases h1 : u = w <;> by_cases h2 : v = w
 all_goals
  first
   | rw [if_pos (e1.2 h1)] at this
   | rw [if_neg (fun h => h1 (e1.1 h))] at this
  first
   | rw [if_pos (e2.2 h2)] at this
   | rw [if_neg (fun h => h2 (e2.1 h))] at this
  first
   | rw [if_pos h1]
   | rw [if_neg h1]
  first
   | rw [if_pos h2]
   | rw [if_neg h2]
  exact this
/-- A block that is not opened. -/
theorem how_cnt {b u v w : Nat} (hl : st.hs.length = 64) (hb : b < 64) (hu : hAt st.hs (b : Int) = some u) (hd : u = 3 → v = 3) (hv : v ≠ 2 ∨ fOpen c.xs st.hs = none) : cntH (st.how c b v).hs w + (if u = w then 1 else 0) = cntH st.hs w + (if v = w then 1 else 0) := by
 have e : (st.how c b v).hs = st.hs.set b (some v) := by
  show poolSet c.xs st.hs b v = _
  unfold poolSet
  rw [hu]
  simp only
  rw [if_neg (fun h => h.2 (hd h.1))]
  unfold setH
  rcases hv with hv | hv
  ·rw [if_neg hv]
  ·rw [hv]
   simp
 rw [e]
 exact cntH_set hb hl (by rw [← hAt_nat st.hs b hb]; exact hu)
/-- The part of it that says nothing of how the blocks stand. -/
structure Cor (c : FC) (st : FT) : Prop where
 wf : FWf c st
 on : st.N.off = false
 bytes : ∀ (j : Nat) (q : List Int), q ∈ (st.N.blk j).pages → IsB q
 good : Good c.xs (dd st.N) (L0 c st.N) (cF st)
 cf : ∀ a, st.has.getD a false = (cF st a).isSome
 num : ∀ i ∈ c.xs, ∀ x ∈ L0 c st.N i, x.2.S ≤ st.seq
theorem Cor.how (h : Cor c st) (b v : Nat) : Cor c (st.how c b v) := ⟨h.wf.how b v, h.on, h.bytes, h.good, h.cf, h.num⟩
theorem Cor.erase (h : Cor c st) {b : Nat} (hb : (b : Int) ∈ c.xs) (hc : st.cn b ≤ 0) :
  (eraseF c st b = (st, 7) ∧ (c.ep : Int) < st.N.fence) ∨
  (st.N.fence ≤ (c.ep : Int) ∧ ∃ N', Rest st.N N' b ∧ cF { st with N := N' } = cF st ∧
   ((eraseF c st b = (({ st with N := N' } : FT).how c b 0, 0) ∧ Cor c { st with N := N' } ∧ N'.way = st.N.way ∧ (N'.blk b).pages = [] ∧ (N'.blk b).half = false ∧ (N'.blk b).failed = (st.N.blk b).failed ∧ (N'.blk b).dead = false ∧ L0 c N' = clrL (L0 c st.N) (b : Int)) ∨
    (eraseF c st b = (({ st with N := N' } : FT).how c b 3, 0) ∧ Cor c { st with N := N' } ∧ N'.way = st.N.way ∧ (N'.blk b).failed = true ∧ (N'.blk b).dead = true ∧ NB.seen (N'.blk b) = NB.seen (st.N.blk b) ∧ L0 c N' = L0 c st.N ∧ (N'.blk b).pages = (st.N.blk b).pages ∧ (N'.blk b).half = (st.N.blk b).half) ∨
    (eraseF c st b = ({ st with N := N' }, 9) ∧ st.N.armed = 1 ∧ N'.off = true ∧ (∃ d, N'.way = some ⟨b, none, d⟩) ∧ NB.seen (N'.blk b) = NB.seen (st.N.blk b) ∧ (N'.blk b).failed = (st.N.blk b).failed ∧ L0 c N' = L0 c st.N ∧ (N'.blk b).pages = (st.N.blk b).pages ∧ (N'.blk b).half = (st.N.blk b).half))) := by
 obtain ⟨b', eb, b2, bn⟩ := xs_nat hb
 have eb : b = b' := by omega
 subst eb
 have hb' : b < st.N.bs.length := by rw [h.wf.lb]; exact bn
 rcases erase_spec (ep := (c.ep : Int)) hb' h.on with ⟨hf, e⟩ | ⟨hf, N', z, he, hr, hh⟩
 ·refine .inl ⟨?_, hf⟩
  unfold eraseF
  rw [e, if_neg (by simp), if_neg (by simp)]
 ·have hat : ∀ a, st.has.getD a false = true → (st.at'.getD a (0, 0)).1.toNat ≠ b := fun a ha x => by
   have := (h.wf.pi.here a ha).1
   have := h.wf.cn_pos ha (b := b) (by omega)
   omega
  have hcF : cF { st with N := N' } = cF st := cF_congr rfl rfl (fun a ha => by
   show rdP ((N'.blk (st.at'.getD a (0, 0)).1.toNat).pages.getD (st.at'.getD a (0, 0)).2.toNat []) = st.pg a
   rw [hr.other _ (hat a ha)]
   rfl)
  have hcb : ∀ a i x, cF st a = some (i, x) → i ≠ (b : Int) := fun a i x hx e => by
   obtain ⟨h1, h2, -⟩ := cF_some hx
   exact hat a h1 (by rw [← h2, e]; rfl)
  have hfw : FWf c { st with N := N' } := by
   have := h.wf.erase b bn hc
   unfold eraseF at this
   rw [he] at this
   split at this
   ·exact ⟨this.pi, this.loc, this.lb, this.lp, this.er⟩
   ·split at this
    ·exact ⟨this.pi, this.loc, this.lb, this.lp, this.er⟩
    ·exact this
  refine .inr ⟨hf, N', hr, hcF, ?_⟩
  rcases hh with ⟨rfl, h1, h2, h3, h4, h5, h6, -⟩ | ⟨rfl, h1, h2, h3, h4, h5, h6, -⟩ | ⟨rfl, h1, h2, h3, h4, h5, h6, -⟩
  ·refine .inr (.inr ⟨?_, h1, h2, h3, ?_, h6, ?_, h4, h5⟩)
   ·unfold eraseF
    rw [he, if_neg (by simp), if_neg (by simp)]
   ·unfold NB.seen; rw [h4, h5]
   ·refine L0_congr (fun i hi => ?_)
    by_cases e : i = b
    ·rw [e]; unfold NB.seen; rw [h4, h5]
    ·rw [hr.other i e]
  ·have hL : L0 c N' = L0 c st.N := L0_congr (fun i hi => by
    by_cases e : i = b
    ·rw [e]; unfold NB.seen; rw [h3, h4]
    ·rw [hr.other i e])
   refine .inr (.inl ⟨?_, ⟨hfw, h1, fun j q hq => ?_, ?_, fun a => ?_, fun i hi x hx => ?_⟩, h2, h5, h6, ?_, hL, h3, h4⟩)
   ·unfold eraseF
    rw [he, if_neg (by simp), if_pos rfl]
   ·by_cases e : j = b
    ·rw [e] at hq
     exact h.bytes b q (by rw [← h3]; exact hq)
    ·exact h.bytes j q (by rw [← hr.other j e]; exact hq)
   ·show Good c.xs (dd N') (L0 c N') (cF { st with N := N' })
    rw [hcF, hL]
    refine h.good.weak (fun i hi => ?_)
    unfold dd at hi ⊢
    by_cases e : i.toNat = b
    ·rw [e]; exact h5
    ·rw [hr.other _ e]; exact hi
   ·rw [hcF]; exact h.cf a
   ·have hx : x ∈ L0 c N' i := hx
    rw [hL] at hx
    exact h.num i hi x hx
   ·unfold NB.seen; rw [h3, h4]
  ·have hL : L0 c N' = clrL (L0 c st.N) (b : Int) := L0_clr hr.other (by unfold NB.seen; rw [h3]; split <;> rfl)
   refine .inl ⟨?_, ⟨hfw, h1, fun j q hq => ?_, ?_, fun a => ?_, fun i hi x hx => ?_⟩, h2, h3, h4, h5, h6, hL⟩
   ·unfold eraseF
    rw [he, if_pos rfl]
   ·by_cases e : j = b
    ·rw [e] at hq
     have hq : q ∈ (N'.blk b).pages := hq
     rw [h3] at hq
     cases hq
    ·exact h.bytes j q (by rw [← hr.other j e]; exact hq)
   ·show Good c.xs (dd N') (L0 c N') (cF { st with N := N' })
    rw [hcF, hL]
    refine (h.good.clr hcb).weak (fun i hi => ?_)
    unfold dd at hi ⊢
    by_cases e : i.toNat = b
    ·rw [e] at hi ⊢; rw [h5]; exact hi
    ·rw [hr.other _ e]; exact hi
   ·rw [hcF]; exact h.cf a
   ·have hx : x ∈ L0 c N' i := hx
    rw [hL] at hx
    exact h.num i hi x (clrL_mem hx).2
end
end Go.Proofs.Ytpcbpljdiacbmaa.Ftl

set_option linter.unusedVariables false
set_option linter.unusedSimpArgs false
namespace Go.Proofs.Ytpcbpljdiacbmaa.Ftl
open Go.RowKit Go.Proofs.Ytpcbpljdiacbmaa.Kit Go.Proofs.Ytpcbpljdiacbmaa.Oct Go.Proofs.Ytpcbpljdiacbmaa.Sheet Go.Proofs.Ytpcbpljdiacbmaa.Nand Go.Proofs.Ytpcbpljdiacbmaa.Plan Go.Proofs.Ytpcbpljdiacbmaa.Scan Go.Proofs.Ytpcbpljdiacbmaa.Pmap Go.Proofs.Ytpcbpljdiacbmaa.Pool
section
variable {c : FC} {st : FT}
/-- The state behind a page that was programmed. -/
def FT.put (st : FT) (N' : NA) (b a : Nat) : FT := { st with N := N', seq := st.seq + 1, at' := st.at'.set a ((b : Int), ((st.N.blk b).pages.length : Int)), has := st.has.set a true, cnt := scnt st.at' st.has st.cnt a b }
theorem pg_app {N' : NA} {b n : Nat} {q : List Int} (h : FWf c st) (hr : Rest st.N N' b) (hp : (N'.blk b).pages = (st.N.blk b).pages ++ [q]) (hn : st.has.getD n false = true) : (N'.blk (st.at'.getD n (0, 0)).1.toNat).pages.getD (st.at'.getD n (0, 0)).2.toNat [] = (st.N.blk (st.at'.getD n (0, 0)).1.toNat).pages.getD (st.at'.getD n (0, 0)).2.toNat [] := by
 by_cases e : (st.at'.getD n (0, 0)).1.toNat = b
 ·have hl := h.loc n hn
  have hz := (h.pi.here n hn).2.1
  rw [e] at hl ⊢
  generalize (st.at'.getD n (0, 0)).2 = z at hl hz ⊢
  rw [hp, List.getD_eq_getElem?_getD, List.getD_eq_getElem?_getD, List.getElem?_append_left (by omega)]
 ·rw [hr.other _ e]
theorem cF_put {N' : NA} {b a : Nat} {q : List Int} {p : Pg} (h : FWf c st) (hr : Rest st.N N' b) (hp : (N'.blk b).pages = (st.N.blk b).pages ++ [q]) (hq : rdP q = some p) (ha : a < c.M) : cF (st.put N' b a) = updC (cF st) a ((b : Int), ((st.N.blk b).pages.length, p)) := by
 funext n
 have hla : a < st.at'.length := by rw [h.pi.la]; exact ha
 have hlh : a < st.has.length := by rw [h.pi.lh]; exact ha
 unfold updC
 by_cases e : n = a
 ·subst e
  rw [if_pos rfl]
  unfold cF FT.pg FT.put
  simp only
  rw [List.getD_eq_getElem?_getD, List.getElem?_set_self hlh, List.getD_eq_getElem?_getD, List.getElem?_set_self hla]
  simp only [Option.getD_some, if_true, Int.toNat_natCast]
  rw [hp, List.getD_eq_getElem?_getD, List.getElem?_append_right (Nat.le_refl _)]
  simp only [Nat.sub_self, List.getElem?_cons_zero, Option.getD_some]
  rw [hq]
  rfl
 ·rw [if_neg e]
  have e1 : (st.has.set a true).getD n false = st.has.getD n false := by rw [List.getD_eq_getElem?_getD, List.getElem?_set_ne (fun x => e x.symm), List.getD_eq_getElem?_getD]
  have e2 : ∀ x, (st.at'.set a x).getD n (0, 0) = st.at'.getD n (0, 0) := fun x => by rw [List.getD_eq_getElem?_getD, List.getElem?_set_ne (fun x => e x.symm), List.getD_eq_getElem?_getD]
  unfold cF FT.pg FT.put
  simp only
  rw [e1, e2]
  by_cases hn : st.has.getD n false = true
  ·rw [if_pos hn, if_pos hn, pg_app h hr hp hn]
  ·rw [if_neg hn, if_neg hn]
/-- What program does with a block that has room: the answers, and what is found behind them. -/
theorem Cor.prog (h : Cor c st) {b K a f : Nat} {ys : List Int} (hb : (b : Int) ∈ c.xs) (hh : (st.N.blk b).half = false) (hk : (st.N.blk b).pages.length < c.np) (hnp : c.np ≤ 32) (p : Pg) (hp : p = ⟨K, c.ep, st.seq + 1, a, f, ys⟩) (hok : p.ok) (hK : K ≠ 3) (ha : a < c.M) :
  (programF c st b K a f ys = ({ st with seq := st.seq + 1 }, 7) ∧ (c.ep : Int) < st.N.fence) ∨
  (st.N.fence ≤ (c.ep : Int) ∧ ∃ N', Rest st.N N' b ∧ (N'.blk b).half = false ∧
   ((programF c st b K a f ys = ({ st with N := N', seq := st.seq + 1 }, 9) ∧ st.N.armed = 1 ∧ N'.off = true ∧ (∃ d, N'.way = some ⟨b, some p.bytes, d⟩) ∧ (N'.blk b).pages = (st.N.blk b).pages ∧ (N'.blk b).failed = (st.N.blk b).failed) ∨
    (programF c st b K a f ys = (({ st with N := N', seq := st.seq + 1 } : FT).how c b 3, 8) ∧ Cor c { st with N := N', seq := st.seq + 1 } ∧ N'.way = st.N.way ∧ (N'.blk b).failed = true ∧ (N'.blk b).dead = true ∧ (N'.blk b).pages.length = (st.N.blk b).pages.length + 1 ∧ L0 c N' = L0 c st.N ∧ cF { st with N := N', seq := st.seq + 1 } = cF st) ∨
    (programF c st b K a f ys = (st.put N' b a, 0) ∧ N'.off = false ∧ N'.way = st.N.way ∧ (N'.blk b).pages = (st.N.blk b).pages ++ [p.bytes] ∧ (N'.blk b).failed = (st.N.blk b).failed ∧ (N'.blk b).dead = false ∧ FWf c (st.put N' b a) ∧
     L0 c N' = putL (L0 c st.N) (b : Int) ((st.N.blk b).pages.length, p) ∧ cF (st.put N' b a) = updC (cF st) a ((b : Int), ((st.N.blk b).pages.length, p))))) := by
 obtain ⟨b', eb, b2, bn⟩ := xs_nat hb
 have eb : b = b' := by omega
 subst eb
 have hb' : b < st.N.bs.length := by rw [h.wf.lb]; exact bn
 have hq : st.next c K a f ys = p.bytes := by rw [hp]; rfl
 have hys : ys.length ≤ 64 := by
  have := hok.2.2.2.2.2.2.1
  rw [hp] at this
  exact this
 have hl : (p.bytes).length = 96 := by rw [hp]; exact page_len _ _ _ _ _ _ hys
 have hfw := h.wf.program b bn hnp K a f ys ha
 have hB : IsB p.bytes := page_isB _ _ _ _ _ hok.2.2.2.2.2.2.2.2
 rcases prog_spec (q := p.bytes) (ep := (c.ep : Int)) hb' h.on (by rw [h.wf.lp]; exact hk) hl hh with ⟨hf, e⟩ | ⟨hf, N', z, he, hr, h1, -, hc⟩
 ·refine .inl ⟨?_, hf⟩
  unfold programF FT.prg
  rw [hq, e, if_neg (by simp), if_neg (by simp)]
 ·refine .inr ⟨hf, N', hr, h1, ?_⟩
  have hprg : st.prg c b K a f ys = (N', z) := by
   unfold FT.prg
   rw [hq, he]
  rcases hc with ⟨rfl, k1, k2, k3, k4, k5⟩ | ⟨rfl, k1, k2, k3, k4, k5⟩ | ⟨rfl, k1, k2, k3, k4, k5⟩
  ·refine .inl ⟨?_, k1, k2, k3, k4, k5⟩
   unfold programF
   rw [hprg, if_neg (by simp), if_neg (by simp)]
  ·have hP : programF c st b K a f ys = (({ st with N := N', seq := st.seq + 1 } : FT).how c b 3, 8) := by
    unfold programF
    rw [hprg, if_pos (.inl rfl)]
   have hL : L0 c N' = L0 c st.N := L0_torn hr.other hh h1 k3 (rdP_torn hl 0 (by omega))
   have hcF : cF { st with N := N', seq := st.seq + 1 } = cF st := cF_congr rfl rfl (fun n hn => by
    show rdP _ = rdP _
    rw [pg_app h.wf hr k3 hn])
   rw [hP] at hfw
   refine .inr (.inl ⟨hP, ⟨⟨hfw.pi, hfw.loc, hfw.lb, hfw.lp, hfw.er⟩, k1, fun j q hq => ?_, ?_, fun n => ?_, fun i hi x hx => ?_⟩, k2, k4, k5, by rw [k3, List.length_append]; rfl, hL, hcF⟩)
   ·by_cases e : j = b
    ·rw [e] at hq
     have hq : q ∈ (N'.blk b).pages := hq
     rw [k3] at hq
     rcases List.mem_append.1 hq with hq | hq
     ·exact h.bytes b q hq
     ·rw [List.mem_singleton.1 hq]
      exact torn_isB hB 0
    ·exact h.bytes j q (by rw [← hr.other j e]; exact hq)
   ·show Good c.xs (dd N') (L0 c N') (cF { st with N := N', seq := st.seq + 1 })
    rw [hcF, hL]
    refine h.good.weak (fun i hi => ?_)
    unfold dd at hi ⊢
    by_cases e : i.toNat = b
    ·rw [e]; exact k4
    ·rw [hr.other _ e]; exact hi
   ·rw [hcF]; exact h.cf n
   ·have hx : x ∈ L0 c N' i := hx
    rw [hL] at hx
    exact Nat.le_succ_of_le (h.num i hi x hx)
  ·have hP : programF c st b K a f ys = (st.put N' b a, 0) := by
    unfold programF
    rw [hprg, if_neg (by simp), if_pos rfl]
    rfl
   rw [hP] at hfw
   refine .inr (.inr ⟨hP, k1, k2, k3, k4, k5, hfw, ?_, cF_put h.wf hr k3 (rdP_yes hok rfl) ha⟩)
   exact L0_put hb hr.other hh h1 k3 rfl hok (by rw [hp]; exact hK) (by rw [hp]; exact ha)
theorem Cor.put (h : Cor c st) {N' : NA} {b a : Nat} {p : Pg} (hr : Rest st.N N' b) (hon : N'.off = false) (hpg : (N'.blk b).pages = (st.N.blk b).pages ++ [p.bytes]) (hfl : (N'.blk b).failed = (st.N.blk b).failed) (hfw : FWf c (st.put N' b a)) (hL : L0 c N' = putL (L0 c st.N) (b : Int) ((st.N.blk b).pages.length, p)) (hcF : cF (st.put N' b a) = updC (cF st) a ((b : Int), ((st.N.blk b).pages.length, p))) (hB : IsB p.bytes) (hS : p.S = st.seq + 1) (ha : a < c.M)
  (hg : Good c.xs (dd st.N) (putL (L0 c st.N) (b : Int) ((st.N.blk b).pages.length, p)) (updC (cF st) a ((b : Int), ((st.N.blk b).pages.length, p)))) : Cor c (st.put N' b a) := by
 refine ⟨hfw, hon, fun j q hq => ?_, ?_, fun n => ?_, fun i hi x hx => ?_⟩
 ·have hq : q ∈ (N'.blk j).pages := hq
  by_cases e : j = b
  ·rw [e, hpg] at hq
   rcases List.mem_append.1 hq with hq | hq
   ·exact h.bytes b q hq
   ·rw [List.mem_singleton.1 hq]
    exact hB
  ·exact h.bytes j q (by rw [← hr.other j e]; exact hq)
 ·show Good c.xs (dd N') (L0 c N') (cF (st.put N' b a))
  rw [hcF, hL]
  refine hg.weak (fun i hi => ?_)
  unfold dd at hi ⊢
  by_cases e : i.toNat = b
  ·rw [e] at hi ⊢; rw [hfl]; exact hi
  ·rw [hr.other _ e]; exact hi
 ·rw [hcF]
  have hlh : a < st.has.length := by rw [h.wf.pi.lh]; exact ha
  show (st.has.set a true).getD n false = _
  unfold updC
  by_cases e : n = a
  ·rw [if_pos e, e, List.getD_eq_getElem?_getD, List.getElem?_set_self hlh]
   rfl
  ·rw [if_neg e, List.getD_eq_getElem?_getD, List.getElem?_set_ne (fun x => e x.symm), ← List.getD_eq_getElem?_getD]
   exact h.cf n
 ·have hx : x ∈ L0 c N' i := hx
  rw [hL] at hx
  show x.2.S ≤ st.seq + 1
  rcases putL_mem hx with ⟨-, rfl⟩ | hx
  ·exact Nat.le_of_eq hS
  ·exact Nat.le_succ_of_le (h.num i hi x hx)
/-- A page of an address's own, behind those of a block that has not failed. -/
theorem Cor.good_write (h : Cor c st) {b k : Nat} {p : Pg} (hb : (b : Int) ∈ c.xs) (hd : (st.N.blk b).failed = false) (hf : p.f = 0) (hS : p.S = st.seq + 1) : Good c.xs (dd st.N) (putL (L0 c st.N) (b : Int) (k, p)) (updC (cF st) p.a ((b : Int), (k, p))) :=
 h.good.write hb (fun x => by unfold dd at x; rw [Int.toNat_natCast, hd] at x; cases x) (k, p) hf (fun i hi x hx => by have := h.num i hi x hx; show x.2.S < p.S; omega)
/-- A copy of a page of block v. -/
theorem Cor.good_copy (h : Cor c st) {b v k : Nat} {o : Fo} {p : Pg} (hb : (b : Int) ∈ c.xs) (hd : (st.N.blk b).failed = false) (hbv : b ≠ v) (hv : ¬ Cop (L0 c st.N) (v : Int)) (hc : cF st p.a = some ((v : Int), o)) (hL : L0 c st.N (b : Int) = [] ∨ (Cop (L0 c st.N) (b : Int) ∧ frm (L0 c st.N (b : Int)) = (v : Int))) (hf : p.f = v + 1) (hs : sameP o.2 p) (hS : p.S = st.seq + 1) : Good c.xs (dd st.N) (putL (L0 c st.N) (b : Int) (k, p)) (updC (cF st) p.a ((b : Int), (k, p))) := by
 have := h.good.copy (v := (v : Int)) (a := p.a) (o := o) hb (fun x => by unfold dd at x; rw [Int.toNat_natCast, hd] at x; cases x) (by omega) hv hc (by omega) hL (k, p) (by show (p.f : Int) - 1 = v; omega) rfl hs (fun i hi x hx => by have := h.num i hi x hx; show x.2.S < p.S; omega)
 first
  | exact this
  | exact this.1
/-- One more copy of block v behind those of block b. -/
theorem cop_put {L : Int → List Fo} {b v : Int} {p o : Fo} (hbv : b ≠ v) (hv0 : 0 ≤ v) (hL : L b = [] ∨ (Cop L b ∧ frm (L b) = v)) (ho : o ∈ L v) (hcp : copyOf o.2 p.2 = true) (hf : (p.2.f : Int) - 1 = v) : Cop (putL L b p) b ∧ frm (putL L b p b) = v := by
 have hv : putL L b p v = L v := putL_other p (fun e => hbv e.symm)
 have hfr : frm (putL L b p b) = v := by
  rw [putL_same]
  rcases hL with h | ⟨h1, h2⟩
  ·rw [h]
   exact hf
  ·rw [frm_append _ _ h1.1]
   exact h2
 refine ⟨⟨?_, by rw [hfr]; exact hv0, fun x hx => ?_⟩, hfr⟩
 ·rw [putL_same]
  simp
 ·rw [hfr, hv]
  rcases putL_mem hx with ⟨-, rfl⟩ | hx
  ·exact ⟨hf, o, ho, hcp⟩
  ·rcases hL with h | ⟨h1, h2⟩
   ·rw [h] at hx
    cases hx
   ·have := h1.2.2 x hx
    rw [h2] at this
    exact this
/-- A page that an address has can be read, and is its own. -/
theorem Cor.reads (h : Cor c st) (hN : ∀ i, (st.N.blk i).pages.length ≤ c.np) {a : Nat} (ha : st.has.getD a false = true) : ∃ x, cF st a = some ((st.at'.getD a (0, 0)).1, x) ∧ (st.at'.getD a (0, 0)).1 ∈ c.xs ∧ x ∈ L0 c st.N (st.at'.getD a (0, 0)).1 ∧ st.rdF a = some x.2 ∧ x.2.a = a ∧ x.2.K ≠ 3 := by
 have h1 := h.cf a
 rw [ha] at h1
 obtain ⟨⟨i, x⟩, hx⟩ := Option.isSome_iff_exists.1 h1.symm
 obtain ⟨-, rfl, h3, h4⟩ := cF_some hx
 obtain ⟨g1, g2, g3⟩ := h.good.here a _ x hx
 obtain ⟨m1, m2, m3, m4, m5, m6⟩ := L0_mem g2
 obtain ⟨p1, p2, p3⟩ := h.wf.pi.here a ha
 have hl := h.wf.loc a ha
 have hlp := h.wf.lp
 have hlb := h.wf.lb
 have hfit : (st.at'.getD a (0, 0)).2 < (st.N.pages : Int) := by
  have := hN (st.at'.getD a (0, 0)).1.toNat
  omega
 refine ⟨x, hx, g1, g2, ?_, g3, m5⟩
 unfold FT.rdF
 have hat : st.N.atE (st.at'.getD a (0, 0)).1 = 0 := by
  unfold NA.atE
  rw [if_neg (by omega), if_neg (by simp [h.on])]
 have hre : st.N.readE (st.at'.getD a (0, 0)).1 (st.at'.getD a (0, 0)).2 = 0 := by
  unfold NA.readE
  rw [if_neg (by rw [hat]; simp), if_neg (by omega), if_neg (by omega), m2]
  rfl
 rw [if_pos ⟨ha, hre⟩]
 exact h4
end
end Go.Proofs.Ytpcbpljdiacbmaa.Ftl

set_option linter.unusedVariables false
set_option linter.unusedSimpArgs false
namespace Go.Proofs.Ytpcbpljdiacbmaa.Ftl
open Go.RowKit Go.Proofs.Ytpcbpljdiacbmaa.Kit Go.Proofs.Ytpcbpljdiacbmaa.Oct Go.Proofs.Ytpcbpljdiacbmaa.Sheet Go.Proofs.Ytpcbpljdiacbmaa.Nand Go.Proofs.Ytpcbpljdiacbmaa.Plan Go.Proofs.Ytpcbpljdiacbmaa.Scan Go.Proofs.Ytpcbpljdiacbmaa.Pmap Go.Proofs.Ytpcbpljdiacbmaa.Pool
section
variable {c : FC} {st : FT} {ex : Nat → Prop}
/-- How the blocks stand; of the blocks ex it isn't said that they are empty. -/
structure Pol (c : FC) (st : FT) (ex : Nat → Prop) : Prop where
 hl : st.hs.length = 64
 pool : ∀ i : Nat, (i : Int) ∈ c.xs → ∃ v, v ≤ 3 ∧ hAt st.hs (i : Int) = some v
 none_ : ∀ i : Int, i ∉ c.xs → hAt st.hs i = none
 dead : ∀ i : Nat, (i : Int) ∈ c.xs → (hAt st.hs (i : Int) = some 3 ↔ (st.N.blk i).failed = true)
 free : ∀ i : Nat, (i : Int) ∈ c.xs → hAt st.hs (i : Int) = some 0 → ¬ ex i → (st.N.blk i).pages = [] ∧ (st.N.blk i).half = false
 used : ∀ i : Nat, (i : Int) ∈ c.xs → hAt st.hs (i : Int) = some 1 → (st.N.blk i).half = false ∧ ¬ Cop (L0 c st.N) (i : Int)
 opn : ∀ i : Nat, (i : Int) ∈ c.xs → hAt st.hs (i : Int) = some 2 → (st.N.blk i).half = false ∧ (Cop (L0 c st.N) (i : Int) → (st.N.blk i).pages.length < c.np)
 one : ∀ i j : Nat, hAt st.hs (i : Int) = some 2 → hAt st.hs (j : Int) = some 2 → i = j
/-- A page behind those of a free block that is being filled. -/
theorem Pol.put_free (h : Pol c st ex) (hc : Cor c st) {N' : NA} {b a : Nat} {p : Pg} (hb : hAt st.hs (b : Int) = some 0) (hex : ex b) (hr : Rest st.N N' b) (hfl : (N'.blk b).failed = (st.N.blk b).failed) (hL : L0 c N' = putL (L0 c st.N) (b : Int) ((st.N.blk b).pages.length, p)) (hS : p.S = st.seq + 1) : Pol c (st.put N' b a) ex := by
 have hne : ∀ i : Nat, ∀ v, hAt st.hs (i : Int) = some v → v ≠ 0 → i ≠ b := fun i v hi hv e => by
  rw [e, hb] at hi
  injection hi with hi
  exact hv hi.symm
 have hcop : ∀ i : Nat, (i : Int) ∈ c.xs → i ≠ b → (Cop (L0 c N') (i : Int) ↔ Cop (L0 c st.N) (i : Int)) := fun i hi e => by
  rw [hL]
  exact Cop.put_iff (by omega) (fun x hx => by have := hc.num (i : Int) hi x hx; show x.2.S < p.S; omega)
 refine ⟨h.hl, h.pool, h.none_, fun i hi => ?_, fun i hi h0 he => ?_, fun i hi h1 => ?_, fun i hi h2 => ?_, h.one⟩
 ·show hAt st.hs (i : Int) = some 3 ↔ (N'.blk i).failed = true
  by_cases e : i = b
  ·rw [e, hfl, ← e]; exact h.dead i hi
  ·rw [hr.other i e]; exact h.dead i hi
 ·have e : i ≠ b := fun e => he (by rw [e]; exact hex)
  show (N'.blk i).pages = [] ∧ (N'.blk i).half = false
  rw [hr.other i e]
  exact h.free i hi h0 he
 ·have e := hne i 1 h1 (by omega)
  show (N'.blk i).half = false ∧ ¬ Cop (L0 c N') (i : Int)
  rw [hr.other i e, hcop i hi e]
  exact h.used i hi h1
 ·have e := hne i 2 h2 (by omega)
  show (N'.blk i).half = false ∧ (Cop (L0 c N') (i : Int) → (N'.blk i).pages.length < c.np)
  rw [hr.other i e, hcop i hi e]
  exact h.opn i hi h2
/-- A page of an address's own behind those of the open block. -/
theorem Pol.put_open (h : Pol c st ex) (hc : Cor c st) {N' : NA} {b a : Nat} {p : Pg} (hb : hAt st.hs (b : Int) = some 2) (hr : Rest st.N N' b) (hh : (N'.blk b).half = false) (hfl : (N'.blk b).failed = (st.N.blk b).failed) (hL : L0 c N' = putL (L0 c st.N) (b : Int) ((st.N.blk b).pages.length, p)) (hS : p.S = st.seq + 1) (hf : p.f = 0) : Pol c (st.put N' b a) ex := by
 have hne : ∀ i : Nat, ∀ v, hAt st.hs (i : Int) = some v → v ≠ 2 → i ≠ b := fun i v hi hv e => by
  rw [e, hb] at hi
  injection hi with hi
  exact hv hi.symm
 have hcop : ∀ i : Nat, (i : Int) ∈ c.xs → i ≠ b → (Cop (L0 c N') (i : Int) ↔ Cop (L0 c st.N) (i : Int)) := fun i hi e => by
  rw [hL]
  exact Cop.put_iff (by omega) (fun x hx => by have := hc.num (i : Int) hi x hx; show x.2.S < p.S; omega)
 refine ⟨h.hl, h.pool, h.none_, fun i hi => ?_, fun i hi h0 he => ?_, fun i hi h1 => ?_, fun i hi h2 => ?_, h.one⟩
 ·show hAt st.hs (i : Int) = some 3 ↔ (N'.blk i).failed = true
  by_cases e : i = b
  ·rw [e, hfl, ← e]; exact h.dead i hi
  ·rw [hr.other i e]; exact h.dead i hi
 ·have e := hne i 0 h0 (by omega)
  show (N'.blk i).pages = [] ∧ (N'.blk i).half = false
  rw [hr.other i e]
  exact h.free i hi h0 he
 ·have e := hne i 1 h1 (by omega)
  show (N'.blk i).half = false ∧ ¬ Cop (L0 c N') (i : Int)
  rw [hr.other i e, hcop i hi e]
  exact h.used i hi h1
 ·show (N'.blk i).half = false ∧ (Cop (L0 c N') (i : Int) → (N'.blk i).pages.length < c.np)
  by_cases e : i = b
  ·subst e
   refine ⟨hh, fun hC => ?_⟩
   exfalso
   rw [hL] at hC
   have h1 := hC.2.1
   have h2 := (hC.2.2 ((st.N.blk i).pages.length, p) (by rw [putL_same]; simp)).1
   have h2 : (p.f : Int) - 1 = frm (putL (L0 c st.N) (i : Int) ((st.N.blk i).pages.length, p) (i : Int)) := h2
   omega
  ·rw [hr.other i e, hcop i hi e]
   exact h.opn i hi h2
theorem how_at0 {s : FT} {b u v : Nat} (hl : s.hs.length = 64) (hb : b < 64) (hu : hAt s.hs (b : Int) = some u) (hd : u = 3 → v = 3) (hv : v ≠ 2) (j : Int) : hAt (s.how c b v).hs j = if j = (b : Int) then some v else hAt s.hs j := by
 rw [how_at hl hb hu hd]
 by_cases e : j = (b : Int)
 ·rw [if_pos e, if_pos e]
 ·rw [if_neg e, if_neg e, if_neg (fun h => hv h.1)]
/-- A block has failed. -/
theorem Pol.to_dead (h : Pol c st ex) {N' : NA} {b u sq : Nat} (hb : b < 64) (hu : hAt st.hs (b : Int) = some u) (hr : Rest st.N N' b) (hf : (N'.blk b).failed = true) (hL : L0 c N' = L0 c st.N) : Pol c (({ st with N := N', seq := sq } : FT).how c b 3) ex := by
 have hat : ∀ j, hAt (({ st with N := N', seq := sq } : FT).how c b 3).hs j = if j = (b : Int) then some 3 else hAt st.hs j := fun j => how_at0 (s := { st with N := N', seq := sq }) h.hl hb hu (fun _ => rfl) (by omega) j
 have hin : (b : Int) ∈ c.xs := by
  by_cases e : (b : Int) ∈ c.xs
  ·exact e
  ·rw [h.none_ _ e] at hu; cases hu
 have hne : ∀ i : Nat, ∀ v, (if (i : Int) = (b : Int) then some 3 else hAt st.hs (i : Int)) = some v → v ≠ 3 → i ≠ b ∧ hAt st.hs (i : Int) = some v := fun i v hi hv => by
  by_cases e : (i : Int) = (b : Int)
  ·rw [if_pos e] at hi
   injection hi with hi
   exact absurd hi.symm hv
  ·rw [if_neg e] at hi
   exact ⟨by omega, hi⟩
 refine ⟨by rw [how_len]; exact h.hl, fun i hi => ?_, fun i hi => ?_, fun i hi => ?_, fun i hi h0 he => ?_, fun i hi h1 => ?_, fun i hi h2 => ?_, fun i j hi hj => ?_⟩
 ·rw [hat]
  by_cases e : (i : Int) = (b : Int)
  ·rw [if_pos e]; exact ⟨3, by omega, rfl⟩
  ·rw [if_neg e]; exact h.pool i hi
 ·rw [hat, if_neg (fun e => hi (by rw [e]; exact hin))]
  exact h.none_ i hi
 ·rw [hat]
  show _ ↔ (N'.blk i).failed = true
  by_cases e : (i : Int) = (b : Int)
  ·rw [if_pos e, show i = b by omega, hf]; simp
  ·rw [if_neg e, hr.other i (by omega)]; exact h.dead i hi
 ·rw [hat] at h0
  obtain ⟨e, h0⟩ := hne i 0 h0 (by omega)
  show (N'.blk i).pages = [] ∧ (N'.blk i).half = false
  rw [hr.other i e]
  exact h.free i hi h0 he
 ·rw [hat] at h1
  obtain ⟨e, h1⟩ := hne i 1 h1 (by omega)
  show (N'.blk i).half = false ∧ ¬ Cop (L0 c N') (i : Int)
  rw [hr.other i e, hL]
  exact h.used i hi h1
 ·rw [hat] at h2
  obtain ⟨e, h2⟩ := hne i 2 h2 (by omega)
  show (N'.blk i).half = false ∧ (Cop (L0 c N') (i : Int) → (N'.blk i).pages.length < c.np)
  rw [hr.other i e, hL]
  exact h.opn i hi h2
 ·rw [hat] at hi hj
  exact h.one i j (hne i 2 hi (by omega)).2 (hne j 2 hj (by omega)).2
/-- A block has been erased. -/
theorem Pol.to_free (h : Pol c st ex) {N' : NA} {b u : Nat} (hb : b < 64) (hu : hAt st.hs (b : Int) = some u) (hu3 : u ≠ 3) (hr : Rest st.N N' b) (hp : (N'.blk b).pages = []) (hh : (N'.blk b).half = false) (hf : (N'.blk b).failed = (st.N.blk b).failed) (hL : L0 c N' = clrL (L0 c st.N) (b : Int)) : Pol c (({ st with N := N' } : FT).how c b 0) ex := by
 have hat : ∀ j, hAt (({ st with N := N' } : FT).how c b 0).hs j = if j = (b : Int) then some 0 else hAt st.hs j := fun j => how_at0 (s := { st with N := N' }) h.hl hb hu (fun e => absurd e hu3) (by omega) j
 have hin : (b : Int) ∈ c.xs := by
  by_cases e : (b : Int) ∈ c.xs
  ·exact e
  ·rw [h.none_ _ e] at hu; cases hu
 have hne : ∀ i : Nat, ∀ v, (if (i : Int) = (b : Int) then some 0 else hAt st.hs (i : Int)) = some v → v ≠ 0 → i ≠ b ∧ hAt st.hs (i : Int) = some v := fun i v hi hv => by
  by_cases e : (i : Int) = (b : Int)
  ·rw [if_pos e] at hi
   injection hi with hi
   exact absurd hi.symm hv
  ·rw [if_neg e] at hi
   exact ⟨by omega, hi⟩
 refine ⟨by rw [how_len]; exact h.hl, fun i hi => ?_, fun i hi => ?_, fun i hi => ?_, fun i hi h0 he => ?_, fun i hi h1 => ?_, fun i hi h2 => ?_, fun i j hi hj => ?_⟩
 ·rw [hat]
  by_cases e : (i : Int) = (b : Int)
  ·rw [if_pos e]; exact ⟨0, by omega, rfl⟩
  ·rw [if_neg e]; exact h.pool i hi
 ·rw [hat, if_neg (fun e => hi (by rw [e]; exact hin))]
  exact h.none_ i hi
 ·rw [hat]
  show _ ↔ (N'.blk i).failed = true
  by_cases e : (i : Int) = (b : Int)
  ·have eb : i = b := by omega
   have hd := h.dead b hin
   rw [hu] at hd
   rw [if_pos e, eb, hf]
   constructor
   ·intro x; injection x with x; cases x
   ·intro x
    have := hd.2 x
    injection this with this
    exact absurd this hu3
  ·rw [if_neg e, hr.other i (by omega)]; exact h.dead i hi
 ·show (N'.blk i).pages = [] ∧ (N'.blk i).half = false
  by_cases e : i = b
  ·rw [e]; exact ⟨hp, hh⟩
  ·rw [hat, if_neg (by omega)] at h0
   rw [hr.other i e]
   exact h.free i hi h0 he
 ·rw [hat] at h1
  obtain ⟨e, h1⟩ := hne i 1 h1 (by omega)
  show (N'.blk i).half = false ∧ ¬ Cop (L0 c N') (i : Int)
  rw [hr.other i e, hL]
  exact ⟨(h.used i hi h1).1, fun x => (h.used i hi h1).2 x.clr.2.1⟩
 ·rw [hat] at h2
  obtain ⟨e, h2⟩ := hne i 2 h2 (by omega)
  show (N'.blk i).half = false ∧ (Cop (L0 c N') (i : Int) → (N'.blk i).pages.length < c.np)
  rw [hr.other i e, hL]
  exact ⟨(h.opn i hi h2).1, fun x => (h.opn i hi h2).2 x.clr.2.1⟩
 ·rw [hat] at hi hj
  exact h.one i j (hne i 2 hi (by omega)).2 (hne j 2 hj (by omega)).2
theorem fOpen_no {xs : List Int} {hs : List (Option Nat)} (h : ∀ x ∈ xs, hAt hs x ≠ some 2) : fOpen xs hs = none := by
 cases ho : fOpen xs hs with
 | none => rfl
 | some x => exact absurd (fOpen_mem xs hs x ho).2 (h x (fOpen_mem xs hs x ho).1)
theorem fOpen_none {xs : List Int} {hs : List (Option Nat)} (h : fOpen xs hs = none) : ∀ x ∈ xs, hAt hs x ≠ some 2 := by
 intro x hx e
 unfold fOpen at h
 have := List.find?_eq_none.1 h x hx
 rw [e] at this
 simp at this
/-- The open block is full. -/
theorem Pol.to_used (h : Pol c st ex) {b : Nat} (hb : b < 64) (hu : hAt st.hs (b : Int) = some 2) (hcp : ¬ Cop (L0 c st.N) (b : Int)) : Pol c (st.how c b 1) ex ∧ ∀ i : Nat, hAt (st.how c b 1).hs (i : Int) ≠ some 2 := by
 have hat : ∀ j, hAt (st.how c b 1).hs j = if j = (b : Int) then some 1 else hAt st.hs j := fun j => how_at0 h.hl hb hu (fun e => by cases e) (by omega) j
 have hin : (b : Int) ∈ c.xs := by
  by_cases e : (b : Int) ∈ c.xs
  ·exact e
  ·rw [h.none_ _ e] at hu; cases hu
 have hno : ∀ i : Nat, hAt (st.how c b 1).hs (i : Int) ≠ some 2 := fun i x => by
  rw [hat] at x
  by_cases e : (i : Int) = (b : Int)
  ·rw [if_pos e] at x; cases x
  ·rw [if_neg e] at x
   exact e (by rw [h.one i b x hu])
 refine ⟨⟨by rw [how_len]; exact h.hl, fun i hi => ?_, fun i hi => ?_, fun i hi => ?_, fun i hi h0 he => ?_, fun i hi h1 => ?_, fun i hi h2 => absurd h2 (hno i), fun i j hi hj => absurd hi (hno i)⟩, hno⟩
 ·rw [hat]
  by_cases e : (i : Int) = (b : Int)
  ·rw [if_pos e]; exact ⟨1, by omega, rfl⟩
  ·rw [if_neg e]; exact h.pool i hi
 ·rw [hat, if_neg (fun e => hi (by rw [e]; exact hin))]
  exact h.none_ i hi
 ·rw [hat]
  show _ ↔ (st.N.blk i).failed = true
  by_cases e : (i : Int) = (b : Int)
  ·have eb : i = b := by omega
   have hd := h.dead b hin
   rw [hu] at hd
   rw [if_pos e, eb]
   constructor
   ·intro x; injection x with x; cases x
   ·intro x
    have := hd.2 x
    injection this with this
    cases this
  ·rw [if_neg e]; exact h.dead i hi
 ·rw [hat] at h0
  by_cases e : (i : Int) = (b : Int)
  ·rw [if_pos e] at h0; cases h0
  ·rw [if_neg e] at h0
   exact h.free i hi h0 he
 ·rw [hat] at h1
  by_cases e : (i : Int) = (b : Int)
  ·have eb : i = b := by omega
   rw [eb]
   exact ⟨(h.opn b hin hu).1, hcp⟩
  ·rw [if_neg e] at h1
   exact h.used i hi h1
/-- A free block is opened. -/
theorem Pol.to_open (h : Pol c st ex) {b : Nat} (hb : b < 64) (hu : hAt st.hs (b : Int) = some 0) (hno : ∀ i : Nat, hAt st.hs (i : Int) ≠ some 2) (hh : (st.N.blk b).half = false) (hcp : Cop (L0 c st.N) (b : Int) → (st.N.blk b).pages.length < c.np) : Pol c (st.how c b 2) (fun i => ex i ∧ i ≠ b) := by
 have hfo : fOpen c.xs st.hs = none := fOpen_no (fun x hx => by
  obtain ⟨k, rfl, -⟩ := xs_nat hx
  exact hno k)
 have hat : ∀ j, hAt (st.how c b 2).hs j = if j = (b : Int) then some 2 else hAt st.hs j := fun j => by
  rw [how_at h.hl hb hu (fun e => by cases e)]
  by_cases e : j = (b : Int)
  ·rw [if_pos e, if_pos e]
  ·rw [if_neg e, if_neg e, if_neg (fun x => by rw [hfo] at x; cases x.2)]
 have hin : (b : Int) ∈ c.xs := by
  by_cases e : (b : Int) ∈ c.xs
  ·exact e
  ·rw [h.none_ _ e] at hu; cases hu
 refine ⟨by rw [how_len]; exact h.hl, fun i hi => ?_, fun i hi => ?_, fun i hi => ?_, fun i hi h0 he => ?_, fun i hi h1 => ?_, fun i hi h2 => ?_, fun i j hi hj => ?_⟩
 ·rw [hat]
  by_cases e : (i : Int) = (b : Int)
  ·rw [if_pos e]; exact ⟨2, by omega, rfl⟩
  ·rw [if_neg e]; exact h.pool i hi
 ·rw [hat, if_neg (fun e => hi (by rw [e]; exact hin))]
  exact h.none_ i hi
 ·rw [hat]
  show _ ↔ (st.N.blk i).failed = true
  by_cases e : (i : Int) = (b : Int)
  ·have eb : i = b := by omega
   have hd := h.dead b hin
   rw [hu] at hd
   rw [if_pos e, eb]
   constructor
   ·intro x; injection x with x; cases x
   ·intro x
    have := hd.2 x
    injection this with this
    cases this
  ·rw [if_neg e]; exact h.dead i hi
 ·rw [hat] at h0
  by_cases e : (i : Int) = (b : Int)
  ·rw [if_pos e] at h0; cases h0
  ·rw [if_neg e] at h0
   exact h.free i hi h0 (fun x => he ⟨x, by omega⟩)
 ·rw [hat] at h1
  by_cases e : (i : Int) = (b : Int)
  ·rw [if_pos e] at h1; cases h1
  ·rw [if_neg e] at h1
   exact h.used i hi h1
 ·rw [hat] at h2
  by_cases e : (i : Int) = (b : Int)
  ·have eb : i = b := by omega
   rw [eb]
   exact ⟨hh, hcp⟩
  ·rw [if_neg e] at h2
   exact absurd h2 (hno i)
 ·rw [hat] at hi hj
  by_cases e : (i : Int) = (b : Int)
  ·by_cases e2 : (j : Int) = (b : Int)
   ·omega
   ·rw [if_neg e2] at hj
    exact absurd hj (hno j)
  ·rw [if_neg e] at hi
   exact absurd hi (hno i)
end
end Go.Proofs.Ytpcbpljdiacbmaa.Ftl

set_option linter.unusedVariables false
set_option linter.unusedSimpArgs false
namespace Go.Proofs.Ytpcbpljdiacbmaa.Ftl
open Go.RowKit Go.Proofs.Ytpcbpljdiacbmaa.Kit Go.Proofs.Ytpcbpljdiacbmaa.Oct Go.Proofs.Ytpcbpljdiacbmaa.Sheet Go.Proofs.Ytpcbpljdiacbmaa.Nand Go.Proofs.Ytpcbpljdiacbmaa.Plan Go.Proofs.Ytpcbpljdiacbmaa.Scan Go.Proofs.Ytpcbpljdiacbmaa.Pmap Go.Proofs.Ytpcbpljdiacbmaa.Pool
section
variable {c : FC} {st : FT} {ex : Nat → Prop}
/-- What free hands back: a block that stands free, or none of them does. -/
theorem free_spec (hp : Pol c st ex) : (∀ d : Int, freeF c st = some d → ∃ b : Nat, d = (b : Int) ∧ 2 ≤ b ∧ b < c.nb ∧ (b : Int) ∈ c.xs ∧ hAt st.hs (b : Int) = some 0) ∧ (freeF c st = none → ∀ i : Nat, (i : Int) ∈ c.xs → hAt st.hs (i : Int) ≠ some 0) := by
 have hb := bestF_spec st.hs (st.ers c) 0 c.xs (fun x hx => by
  obtain ⟨k, rfl, -, h⟩ := xs_nat hx
  unfold FT.ers
  simp
  omega)
 refine ⟨fun d hd => ?_, fun hn i hi h0 => ?_⟩
 ·obtain ⟨h1, h2, -⟩ := hb.1 d hd
  obtain ⟨k, rfl, k2, kn⟩ := xs_nat h1
  refine ⟨k, rfl, k2, kn, h1, ?_⟩
  obtain ⟨v, -, hv⟩ := hp.pool k h1
  rw [hv] at h2 ⊢
  simp at h2
  rw [h2]
 ·exact hb.2 hn (i : Int) hi (by rw [h0]; rfl)
theorem getD_setI (l : List Int) (k j : Nat) (hk : k < l.length) (v : Int) : (l.set k v).getD j 0 = if j = k then v else l.getD j 0 := by
 by_cases e : j = k
 ·rw [if_pos e, e, List.getD_eq_getElem?_getD, List.getElem?_set_self hk]; rfl
 ·rw [if_neg e, List.getD_eq_getElem?_getD, List.getElem?_set_ne (fun x => e x.symm), ← List.getD_eq_getElem?_getD]
/-- An address whose page was on block v has it on block b now. -/
theorem cn_move (hw : FWf c st) {N' : NA} {b v a : Nat} (hb : b < c.nb) (hv : v < c.nb) (hbv : b ≠ v) (ha : st.has.getD a false = true) (hav : (st.at'.getD a (0, 0)).1 = (v : Int)) : (st.put N' b a).cn v = st.cn v - 1 ∧ (st.put N' b a).cn b = st.cn b + 1 := by
 have hlc := hw.pi.lc
 have e : (st.put N' b a).cnt = scnt st.at' st.has st.cnt a b := rfl
 have ed : dcnt st.at' st.has st.cnt a = st.cnt.set v (st.cnt.getD v 0 - 1) := by
  unfold dcnt
  rw [ha, hav]
  simp
 unfold FT.cn
 rw [e]
 unfold scnt
 rw [ed]
 have hl2 : (st.cnt.set v (st.cnt.getD v 0 - 1)).length = st.cnt.length := List.length_set
 rw [getD_setI _ b v (by rw [hl2]; omega), if_neg (fun x => hbv x.symm), getD_setI _ v v (by omega), if_pos rfl, getD_setI _ b b (by rw [hl2]; omega), if_pos rfl, getD_setI _ v b (by omega), if_neg hbv]
 exact ⟨rfl, rfl⟩
theorem cap_rest {N N' : NA} {b n : Nat} (h : ∀ i, (N.blk i).pages.length ≤ n) (hr : Rest N N' b) (hb : (N'.blk b).pages.length ≤ n) : ∀ i, (N'.blk i).pages.length ≤ n := fun i => by
 by_cases e : i = b
 ·rw [e]; exact hb
 ·rw [hr.other i e]; exact h i
/-- While block v is copied to block d. -/
structure Cpy (c : FC) (st : FT) (v d : Nat) : Prop where
 cor : Cor c st
 pol : Pol c st (fun i => i = d)
 cap : ∀ i, (st.N.blk i).pages.length ≤ c.np
 vin : (v : Int) ∈ c.xs
 din : (d : Int) ∈ c.xs
 hv : hAt st.hs (v : Int) = some 1
 hd : hAt st.hs (d : Int) = some 0
 dh : (st.N.blk d).half = false
 dL : L0 c st.N (d : Int) = [] ∨ (Cop (L0 c st.N) (d : Int) ∧ frm (L0 c st.N (d : Int)) = (v : Int))
 few : ((st.N.blk d).pages.length : Int) + st.cn v < c.np
theorem Cpy.ne {v d : Nat} (h : Cpy c st v d) : d ≠ v := fun e => by
 have h1 := h.hv
 rw [← e, h.hd] at h1
 cases h1
theorem Cpy.start (hc : Cor c st) (hp : Pol c st (fun _ => False)) (hcap : ∀ i, (st.N.blk i).pages.length ≤ c.np) {v d : Nat} (vin : (v : Int) ∈ c.xs) (din : (d : Int) ∈ c.xs) (hv : hAt st.hs (v : Int) = some 1) (hd : hAt st.hs (d : Int) = some 0) (hcn : st.cn v < c.np) : Cpy c st v d := by
 obtain ⟨h1, h2⟩ := hp.free d din hd (fun h => h)
 refine ⟨hc, ⟨hp.hl, hp.pool, hp.none_, hp.dead, fun i hi h0 _ => hp.free i hi h0 (fun h => h), hp.used, hp.opn, hp.one⟩, hcap, vin, din, hv, hd, h2, .inl (L0_nil (.inl h1)), ?_⟩
 rw [h1]
 simpa using hcn
theorem Cpy.live {v d : Nat} (h : Cpy c st v d) : (st.N.blk d).failed = false := by
 cases e : (st.N.blk d).failed with
 | false => rfl
 | true =>
  have := (h.pol.dead d h.din).2 e
  rw [h.hd] at this
  cases this
/-- A page of block v has been copied. -/
theorem Cpy.next {v d a : Nat} (h : Cpy c st v d) {x : Fo} {N' : NA} {p : Pg} (hx : cF st a = some ((v : Int), x)) (hp : p = ⟨x.2.K, c.ep, st.seq + 1, a, v + 1, x.2.ys⟩) (hok : p.ok) (hr : Rest st.N N' d) (hon : N'.off = false) (hh : (N'.blk d).half = false) (hpg : (N'.blk d).pages = (st.N.blk d).pages ++ [p.bytes]) (hfl : (N'.blk d).failed = (st.N.blk d).failed) (hfw : FWf c (st.put N' d a)) (hL : L0 c N' = putL (L0 c st.N) (d : Int) ((st.N.blk d).pages.length, p)) (hcF : cF (st.put N' d a) = updC (cF st) a ((d : Int), ((st.N.blk d).pages.length, p))) (ha : a < c.M) : Cpy c (st.put N' d a) v d := by
 obtain ⟨g1, g2, g3⟩ := h.cor.good.here a _ x hx
 obtain ⟨hha, hav, -, -⟩ := cF_some hx
 obtain ⟨v', ev, v2, vn⟩ := xs_nat h.vin
 obtain ⟨d', ed, d2, dn⟩ := xs_nat h.din
 have hd' : d < c.nb := by omega
 have hv' : v < c.nb := by omega
 have hpS : p.S = st.seq + 1 := by rw [hp]
 have hpa : p.a = a := by rw [hp]
 have hpf : p.f = v + 1 := by rw [hp]
 have hxs := h.cor.num (v : Int) h.vin x g2
 have hg := h.cor.good_copy (b := d) (v := v) (k := (st.N.blk d).pages.length) (o := x) (p := p) h.din h.live h.ne (h.pol.used v h.vin h.hv).2 (by rw [hpa]; exact hx) h.dL hpf (by rw [hp]; exact ⟨rfl, rfl⟩) hpS
 rw [hpa] at hg
 have hB : IsB p.bytes := page_isB _ _ _ _ _ hok.2.2.2.2.2.2.2.2
 have hcn := cn_move h.cor.wf (N' := N') hd' hv' h.ne hha hav.symm
 have hfew := h.few
 refine ⟨h.cor.put hr hon hpg hfl hfw hL hcF hB hpS ha hg, h.pol.put_free h.cor h.hd rfl hr hfl hL hpS, cap_rest h.cap hr ?_, h.vin, h.din, h.hv, h.hd, hh, .inr ?_, ?_⟩
 ·show (N'.blk d).pages.length ≤ c.np
  rw [hpg, List.length_append]
  have := h.cor.wf.pi.on v hv'
  unfold FT.cn at hfew
  rw [this] at hfew
  simp
  omega
 ·show Cop (L0 c N') (d : Int) ∧ frm (L0 c N' (d : Int)) = (v : Int)
  rw [hL]
  refine cop_put (by have := h.ne; omega) (by omega) h.dL g2 (copyOf_iff.2 ?_) (by show (p.f : Int) - 1 = v; omega)
  show x.2.K = p.K ∧ x.2.a = p.a ∧ x.2.S < p.S ∧ x.2.ys = p.ys
  refine ⟨by rw [hp], by rw [hpa]; exact g3, by omega, by rw [hp]⟩
 ·show ((N'.blk d).pages.length : Int) + (st.put N' d a).cn v < c.np
  rw [hcn.1, hpg, List.length_append]
  simp
  omega
/-- The block that was being filled has failed. -/
theorem Cpy.fell {v d : Nat} (h : Cpy c st v d) (hnb : c.nb ≤ 64) {N' : NA} (hr : Rest st.N N' d) (hc : Cor c { st with N := N', seq := st.seq + 1 }) (hf : (N'.blk d).failed = true) (hpg : (N'.blk d).pages.length ≤ c.np) (hL : L0 c N' = L0 c st.N) : Cor c (({ st with N := N', seq := st.seq + 1 } : FT).how c d 3) ∧ Pol c (({ st with N := N', seq := st.seq + 1 } : FT).how c d 3) (fun _ => False) ∧ (∀ i, (N'.blk i).pages.length ≤ c.np) ∧ hAt (({ st with N := N', seq := st.seq + 1 } : FT).how c d 3).hs (v : Int) = some 1 := by
 obtain ⟨d', ed, d2, dn⟩ := xs_nat h.din
 have hat := how_at0 (c := c) (s := { st with N := N', seq := st.seq + 1 }) (v := 3) h.pol.hl (show d < 64 by omega) h.hd (fun _ => rfl) (by omega)
 have hp := h.pol.to_dead (sq := st.seq + 1) (show d < 64 by omega) h.hd hr hf hL
 refine ⟨hc.how d 3, ⟨hp.hl, hp.pool, hp.none_, hp.dead, fun i hi h0 _ => hp.free i hi h0 (fun e => ?_), hp.used, hp.opn, hp.one⟩, cap_rest h.cap hr hpg, ?_⟩
 ·rw [hat, if_pos (by rw [e])] at h0
  cases h0
 ·rw [hat, if_neg (fun e => h.ne (by omega))]
  exact h.hv
theorem copy_ok {i : Int} {x : Fo} {v a : Nat} (hx : x ∈ L0 c st.N i) (hep : c.ep < 281474976710656) (hsq : st.seq < 281474976710000) (hv : v < 64) (ha : x.2.a = a) : (⟨x.2.K, c.ep, st.seq + 1, a, v + 1, x.2.ys⟩ : Pg).ok := by
 obtain ⟨-, -, -, m4, -, -⟩ := L0_mem hx
 obtain ⟨f1, f2, f3, f4, f5, f6, f7, f8, f9⟩ := (rdP_some m4).1
 exact ⟨f1, f2, hep, by show st.seq + 1 < _; omega, by show a < _; omega, by show v + 1 ≤ 64; omega, f7, f8, f9⟩
end
end Go.Proofs.Ytpcbpljdiacbmaa.Ftl

set_option linter.unusedVariables false
set_option linter.unusedSimpArgs false
namespace Go.Proofs.Ytpcbpljdiacbmaa.Ftl
open Go.RowKit Go.Proofs.Ytpcbpljdiacbmaa.Kit Go.Proofs.Ytpcbpljdiacbmaa.Oct Go.Proofs.Ytpcbpljdiacbmaa.Sheet Go.Proofs.Ytpcbpljdiacbmaa.Nand Go.Proofs.Ytpcbpljdiacbmaa.Plan Go.Proofs.Ytpcbpljdiacbmaa.Scan Go.Proofs.Ytpcbpljdiacbmaa.Pmap Go.Proofs.Ytpcbpljdiacbmaa.Pool

/-! Counts. -/
theorem cnum_le2 {p q r s : Nat → Bool} : ∀ n, (∀ i, i < n → (if p i = true then 1 else 0) + (if q i = true then 1 else 0) ≤ (if r i = true then 1 else 0) + (if s i = true then 1 else 0)) → cnum p n + cnum q n ≤ cnum r n + cnum s n := by
 intro n
 induction n with
 | zero => intro _; exact Nat.le_refl _
 | succ n ih =>
  intro h
  have h1 := ih (fun i hi => h i (by omega))
  have h2 := h n (by omega)
  rw [cnum_succ, cnum_succ, cnum_succ, cnum_succ]
  omega
theorem cnum_le3 {p q s r : Nat → Bool} : ∀ n, (∀ i, i < n → (if p i = true then 1 else 0) + (if q i = true then 1 else 0) + (if s i = true then 1 else 0) ≤ (if r i = true then 1 else 0)) → cnum p n + cnum q n + cnum s n ≤ cnum r n := by
 intro n
 induction n with
 | zero => intro _; exact Nat.le_refl _
 | succ n ih =>
  intro h
  have h1 := ih (fun i hi => h i (by omega))
  have h2 := h n (by omega)
  rw [cnum_succ, cnum_succ, cnum_succ, cnum_succ]
  omega
theorem cnum_mono {p q : Nat → Bool} (n : Nat) (h : ∀ i, i < n → p i = true → q i = true) : cnum p n ≤ cnum q n := by
 induction n with
 | zero => exact Nat.le_refl _
 | succ n ih =>
  have h1 := ih (fun i hi => h i (by omega))
  have h2 := h n (by omega)
  rw [cnum_succ, cnum_succ]
  by_cases hp : p n = true
  ·rw [if_pos hp, if_pos (h2 hp)]; omega
  ·rw [if_neg hp]; omega
theorem cnum_zero {p : Nat → Bool} (n : Nat) (h : ∀ i, i < n → p i = false) : cnum p n = 0 := by
 induction n with
 | zero => rfl
 | succ n ih => rw [cnum_succ, ih (fun i hi => h i (by omega)), h n (by omega)]; rfl
theorem cnum_ext {p : Nat → Bool} {m n : Nat} (hmn : m ≤ n) (h : ∀ i, m ≤ i → p i = false) : cnum p n = cnum p m := by
 induction n with
 | zero => rw [Nat.le_zero.1 hmn]
 | succ n ih =>
  by_cases e : m = n + 1
  ·rw [e]
  ·rw [cnum_succ, h n (by omega), ih (by omega)]; rfl
theorem cnum_at (k n : Nat) : cnum (fun a => decide (a = k)) n ≤ 1 := by
 induction n with
 | zero => exact Nat.zero_le _
 | succ n ih =>
  rw [cnum_succ]
  by_cases e : n = k
  ·subst e
   rw [cnum_zero n (fun i hi => decide_eq_false (by omega))]
   simp
  ·rw [if_neg (by simpa using e)]; omega
theorem cnum_at1 {k n : Nat} (h : k < n) : 1 ≤ cnum (fun a => decide (a = k)) n := cnum_pos _ n k h (by simp)
/-- How many blocks there are. -/
theorem xs_len {c : FC} (hb : c.nb ≤ 64) : c.xs.length = cnum (fun i => decide ((i : Int) ∈ c.xs)) 64 := by
 have h1 : cnum (fun i => decide ((i : Int) ∈ c.xs)) 64 = cnum (fun i => decide ((i : Int) ∈ c.xs)) c.nb := cnum_ext hb (fun i hi => by
  refine decide_eq_false (fun h => ?_)
  obtain ⟨k, e, -, hk⟩ := xs_nat h
  omega)
 rw [h1]
 have hm : ∀ x : Nat, (x : Int) ∈ c.xs ↔ 2 ≤ (x : Int) ∧ (x : Int) < c.nb ∧ (x : Int) ∉ c.bad := fun x => usb_mem c.nb c.bad (x : Int)
 have e : c.xs = ((List.range c.nb).map Int.ofNat).filter fun j => decide (2 ≤ j ∧ j ∉ c.bad) := rfl
 unfold cnum
 rw [List.countP_eq_length_filter]
 conv => lhs; rw [e]
 rw [List.filter_map, List.length_map]
 congr 1
 refine List.filter_congr (fun x hx => ?_)
 have hx := List.mem_range.1 hx
 show decide (2 ≤ (x : Int) ∧ (x : Int) ∉ c.bad) = _
 rw [decide_eq_decide, hm]
 constructor
 ·rintro ⟨h1, h2⟩; exact ⟨h1, by omega, h2⟩
 ·rintro ⟨h1, -, h2⟩; exact ⟨h1, h2⟩

/-! Few blocks have pages that may count. -/
open Classical in
noncomputable def liveL (xs : List Int) (fl : Nat → Bool) (L : Int → List Fo) (e : Int) (i : Nat) : Bool := decide ((i : Int) ∈ xs ∧ fl i = false ∧ L (i : Int) ≠ [] ∧ (i : Int) ≠ e)
theorem liveL_iff {xs : List Int} {fl : Nat → Bool} {L : Int → List Fo} {e : Int} {i : Nat} : liveL xs fl L e i = true ↔ ((i : Int) ∈ xs ∧ fl i = false ∧ L (i : Int) ≠ [] ∧ (i : Int) ≠ e) := by
 unfold liveL
 exact decide_eq_true_iff
/-- At most as many blocks have pages as may; e is but a copy. -/
def FewL (xs : List Int) (S : Nat) (fl : Nat → Bool) (L : Int → List Fo) : Prop := ∃ e, (e ∈ xs → Cop L e) ∧ cnum (liveL xs fl L e) 64 + 1 + S ≤ xs.length
section
variable {xs : List Int} {S : Nat} {fl fl' : Nat → Bool} {L : Int → List Fo} {b : Nat}
theorem FewL.clr (h : FewL xs S fl L) (hx : ∀ x ∈ xs, 0 ≤ x ∧ x < 64) (hb : (b : Int) ∈ xs) (hf : fl b = false) : FewL xs S fl (clrL L (b : Int)) := by
 obtain ⟨e, he, hn⟩ := h
 have hb64 : b < 64 := by have := hx _ hb; omega
 have sub : ∀ e' : Int, (∀ i : Nat, (i : Int) ∈ xs → (i : Int) ≠ e' → (i : Int) ≠ b → (i : Int) ≠ e) → cnum (liveL xs fl (clrL L (b : Int)) e') 64 ≤ cnum (liveL xs fl L e) 64 := fun e' hne => cnum_mono 64 (fun i hi hl => by
  obtain ⟨h1, h2, h3, h4⟩ := liveL_iff.1 hl
  have hib : (i : Int) ≠ (b : Int) := fun x => h3 (by rw [x, clrL_same])
  rw [clrL_other hib] at h3
  exact liveL_iff.2 ⟨h1, h2, h3, hne i h1 h4 hib⟩)
 have none_ : (-1 : Int) ∉ xs := fun h => by have := hx _ h; omega
 by_cases hex : e ∈ xs
 ·have hC := he hex
  by_cases heb : e = (b : Int)
  ·exact ⟨-1, fun h => absurd h none_, by have := sub (-1) (fun i _ _ h => by rw [heb]; exact h); omega⟩
  ·by_cases hfb : frm (L e) = (b : Int)
   ·refine ⟨-1, fun h => absurd h none_, ?_⟩
    obtain ⟨k, rfl⟩ := Int.eq_ofNat_of_zero_le (hx e hex).1
    have hLb : L (b : Int) ≠ [] := by rw [← hfb]; exact hC.from_ne
    have hlb : liveL xs fl L (k : Int) b = true := liveL_iff.2 ⟨hb, hf, hLb, fun x => heb x.symm⟩
    have := cnum_le2 (p := liveL xs fl (clrL L (b : Int)) (-1)) (q := fun a => decide (a = b)) (r := liveL xs fl L (k : Int)) (s := fun a => decide (a = k)) 64 (fun i hi => by
     by_cases eb : i = b
     ·subst eb
      have hno : ¬ liveL xs fl (clrL L (i : Int)) (-1) i = true := fun h => (liveL_iff.1 h).2.2.1 clrL_same
      rw [if_neg hno, if_pos hlb]
      simp
     ·rw [if_neg (show ¬ (decide (i = b) = true) from by simpa using eb)]
      by_cases hl : liveL xs fl (clrL L (b : Int)) (-1) i = true
      ·obtain ⟨h1, h2, h3, h4⟩ := liveL_iff.1 hl
       have hib : (i : Int) ≠ (b : Int) := by omega
       rw [clrL_other hib] at h3
       by_cases ek : i = k
       ·rw [if_pos hl, if_pos (show decide (i = k) = true by simpa using ek)]
        split <;> omega
       ·rw [if_pos hl, if_pos (liveL_iff.2 ⟨h1, h2, h3, by omega⟩)]
        omega
      ·rw [if_neg hl]; omega)
    have h1 := cnum_at1 hb64
    have h2 := cnum_at k 64
    omega
   ·exact ⟨e, fun _ => hC.clr_of heb hfb, by have := sub e (fun i _ h _ => h); omega⟩
 ·exact ⟨e, fun h => absurd h hex, by have := sub e (fun i _ h _ => h); omega⟩
theorem FewL.fail (h : FewL xs S fl L) (hf : ∀ i : Nat, (i : Int) ∈ xs → fl i = true → fl' i = true) : FewL xs S fl' L := by
 obtain ⟨e, he, hn⟩ := h
 refine ⟨e, he, ?_⟩
 have := cnum_mono (p := liveL xs fl' L e) (q := liveL xs fl L e) 64 (fun i hi hl => by
  obtain ⟨h1, h2, h3, h4⟩ := liveL_iff.1 hl
  refine liveL_iff.2 ⟨h1, ?_, h3, h4⟩
  cases hfi : fl i with
  | false => rfl
  | true => rw [hf i h1 hfi] at h2; cases h2)
 omega
end
/-- .. as the pool says. -/
theorem FewL.pool {c : FC} {hs : List (Option Nat)} {fl : Nat → Bool} {L : Int → List Fo} {e : Int} (hb : c.nb ≤ 64) (hn : 1 + c.S ≤ cntH hs 0 + cntH hs 3) (hno : ∀ i : Int, i ∉ c.xs → hAt hs i = none) (he : e ∈ c.xs → Cop L e) (h0 : ∀ i : Nat, (i : Int) ∈ c.xs → hAt hs (i : Int) = some 0 → (i : Int) ≠ e → L (i : Int) = []) (h3 : ∀ i : Nat, (i : Int) ∈ c.xs → hAt hs (i : Int) = some 3 → fl i = true) : FewL c.xs c.S fl L := by
 refine ⟨e, he, ?_⟩
 rw [xs_len hb]
 have := cnum_le3 (p := liveL c.xs fl L e) (q := fun k => hs.getD k none == some 0) (s := fun k => hs.getD k none == some 3) (r := fun i => decide ((i : Int) ∈ c.xs)) 64 (fun i hi => by
  have hg := hAt_nat hs i hi
  by_cases hx : (i : Int) ∈ c.xs
  ·rw [if_pos (show decide ((i : Int) ∈ c.xs) = true by simpa using hx)]
   by_cases e0 : hs.getD i none = some 0
   ·have hl : ¬ liveL c.xs fl L e i = true := fun h => by
     obtain ⟨-, h2, h3', h4⟩ := liveL_iff.1 h
     exact h3' (h0 i hx (by rw [hg]; exact e0) h4)
    rw [if_neg hl, e0]
    decide
   ·by_cases e3 : hs.getD i none = some 3
    ·have hl : ¬ liveL c.xs fl L e i = true := fun h => by
      obtain ⟨-, h2, h3', h4⟩ := liveL_iff.1 h
      rw [h3 i hx (by rw [hg]; exact e3)] at h2
      cases h2
     rw [if_neg hl, e3]
     decide
    ·rw [if_neg (show ¬ ((hs.getD i none == some 0) = true) by simpa using e0), if_neg (show ¬ ((hs.getD i none == some 3) = true) by simpa using e3)]
     split <;> omega
  ·have e1 := hno _ hx
   rw [hg] at e1
   have hl : ¬ liveL c.xs fl L e i = true := fun h => hx (liveL_iff.1 h).1
   rw [if_neg hl, e1]
   exact Nat.zero_le _)
 unfold cntH at hn
 unfold cnum at this ⊢
 omega

/-! An array that can be mounted. -/
structure AOk (c : FC) (N : NA) (c0 : Nat → Option (Int × Fo)) (s : Nat) : Prop where
 lb : N.bs.length = c.nb
 lp : N.pages = c.np
 bytes : ∀ (j : Nat) (q : List Int), q ∈ (N.blk j).pages → IsB q
 er : ∀ i, kwf (N.blk i).erases
 good : Good c.xs (fun _ => True) (L0 c N) c0
 num : ∀ i ∈ c.xs, ∀ x ∈ L0 c N i, x.2.S ≤ s
 cap : ∀ i, (N.blk i).pages.length ≤ c.np
 half : ∀ i : Nat, (i : Int) ∈ c.xs → (N.blk i).failed = false → (N.blk i).half = true → (N.blk i).pages ≠ []
 few : FewL c.xs c.S (fun i => (N.blk i).failed) (L0 c N)
section
variable {c : FC} {N N' : NA} {c0 c1 : Nat → Option (Int × Fo)} {s s' b : Nat}
theorem xs_64 (hb : c.nb ≤ 64) : ∀ x ∈ c.xs, 0 ≤ x ∧ x < 64 := fun x hx => by
 obtain ⟨k, rfl, h1, h2⟩ := xs_nat hx
 omega
/-- Nothing of what counts has changed. -/
theorem AOk.same (h : AOk c N c0 s) (hs : s ≤ s') (hl : N'.bs.length = N.bs.length) (hp : N'.pages = N.pages) (hbk : ∀ i, (N'.blk i).pages = (N.blk i).pages ∧ (N'.blk i).half = (N.blk i).half) (hf : ∀ i, (N.blk i).failed = true → (N'.blk i).failed = true) (her : ∀ i, kwf (N'.blk i).erases) : AOk c N' c0 s' := by
 have hL : L0 c N' = L0 c N := L0_congr (fun i hi => by unfold NB.seen; rw [(hbk i).1, (hbk i).2])
 refine ⟨by rw [hl]; exact h.lb, by rw [hp]; exact h.lp, fun j q hq => h.bytes j q (by rw [← (hbk j).1]; exact hq), her, by rw [hL]; exact h.good, fun i hi x hx => ?_, fun i => by rw [(hbk i).1]; exact h.cap i, fun i hi hfi hh => ?_, ?_⟩
 ·rw [hL] at hx
  exact Nat.le_trans (h.num i hi x hx) hs
 ·rw [(hbk i).1]
  refine h.half i hi ?_ (by rw [← (hbk i).2]; exact hh)
  cases e : (N.blk i).failed with
  | false => rfl
  | true => rw [hf i e] at hfi; cases hfi
 ·rw [hL]
  exact h.few.fail (fun i _ => hf i)
theorem restart_blk (N : NA) (cut : Int) (j : Nat) : (N.restart cut).blk j = (N.fall cut).blk j := rfl
theorem restart_len (N : NA) (cut : Int) : (N.restart cut).bs.length = N.bs.length := by
 show (N.fall cut).bs.length = _
 unfold NA.fall
 split
 ·rfl
 ·split
  ·split
   ·exact len_set _ _ _
   ·rfl
  ·split
   ·exact len_set _ _ _
   ·split
    ·exact len_set _ _ _
    ·rfl
theorem restart_pages (N : NA) (cut : Int) : (N.restart cut).pages = N.pages := by
 show (N.fall cut).pages = _
 unfold NA.fall
 split
 ·rfl
 ·split
  ·split <;> rfl
  ·split
   ·rfl
   ·split <;> rfl
/-- The power goes off and on. -/
theorem AOk.boot (h : AOk c N c0 s) (hw : N.way = none) (cut : Int) : AOk c (N.restart cut) c0 s := by
 have e : ∀ i, (N.restart cut).blk i = N.blk i := fun i => by
  rw [restart_blk]
  unfold NA.fall
  rw [hw]
 exact h.same (Nat.le_refl _) (restart_len N cut) (restart_pages N cut) (fun i => by rw [e]; exact ⟨rfl, rfl⟩) (fun i => by rw [e]; exact id) (fun i => by rw [e]; exact h.er i)
/-- A programming was cut. -/
theorem AOk.cut_prog (h : AOk c N c0 s) (hb : (b : Int) ∈ c.xs) (hr : Rest N N' b) {p : Pg} {d : Bool} (hway : N'.way = some ⟨b, some p.bytes, d⟩) (hh : (N.blk b).half = false) (hh' : (N'.blk b).half = false) (hp : (N'.blk b).pages = (N.blk b).pages) (hf : (N'.blk b).failed = (N.blk b).failed) (her : ∀ i, kwf (N'.blk i).erases) (hk : (N.blk b).pages.length < c.np) (hok : p.ok) (hK : p.K ≠ 3) (ha : p.a < c.M) (hl96 : p.bytes.length = 96) (hS : p.S ≤ s') (hs : s ≤ s') (hg : Good c.xs (fun _ => True) (putL (L0 c N) (b : Int) ((N.blk b).pages.length, p)) c1) (hfew : FewL c.xs c.S (fun i => (N.blk i).failed) (putL (L0 c N) (b : Int) ((N.blk b).pages.length, p))) (cut : Int) : AOk c (N'.restart cut) c0 s' ∨ AOk c (N'.restart cut) c1 s' := by
 obtain ⟨b', eb, -, bn⟩ := xs_nat hb
 have eb : b = b' := by omega
 subst eb
 have hbl : b < N'.bs.length := by rw [hr.len, h.lb]; exact bn
 have hff : ∀ i, (N'.blk i).failed = (N.blk i).failed := fun i => by
  by_cases e : i = b
  ·rw [e]; exact hf
  ·rw [hr.other i e]
 by_cases hc : 0 < cut
 ·have hfall : N'.fall cut = N'.setB b ((N'.blk b).add (tornL p.bytes cut)) := by
   unfold NA.fall
   rw [hway]
   simp only
   rw [if_pos hc]
  have hat : (N'.restart cut).blk b = (N'.blk b).add (tornL p.bytes cut) := by rw [restart_blk, hfall, blk_set b b _ hbl, if_pos rfl]
  have hot : ∀ j, j ≠ b → (N'.restart cut).blk j = N.blk j := fun j hj => by rw [restart_blk, hfall, blk_set b j _ hbl, if_neg hj, hr.other j hj]
  have hpg : ((N'.restart cut).blk b).pages = (N.blk b).pages ++ [tornL p.bytes cut] := by rw [hat]; show (N'.blk b).pages ++ _ = _; rw [hp]
  have hhf : ((N'.restart cut).blk b).half = false := by rw [hat]; exact hh'
  have hfl : ∀ i, ((N'.restart cut).blk i).failed = (N.blk i).failed := fun i => by
   by_cases e : i = b
   ·rw [e, hat]; exact hf
   ·rw [hot i e]
  have hfl' : (fun i => ((N'.restart cut).blk i).failed) = fun i => (N.blk i).failed := funext hfl
  have hB : IsB p.bytes := page_isB _ _ _ _ _ hok.2.2.2.2.2.2.2.2
  have hby : ∀ (j : Nat) (q : List Int), q ∈ ((N'.restart cut).blk j).pages → IsB q := fun j q hq => by
   by_cases e : j = b
   ·rw [e, hpg] at hq
    rcases List.mem_append.1 hq with hq | hq
    ·exact h.bytes b q hq
    ·rw [List.mem_singleton.1 hq]; exact torn_isB hB cut
   ·exact h.bytes j q (by rw [← hot j e]; exact hq)
  have her' : ∀ i, kwf ((N'.restart cut).blk i).erases := fun i => by
   by_cases e : i = b
   ·rw [e, hat]; exact her b
   ·rw [hot i e]; exact h.er i
  have hcap : ∀ i, ((N'.restart cut).blk i).pages.length ≤ c.np := fun i => by
   by_cases e : i = b
   ·rw [e, hpg, List.length_append, List.length_singleton]; omega
   ·rw [hot i e]; exact h.cap i
  have hhalf : ∀ i : Nat, (i : Int) ∈ c.xs → ((N'.restart cut).blk i).failed = false → ((N'.restart cut).blk i).half = true → ((N'.restart cut).blk i).pages ≠ [] := fun i hi hfi hhi => by
   by_cases e : i = b
   ·rw [e, hhf] at hhi; cases hhi
   ·rw [hot i e] at hfi hhi ⊢; exact h.half i hi hfi hhi
  by_cases h96 : cut < 96
  ·have hL : L0 c (N'.restart cut) = L0 c N := L0_torn hot hh hhf hpg (rdP_torn hl96 cut h96)
   refine .inl ⟨by rw [restart_len, hr.len, h.lb], by rw [restart_pages, hr.pages, h.lp], hby, her', by rw [hL]; exact h.good, fun i hi x hx => ?_, hcap, hhalf, ?_⟩
   ·rw [hL] at hx
    exact Nat.le_trans (h.num i hi x hx) hs
   ·rw [hL, hfl']
    exact h.few
  ·have hL : L0 c (N'.restart cut) = putL (L0 c N) (b : Int) ((N.blk b).pages.length, p) := L0_put hb hot hh hhf hpg (torn_all hl96 cut (by omega)) hok hK ha
   refine .inr ⟨by rw [restart_len, hr.len, h.lb], by rw [restart_pages, hr.pages, h.lp], hby, her', by rw [hL]; exact hg, fun i hi x hx => ?_, hcap, hhalf, ?_⟩
   ·rw [hL] at hx
    rcases putL_mem hx with ⟨-, rfl⟩ | hx
    ·exact hS
    ·exact Nat.le_trans (h.num i hi x hx) hs
   ·rw [hL, hfl']
    exact hfew
 ·have hfall : N'.fall cut = N' := by
   unfold NA.fall
   rw [hway]
   simp only
   rw [if_neg hc]
  have hat : ∀ i, (N'.restart cut).blk i = N'.blk i := fun i => by rw [restart_blk, hfall]
  refine .inl (h.same hs (by rw [restart_len, hr.len]) (by rw [restart_pages, hr.pages]) (fun i => ?_) (fun i => ?_) (fun i => by rw [hat]; exact her i))
  ·rw [hat]
   by_cases e : i = b
   ·rw [e]; exact ⟨hp, by rw [hh, hh']⟩
   ·rw [hr.other i e]; exact ⟨rfl, rfl⟩
  ·rw [hat, hff]; exact id
/-- An erasing was cut. -/
theorem AOk.cut_erase (h : AOk c N c0 s) (hnb : c.nb ≤ 64) (hb : (b : Int) ∈ c.xs) (hcb : ∀ a i x, c0 a = some (i, x) → i ≠ (b : Int)) (hfb : (N.blk b).failed = false) (hr : Rest N N' b) {d : Bool} (hway : N'.way = some ⟨b, none, d⟩) (hh : (N'.blk b).half = (N.blk b).half) (hp : (N'.blk b).pages = (N.blk b).pages) (hf : (N'.blk b).failed = (N.blk b).failed) (her : ∀ i, kwf (N'.blk i).erases) (cut : Int) : AOk c (N'.restart cut) c0 s := by
 obtain ⟨b', eb, -, bn⟩ := xs_nat hb
 have eb : b = b' := by omega
 subst eb
 have hbl : b < N'.bs.length := by rw [hr.len, h.lb]; exact bn
 have hff : ∀ i, (N'.blk i).failed = (N.blk i).failed := fun i => by
  by_cases e : i = b
  ·rw [e]; exact hf
  ·rw [hr.other i e]
 have clr : ∀ x : NB, N'.fall cut = N'.setB b x → x.failed = (N.blk b).failed → NB.seen x = [] → x.pages.length ≤ c.np → (∀ q ∈ x.pages, IsB q) → (x.half = true → x.pages ≠ []) → kwf x.erases → AOk c (N'.restart cut) c0 s := fun x hfall hxf hxs hxl hxb hxh hxe => by
  have hat : (N'.restart cut).blk b = x := by rw [restart_blk, hfall, blk_set b b _ hbl, if_pos rfl]
  have hot : ∀ j, j ≠ b → (N'.restart cut).blk j = N.blk j := fun j hj => by rw [restart_blk, hfall, blk_set b j _ hbl, if_neg hj, hr.other j hj]
  have hL : L0 c (N'.restart cut) = clrL (L0 c N) (b : Int) := L0_clr hot (by rw [hat]; exact hxs)
  have hfl' : (fun i => ((N'.restart cut).blk i).failed) = fun i => (N.blk i).failed := funext (fun i => by
   by_cases e : i = b
   ·rw [e, hat]; exact hxf
   ·rw [hot i e])
  refine ⟨by rw [restart_len, hr.len, h.lb], by rw [restart_pages, hr.pages, h.lp], fun j q hq => ?_, fun i => ?_, by rw [hL]; exact h.good.clr hcb, fun i hi x hx => ?_, fun i => ?_, fun i hi hfi hhi => ?_, ?_⟩
  ·by_cases e : j = b
   ·rw [e, hat] at hq; exact hxb q hq
   ·exact h.bytes j q (by rw [← hot j e]; exact hq)
  ·by_cases e : i = b
   ·rw [e, hat]; exact hxe
   ·rw [hot i e]; exact h.er i
  ·rw [hL] at hx
   exact h.num i hi x (clrL_mem hx).2
  ·by_cases e : i = b
   ·rw [e, hat]; exact hxl
   ·rw [hot i e]; exact h.cap i
  ·by_cases e : i = b
   ·rw [e, hat] at hhi ⊢; exact hxh hhi
   ·rw [hot i e] at hfi hhi ⊢; exact h.half i hi hfi hhi
  ·rw [hL, hfl']
   exact h.few.clr (xs_64 hnb) hb hfb
 by_cases h96 : 96 ≤ cut ∧ d = false
 ·refine clr (N'.blk b).clean ?_ hf rfl (Nat.zero_le _) (fun q hq => by cases hq) (fun hx => by cases hx) (kwf_wrap _)
  unfold NA.fall
  rw [hway]
  simp only
  rw [if_pos h96]
 ·by_cases hc : 0 < cut
  ·by_cases he : (N'.blk b).pages = []
   ·refine clr { N'.blk b with half := decide (0 < (N'.blk b).pages.length) } ?_ hf ?_ ?_ ?_ ?_ (her b)
    ·unfold NA.fall
     rw [hway]
     simp only
     rw [if_neg h96, if_pos hc]
    ·unfold NB.seen
     simp only
     rw [he]
     simp
    ·show (N'.blk b).pages.length ≤ _
     rw [hp]; exact h.cap b
    ·intro q hq
     have hq : q ∈ (N'.blk b).pages := hq
     rw [he] at hq
     cases hq
    ·intro hx
     have hx : decide (0 < (N'.blk b).pages.length) = true := hx
     rw [he] at hx
     cases hx
   ·have hpos : 0 < (N'.blk b).pages.length := (Nat.pos_of_ne_zero (fun e => he (List.eq_nil_of_length_eq_zero e)))
    refine clr { N'.blk b with half := decide (0 < (N'.blk b).pages.length) } ?_ hf ?_ ?_ ?_ (fun _ => he) (her b)
    ·unfold NA.fall
     rw [hway]
     simp only
     rw [if_neg h96, if_pos hc]
    ·unfold NB.seen
     simp only
     rw [if_pos (decide_eq_true hpos)]
    ·show (N'.blk b).pages.length ≤ _
     rw [hp]; exact h.cap b
    ·intro q hq
     have hq : q ∈ (N'.blk b).pages := hq
     rw [hp] at hq
     exact h.bytes b q hq
  ·have hfall : N'.fall cut = N' := by
    unfold NA.fall
    rw [hway]
    simp only
    rw [if_neg h96, if_neg hc]
   have hat : ∀ i, (N'.restart cut).blk i = N'.blk i := fun i => by rw [restart_blk, hfall]
   refine h.same (Nat.le_refl _) (by rw [restart_len, hr.len]) (by rw [restart_pages, hr.pages]) (fun i => ?_) (fun i => ?_) (fun i => by rw [hat]; exact her i)
   ·rw [hat]
    by_cases e : i = b
    ·rw [e]; exact ⟨hp, hh⟩
    ·rw [hr.other i e]; exact ⟨rfl, rfl⟩
   ·rw [hat, hff]; exact id
end
end Go.Proofs.Ytpcbpljdiacbmaa.Ftl

set_option linter.unusedVariables false
set_option linter.unusedSimpArgs false
namespace Go.Proofs.Ytpcbpljdiacbmaa.Ftl
open Go.RowKit Go.Proofs.Ytpcbpljdiacbmaa.Kit Go.Proofs.Ytpcbpljdiacbmaa.Oct Go.Proofs.Ytpcbpljdiacbmaa.Sheet Go.Proofs.Ytpcbpljdiacbmaa.Nand Go.Proofs.Ytpcbpljdiacbmaa.Plan Go.Proofs.Ytpcbpljdiacbmaa.Scan Go.Proofs.Ytpcbpljdiacbmaa.Pmap Go.Proofs.Ytpcbpljdiacbmaa.Pool

/-! The copying of a block, as plain data. -/
structure CK (c : FC) : Prop where
 nb : c.nb ≤ 64
 np : 2 ≤ c.np ∧ c.np ≤ 32
 ok : c.ok
 M : 1 ≤ c.M
 ep : 1 ≤ c.ep ∧ c.ep < 281474976710656
 M16 : c.M < 65536
/-- The power went off in an operation: behind its going on the array can be mounted, and its data are as P says. -/
def Fell (c : FC) (N' : NA) (P : (Nat → Option (List Int)) → Prop) (s : Nat) : Prop := N'.off = true ∧ ∀ cut, ∃ c2, AOk c (N'.restart cut) c2 s ∧ P (Vof c2)
def NoOpen (st : FT) : Prop := ∀ i : Nat, hAt st.hs (i : Int) ≠ some 2
/-- What holds of an FTL at rest. -/
structure At (c : FC) (st : FT) : Prop where
 cor : Cor c st
 pol : Pol c st (fun _ => False)
 cap : ∀ i, (st.N.blk i).pages.length ≤ c.np
 room : 1 + c.S ≤ cntH st.hs 0 + cntH st.hs 3
section
variable {c : FC} {st : FT} {ex ex' : Nat → Prop}
theorem Pol.mono (h : Pol c st ex) (hx : ∀ i : Nat, (i : Int) ∈ c.xs → hAt st.hs (i : Int) = some 0 → ex i → ex' i ∨ ((st.N.blk i).pages = [] ∧ (st.N.blk i).half = false)) : Pol c st ex' :=
 ⟨h.hl, h.pool, h.none_, h.dead, fun i hi h0 he => by
  by_cases e : ex i
  ·rcases hx i hi h0 e with g | g
   ·exact absurd g he
   ·exact g
  ·exact h.free i hi h0 e, h.used, h.opn, h.one⟩
theorem aok_gen (hb : c.nb ≤ 64) {e : Int} (hc : Cor c st) (hp : Pol c st (fun i => (i : Int) = e)) (hcap : ∀ i, (st.N.blk i).pages.length ≤ c.np) (hroom : 1 + c.S ≤ cntH st.hs 0 + cntH st.hs 3) (he : ∀ i : Nat, (i : Int) = e → (st.N.blk i).half = false) (hC : e ∈ c.xs → L0 c st.N e = [] ∨ Cop (L0 c st.N) e) : AOk c st.N (cF st) st.seq := by
 refine ⟨hc.wf.lb, hc.wf.lp, hc.bytes, hc.wf.er, hc.good.weak (fun _ _ => trivial), hc.num, hcap, fun i hi hf hh => ?_, ?_⟩
 ·exfalso
  obtain ⟨v, hv3, hv⟩ := hp.pool i hi
  have hne : (st.N.blk i).half = false := by
   rcases (show v = 0 ∨ v = 1 ∨ v = 2 ∨ v = 3 by omega) with rfl | rfl | rfl | rfl
   ·by_cases e1 : (i : Int) = e
    ·exact he i e1
    ·exact (hp.free i hi hv e1).2
   ·exact (hp.used i hi hv).1
   ·exact (hp.opn i hi hv).1
   ·have := (hp.dead i hi).1 hv
    rw [this] at hf
    cases hf
  rw [hne] at hh
  cases hh
 ·by_cases hL : L0 c st.N e = []
  ·refine FewL.pool (e := -1) hb hroom hp.none_ (fun h => absurd h (fun x => by have := xs_64 hb _ x; omega)) (fun i hi h0 _ => ?_) (fun i hi h3 => (hp.dead i hi).1 h3)
   by_cases e1 : (i : Int) = e
   ·rw [e1]; exact hL
   ·exact L0_nil (.inl (hp.free i hi h0 e1).1)
  ·refine FewL.pool (e := e) hb hroom hp.none_ (fun h => (hC h).resolve_left hL) (fun i hi h0 e1 => ?_) (fun i hi h3 => (hp.dead i hi).1 h3)
   exact L0_nil (.inl (hp.free i hi h0 e1).1)
theorem At.aok (h : At c st) (hb : c.nb ≤ 64) : AOk c st.N (cF st) st.seq :=
 aok_gen (e := -1) hb h.cor (h.pol.mono (fun _ _ _ x => x.elim)) h.cap h.room (fun i hi => by omega) (fun h => absurd h (fun x => by have := xs_64 hb _ x; omega))
theorem Cpy.aok {v d : Nat} (h : Cpy c st v d) (hb : c.nb ≤ 64) (hroom : 1 + c.S ≤ cntH st.hs 0 + cntH st.hs 3) : AOk c st.N (cF st) st.seq :=
 aok_gen (e := (d : Int)) hb h.cor (h.pol.mono (fun i _ _ x => .inl (by omega))) h.cap hroom (fun i hi => by
  have e : i = d := by omega
  rw [e]; exact h.dh) (fun _ => h.dL.imp id (fun x => x.1))
theorem Vof_copy {cc : Nat → Option (Int × Fo)} {a : Nat} {y y0 : Int × Fo} (h : cc a = some y0) (he : y.2.2.ys = y0.2.2.ys) : Vof (updC cc a y) = Vof cc := by
 funext n
 rw [Vof_upd]
 by_cases e : n = a
 ·rw [if_pos e, e]
  unfold Vof
  rw [h, he]; rfl
 ·rw [if_neg e]
theorem free_none (hp : Pol c st ex) (h : freeF c st = none) : cntH st.hs 0 = 0 := by
 have h1 := (free_spec hp).2 h
 refine cnum_zero 64 (fun i hi => ?_)
 have hg := hAt_nat st.hs i hi
 have hne : hAt st.hs (i : Int) ≠ some 0 := by
  by_cases hx : (i : Int) ∈ c.xs
  ·exact h1 i hx
  ·rw [hp.none_ _ hx]; simp
 rw [hg] at hne
 simpa using hne
theorem cn0_none (h : Cor c st) {b : Nat} (hc : st.cn b ≤ 0) : ∀ a i x, cF st a = some (i, x) → i ≠ (b : Int) := fun a i x hx e => by
 obtain ⟨h1, h2, -⟩ := cF_some hx
 have := (h.wf.pi.here a h1).1
 have := h.wf.cn_pos h1 (b := b) (by omega)
 omega
theorem cntH_le0 (hs : List (Option Nat)) (v : Nat) : cntH hs v ≤ 64 := cnum_le _ 64
/-- What copying comes to. -/
def CpO (c : FC) (st : FT) (v n : Nat) (r : FT × Int × Nat) : Prop :=
 (r.2.1 = 0 ∧ Cpy c r.1 v r.2.2 ∧ r.1.cn v ≤ 0 ∧ NoOpen r.1 ∧ 1 + c.S ≤ cntH r.1.hs 0 + cntH r.1.hs 3 ∧ Vof (cF r.1) = Vof (cF st) ∧ (st.cn v ≤ 0 ∨ st.N.fence ≤ c.ep) ∧ r.1.N.fence = st.N.fence ∧ r.1.seq ≤ st.seq + n) ∨
 (r.2.1 = 7 ∧ (c.ep : Int) < st.N.fence ∧ r.1 = { st with seq := st.seq + 1 }) ∨
 (r.2.1 = 9 ∧ Fell c r.1.N (fun D => D = Vof (cF st)) (st.seq + n)) ∨
 (r.2.1 = 10 ∧ At c r.1 ∧ NoOpen r.1 ∧ Vof (cF r.1) = Vof (cF st) ∧ c.S < cntH r.1.hs 3 ∧ r.1.N.fence = st.N.fence ∧ st.N.fence ≤ c.ep ∧ r.1.seq ≤ st.seq + n)
set_option maxHeartbeats 2000000 in
theorem copy_law (hk : CK c) {v : Nat} (n : Nat) : ∀ (st : FT) (d : Nat), Cpy c st v d → NoOpen st → 1 + c.S ≤ cntH st.hs 0 + cntH st.hs 3 → st.seq + n ≤ 281474976710000 → (st.cn v).toNat + cntH st.hs 0 < n → ∃ r, copyL c v n st d = some r ∧ CpO c st v n r := by
 induction n with
 | zero => intro st d _ _ _ _ hm; omega
 | succ n ih =>
  intro st d h ho hr hs hm
  by_cases hc0 : st.cn v ≤ 0
  ·exact ⟨_, copyL_zero hc0, .inl ⟨rfl, h, hc0, ho, hr, rfl, .inl hc0, rfl, by show st.seq ≤ _; omega⟩⟩
  ·obtain ⟨v', ev, v2, vn⟩ := xs_nat h.vin
   obtain ⟨d', ed, d2, dn⟩ := xs_nat h.din
   have hnb := hk.nb
   have hvn : v < c.nb := by omega
   have hdn : d < c.nb := by omega
   obtain ⟨a, ha, e1, -, hha, hav⟩ := on_head h.cor.wf.pi v hvn (by omega)
   obtain ⟨x, hx, hxU, hxL, hrd, hxa, hxK⟩ := h.cor.reads h.cap hha
   rw [hav] at hx hxU hxL
   have hfew := h.few
   have hkd : (st.N.blk d).pages.length < c.np := by omega
   have hok := copy_ok (v := v) hxL hk.ep.2 (by omega) (by omega) hxa
   have hfw := h.cor.wf.program d hdn hk.np.2 x.2.K a (v + 1) x.2.ys ha
   have hu : copyL c v (n + 1) st d = (if (programF c st d x.2.K a (v + 1) x.2.ys).2 = 8 then (match freeF c (programF c st d x.2.K a (v + 1) x.2.ys).1 with
      | none => some ((programF c st d x.2.K a (v + 1) x.2.ys).1, 10, d)
      | some d' => copyL c v n (programF c st d x.2.K a (v + 1) x.2.ys).1 d'.toNat)
     else if (programF c st d x.2.K a (v + 1) x.2.ys).2 ≠ 0 then some ((programF c st d x.2.K a (v + 1) x.2.ys).1, (programF c st d x.2.K a (v + 1) x.2.ys).2, d)
     else copyL c v n (programF c st d x.2.K a (v + 1) x.2.ys).1 d) := by
    conv => lhs; unfold copyL
    rw [if_neg hc0, e1, Int.toNat_natCast, hrd]
    simp only
    rw [if_neg (by rintro (h1 | h1); exact h1 hxa; omega)]
    rfl
   obtain ⟨p, hp⟩ : ∃ p : Pg, p = ⟨x.2.K, c.ep, st.seq + 1, a, v + 1, x.2.ys⟩ := ⟨_, rfl⟩
   have hokp : p.ok := by rw [hp]; exact hok
   have hpa : p.a = a := by rw [hp]
   have hpS : p.S = st.seq + 1 := by rw [hp]
   have hpf : p.f = v + 1 := by rw [hp]
   have hpy : p.ys = x.2.ys := by rw [hp]
   have hp96 : p.bytes.length = 96 := by rw [hp]; exact page_len _ _ _ _ _ _ hok.2.2.2.2.2.2.1
   rcases h.cor.prog (f := v + 1) (a := a) (K := x.2.K) (ys := x.2.ys) h.din h.dh hkd hk.np.2 p hp hokp hxK ha with ⟨hP, hf⟩ | ⟨hf, N', hr', hh', hcase⟩
   ·rw [hu, hP, if_neg (show ¬ ((7 : Int) = 8) by decide), if_pos (show (7 : Int) ≠ 0 by decide)]
    exact ⟨_, rfl, .inr (.inl ⟨rfl, hf, rfl⟩)⟩
   ·rcases hcase with ⟨hP, ha1, hoff, ⟨dd', hway⟩, hpg, hfl⟩ | ⟨hP, hcor, hway, hfl, hdd, hpl, hL, hcF⟩ | ⟨hP, hon, hway, hpg, hfl, hdd, hfw', hL, hcF⟩
    ·rw [hu, hP, if_neg (show ¬ ((9 : Int) = 8) by decide), if_pos (show (9 : Int) ≠ 0 by decide)]
     refine ⟨_, rfl, .inr (.inr (.inl ⟨rfl, hoff, fun cut => ?_⟩))⟩
     rw [hP] at hfw
     have hg := h.cor.good_copy (b := d) (v := v) (k := (st.N.blk d).pages.length) (o := x) (p := p) h.din h.live h.ne (h.pol.used v h.vin h.hv).2 (by rw [hpa]; exact hx) h.dL hpf (by rw [hp]; exact ⟨rfl, rfl⟩) hpS
     rw [hpa] at hg
     have hcp := cop_put (p := ((st.N.blk d).pages.length, p)) (by have := h.ne; omega) (by omega) h.dL hxL (copyOf_iff.2 (show x.2.K = p.K ∧ x.2.a = p.a ∧ x.2.S < p.S ∧ x.2.ys = p.ys from ⟨by rw [hp], by rw [hpa]; exact hxa, by have := h.cor.num _ h.vin x hxL; omega, by rw [hp]⟩)) (by show (p.f : Int) - 1 = v; omega)
     have hfl2 : FewL c.xs c.S (fun i => (st.N.blk i).failed) (putL (L0 c st.N) (d : Int) ((st.N.blk d).pages.length, p)) := FewL.pool (e := (d : Int)) hnb hr h.pol.none_ (fun _ => hcp.1) (fun i hi h0 hne => by
      rw [putL_other _ hne]
      exact L0_nil (.inl (h.pol.free i hi h0 (by omega)).1)) (fun i hi h3 => (h.pol.dead i hi).1 h3)
     rcases (h.aok hnb hr).cut_prog (c1 := updC (cF st) a ((d : Int), ((st.N.blk d).pages.length, p))) (s' := st.seq + (n + 1)) h.din hr' hway h.dh hh' hpg hfl (fun i => hfw.er i) hkd hokp (by rw [hp]; exact hxK) (by rw [hpa]; exact ha) hp96 (by omega) (by omega) (hg.weak (fun _ _ => trivial)) hfl2 cut with g | g
     ·exact ⟨_, g, rfl⟩
     ·exact ⟨_, g, Vof_copy hx hpy⟩
    ·rw [hu, hP, if_pos (show (8 : Int) = 8 from rfl)]
     obtain ⟨f1, f2, f3, f4⟩ := h.fell hnb hr' hcor hfl (by rw [hpl]; omega) hL
     have hcnt : ∀ w, cntH (({ st with N := N', seq := st.seq + 1 } : FT).how c d 3).hs w + (if 0 = w then 1 else 0) = cntH st.hs w + (if 3 = w then 1 else 0) := fun w => how_cnt (st := ({ st with N := N', seq := st.seq + 1 } : FT)) h.pol.hl (by omega) h.hd (fun e => by cases e) (.inl (by omega))
     have hc0' := hcnt 0
     have hc3' := hcnt 3
     simp at hc0' hc3'
     have hat := how_at0 (c := c) (s := { st with N := N', seq := st.seq + 1 }) (v := 3) h.pol.hl (show d < 64 by omega) h.hd (fun _ => rfl) (by omega)
     have hno : NoOpen (({ st with N := N', seq := st.seq + 1 } : FT).how c d 3) := fun i => by
      rw [hat]
      split
      ·simp
      ·exact ho i
     have hV : Vof (cF (({ st with N := N', seq := st.seq + 1 } : FT).how c d 3)) = Vof (cF st) := by
      show Vof (cF { st with N := N', seq := st.seq + 1 }) = _
      rw [hcF]
     have hcn : (({ st with N := N', seq := st.seq + 1 } : FT).how c d 3).cn v = st.cn v := rfl
     cases hfr : freeF c (({ st with N := N', seq := st.seq + 1 } : FT).how c d 3) with
     | none =>
      refine ⟨_, rfl, .inr (.inr (.inr ⟨rfl, ⟨f1, f2, f3, by show 1 + c.S ≤ cntH (({ st with N := N', seq := st.seq + 1 } : FT).how c d 3).hs 0 + cntH (({ st with N := N', seq := st.seq + 1 } : FT).how c d 3).hs 3; omega⟩, hno, hV, ?_, hr'.fence, hf, ?_⟩))⟩
      ·have := free_none f2 hfr
       show c.S < cntH (({ st with N := N', seq := st.seq + 1 } : FT).how c d 3).hs 3
       omega
      ·show st.seq + 1 ≤ _
       omega
     | some d2 =>
      obtain ⟨k, rfl, -, -, kx, k0⟩ := (free_spec f2).1 d2 hfr
      have h2 : Cpy c (({ st with N := N', seq := st.seq + 1 } : FT).how c d 3) v k := Cpy.start f1 f2 f3 h.vin kx f4 k0 (by rw [hcn]; omega)
      obtain ⟨r, hr1, hr2⟩ := ih _ k h2 hno (by omega) (by show st.seq + 1 + n ≤ _; omega) (by rw [hcn]; omega)
      simp only [Int.toNat_natCast]
      refine ⟨r, hr1, ?_⟩
      have hsq : (({ st with N := N', seq := st.seq + 1 } : FT).how c d 3).seq = st.seq + 1 := rfl
      have hfe : (({ st with N := N', seq := st.seq + 1 } : FT).how c d 3).N.fence = st.N.fence := hr'.fence
      rcases hr2 with ⟨g0, g1, g2, g3, g4, g5, g6, g7, g8⟩ | ⟨g0, g1, g2⟩ | ⟨g0, g1, g2⟩ | ⟨g0, g1, g2, g3, g4, g5, g6, g7⟩
      ·exact .inl ⟨g0, g1, g2, g3, g4, g5.trans hV, .inr hf, g7.trans hfe, by omega⟩
      ·rw [hfe] at g1; omega
      ·refine .inr (.inr (.inl ⟨g0, g1, fun cut => ?_⟩))
       obtain ⟨c2, k1, k2⟩ := g2 cut
       refine ⟨c2, ?_, k2.trans hV⟩
       have : (({ st with N := N', seq := st.seq + 1 } : FT).how c d 3).seq + n = st.seq + (n + 1) := by rw [hsq]; omega
       rw [← this]; exact k1
      ·exact .inr (.inr (.inr ⟨g0, g1, g2, g3.trans hV, g4, g5.trans hfe, hf, by omega⟩))
    ·rw [hu, hP, if_neg (show ¬ ((0 : Int) = 8) by decide), if_neg (show ¬ ((0 : Int) ≠ 0) by decide)]
     have h2 := h.next hx hp hokp hr' hon hh' hpg hfl hfw' hL hcF ha
     have hcn := (cn_move h.cor.wf (N' := N') hdn hvn h.ne hha hav).1
     have hV : Vof (cF (st.put N' d a)) = Vof (cF st) := by rw [hcF]; exact Vof_copy hx hpy
     obtain ⟨r, hr1, hr2⟩ := ih (st.put N' d a) d h2 ho hr (by show st.seq + 1 + n ≤ _; omega) (by rw [hcn]; show (st.cn v - 1).toNat + cntH st.hs 0 < n; omega)
     refine ⟨r, hr1, ?_⟩
     have hsq : (st.put N' d a).seq = st.seq + 1 := rfl
     have hfe : (st.put N' d a).N.fence = st.N.fence := hr'.fence
     rcases hr2 with ⟨g0, g1, g2, g3, g4, g5, g6, g7, g8⟩ | ⟨g0, g1, g2⟩ | ⟨g0, g1, g2⟩ | ⟨g0, g1, g2, g3, g4, g5, g6, g7⟩
     ·exact .inl ⟨g0, g1, g2, g3, g4, g5.trans hV, .inr hf, g7.trans hfe, by omega⟩
     ·rw [hfe] at g1; omega
     ·refine .inr (.inr (.inl ⟨g0, g1, fun cut => ?_⟩))
      obtain ⟨c2, k1, k2⟩ := g2 cut
      refine ⟨c2, ?_, k2.trans hV⟩
      have : (st.put N' d a).seq + n = st.seq + (n + 1) := by rw [hsq]; omega
      rw [← this]; exact k1
     ·exact .inr (.inr (.inr ⟨g0, g1, g2, g3.trans hV, g4, g5.trans hfe, hf, by omega⟩))
end
end Go.Proofs.Ytpcbpljdiacbmaa.Ftl

set_option linter.unusedVariables false
set_option linter.unusedSimpArgs false
namespace Go.Proofs.Ytpcbpljdiacbmaa.Ftl
open Go.RowKit Go.Proofs.Ytpcbpljdiacbmaa.Kit Go.Proofs.Ytpcbpljdiacbmaa.Oct Go.Proofs.Ytpcbpljdiacbmaa.Sheet Go.Proofs.Ytpcbpljdiacbmaa.Nand Go.Proofs.Ytpcbpljdiacbmaa.Plan Go.Proofs.Ytpcbpljdiacbmaa.Scan Go.Proofs.Ytpcbpljdiacbmaa.Pmap Go.Proofs.Ytpcbpljdiacbmaa.Pool

/-! Some programmings and erasings of an array, one behind the other. -/
inductive Ops (ep : Int) (N : NA) : NA → Prop
 | refl : Ops ep N N
 | prog {N' : NA} (b : Nat) (q : List Int) (h : Ops ep N N') : Ops ep N (N'.prog (b : Int) ((N'.blk b).pages.length : Int) q ep).1
 | erase {N' : NA} (b : Nat) (h : Ops ep N N') : Ops ep N (N'.erase (b : Int) ep).1
section
variable {ep : Int} {N N' N'' : NA} {c : FC} {st : FT} {b : Nat} {ex : Nat → Prop}
theorem Ops.trans (h : Ops ep N N') (h' : Ops ep N' N'') : Ops ep N N'' := by
 induction h' with
 | refl => exact h
 | prog b q _ ih => exact .prog b q ih
 | erase b _ ih => exact .erase b ih
theorem Ops.keeps {P : NA → Prop} (h : Ops ep N N') (hp : ∀ (M : NA) (b : Nat) (q : List Int), P M → P (M.prog (b : Int) ((M.blk b).pages.length : Int) q ep).1) (he : ∀ (M : NA) (b : Nat), P M → P (M.erase (b : Int) ep).1) (h0 : P N) : P N' := by
 induction h with
 | refl => exact h0
 | prog b q _ ih => exact hp _ b q ih
 | erase b _ ih => exact he _ b ih
/-- What a programming changes. -/
structure Chg (N N1 : NA) (b : Nat) : Prop where
 lt : b < N.bs.length
 off : N.off = false
 rest : Rest N N1 b
 fl : (N.blk b).failed = true → (N1.blk b).failed = true
 fd : (N1.blk b).failed = true → (N.blk b).failed = true ∨ (N1.blk b).dead = true
theorem prog_gen (N : NA) (b : Nat) (q : List Int) (ep : Int) : (N.prog (b : Int) ((N.blk b).pages.length : Int) q ep).1 = N ∨ (N.fence ≤ ep ∧ Chg N (N.prog (b : Int) ((N.blk b).pages.length : Int) q ep).1 b ∧ ((N.prog (b : Int) ((N.blk b).pages.length : Int) q ep).1.blk b).erases = (N.blk b).erases) := by
 by_cases he : N.progE (b : Int) ((N.blk b).pages.length : Int) q.length ep = 0
 ·obtain ⟨g1, g2, g3, g4, g5, g6, g7⟩ := progE_ok he
  rw [Int.toNat_natCast] at g5 g6
  have hlt : b < N.bs.length := by
   unfold NA.atE at g1
   by_cases e : (b : Int) < 0 ∨ (N.bs.length : Int) ≤ (b : Int)
   ·rw [if_pos e] at g1; cases g1
   ·omega
  have ho : N.off = false := by
   unfold NA.atE at g1
   rw [if_neg (by omega)] at g1
   cases e : N.off
   ·rfl
   ·rw [e] at g1; cases g1
  rcases prog_spec (q := q) (ep := ep) hlt ho (by omega) g4 g6 with ⟨x, -⟩ | ⟨-, N', e, hpe, hr, hh, her, hcase⟩
  ·omega
  ·rw [hpe]
   refine .inr ⟨g7, ⟨hlt, ho, hr, ?_, ?_⟩, her⟩
   ·rcases hcase with ⟨-, -, -, -, -, g⟩ | ⟨-, -, -, -, g, -⟩ | ⟨-, -, -, -, g, -⟩
    ·rw [g]; exact id
    ·intro _; exact g
    ·rw [g]; exact id
   ·rcases hcase with ⟨-, -, -, -, -, g⟩ | ⟨-, -, -, -, -, g⟩ | ⟨-, -, -, -, g, -⟩
    ·rw [g]; exact .inl
    ·intro _; exact .inr g
    ·rw [g]; exact .inl
 ·left
  rw [prog_err _ _ _ _ he]
theorem erase_gen (N : NA) (b : Nat) (ep : Int) : (N.erase (b : Int) ep).1 = N ∨ (N.fence ≤ ep ∧ Chg N (N.erase (b : Int) ep).1 b) := by
 by_cases he : N.eraseE (b : Int) ep = 0
 ·have g1 : N.atE (b : Int) = 0 := by
   unfold NA.eraseE at he
   by_cases e : N.atE (b : Int) ≠ 0
   ·rw [if_pos e] at he; exact he
   ·omega
  have hlt : b < N.bs.length := by
   unfold NA.atE at g1
   by_cases e : (b : Int) < 0 ∨ (N.bs.length : Int) ≤ (b : Int)
   ·rw [if_pos e] at g1; cases g1
   ·omega
  have ho : N.off = false := by
   unfold NA.atE at g1
   rw [if_neg (by omega)] at g1
   cases e : N.off
   ·rfl
   ·rw [e] at g1; cases g1
  rcases erase_spec (ep := ep) hlt ho with ⟨-, x⟩ | ⟨hf, N', e, hpe, hr, hcase⟩
  ·left; rw [x]
  ·rw [hpe]
   refine .inr ⟨hf, ⟨hlt, ho, hr, ?_, ?_⟩⟩
   ·rcases hcase with ⟨-, -, -, -, -, -, g, -⟩ | ⟨-, -, -, -, -, g, -⟩ | ⟨-, -, -, -, -, g, -⟩
    ·rw [g]; exact id
    ·intro _; exact g
    ·rw [g]; exact id
   ·rcases hcase with ⟨-, -, -, -, -, -, g, -⟩ | ⟨-, -, -, -, -, -, g, -⟩ | ⟨-, -, -, -, -, g, -⟩
    ·rw [g]; exact .inl
    ·intro _; exact .inr g
    ·rw [g]; exact .inl
 ·left
  unfold NA.erase
  rw [if_pos he]
/-- What holds of an array is kept, if each change keeps it. -/
theorem Ops.chg {P : NA → Prop} (h : Ops ep N N') (hc : ∀ (M M1 : NA) (b : Nat), M.fence ≤ ep → Chg M M1 b → P M → P M1) (h0 : P N) : P N' :=
 h.keeps (fun M b q hM => by
  rcases prog_gen M b q ep with e | ⟨hf, hc', -⟩
  ·rw [e]; exact hM
  ·exact hc _ _ b hf hc' hM) (fun M b hM => by
  rcases erase_gen M b ep with e | ⟨hf, hc'⟩
  ·rw [e]; exact hM
  ·exact hc _ _ b hf hc' hM) h0
theorem Ops.fence (h : Ops ep N N') : N'.fence = N.fence := h.chg (P := fun M => M.fence = N.fence) (fun M M1 b _ hc hM => hc.rest.fence.trans hM) rfl
/-- What has failed stays so. -/
theorem Ops.fl (h : Ops ep N N') (i : Nat) (hi : (N.blk i).failed = true) : (N'.blk i).failed = true := h.chg (P := fun M => (M.blk i).failed = true) (fun M M1 b _ hc hM => by
  by_cases e : i = b
  ·subst e; exact hc.fl hM
  ·rw [hc.rest.other i e]; exact hM) hi
/-- A block that is not doomed does not fail. -/
def Hale1 (N : NA) (i : Nat) : Prop := (N.blk i).dead = false ∧ (N.blk i).doom = 0 ∧ (N.blk i).failed = false
theorem Ops.hale (h : Ops ep N N') {i : Nat} (hi : Hale1 N i) : Hale1 N' i := h.chg (P := fun M => Hale1 M i) (fun M M1 b _ hc hM => by
  by_cases e : i = b
  ·subst e
   have hd : (M1.blk i).dead = false := by rw [hc.rest.dead, hM.1, hM.2.1]; rfl
   refine ⟨hd, by rw [hc.rest.doom, hM.2.1], ?_⟩
   cases hf : (M1.blk i).failed with
   | false => rfl
   | true =>
    rcases hc.fd hf with g | g
    ·rw [hM.2.2] at g; cases g
    ·rw [hd] at g; cases g
  ·unfold Hale1
   rw [hc.rest.other i e]; exact hM) hi
/-- Nothing is armed: nothing is cut. -/
theorem Ops.calm (h : Ops ep N N') (ha : N.armed = 0) : N'.armed = 0 := h.chg (P := fun M => M.armed = 0) (fun M M1 b _ hc hM => by rw [hc.rest.armed, hM]) ha
/-- The power is on as long as nothing is armed. -/
theorem Ops.on (h : Ops ep N N') (ha : N.armed = 0) (ho : N.off = false) : N'.off = false := by
 have key : N'.armed = 0 ∧ N'.off = false := h.keeps (P := fun M => M.armed = 0 ∧ M.off = false) (fun M b q hM => by
  have h1 : (M.prog (b : Int) ((M.blk b).pages.length : Int) q ep).1.armed = 0 := (Ops.prog (ep := ep) (N := M) b q .refl).calm hM.1
  refine ⟨h1, ?_⟩
  unfold NA.prog
  split
  ·exact hM.2
  ·have e : ∀ j, (M.begun j).off = false := fun j => by rw [begun_off, hM.1]; rfl
   simp only [e]
   split
   ·rename_i x; cases x
   ·split
    ·exact e ((b : Int)).toNat
    ·exact e ((b : Int)).toNat) (fun M b hM => by
  have h1 : (M.erase (b : Int) ep).1.armed = 0 := (Ops.erase (ep := ep) (N := M) b .refl).calm hM.1
  refine ⟨h1, ?_⟩
  unfold NA.erase
  split
  ·exact hM.2
  ·have e : ∀ j, (M.begun j).off = false := fun j => by rw [begun_off, hM.1]; rfl
   simp only [e]
   split
   ·rename_i x; cases x
   ·split
    ·exact e ((b : Int)).toNat
    ·exact e ((b : Int)).toNat) ⟨ha, ho⟩
 exact key.2
theorem programF_ops (c : FC) (st : FT) (b K a f : Nat) (ys : List Int) : Ops c.ep st.N (programF c st b K a f ys).1.N := by
 have h : Ops c.ep st.N (st.prg c b K a f ys).1 := .prog b _ .refl
 unfold programF
 split
 ·exact h
 ·split <;> exact h
theorem eraseF_ops (c : FC) (st : FT) (b : Nat) : Ops c.ep st.N (eraseF c st b).1.N := by
 have h : Ops c.ep st.N (st.N.erase (b : Int) c.ep).1 := .erase b .refl
 unfold eraseF
 split
 ·exact h
 ·split <;> exact h
theorem copyL_ops (c : FC) (v n : Nat) : ∀ (st : FT) (d : Nat) (r : FT × Int × Nat), copyL c v n st d = some r → Ops c.ep st.N r.1.N := by
 induction n with
 | zero => intro st d r h; cases h
 | succ n ih =>
  intro st d r h
  unfold copyL at h
  split at h
  ·injection h with h; rw [← h]; exact .refl
  ·split at h
   ·cases h
   ·rename_i p hp
    split at h
    ·cases h
    ·have h1 := programF_ops c st d p.K ((st.on c v).headD 0).toNat (v + 1) p.ys
     simp only at h
     split at h
     ·split at h
      ·injection h with h; rw [← h]; exact h1
      ·exact h1.trans (ih _ _ _ h)
     ·split at h
      ·injection h with h; rw [← h]; exact h1
      ·exact h1.trans (ih _ _ _ h)
theorem collectG_ops (c : FC) (n : Nat) (st : FT) (R : FT × Int) (h : collectG c n st = some R) : Ops c.ep st.N R.1.N := by
 unfold collectG at h
 cases hb : bestF st.hs st.cnt 1 c.xs with
 | none =>
  rw [hb] at h
  unfold colFr at h
  injection h with h; rw [← h]; exact .refl
 | some v =>
  rw [hb] at h
  unfold colFr at h
  simp only at h
  split at h
  ·injection h with h; rw [← h]; exact eraseF_ops c st v.toNat
  ·cases hf : freeF c st with
   | none =>
    rw [hf] at h
    unfold colT at h
    injection h with h; rw [← h]; exact .refl
   | some d =>
    rw [hf] at h
    unfold colT at h
    simp only at h
    split at h
    ·injection h with h; rw [← h]; exact .refl
    ·cases hc : copyL c v.toNat n st d.toNat with
     | none => rw [hc] at h; cases h
     | some r =>
      rw [hc] at h
      have h1 := copyL_ops c v.toNat n st d.toNat r hc
      unfold colEnd at h
      simp only at h
      have h2 := eraseF_ops c r.1 v.toNat
      split at h
      ·injection h with h; rw [← h]; exact h1
      ·split at h
       ·injection h with h; rw [← h]; exact h1.trans h2
       ·injection h with h; rw [← h]; exact h1.trans h2
theorem full_N (c : FC) (st : FT) : (st.full c).N = st.N := by
 unfold FT.full
 split <;> rfl
theorem roomG_ops (c : FC) (m n : Nat) : ∀ (st : FT) (r : FT × Nat × Int), roomG c m n st = some r → Ops c.ep st.N r.1.N := by
 induction n with
 | zero => intro st r h; cases h
 | succ n ih =>
  intro st r h
  unfold roomG at h
  split at h
  ·injection h with h; rw [← h]; exact .refl
  ·split at h
   ·injection h with h; rw [← h]
    show Ops c.ep st.N (st.full c).N
    rw [full_N]; exact .refl
   ·split at h
    ·have := ih _ _ h
     have e : ((st.full c).how c ((freeF c (st.full c)).getD 0).toNat 2).N = st.N := full_N c st
     rw [e] at this; exact this
    ·cases hc : collectG c m (st.full c) with
     | none => rw [hc] at h; cases h
     | some R =>
      rw [hc] at h
      have h1 := collectG_ops c m _ R hc
      rw [full_N] at h1
      simp only at h
      split at h
      ·injection h with h; rw [← h]; exact h1
      ·exact h1.trans (ih _ _ h)
theorem putG_ops (c : FC) (m k n : Nat) : ∀ (st : FT) (K a : Nat) (ys : List Int) (R : FT × Int), putG c m k n st K a ys = some R → Ops c.ep st.N R.1.N := by
 induction n with
 | zero => intro st K a ys R h; cases h
 | succ n ih =>
  intro st K a ys R h
  unfold putG at h
  cases hr : roomG c m k st with
  | none => rw [hr] at h; cases h
  | some r =>
   rw [hr] at h
   have h1 := roomG_ops c m k st r hr
   simp only at h
   split at h
   ·injection h with h; rw [← h]; exact h1
   ·split at h
    ·cases h
    ·have h2 := programF_ops c r.1 r.2.1 K a 0 ys
     split at h
     ·injection h with h; rw [← h]; exact h1.trans h2
     ·exact (h1.trans h2).trans (ih _ _ _ _ _ h)
/-- How many blocks have failed. -/
theorem dead_count (hp : Pol c st ex) : cntH st.hs 3 = cnum (fun i => decide ((i : Int) ∈ c.xs) && (st.N.blk i).failed) 64 := by
 refine cnum_congr _ _ 64 (fun i hi => ?_)
 have hg := hAt_nat st.hs i hi
 by_cases hx : (i : Int) ∈ c.xs
 ·have h := hp.dead i hx
  rw [hg] at h
  rw [decide_eq_true hx, Bool.true_and, Bool.eq_iff_iff, ← h]
  simp
 ·have h := hp.none_ _ hx
  rw [hg] at h
  rw [h, decide_eq_false hx]
  rfl
theorem dead_mono {st' : FT} {ex' : Nat → Prop} (hp : Pol c st ex) (hp' : Pol c st' ex') (h : Ops ep st.N st'.N) : cntH st.hs 3 ≤ cntH st'.hs 3 := by
 rw [dead_count hp, dead_count hp']
 refine cnum_mono 64 (fun i hi hx => ?_)
 rw [Bool.and_eq_true] at hx ⊢
 exact ⟨hx.1, h.fl i hx.2⟩
end
end Go.Proofs.Ytpcbpljdiacbmaa.Ftl

set_option linter.unusedVariables false
set_option linter.unusedSimpArgs false
namespace Go.Proofs.Ytpcbpljdiacbmaa.Ftl
open Go.RowKit Go.Proofs.Ytpcbpljdiacbmaa.Kit Go.Proofs.Ytpcbpljdiacbmaa.Oct Go.Proofs.Ytpcbpljdiacbmaa.Sheet Go.Proofs.Ytpcbpljdiacbmaa.Nand Go.Proofs.Ytpcbpljdiacbmaa.Plan Go.Proofs.Ytpcbpljdiacbmaa.Scan Go.Proofs.Ytpcbpljdiacbmaa.Pmap Go.Proofs.Ytpcbpljdiacbmaa.Pool

/-! There is a block whose pages do not all count. -/
def usum (u : Nat → Bool) (f : Nat → Nat) : Nat → Nat
 | 0 => 0
 | m + 1 => usum u f m + (if u m = true then f m else 0)
theorem usum_low {u : Nat → Bool} {f : Nat → Nat} {P : Nat} : ∀ m, (∀ k, k < m → u k = true → P ≤ f k) → P * cnum u m ≤ usum u f m := by
 intro m
 induction m with
 | zero => intro _; exact Nat.le_refl _
 | succ m ih =>
  intro h
  have h1 := ih (fun k hk => h k (by omega))
  rw [cnum_succ]
  show _ ≤ usum u f m + _
  by_cases e : u m = true
  ·rw [if_pos e, if_pos e, Nat.mul_add, Nat.mul_one]
   have := h m (by omega) e
   omega
  ·rw [if_neg e, if_neg e]; exact h1
theorem usum_on {u : Nat → Bool} {at' : List (Int × Int)} {has : List Bool} : ∀ n m, usum u (fun k => cnum (onP at' has k) n) m ≤ n := by
 intro n
 induction n with
 | zero =>
  intro m
  induction m with
  | zero => exact Nat.le_refl _
  | succ m ih =>
   show usum _ _ m + _ ≤ 0
   have e : cnum (onP at' has m) 0 = 0 := rfl
   simp only [e]
   split <;> omega
 | succ n ih =>
  intro m
  have key : ∀ m : Nat, usum u (fun k => cnum (onP at' has k) (n + 1)) m ≤ usum u (fun k => cnum (onP at' has k) n) m + (if 0 ≤ (at'.getD n (0, 0)).1 ∧ (at'.getD n (0, 0)).1 < (m : Int) then 1 else 0) := by
   intro m
   induction m with
   | zero => exact Nat.zero_le _
   | succ m ihm =>
    show usum _ _ m + (if u m = true then cnum (onP at' has m) (n + 1) else 0) ≤ usum _ _ m + (if u m = true then cnum (onP at' has m) n else 0) + _
    by_cases hu : u m = true
    ·rw [if_pos hu, if_pos hu, cnum_succ]
     by_cases ho : onP at' has m n = true
     ·rw [if_pos ho]
      unfold onP at ho
      rw [Bool.and_eq_true, decide_eq_true_iff] at ho
      rw [if_neg (by omega)] at ihm
      rw [if_pos (by omega)]
      omega
     ·rw [if_neg ho]
      by_cases e : 0 ≤ (at'.getD n (0, 0)).1 ∧ (at'.getD n (0, 0)).1 < (m : Int)
      ·rw [if_pos e] at ihm
       rw [if_pos (by omega)]
       omega
      ·rw [if_neg e] at ihm
       split <;> omega
    ·rw [if_neg hu, if_neg hu]
     by_cases e : 0 ≤ (at'.getD n (0, 0)).1 ∧ (at'.getD n (0, 0)).1 < (m : Int)
     ·rw [if_pos e] at ihm
      rw [if_pos (by omega)]
      omega
     ·rw [if_neg e] at ihm
      split <;> omega
  have h1 := key m
  have h2 := ih m
  split at h1 <;> omega
section
variable {c : FC} {st : FT} {ex ex' : Nat → Prop}
theorem hs_in {hs : List (Option Nat)} (hn : ∀ i : Int, i ∉ c.xs → hAt hs i = none) {k v : Nat} (h : hAt hs (k : Int) = some v) : (k : Int) ∈ c.xs := by
 by_cases e : (k : Int) ∈ c.xs
 ·exact e
 ·rw [hn _ e] at h; cases h
/-- How many blocks there are, by how they stand. -/
theorem xs_le (hb : c.nb ≤ 64) (hp : Pol c st ex) (ho : NoOpen st) : c.xs.length ≤ cntH st.hs 0 + cntH st.hs 1 + cntH st.hs 3 := by
 rw [xs_len hb]
 have key : ∀ n, n ≤ 64 → cnum (fun i => decide ((i : Int) ∈ c.xs)) n ≤ cnum (fun k => st.hs.getD k none == some 0) n + cnum (fun k => st.hs.getD k none == some 1) n + cnum (fun k => st.hs.getD k none == some 3) n := by
  intro n
  induction n with
  | zero => intro _; exact Nat.zero_le _
  | succ n ih =>
   intro hn
   have h1 := ih (by omega)
   rw [cnum_succ, cnum_succ, cnum_succ, cnum_succ]
   by_cases hx : (n : Int) ∈ c.xs
   ·obtain ⟨v, hv3, hv⟩ := hp.pool n hx
    have hno := ho n
    rw [hAt_nat st.hs n (by omega)] at hv hno
    rw [hv] at hno ⊢
    rw [if_pos (show decide ((n : Int) ∈ c.xs) = true by simpa using hx)]
    rcases (show v = 0 ∨ v = 1 ∨ v = 2 ∨ v = 3 by omega) with rfl | rfl | rfl | rfl
    ·simp only [beq_self_eq_true, if_true]; omega
    ·simp only [beq_self_eq_true, if_true]; omega
    ·exact absurd rfl hno
    ·simp only [beq_self_eq_true, if_true]; omega
   ·rw [if_neg (show ¬ decide ((n : Int) ∈ c.xs) = true by simpa using hx)]
    omega
 exact key 64 (Nat.le_refl _)
theorem victim (hk : CK c) (h : At c st) (ho : NoOpen st) (hr : cntH st.hs 0 + cntH st.hs 3 = 1 + c.S) : ∃ k : Nat, (k : Int) ∈ c.xs ∧ hAt st.hs (k : Int) = some 1 ∧ st.cn k < c.np := by
 refine Classical.byContradiction (fun hno => ?_)
 have hlow := usum_low (u := fun k => st.hs.getD k none == some 1) (f := fun k => cnum (onP st.at' st.has k) c.M) (P := c.np) 64 (fun k hk64 hu => by
  have h1 : hAt st.hs (k : Int) = some 1 := by rw [hAt_nat st.hs k hk64]; simpa using hu
  have hx := hs_in h.pol.none_ h1
  obtain ⟨k', e, -, hkn⟩ := xs_nat hx
  have hon := h.cor.wf.pi.on k (by omega)
  by_cases e2 : st.cn k < c.np
  ·exact absurd ⟨k, hx, h1, e2⟩ hno
  ·unfold FT.cn at e2
   rw [hon] at e2
   omega)
 have hup := usum_on (u := fun k => st.hs.getD k none == some 1) (at' := st.at') (has := st.has) c.M 64
 have hct := xs_le hk.nb h.pol ho
 have hM := hk.ok
 unfold FC.ok cap at hM
 have hlen : (usb ((c.nb : Int)).toNat c.bad).length = c.xs.length := by rw [Int.toNat_natCast]; rfl
 rw [hlen] at hM
 have e1 : cnum (fun k => st.hs.getD k none == some 1) 64 = cntH st.hs 1 := rfl
 rw [e1] at hlow
 have h1 : (c.np : Int) * ((c.xs.length : Int) - c.S - 1) ≤ (c.np : Int) * (cntH st.hs 1 : Int) := Int.mul_le_mul_of_nonneg_left (by omega) (by omega)
 have h2 : ((c.np * cntH st.hs 1 : Nat) : Int) = (c.np : Int) * (cntH st.hs 1 : Int) := by simp
 have h3 : c.np * cntH st.hs 1 ≤ c.M := Nat.le_trans hlow hup
 omega
theorem live_of (hp : Pol c st ex) {k v : Nat} (h : hAt st.hs (k : Int) = some v) (hv : v ≠ 3) : (st.N.blk k).failed = false := by
 cases e : (st.N.blk k).failed with
 | false => rfl
 | true =>
  have := (hp.dead k (hs_in hp.none_ h)).2 e
  rw [h] at this
  injection this with this
  exact absurd this hv
theorem At.num (h : At c st) {n : Nat} (hn : st.seq ≤ n) : At c { st with seq := n } :=
 ⟨⟨h.cor.wf.num n, h.cor.on, h.cor.bytes, h.cor.good, h.cor.cf, fun i hi x hx => Nat.le_trans (h.cor.num i hi x hx) hn⟩, ⟨h.pol.hl, h.pol.pool, h.pol.none_, h.pol.dead, h.pol.free, h.pol.used, h.pol.opn, h.pol.one⟩, h.cap, h.room⟩
theorem AOk.later {N : NA} {c0 : Nat → Option (Int × Fo)} {s s' : Nat} (h : AOk c N c0 s) (hs : s ≤ s') : AOk c N c0 s' := h.same hs rfl rfl (fun _ => ⟨rfl, rfl⟩) (fun _ => id) h.er
theorem how_open {s : FT} {b : Nat} (hl : s.hs.length = 64) (hb : b < 64) (hu : hAt s.hs (b : Int) = some 0) : hAt (s.how c b 2).hs (b : Int) = some 2 := by
 rw [how_at hl hb hu (fun e => by cases e), if_pos rfl]
theorem no_fOpen (ho : NoOpen st) : fOpen c.xs st.hs = none := fOpen_no (fun x hx => by
 obtain ⟨k, rfl, -⟩ := xs_nat hx
 exact ho k)
/-- What collecting comes to. -/
def ColO (c : FC) (st : FT) (n : Nat) (R : FT × Int) : Prop :=
 (R.2 = 0 ∧ At c R.1 ∧ Vof (cF R.1) = Vof (cF st) ∧ st.N.fence ≤ c.ep ∧ R.1.N.fence = st.N.fence ∧ R.1.seq ≤ st.seq + n ∧ ((NoOpen R.1 ∧ 2 + c.S ≤ cntH R.1.hs 0 + cntH R.1.hs 3) ∨ ∃ b : Nat, (b : Int) ∈ c.xs ∧ hAt R.1.hs (b : Int) = some 2 ∧ (R.1.N.blk b).pages.length < c.np)) ∨
 (R.2 = 7 ∧ (c.ep : Int) < st.N.fence ∧ At c R.1 ∧ R.1.N = st.N ∧ Vof (cF R.1) = Vof (cF st) ∧ R.1.seq ≤ st.seq + n) ∨
 (R.2 = 9 ∧ Fell c R.1.N (fun D => D = Vof (cF st)) (st.seq + n)) ∨
 (R.2 = 10 ∧ At c R.1 ∧ Vof (cF R.1) = Vof (cF st) ∧ c.S < cntH R.1.hs 3 ∧ R.1.N.fence = st.N.fence ∧ st.N.fence ≤ c.ep ∧ R.1.seq ≤ st.seq + n)
set_option maxHeartbeats 2000000 in
/-- Behind the copying: the block that was copied is erased, the other one is open. -/
theorem end_law (hk : CK c) {v d n : Nat} {st1 : FT} (h : Cpy c st1 v d) (hc0 : st1.cn v ≤ 0) (ho : NoOpen st1) (hr : 1 + c.S ≤ cntH st1.hs 0 + cntH st1.hs 3) (hV : Vof (cF st1) = Vof (cF st)) (hfe : st.N.fence ≤ c.ep) (hf1 : st1.N.fence = st.N.fence) (hs : st1.seq ≤ st.seq + n) : ∃ R, colEnd c v (some (st1, 0, d)) = some R ∧ ColO c st n R := by
 have hnb := hk.nb
 obtain ⟨v', ev, v2, vn⟩ := xs_nat h.vin
 obtain ⟨d', ed, d2, dn⟩ := xs_nat h.din
 have hv64 : v < 64 := by omega
 have hd64 : d < 64 := by omega
 have hdv : (d : Int) ≠ (v : Int) := by have := h.ne; omega
 unfold colEnd
 simp only
 rw [if_neg (by simp)]
 have hfw := h.cor.wf.erase v (by omega) hc0
 have hfd := live_of h.pol h.hv (by omega)
 rcases h.cor.erase h.vin hc0 with ⟨e, hf⟩ | ⟨hf, N', hr', hcF, hcase⟩
 ·omega
 ·have hfew := h.few
  have hkd : (N'.blk d).pages.length < c.np := by
   rw [hr'.other d h.ne]
   have := h.cor.wf.pi.on v (by omega)
   unfold FT.cn at hfew
   omega
  have hhd : (N'.blk d).half = false := by rw [hr'.other d h.ne]; exact h.dh
  rcases hcase with ⟨e, hcor, hway, hpg, hhf, hfl, hdd, hL⟩ | ⟨e, hcor, hway, hfl, hdd, hsn, hL, hpg, hhf⟩ | ⟨e, ha1, hoff, ⟨dd', hway⟩, hsn, hfl, hL, hpg, hhf⟩
  ·rw [e]
   simp only
   rw [if_neg (by simp)]
   refine ⟨_, rfl, .inl ?_⟩
   have P1 := h.pol.to_free (N' := N') hv64 h.hv (by omega) hr' hpg hhf hfl hL
   have hat := how_at0 (c := c) (s := { st1 with N := N' }) (v := 0) h.pol.hl hv64 h.hv (fun x => by cases x) (by omega)
   have hd0 : hAt (({ st1 with N := N' } : FT).how c v 0).hs (d : Int) = some 0 := by rw [hat, if_neg hdv]; exact h.hd
   have hno : NoOpen (({ st1 with N := N' } : FT).how c v 0) := fun i => by
    rw [hat]
    split
    ·simp
    ·exact ho i
   have P2 := P1.to_open hd64 hd0 hno hhd (fun _ => hkd)
   have c1 := fun w => how_cnt (c := c) (st := ({ st1 with N := N' } : FT)) (v := 0) (w := w) h.pol.hl hv64 h.hv (fun x => by cases x) (.inl (by omega))
   have c2 := fun w => how_cnt (c := c) (st := (({ st1 with N := N' } : FT).how c v 0)) (v := 2) (w := w) P1.hl hd64 hd0 (fun x => by cases x) (.inr (no_fOpen hno))
   have c10 := c1 0
   have c13 := c1 3
   have c20 := c2 0
   have c23 := c2 3
   simp at c10 c13 c20 c23
   have hcap := cap_rest h.cap hr' (by rw [hpg]; exact Nat.zero_le _)
   refine ⟨rfl, ⟨(hcor.how v 0).how d 2, P2.mono (fun i hi h0 x => absurd x.1 x.2), hcap, by dsimp only; omega⟩, ?_, hfe, hr'.fence.trans hf1, hs, .inr ⟨d, h.din, how_open P1.hl hd64 hd0, hkd⟩⟩
   show Vof (cF { st1 with N := N' }) = _
   rw [hcF]; exact hV
  ·rw [e]
   simp only
   rw [if_neg (by simp)]
   refine ⟨_, rfl, .inl ?_⟩
   have P1 := h.pol.to_dead (N' := N') (sq := st1.seq) hv64 h.hv hr' hfl hL
   have hat := how_at0 (c := c) (s := { st1 with N := N' }) (v := 3) h.pol.hl hv64 h.hv (fun _ => rfl) (by omega)
   have hd0 : hAt (({ st1 with N := N' } : FT).how c v 3).hs (d : Int) = some 0 := by rw [hat, if_neg hdv]; exact h.hd
   have hno : NoOpen (({ st1 with N := N' } : FT).how c v 3) := fun i => by
    rw [hat]
    split
    ·simp
    ·exact ho i
   have P2 := P1.to_open hd64 hd0 hno hhd (fun _ => hkd)
   have c1 := fun w => how_cnt (c := c) (st := ({ st1 with N := N' } : FT)) (v := 3) (w := w) h.pol.hl hv64 h.hv (fun _ => rfl) (.inl (by omega))
   have c2 := fun w => how_cnt (c := c) (st := (({ st1 with N := N' } : FT).how c v 3)) (v := 2) (w := w) P1.hl hd64 hd0 (fun x => by cases x) (.inr (no_fOpen hno))
   have c10 := c1 0
   have c13 := c1 3
   have c20 := c2 0
   have c23 := c2 3
   simp at c10 c13 c20 c23
   have hcap := cap_rest h.cap hr' (by rw [hpg]; exact h.cap v)
   refine ⟨rfl, ⟨(hcor.how v 3).how d 2, P2.mono (fun i hi h0 x => absurd x.1 x.2), hcap, by dsimp only; omega⟩, ?_, hfe, hr'.fence.trans hf1, hs, .inr ⟨d, h.din, how_open P1.hl hd64 hd0, hkd⟩⟩
   show Vof (cF { st1 with N := N' }) = _
   rw [hcF]; exact hV
  ·rw [e]
   simp only
   rw [if_pos (by simp)]
   rw [e] at hfw
   refine ⟨_, rfl, .inr (.inr (.inl ⟨rfl, hoff, fun cut => ⟨cF st1, ?_, hV⟩⟩))⟩
   exact ((h.aok hnb hr).cut_erase hnb h.vin (cn0_none h.cor hc0) hfd hr' hway hhf hpg hfl (fun i => hfw.er i) cut).later hs
set_option maxHeartbeats 2000000 in
theorem collect_law (hk : CK c) (h : At c st) (ho : NoOpen st) (hr : cntH st.hs 0 + cntH st.hs 3 = 1 + c.S) (hd : cntH st.hs 3 ≤ c.S) (n : Nat) (hn : 100 ≤ n) (hs : st.seq + n ≤ 281474976710000) : ∃ R, collectG c n st = some R ∧ ColO c st n R := by
 have hnb := hk.nb
 obtain ⟨k, kx, k1, kc⟩ := victim hk h ho hr
 have hlc := h.cor.wf.pi.lc
 have hb := bestF_spec st.hs st.cnt 1 c.xs (fun x hx => by
  obtain ⟨j, rfl, -, hj⟩ := xs_nat hx
  omega)
 cases hbf : bestF st.hs st.cnt 1 c.xs with
 | none => exact absurd (by rw [k1]; rfl) (hb.2 hbf (k : Int) kx)
 | some V =>
  obtain ⟨b1, b2, b3⟩ := hb.1 V hbf
  obtain ⟨v, rfl, v2, vn⟩ := xs_nat b1
  have hv64 : v < 64 := by omega
  have hv : hAt st.hs (v : Int) = some 1 := by
   obtain ⟨u, -, hu⟩ := h.pol.pool v b1
   rw [hu] at b2 ⊢
   simp at b2
   rw [b2]
  have hcv : st.cn v < c.np := by
   have := b3 (k : Int) kx (by rw [k1]; rfl)
   rw [Int.toNat_natCast, Int.toNat_natCast] at this
   unfold FT.cn at kc ⊢
   omega
  have hcv0 : 0 ≤ st.cn v := by
   have := h.cor.wf.pi.on v vn
   unfold FT.cn
   omega
  have hfd := live_of h.pol hv (by omega)
  unfold collectG
  rw [hbf]
  unfold colFr
  simp only [Int.toNat_natCast]
  by_cases h0 : st.cn v = 0
  ·rw [if_pos h0]
   refine ⟨_, rfl, ?_⟩
   have hfw := h.cor.wf.erase v vn (by omega)
   rcases h.cor.erase b1 (by omega) with ⟨e, hf⟩ | ⟨hf, N', hr', hcF, hcase⟩
   ·rw [e]
    exact .inr (.inl ⟨rfl, hf, h, rfl, rfl, by show st.seq ≤ _; omega⟩)
   ·rcases hcase with ⟨e, hcor, hway, hpg, hhf, hfl, hdd, hL⟩ | ⟨e, hcor, hway, hfl, hdd, hsn, hL, hpg, hhf⟩ | ⟨e, ha1, hoff, ⟨dd', hway⟩, hsn, hfl, hL, hpg, hhf⟩
    ·rw [e]
     have P1 := h.pol.to_free (N' := N') hv64 hv (by omega) hr' hpg hhf hfl hL
     have hat := how_at0 (c := c) (s := { st with N := N' }) (v := 0) h.pol.hl hv64 hv (fun x => by cases x) (by omega)
     have hno : NoOpen (({ st with N := N' } : FT).how c v 0) := fun i => by
      rw [hat]
      split
      ·simp
      ·exact ho i
     have c1 := fun w => how_cnt (c := c) (st := ({ st with N := N' } : FT)) (v := 0) (w := w) h.pol.hl hv64 hv (fun x => by cases x) (.inl (by omega))
     have c10 := c1 0
     have c13 := c1 3
     simp at c10 c13
     have hcap := cap_rest h.cap hr' (show (N'.blk v).pages.length ≤ c.np by rw [hpg]; exact Nat.zero_le _)
     refine .inl ⟨rfl, ⟨hcor.how v 0, P1, hcap, by dsimp only; omega⟩, ?_, hf, hr'.fence, by show st.seq ≤ _; omega, .inl ⟨hno, by dsimp only; omega⟩⟩
     show Vof (cF { st with N := N' }) = _
     rw [hcF]
    ·rw [e]
     have P1 := h.pol.to_dead (N' := N') (sq := st.seq) hv64 hv hr' hfl hL
     have hat := how_at0 (c := c) (s := { st with N := N' }) (v := 3) h.pol.hl hv64 hv (fun _ => rfl) (by omega)
     have hno : NoOpen (({ st with N := N' } : FT).how c v 3) := fun i => by
      rw [hat]
      split
      ·simp
      ·exact ho i
     have c1 := fun w => how_cnt (c := c) (st := ({ st with N := N' } : FT)) (v := 3) (w := w) h.pol.hl hv64 hv (fun _ => rfl) (.inl (by omega))
     have c10 := c1 0
     have c13 := c1 3
     simp at c10 c13
     have hcap := cap_rest h.cap hr' (show (N'.blk v).pages.length ≤ c.np by rw [hpg]; exact h.cap v)
     refine .inl ⟨rfl, ⟨hcor.how v 3, P1, hcap, by dsimp only; omega⟩, ?_, hf, hr'.fence, by show st.seq ≤ _; omega, .inl ⟨hno, by dsimp only; omega⟩⟩
     show Vof (cF { st with N := N' }) = _
     rw [hcF]
    ·rw [e] at hfw ⊢
     refine .inr (.inr (.inl ⟨rfl, hoff, fun cut => ⟨cF st, ?_, rfl⟩⟩))
     exact ((h.aok hnb).cut_erase hnb b1 (cn0_none h.cor (by omega)) hfd hr' hway hhf hpg hfl (fun i => hfw.er i) cut).later (by omega)
  ·rw [if_neg h0]
   cases hfr : freeF c st with
   | none =>
    have := free_none h.pol hfr
    omega
   | some D =>
    obtain ⟨d, rfl, -, -, dx, d0⟩ := (free_spec h.pol).1 D hfr
    unfold colT
    simp only [Int.toNat_natCast]
    rw [if_neg (by omega)]
    have hC := Cpy.start h.cor h.pol h.cap b1 dx hv d0 hcv
    have h64 := cntH_le0 st.hs 0
    obtain ⟨r, hr1, hr2⟩ := copy_law hk n st d hC ho (by omega) hs (by have := hk.np.2; omega)
    rw [hr1]
    obtain ⟨r1, r2, r3⟩ := r
    rcases hr2 with ⟨g0, g1, g2, g3, g4, g5, g6, g7, g8⟩ | ⟨g0, g1, g2⟩ | ⟨g0, g1⟩ | ⟨g0, g1, g2, g3, g4, g5, g6, g7⟩
    ·have g0 : r2 = 0 := g0
     subst g0
     exact end_law hk g1 g2 g3 g4 g5 (by omega) g7 g8
    ·have g0 : r2 = 7 := g0
     have g2 : r1 = { st with seq := st.seq + 1 } := g2
     subst g0
     subst g2
     unfold colEnd
     simp only
     rw [if_pos (by simp)]
     exact ⟨_, rfl, .inr (.inl ⟨rfl, g1, h.num (Nat.le_succ _), rfl, rfl, by show st.seq + 1 ≤ _; omega⟩)⟩
    ·have g0 : r2 = 9 := g0
     subst g0
     unfold colEnd
     simp only
     rw [if_pos (by simp)]
     exact ⟨_, rfl, .inr (.inr (.inl ⟨rfl, g1⟩))⟩
    ·have g0 : r2 = 10 := g0
     subst g0
     unfold colEnd
     simp only
     rw [if_pos (by simp)]
     exact ⟨_, rfl, .inr (.inr (.inr ⟨rfl, g1, g3, g4, g5, g6, g7⟩))⟩
end
end Go.Proofs.Ytpcbpljdiacbmaa.Ftl

set_option linter.unusedVariables false
set_option linter.unusedSimpArgs false
namespace Go.Proofs.Ytpcbpljdiacbmaa.Ftl
open Go.RowKit Go.Proofs.Ytpcbpljdiacbmaa.Kit Go.Proofs.Ytpcbpljdiacbmaa.Oct Go.Proofs.Ytpcbpljdiacbmaa.Sheet Go.Proofs.Ytpcbpljdiacbmaa.Nand Go.Proofs.Ytpcbpljdiacbmaa.Plan Go.Proofs.Ytpcbpljdiacbmaa.Scan Go.Proofs.Ytpcbpljdiacbmaa.Pmap Go.Proofs.Ytpcbpljdiacbmaa.Pool

/-! Room for a page; a page is written: as plain data. -/
section
variable {c : FC} {st : FT} {ex ex' : Nat → Prop}
theorem fOpen_at (hp : Pol c st ex) {b : Nat} (hb : hAt st.hs (b : Int) = some 2) : fOpen c.xs st.hs = some (b : Int) := by
 cases ho : fOpen c.xs st.hs with
 | none => exact absurd hb (fOpen_none ho _ (hs_in hp.none_ hb))
 | some x =>
  obtain ⟨h1, h2⟩ := fOpen_mem _ _ _ ho
  obtain ⟨k, rfl, -⟩ := xs_nat h1
  rw [hp.one k b h2 hb]
/-- What making room comes to. -/
def RmO (c : FC) (st : FT) (m : Nat) (r : FT × Nat × Int) : Prop :=
 (r.2.2 = 0 ∧ At c r.1 ∧ Vof (cF r.1) = Vof (cF st) ∧ hAt r.1.hs ((r.2.1 : Nat) : Int) = some 2 ∧ (r.1.N.blk r.2.1).pages.length < c.np ∧ r.1.N.fence = st.N.fence ∧ (st.N.fence ≤ c.ep ∨ r.1.N = st.N) ∧ r.1.seq ≤ st.seq + m) ∨
 (r.2.2 = 7 ∧ (c.ep : Int) < st.N.fence ∧ At c r.1 ∧ r.1.N = st.N ∧ Vof (cF r.1) = Vof (cF st) ∧ r.1.seq ≤ st.seq + m) ∨
 (r.2.2 = 9 ∧ Fell c r.1.N (fun D => D = Vof (cF st)) (st.seq + m)) ∨
 (r.2.2 = 10 ∧ At c r.1 ∧ Vof (cF r.1) = Vof (cF st) ∧ c.S < cntH r.1.hs 3 ∧ r.1.N.fence = st.N.fence ∧ (st.N.fence ≤ c.ep ∨ r.1.N = st.N) ∧ r.1.seq ≤ st.seq + m)
/-- A free block is opened. -/
theorem open_half (hk : CK c) (h : At c st) (ho : NoOpen st) (hd : ¬ c.S < cntH st.hs 3) (hr : 1 + c.S < cntH st.hs 0 + cntH st.hs 3) (m k : Nat) : ∃ d : Nat, halfG c m (k + 1) st = some (st.how c d 2, d, 0) ∧ At c (st.how c d 2) ∧ hAt (st.how c d 2).hs (d : Int) = some 2 ∧ (st.N.blk d).pages.length < c.np := by
 cases hf : freeF c st with
 | none =>
  have := free_none h.pol hf
  omega
 | some D =>
  obtain ⟨d, rfl, d2, dn, dx, d0⟩ := (free_spec h.pol).1 D hf
  have hd64 : d < 64 := by have := hk.nb; omega
  obtain ⟨p1, p2⟩ := h.pol.free d dx d0 (fun x => x)
  have hpn : (st.N.blk d).pages.length < c.np := by rw [p1]; have := hk.np.1; show 0 < c.np; omega
  have P := h.pol.to_open hd64 d0 ho p2 (fun _ => hpn)
  have h2 := how_open (c := c) h.pol.hl hd64 d0
  have c2 := fun w => how_cnt (c := c) (st := st) (v := 2) (w := w) h.pol.hl hd64 d0 (fun x => by cases x) (.inr (no_fOpen ho))
  have c20 := c2 0
  have c23 := c2 3
  simp at c20 c23
  have hA : At c (st.how c d 2) := ⟨h.cor.how d 2, P.mono (fun i hi h0 x => x.1.elim), h.cap, by omega⟩
  refine ⟨d, ?_, hA, h2, hpn⟩
  unfold halfG
  rw [if_neg hd, if_pos hr, hf, Option.getD_some, Int.toNat_natCast]
  exact roomG_room (fOpen_at hA.pol h2) hpn
theorem half_law (hk : CK c) (h : At c st) (ho : NoOpen st) (m k : Nat) (hm : 100 ≤ m) (hs : st.seq + m ≤ 281474976710000) : ∃ r, halfG c m (k + 2) st = some r ∧ RmO c st m r := by
 by_cases hd : c.S < cntH st.hs 3
 ·refine ⟨(st, 0, 10), ?_, .inr (.inr (.inr ⟨rfl, h, rfl, hd, rfl, .inr rfl, by show st.seq ≤ _; omega⟩))⟩
  unfold halfG
  rw [if_pos hd]
 ·by_cases hr : 1 + c.S < cntH st.hs 0 + cntH st.hs 3
  ·obtain ⟨d, h1, h2, h3, h4⟩ := open_half hk h ho hd hr m (k + 1)
   exact ⟨_, h1, .inl ⟨rfl, h2, rfl, h3, h4, rfl, .inr rfl, by show st.seq ≤ _; omega⟩⟩
  ·have hrm := h.room
   obtain ⟨R, hR1, hR2⟩ := collect_law hk h ho (by omega) (by omega) m hm hs
   have hu : halfG c m (k + 2) st = if R.2 ≠ 0 then some (R.1, 0, R.2) else roomG c m (k + 2) R.1 := by
    unfold halfG
    rw [if_neg hd, if_neg hr, hR1]
   rcases hR2 with ⟨g0, g1, g2, g3, g4, g5, g6⟩ | ⟨g0, g1, g2, g3, g4, g5⟩ | ⟨g0, g1⟩ | ⟨g0, g1, g2, g3, g4, g5, g6⟩
   ·rw [hu, if_neg (by simp [g0])]
    rcases g6 with ⟨n1, n2⟩ | ⟨b, b1, b2, b3⟩
    ·rw [roomG_none (no_fOpen n1)]
     by_cases hd' : c.S < cntH R.1.hs 3
     ·refine ⟨(R.1, 0, 10), ?_, .inr (.inr (.inr ⟨rfl, g1, g2, hd', g4, .inl g3, g5⟩))⟩
      unfold halfG
      rw [if_pos hd']
     ·obtain ⟨d, h1, h2, h3, h4⟩ := open_half hk g1 n1 hd' (by omega) m k
      exact ⟨_, h1, .inl ⟨rfl, h2, g2, h3, h4, g4, .inl g3, g5⟩⟩
    ·exact ⟨_, roomG_room (fOpen_at g1.pol b2) b3, .inl ⟨rfl, g1, g2, b2, b3, g4, .inl g3, g5⟩⟩
   ·rw [hu, if_pos (by rw [g0]; decide)]
    exact ⟨_, rfl, .inr (.inl ⟨g0, g1, g2, g3, g4, g5⟩)⟩
   ·rw [hu, if_pos (by rw [g0]; decide)]
    exact ⟨_, rfl, .inr (.inr (.inl ⟨g0, g1⟩))⟩
   ·rw [hu, if_pos (by rw [g0]; decide)]
    exact ⟨_, rfl, .inr (.inr (.inr ⟨g0, g1, g2, g3, g4, .inl g5, g6⟩))⟩
theorem room_law (hk : CK c) (h : At c st) (m k : Nat) (hm : 100 ≤ m) (hs : st.seq + m ≤ 281474976710000) : ∃ r, roomG c m (k + 3) st = some r ∧ RmO c st m r := by
 cases ho : fOpen c.xs st.hs with
 | none =>
  rw [roomG_none ho]
  refine half_law hk h (fun i hi => ?_) m k hm hs
  exact fOpen_none ho _ (hs_in h.pol.none_ hi) hi
 | some x =>
  obtain ⟨h1, h2⟩ := fOpen_mem _ _ _ ho
  obtain ⟨b, rfl, b2, bn⟩ := xs_nat h1
  by_cases hp : (st.N.blk b).pages.length < c.np
  ·exact ⟨_, roomG_room ho hp, .inl ⟨rfl, h, rfl, h2, hp, rfl, .inr rfl, by show st.seq ≤ _; omega⟩⟩
  ·have hb64 : b < 64 := by have := hk.nb; omega
   obtain ⟨P, hno⟩ := h.pol.to_used hb64 h2 (fun hc => hp ((h.pol.opn b h1 h2).2 hc))
   have c1 := fun w => how_cnt (c := c) (st := st) (v := 1) (w := w) h.pol.hl hb64 h2 (fun x => by cases x) (.inl (by omega))
   have c10 := c1 0
   have c13 := c1 3
   simp at c10 c13
   have hA : At c (st.how c b 1) := ⟨h.cor.how b 1, P, h.cap, by have := h.room; omega⟩
   obtain ⟨r, hr1, hr2⟩ := half_law hk hA hno m k hm hs
   exact ⟨r, by rw [roomG_full ho hp]; exact hr1, hr2⟩
def updV (D : Nat → Option (List Int)) (a : Nat) (ys : List Int) : Nat → Option (List Int) := fun n => if n = a then some ys else D n
/-- What writing a page comes to. -/
def PutO (c : FC) (st : FT) (n a : Nat) (ys : List Int) (R : FT × Int) : Prop :=
 (R.2 = 0 ∧ At c R.1 ∧ Vof (cF R.1) = updV (Vof (cF st)) a ys ∧ R.1.N.fence = st.N.fence ∧ st.N.fence ≤ c.ep ∧ R.1.seq ≤ st.seq + n) ∨
 (R.2 = 7 ∧ (c.ep : Int) < st.N.fence ∧ At c R.1 ∧ R.1.N = st.N ∧ Vof (cF R.1) = Vof (cF st) ∧ R.1.seq ≤ st.seq + n) ∨
 (R.2 = 9 ∧ Fell c R.1.N (fun D => D = Vof (cF st) ∨ D = updV (Vof (cF st)) a ys) (st.seq + n)) ∨
 (R.2 = 10 ∧ At c R.1 ∧ Vof (cF R.1) = Vof (cF st) ∧ c.S < cntH R.1.hs 3 ∧ R.1.N.fence = st.N.fence ∧ R.1.seq ≤ st.seq + n)
theorem Fell.mono {N' : NA} {P P' : (Nat → Option (List Int)) → Prop} {s s' : Nat} (h : Fell c N' P s) (hP : ∀ D, P D → P' D) (hs : s ≤ s') : Fell c N' P' s' :=
 ⟨h.1, fun cut => by
  obtain ⟨c2, h1, h2⟩ := h.2 cut
  exact ⟨c2, h1.later hs, hP _ h2⟩⟩
set_option maxHeartbeats 2000000 in
theorem put_law (hk : CK c) (m k K a : Nat) (ys : List Int) (hm : 100 ≤ m) (ha : a < c.M) (hK : K = 1 ∨ K = 2) (hy : ys.length ≤ 64) (hy1 : K = 1 ∨ ys.length = 0) (hB : IsB ys) (n : Nat) : ∀ st : FT, At c st → st.seq + n * (m + 1) ≤ 281474976710000 → 64 < n + cntH st.hs 3 → ∃ R, putG c m (k + 3) n st K a ys = some R ∧ PutO c st (n * (m + 1)) a ys R := by
 induction n with
 | zero =>
  intro st h _ hn
  have := cntH_le0 st.hs 3
  omega
 | succ n ih =>
  intro st h hs hn
  rw [Nat.succ_mul] at hs
  have hN : (n + 1) * (m + 1) = n * (m + 1) + (m + 1) := Nat.succ_mul _ _
  generalize n * (m + 1) = Z at hs hN ih
  rw [hN]
  obtain ⟨r, hr1, hr2⟩ := room_law hk h m k hm (by omega)
  obtain ⟨st1, b, z⟩ := r
  conv => enter [1, R, 1, 1]; unfold putG
  rw [hr1]
  simp only
  rcases hr2 with ⟨g0, g1, g2, g3, g4, g5, g6, g7⟩ | ⟨g0, g1, g2, g3, g4, g5⟩ | ⟨g0, g1⟩ | ⟨g0, g1, g2, g3, g4, g5, g6⟩
  ·have g0 : z = 0 := g0
   subst g0
   have g1 : At c st1 := g1
   have g2 : Vof (cF st1) = Vof (cF st) := g2
   have g3 : hAt st1.hs (b : Int) = some 2 := g3
   have g4 : (st1.N.blk b).pages.length < c.np := g4
   have g5 : st1.N.fence = st.N.fence := g5
   have g6 : st.N.fence ≤ c.ep ∨ st1.N = st.N := g6
   have g7 : st1.seq ≤ st.seq + m := g7
   rw [if_neg (by simp), if_neg (by omega)]
   have hbx := hs_in g1.pol.none_ g3
   obtain ⟨b', eb, b2, bn⟩ := xs_nat hbx
   have hnb := hk.nb
   have hb64 : b < 64 := by omega
   have hbn : b < c.nb := by omega
   have hopn := g1.pol.opn b hbx g3
   have hfd := live_of g1.pol g3 (by omega)
   obtain ⟨p, hp⟩ : ∃ p : Pg, p = ⟨K, c.ep, st1.seq + 1, a, 0, ys⟩ := ⟨_, rfl⟩
   have hM16 := hk.M16
   have hokp : p.ok := by
    rw [hp]
    exact ⟨by rcases hK with rfl | rfl <;> simp, by rcases hK with rfl | rfl <;> simp, hk.ep.2, by show st1.seq + 1 < _; omega, by show a < _; omega, by show 0 ≤ 64; omega, hy, hy1, hB⟩
   have hpa : p.a = a := by rw [hp]
   have hpS : p.S = st1.seq + 1 := by rw [hp]
   have hpf : p.f = 0 := by rw [hp]
   have hpy : p.ys = ys := by rw [hp]
   have hpK : p.K ≠ 3 := by rw [hp]; rcases hK with rfl | rfl <;> simp
   have hp96 : p.bytes.length = 96 := by rw [hp]; exact page_len _ _ _ _ _ _ hy
   have hfw := g1.cor.wf.program b hbn hk.np.2 K a 0 ys ha
   have hg := g1.cor.good_write (k := (st1.N.blk b).pages.length) hbx hfd hpf hpS
   rw [hpa] at hg
   have hV : Vof (updC (cF st1) a ((b : Int), ((st1.N.blk b).pages.length, p))) = updV (Vof (cF st)) a ys := by
    funext j
    rw [Vof_upd]
    unfold updV
    rw [g2, hpy]
   rcases g1.cor.prog (f := 0) (a := a) (K := K) (ys := ys) hbx hopn.1 g4 hk.np.2 p hp hokp (by rcases hK with rfl | rfl <;> simp) ha with ⟨hP, hf⟩ | ⟨hf, N', hr', hh', hcase⟩
   ·rw [hP, if_pos (by simp)]
    refine ⟨_, rfl, .inr (.inl ⟨rfl, by omega, g1.num (Nat.le_succ _), ?_, g2, by show st1.seq + 1 ≤ _; omega⟩)⟩
    exact g6.resolve_left (by omega)
   ·rcases hcase with ⟨hP, ha1, hoff, ⟨dd', hway⟩, hpg, hfl⟩ | ⟨hP, hcor, hway, hfl, hdd, hpl, hL, hcF⟩ | ⟨hP, hon, hway, hpg, hfl, hdd, hfw', hL, hcF⟩
    ·rw [hP, if_pos (by simp)]
     rw [hP] at hfw
     refine ⟨_, rfl, .inr (.inr (.inl ⟨rfl, hoff, fun cut => ?_⟩))⟩
     have hfl2 : FewL c.xs c.S (fun i => (st1.N.blk i).failed) (putL (L0 c st1.N) (b : Int) ((st1.N.blk b).pages.length, p)) := FewL.pool (e := -1) hnb g1.room g1.pol.none_ (fun x => absurd x (fun y => by have := xs_64 hnb _ y; omega)) (fun i hi h0 _ => by
      have hib : (i : Int) ≠ (b : Int) := fun e => by
       rw [e, g3] at h0; cases h0
      rw [putL_other _ hib]
      exact L0_nil (.inl (g1.pol.free i hi h0 (fun x => x)).1)) (fun i hi h3 => (g1.pol.dead i hi).1 h3)
     rcases (g1.aok hnb).cut_prog (c1 := updC (cF st1) a ((b : Int), ((st1.N.blk b).pages.length, p))) (s' := st.seq + (Z + (m + 1))) hbx hr' hway hopn.1 hh' hpg hfl (fun i => hfw.er i) g4 hokp hpK (by rw [hpa]; exact ha) hp96 (by omega) (by omega) (hg.weak (fun _ _ => trivial)) hfl2 cut with g | g
     ·exact ⟨_, g, .inl g2⟩
     ·exact ⟨_, g, .inr hV⟩
    ·rw [hP, if_neg (by simp)]
     have P1 := g1.pol.to_dead (N' := N') (sq := st1.seq + 1) hb64 g3 hr' hfl hL
     have c1 := fun w => how_cnt (c := c) (st := ({ st1 with N := N', seq := st1.seq + 1 } : FT)) (v := 3) (w := w) g1.pol.hl hb64 g3 (fun _ => rfl) (.inl (by omega))
     have c10 := c1 0
     have c13 := c1 3
     simp at c10 c13
     have hrm := g1.room
     have hcap := cap_rest g1.cap hr' (show (N'.blk b).pages.length ≤ c.np by rw [hpl]; omega)
     have hA : At c (({ st1 with N := N', seq := st1.seq + 1 } : FT).how c b 3) := ⟨hcor.how b 3, P1, hcap, by omega⟩
     have hV2 : Vof (cF (({ st1 with N := N', seq := st1.seq + 1 } : FT).how c b 3)) = Vof (cF st) := by
      show Vof (cF { st1 with N := N', seq := st1.seq + 1 }) = _
      rw [hcF]; exact g2
     have hsq : (({ st1 with N := N', seq := st1.seq + 1 } : FT).how c b 3).seq = st1.seq + 1 := rfl
     have hfe : (({ st1 with N := N', seq := st1.seq + 1 } : FT).how c b 3).N.fence = st.N.fence := hr'.fence.trans g5
     have h3le : cntH st.hs 3 ≤ cntH st1.hs 3 := dead_mono h.pol g1.pol (roomG_ops c m (k + 3) st _ hr1)
     obtain ⟨R, q1, q2⟩ := ih _ hA (by rw [hsq]; omega) (by omega)
     refine ⟨R, q1, ?_⟩
     rcases q2 with ⟨k0, k1, k2, k3, k4, k5⟩ | ⟨k0, k1, k2, k3, k4, k5⟩ | ⟨k0, k1⟩ | ⟨k0, k1, k2, k3, k4, k5⟩
     ·exact .inl ⟨k0, k1, by rw [k2, hV2], k3.trans hfe, by rw [← hfe]; exact k4, by omega⟩
     ·rw [hfe] at k1; omega
     ·exact .inr (.inr (.inl ⟨k0, k1.mono (fun D hD => by rw [hV2] at hD; exact hD) (by omega)⟩))
     ·exact .inr (.inr (.inr ⟨k0, k1, k2.trans hV2, k3, k4.trans hfe, by omega⟩))
    ·rw [hP, if_pos (by simp)]
     have hBp : IsB p.bytes := page_isB _ _ _ _ _ hokp.2.2.2.2.2.2.2.2
     have hA : At c (st1.put N' b a) := ⟨g1.cor.put hr' hon hpg hfl hfw' hL hcF hBp hpS ha hg, g1.pol.put_open g1.cor g3 hr' hh' hfl hL hpS hpf, cap_rest g1.cap hr' (show (N'.blk b).pages.length ≤ c.np by rw [hpg, List.length_append, List.length_singleton]; omega), g1.room⟩
     exact ⟨_, rfl, .inl ⟨rfl, hA, by rw [hcF]; exact hV, hr'.fence.trans g5, by omega, by show st1.seq + 1 ≤ _; omega⟩⟩
  ·have g0 : z = 7 := g0
   subst g0
   rw [if_pos (by simp)]
   have g5 : st1.seq ≤ st.seq + m := g5
   exact ⟨_, rfl, .inr (.inl ⟨rfl, g1, g2, g3, g4, by show st1.seq ≤ _; omega⟩)⟩
  ·have g0 : z = 9 := g0
   subst g0
   rw [if_pos (by simp)]
   exact ⟨_, rfl, .inr (.inr (.inl ⟨rfl, g1.mono (fun D hD => .inl hD) (by omega)⟩))⟩
  ·have g0 : z = 10 := g0
   subst g0
   rw [if_pos (by simp)]
   have g6 : st1.seq ≤ st.seq + m := g6
   exact ⟨_, rfl, .inr (.inr (.inr ⟨rfl, g1, g2, g3, g4, by show st1.seq ≤ _; omega⟩))⟩
end
end Go.Proofs.Ytpcbpljdiacbmaa.Ftl
