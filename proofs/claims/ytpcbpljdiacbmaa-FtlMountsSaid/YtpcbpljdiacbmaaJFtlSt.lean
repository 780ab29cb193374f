import Derived.Test.YtpcbpljdiacbmaaJFtlSb
set_option linter.unusedVariables false
set_option linter.unusedSimpArgs false
namespace Go.Proofs.Ytpcbpljdiacbmaa.Ftl
open Go.RowKit Go.Proofs.Ytpcbpljdiacbmaa.Kit Go.Proofs.Ytpcbpljdiacbmaa.Oct Go.Proofs.Ytpcbpljdiacbmaa.Sheet Go.Proofs.Ytpcbpljdiacbmaa.Nand Go.Proofs.Ytpcbpljdiacbmaa.Plan Go.Proofs.Ytpcbpljdiacbmaa.Scan Go.Proofs.Ytpcbpljdiacbmaa.Pmap Go.Proofs.Ytpcbpljdiacbmaa.Pool

/-! An array on which each block is empty or has pages that count. -/
structure SetN (c : FC) (N : NA) (c0 : Nat → Option (Int × Fo)) : Prop where
 good : Good c.xs (fun _ => False) (L0 c N) c0
 each : ∀ i : Nat, (i : Int) ∈ c.xs → (N.blk i).failed = false ∧ ((N.blk i).pages = [] ∨ ∃ a x, c0 a = some ((i : Int), x))
 nc : ∀ a i x, c0 a = some (i, x) → ¬ Cop (L0 c N) i
section
variable {c : FC} {o : FId} {A : Option Addr} {n cc b s a : Nat} {K K' : Nat → Prop} {V w w1 w2 : World} {st : FT} {N N' : NA} {c0 c1 : Nat → Option (Int × Fo)} {D : Nat → Option (List Int)} {R : FT × Int} {fe : Int}
theorem SetN.at (h : SetN c N c0) (e : Nat) : SetN (c.at e) N c0 := ⟨h.good, h.each, h.nc⟩
theorem MI.setN (hk : CK c) (h : MI c c.xs c1 fe st) (hc : CalmN c st.N) : SetN c st.N c1 := by
 have hat := (h.at0 hk).1
 have hg := hat.cor.good
 rw [h.cf] at hg
 refine ⟨⟨hg.here, hg.all, fun i hi x hx j y hy => ?_, fun a i x hx hp => absurd hp (h.nc a i x hx), hg.once, hg.one, hg.out⟩, fun i hi => ?_, h.nc⟩
 ·rcases hg.late i hi x hx j y hy with g | g | ⟨g, -⟩
  ·exact .inl g
  ·exact .inr (.inl g)
  ·exfalso
   obtain ⟨k, rfl, -⟩ := xs_nat hi
   unfold dd at g
   rw [Int.toNat_natCast, (hc.hale k hi).2.2] at g
   cases g
 ·refine ⟨(hc.hale i hi).2.2, ?_⟩
  obtain ⟨-, hd⟩ := h.done i hi
  rcases hd with ⟨hf, -⟩ | ⟨-, hp, -⟩ | ⟨-, hcn, -⟩
  ·rw [(hc.hale i hi).2.2] at hf; cases hf
  ·exact .inl hp
  ·obtain ⟨a, x, hx, -⟩ := h.counted hi hcn
   exact .inr ⟨a, x, hx⟩
theorem mloop_still (c : FC) (q : Nat → Nat) : ∀ (l : List Int) (m : FT × Nat × Int), (∀ i : Nat, (i : Int) ∈ l → (m.1.N.blk i).pages = [] ∨ m.1.cn i ≠ 0) → (∀ x ∈ l, 0 ≤ x) → (mloop c q l m).1.1.N = m.1.N := by
 intro l
 induction l with
 | nil => intro m _ _; rfl
 | cons x l ih =>
  intro m h hx
  obtain ⟨k, rfl⟩ := Int.eq_ofNat_of_zero_le (hx x List.mem_cons_self)
  obtain ⟨s0, nw, op⟩ := m
  have hst : ∃ s' nw' op', mstep c q k (s0, nw, op) = ((s', nw', op'), 0) ∧ s'.N = s0.N ∧ s'.cnt = s0.cnt := by
   by_cases hf : (s0.N.blk k).failed = true
   ·exact ⟨_, _, _, m_failed hf, rfl, rfl⟩
   ·by_cases hp : (s0.N.blk k).pages.length = 0
    ·exact ⟨_, _, _, m_empty hf hp, rfl, rfl⟩
    ·have hc : ¬ s0.cn k = 0 := by
      rcases h k List.mem_cons_self with g | g
      ·have g : (s0.N.blk k).pages = [] := g
       rw [g] at hp
       exact absurd rfl hp
      ·exact g
     exact ⟨_, _, _, m_used hf hp hc, rfl, rfl⟩
  obtain ⟨s', nw', op', e, h1, h2⟩ := hst
  rw [mloop_cons, e, if_neg (by simp)]
  refine (ih (s', nw', op') (fun i hi => ?_) (fun y hy => hx y (List.mem_cons_of_mem _ hy))).trans h1
  have := h i (List.mem_cons_of_mem _ hi)
  show (s'.N.blk i).pages = [] ∨ s'.cn i ≠ 0
  unfold FT.cn
  rw [h1, h2]
  exact this
theorem mountF_still (c : FC) (q : Nat → Nat) (st : FT) (h : ∀ i : Nat, (i : Int) ∈ c.xs → (st.N.blk i).pages = [] ∨ st.cn i ≠ 0) : (mountF c q st).1.N = st.N := by
 have := mloop_still c q c.xs (st, 0, -1) h (fun x hx => by obtain ⟨k, rfl, -⟩ := xs_nat hx; omega)
 unfold mountF
 simp only
 split
 ·exact this
 ·split <;> exact this
/-- What All found on such an array is what was known. -/
theorem SetN.counts (h : SetN c N c0) (hm : MI c [] (cF st) fe st) (hN : st.N = N) (hn : IsNew c.xs (L0 c N) (cF st)) : ∀ i : Nat, (i : Int) ∈ c.xs → (st.N.blk i).pages = [] ∨ st.cn i ≠ 0 := fun i hi => by
 rw [hN]
 rcases (h.each i hi).2 with g | ⟨a, x, hx⟩
 ·exact .inl g
 ·right
  obtain ⟨g1, g2, g3⟩ := h.good.here a _ x hx
  have hnc := h.nc a _ x hx
  cases hc : cF st a with
  | none => exact absurd g3 (hn.none_ a hc _ g1 hnc x g2)
  | some y =>
   obtain ⟨⟨k1, k2, k3, k4⟩, k5⟩ := hn.some_ a y.1 y.2 hc
   have hle := k5 _ g1 hnc x g2 g3
   have hi2 : y.1 = (i : Int) := by
    rcases h.good.late y.1 k1 y.2 k3 _ x (by rw [k4]; exact hx) with ⟨e1, -⟩ | e | ⟨e, -⟩
    ·exact e1
    ·omega
    ·exact e.elim
   obtain ⟨hh, hat, -, -⟩ := cF_some (i := y.1) (x := y.2) hc
   have := hm.wf.cn_pos hh (b := i) (by rw [← hat, hi2])
   omega
theorem mount_new (hk : CK c) (h : AOk c N c0 s) (hon : N.off = false) {L : Int → List Scan.Fd} {at' : List (Int × Int)} {has : List Bool} {cnt : List Int} {FL : List (Int × Scan.Fd)} (hFL : FL = flatF (us c.nb c.bad) (spoilS (us c.nb c.bad) L).1) (hst : st = ⟨N, at', has, cnt, newH (us c.nb c.bad), seqOf (flatF (us c.nb c.bad) L)⟩)
  (hL : (∀ i : Int, i ∉ us c.nb c.bad → L i = []) ∧ ∀ i : Nat, (i : Int) ∈ us c.nb c.bad → (L (i : Int)).map (fun x => (x.k, x.p)) = found ((c.M - 1 : Nat) : Int) (NB.seen (N.blk i)))
  (ht : ∀ a, a < c.M → has.getD a false = (newest (a : Int) FL).isSome ∧ ∀ y, newest (a : Int) FL = some y → at'.getD a (0, 0) = (y.1, (y.2.k : Int))) (hw : FWf c st) : IsNew c.xs (L0 c N) (cF st) := by
 have hM := hk.M
 have hLL : foL L = L0 c N := by
  funext i
  unfold L0
  by_cases hi : i ∈ c.xs
  ·rw [if_pos hi]
   obtain ⟨k, rfl, -⟩ := xs_nat hi
   rw [Int.toNat_natCast, show (c.M : Int) - 1 = ((c.M - 1 : Nat) : Int) by omega]
   exact hL.2 k hi
  ·rw [if_neg hi]
   unfold foL
   rw [hL.1 i hi]
   rfl
 have hN := newC_is (U := c.xs) (L := L) (us_nodup c.nb c.bad) (by rw [hLL]; exact h.good.once)
 rw [hLL] at hN
 have hFLn : ∀ a : Nat, newC c.xs L a = (newest (a : Int) FL).map fun y => (y.1, (y.2.k, y.2.p)) := fun a => by rw [hFL]; rfl
 have hcf : cF st = newC c.xs L := by
  funext a
  by_cases ha : a < c.M
  ·obtain ⟨t1, t2⟩ := ht a ha
   rw [hFLn]
   unfold cF
   have e1 : st.has.getD a false = (newest (a : Int) FL).isSome := by rw [hst]; exact t1
   rw [e1]
   cases hn : newest (a : Int) FL with
   | none => rfl
   | some y =>
    have hy : newC c.xs L a = some (y.1, (y.2.k, y.2.p)) := by rw [hFLn, hn]; rfl
    obtain ⟨⟨-, -, m3, -⟩, -⟩ := hN.some_ a _ _ hy
    obtain ⟨-, -, -, m4, -⟩ := L0_mem m3
    have eat : st.at'.getD a (0, 0) = (y.1, (y.2.k : Int)) := by rw [hst]; exact t2 y hn
    have epg : st.pg a = some y.2.p := by
     unfold FT.pg
     rw [eat]
     simp only [Int.toNat_natCast]
     rw [hst]
     exact m4
    rw [epg, eat]
    simp
  ·have e1 : st.has.getD a false = false := by
    cases e : st.has.getD a false with
    | false => rfl
    | true =>
     have := has_lt e
     rw [hw.pi.lh] at this
     exact absurd this ha
   unfold cF
   rw [e1, if_neg (by simp)]
   cases hn : newC c.xs L a with
   | none => rfl
   | some y =>
    obtain ⟨⟨-, -, m3, m4⟩, -⟩ := hN.some_ a y.1 y.2 hn
    have := (L0_mem m3).2.2.2.2.2
    omega
 rw [← hcf] at hN
 exact hN
/-- It is mounted: nothing is erased where each block is empty or counts. -/
theorem lmount2 (hk : CK c) (hR : Run (fun _ => False) w w1 b N (withA K A) w1) (hKA : ∀ g, K g → ∀ ad, A = some ad → g ≠ ad.block) (hg : Geo w1 c.nb c.np (c.S : Int) A n cc c.bad) (hA : AOk c N c0 s) (hon : N.off = false) (hcm : CalmN c N) :
  Calls Try.prog 16 #[.pointer (some ⟨b, 0, none⟩), .agg #[.int .i64 (c.nb : Int), .int .i64 (c.np : Int), .int .i64 (c.S : Int), .slice A n cc], .int .u64 (c.ep : Int)] w1 fun e w' => ∃ o st, o.ba = b ∧ e = .returned (.tuple #[.pointer (some ⟨o.bf, 0, none⟩), .int .i64 0]) ∧ LF c o A n cc K w1 w w' st ∧ Sound c st (Vof c0) s ∧ SetN c st.N (cF st) ∧ ∀ cx, SetN c N cx → st.N = N := by
 have hR0 := hR
 obtain ⟨F', r1, r2, r3, r4⟩ := hR
 refine (mount_run r1 hA.lb hA.lp hon hA.bytes hA.er A n cc hg (fun ad had => ⟨(r4 _ (.inr ⟨ad, had, rfl⟩)).2.2.1, (r4 _ (.inr ⟨ad, had, rfl⟩)).1⟩) hk.ok hk.M hk.ep.1 hk.ep.2).mono ?_
 rintro e w' ⟨o, L, at', has, cnt, st0, FL, R, q1, q2, q3, q4, q5, q6, q7, q8, q9, q10, q11, q12, q13⟩
 obtain ⟨m1, m2, m3⟩ := mount_start hk hA hon q4 q5 q6 q7 q8
 have hm := mountF_law hk (q := qOf FL) m1
 rw [q9, m2] at hm
 have ho := mountF_ops c (qOf FL) st0
 rw [q9] at ho
 have eN : st0.N = N := by rw [q5]
 rw [eN] at ho
 obtain ⟨g1, g2⟩ := Sound.mount hcm hon hm ho
 refine ⟨o, R.1, q1, q10 g1, mount_lf hR0 hKA (fun g hg => (r2 g hg).resolve_left id) (fun g hg => (r4 g hg).1) q3 q2 q12 q13, ⟨g2.rest, g2.data, Nat.le_trans g2.seq m3, g2.calm⟩, ?_, fun cx hcx => ?_⟩
 ·obtain ⟨st', nw', op', z, h1, h2⟩ := mloop_law hk (q := qOf FL) c.xs [] st0 0 (-1) rfl m1 (.inl rfl)
  have hRe : R = (if z ≠ 0 then (st', z) else if 0 ≤ op' then (st'.how c op'.toNat 2, 0) else (st', 0)) := by
   rw [← q9]
   unfold mountF
   simp only [h1]
  have hz : z = 0 := by
   rcases h2 with ⟨g, -⟩ | ⟨g, -⟩ | ⟨g, -⟩
   ·exact g
   ·rw [hRe, if_pos (by rw [g]; decide)] at g1
    exact g1
   ·rw [hRe, if_pos (by rw [g]; decide)] at g1
    exact g1
  rw [hz, if_neg (by simp)] at hRe
  rcases h2 with ⟨-, h3, -⟩ | ⟨g, -⟩ | ⟨g, -⟩
  ·have hcm' : CalmN c st'.N := by
    have e : R.1.N = st'.N := by
     rw [hRe]
     split <;> rfl
    rw [← e]
    exact g2.calm
   have hset := h3.setN hk hcm'
   have e1 : cF R.1 = cF st' := by
    rw [hRe]
    split <;> rfl
   have e2 : R.1.N = st'.N := by
    rw [hRe]
    split <;> rfl
   rw [e1, e2, h3.cf]
   exact hset
  ·omega
  ·omega
 ·rw [← q9]
  have hnew : IsNew c.xs (L0 c N) (cF st0) := by
   have := mount_new hk hA hon q4 q5 q6 q7 q8
   exact this
  rw [mountF_still c (qOf FL) st0 (hcx.counts m1 eN hnew)]
  exact eN
end
end Go.Proofs.Ytpcbpljdiacbmaa.Ftl
