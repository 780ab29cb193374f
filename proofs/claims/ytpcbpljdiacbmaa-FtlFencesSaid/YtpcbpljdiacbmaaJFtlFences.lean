import Derived.Test.YtpcbpljdiacbmaaJFtlLaw
import Derived.Lib.ConvBytes
import Derived.Deep.DeepCutAuto
set_option linter.unusedVariables false
set_option linter.unusedSimpArgs false
namespace Go.Proofs.Ytpcbpljdiacbmaa.Ftl
open Go.RowKit Go.Proofs.Ytpcbpljdiacbmaa.Kit Go.Proofs.Ytpcbpljdiacbmaa.Oct Go.Proofs.Ytpcbpljdiacbmaa.Sheet Go.Proofs.Ytpcbpljdiacbmaa.Nand Go.Proofs.Ytpcbpljdiacbmaa.Plan Go.Proofs.Ytpcbpljdiacbmaa.Scan Go.Proofs.Ytpcbpljdiacbmaa.Pmap Go.Proofs.Ytpcbpljdiacbmaa.Pool

/-! Strings as bytes; all addresses are full. -/
theorem str_bytes (W : World) (ys : List Int) (hy : IsB ys) (hl : ys.length ≤ 1000) : ∃ (W' : World) (c' : Nat), (convert 9 22 (.string (strOfNums ys))).run Try.prog W = .ok (.slice (some ⟨W.heap.size, 0, none⟩) ys.length c') W' ∧ Below W.heap.size W W' ∧ Nums W' .u8 (some ⟨W.heap.size, 0, none⟩) ys.length ys ∧ W'.heap.size = W.heap.size + 1 := by
 have h := Lib.run_convert_string_bytes (P := Try.prog) W 9 22 5 (strOfNums ys) Try.underlying9 Try.underlying22 Try.underlying5
 rw [strOfNums_size] at h
 refine ⟨_, _, h, ?_, ?_, Lib.bytesWorld_size _ _ _⟩
 ·refine ⟨rfl, rfl, rfl, by rw [Lib.bytesWorld_size]; omega, fun g hg => Lib.bytesWorld_at_old _ _ _ g hg⟩
 ·refine ⟨rfl, by omega, fun j hj => ⟨_, 0, rfl, fun i hi => ?_⟩, wf_of hy⟩
  have hb := hy _ (List.getElem_mem hi)
  have e : (((strOfNums ys).data.toList.getD i 0).toNat : Int) = ys.getD i 0 := by
   rw [strOfNums_data, List.getD_eq_getElem?_getD, List.getElem?_map, List.getElem?_eq_getElem hi, List.getD_eq_getElem?_getD, List.getElem?_eq_getElem hi]
   simp only [Option.map_some, Option.getD_some]
   have h8 : ∀ n : Nat, (UInt8.ofNat n).toNat = n % 256 := fun n => rfl
   rw [h8]
   omega
  rw [Nat.zero_add, Lib.bytesWorld_cell _ _ _ i (by rw [strOfNums_size]; exact hi), e]
section
variable {c : FC} {o : FId} {A : Option Addr} {n cc s a : Nat} {K K' : Nat → Prop} {V w w1 w2 : World} {st : FT} {D : Nat → Option (List Int)}
end
theorem LF.ops {c : FC} {o : FId} {A : Option Addr} {n cc : Nat} {K : Nat → Prop} {V w w1 : World} {st : FT} (h : LF c o A n cc K V w w1 st) :
  Calls Try.prog 19 #[.pointer (some ⟨o.ba, 0, none⟩)] w1 fun e w' => e = .returned (.int .i64 st.N.ops) ∧ w' = w1 := by
 obtain ⟨F', hA⟩ := h.arr
 exact ops_any F' o.ba st.N w1 hA
end Go.Proofs.Ytpcbpljdiacbmaa.Ftl

namespace Go.Proofs.Ytpcbpljdiacbmaa.Ftl
open Go.RowKit Go.Proofs.Ytpcbpljdiacbmaa.Kit Go.Proofs.Ytpcbpljdiacbmaa.Oct Go.Proofs.Ytpcbpljdiacbmaa.Sheet Go.Proofs.Ytpcbpljdiacbmaa.Nand Go.Proofs.Ytpcbpljdiacbmaa.Plan Go.Proofs.Ytpcbpljdiacbmaa.Scan Go.Proofs.Ytpcbpljdiacbmaa.Pmap Go.Proofs.Ytpcbpljdiacbmaa.Pool

/-! An array on which each block is empty or has pages that count. -/
structure SetN (c : FC) (N : NA) (c0 : Nat → Option (Int × Fo)) : Prop where
 good : Good c.xs (fun _ => False) (L0 c N) c0
 each : ∀ i : Nat, (i : Int) ∈ c.xs → (N.blk i).failed = false ∧ ((N.blk i).pages = [] ∨ ∃ a x, c0 a = some ((i : Int), x))
 nc : ∀ a i x, c0 a = some (i, x) → ¬ Cop (L0 c N) i
section
variable {c : FC} {o : FId} {A : Option Addr} {n cc b s a : Nat} {K K' : Nat → Prop} {V w w1 w2 : World} {st : FT} {N N' : NA} {c0 c1 : Nat → Option (Int × Fo)} {D : Nat → Option (List Int)} {R : FT × Int} {fe : Int}
theorem SetN.at (h : SetN c N c0) (e : Nat) : SetN (c.at e) N c0 := ⟨h.good, h.each, h.nc⟩
theorem MI.setN (hk : CK c) (h : MI c c.xs c1 fe st) (hc : CalmN c st.N) : SetN c st.N c1 := by
 have hat := (h.at0 hk).1
 have hg := hat.cor.good
 rw [h.cf] at hg
 refine ⟨⟨hg.here, hg.all, fun i hi x hx j y hy => ?_, fun a i x hx hp => absurd hp (h.nc a i x hx), hg.once, hg.one, hg.out⟩, fun i hi => ?_, h.nc⟩
 ·rcases hg.late i hi x hx j y hy with g | g | ⟨g, -⟩
  ·exact .inl g
  ·exact .inr (.inl g)
  ·exfalso
   obtain ⟨k, rfl, -⟩ := xs_nat hi
   unfold dd at g
   rw [Int.toNat_natCast, (hc.hale k hi).2.2] at g
   cases g
 ·refine ⟨(hc.hale i hi).2.2, ?_⟩
  obtain ⟨-, hd⟩ := h.done i hi
  rcases hd with ⟨hf, -⟩ | ⟨-, hp, -⟩ | ⟨-, hcn, -⟩
  ·rw [(hc.hale i hi).2.2] at hf; cases hf
  ·exact .inl hp
  ·obtain ⟨a, x, hx, -⟩ := h.counted hi hcn
   exact .inr ⟨a, x, hx⟩
theorem mloop_still (c : FC) (q : Nat → Nat) : ∀ (l : List Int) (m : FT × Nat × Int), (∀ i : Nat, (i : Int) ∈ l → (m.1.N.blk i).pages = [] ∨ m.1.cn i ≠ 0) → (∀ x ∈ l, 0 ≤ x) → (mloop c q l m).1.1.N = m.1.N := by
 intro l
 induction l with
 | nil => intro m _ _; rfl
 | cons x l ih =>
  intro m h hx
  obtain ⟨k, rfl⟩ := Int.eq_ofNat_of_zero_le (hx x List.mem_cons_self)
  obtain ⟨s0, nw, op⟩ := m
  have hst : ∃ s' nw' op', mstep c q k (s0, nw, op) = ((s', nw', op'), 0) ∧ s'.N = s0.N ∧ s'.cnt = s0.cnt := by
   by_cases hf : (s0.N.blk k).failed = true
   ·exact ⟨_, _, _, m_failed hf, rfl, rfl⟩
   ·by_cases hp : (s0.N.blk k).pages.length = 0
    ·exact ⟨_, _, _, m_empty hf hp, rfl, rfl⟩
    ·have hc : ¬ s0.cn k = 0 := by
      rcases h k List.mem_cons_self with g | g
      ·have g : (s0.N.blk k).pages = [] := g
       rw [g] at hp
       exact absurd rfl hp
      ·exact g
     exact ⟨_, _, _, m_used hf hp hc, rfl, rfl⟩
  obtain ⟨s', nw', op', e, h1, h2⟩ := hst
  rw [mloop_cons, e, if_neg (by simp)]
  refine (ih (s', nw', op') (fun i hi => ?_) (fun y hy => hx y (List.mem_cons_of_mem _ hy))).trans h1
  have := h i (List.mem_cons_of_mem _ hi)
  show (s'.N.blk i).pages = [] ∨ s'.cn i ≠ 0
  unfold FT.cn
  rw [h1, h2]
  exact this
theorem mountF_still (c : FC) (q : Nat → Nat) (st : FT) (h : ∀ i : Nat, (i : Int) ∈ c.xs → (st.N.blk i).pages = [] ∨ st.cn i ≠ 0) : (mountF c q st).1.N = st.N := by
 have := mloop_still c q c.xs (st, 0, -1) h (fun x hx => by obtain ⟨k, rfl, -⟩ := xs_nat hx; omega)
 unfold mountF
 simp only
 split
 ·exact this
 ·split <;> exact this
/-- What All found on such an array is what was known. -/
theorem SetN.counts (h : SetN c N c0) (hm : MI c [] (cF st) fe st) (hN : st.N = N) (hn : IsNew c.xs (L0 c N) (cF st)) : ∀ i : Nat, (i : Int) ∈ c.xs → (st.N.blk i).pages = [] ∨ st.cn i ≠ 0 := fun i hi => by
 rw [hN]
 rcases (h.each i hi).2 with g | ⟨a, x, hx⟩
 ·exact .inl g
 ·right
  obtain ⟨g1, g2, g3⟩ := h.good.here a _ x hx
  have hnc := h.nc a _ x hx
  cases hc : cF st a with
  | none => exact absurd g3 (hn.none_ a hc _ g1 hnc x g2)
  | some y =>
   obtain ⟨⟨k1, k2, k3, k4⟩, k5⟩ := hn.some_ a y.1 y.2 hc
   have hle := k5 _ g1 hnc x g2 g3
   have hi2 : y.1 = (i : Int) := by
    rcases h.good.late y.1 k1 y.2 k3 _ x (by rw [k4]; exact hx) with ⟨e1, -⟩ | e | ⟨e, -⟩
    ·exact e1
    ·omega
    ·exact e.elim
   obtain ⟨hh, hat, -, -⟩ := cF_some (i := y.1) (x := y.2) hc
   have := hm.wf.cn_pos hh (b := i) (by rw [← hat, hi2])
   omega
theorem mount_new (hk : CK c) (h : AOk c N c0 s) (hon : N.off = false) {L : Int → List Scan.Fd} {at' : List (Int × Int)} {has : List Bool} {cnt : List Int} {FL : List (Int × Scan.Fd)} (hFL : FL = flatF (us c.nb c.bad) (spoilS (us c.nb c.bad) L).1) (hst : st = ⟨N, at', has, cnt, newH (us c.nb c.bad), seqOf (flatF (us c.nb c.bad) L)⟩)
  (hL : (∀ i : Int, i ∉ us c.nb c.bad → L i = []) ∧ ∀ i : Nat, (i : Int) ∈ us c.nb c.bad → (L (i : Int)).map (fun x => (x.k, x.p)) = found ((c.M - 1 : Nat) : Int) (NB.seen (N.blk i)))
  (ht : ∀ a, a < c.M → has.getD a false = (newest (a : Int) FL).isSome ∧ ∀ y, newest (a : Int) FL = some y → at'.getD a (0, 0) = (y.1, (y.2.k : Int))) (hw : FWf c st) : IsNew c.xs (L0 c N) (cF st) := by
 have hM := hk.M
 have hLL : foL L = L0 c N := by
  funext i
  unfold L0
  by_cases hi : i ∈ c.xs
  ·rw [if_pos hi]
   obtain ⟨k, rfl, -⟩ := xs_nat hi
   rw [Int.toNat_natCast, show (c.M : Int) - 1 = ((c.M - 1 : Nat) : Int) by omega]
   exact hL.2 k hi
  ·rw [if_neg hi]
   unfold foL
   rw [hL.1 i hi]
   rfl
 have hN := newC_is (U := c.xs) (L := L) (us_nodup c.nb c.bad) (by rw [hLL]; exact h.good.once)
 rw [hLL] at hN
 have hFLn : ∀ a : Nat, newC c.xs L a = (newest (a : Int) FL).map fun y => (y.1, (y.2.k, y.2.p)) := fun a => by rw [hFL]; rfl
 have hcf : cF st = newC c.xs L := by
  funext a
  by_cases ha : a < c.M
  ·obtain ⟨t1, t2⟩ := ht a ha
   rw [hFLn]
   unfold cF
   have e1 : st.has.getD a false = (newest (a : Int) FL).isSome := by rw [hst]; exact t1
   rw [e1]
   cases hn : newest (a : Int) FL with
   | none => rfl
   | some y =>
    have hy : newC c.xs L a = some (y.1, (y.2.k, y.2.p)) := by rw [hFLn, hn]; rfl
    obtain ⟨⟨-, -, m3, -⟩, -⟩ := hN.some_ a _ _ hy
    obtain ⟨-, -, -, m4, -⟩ := L0_mem m3
    have eat : st.at'.getD a (0, 0) = (y.1, (y.2.k : Int)) := by rw [hst]; exact t2 y hn
    have epg : st.pg a = some y.2.p := by
     unfold FT.pg
     rw [eat]
     simp only [Int.toNat_natCast]
     rw [hst]
     exact m4
    rw [epg, eat]
    simp
  ·have e1 : st.has.getD a false = false := by
    cases e : st.has.getD a false with
    | false => rfl
    | true =>
     have := has_lt e
     rw [hw.pi.lh] at this
     exact absurd this ha
   unfold cF
   rw [e1, if_neg (by simp)]
   cases hn : newC c.xs L a with
   | none => rfl
   | some y =>
    obtain ⟨⟨-, -, m3, m4⟩, -⟩ := hN.some_ a y.1 y.2 hn
    have := (L0_mem m3).2.2.2.2.2
    omega
 rw [← hcf] at hN
 exact hN
end
end Go.Proofs.Ytpcbpljdiacbmaa.Ftl

namespace Go.Proofs.Ytpcbpljdiacbmaa.Ftl
open Go.RowKit Go.Proofs.Ytpcbpljdiacbmaa.Kit Go.Proofs.Ytpcbpljdiacbmaa.Oct Go.Proofs.Ytpcbpljdiacbmaa.Sheet Go.Proofs.Ytpcbpljdiacbmaa.Nand Go.Proofs.Ytpcbpljdiacbmaa.Plan Go.Proofs.Ytpcbpljdiacbmaa.Scan Go.Proofs.Ytpcbpljdiacbmaa.Pmap Go.Proofs.Ytpcbpljdiacbmaa.Pool

/-! How many pages there are: where blocks are filled one behind the other. -/
theorem usum_ext {u : Nat → Bool} {f g : Nat → Nat} : ∀ m, (∀ i, i < m → u i = true → f i = g i) → usum u f m = usum u g m := by
 intro m
 induction m with
 | zero => intro _; rfl
 | succ m ih =>
  intro h
  show usum u f m + _ = usum u g m + _
  rw [ih (fun i hi => h i (by omega))]
  by_cases e : u m = true
  ·rw [if_pos e, if_pos e, h m (by omega) e]
  ·rw [if_neg e, if_neg e]
theorem usum_upd {u : Nat → Bool} {f g : Nat → Nat} {b : Nat} (hu : u b = true) (h : ∀ i, i ≠ b → g i = f i) : ∀ m, b < m → usum u g m + f b = usum u f m + g b := by
 intro m
 induction m with
 | zero => intro h; omega
 | succ m ih =>
  intro hb
  show usum u g m + (if u m = true then g m else 0) + f b = usum u f m + (if u m = true then f m else 0) + g b
  by_cases e : m = b
  ·subst e
   rw [if_pos hu, if_pos hu, usum_ext (f := g) (g := f) m (fun i hi _ => h i (by omega))]
   omega
  ·have := ih (by omega)
   rw [h m e]
   omega
theorem usum_zero {u : Nat → Bool} : ∀ m, usum u (fun _ => 0) m = 0 := by
 intro m
 induction m with
 | zero => rfl
 | succ m ih =>
  show usum u _ m + _ = 0
  rw [ih]
  split <;> rfl
/-- The sum over the blocks that may be used. -/
def tot (c : FC) (f : Nat → Nat) : Nat := usum (fun i => decide ((i : Int) ∈ c.xs)) f 64
def totP (c : FC) (N : NA) : Nat := tot c (fun i => (N.blk i).pages.length)
section
variable {c : FC} {st : FT} {N N' : NA} {b : Nat}
theorem tot_upd {f g : Nat → Nat} (hb : (b : Int) ∈ c.xs) (hnb : c.nb ≤ 64) (h : ∀ i, i ≠ b → g i = f i) : tot c g + f b = tot c f + g b := by
 obtain ⟨b', e, -, hn⟩ := xs_nat hb
 exact usum_upd (by simpa using hb) h 64 (by omega)
theorem totP_prog (hb : (b : Int) ∈ c.xs) (hnb : c.nb ≤ 64) (hr : Rest N N' b) (hp : (N'.blk b).pages.length = (N.blk b).pages.length + 1) : totP c N' = totP c N + 1 := by
 have := tot_upd (f := fun i => (N.blk i).pages.length) (g := fun i => (N'.blk i).pages.length) hb hnb (fun i hi => by show (N'.blk i).pages.length = _; rw [hr.other i hi])
 unfold totP
 omega
/-- Each block that is used is full. -/
def Ful (c : FC) (st : FT) : Prop := ∀ i : Nat, (i : Int) ∈ c.xs → hAt st.hs (i : Int) = some 1 → (st.N.blk i).pages.length = c.np
/-- The pages of the used blocks. -/
theorem Ful.used {ex : Nat → Prop} (h : Ful c st) (hp : Pol c st ex) : c.np * cntH st.hs 1 ≤ totP c st.N := by
 have h1 := usum_low (u := fun i => st.hs.getD i none == some 1) (f := fun i => (st.N.blk i).pages.length) (P := c.np) 64 (fun k hk hu => by
  have h1 : hAt st.hs (k : Int) = some 1 := by rw [hAt_nat st.hs k hk]; simpa using hu
  rw [h k (hs_in hp.none_ h1) h1]
  exact Nat.le_refl _)
 refine Nat.le_trans h1 ?_
 unfold totP tot
 have key : ∀ m, m ≤ 64 → usum (fun i => st.hs.getD i none == some 1) (fun i => (st.N.blk i).pages.length) m ≤ usum (fun i => decide ((i : Int) ∈ c.xs)) (fun i => (st.N.blk i).pages.length) m := by
  intro m
  induction m with
  | zero => intro _; exact Nat.le_refl _
  | succ m ih =>
   intro hm
   have := ih (by omega)
   show usum _ _ m + _ ≤ usum _ _ m + _
   by_cases hu : (st.hs.getD m none == some 1) = true
   ·have h1 : hAt st.hs (m : Int) = some 1 := by rw [hAt_nat st.hs m (by omega)]; simpa using hu
    rw [if_pos hu, if_pos (show decide ((m : Int) ∈ c.xs) = true by simpa using hs_in hp.none_ h1)]
    omega
   ·rw [if_neg hu]
    omega
 exact key 64 (Nat.le_refl _)
theorem cap_eq (hk : CK c) : c.M + 1 = c.np * (c.xs.length - c.S - 1) ∧ 1 + c.S < c.xs.length := by
 have hM := hk.ok
 have hM1 := hk.M
 have hnp := hk.np.1
 unfold FC.ok Plan.cap at hM
 have hlen : (usb ((c.nb : Int)).toNat c.bad).length = c.xs.length := by rw [Int.toNat_natCast]; rfl
 rw [hlen] at hM
 by_cases hle : 1 + c.S < c.xs.length
 ·obtain ⟨q, hq⟩ : ∃ q : Nat, c.xs.length = q + c.S + 1 := ⟨c.xs.length - c.S - 1, by omega⟩
  refine ⟨?_, hle⟩
  have e : ((c.xs.length : Nat) : Int) - (c.S : Int) - 1 = (q : Int) := by omega
  rw [e] at hM
  have e2 : c.xs.length - c.S - 1 = q := by omega
  rw [e2]
  have e3 : ((c.np * q : Nat) : Int) = (c.np : Int) * (q : Int) := by simp
  omega
 ·exfalso
  have : (c.np : Int) * ((c.xs.length : Int) - c.S - 1) ≤ (c.np : Int) * 0 := Int.mul_le_mul_of_nonneg_left (by omega) (by omega)
  omega
/-- Which array it is behind making room. -/
def Cleared (c : FC) (st : FT) (N' : NA) : Prop := N' = st.N ∨ ∃ v : Nat, (v : Int) ∈ c.xs ∧ st.cn v = 0 ∧ (st.N.blk v).pages.length = c.np ∧ Rest st.N N' v ∧ (N'.blk v).pages = [] ∧ (N'.blk v).erases = wrap64 ((st.N.blk v).erases + 1)
/-- Room is made without copying. -/
structure Roomy (c : FC) (st st1 : FT) (b : Nat) : Prop where
 rest : At c st1
 ful : Ful c st1
 opn : hAt st1.hs (b : Int) = some 2
 room : (st1.N.blk b).pages.length < c.np
 at' : st1.at' = st.at'
 has : st1.has = st.has
 cnt : st1.cnt = st.cnt
 seq : st1.seq = st.seq
 cf : cF st1 = cF st
 arr : Cleared c st st1.N
theorem open_path (hk : CK c) (h : At c st) (ho : NoOpen st) (hF : Ful c st) (hd : ¬ c.S < cntH st.hs 3) (hr : 1 + c.S < cntH st.hs 0 + cntH st.hs 3) (m k : Nat) : ∃ st1 b, halfG c m (k + 1) st = some (st1, b, 0) ∧ At c st1 ∧ Ful c st1 ∧ hAt st1.hs (b : Int) = some 2 ∧ (st1.N.blk b).pages.length < c.np ∧ st1.N = st.N ∧ st1.at' = st.at' ∧ st1.has = st.has ∧ st1.cnt = st.cnt ∧ st1.seq = st.seq := by
 obtain ⟨d, h1, h2, h3, h4⟩ := open_half hk h ho hd hr m k
 refine ⟨_, d, h1, h2, fun i hi hh => ?_, h3, h4, rfl, rfl, rfl, rfl, rfl⟩
 show (st.N.blk i).pages.length = c.np
 have hdx := hs_in h2.pol.none_ h3
 obtain ⟨d', ed, -, dn⟩ := xs_nat hdx
 obtain ⟨u, -, hu⟩ := h.pol.pool d hdx
 by_cases e : i = d
 ·rw [e, h3] at hh; cases hh
 ·have hu3 : u ≠ 3 := fun x => by
   have h5 := how_dead (c := c) (st := st) (b := d) (v := 2) (by rw [hu, x]) (by omega)
   rw [h5, hu, x] at h3
   cases h3
  rw [how_at h.pol.hl (by have := hk.nb; omega) hu (fun x => absurd x hu3), if_neg (by omega), no_fOpen ho, if_neg (by simp)] at hh
  exact hF i hi hh
set_option maxHeartbeats 2000000 in
theorem room_path (hk : CK c) (h : At c st) (hc : CalmN c st.N) (hF : Ful c st)
  (hz : ∀ st' : FT, At c st' → NoOpen st' → Ful c st' → st'.N = st.N → st'.cnt = st.cnt → cntH st'.hs 0 + cntH st'.hs 3 = 1 + c.S → ∃ v : Nat, (v : Int) ∈ c.xs ∧ hAt st'.hs (v : Int) = some 1 ∧ st'.cn v = 0) :
  ∃ st1 b, roomG c 100 3 st = some (st1, b, 0) ∧ Roomy c st st1 b := by
 have hnb := hk.nb
 -- where no block is open
 have half : ∀ st' : FT, At c st' → NoOpen st' → Ful c st' → st'.N = st.N → st'.at' = st.at' → st'.has = st.has → st'.cnt = st.cnt → st'.seq = st.seq → ∃ st1 b, halfG c 100 2 st' = some (st1, b, 0) ∧ Roomy c st st1 b := by
  intro st' h' ho' hF' hN hat hhas hcnt hsq
  have hcf : ∀ s1 : FT, s1.N = st.N → s1.at' = st.at' → s1.has = st.has → cF s1 = cF st := fun s1 e1 e2 e3 => by
   refine cF_congr e2 e3 (fun a ha => ?_)
   unfold FT.pg
   rw [e1, e2]
  have hc' : CalmN c st'.N := by rw [hN]; exact hc
  have h30 := hc'.none_dead h'.pol
  have hd : ¬ c.S < cntH st'.hs 3 := by omega
  by_cases hr : 1 + c.S < cntH st'.hs 0 + cntH st'.hs 3
  ·obtain ⟨st1, b, g1, g2, g3, g4, g5, g6, g7, g8, g9, g10⟩ := open_path hk h' ho' hF' hd hr 100 1
   exact ⟨st1, b, g1, g2, g3, g4, g5, g7.trans hat, g8.trans hhas, g9.trans hcnt, g10.trans hsq, hcf st1 (g6.trans hN) (g7.trans hat) (g8.trans hhas), .inl (g6.trans hN)⟩
  ·have hrm := h'.room
   obtain ⟨k, kx, k1, kc⟩ := hz st' h' ho' hF' hN hcnt (by omega)
   have hlc := h'.cor.wf.pi.lc
   have hb := bestF_spec st'.hs st'.cnt 1 c.xs (fun x hx => by
    obtain ⟨j, rfl, -, hj⟩ := xs_nat hx
    omega)
   cases hbf : bestF st'.hs st'.cnt 1 c.xs with
   | none => exact absurd (by rw [k1]; rfl) (hb.2 hbf (k : Int) kx)
   | some V =>
    obtain ⟨b1, b2, b3⟩ := hb.1 V hbf
    obtain ⟨v, rfl, v2, vn⟩ := xs_nat b1
    have hv64 : v < 64 := by omega
    have hv : hAt st'.hs (v : Int) = some 1 := by
     obtain ⟨u, -, hu⟩ := h'.pol.pool v b1
     rw [hu] at b2 ⊢
     simp at b2
     rw [b2]
    have hcv0 : 0 ≤ st'.cn v := by
     have := h'.cor.wf.pi.on v vn
     unfold FT.cn
     omega
    have hcv : st'.cn v = 0 := by
     have := b3 (k : Int) kx (by rw [k1]; rfl)
     rw [Int.toNat_natCast, Int.toNat_natCast] at this
     unfold FT.cn at kc hcv0 ⊢
     omega
    have hvp := hF' v b1 hv
    have hcol : collectG c 100 st' = some (eraseF c st' v) := by
     unfold collectG
     rw [hbf]
     unfold colFr
     simp only [Int.toNat_natCast]
     rw [if_pos hcv]
    have hu : halfG c 100 2 st' = if (eraseF c st' v).2 ≠ 0 then some ((eraseF c st' v).1, 0, (eraseF c st' v).2) else roomG c 100 2 (eraseF c st' v).1 := by
     unfold halfG
     rw [if_neg hd, if_neg hr, hcol]
    have hfen : st'.N.fence ≤ (c.ep : Int) := by rw [hc'.fence]; omega
    have hops := eraseF_ops c st' v
    have hE : ∀ (X : FT) (z : Int), eraseF c st' v = (X, z) → X.N = (st'.N.erase (v : Int) c.ep).1 := fun X z e => by
     have : (eraseF c st' v).1.N = (st'.N.erase (v : Int) c.ep).1 := by
      unfold eraseF
      split
      ·rfl
      ·split <;> rfl
     rw [e] at this
     exact this
    rcases h'.cor.erase b1 (by omega) with ⟨e, hf⟩ | ⟨hf, N', hr', hcF, hcase⟩
    ·omega
    ·rcases hcase with ⟨e, hcor, hway, hpg, hhf, hfl, hdd, hL⟩ | ⟨e, hcor, hway, hfl, hdd, hsn, hL, hpg, hhf⟩ | ⟨e, ha1, hoff, ⟨dd', hway⟩, hsn, hfl, hL, hpg, hhf⟩
     ·rw [hu, e]
      simp only
      rw [if_neg (by simp)]
      have P1 := h'.pol.to_free (N' := N') hv64 hv (by omega) hr' hpg hhf hfl hL
      have hat1 := how_at0 (c := c) (s := { st' with N := N' }) (v := 0) h'.pol.hl hv64 hv (fun x => by cases x) (by omega)
      have hno : NoOpen (({ st' with N := N' } : FT).how c v 0) := fun i => by
       rw [hat1]
       split
       ·simp
       ·exact ho' i
      have c1 := fun w => how_cnt (c := c) (st := ({ st' with N := N' } : FT)) (v := 0) (w := w) h'.pol.hl hv64 hv (fun x => by cases x) (.inl (by omega))
      have c10 := c1 0
      have c13 := c1 3
      simp at c10 c13
      have hcap := cap_rest h'.cap hr' (show (N'.blk v).pages.length ≤ c.np by rw [hpg]; exact Nat.zero_le _)
      have hA1 : At c (({ st' with N := N' } : FT).how c v 0) := ⟨hcor.how v 0, P1, hcap, by omega⟩
      have hF1 : Ful c (({ st' with N := N' } : FT).how c v 0) := fun i hi hh => by
       by_cases ei : (i : Int) = (v : Int)
       ·rw [hat1, if_pos ei] at hh; cases hh
       ·rw [hat1, if_neg ei] at hh
        show (N'.blk i).pages.length = c.np
        rw [hr'.other i (by omega)]
        exact hF' i hi hh
      have hc1 : CalmN c (({ st' with N := N' } : FT).how c v 0).N := by
       rw [e] at hops
       exact hc'.ops hops
      have h31 := hc1.none_dead hA1.pol
      rw [roomG_none (no_fOpen hno)]
      obtain ⟨st1, b, g1, g2, g3, g4, g5, g6, g7, g8, g9, g10⟩ := open_path hk hA1 hno hF1 (by omega) (by omega) 100 0
      refine ⟨st1, b, g1, g2, g3, g4, g5, g7.trans hat, g8.trans hhas, g9.trans hcnt, g10.trans hsq, ?_, .inr ⟨v, b1, ?_, ?_, ?_, ?_, ?_⟩⟩
      ·have e1 : cF st1 = cF (({ st' with N := N' } : FT).how c v 0) := cF_congr g7 g8 (fun a ha => by unfold FT.pg; rw [g6, g7])
       rw [e1]
       exact hcF.trans (hcf st' hN hat hhas)
      ·unfold FT.cn at hcv ⊢; rw [← hcnt]; exact hcv
      ·rw [← hN]; exact hvp
      ·rw [g6, ← hN]; exact hr'
      ·rw [g6]; exact hpg
      ·have e1 := hE _ _ e
       rw [g6, ← hN]
       show (N'.blk v).erases = _
       have e1 : N' = (st'.N.erase (v : Int) c.ep).1 := e1
       rcases erase_spec (ep := (c.ep : Int)) (show v < st'.N.bs.length by rw [h'.cor.wf.lb]; exact vn) h'.cor.on with ⟨x, -⟩ | ⟨-, N2, z2, he2, -, hh⟩
       ·omega
       ·rw [he2] at e1
        have e1 : N' = N2 := e1
        subst e1
        rcases hh with ⟨-, -, x, -, y, -⟩ | ⟨-, -, -, x, -⟩ | ⟨-, -, -, -, -, -, -, g⟩
        ·have : N'.off = false := hcor.on
         rw [this] at x; cases x
        ·rw [hpg] at x
         rw [← x] at hvp
         have := hk.np.1
         rw [← hvp] at this
         exact absurd this (by simp)
        ·exact g
     ·exfalso
      have := hc'.hale v b1
      rw [e] at hops
      have h2 := hops.hale this
      have h3 : (N'.blk v).failed = false := h2.2.2
      rw [h3] at hfl
      cases hfl
     ·exfalso
      rw [hc'.armed] at ha1
      cases ha1
 cases ho : fOpen c.xs st.hs with
 | none =>
  rw [roomG_none ho]
  exact half st h (fun i hi => fOpen_none ho _ (hs_in h.pol.none_ hi) hi) hF rfl rfl rfl rfl rfl
 | some x =>
  obtain ⟨h1, h2⟩ := fOpen_mem _ _ _ ho
  obtain ⟨b, rfl, b2, bn⟩ := xs_nat h1
  by_cases hp : (st.N.blk b).pages.length < c.np
  ·exact ⟨st, b, roomG_room ho hp, h, hF, h2, hp, rfl, rfl, rfl, rfl, rfl, .inl rfl⟩
  ·have hb64 : b < 64 := by omega
   obtain ⟨P, hno⟩ := h.pol.to_used hb64 h2 (fun hc => hp ((h.pol.opn b h1 h2).2 hc))
   have c1 := fun w => how_cnt (c := c) (st := st) (v := 1) (w := w) h.pol.hl hb64 h2 (fun x => by cases x) (.inl (by omega))
   have c10 := c1 0
   have c13 := c1 3
   simp at c10 c13
   have hA : At c (st.how c b 1) := ⟨h.cor.how b 1, P, h.cap, by have := h.room; omega⟩
   have hat1 := how_at0 (c := c) (s := st) (v := 1) h.pol.hl hb64 h2 (fun x => by cases x) (by omega)
   have hF1 : Ful c (st.how c b 1) := fun i hi hh => by
    show (st.N.blk i).pages.length = c.np
    by_cases ei : (i : Int) = (b : Int)
    ·have : i = b := by omega
     have := h.cap b
     subst_vars
     omega
    ·rw [hat1, if_neg ei] at hh
     exact hF i hi hh
   rw [roomG_full ho hp]
   exact half (st.how c b 1) hA hno hF1 rfl rfl rfl rfl rfl
end
end Go.Proofs.Ytpcbpljdiacbmaa.Ftl

namespace Go.Proofs.Ytpcbpljdiacbmaa.Ftl
open Go.RowKit Go.Proofs.Ytpcbpljdiacbmaa.Kit Go.Proofs.Ytpcbpljdiacbmaa.Oct Go.Proofs.Ytpcbpljdiacbmaa.Sheet Go.Proofs.Ytpcbpljdiacbmaa.Nand Go.Proofs.Ytpcbpljdiacbmaa.Plan Go.Proofs.Ytpcbpljdiacbmaa.Scan Go.Proofs.Ytpcbpljdiacbmaa.Pmap Go.Proofs.Ytpcbpljdiacbmaa.Pool

/-! A page is written without copying. -/
section
variable {c : FC} {st : FT} {N N' : NA} {a b s : Nat} {D : Nat → Option (List Int)} {R : FT × Int} {ys : List Int}
/-- What is known of a page that was written so. -/
structure PutP (c : FC) (st : FT) (a : Nat) (R : FT × Int) (st1 : FT) (b : Nat) (N' : NA) : Prop where
 roomy : Roomy c st st1 b
 is : R = (st1.put N' b a, 0)
 rest : Rest st1.N N' b
 len : (N'.blk b).pages.length = (st1.N.blk b).pages.length + 1
 er : (N'.blk b).erases = (st1.N.blk b).erases
 ful : Ful c R.1
 page : ∃ p : Pg, p.f = 0 ∧ L0 c N' = putL (L0 c st1.N) (b : Int) ((st1.N.blk b).pages.length, p)
set_option maxHeartbeats 1000000 in
theorem put_path (hk : CK c) (hS : Sound c st D s) (hs : s + 7000 ≤ 281474976710000) (hF : Ful c st) (ha : a < c.M) (hy : ys.length ≤ 64) (hB : IsB ys)
  (hz : ∀ st' : FT, At c st' → NoOpen st' → Ful c st' → st'.N = st.N → st'.cnt = st.cnt → cntH st'.hs 0 + cntH st'.hs 3 = 1 + c.S → ∃ v : Nat, (v : Int) ∈ c.xs ∧ hAt st'.hs (v : Int) = some 1 ∧ st'.cn v = 0)
  (hR : putG c 100 3 65 st 1 a ys = some R) : ∃ st1 b N', PutP c st a R st1 b N' := by
 obtain ⟨st1, b, h1, hr⟩ := room_path hk hS.rest hS.calm hF hz
 obtain ⟨r, g1, g2⟩ := putG_step hR
 rw [h1] at g1
 injection g1 with g1
 subst g1
 have hops := roomG_ops c 100 3 st _ h1
 have hc1 := hS.calm.ops hops
 have hbx := hs_in hr.rest.pol.none_ hr.opn
 obtain ⟨b', eb, b2, bn⟩ := xs_nat hbx
 have hbn : b < c.nb := by omega
 have hopn := hr.rest.pol.opn b hbx hr.opn
 have hsq := hr.seq
 have hse := hS.seq
 have hM16 := hk.M16
 obtain ⟨p, hp⟩ : ∃ p : Pg, p = ⟨1, c.ep, st1.seq + 1, a, 0, ys⟩ := ⟨_, rfl⟩
 have hokp : p.ok := by
  rw [hp]
  exact ⟨by simp, by simp, hk.ep.2, by show st1.seq + 1 < _; omega, by show a < _; omega, by show 0 ≤ 64; omega, hy, .inl rfl, hB⟩
 have hpr : st1.N.prog (b : Int) ((st1.N.blk b).pages.length : Int) (st1.next c 1 a 0 ys) c.ep = st1.prg c b 1 a 0 ys := rfl
 have hE := (prog_gen st1.N b (st1.next c 1 a 0 ys) (c.ep : Int))
 rw [hpr] at hE
 have hfen : st1.N.fence ≤ (c.ep : Int) := by rw [hc1.fence]; omega
 rcases g2 with ⟨x, -⟩ | ⟨-, -, r2, q1, q2⟩
 ·exact absurd rfl x
 ·have hops2 := programF_ops c st1 b 1 a 0 ys
  rcases hr.rest.cor.prog (f := 0) (a := a) (K := 1) (ys := ys) hbx hopn.1 hr.room hk.np.2 p hp hokp (by decide) ha with ⟨hP, hf⟩ | ⟨hf, N', hr', hh', hcase⟩
  ·omega
  ·rcases hcase with ⟨hP, ha1, -⟩ | ⟨hP, hcor, hway, hfl, hdd, hpl, hL, hcF⟩ | ⟨hP, hon, hway, hpg, hfl, hdd, hfw', hL, hcF⟩
   ·exfalso
    rw [hc1.armed] at ha1
    cases ha1
   ·exfalso
    rw [hP] at hops2
    have h2 := hops2.hale (hc1.hale b hbx)
    have h3 : (N'.blk b).failed = false := h2.2.2
    rw [h3] at hfl
    cases hfl
   ·have e0 : r2 = (st1.put N' b a, 0) := by rw [← q1]; exact hP
    have hRe : R = (st1.put N' b a, 0) := by
     rcases q2 with ⟨-, q⟩ | ⟨q, -⟩
     ·rw [q, e0]
     ·rw [e0] at q; cases q
    refine ⟨st1, b, N', hr, hRe, hr', by rw [hpg, List.length_append]; rfl, ?_, ?_, p, by rw [hp], hL⟩
    ·have hNe : (st1.prg c b 1 a 0 ys).1 = N' := by
      have hP2 := hP
      unfold programF at hP2
      split at hP2
      ·injection hP2 with _ x
       cases x
      ·split at hP2
       ·injection hP2 with x _
        exact congrArg FT.N x
       ·rename_i h8 h0
        injection hP2 with _ x
        exact absurd x h0
     rcases hE with e | ⟨-, -, e⟩
     ·exfalso
      rw [hNe] at e
      rw [e] at hpg
      have := congrArg List.length hpg
      simp at this
     ·rw [hNe] at e
      exact e
    ·rw [hRe]
     intro i hi h1'
     have h1' : hAt st1.hs (i : Int) = some 1 := h1'
     show (N'.blk i).pages.length = c.np
     have hib : i ≠ b := fun e => by
      rw [e, hr.opn] at h1'
      cases h1'
     rw [hr'.other i hib]
     exact hr.ful i hi h1'
/-- The counts where an address gets its first page. -/
theorem cn_first (hw : FWf c st) (hb : b < c.nb) (ha : st.has.getD a false = false) (i : Nat) : (st.put N' b a).cn i = if i = b then st.cn b + 1 else st.cn i := by
 have hlc := hw.pi.lc
 have ed : dcnt st.at' st.has st.cnt a = st.cnt := by
  unfold dcnt
  rw [ha]
  simp
 show (scnt st.at' st.has st.cnt a b).getD i 0 = _
 unfold scnt
 rw [ed, getD_setI _ b i (by omega)]
 rfl
/-- While all addresses get their first page. -/
structure Fil (c : FC) (st : FT) (k : Nat) : Prop where
 ful : Ful c st
 pages : totP c st.N = k
 each : ∀ i : Nat, (i : Int) ∈ c.xs → (st.N.blk i).pages = [] ∨ 1 ≤ st.cn i
 own : ∀ i, ∀ x ∈ L0 c st.N i, x.2.f = 0
theorem Fil.put (hk : CK c) (hS : Sound c st D s) (hs : s + 7000 ≤ 281474976710000) {k : Nat} (hF : Fil c st k) (hkM : k < c.M) (ha : a < c.M) (hD : D a = none) (hy : ys.length ≤ 64) (hB : IsB ys) (hR : putG c 100 3 65 st 1 a ys = some R) : Fil c R.1 (k + 1) := by
 have hnb := hk.nb
 obtain ⟨hcap, hlen⟩ := cap_eq hk
 obtain ⟨st1, b, N', hp⟩ := put_path hk hS hs hF.ful ha hy hB (fun st' h' ho' hF' hN' hc' hr' => by
  exfalso
  have h1 := xs_le hnb h'.pol ho'
  have h2 := hF'.used h'.pol
  rw [hN', hF.pages] at h2
  have h3 : c.np * (c.xs.length - c.S - 1) ≤ c.np * cntH st'.hs 1 := Nat.mul_le_mul_left _ (by omega)
  omega) hR
 have hr := hp.roomy
 have hN1 : st1.N = st.N := by
  rcases hr.arr with e | ⟨v, vx, vc, vp, -⟩
  ·exact e
  ·exfalso
   rcases hF.each v vx with e | e
   ·rw [e] at vp
    have := hk.np.1
    rw [← vp] at this
    exact absurd this (by simp)
   ·omega
 have hbx := hs_in hr.rest.pol.none_ hr.opn
 obtain ⟨b', eb, -, bn⟩ := xs_nat hbx
 have hha : st1.has.getD a false = false := by
  rw [hr.has]
  have := hS.rest.cor.cf a
  rw [this]
  rw [← hS.data] at hD
  unfold Vof at hD
  cases hc : cF st a with
  | none => rfl
  | some y => rw [hc] at hD; cases hD
 have hcn := cn_first (N' := N') hr.rest.cor.wf (show b < c.nb by omega) hha
 have hRe := hp.is
 refine ⟨hp.ful, ?_, fun i hi => ?_, fun i x hx => ?_⟩
 ·rw [hRe]
  show totP c N' = k + 1
  rw [totP_prog hbx hnb hp.rest hp.len, hN1, hF.pages]
 ·rw [hRe]
  show (N'.blk i).pages = [] ∨ 1 ≤ (st1.put N' b a).cn i
  rw [hcn i]
  by_cases e : i = b
  ·rw [if_pos e]
   right
   have := hr.rest.cor.wf.pi.on b (by omega)
   unfold FT.cn
   omega
  ·rw [if_neg e, hp.rest.other i e, hN1]
   have := hF.each i hi
   unfold FT.cn at this ⊢
   rw [hr.cnt]
   exact this
 ·rw [hRe] at hx
  have hx : x ∈ L0 c N' i := hx
  obtain ⟨p, hpf, hL⟩ := hp.page
  rw [hL, hN1] at hx
  rcases putL_mem hx with ⟨-, e⟩ | hx
  ·rw [e]; exact hpf
  ·exact hF.own i x hx
/-- An array all of whose pages are their addresses' own. -/
theorem Fil.setN (hk : CK c) (hS : Sound c st D s) {k : Nat} (hF : Fil c st k) : SetN c st.N (cF st) := by
 have hnc : ∀ a i x, cF st a = some (i, x) → ¬ Cop (L0 c st.N) i := fun a i x hx hC => by
  obtain ⟨g1, g2, -⟩ := hS.rest.cor.good.here a i x hx
  have h1 := hC.2.1
  have h2 := (hC.2.2 x g2).1
  rw [hF.own i x g2] at h2
  omega
 have hg := hS.rest.cor.good
 refine ⟨⟨hg.here, hg.all, fun i hi x hx j y hy => ?_, fun a i x hx hp => absurd hp (hnc a i x hx), hg.once, hg.one, hg.out⟩, fun i hi => ?_, hnc⟩
 ·rcases hg.late i hi x hx j y hy with g | g | ⟨g, -⟩
  ·exact .inl g
  ·exact .inr (.inl g)
  ·exfalso
   obtain ⟨k, rfl, -⟩ := xs_nat hi
   unfold dd at g
   rw [Int.toNat_natCast, (hS.calm.hale k hi).2.2] at g
   cases g
 ·refine ⟨(hS.calm.hale i hi).2.2, ?_⟩
  rcases hF.each i hi with g | g
  ·exact .inl g
  ·right
   obtain ⟨i', ei, -, hin⟩ := xs_nat hi
   have hon := hS.rest.cor.wf.pi.on i (by omega)
   unfold FT.cn at g
   obtain ⟨a, ha, ho⟩ := cnum_ex (onP st.at' st.has i) c.M (by omega)
   unfold onP at ho
   rw [Bool.and_eq_true, decide_eq_true_iff] at ho
   have h1 := hS.rest.cor.cf a
   rw [ho.1] at h1
   obtain ⟨⟨j, x⟩, hx⟩ := Option.isSome_iff_exists.1 h1.symm
   obtain ⟨-, hj, -, -⟩ := cF_some hx
   rw [ho.2] at hj
   subst hj
   exact ⟨a, x, hx⟩
theorem mloop_empty (c : FC) (q : Nat → Nat) : ∀ (l : List Int) (m : FT × Nat × Int), (∀ i : Nat, (i : Int) ∈ l → (m.1.N.blk i).pages = [] ∧ (m.1.N.blk i).failed = false) → (∀ x ∈ l, 0 ≤ x) → mloop c q l m = (m, 0) := by
 intro l
 induction l with
 | nil => intro m _ _; rfl
 | cons x l ih =>
  intro m h hx
  obtain ⟨k, rfl⟩ := Int.eq_ofNat_of_zero_le (hx x List.mem_cons_self)
  obtain ⟨s0, nw, op⟩ := m
  obtain ⟨h1, h2⟩ := h k List.mem_cons_self
  have e := m_empty (c := c) (q := q) (b := k) (nw := nw) (op := op) (s := s0) (by rw [show (s0.N.blk k).failed = false from h2]; simp) (by rw [show (s0.N.blk k).pages = [] from h1]; rfl)
  have e : mstep c q k (s0, nw, op) = ((s0, nw, op), 0) := e
  rw [mloop_cons]
  rw [e, if_neg (by simp)]
  exact ih _ (fun i hi => h i (List.mem_cons_of_mem _ hi)) (fun y hy => hx y (List.mem_cons_of_mem _ hy))
/-- A new array is mounted. -/
theorem cmount_new {w w1 : World} {A : Option Addr} {n cc b : Nat} {K : Nat → Prop} (hk : CK c) (hR : Run (fun _ => False) w w1 b (newA c.nb c.np c.bad) (withA K A) w1) (hKA : ∀ g, K g → ∀ ad, A = some ad → g ≠ ad.block) (hg : Geo w1 c.nb c.np (c.S : Int) A n cc c.bad) :
  Calls Try.prog 16 #[.pointer (some ⟨b, 0, none⟩), .agg #[.int .i64 (c.nb : Int), .int .i64 (c.np : Int), .int .i64 (c.S : Int), .slice A n cc], .int .u64 (c.ep : Int)] w1 fun e w' => ∃ o st, o.ba = b ∧ e = .returned (.tuple #[.pointer (some ⟨o.bf, 0, none⟩), .int .i64 0]) ∧ LF c o A n cc K w1 w w' st ∧ Sound c st (Vof (fun _ => none)) 0 ∧ Fil c st 0 ∧ st.N = newA c.nb c.np c.bad := by
 have hR0 := hR
 obtain ⟨F', r1, r2, r3, r4⟩ := hR
 have hA := AOk.new hk
 have hcm : CalmN c (newA c.nb c.np c.bad) := CalmN.new
 refine (mount_run r1 hA.lb hA.lp rfl hA.bytes hA.er A n cc hg (fun ad had => ⟨(r4 _ (.inr ⟨ad, had, rfl⟩)).2.2.1, (r4 _ (.inr ⟨ad, had, rfl⟩)).1⟩) hk.ok hk.M hk.ep.1 hk.ep.2).mono ?_
 rintro e w' ⟨o, L, at', has, cnt, st0, FL, R, q1, q2, q3, q4, q5, q6, q7, q8, q9, q10, q11, q12, q13⟩
 obtain ⟨m1, m2, m3⟩ := mount_start hk hA rfl q4 q5 q6 q7 q8
 have hm := mountF_law hk (q := qOf FL) m1
 have eN : st0.N = newA c.nb c.np c.bad := by rw [q5]
 have hpg := newA_pages c.nb c.np c.bad
 have hRe : R = (st0, 0) := by
  rw [← q9]
  have := mloop_empty c (qOf FL) c.xs (st0, 0, -1) (fun i hi => ⟨by show (st0.N.blk i).pages = []; rw [eN, hpg], by show (st0.N.blk i).failed = false; rw [eN]; exact (hcm.hale i hi).2.2⟩) (fun x hx => by obtain ⟨k, rfl, -⟩ := xs_nat hx; omega)
  unfold mountF
  simp only [this]
  rfl
 rw [q9, m2] at hm
 rcases hm with ⟨g0, g1, g2, g3, g4⟩ | ⟨g0, g1⟩ | ⟨g0, g1⟩
 ·refine ⟨o, R.1, q1, q10 g0, mount_lf hR0 hKA (fun g hg => (r2 g hg).resolve_left id) (fun g hg => (r4 g hg).1) q3 q2 q12 q13, ⟨g1, g2, Nat.le_trans g4 m3, by rw [hRe]; show CalmN c st0.N; rw [eN]; exact hcm⟩, ?_, by rw [hRe]; exact eN⟩
  rw [hRe]
  refine ⟨fun i hi h1 => ?_, ?_, fun i hi => .inl (by show (st0.N.blk i).pages = []; rw [eN, hpg]), fun i x hx => ?_⟩
  ·exfalso
   have hhs : st0.hs = newH c.xs := by rw [q5]; rfl
   have h1 : hAt st0.hs (i : Int) = some 1 := h1
   rw [hhs, newH_at c.xs (xs_64 hk.nb), if_pos hi] at h1
   cases h1
  ·show totP c st0.N = 0
   rw [eN]
   unfold totP tot
   rw [usum_ext (g := fun _ => 0) 64 (fun i _ _ => by rw [hpg]; rfl)]
   exact usum_zero 64
  ·exfalso
   have hx : x ∈ L0 c st0.N i := hx
   rw [eN] at hx
   have := (L0_mem hx).2.2.1
   rw [hpg] at this
   exact absurd this (by simp)
 ·rw [hRe] at g0; cases g0
 ·rw [hRe] at g0; cases g0
section
variable {o : FId} {A : Option Addr} {n cc : Nat} {K : Nat → Prop} {V w w1 w2 : World}
theorem LF.write_new (h : LF c o A n cc K V w w1 st) (hk : CK c) (hB : Below w1.heap.size w1 w2) (a : Nat) (ys : List Int) (g m c' : Nat) (hz : Nums w2 .u8 (some ⟨g, 0, none⟩) m ys) (hg : w1.heap.size ≤ g ∧ g < w2.heap.size) (ha : a < c.M) (hn : m ≤ 64) (R : FT × Int) (hR : putG c 100 3 65 st 1 a ys = some R) :
  Calls Try.prog 18 #[.pointer (some ⟨o.bf, 0, none⟩), .int .i64 (a : Int), .slice (some ⟨g, 0, none⟩) m c'] w2 fun e w' => e = .returned (.int .i64 R.2) ∧ LF c o A n cc K V w w' R.1 := by
 have hL := h.more (K' := fun x => K x ∨ x = g) hB (fun x hx => by
  rcases hx with hx | hx
  ·exact .inl hx
  ·exact .inr (by rw [hx]; exact hg)) (fun x hx => .inl hx)
 refine (hL.write hk a ys _ m c' hz (fun _ ad had => by
  injection had with had
  rw [← had]
  exact .inr (.inr rfl)) (fun x hx => wf_u8 (hz.wf x hx)) ha hn R hR).mono ?_
 rintro e w' ⟨he, hL'⟩
 exact ⟨he, hL'.back (fun x hx => ⟨.inl hx, (hB.block x (h.fr.mineQ x (.inr hx)).2.1).trans (h.heap hx)⟩) h.old⟩
end
end
end Go.Proofs.Ytpcbpljdiacbmaa.Ftl

namespace Go.Proofs.Ytpcbpljdiacbmaa.Ftl
open Go.RowKit Go.Proofs.Ytpcbpljdiacbmaa.Kit Go.Proofs.Ytpcbpljdiacbmaa.Oct Go.Proofs.Ytpcbpljdiacbmaa.Sheet Go.Proofs.Ytpcbpljdiacbmaa.Nand Go.Proofs.Ytpcbpljdiacbmaa.Plan Go.Proofs.Ytpcbpljdiacbmaa.Scan Go.Proofs.Ytpcbpljdiacbmaa.Pmap Go.Proofs.Ytpcbpljdiacbmaa.Pool

section
variable {c : FC} {o : FId} {A : Option Addr} {n cc b s a : Nat} {K K' : Nat → Prop} {V w w1 w2 : World} {st : FT} {N N' : NA} {c0 cx : Nat → Option (Int × Fo)} {D : Nat → Option (List Int)} {R : FT × Int} {ys : List Int}
/-- Below the fence nothing is written. -/
theorem fenced_put (hA : At c st) (ha : st.N.armed = 0) (hh : ∀ i : Nat, (i : Int) ∈ c.xs → Hale1 st.N i) (hf : (c.ep : Int) < st.N.fence) (hp : PutO c st 7000 a ys R) (ho : Ops c.ep st.N R.1.N) : R.2 = 7 ∧ At c R.1 ∧ R.1.N = st.N ∧ Vof (cF R.1) = Vof (cF st) ∧ R.1.seq ≤ st.seq + 7000 := by
 rcases hp with ⟨g0, g1, g2, g3, g4, g5⟩ | ⟨g0, g1, g2, g3, g4, g5⟩ | ⟨g0, g1⟩ | ⟨g0, g1, g2, g3, g4, g5⟩
 ·omega
 ·exact ⟨g0, g2, g3, g4, g5⟩
 ·exfalso
  have := ho.on ha hA.cor.on
  rw [g1.1] at this
  cases this
 ·exfalso
  have : cntH R.1.hs 3 = 0 := by
   rw [dead_count g1.pol]
   refine cnum_zero 64 (fun i hi => ?_)
   by_cases hx : (i : Int) ∈ c.xs
   ·rw [(ho.hale (hh i hx)).2.2, Bool.and_false]
   ·rw [decide_eq_false hx, Bool.false_and]
  omega
theorem lmount3 (hk : CK c) (hR : Run (fun _ => False) w w1 b N (withA K A) w1) (hKA : ∀ g, K g → ∀ ad, A = some ad → g ≠ ad.block) (hg : Geo w1 c.nb c.np (c.S : Int) A n cc c.bad) (hA : AOk c N c0 s) (hon : N.off = false) (har : N.armed = 0) (hh : ∀ i : Nat, (i : Int) ∈ c.xs → Hale1 N i) (hfe : N.fence ≤ (c.ep : Int)) (hset : SetN c N cx) :
  Calls Try.prog 16 #[.pointer (some ⟨b, 0, none⟩), .agg #[.int .i64 (c.nb : Int), .int .i64 (c.np : Int), .int .i64 (c.S : Int), .slice A n cc], .int .u64 (c.ep : Int)] w1 fun e w' => ∃ o st, o.ba = b ∧ e = .returned (.tuple #[.pointer (some ⟨o.bf, 0, none⟩), .int .i64 0]) ∧ LF c o A n cc K w1 w w' st ∧ At c st ∧ Vof (cF st) = Vof c0 ∧ st.N = N := by
 have hR0 := hR
 obtain ⟨F', r1, r2, r3, r4⟩ := hR
 refine (mount_run r1 hA.lb hA.lp hon hA.bytes hA.er A n cc hg (fun ad had => ⟨(r4 _ (.inr ⟨ad, had, rfl⟩)).2.2.1, (r4 _ (.inr ⟨ad, had, rfl⟩)).1⟩) hk.ok hk.M hk.ep.1 hk.ep.2).mono ?_
 rintro e w' ⟨o, L, at', has, cnt, st0, FL, R, q1, q2, q3, q4, q5, q6, q7, q8, q9, q10, q11, q12, q13⟩
 obtain ⟨m1, m2, m3⟩ := mount_start hk hA hon q4 q5 q6 q7 q8
 have hm := mountF_law hk (q := qOf FL) m1
 rw [q9, m2] at hm
 have ho := mountF_ops c (qOf FL) st0
 rw [q9] at ho
 have eN : st0.N = N := by rw [q5]
 rw [eN] at ho
 have hstill : R.1.N = N := by
  rw [← q9, mountF_still c (qOf FL) st0 (hset.counts m1 eN (mount_new hk hA hon q4 q5 q6 q7 q8))]
  exact eN
 rcases hm with ⟨g0, g1, g2, g3, g4⟩ | ⟨g0, g1⟩ | ⟨g0, g1⟩
 ·exact ⟨o, R.1, q1, q10 g0, mount_lf hR0 hKA (fun g hg => (r2 g hg).resolve_left id) (fun g hg => (r4 g hg).1) q3 q2 q12 q13, g1, g2, hstill⟩
 ·omega
 ·exfalso
  have := g1.1
  rw [hstill, hon] at this
  cases this
end
set_option maxRecDepth 100000 in
set_option maxHeartbeats 4000000 in
theorem law_fences (n : Int) (hn : 0 ≤ n ∧ n ≤ 255) (C : Option Addr) (l d : Nat) (xs : Nat → FAct) (bv : Int) (hbv : 0 ≤ bv ∧ bv ≤ 255) (w : World) (hx : Recs w C l 5 FAct.enc FAct.ok xs) :
  Calls Try.prog 9 #[.int .u8 n, .slice C l d, .int .u8 bv] w fun e w' => e = .returned (.bool true) ∧ Below w.heap.size w w' := by
 have hl63 : (l : Int) ≤ 9223372036854775807 := by have := hx.most; omega
 have Hx := hid hx
 clear hx
 obtain ⟨bv, rfl⟩ := Int.eq_ofNat_of_zero_le hbv.1
 obtain ⟨n, rfl⟩ := Int.eq_ofNat_of_zero_le hn.1
 have hn : n < 256 := by omega
 have hk : CK (cG n 1) := cG_ok hn (by omega) (by omega)
 have hgeo : ∀ W, Calls Try.prog 14 #[.int .u8 (n : Int)] W fun e w' => ∃ A m cp, e = .returned (.agg #[.int .i64 ((cG n 1).nb : Int), .int .i64 ((cG n 1).np : Int), .int .i64 ((cG n 1).S : Int), .slice A m cp]) ∧ Geo w' (cG n 1).nb (cG n 1).np ((cG n 1).S : Int) A m cp (cG n 1).bad ∧ Below W.heap.size W w' ∧ ∀ ad, A = some ad → W.heap.size ≤ ad.block ∧ ad.block < w'.heap.size := fun W => geometry_low n hn W
 have hbad : ∀ x ∈ (cG n 1).bad, 0 ≤ x ∧ x < ((cG n 1).nb : Int) := geo_bad ⟨n, hn⟩
 have hcM : Plan.cap ((cG n 1).nb : Int) ((cG n 1).np : Int) ((cG n 1).S : Int) (cG n 1).bad = ((cG n 1).M : Int) - 1 := hk.ok
 have hM61 : (cG n 1).M ≤ 61 := by
  have h := (geo_more ⟨n, hn⟩).2.2.2
  have h : capN n ≤ 60 := h
  show capN n + 1 ≤ 61
  omega
 have hnb : 5 ≤ (cG n 1).nb ∧ (cG n 1).nb ≤ 9 := by show 5 ≤ gB n ∧ gB n ≤ 9; unfold gB; omega
 have hnp : 2 ≤ (cG n 1).np ∧ (cG n 1).np ≤ 5 := by show 2 ≤ gP n ∧ gP n ≤ 5; unfold gP; omega
 generalize cG n 1 = c at *
 have Hk := hid hk
 have Hbad := hid hbad
 have HcM := hid hcM
 have hM1 := hk.M
 clear hk hbad hcM
 go_enter Try.func9, Try.ntmps9
 go_wp2_with fail
 refine (awake_ftl w).mono ?_
 rintro e w0 ⟨rfl, hB0⟩
 have hgeo' := hgeo w0
 clear hgeo
 go_wp2_with fail
 refine hgeo'.mono ?_
 rintro e w1 ⟨A, m, cp, rfl, hg1, hB1, hA1⟩
 clear hgeo'
 go_upto_region 4 with (fail)
 generalize hw2 : World.alloc w1 _ = w2
 obtain ⟨g1, hg1e⟩ : ∃ g, w1.heap.size = g := ⟨_, rfl⟩
 have hB2 : Below w1.heap.size w1 w2 := by rw [← hw2]; exact (Below.refl _ _).alloc (Nat.le_refl _) _
 have hb1 : Blk w2 g1 #[.int .i64 (c.nb : Int), .int .i64 (c.np : Int), .int .i64 (c.S : Int), .slice A m cp] 26 := by rw [← hw2, ← hg1e]; exact Blk.new _ _ _
 have hg2 := hg1.later hB2
 have hB02 := hB0.trans ((hB1.trans (hB2.mono hB1.size)).mono hB0.size)
 have hnew := new_run c.nb c.np A m cp c.bad (gk g1) w w2 hB02 (by omega) (by omega) hg2.nums Hbad.out (fun g hg => by
  have h1 := hB1.size
  have h2 := hb1.lt
  have h3 := hB0.size
  rcases hg with hg | ⟨ad, had, rfl⟩
  ·have hg : g = g1 := hg
   rw [hg]
   omega
  ·have := hA1 ad had
   omega)
 have hne : ∀ g, gk g1 g → ∀ ad, A = some ad → g ≠ ad.block := fun g hg ad had => by
  have hg : g = g1 := hg
  have := hA1 ad had
  omega
 obtain ⟨z0, z1, z2, z3⟩ := geo_four hb1
 rw [hg1e]
 have Hne := hid hne
 have Hb1 := hid hb1
 have Hg2 := hid hg2
 clear hw2 hg1e hB1 hB2 hb1 hg1 hg2 hA1 hne hB0 hB02
 go_wp2_with fail
 refine hnew.mono ?_
 rintro e w3 ⟨b, rfl, hR3, hB3⟩
 clear hnew z0 z1 z2 z3
 have hb3 := Hb1.out.later hB3
 have hg3 := Hg2.out.later hB3
 have hke := Hk.out.at (e := 5) (by omega) (by omega)
 have hmt : Calls Try.prog 16 #[.pointer (some ⟨b, 0, none⟩), .agg #[.int .i64 (c.nb : Int), .int .i64 (c.np : Int), .int .i64 (c.S : Int), .slice A m cp], .int .u64 5] w3 fun e w' => ∃ o st, o.ba = b ∧ e = .returned (.tuple #[.pointer (some ⟨o.bf, 0, none⟩), .int .i64 0]) ∧ LF (c.at 5) o A m cp (gk g1) w3 w w' st ∧ Sound (c.at 5) st (Vof (fun _ => none)) 0 ∧ Fil (c.at 5) st 0 ∧ st.N = newA c.nb c.np c.bad := cmount_new (c := c.at 5) hke hR3 Hne.out hg3
 obtain ⟨z0, z1, z2, z3⟩ := geo_four hb3
 have Hb3 := hid hb3
 clear hR3 hB3 hg3 hb3 Hb1 Hg2 Hne Hbad hke
 go_wp2_with fail
 refine hmt.mono ?_
 rintro e w4 ⟨o, st, hob, rfl, hL4, hS4, hfi0, hN0⟩
 clear hmt z0 z1 z2 z3
 subst hob
 have hb4 := hL4.blk (show gk g1 g1 from rfl) Hb3.out
 have HS := hid hS4
 obtain ⟨z0, z1, z2, z3⟩ := geo_four hb4
 have hrc : Calls Try.prog 17 #[.agg #[.int .i64 (c.nb : Int), .int .i64 (c.np : Int), .int .i64 (c.S : Int), .slice A m cp]] w4 fun e w' => e = .returned (.int .i64 ((c.M : Int) - 1)) ∧ Below w4.heap.size w4 w' := by rw [← HcM.out]; exact rcap_geo hL4.geo
 have HL4 := hid hL4
 have Hb4 := hid hb4
 clear hL4 hS4 hb4 Hb3
 go_wp2_with fail
 refine hrc.mono ?_
 rintro e w5 ⟨rfl, hB5⟩
 clear hrc z0 z1 z2 z3
 have hmk := fun W => make_strs W c.M (by omega)
 have hMw : IntKind.i64.wrap ((c.M : Int) - 1 + 1) = (c.M : Int) := by rw [IntWalk.i64_in _ (by omega)]; omega
 go_upto_region 7 with (fail)
 clear hmk
 generalize hw6 : World.alloc w5 _ = w6
 obtain ⟨gn, hgn⟩ : ∃ g, w5.heap.size = g := ⟨_, rfl⟩
 have hB6 : Below w5.heap.size w5 w6 := by rw [← hw6]; exact (Below.refl _ _).alloc (Nat.le_refl _) _
 have hbn : Blk w6 gn (strs (List.replicate c.M [])) 9 := by rw [← hw6, ← hgn]; exact Blk.new _ _ _
 have hB46 := hB5.trans (hB6.mono hB5.size)
 have hL6 := HL4.out.more (K' := gk2 g1 gn) hB46 (fun g hg => by
  rcases hg with hg | hg
  ·exact .inl hg
  ·exact .inr (by rw [hg]; exact ⟨by have := hB5.size; omega, hbn.lt⟩)) (fun g hg => .inl hg)
 have HL := hid hL6
 have Hg := hid (Hb4.out.later hB46)
 have Hn := hid hbn
 rw [hgn]
 have HM := hid (show c.M ≤ 61 ∧ 1 ≤ c.M from ⟨hM61, hM1⟩)
 have h1n := hid (show g1 ≠ gn by have := Hb4.out.lt; have := hB5.size; omega)
 clear hw6 hgn hB5 hB6 hbn hB46 hL6 HL4 Hb4 hMw
 obtain ⟨ba, hba⟩ : ∃ x, o.ba = x := ⟨_, rfl⟩
 rw [hba]
 have hM61 := HM.out.1
 have Hke := hid (Hk.out.at (e := 5) (by omega) (by omega))
 have Hfi := hid hfi0
 clear hfi0 hN0
 go_wp2
 go_loopw [13] (fun t w' => ∃ (k : Nat) (st' : FT) (D : Nat → Option (List Int)) (ys : List (List Int)), k ≤ c.M ∧ t = .int .i64 (k : Int) ∧ LF (c.at 5) o A m cp (gk2 g1 gn) w' w w' st' ∧ Sound (c.at 5) st' D (7000 * k) ∧ Fits c D ys ∧ (∀ a, (D a).isSome = decide (a < k)) ∧ Fil (c.at 5) st' k ∧ Blk w' g1 #[.int .i64 (c.nb : Int), .int .i64 (c.np : Int), .int .i64 (c.S : Int), .slice A m cp] 26 ∧ Blk w' gn (strs ys) 9) (fun t _ => c.M - (intOf t).toNat)
 case atStart => exact ⟨0, st, _, _, by omega, rfl, HL.out, HS.out, Fits.new c, fun a => (by rw [decide_eq_false (by omega)]; rfl), Hfi.out, Hg.out, Hn.out⟩
 case round =>
  clear HL HS Hg Hn Hfi
  obtain ⟨k, st', D, ys, hkl, rfl, hL, hS, hF, hd, hfi, hbg, hbn⟩ := hrel
  by_cases hlt : k < c.M
  ·have hltI : (k : Int) < (c.M : Int) := by omega
   have HL := hid hL
   have HS := hid hS
   have Hf := hid hF
   have Hd := hid hd
   have Hfi := hid hfi
   have Hg := hid hbg
   have Hn := hid hbn
   clear hL hS hF hd hfi hbg hbn
   have hkU : IntKind.u8.wrap (k : Int) = (k : Int) := IntWalk.u8_in _ (by omega)
   have hyb : IsB [(k : Int), (bv : Int)] := fun x hx => by
    rcases List.mem_cons.1 hx with h | h
    ·rw [h]; omega
    ·rw [List.mem_singleton.1 h]; omega
   have hBn : Below wr.heap.size wr (wr.alloc (.cells #[.int .u8 (k : Int), .int .u8 (bv : Int)] 5)) := (Below.refl _ _).alloc (Nat.le_refl _) _
   have n0 := strs_cell (Hn.out.later hBn) k (by rw [Hf.out.1]; exact hlt)
   have f0 := (Hn.out.later hBn).free k
   have hcv : ∀ W : World, (convert 22 9 (.slice (some ⟨W.heap.size, 0, none⟩) 2 2)).run Try.prog (W.alloc (.cells #[.int .u8 (k : Int), .int .u8 (bv : Int)] 5)) = .ok (.string (strOfNums [(k : Int), (bv : Int)])) (W.alloc (.cells #[.int .u8 (k : Int), .int .u8 (bv : Int)] 5)) := fun W => conv_str (nums_lit (heap_alloc_new _ _) rfl (wf_of hyb))
   have hcv := hcv wr
   go_upto_region 11 with (fail)
   clear hcv n0 f0
   have hL2 := HL.out.later hBn
   have HL2 := hid (hL2.now.store gn k (.string (strOfNums [(k : Int), (bv : Int)])) (.inr rfl))
   have hset := (Hn.out.later hBn).set k (.string (strOfNums [(k : Int), (bv : Int)]))
   rw [strs_set] at hset
   have Hn2 := hid hset
   have Hg2 := hid ((Hg.out.later hBn).setOther ⟨gn, k, none⟩ (show g1 ≠ gn from h1n.out) (.string (strOfNums [(k : Int), (bv : Int)])))
   clear hset hBn hL2 HL Hg Hn
   generalize hw2 : (wr.alloc (.cells #[.int .u8 (k : Int), .int .u8 (bv : Int)] 5)).setCell ⟨gn, k, none⟩ (.string (strOfNums [(k : Int), (bv : Int)])) = w2 at *
   clear hw2
   have n0 := strs_cell Hn2.out k (by rw [List.length_set, Hf.out.1]; exact hlt)
   rw [List.getD_eq_getElem?_getD, List.getElem?_set_self (by rw [Hf.out.1]; exact hlt), Option.getD_some] at n0
   obtain ⟨w3, c3, hcv, hB3, hz3, hs3⟩ := str_bytes w2 [(k : Int), (bv : Int)] hyb (by simp)
   obtain ⟨R, r1, r2, r3⟩ := put_ex Hke.out HS.out.rest (by have := HS.out.seq; omega) 1 k [(k : Int), (bv : Int)] hlt (.inl rfl) (by simp) (.inl rfl) hyb
   obtain ⟨q1, q2⟩ := HS.out.put r2 r3
   have hfi9 := Fil.put Hke.out HS.out (by omega) Hfi.out hlt hlt (by have := Hd.out k; rw [decide_eq_false (Nat.lt_irrefl k)] at this; cases hdk : D k; rfl; rw [hdk] at this; cases this) (by simp) hyb r1
   have hwr := HL2.out.write_new Hke.out hB3 k [(k : Int), (bv : Int)] w2.heap.size 2 c3 hz3 ⟨Nat.le_refl _, by omega⟩ hlt (by omega) R r1
   rw [q1] at hwr
   replace hcv : (convert 9 22 (.string (strOfNums [(k : Int), (bv : Int)]))).run Try.prog w2 = .ok (.slice (some ⟨w2.heap.size, 0, none⟩) 2 c3) w3 := hcv
   have HS9 := hid q2
   have Hfi9 := hid hfi9
   clear hz3 hs3 hB3 r1 r2 r3 q1 q2 hfi9
   go_wp2_with fail
   refine hwr.mono ?_
   rintro e w9 ⟨rfl, hL9⟩
   clear hwr hcv n0
   have HL9 := hid hL9.now
   have HF9 := hid (Hf.out.set hlt [(k : Int), (bv : Int)])
   have Hg9 := hid (hL9.blk (.inl rfl) Hg2.out)
   have Hn9 := hid (hL9.blk (.inr rfl) Hn2.out)
   have Hd9 := hid (show ∀ a, (updV D k [(k : Int), (bv : Int)] a).isSome = decide (a < k + 1) from fun a => by
    unfold updV
    by_cases e : a = k
    ·rw [if_pos e, e, decide_eq_true (by omega)]; rfl
    ·rw [if_neg e, Hd.out a, decide_eq_decide]; omega)
   clear hL9 HL2 Hg2 Hn2 HS Hf Hd Hfi
   go_wp2
   go_roundw
   case rel => exact ⟨k + 1, _, _, _, by omega, by go_num, HL9.out, HS9.out.up (by omega), HF9.out, Hd9.out, Hfi9.out, Hg9.out, Hn9.out⟩
   case measure => simp [intOf]; omega
  ·obtain rfl : k = c.M := by omega
   have hset0 := Fil.setN Hke.out hS hfi
   obtain ⟨NF, hNF⟩ : ∃ x : NA, { st'.N with fence := 6 + (bv : Int) } = x := ⟨_, rfl⟩
   have hraise : st'.N.raise (6 + (bv : Int)) = (NF, 0) := by
    unfold NA.raise
    rw [if_neg (by rw [hS.rest.cor.on]; simp), if_neg (by rw [hS.calm.fence]; omega), ← hNF]
   have hbk : ∀ i, NF.blk i = st'.N.blk i := fun i => by subst hNF; rfl
   have hwf := hL.wf.arr (N' := NF) (by subst hNF; rfl) (by subst hNF; rfl) (fun i => by rw [hbk]; exact ⟨rfl, rfl⟩)
   obtain ⟨hat, hcf⟩ := hS.rest.arr (N' := NF) (by subst hNF; rfl) (by subst hNF; rfl) (by subst hNF; exact hS.rest.cor.on) (fun i => by rw [hbk]; exact ⟨rfl, rfl, rfl, rfl⟩)
   have hra := hL.calls (N' := NF) (R := fun e => e = .returned (.int .i64 0)) hwf (fun F' hA => by
    refine (raise_any F' o.ba st'.N (6 + (bv : Int)) wr hA).mono ?_
    rintro e w' ⟨he, h1, h2⟩
    rw [hraise] at he h1
    exact ⟨he, h1.grown (w := wr) wr, h2⟩)
   have hSN : SetN (c.at 5) NF (cF { st' with N := NF }) := by
    have hLe : L0 (c.at 5) NF = L0 (c.at 5) st'.N := L0_congr (fun i hi => by rw [hbk])
    rw [hcf]
    exact ⟨by rw [hLe]; exact hset0.good, fun i hi => by rw [hbk]; exact hset0.each i hi, fun a i x hx => by rw [hLe]; exact hset0.nc a i x hx⟩
   have HNF := hid (show (NF.armed = 0 ∧ NF.off = false ∧ NF.fence = 6 + (bv : Int)) ∧ ∀ i : Nat, (i : Int) ∈ c.xs → Hale1 NF i from ⟨by subst hNF; exact ⟨hS.calm.armed, hS.rest.cor.on, rfl⟩, fun i hi => by unfold Hale1; rw [hbk]; exact hS.calm.hale i hi⟩)
   have HSN := hid hSN
   have Hat := hid hat
   have Hcf := hid (show Vof (cF { st' with N := NF }) = D by rw [hcf]; exact hS.data)
   have Hsq := hid hS.seq
   have Hd := hid (show ∀ a, a < c.M → (D a).isSome = true from fun a ha => by rw [hd a, decide_eq_true ha])
   have Hf := hid hF
   have Hg := hid hbg
   have Hn := hid hbn
   clear hL hS hF hd hfi hbg hbn hset0 hraise hbk hwf hat hcf hSN hNF hlt hkl
   have a1 : IntKind.u64.wrap (bv : Int) = (bv : Int) := IntWalk.u64_in _ (by omega)
   have a2 : IntKind.u64.wrap (6 + (bv : Int)) = 6 + (bv : Int) := IntWalk.u64_in _ (by omega)
   rw [hba] at hra
   go_wp2_with fail
   refine hra.mono ?_
   rintro e w5 ⟨rfl, hL5⟩
   clear hra
   obtain ⟨st5, hst5⟩ : ∃ x : FT, { st' with N := NF } = x := ⟨_, rfl⟩
   have hsq5 : st5.seq ≤ 7000 * c.M := by rw [← hst5]; exact Hsq.out
   have hN5 : st5.N = NF := by rw [← hst5]
   rw [hst5] at hL5 Hat Hcf HSN
   have hop := hL5.ops
   rw [hba, hN5] at hop
   have HL5 := hid hL5.now
   have Hg5 := hid (hL5.blk (.inl rfl) Hg.out)
   have Hn5 := hid (hL5.blk (.inr rfl) Hn.out)
   have Hsq5 := hid hsq5
   have HN5 := hid hN5
   clear hL5 hsq5 hN5 hst5 Hsq Hg Hn
   go_wp2_with fail
   refine hop.mono ?_
   rintro e w6 ⟨rfl, rfl⟩
   clear hop
   obtain ⟨cx, hcx⟩ : ∃ x, cF st5 = x := ⟨_, rfl⟩
   rw [hcx] at HSN
   clear hcx
   go_wp2
   go_loopw [15] (fun t w' => ∃ (k : Nat) (st' : FT), k ≤ l ∧ k ≤ 40 ∧ t = .int .i64 (k : Int) ∧ LF (c.at 5) o A m cp (gk2 g1 gn) w' w w' st' ∧ At (c.at 5) st' ∧ Vof (cF st') = D ∧ st'.seq ≤ 7000 * 61 + 14000 * k ∧ st'.N = NF ∧ Blk w' g1 #[.int .i64 (c.nb : Int), .int .i64 (c.np : Int), .int .i64 (c.S : Int), .slice A m cp] 26 ∧ Blk w' gn (strs ys) 9) (fun t _ => l - (intOf t).toNat)
   case atStart => exact ⟨0, st5, by omega, by omega, rfl, HL5.out, Hat.out, Hcf.out, by have := Hsq5.out; omega, HN5.out, Hg5.out, Hn5.out⟩
   case round =>
    clear HL5 Hat Hcf Hsq5 HN5 Hg5 Hn5
    obtain ⟨k, st', hkl, hk40, rfl, hL, hA, hD, hsq, hN, hbg, hbn⟩ := hrel
    by_cases hlt : k < l
    ·have hltI : (k : Int) < (l : Int) := by omega
     by_cases h40 : k < 40
     ·have h40I : (k : Int) < 40 := by omega
      obtain ⟨bC, oC, rfl, hc⟩ := (Hx.out.below hL.below (fun _ h => h.later hL.below)).at_ k hlt
      obtain ⟨x0, x1, x2, x3, x4⟩ := FAct.cells hc
      generalize (xs k).addr = ad at x1
      obtain ⟨j, hj, hjm⟩ := umod_nat ad c.M (by omega)
      have b1 : IntKind.u64.wrap (c.M : Int) = (c.M : Int) := IntWalk.u64_in _ (by omega)
      have b2 : IntKind.i64.wrap (j : Int) = (j : Int) := IntWalk.i64_in _ (by omega)
      have b3 : (c.M : Int) ≠ 0 := by omega
      obtain ⟨R, r1, r2, r3⟩ := put_ex Hke.out hA (by omega) 1 j [120] hj (.inl rfl) (by simp) (.inl rfl) (fun x hx => by rw [List.mem_singleton.1 hx]; decide)
      obtain ⟨q1, q2, q3, q4, q5⟩ := fenced_put hA (by rw [hN]; exact HNF.out.1.1) (fun i hi => by rw [hN]; exact HNF.out.2 i hi) (by rw [hN, HNF.out.1.2.2]; show (5 : Int) < _; omega) r2 r3
      have hhas : R.1.has.getD j false = true := by
       rw [q2.cor.cf j]
       have h1 := Hd.out j hj
       rw [← hD, ← q4] at h1
       unfold Vof at h1
       cases hcj : cF R.1 j with
       | none => rw [hcj] at h1; cases h1
       | some y => rfl
      obtain ⟨R2, s1, s2, s3⟩ := put_ex Hke.out q2 (by omega) 2 j [] hj (.inr rfl) (by simp) (.inr rfl) (fun x hx => by cases hx)
      obtain ⟨u1, u2, u3, u4, u5⟩ := fenced_put q2 (by rw [q3, hN]; exact HNF.out.1.1) (fun i hi => by rw [q3, hN]; exact HNF.out.2 i hi) (by rw [q3, hN, HNF.out.1.2.2]; show (5 : Int) < _; omega) s2 s3
      have HL := hid hL
      have Hg := hid hbg
      have Hn := hid hbn
      have Hr1 := hid r1
      have Hs1 := hid s1
      have Hh := hid hhas
      have Hu2 := hid u2
      have Hu3 := hid (u3.trans (q3.trans hN))
      have Hu4 := hid (u4.trans (q4.trans hD))
      have Hu5 := hid (show R2.1.seq ≤ 7000 * 61 + 14000 * (k + 1) by omega)
      clear hL hbg hbn r1 r2 r3 q2 q3 q4 q5 hhas s1 s2 s3 u2 u3 u4 u5 hA hD hsq hN hc
      have hcv := Lib.run_convert_bytes_const (P := Try.prog) wr 22 5 #[.int .u8 120] 1 1 Try.underlying22 Try.underlying5
      go_wp2_with fail
      have hBw : Below wr.heap.size wr (wr.alloc (.cells #[.int .u8 120] 5 (1, 2))) := (Below.refl _ _).alloc (Nat.le_refl _) _
      have hwr := HL.out.write_new Hke.out hBw j [120] wr.heap.size 1 1 (nums_lit (xs := [120]) (heap_alloc_new _ _) rfl (wf_of (fun x hx => by rw [List.mem_singleton.1 hx]; decide))) ⟨Nat.le_refl _, by simp⟩ hj (by omega) R Hr1.out
      rw [q1] at hwr
      refine hwr.mono ?_
      rintro e w7 ⟨rfl, hL7⟩
      clear hwr hcv hBw x0 x1 x2 x3 x4
      have htr := hL7.trim Hke.out j hj Hh.out R2 Hs1.out
      rw [u1] at htr
      clear hL7 HL Hr1 Hs1 Hh q1 u1
      go_wp2_with fail
      refine htr.mono ?_
      rintro e w8 ⟨rfl, hL8⟩
      clear htr
      have HL8 := hid hL8.now
      have Hg8 := hid (hL8.blk (.inl rfl) Hg.out)
      have Hn8 := hid (hL8.blk (.inr rfl) Hn.out)
      clear hL8 Hg Hn
      go_wp2
      go_roundw
      case rel => exact ⟨k + 1, _, by omega, by omega, by go_num, HL8.out, Hu2.out, Hu4.out, Hu5.out, Hu3.out, Hg8.out, Hn8.out⟩
      case measure => simp [intOf]; omega
     ·obtain rfl : k = 40 := by omega
      have hke6 := Hk.out.at (e := 6 + bv) (by omega) (by omega)
      have hmt := lmount3 (c := c.at (6 + bv)) (cx := cx) hke6 hL.run hL.apart hL.geo ((hA.aok Hke.out.nb).at (6 + bv)) hA.cor.on (by rw [hN]; exact HNF.out.1.1) (fun i hi => by rw [hN]; exact HNF.out.2 i hi) (by rw [hN, HNF.out.1.2.2]; show _ ≤ ((6 + bv : Nat) : Int); omega) (by rw [hN]; exact HSN.out.at (6 + bv))
      rw [hba, hD] at hmt
      have hmt : Calls Try.prog 16 #[.pointer (some ⟨ba, 0, none⟩), .agg #[.int .i64 (c.nb : Int), .int .i64 (c.np : Int), .int .i64 (c.S : Int), .slice A m cp], .int .u64 (6 + (bv : Int))] wr fun e w' => ∃ o9 st9, o9.ba = ba ∧ e = .returned (.tuple #[.pointer (some ⟨o9.bf, 0, none⟩), .int .i64 0]) ∧ LF (c.at (6 + bv)) o9 A m cp (gk2 g1 gn) wr w w' st9 ∧ At (c.at (6 + bv)) st9 ∧ Vof (cF st9) = D ∧ st9.N = st'.N := by
       rw [show (6 + (bv : Int)) = ((6 + bv : Nat) : Int) by omega]
       exact hmt
      obtain ⟨z0, z1, z2, z3⟩ := geo_four hbg
      have HN := hid hN
      have Hn := hid hbn
      clear hL hA hD hsq hN hbg hbn
      go_wp2_with fail
      refine hmt.mono ?_
      rintro e w9 ⟨o9, st9, hob9, rfl, hL9, hA9, hD9, hN9⟩
      clear hmt z0 z1 z2 z3
      have hop := hL9.ops
      rw [hob9, hN9, HN.out] at hop
      have hbn9 := hL9.blk (.inr rfl) Hn.out
      have hrt := right_any hL9 hke6 hA9 gn c.M ys hbn9 Hf.out.1 (Nat.le_refl _) (fun i hi => by rw [hD9]; exact Hf.out.2 i hi)
      have HL9 := hid hL9
      clear hL9 hA9 hD9 hN9 hbn9 HN Hn hke6
      go_wp2_with fail
      refine hop.mono ?_
      rintro e w10 ⟨rfl, rfl⟩
      clear hop
      go_wp2_with fail
      refine hrt.mono ?_
      rintro e w11 ⟨rfl, hB11⟩
      have HL11 := hid (HL9.out.later hB11)
      clear hrt hB11 HL9
      go_wp2
      go_ret
      exact ⟨rfl, HL11.out.below⟩
    ·obtain rfl : k = l := by omega
     have hke6 := Hk.out.at (e := 6 + bv) (by omega) (by omega)
     have hmt := lmount3 (c := c.at (6 + bv)) (cx := cx) hke6 hL.run hL.apart hL.geo ((hA.aok Hke.out.nb).at (6 + bv)) hA.cor.on (by rw [hN]; exact HNF.out.1.1) (fun i hi => by rw [hN]; exact HNF.out.2 i hi) (by rw [hN, HNF.out.1.2.2]; show _ ≤ ((6 + bv : Nat) : Int); omega) (by rw [hN]; exact HSN.out.at (6 + bv))
     rw [hba, hD] at hmt
     have hmt : Calls Try.prog 16 #[.pointer (some ⟨ba, 0, none⟩), .agg #[.int .i64 (c.nb : Int), .int .i64 (c.np : Int), .int .i64 (c.S : Int), .slice A m cp], .int .u64 (6 + (bv : Int))] wr fun e w' => ∃ o9 st9, o9.ba = ba ∧ e = .returned (.tuple #[.pointer (some ⟨o9.bf, 0, none⟩), .int .i64 0]) ∧ LF (c.at (6 + bv)) o9 A m cp (gk2 g1 gn) wr w w' st9 ∧ At (c.at (6 + bv)) st9 ∧ Vof (cF st9) = D ∧ st9.N = st'.N := by
      rw [show (6 + (bv : Int)) = ((6 + bv : Nat) : Int) by omega]
      exact hmt
     obtain ⟨z0, z1, z2, z3⟩ := geo_four hbg
     have HN := hid hN
     have Hn := hid hbn
     clear hL hA hD hsq hN hbg hbn
     go_wp2_with fail
     refine hmt.mono ?_
     rintro e w9 ⟨o9, st9, hob9, rfl, hL9, hA9, hD9, hN9⟩
     clear hmt z0 z1 z2 z3
     have hop := hL9.ops
     rw [hob9, hN9, HN.out] at hop
     have hbn9 := hL9.blk (.inr rfl) Hn.out
     have hrt := right_any hL9 hke6 hA9 gn c.M ys hbn9 Hf.out.1 (Nat.le_refl _) (fun i hi => by rw [hD9]; exact Hf.out.2 i hi)
     have HL9 := hid hL9
     clear hL9 hA9 hD9 hN9 hbn9 HN Hn hke6
     go_wp2_with fail
     refine hop.mono ?_
     rintro e w10 ⟨rfl, rfl⟩
     clear hop
     go_wp2_with fail
     refine hrt.mono ?_
     rintro e w11 ⟨rfl, hB11⟩
     have HL11 := hid (HL9.out.later hB11)
     clear hrt hB11 HL9
     go_wp2
     go_ret
     exact ⟨rfl, HL11.out.below⟩
end Go.Proofs.Ytpcbpljdiacbmaa.Ftl
