import Derived.Test.YtpcbpljdiacbmaaJFtlLaw
import Derived.Lib.ConvBytes
import Derived.Deep.DeepCutAuto
set_option linter.unusedVariables false
set_option linter.unusedSimpArgs false
namespace Go.Proofs.Ytpcbpljdiacbmaa.Scan
open Go.RowKit Go.Proofs.Ytpcbpljdiacbmaa.Kit Go.Proofs.Ytpcbpljdiacbmaa.Oct Go.Proofs.Ytpcbpljdiacbmaa.Sheet Go.Proofs.Ytpcbpljdiacbmaa.Nand Go.Proofs.Ytpcbpljdiacbmaa.Plan Go.Proofs.Ytpcbpljdiacbmaa.Log Go.Proofs.Ytpcbpljdiacbmaa.Pmap Go.Maps
theorem rus_any {w : World} {nb np : Nat} {S : Int} {A : Option Addr} {n c : Nat} {bad : List Int} (h : Geo w nb np S A n c bad) :
  Calls Try.prog 27 #[.agg #[.int .i64 (nb : Int), .int .i64 (np : Int), .int .i64 S, .slice A n c]] w fun e w' => ∃ U d, e = .returned (.slice U (us nb bad).length d) ∧ Nums w' .i64 U (us nb bad).length (us nb bad) ∧ (∀ a, U = some a → w.heap.size ≤ a.block) ∧ Below w.heap.size w w' := by
 have hb := h.bd
 refine (rusable_any (nb : Int) (np : Int) S A n c bad w h.nums (by omega)).mono ?_
 rintro e w' ⟨v, rfl, ho, hB⟩
 rw [Int.toNat_natCast] at ho
 obtain ⟨U, d, rfl, -, hz⟩ := own_nums ho (us_wf (bad := bad) hb.2.1)
 exact ⟨U, d, rfl, hz, fun a ha => own_low ho a.block (by rw [ha]; rfl), hB⟩
end Go.Proofs.Ytpcbpljdiacbmaa.Scan

namespace Go.Proofs.Ytpcbpljdiacbmaa.Ftl
open Go.RowKit Go.Proofs.Ytpcbpljdiacbmaa.Kit Go.Proofs.Ytpcbpljdiacbmaa.Oct Go.Proofs.Ytpcbpljdiacbmaa.Sheet Go.Proofs.Ytpcbpljdiacbmaa.Nand Go.Proofs.Ytpcbpljdiacbmaa.Plan Go.Proofs.Ytpcbpljdiacbmaa.Scan Go.Proofs.Ytpcbpljdiacbmaa.Pmap Go.Proofs.Ytpcbpljdiacbmaa.Pool

/-! Strings as bytes; all addresses are full. -/
section
variable {c : FC} {o : FId} {A : Option Addr} {n cc s a : Nat} {K K' : Nat → Prop} {V w w1 w2 : World} {st : FT} {D : Nat → Option (List Int)}
/-- How many addresses have a page. -/
theorem LF.clen (h : LF c o A n cc K V w w1 st) (hS : Sound c st D s) :
  Calls Try.prog 26 #[.pointer (some ⟨o.bf, 0, none⟩)] w1 fun e w' => e = .returned (.int .i64 (cnum (fun a => (D a).isSome) c.M : Int)) ∧ w' = w1 := by
 have h1 := flen_run h.fr h.wf
 rw [h.wf.pi.all] at h1
 rw [cnum_congr (fun a => (D a).isSome) (fun a => st.has.getD a false) c.M (fun a ha => by
  rw [hS.rest.cor.cf a, ← hS.data]
  unfold Vof
  cases cF st a <;> rfl)]
 exact h1
end
theorem LF.ops {c : FC} {o : FId} {A : Option Addr} {n cc : Nat} {K : Nat → Prop} {V w w1 : World} {st : FT} (h : LF c o A n cc K V w w1 st) :
  Calls Try.prog 19 #[.pointer (some ⟨o.ba, 0, none⟩)] w1 fun e w' => e = .returned (.int .i64 st.N.ops) ∧ w' = w1 := by
 obtain ⟨F', hA⟩ := h.arr
 exact ops_any F' o.ba st.N w1 hA
end Go.Proofs.Ytpcbpljdiacbmaa.Ftl

namespace Go.Proofs.Ytpcbpljdiacbmaa.Ftl
open Go.RowKit Go.Proofs.Ytpcbpljdiacbmaa.Kit Go.Proofs.Ytpcbpljdiacbmaa.Oct Go.Proofs.Ytpcbpljdiacbmaa.Sheet Go.Proofs.Ytpcbpljdiacbmaa.Nand Go.Proofs.Ytpcbpljdiacbmaa.Plan Go.Proofs.Ytpcbpljdiacbmaa.Scan Go.Proofs.Ytpcbpljdiacbmaa.Pmap Go.Proofs.Ytpcbpljdiacbmaa.Pool

/-! An array on which each block is empty or has pages that count. -/
structure SetN (c : FC) (N : NA) (c0 : Nat → Option (Int × Fo)) : Prop where
 good : Good c.xs (fun _ => False) (L0 c N) c0
 each : ∀ i : Nat, (i : Int) ∈ c.xs → (N.blk i).failed = false ∧ ((N.blk i).pages = [] ∨ ∃ a x, c0 a = some ((i : Int), x))
 nc : ∀ a i x, c0 a = some (i, x) → ¬ Cop (L0 c N) i
section
variable {c : FC} {o : FId} {A : Option Addr} {n cc b s a : Nat} {K K' : Nat → Prop} {V w w1 w2 : World} {st : FT} {N N' : NA} {c0 c1 : Nat → Option (Int × Fo)} {D : Nat → Option (List Int)} {R : FT × Int} {fe : Int}
theorem SetN.at (h : SetN c N c0) (e : Nat) : SetN (c.at e) N c0 := ⟨h.good, h.each, h.nc⟩
/-- What All found on such an array is what was known. -/
theorem SetN.counts (h : SetN c N c0) (hm : MI c [] (cF st) fe st) (hN : st.N = N) (hn : IsNew c.xs (L0 c N) (cF st)) : ∀ i : Nat, (i : Int) ∈ c.xs → (st.N.blk i).pages = [] ∨ st.cn i ≠ 0 := fun i hi => by
 rw [hN]
 rcases (h.each i hi).2 with g | ⟨a, x, hx⟩
 ·exact .inl g
 ·right
  obtain ⟨g1, g2, g3⟩ := h.good.here a _ x hx
  have hnc := h.nc a _ x hx
  cases hc : cF st a with
  | none => exact absurd g3 (hn.none_ a hc _ g1 hnc x g2)
  | some y =>
   obtain ⟨⟨k1, k2, k3, k4⟩, k5⟩ := hn.some_ a y.1 y.2 hc
   have hle := k5 _ g1 hnc x g2 g3
   have hi2 : y.1 = (i : Int) := by
    rcases h.good.late y.1 k1 y.2 k3 _ x (by rw [k4]; exact hx) with ⟨e1, -⟩ | e | ⟨e, -⟩
    ·exact e1
    ·omega
    ·exact e.elim
   obtain ⟨hh, hat, -, -⟩ := cF_some (i := y.1) (x := y.2) hc
   have := hm.wf.cn_pos hh (b := i) (by rw [← hat, hi2])
   omega
end
end Go.Proofs.Ytpcbpljdiacbmaa.Ftl

namespace Go.Proofs.Ytpcbpljdiacbmaa.Ftl
open Go.RowKit Go.Proofs.Ytpcbpljdiacbmaa.Kit Go.Proofs.Ytpcbpljdiacbmaa.Oct Go.Proofs.Ytpcbpljdiacbmaa.Sheet Go.Proofs.Ytpcbpljdiacbmaa.Nand Go.Proofs.Ytpcbpljdiacbmaa.Plan Go.Proofs.Ytpcbpljdiacbmaa.Scan Go.Proofs.Ytpcbpljdiacbmaa.Pmap Go.Proofs.Ytpcbpljdiacbmaa.Pool

/-! How many pages there are: where blocks are filled one behind the other. -/
theorem usum_ext {u : Nat → Bool} {f g : Nat → Nat} : ∀ m, (∀ i, i < m → u i = true → f i = g i) → usum u f m = usum u g m := by
 intro m
 induction m with
 | zero => intro _; rfl
 | succ m ih =>
  intro h
  show usum u f m + _ = usum u g m + _
  rw [ih (fun i hi => h i (by omega))]
  by_cases e : u m = true
  ·rw [if_pos e, if_pos e, h m (by omega) e]
  ·rw [if_neg e, if_neg e]
theorem usum_upd {u : Nat → Bool} {f g : Nat → Nat} {b : Nat} (hu : u b = true) (h : ∀ i, i ≠ b → g i = f i) : ∀ m, b < m → usum u g m + f b = usum u f m + g b := by
 intro m
 induction m with
 | zero => intro h; omega
 | succ m ih =>
  intro hb
  show usum u g m + (if u m = true then g m else 0) + f b = usum u f m + (if u m = true then f m else 0) + g b
  by_cases e : m = b
  ·subst e
   rw [if_pos hu, if_pos hu, usum_ext (f := g) (g := f) m (fun i hi _ => h i (by omega))]
   omega
  ·have := ih (by omega)
   rw [h m e]
   omega
theorem usum_zero {u : Nat → Bool} : ∀ m, usum u (fun _ => 0) m = 0 := by
 intro m
 induction m with
 | zero => rfl
 | succ m ih =>
  show usum u _ m + _ = 0
  rw [ih]
  split <;> rfl
/-- The sum over the blocks that may be used. -/
def tot (c : FC) (f : Nat → Nat) : Nat := usum (fun i => decide ((i : Int) ∈ c.xs)) f 64
def totP (c : FC) (N : NA) : Nat := tot c (fun i => (N.blk i).pages.length)
def totE (c : FC) (N : NA) : Nat := tot c (fun i => (N.blk i).erases.toNat)
section
variable {c : FC} {st : FT} {N N' : NA} {b : Nat}
theorem tot_upd {f g : Nat → Nat} (hb : (b : Int) ∈ c.xs) (hnb : c.nb ≤ 64) (h : ∀ i, i ≠ b → g i = f i) : tot c g + f b = tot c f + g b := by
 obtain ⟨b', e, -, hn⟩ := xs_nat hb
 exact usum_upd (by simpa using hb) h 64 (by omega)
theorem totP_prog (hb : (b : Int) ∈ c.xs) (hnb : c.nb ≤ 64) (hr : Rest N N' b) (hp : (N'.blk b).pages.length = (N.blk b).pages.length + 1) : totP c N' = totP c N + 1 := by
 have := tot_upd (f := fun i => (N.blk i).pages.length) (g := fun i => (N'.blk i).pages.length) hb hnb (fun i hi => by show (N'.blk i).pages.length = _; rw [hr.other i hi])
 unfold totP
 omega
theorem totE_prog (hb : (b : Int) ∈ c.xs) (hnb : c.nb ≤ 64) (hr : Rest N N' b) (hp : (N'.blk b).erases = (N.blk b).erases) : totE c N' = totE c N := by
 have := tot_upd (f := fun i => (N.blk i).erases.toNat) (g := fun i => (N'.blk i).erases.toNat) hb hnb (fun i hi => by show (N'.blk i).erases.toNat = _; rw [hr.other i hi])
 unfold totE
 simp only [hp] at this
 omega
/-- Each block that is used is full. -/
def Ful (c : FC) (st : FT) : Prop := ∀ i : Nat, (i : Int) ∈ c.xs → hAt st.hs (i : Int) = some 1 → (st.N.blk i).pages.length = c.np
/-- The pages of the used blocks. -/
theorem Ful.used {ex : Nat → Prop} (h : Ful c st) (hp : Pol c st ex) : c.np * cntH st.hs 1 ≤ totP c st.N := by
 have h1 := usum_low (u := fun i => st.hs.getD i none == some 1) (f := fun i => (st.N.blk i).pages.length) (P := c.np) 64 (fun k hk hu => by
  have h1 : hAt st.hs (k : Int) = some 1 := by rw [hAt_nat st.hs k hk]; simpa using hu
  rw [h k (hs_in hp.none_ h1) h1]
  exact Nat.le_refl _)
 refine Nat.le_trans h1 ?_
 unfold totP tot
 have key : ∀ m, m ≤ 64 → usum (fun i => st.hs.getD i none == some 1) (fun i => (st.N.blk i).pages.length) m ≤ usum (fun i => decide ((i : Int) ∈ c.xs)) (fun i => (st.N.blk i).pages.length) m := by
  intro m
  induction m with
  | zero => intro _; exact Nat.le_refl _
  | succ m ih =>
   intro hm
   have := ih (by omega)
   show usum _ _ m + _ ≤ usum _ _ m + _
   by_cases hu : (st.hs.getD m none == some 1) = true
   ·have h1 : hAt st.hs (m : Int) = some 1 := by rw [hAt_nat st.hs m (by omega)]; simpa using hu
    rw [if_pos hu, if_pos (show decide ((m : Int) ∈ c.xs) = true by simpa using hs_in hp.none_ h1)]
    omega
   ·rw [if_neg hu]
    omega
 exact key 64 (Nat.le_refl _)
theorem cap_eq (hk : CK c) : c.M + 1 = c.np * (c.xs.length - c.S - 1) ∧ 1 + c.S < c.xs.length := by
 have hM := hk.ok
 have hM1 := hk.M
 have hnp := hk.np.1
 unfold FC.ok Plan.cap at hM
 have hlen : (usb ((c.nb : Int)).toNat c.bad).length = c.xs.length := by rw [Int.toNat_natCast]; rfl
 rw [hlen] at hM
 by_cases hle : 1 + c.S < c.xs.length
 ·obtain ⟨q, hq⟩ : ∃ q : Nat, c.xs.length = q + c.S + 1 := ⟨c.xs.length - c.S - 1, by omega⟩
  refine ⟨?_, hle⟩
  have e : ((c.xs.length : Nat) : Int) - (c.S : Int) - 1 = (q : Int) := by omega
  rw [e] at hM
  have e2 : c.xs.length - c.S - 1 = q := by omega
  rw [e2]
  have e3 : ((c.np * q : Nat) : Int) = (c.np : Int) * (q : Int) := by simp
  omega
 ·exfalso
  have : (c.np : Int) * ((c.xs.length : Int) - c.S - 1) ≤ (c.np : Int) * 0 := Int.mul_le_mul_of_nonneg_left (by omega) (by omega)
  omega
/-- Which array it is behind making room. -/
def Cleared (c : FC) (st : FT) (N' : NA) : Prop := N' = st.N ∨ ∃ v : Nat, (v : Int) ∈ c.xs ∧ st.cn v = 0 ∧ (st.N.blk v).pages.length = c.np ∧ Rest st.N N' v ∧ (N'.blk v).pages = [] ∧ (N'.blk v).erases = wrap64 ((st.N.blk v).erases + 1)
/-- Room is made without copying. -/
structure Roomy (c : FC) (st st1 : FT) (b : Nat) : Prop where
 rest : At c st1
 ful : Ful c st1
 opn : hAt st1.hs (b : Int) = some 2
 room : (st1.N.blk b).pages.length < c.np
 at' : st1.at' = st.at'
 has : st1.has = st.has
 cnt : st1.cnt = st.cnt
 seq : st1.seq = st.seq
 cf : cF st1 = cF st
 arr : Cleared c st st1.N
theorem open_path (hk : CK c) (h : At c st) (ho : NoOpen st) (hF : Ful c st) (hd : ¬ c.S < cntH st.hs 3) (hr : 1 + c.S < cntH st.hs 0 + cntH st.hs 3) (m k : Nat) : ∃ st1 b, halfG c m (k + 1) st = some (st1, b, 0) ∧ At c st1 ∧ Ful c st1 ∧ hAt st1.hs (b : Int) = some 2 ∧ (st1.N.blk b).pages.length < c.np ∧ st1.N = st.N ∧ st1.at' = st.at' ∧ st1.has = st.has ∧ st1.cnt = st.cnt ∧ st1.seq = st.seq := by
 obtain ⟨d, h1, h2, h3, h4⟩ := open_half hk h ho hd hr m k
 refine ⟨_, d, h1, h2, fun i hi hh => ?_, h3, h4, rfl, rfl, rfl, rfl, rfl⟩
 show (st.N.blk i).pages.length = c.np
 have hdx := hs_in h2.pol.none_ h3
 obtain ⟨d', ed, -, dn⟩ := xs_nat hdx
 obtain ⟨u, -, hu⟩ := h.pol.pool d hdx
 by_cases e : i = d
 ·rw [e, h3] at hh; cases hh
 ·have hu3 : u ≠ 3 := fun x => by
   have h5 := how_dead (c := c) (st := st) (b := d) (v := 2) (by rw [hu, x]) (by omega)
   rw [h5, hu, x] at h3
   cases h3
  rw [how_at h.pol.hl (by have := hk.nb; omega) hu (fun x => absurd x hu3), if_neg (by omega), no_fOpen ho, if_neg (by simp)] at hh
  exact hF i hi hh
set_option maxHeartbeats 2000000 in
theorem room_path (hk : CK c) (h : At c st) (hc : CalmN c st.N) (hF : Ful c st)
  (hz : ∀ st' : FT, At c st' → NoOpen st' → Ful c st' → st'.N = st.N → st'.cnt = st.cnt → cntH st'.hs 0 + cntH st'.hs 3 = 1 + c.S → ∃ v : Nat, (v : Int) ∈ c.xs ∧ hAt st'.hs (v : Int) = some 1 ∧ st'.cn v = 0) :
  ∃ st1 b, roomG c 100 3 st = some (st1, b, 0) ∧ Roomy c st st1 b := by
 have hnb := hk.nb
 -- where no block is open
 have half : ∀ st' : FT, At c st' → NoOpen st' → Ful c st' → st'.N = st.N → st'.at' = st.at' → st'.has = st.has → st'.cnt = st.cnt → st'.seq = st.seq → ∃ st1 b, halfG c 100 2 st' = some (st1, b, 0) ∧ Roomy c st st1 b := by
  intro st' h' ho' hF' hN hat hhas hcnt hsq
  have hcf : ∀ s1 : FT, s1.N = st.N → s1.at' = st.at' → s1.has = st.has → cF s1 = cF st := fun s1 e1 e2 e3 => by
   refine cF_congr e2 e3 (fun a ha => ?_)
   unfold FT.pg
   rw [e1, e2]
  have hc' : CalmN c st'.N := by rw [hN]; exact hc
  have h30 := hc'.none_dead h'.pol
  have hd : ¬ c.S < cntH st'.hs 3 := by omega
  by_cases hr : 1 + c.S < cntH st'.hs 0 + cntH st'.hs 3
  ·obtain ⟨st1, b, g1, g2, g3, g4, g5, g6, g7, g8, g9, g10⟩ := open_path hk h' ho' hF' hd hr 100 1
   exact ⟨st1, b, g1, g2, g3, g4, g5, g7.trans hat, g8.trans hhas, g9.trans hcnt, g10.trans hsq, hcf st1 (g6.trans hN) (g7.trans hat) (g8.trans hhas), .inl (g6.trans hN)⟩
  ·have hrm := h'.room
   obtain ⟨k, kx, k1, kc⟩ := hz st' h' ho' hF' hN hcnt (by omega)
   have hlc := h'.cor.wf.pi.lc
   have hb := bestF_spec st'.hs st'.cnt 1 c.xs (fun x hx => by
    obtain ⟨j, rfl, -, hj⟩ := xs_nat hx
    omega)
   cases hbf : bestF st'.hs st'.cnt 1 c.xs with
   | none => exact absurd (by rw [k1]; rfl) (hb.2 hbf (k : Int) kx)
   | some V =>
    obtain ⟨b1, b2, b3⟩ := hb.1 V hbf
    obtain ⟨v, rfl, v2, vn⟩ := xs_nat b1
    have hv64 : v < 64 := by omega
    have hv : hAt st'.hs (v : Int) = some 1 := by
     obtain ⟨u, -, hu⟩ := h'.pol.pool v b1
     rw [hu] at b2 ⊢
     simp at b2
     rw [b2]
    have hcv0 : 0 ≤ st'.cn v := by
     have := h'.cor.wf.pi.on v vn
     unfold FT.cn
     omega
    have hcv : st'.cn v = 0 := by
     have := b3 (k : Int) kx (by rw [k1]; rfl)
     rw [Int.toNat_natCast, Int.toNat_natCast] at this
     unfold FT.cn at kc hcv0 ⊢
     omega
    have hvp := hF' v b1 hv
    have hcol : collectG c 100 st' = some (eraseF c st' v) := by
     unfold collectG
     rw [hbf]
     unfold colFr
     simp only [Int.toNat_natCast]
     rw [if_pos hcv]
    have hu : halfG c 100 2 st' = if (eraseF c st' v).2 ≠ 0 then some ((eraseF c st' v).1, 0, (eraseF c st' v).2) else roomG c 100 2 (eraseF c st' v).1 := by
     unfold halfG
     rw [if_neg hd, if_neg hr, hcol]
    have hfen : st'.N.fence ≤ (c.ep : Int) := by rw [hc'.fence]; omega
    have hops := eraseF_ops c st' v
    have hE : ∀ (X : FT) (z : Int), eraseF c st' v = (X, z) → X.N = (st'.N.erase (v : Int) c.ep).1 := fun X z e => by
     have : (eraseF c st' v).1.N = (st'.N.erase (v : Int) c.ep).1 := by
      unfold eraseF
      split
      ·rfl
      ·split <;> rfl
     rw [e] at this
     exact this
    rcases h'.cor.erase b1 (by omega) with ⟨e, hf⟩ | ⟨hf, N', hr', hcF, hcase⟩
    ·omega
    ·rcases hcase with ⟨e, hcor, hway, hpg, hhf, hfl, hdd, hL⟩ | ⟨e, hcor, hway, hfl, hdd, hsn, hL, hpg, hhf⟩ | ⟨e, ha1, hoff, ⟨dd', hway⟩, hsn, hfl, hL, hpg, hhf⟩
     ·rw [hu, e]
      simp only
      rw [if_neg (by simp)]
      have P1 := h'.pol.to_free (N' := N') hv64 hv (by omega) hr' hpg hhf hfl hL
      have hat1 := how_at0 (c := c) (s := { st' with N := N' }) (v := 0) h'.pol.hl hv64 hv (fun x => by cases x) (by omega)
      have hno : NoOpen (({ st' with N := N' } : FT).how c v 0) := fun i => by
       rw [hat1]
       split
       ·simp
       ·exact ho' i
      have c1 := fun w => how_cnt (c := c) (st := ({ st' with N := N' } : FT)) (v := 0) (w := w) h'.pol.hl hv64 hv (fun x => by cases x) (.inl (by omega))
      have c10 := c1 0
      have c13 := c1 3
      simp at c10 c13
      have hcap := cap_rest h'.cap hr' (show (N'.blk v).pages.length ≤ c.np by rw [hpg]; exact Nat.zero_le _)
      have hA1 : At c (({ st' with N := N' } : FT).how c v 0) := ⟨hcor.how v 0, P1, hcap, by omega⟩
      have hF1 : Ful c (({ st' with N := N' } : FT).how c v 0) := fun i hi hh => by
       by_cases ei : (i : Int) = (v : Int)
       ·rw [hat1, if_pos ei] at hh; cases hh
       ·rw [hat1, if_neg ei] at hh
        show (N'.blk i).pages.length = c.np
        rw [hr'.other i (by omega)]
        exact hF' i hi hh
      have hc1 : CalmN c (({ st' with N := N' } : FT).how c v 0).N := by
       rw [e] at hops
       exact hc'.ops hops
      have h31 := hc1.none_dead hA1.pol
      rw [roomG_none (no_fOpen hno)]
      obtain ⟨st1, b, g1, g2, g3, g4, g5, g6, g7, g8, g9, g10⟩ := open_path hk hA1 hno hF1 (by omega) (by omega) 100 0
      refine ⟨st1, b, g1, g2, g3, g4, g5, g7.trans hat, g8.trans hhas, g9.trans hcnt, g10.trans hsq, ?_, .inr ⟨v, b1, ?_, ?_, ?_, ?_, ?_⟩⟩
      ·have e1 : cF st1 = cF (({ st' with N := N' } : FT).how c v 0) := cF_congr g7 g8 (fun a ha => by unfold FT.pg; rw [g6, g7])
       rw [e1]
       exact hcF.trans (hcf st' hN hat hhas)
      ·unfold FT.cn at hcv ⊢; rw [← hcnt]; exact hcv
      ·rw [← hN]; exact hvp
      ·rw [g6, ← hN]; exact hr'
      ·rw [g6]; exact hpg
      ·have e1 := hE _ _ e
       rw [g6, ← hN]
       show (N'.blk v).erases = _
       have e1 : N' = (st'.N.erase (v : Int) c.ep).1 := e1
       rcases erase_spec (ep := (c.ep : Int)) (show v < st'.N.bs.length by rw [h'.cor.wf.lb]; exact vn) h'.cor.on with ⟨x, -⟩ | ⟨-, N2, z2, he2, -, hh⟩
       ·omega
       ·rw [he2] at e1
        have e1 : N' = N2 := e1
        subst e1
        rcases hh with ⟨-, -, x, -, y, -⟩ | ⟨-, -, -, x, -⟩ | ⟨-, -, -, -, -, -, -, g⟩
        ·have : N'.off = false := hcor.on
         rw [this] at x; cases x
        ·rw [hpg] at x
         rw [← x] at hvp
         have := hk.np.1
         rw [← hvp] at this
         exact absurd this (by simp)
        ·exact g
     ·exfalso
      have := hc'.hale v b1
      rw [e] at hops
      have h2 := hops.hale this
      have h3 : (N'.blk v).failed = false := h2.2.2
      rw [h3] at hfl
      cases hfl
     ·exfalso
      rw [hc'.armed] at ha1
      cases ha1
 cases ho : fOpen c.xs st.hs with
 | none =>
  rw [roomG_none ho]
  exact half st h (fun i hi => fOpen_none ho _ (hs_in h.pol.none_ hi) hi) hF rfl rfl rfl rfl rfl
 | some x =>
  obtain ⟨h1, h2⟩ := fOpen_mem _ _ _ ho
  obtain ⟨b, rfl, b2, bn⟩ := xs_nat h1
  by_cases hp : (st.N.blk b).pages.length < c.np
  ·exact ⟨st, b, roomG_room ho hp, h, hF, h2, hp, rfl, rfl, rfl, rfl, rfl, .inl rfl⟩
  ·have hb64 : b < 64 := by omega
   obtain ⟨P, hno⟩ := h.pol.to_used hb64 h2 (fun hc => hp ((h.pol.opn b h1 h2).2 hc))
   have c1 := fun w => how_cnt (c := c) (st := st) (v := 1) (w := w) h.pol.hl hb64 h2 (fun x => by cases x) (.inl (by omega))
   have c10 := c1 0
   have c13 := c1 3
   simp at c10 c13
   have hA : At c (st.how c b 1) := ⟨h.cor.how b 1, P, h.cap, by have := h.room; omega⟩
   have hat1 := how_at0 (c := c) (s := st) (v := 1) h.pol.hl hb64 h2 (fun x => by cases x) (by omega)
   have hF1 : Ful c (st.how c b 1) := fun i hi hh => by
    show (st.N.blk i).pages.length = c.np
    by_cases ei : (i : Int) = (b : Int)
    ·have : i = b := by omega
     have := h.cap b
     subst_vars
     omega
    ·rw [hat1, if_neg ei] at hh
     exact hF i hi hh
   rw [roomG_full ho hp]
   exact half (st.how c b 1) hA hno hF1 rfl rfl rfl rfl rfl
end
end Go.Proofs.Ytpcbpljdiacbmaa.Ftl

namespace Go.Proofs.Ytpcbpljdiacbmaa.Ftl
open Go.RowKit Go.Proofs.Ytpcbpljdiacbmaa.Kit Go.Proofs.Ytpcbpljdiacbmaa.Oct Go.Proofs.Ytpcbpljdiacbmaa.Sheet Go.Proofs.Ytpcbpljdiacbmaa.Nand Go.Proofs.Ytpcbpljdiacbmaa.Plan Go.Proofs.Ytpcbpljdiacbmaa.Scan Go.Proofs.Ytpcbpljdiacbmaa.Pmap Go.Proofs.Ytpcbpljdiacbmaa.Pool

/-! A page is written without copying. -/
section
variable {c : FC} {st : FT} {N N' : NA} {a b s : Nat} {D : Nat → Option (List Int)} {R : FT × Int} {ys : List Int}
/-- What is known of a page that was written so. -/
structure PutP (c : FC) (st : FT) (a : Nat) (R : FT × Int) (st1 : FT) (b : Nat) (N' : NA) : Prop where
 roomy : Roomy c st st1 b
 is : R = (st1.put N' b a, 0)
 rest : Rest st1.N N' b
 len : (N'.blk b).pages.length = (st1.N.blk b).pages.length + 1
 er : (N'.blk b).erases = (st1.N.blk b).erases
 ful : Ful c R.1
 page : ∃ p : Pg, p.f = 0 ∧ L0 c N' = putL (L0 c st1.N) (b : Int) ((st1.N.blk b).pages.length, p)
set_option maxHeartbeats 1000000 in
theorem put_path (hk : CK c) (hS : Sound c st D s) (hs : s + 7000 ≤ 281474976710000) (hF : Ful c st) (ha : a < c.M) (hy : ys.length ≤ 64) (hB : IsB ys)
  (hz : ∀ st' : FT, At c st' → NoOpen st' → Ful c st' → st'.N = st.N → st'.cnt = st.cnt → cntH st'.hs 0 + cntH st'.hs 3 = 1 + c.S → ∃ v : Nat, (v : Int) ∈ c.xs ∧ hAt st'.hs (v : Int) = some 1 ∧ st'.cn v = 0)
  (hR : putG c 100 3 65 st 1 a ys = some R) : ∃ st1 b N', PutP c st a R st1 b N' := by
 obtain ⟨st1, b, h1, hr⟩ := room_path hk hS.rest hS.calm hF hz
 obtain ⟨r, g1, g2⟩ := putG_step hR
 rw [h1] at g1
 injection g1 with g1
 subst g1
 have hops := roomG_ops c 100 3 st _ h1
 have hc1 := hS.calm.ops hops
 have hbx := hs_in hr.rest.pol.none_ hr.opn
 obtain ⟨b', eb, b2, bn⟩ := xs_nat hbx
 have hbn : b < c.nb := by omega
 have hopn := hr.rest.pol.opn b hbx hr.opn
 have hsq := hr.seq
 have hse := hS.seq
 have hM16 := hk.M16
 obtain ⟨p, hp⟩ : ∃ p : Pg, p = ⟨1, c.ep, st1.seq + 1, a, 0, ys⟩ := ⟨_, rfl⟩
 have hokp : p.ok := by
  rw [hp]
  exact ⟨by simp, by simp, hk.ep.2, by show st1.seq + 1 < _; omega, by show a < _; omega, by show 0 ≤ 64; omega, hy, .inl rfl, hB⟩
 have hpr : st1.N.prog (b : Int) ((st1.N.blk b).pages.length : Int) (st1.next c 1 a 0 ys) c.ep = st1.prg c b 1 a 0 ys := rfl
 have hE := (prog_gen st1.N b (st1.next c 1 a 0 ys) (c.ep : Int))
 rw [hpr] at hE
 have hfen : st1.N.fence ≤ (c.ep : Int) := by rw [hc1.fence]; omega
 rcases g2 with ⟨x, -⟩ | ⟨-, -, r2, q1, q2⟩
 ·exact absurd rfl x
 ·have hops2 := programF_ops c st1 b 1 a 0 ys
  rcases hr.rest.cor.prog (f := 0) (a := a) (K := 1) (ys := ys) hbx hopn.1 hr.room hk.np.2 p hp hokp (by decide) ha with ⟨hP, hf⟩ | ⟨hf, N', hr', hh', hcase⟩
  ·omega
  ·rcases hcase with ⟨hP, ha1, -⟩ | ⟨hP, hcor, hway, hfl, hdd, hpl, hL, hcF⟩ | ⟨hP, hon, hway, hpg, hfl, hdd, hfw', hL, hcF⟩
   ·exfalso
    rw [hc1.armed] at ha1
    cases ha1
   ·exfalso
    rw [hP] at hops2
    have h2 := hops2.hale (hc1.hale b hbx)
    have h3 : (N'.blk b).failed = false := h2.2.2
    rw [h3] at hfl
    cases hfl
   ·have e0 : r2 = (st1.put N' b a, 0) := by rw [← q1]; exact hP
    have hRe : R = (st1.put N' b a, 0) := by
     rcases q2 with ⟨-, q⟩ | ⟨q, -⟩
     ·rw [q, e0]
     ·rw [e0] at q; cases q
    refine ⟨st1, b, N', hr, hRe, hr', by rw [hpg, List.length_append]; rfl, ?_, ?_, p, by rw [hp], hL⟩
    ·have hNe : (st1.prg c b 1 a 0 ys).1 = N' := by
      have hP2 := hP
      unfold programF at hP2
      split at hP2
      ·injection hP2 with _ x
       cases x
      ·split at hP2
       ·injection hP2 with x _
        exact congrArg FT.N x
       ·rename_i h8 h0
        injection hP2 with _ x
        exact absurd x h0
     rcases hE with e | ⟨-, -, e⟩
     ·exfalso
      rw [hNe] at e
      rw [e] at hpg
      have := congrArg List.length hpg
      simp at this
     ·rw [hNe] at e
      exact e
    ·rw [hRe]
     intro i hi h1'
     have h1' : hAt st1.hs (i : Int) = some 1 := h1'
     show (N'.blk i).pages.length = c.np
     have hib : i ≠ b := fun e => by
      rw [e, hr.opn] at h1'
      cases h1'
     rw [hr'.other i hib]
     exact hr.ful i hi h1'
/-- The counts where an address gets its first page. -/
theorem cn_first (hw : FWf c st) (hb : b < c.nb) (ha : st.has.getD a false = false) (i : Nat) : (st.put N' b a).cn i = if i = b then st.cn b + 1 else st.cn i := by
 have hlc := hw.pi.lc
 have ed : dcnt st.at' st.has st.cnt a = st.cnt := by
  unfold dcnt
  rw [ha]
  simp
 show (scnt st.at' st.has st.cnt a b).getD i 0 = _
 unfold scnt
 rw [ed, getD_setI _ b i (by omega)]
 rfl
/-- While all addresses get their first page. -/
structure Fil (c : FC) (st : FT) (k : Nat) : Prop where
 ful : Ful c st
 pages : totP c st.N = k
 each : ∀ i : Nat, (i : Int) ∈ c.xs → (st.N.blk i).pages = [] ∨ 1 ≤ st.cn i
 own : ∀ i, ∀ x ∈ L0 c st.N i, x.2.f = 0
theorem Fil.put (hk : CK c) (hS : Sound c st D s) (hs : s + 7000 ≤ 281474976710000) {k : Nat} (hF : Fil c st k) (hkM : k < c.M) (ha : a < c.M) (hD : D a = none) (hy : ys.length ≤ 64) (hB : IsB ys) (hR : putG c 100 3 65 st 1 a ys = some R) : Fil c R.1 (k + 1) := by
 have hnb := hk.nb
 obtain ⟨hcap, hlen⟩ := cap_eq hk
 obtain ⟨st1, b, N', hp⟩ := put_path hk hS hs hF.ful ha hy hB (fun st' h' ho' hF' hN' hc' hr' => by
  exfalso
  have h1 := xs_le hnb h'.pol ho'
  have h2 := hF'.used h'.pol
  rw [hN', hF.pages] at h2
  have h3 : c.np * (c.xs.length - c.S - 1) ≤ c.np * cntH st'.hs 1 := Nat.mul_le_mul_left _ (by omega)
  omega) hR
 have hr := hp.roomy
 have hN1 : st1.N = st.N := by
  rcases hr.arr with e | ⟨v, vx, vc, vp, -⟩
  ·exact e
  ·exfalso
   rcases hF.each v vx with e | e
   ·rw [e] at vp
    have := hk.np.1
    rw [← vp] at this
    exact absurd this (by simp)
   ·omega
 have hbx := hs_in hr.rest.pol.none_ hr.opn
 obtain ⟨b', eb, -, bn⟩ := xs_nat hbx
 have hha : st1.has.getD a false = false := by
  rw [hr.has]
  have := hS.rest.cor.cf a
  rw [this]
  rw [← hS.data] at hD
  unfold Vof at hD
  cases hc : cF st a with
  | none => rfl
  | some y => rw [hc] at hD; cases hD
 have hcn := cn_first (N' := N') hr.rest.cor.wf (show b < c.nb by omega) hha
 have hRe := hp.is
 refine ⟨hp.ful, ?_, fun i hi => ?_, fun i x hx => ?_⟩
 ·rw [hRe]
  show totP c N' = k + 1
  rw [totP_prog hbx hnb hp.rest hp.len, hN1, hF.pages]
 ·rw [hRe]
  show (N'.blk i).pages = [] ∨ 1 ≤ (st1.put N' b a).cn i
  rw [hcn i]
  by_cases e : i = b
  ·rw [if_pos e]
   right
   have := hr.rest.cor.wf.pi.on b (by omega)
   unfold FT.cn
   omega
  ·rw [if_neg e, hp.rest.other i e, hN1]
   have := hF.each i hi
   unfold FT.cn at this ⊢
   rw [hr.cnt]
   exact this
 ·rw [hRe] at hx
  have hx : x ∈ L0 c N' i := hx
  obtain ⟨p, hpf, hL⟩ := hp.page
  rw [hL, hN1] at hx
  rcases putL_mem hx with ⟨-, e⟩ | hx
  ·rw [e]; exact hpf
  ·exact hF.own i x hx
theorem mloop_empty (c : FC) (q : Nat → Nat) : ∀ (l : List Int) (m : FT × Nat × Int), (∀ i : Nat, (i : Int) ∈ l → (m.1.N.blk i).pages = [] ∧ (m.1.N.blk i).failed = false) → (∀ x ∈ l, 0 ≤ x) → mloop c q l m = (m, 0) := by
 intro l
 induction l with
 | nil => intro m _ _; rfl
 | cons x l ih =>
  intro m h hx
  obtain ⟨k, rfl⟩ := Int.eq_ofNat_of_zero_le (hx x List.mem_cons_self)
  obtain ⟨s0, nw, op⟩ := m
  obtain ⟨h1, h2⟩ := h k List.mem_cons_self
  have e := m_empty (c := c) (q := q) (b := k) (nw := nw) (op := op) (s := s0) (by rw [show (s0.N.blk k).failed = false from h2]; simp) (by rw [show (s0.N.blk k).pages = [] from h1]; rfl)
  have e : mstep c q k (s0, nw, op) = ((s0, nw, op), 0) := e
  rw [mloop_cons]
  rw [e, if_neg (by simp)]
  exact ih _ (fun i hi => h i (List.mem_cons_of_mem _ hi)) (fun y hy => hx y (List.mem_cons_of_mem _ hy))
/-- A new array is mounted. -/
theorem cmount_new {w w1 : World} {A : Option Addr} {n cc b : Nat} {K : Nat → Prop} (hk : CK c) (hR : Run (fun _ => False) w w1 b (newA c.nb c.np c.bad) (withA K A) w1) (hKA : ∀ g, K g → ∀ ad, A = some ad → g ≠ ad.block) (hg : Geo w1 c.nb c.np (c.S : Int) A n cc c.bad) :
  Calls Try.prog 16 #[.pointer (some ⟨b, 0, none⟩), .agg #[.int .i64 (c.nb : Int), .int .i64 (c.np : Int), .int .i64 (c.S : Int), .slice A n cc], .int .u64 (c.ep : Int)] w1 fun e w' => ∃ o st, o.ba = b ∧ e = .returned (.tuple #[.pointer (some ⟨o.bf, 0, none⟩), .int .i64 0]) ∧ LF c o A n cc K w1 w w' st ∧ Sound c st (Vof (fun _ => none)) 0 ∧ Fil c st 0 ∧ st.N = newA c.nb c.np c.bad := by
 have hR0 := hR
 obtain ⟨F', r1, r2, r3, r4⟩ := hR
 have hA := AOk.new hk
 have hcm : CalmN c (newA c.nb c.np c.bad) := CalmN.new
 refine (mount_run r1 hA.lb hA.lp rfl hA.bytes hA.er A n cc hg (fun ad had => ⟨(r4 _ (.inr ⟨ad, had, rfl⟩)).2.2.1, (r4 _ (.inr ⟨ad, had, rfl⟩)).1⟩) hk.ok hk.M hk.ep.1 hk.ep.2).mono ?_
 rintro e w' ⟨o, L, at', has, cnt, st0, FL, R, q1, q2, q3, q4, q5, q6, q7, q8, q9, q10, q11, q12, q13⟩
 obtain ⟨m1, m2, m3⟩ := mount_start hk hA rfl q4 q5 q6 q7 q8
 have hm := mountF_law hk (q := qOf FL) m1
 have eN : st0.N = newA c.nb c.np c.bad := by rw [q5]
 have hpg := newA_pages c.nb c.np c.bad
 have hRe : R = (st0, 0) := by
  rw [← q9]
  have := mloop_empty c (qOf FL) c.xs (st0, 0, -1) (fun i hi => ⟨by show (st0.N.blk i).pages = []; rw [eN, hpg], by show (st0.N.blk i).failed = false; rw [eN]; exact (hcm.hale i hi).2.2⟩) (fun x hx => by obtain ⟨k, rfl, -⟩ := xs_nat hx; omega)
  unfold mountF
  simp only [this]
  rfl
 rw [q9, m2] at hm
 rcases hm with ⟨g0, g1, g2, g3, g4⟩ | ⟨g0, g1⟩ | ⟨g0, g1⟩
 ·refine ⟨o, R.1, q1, q10 g0, mount_lf hR0 hKA (fun g hg => (r2 g hg).resolve_left id) (fun g hg => (r4 g hg).1) q3 q2 q12 q13, ⟨g1, g2, Nat.le_trans g4 m3, by rw [hRe]; show CalmN c st0.N; rw [eN]; exact hcm⟩, ?_, by rw [hRe]; exact eN⟩
  rw [hRe]
  refine ⟨fun i hi h1 => ?_, ?_, fun i hi => .inl (by show (st0.N.blk i).pages = []; rw [eN, hpg]), fun i x hx => ?_⟩
  ·exfalso
   have hhs : st0.hs = newH c.xs := by rw [q5]; rfl
   have h1 : hAt st0.hs (i : Int) = some 1 := h1
   rw [hhs, newH_at c.xs (xs_64 hk.nb), if_pos hi] at h1
   cases h1
  ·show totP c st0.N = 0
   rw [eN]
   unfold totP tot
   rw [usum_ext (g := fun _ => 0) 64 (fun i _ _ => by rw [hpg]; rfl)]
   exact usum_zero 64
  ·exfalso
   have hx : x ∈ L0 c st0.N i := hx
   rw [eN] at hx
   have := (L0_mem hx).2.2.1
   rw [hpg] at this
   exact absurd this (by simp)
 ·rw [hRe] at g0; cases g0
 ·rw [hRe] at g0; cases g0
section
variable {o : FId} {A : Option Addr} {n cc : Nat} {K : Nat → Prop} {V w w1 w2 : World}
theorem LF.write_new (h : LF c o A n cc K V w w1 st) (hk : CK c) (hB : Below w1.heap.size w1 w2) (a : Nat) (ys : List Int) (g m c' : Nat) (hz : Nums w2 .u8 (some ⟨g, 0, none⟩) m ys) (hg : w1.heap.size ≤ g ∧ g < w2.heap.size) (ha : a < c.M) (hn : m ≤ 64) (R : FT × Int) (hR : putG c 100 3 65 st 1 a ys = some R) :
  Calls Try.prog 18 #[.pointer (some ⟨o.bf, 0, none⟩), .int .i64 (a : Int), .slice (some ⟨g, 0, none⟩) m c'] w2 fun e w' => e = .returned (.int .i64 R.2) ∧ LF c o A n cc K V w w' R.1 := by
 have hL := h.more (K' := fun x => K x ∨ x = g) hB (fun x hx => by
  rcases hx with hx | hx
  ·exact .inl hx
  ·exact .inr (by rw [hx]; exact hg)) (fun x hx => .inl hx)
 refine (hL.write hk a ys _ m c' hz (fun _ ad had => by
  injection had with had
  rw [← had]
  exact .inr (.inr rfl)) (fun x hx => wf_u8 (hz.wf x hx)) ha hn R hR).mono ?_
 rintro e w' ⟨he, hL'⟩
 exact ⟨he, hL'.back (fun x hx => ⟨.inl hx, (hB.block x (h.fr.mineQ x (.inr hx)).2.1).trans (h.heap hx)⟩) h.old⟩
end
end
end Go.Proofs.Ytpcbpljdiacbmaa.Ftl

namespace Go.Proofs.Ytpcbpljdiacbmaa.Ftl
open Go.RowKit Go.Proofs.Ytpcbpljdiacbmaa.Kit Go.Proofs.Ytpcbpljdiacbmaa.Oct Go.Proofs.Ytpcbpljdiacbmaa.Sheet Go.Proofs.Ytpcbpljdiacbmaa.Nand Go.Proofs.Ytpcbpljdiacbmaa.Plan Go.Proofs.Ytpcbpljdiacbmaa.Scan Go.Proofs.Ytpcbpljdiacbmaa.Pmap Go.Proofs.Ytpcbpljdiacbmaa.Pool

/-! One address is written again and again. -/
section
variable {c : FC} {st : FT} {N N' : NA} {a b s : Nat} {D : Nat → Option (List Int)} {R : FT × Int} {ys : List Int}
structure Spr (c : FC) (st : FT) (k : Nat) : Prop where
 ful : Ful c st
 sum : totP c st.N + c.np * totE c st.N = k
 er : ∀ i : Nat, 0 ≤ (st.N.blk i).erases ∧ (st.N.blk i).erases ≤ k
theorem wrap64_in {z : Int} (h : -9223372036854775808 ≤ z ∧ z ≤ 9223372036854775807) : wrap64 z = z := by
 unfold wrap64
 have := IntWalk.i64_in z h
 omega
theorem Spr.put (hk : CK c) (hlen : 3 + c.S ≤ c.xs.length) (hS : Sound c st D s) (hs : s + 7000 ≤ 281474976710000) {k : Nat} (hk1 : k ≤ 100000) (hF : Spr c st k) (hD : ∀ a, a ≠ 0 → D a = none) (hy : ys.length ≤ 64) (hB : IsB ys) (hR : putG c 100 3 65 st 1 0 ys = some R) : Spr c R.1 (k + 1) := by
 have hnb := hk.nb
 obtain ⟨st1, b, N', hp⟩ := put_path hk hS hs hF.ful hk.M hy hB (fun st' h' ho' hF' hN' hc' hr' => by
  refine Classical.byContradiction (fun hno => ?_)
  have h1 := xs_le hnb h'.pol ho'
  have h2 : cntH st'.hs 1 ≤ cnum (fun i => decide (i = (st.at'.getD 0 (0, 0)).1.toNat)) 64 := cnum_mono 64 (fun i hi hu => by
   have h1 : hAt st'.hs (i : Int) = some 1 := by rw [hAt_nat st'.hs i hi]; simpa using hu
   have hx := hs_in h'.pol.none_ h1
   obtain ⟨i', ei, -, hin⟩ := xs_nat hx
   have hcn : st'.cn i ≠ 0 := fun e => hno ⟨i, hx, h1, e⟩
   have hon := hS.rest.cor.wf.pi.on i (by omega)
   unfold FT.cn at hcn
   rw [hc', hon] at hcn
   obtain ⟨a, ha, hoa⟩ := cnum_ex (onP st.at' st.has i) c.M (by omega)
   unfold onP at hoa
   rw [Bool.and_eq_true, decide_eq_true_iff] at hoa
   have ha0 : a = 0 := by
    by_cases e : a = 0
    ·exact e
    ·exfalso
     have h3 := hD a e
     have h4 := hS.rest.cor.cf a
     rw [hoa.1] at h4
     rw [← hS.data] at h3
     unfold Vof at h3
     cases hc : cF st a with
     | none => rw [hc] at h4; cases h4
     | some y => rw [hc] at h3; cases h3
   rw [ha0] at hoa
   simp only [decide_eq_true_eq]
   omega)
  have h3 := cnum_at (st.at'.getD 0 (0, 0)).1.toNat 64
  omega) hR
 have hr := hp.roomy
 have hbx := hs_in hr.rest.pol.none_ hr.opn
 obtain ⟨b', eb, -, bn⟩ := xs_nat hbx
 have hP := totP_prog hbx hnb hp.rest hp.len
 have hE := totE_prog hbx hnb hp.rest hp.er
 have hRe := hp.is
 have hsum := hF.sum
 have her1 : ∀ i : Nat, (N'.blk i).erases = (st1.N.blk i).erases := fun i => by
  by_cases e : i = b
  ·rw [e]; exact hp.er
  ·rw [hp.rest.other i e]
 rcases hr.arr with e | ⟨v, vx, vc, vp, vr, vpg, ver⟩
 ·refine ⟨hp.ful, ?_, fun i => ?_⟩
  ·rw [hRe]
   show totP c N' + c.np * totE c N' = k + 1
   rw [hP, hE, e]
   omega
  ·rw [hRe]
   show 0 ≤ (N'.blk i).erases ∧ (N'.blk i).erases ≤ ((k + 1 : Nat) : Int)
   rw [her1, e]
   have := hF.er i
   omega
 ·have hev := hF.er v
  have hev1 : (st1.N.blk v).erases = (st.N.blk v).erases + 1 := by rw [ver, wrap64_in (by omega)]
  have h1 := tot_upd (f := fun i => (st.N.blk i).pages.length) (g := fun i => (st1.N.blk i).pages.length) vx hnb (fun i hi => by show (st1.N.blk i).pages.length = _; rw [vr.other i hi])
  have h2 := tot_upd (f := fun i => (st.N.blk i).erases.toNat) (g := fun i => (st1.N.blk i).erases.toNat) vx hnb (fun i hi => by show (st1.N.blk i).erases.toNat = _; rw [vr.other i hi])
  have h1 : totP c st1.N + (st.N.blk v).pages.length = totP c st.N + (st1.N.blk v).pages.length := h1
  have h2 : totE c st1.N + (st.N.blk v).erases.toNat = totE c st.N + (st1.N.blk v).erases.toNat := h2
  rw [vp, vpg] at h1
  rw [hev1] at h2
  have h1 : totP c st1.N + c.np = totP c st.N := h1
  have h3 : totE c st1.N = totE c st.N + 1 := by omega
  refine ⟨hp.ful, ?_, fun i => ?_⟩
  ·rw [hRe]
   show totP c N' + c.np * totE c N' = k + 1
   rw [hP, hE, h3, Nat.mul_succ]
   omega
  ·rw [hRe]
   show 0 ≤ (N'.blk i).erases ∧ (N'.blk i).erases ≤ ((k + 1 : Nat) : Int)
   rw [her1]
   by_cases e : i = v
   ·rw [e, hev1]; omega
   ·rw [vr.other i e]
    have := hF.er i
    omega
theorem Spr.new (hF : Fil c st 0) (hN : st.N = newA c.nb c.np c.bad) : Spr c st 0 := by
 have he : ∀ i, ((newA c.nb c.np c.bad).blk i).erases = 0 := fun i => by
  by_cases h : i < c.nb
  ·rw [newA_blk _ _ _ i h]; rfl
  ·unfold NA.blk
   rw [List.getD_eq_getElem?_getD, List.getElem?_eq_none (by rw [newA_len]; omega)]
   rfl
 have hz : totE c st.N = 0 := by
  rw [hN]
  unfold totE tot
  rw [usum_ext (g := fun _ => 0) 64 (fun i _ _ => by rw [he]; rfl)]
  exact usum_zero 64
 refine ⟨hF.ful, by rw [hF.pages, hz]; simp, fun i => ?_⟩
 rw [hN, he]
 simp
/-- The sum over a list of blocks. -/
def lsum (f : Nat → Nat) : List Int → Nat
 | [] => 0
 | x :: l => f x.toNat + lsum f l
theorem lsum_app (f : Nat → Nat) (l l' : List Int) : lsum f (l ++ l') = lsum f l + lsum f l' := by
 induction l with
 | nil => simp [lsum]
 | cons x l ih => simp only [List.cons_append, lsum, ih]; omega
theorem lsum_usb (f : Nat → Nat) (bad : List Int) : ∀ i : Nat, lsum f (usb i bad) = usum (fun j => decide (2 ≤ j ∧ (j : Int) ∉ bad)) f i := by
 intro i
 induction i with
 | zero => rfl
 | succ i ih =>
  rw [usb_succ, lsum_app, ih]
  show _ = usum _ f i + _
  by_cases h : 2 ≤ i ∧ (i : Int) ∉ bad
  ·rw [if_pos h, if_pos (by simpa using h)]
   simp [lsum]
  ·rw [if_neg h, if_neg (by simpa using h)]
   rfl
theorem lsum_tot (f : Nat → Nat) (hnb : c.nb ≤ 64) : lsum f c.xs = tot c f := by
 have h1 : lsum f c.xs = usum (fun j => decide (2 ≤ j ∧ (j : Int) ∉ c.bad)) f c.nb := lsum_usb f c.bad c.nb
 rw [h1]
 unfold tot
 have hm : ∀ j : Nat, j < c.nb → decide ((j : Int) ∈ c.xs) = decide (2 ≤ j ∧ (j : Int) ∉ c.bad) := fun j hj => by
  rw [decide_eq_decide]
  have := usb_mem c.nb c.bad (j : Int)
  have e : (j : Int) ∈ c.xs ↔ 2 ≤ (j : Int) ∧ (j : Int) < c.nb ∧ (j : Int) ∉ c.bad := this
  rw [e]
  constructor
  ·rintro ⟨h1, -, h2⟩; exact ⟨by omega, h2⟩
  ·rintro ⟨h1, h2⟩; exact ⟨by omega, by omega, h2⟩
 have h2 : ∀ m, c.nb ≤ m → usum (fun i => decide ((i : Int) ∈ c.xs)) f m = usum (fun j => decide (2 ≤ j ∧ (j : Int) ∉ c.bad)) f c.nb := by
  intro m hm2
  induction m with
  | zero =>
   have : c.nb = 0 := by omega
   rw [this]
   rfl
  | succ m ih =>
   by_cases e : c.nb = m + 1
   ·rw [e]
    have key : ∀ q, q ≤ m + 1 → usum (fun i => decide ((i : Int) ∈ c.xs)) f q = usum (fun j => decide (2 ≤ j ∧ (j : Int) ∉ c.bad)) f q := by
     intro q
     induction q with
     | zero => intro _; rfl
     | succ q ihq =>
      intro hq
      have hmq := hm q (by omega)
      show usum _ f q + (if decide ((q : Int) ∈ c.xs) = true then f q else 0) = usum _ f q + (if decide (2 ≤ q ∧ (q : Int) ∉ c.bad) = true then f q else 0)
      rw [ihq (by omega), hmq]
    exact key (m + 1) (Nat.le_refl _)
   ·show usum _ f m + _ = _
    rw [ih (by omega), if_neg (by
     simp only [decide_eq_true_eq]
     intro h
     obtain ⟨k, ek, -, hk⟩ := xs_nat h
     omega)]
    rfl
 exact (h2 64 hnb).symm
theorem lsum_take (f : Nat → Nat) (l : List Int) (j : Nat) (hj : j < l.length) : lsum f (l.take (j + 1)) = lsum f (l.take j) + f (l.getD j 0).toNat := by
 rw [take_one j hj, lsum_app]
 simp [lsum]
theorem lsum_le (f : Nat → Nat) (l : List Int) : ∀ j, lsum f (l.take j) ≤ lsum f l := by
 intro j
 have : lsum f l = lsum f (l.take j) + lsum f (l.drop j) := by rw [← lsum_app, List.take_append_drop]
 omega
end
theorem geo_three : ∀ n : Fin 256, 3 + gS n.val ≤ (us (gB n.val) (gL n.val)).length := by decide +kernel
end Go.Proofs.Ytpcbpljdiacbmaa.Ftl

namespace Go.Proofs.Ytpcbpljdiacbmaa.Ftl
open Go.RowKit Go.Proofs.Ytpcbpljdiacbmaa.Kit Go.Proofs.Ytpcbpljdiacbmaa.Oct Go.Proofs.Ytpcbpljdiacbmaa.Sheet Go.Proofs.Ytpcbpljdiacbmaa.Nand Go.Proofs.Ytpcbpljdiacbmaa.Plan Go.Proofs.Ytpcbpljdiacbmaa.Scan Go.Proofs.Ytpcbpljdiacbmaa.Pmap Go.Proofs.Ytpcbpljdiacbmaa.Pool

theorem LF.erases {c : FC} {o : FId} {A : Option Addr} {n cc : Nat} {K : Nat → Prop} {V w w1 : World} {st : FT} (h : LF c o A n cc K V w w1 st) (i : Nat) (hi : i < st.N.bs.length) :
  Calls Try.prog 28 #[.pointer (some ⟨o.ba, 0, none⟩), .int .i64 (i : Int)] w1 fun e w' => e = .returned (.int .i64 (st.N.blk i).erases) ∧ w' = w1 := by
 obtain ⟨F', hA⟩ := h.arr
 have := erases_any F' o.ba st.N (i : Int) w1 hA
 rw [show st.N.inI (i : Int) = true by unfold NA.inI; simp; omega, if_pos rfl, Int.toNat_natCast] at this
 exact this
set_option maxRecDepth 100000 in
set_option maxHeartbeats 4000000 in
theorem law_spreads (n : Int) (hn : 0 ≤ n ∧ n ≤ 255) (tm : Int) (htm : 0 ≤ tm ∧ tm ≤ 255) (w : World) :
  Calls Try.prog 7 #[.int .u8 n, .int .u8 tm] w fun e w' => e = .returned (.bool true) ∧ Below w.heap.size w w' := by
 obtain ⟨tm, rfl⟩ := Int.eq_ofNat_of_zero_le htm.1
 obtain ⟨n, rfl⟩ := Int.eq_ofNat_of_zero_le hn.1
 have hn : n < 256 := by omega
 have hk : CK (cG n 1) := cG_ok hn (by omega) (by omega)
 have hgeo : ∀ W, Calls Try.prog 14 #[.int .u8 (n : Int)] W fun e w' => ∃ A m cp, e = .returned (.agg #[.int .i64 ((cG n 1).nb : Int), .int .i64 ((cG n 1).np : Int), .int .i64 ((cG n 1).S : Int), .slice A m cp]) ∧ Geo w' (cG n 1).nb (cG n 1).np ((cG n 1).S : Int) A m cp (cG n 1).bad ∧ Below W.heap.size W w' ∧ ∀ ad, A = some ad → W.heap.size ≤ ad.block ∧ ad.block < w'.heap.size := fun W => geometry_low n hn W
 have hbad : ∀ x ∈ (cG n 1).bad, 0 ≤ x ∧ x < ((cG n 1).nb : Int) := geo_bad ⟨n, hn⟩
 have hcM : Plan.cap ((cG n 1).nb : Int) ((cG n 1).np : Int) ((cG n 1).S : Int) (cG n 1).bad = ((cG n 1).M : Int) - 1 := hk.ok
 have hM61 : (cG n 1).M ≤ 61 := by
  have h := (geo_more ⟨n, hn⟩).2.2.2
  have h : capN n ≤ 60 := h
  show capN n + 1 ≤ 61
  omega
 have hnb : 5 ≤ (cG n 1).nb ∧ (cG n 1).nb ≤ 9 := by show 5 ≤ gB n ∧ gB n ≤ 9; unfold gB; omega
 have hnp : 2 ≤ (cG n 1).np ∧ (cG n 1).np ≤ 5 := by show 2 ≤ gP n ∧ gP n ≤ 5; unfold gP; omega
 have hlen3 : 3 + (cG n 1).S ≤ (cG n 1).xs.length := geo_three ⟨n, hn⟩
 generalize cG n 1 = c at *
 have Hlen := hid hlen3
 clear hlen3
 have Hk := hid hk
 have Hbad := hid hbad
 have HcM := hid hcM
 have hM1 := hk.M
 clear hk hbad hcM
 go_enter Try.func7, Try.ntmps7
 go_wp2_with fail
 refine (awake_ftl w).mono ?_
 rintro e w0 ⟨rfl, hB0⟩
 have hgeo' := hgeo w0
 clear hgeo
 go_wp2_with fail
 refine hgeo'.mono ?_
 rintro e w1 ⟨A, m, cp, rfl, hg1, hB1, hA1⟩
 clear hgeo'
 go_upto_region 4 with (fail)
 generalize hw2 : World.alloc w1 _ = w2
 obtain ⟨g1, hg1e⟩ : ∃ g, w1.heap.size = g := ⟨_, rfl⟩
 have hB2 : Below w1.heap.size w1 w2 := by rw [← hw2]; exact (Below.refl _ _).alloc (Nat.le_refl _) _
 have hb1 : Blk w2 g1 #[.int .i64 (c.nb : Int), .int .i64 (c.np : Int), .int .i64 (c.S : Int), .slice A m cp] 26 := by rw [← hw2, ← hg1e]; exact Blk.new _ _ _
 have hg2 := hg1.later hB2
 have hB02 := hB0.trans ((hB1.trans (hB2.mono hB1.size)).mono hB0.size)
 have hnew := new_run c.nb c.np A m cp c.bad (gk g1) w w2 hB02 (by omega) (by omega) hg2.nums Hbad.out (fun g hg => by
  have h1 := hB1.size
  have h2 := hb1.lt
  have h3 := hB0.size
  rcases hg with hg | ⟨ad, had, rfl⟩
  ·have hg : g = g1 := hg
   rw [hg]
   omega
  ·have := hA1 ad had
   omega)
 have hne : ∀ g, gk g1 g → ∀ ad, A = some ad → g ≠ ad.block := fun g hg ad had => by
  have hg : g = g1 := hg
  have := hA1 ad had
  omega
 obtain ⟨z0, z1, z2, z3⟩ := geo_four hb1
 rw [hg1e]
 have Hne := hid hne
 have Hb1 := hid hb1
 have Hg2 := hid hg2
 clear hw2 hg1e hB1 hB2 hb1 hg1 hg2 hA1 hne hB0 hB02
 go_wp2_with fail
 refine hnew.mono ?_
 rintro e w3 ⟨b, rfl, hR3, hB3⟩
 clear hnew z0 z1 z2 z3
 have hb3 := Hb1.out.later hB3
 have hg3 := Hg2.out.later hB3
 have hke := Hk.out.at (e := 1) (by omega) (by omega)
 have hmt : Calls Try.prog 16 #[.pointer (some ⟨b, 0, none⟩), .agg #[.int .i64 (c.nb : Int), .int .i64 (c.np : Int), .int .i64 (c.S : Int), .slice A m cp], .int .u64 1] w3 fun e w' => ∃ o st, o.ba = b ∧ e = .returned (.tuple #[.pointer (some ⟨o.bf, 0, none⟩), .int .i64 0]) ∧ LF (c.at 1) o A m cp (gk g1) w3 w w' st ∧ Sound (c.at 1) st (Vof (fun _ => none)) 0 ∧ Fil (c.at 1) st 0 ∧ st.N = newA c.nb c.np c.bad := cmount_new (c := c.at 1) hke hR3 Hne.out hg3
 obtain ⟨z0, z1, z2, z3⟩ := geo_four hb3
 have Hb3 := hid hb3
 clear hR3 hB3 hg3 hb3 Hb1 Hg2 Hne Hbad hke
 go_wp2_with fail
 refine hmt.mono ?_
 rintro e w4 ⟨o, st, hob, rfl, hL4, hS4, hfi0, hN0⟩
 clear hmt z0 z1 z2 z3
 subst hob
 have hb4 := hL4.blk (show gk g1 g1 from rfl) Hb3.out
 have HS := hid hS4
 obtain ⟨ba, hba⟩ : ∃ x, o.ba = x := ⟨_, rfl⟩
 rw [hba]
 have Hke := hid (Hk.out.at (e := 1) (by omega) (by omega))
 have HL := hid hL4.now
 have Hg := hid hb4
 have Hsp := hid (Spr.new hfi0 hN0)
 clear hL4 hS4 hb4 hfi0 hN0 Hb3
 have t1 : IntKind.i64.wrap (tm : Int) = (tm : Int) := IntWalk.i64_in _ (by omega)
 have t2 : IntKind.i64.wrap ((3 : Int) * (tm : Int)) = (3 : Int) * (tm : Int) := IntWalk.i64_in _ (by omega)
 go_wp2
 go_loopw [10] (fun t w' => ∃ (k : Nat) (st' : FT) (D : Nat → Option (List Int)), k ≤ 3 * tm ∧ t = .int .i64 (k : Int) ∧ LF (c.at 1) o A m cp (gk g1) w' w w' st' ∧ Sound (c.at 1) st' D (7000 * k) ∧ (∀ a, a ≠ 0 → D a = none) ∧ Spr (c.at 1) st' k ∧ Blk w' g1 #[.int .i64 (c.nb : Int), .int .i64 (c.np : Int), .int .i64 (c.S : Int), .slice A m cp] 26) (fun t _ => 3 * tm - (intOf t).toNat)
 case atStart => exact ⟨0, st, _, by omega, rfl, HL.out, HS.out, fun a ha => rfl, Hsp.out, Hg.out⟩
 case round =>
  clear HL HS Hg Hsp
  obtain ⟨k, st', D, hkl, rfl, hL, hS, hd, hsp, hbg⟩ := hrel
  by_cases hlt : k < 3 * tm
  ·have hltI : (k : Int) < (3 : Int) * (tm : Int) := by omega
   have HL := hid hL
   have HS := hid hS
   have Hd := hid hd
   have Hsp := hid hsp
   have Hg := hid hbg
   clear hL hS hd hsp hbg
   obtain ⟨kb, hkb⟩ : ∃ x : Nat, IntKind.u8.wrap (k : Int) = (x : Int) ∧ x < 256 := by
    have := IntKind.wrap_u8 (k : Int)
    exact ⟨(IntKind.u8.wrap (k : Int)).toNat, by omega, by omega⟩
   obtain ⟨hkb1, hkb2⟩ := hkb
   have hyb : IsB [(kb : Int)] := fun x hx => by rw [List.mem_singleton.1 hx]; omega
   obtain ⟨R, r1, r2, r3⟩ := put_ex Hke.out HS.out.rest (by have := HS.out.seq; omega) 1 0 [(kb : Int)] hM1 (.inl rfl) (by simp) (.inl rfl) hyb
   obtain ⟨q1, q2⟩ := HS.out.put r2 r3
   have hsp9 := Spr.put Hke.out Hlen.out HS.out (by omega) (by omega) Hsp.out Hd.out (by simp) hyb r1
   have hBw : Below wr.heap.size wr (wr.alloc (.cells #[.int .u8 (kb : Int)] 5)) := (Below.refl _ _).alloc (Nat.le_refl _) _
   have hwr := HL.out.write_new Hke.out hBw 0 [(kb : Int)] wr.heap.size 1 1 (nums_lit (xs := [(kb : Int)]) (heap_alloc_new _ _) rfl (wf_of hyb)) ⟨Nat.le_refl _, by simp⟩ hM1 (by omega) R r1
   rw [q1] at hwr
   have HS9 := hid q2
   have Hsp9 := hid hsp9
   clear r1 r2 r3 q1 q2 hsp9 hBw
   go_wp2_with fail
   refine hwr.mono ?_
   rintro e w9 ⟨rfl, hL9⟩
   clear hwr
   have HL9 := hid hL9.now
   have Hg9 := hid (hL9.blk rfl Hg.out)
   have Hd9 := hid (show ∀ a, a ≠ 0 → updV D 0 [(kb : Int)] a = none from fun a ha => by
    unfold updV
    rw [if_neg ha]
    exact Hd.out a ha)
   clear hL9 HL Hg HS Hd Hsp
   go_wp2
   go_roundw
   case rel => exact ⟨k + 1, _, _, by omega, by go_num, HL9.out, HS9.out.up (by omega), Hd9.out, Hsp9.out, Hg9.out⟩
   case measure => simp [intOf]; omega
  ·have hltI : (3 : Int) * (tm : Int) ≤ (k : Int) := by omega
   obtain rfl : k = 3 * tm := by omega
   have hru := rus_any hL.geo
   have hru : Calls Try.prog 27 #[.agg #[.int .i64 (c.nb : Int), .int .i64 (c.np : Int), .int .i64 (c.S : Int), .slice A m cp]] wr fun e w' => ∃ U d, e = .returned (.slice U c.xs.length d) ∧ Nums w' .i64 U c.xs.length c.xs ∧ (∀ a, U = some a → wr.heap.size ≤ a.block) ∧ Below wr.heap.size wr w' := hru
   obtain ⟨z0, z1, z2, z3⟩ := geo_four hbg
   have hE := fun W (hW : Below wr.heap.size wr W) (i : Nat) (hi : i < c.nb) => (hL.later hW).erases i (by rw [show st'.N.bs.length = (c.at 1).nb from hS.rest.cor.wf.lb]; exact hi)
   rw [hba] at hE
   have hsum := lsum_tot (c := c.at 1) (fun i => (st'.N.blk i).erases.toNat) (by have := Hk.out.nb; exact this)
   have hsp1 := hsp.sum
   have hen : ∀ i, ((((st'.N.blk i).erases.toNat : Nat) : Int) = (st'.N.blk i).erases ∧ (st'.N.blk i).erases.toNat ≤ 1000) := fun i => by have := hsp.er i; omega
   obtain ⟨E, hEd⟩ : ∃ f : Nat → Nat, (fun i => (st'.N.blk i).erases.toNat) = f := ⟨_, rfl⟩
   have hE2 : ∀ W, Below wr.heap.size wr W → ∀ i : Nat, i < c.nb → Calls Try.prog 28 #[.pointer (some ⟨ba, 0, none⟩), .int .i64 (i : Int)] W fun e w' => e = .returned (.int .i64 (E i : Int)) ∧ w' = W := fun W hW i hi => by
    have := hE W hW i hi
    rw [← (hen i).1] at this
    rw [← hEd]
    exact this
   have hE1000 : ∀ i, E i ≤ 1000 := fun i => by rw [← hEd]; exact (hen i).2
   have hsum2 : lsum E c.xs * c.np ≤ 3 * tm := by
    rw [hEd] at hsum
    have h2 : totE (c.at 1) st'.N = tot (c.at 1) E := by
     unfold totE
     rw [hEd]
    rw [h2] at hsp1
    have hx : lsum E c.xs = tot (c.at 1) E := hsum
    rw [hx, Nat.mul_comm]
    have hsp1 : totP (c.at 1) st'.N + c.np * tot (c.at 1) E = 3 * tm := hsp1
    omega
   have hsumT : lsum E c.xs ≤ 3 * tm := Nat.le_trans (Nat.le_mul_of_pos_right _ (by omega)) hsum2
   have hlen0 : 3 ≤ c.xs.length := by have := Hlen.out; have h : 3 + c.S ≤ c.xs.length := this; omega
   have hxb : ∀ x ∈ c.xs, 0 ≤ x ∧ x < c.nb := fun x hx => by obtain ⟨q, rfl, h1, h2⟩ := xs_nat hx; omega
   have hxl : c.xs.length ≤ 64 := by have := xs_len (c := c) (by omega); rw [this]; exact cnum_le _ _
   have hln : ∀ W, Below wr.heap.size wr W → Calls Try.prog 26 #[.pointer (some ⟨o.bf, 0, none⟩)] W fun e w' => e = .returned (.int .i64 (cnum (fun a => (D a).isSome) c.M : Int)) ∧ w' = W := fun W hW => (hL.later hW).clen hS
   have hcn1 : cnum (fun a => (D a).isSome) c.M ≤ 1 := Nat.le_trans (cnum_mono _ (fun i hi h => by
    by_cases e : i = 0
    ·simpa using e
    ·rw [hd i e] at h; cases h)) (cnum_at 0 c.M)
   obtain ⟨cn1, hcn⟩ : ∃ x, cnum (fun a => (D a).isSome) c.M = x := ⟨_, rfl⟩
   rw [hcn] at hln hcn1
   have Hln := hid hln
   have HE2 := hid hE2
   have HL := hid hL
   have HE1 := hid hE1000
   have Hsum := hid hsum2
   have Hxb := hid hxb
   have hgb := hbg
   have Hg := hid hbg
   clear hL hS hd hsp hbg hE hsum hsp1 hen hE2 hln hE1000 hsum2 hxb hgb hkl hlt hcn hEd
   obtain ⟨us, hus⟩ : ∃ x, c.xs = x := ⟨_, rfl⟩
   rw [hus] at hru hlen0 hxl Hsum Hxb hsumT
   clear hus
   obtain ⟨ul, hul⟩ : ∃ x, us.length = x := ⟨_, rfl⟩
   rw [hul] at hru hlen0 hxl
   have Hul := hid hul
   clear hul
   go_wp2_with fail
   refine hru.mono ?_
   rintro e w5 ⟨U, ud, rfl, hU, -, hB5⟩
   have HU := hid hU
   have HB5 := hid hB5
   have Hg5 := hid (Hg.out.later hB5)
   clear hru hU hB5 Hg z0 z1 z2 z3
   have hget : ∀ j, j < ul → ∃ i : Nat, us.getD j 0 = (i : Int) ∧ i < c.nb := fun j hj => by
    have hm : us.getD j 0 ∈ us := by
     rw [List.getD_eq_getElem?_getD, List.getElem?_eq_getElem (by rw [Hul.out]; exact hj)]
     exact List.getElem_mem _
    have := Hxb.out _ hm
    exact ⟨(us.getD j 0).toNat, by omega, by omega⟩
   have Hget := hid hget
   obtain ⟨b0, o0, rfl, hc0⟩ := HU.out.at_ 0 (by omega)
   obtain ⟨i0, hi0, hi0n⟩ := hget 0 (by omega)
   rw [hi0, Nat.add_zero] at hc0
   have hu0 : (0 : Int) < (ul : Int) := by omega
   have he0 := HE2.out w5 HB5.out i0 hi0n
   have hE0 : E (us.getD 0 0).toNat = E i0 := by rw [hi0, Int.toNat_natCast]
   have hE00 := HE1.out i0
   clear hget
   go_wp2_with fail
   refine he0.mono ?_
   rintro e w6 ⟨rfl, hw6⟩
   subst hw6
   have HE0 := hid hE0
   clear he0 hc0 hE0
   go_wp2
   go_loopw [15, 14, 12, 13] (fun t sm le mo w' => ∃ (j S L M : Nat), j ≤ ul ∧ t = .int .i64 (j : Int) ∧ sm = .int .i64 (S : Int) ∧ le = .int .i64 (L : Int) ∧ mo = .int .i64 (M : Int) ∧ S = lsum E (us.take j) ∧ L ≤ M ∧ M ≤ 1000 ∧ (j = 0 → M = E (us.getD 0 0).toNat ∧ L = M) ∧ (0 < j → M ≤ S) ∧ w' = w6) (fun t _ _ _ _ => ul - (intOf t).toNat)
   case atStart => exact ⟨0, 0, E i0, E i0, by omega, rfl, rfl, rfl, rfl, rfl, Nat.le_refl _, hE00, fun _ => ⟨HE0.out.symm, rfl⟩, fun h => absurd h (by omega), rfl⟩
   case round =>
    obtain ⟨j, S, L, M, hj, rfl, rfl, rfl, rfl, hS, hLM, hM1000, hj0, hj1, rfl⟩ := hrel
    have hSle := lsum_le E us j
    by_cases hlt : j < ul
    ·have hltI : (j : Int) < (ul : Int) := by omega
     obtain ⟨b1, o1, hU1, hc1⟩ := HU.out.at_ j hlt
     injection hU1 with hU1
     injection hU1 with hb1 ho1
     subst hb1
     subst ho1
     obtain ⟨i1, hi1, hi1n⟩ := Hget.out j hlt
     rw [hi1] at hc1
     have he1 := HE2.out _ HB5.out i1 hi1n
     have hE1 := HE1.out i1
     have hS2 : S + E i1 = lsum E (us.take (j + 1)) := by
      rw [lsum_take E us j (by rw [Hul.out]; exact hlt), hi1, Int.toNat_natCast, ← hS]
     have hSle2 := lsum_le E us (j + 1)
     have hM0 : j = 0 → M = E i1 ∧ L = M := fun e => by
      have := hj0 e
      have h2 : us.getD 0 0 = (i1 : Int) := by rw [← hi1, e]
      rw [h2, Int.toNat_natCast] at this
      exact this
     obtain ⟨ev, hev⟩ : ∃ x, E i1 = x := ⟨_, rfl⟩
     rw [hev] at he1 hE1 hS2 hM0
     have HS2 := hid hS2
     have HM0 := hid hM0
     have Hj1 := hid hj1
     have hw : IntKind.i64.wrap ((S : Int) + (ev : Int)) = (S : Int) + (ev : Int) := IntWalk.i64_in _ (by omega)
     have hSe : S + ev ≤ 3 * tm := by rw [hS2]; omega
     clear hS hj0 hj1 hS2 hM0 hi1 hev
     have hcs : (ev < L ∧ ¬ M < ev) ∨ (¬ ev < L ∧ M < ev) ∨ (¬ ev < L ∧ ¬ M < ev) := by omega
     go_wp2_with fail
     refine he1.mono ?_
     rintro e w7 ⟨rfl, hw7⟩
     subst hw7
     clear he1 hc1
     rcases hcs with ⟨h1, h2⟩ | ⟨h1, h2⟩ | ⟨h1, h2⟩
     ·have d1 : (ev : Int) < (L : Int) := by omega
      have d2 : (ev : Int) ≤ (M : Int) := by omega
      go_wp2
      go_roundw
      case rel => exact ⟨j + 1, S + ev, ev, M, by omega, by go_num, by go_num, rfl, rfl, HS2.out, by omega, by omega, fun h => absurd h (by omega), fun _ => by have := HM0.out; have := Hj1.out; omega, trivial⟩
      case measure => simp [intOf]; omega
     ·have d1 : (L : Int) ≤ (ev : Int) := by omega
      have d2 : (M : Int) < (ev : Int) := by omega
      go_wp2
      go_roundw
      case rel => exact ⟨j + 1, S + ev, L, ev, by omega, by go_num, by go_num, rfl, rfl, HS2.out, by omega, by omega, fun h => absurd h (by omega), fun _ => by have := HM0.out; have := Hj1.out; omega, trivial⟩
      case measure => simp [intOf]; omega
     ·have d1 : (L : Int) ≤ (ev : Int) := by omega
      have d2 : (ev : Int) ≤ (M : Int) := by omega
      go_wp2
      go_roundw
      case rel => exact ⟨j + 1, S + ev, L, M, by omega, by go_num, by go_num, rfl, rfl, HS2.out, by omega, by omega, fun h => absurd h (by omega), fun _ => by have := HM0.out; have := Hj1.out; omega, trivial⟩
      case measure => simp [intOf]; omega
    ·obtain rfl : j = ul := by omega
     have hS3 : S = lsum E us := by rw [hS, List.take_of_length_le (by rw [Hul.out]; exact Nat.le_refl _)]
     have hSn : S * c.np ≤ 3 * tm := by rw [hS3]; exact Hsum.out
     have hMS : M ≤ S := hj1 (by omega)
     obtain ⟨qt, hqt⟩ : ∃ x : Nat, 3 * tm / c.np = x := ⟨_, rfl⟩
     have hq1 : S ≤ qt := by rw [← hqt]; exact (Nat.le_div_iff_mul_le (by omega)).2 hSn
     have hq2 : qt ≤ 3 * tm := by rw [← hqt]; exact Nat.div_le_self _ _
     have hq3 : ((3 : Int) * (tm : Int)).tdiv (c.np : Int) = (qt : Int) := by
      rw [← hqt]
      rw [show (3 : Int) * (tm : Int) = ((3 * tm : Nat) : Int) by omega, Int.tdiv_eq_ediv_of_nonneg (by omega)]
      rfl
     have hq4 : ((3 : Int) * (tm : Int)) / (c.np : Int) = (qt : Int) := by
      rw [← hqt]
      rw [show (3 : Int) * (tm : Int) = ((3 * tm : Nat) : Int) by omega]
      rfl
     have hw1 : IntKind.i64.wrap (qt : Int) = (qt : Int) := IntWalk.i64_in _ (by omega)
     have hw2 : IntKind.i64.wrap ((qt : Int) + 1) = (qt : Int) + 1 := IntWalk.i64_in _ (by omega)
     have hw3 : IntKind.i64.wrap ((3 : Int) * (tm : Int)) = (3 : Int) * (tm : Int) := IntWalk.i64_in _ (by omega)
     have hnp0 : (c.np : Int) ≠ 0 := by omega
     have c1 : (S : Int) ≤ (qt : Int) + 1 := by omega
     have c2 : (M : Int) ≤ (S : Int) := by omega
     have c3 : (L : Int) ≤ (M : Int) := by omega
     have c4 : (cn1 : Int) ≤ 1 := by omega
     have hln := Hln.out _ HB5.out
     obtain ⟨z0, z1, z2, z3⟩ := geo_four Hg5.out
     clear hS hS3 hSn hMS hq1 hq2 hqt hj0 hj1 hSle
     go_wp2_with fail
     refine hln.mono ?_
     rintro e w7 ⟨rfl, rfl⟩
     clear hln
     go_wp2
     go_ret
     exact ⟨rfl, (HL.out.later HB5.out).below⟩
end Go.Proofs.Ytpcbpljdiacbmaa.Ftl
