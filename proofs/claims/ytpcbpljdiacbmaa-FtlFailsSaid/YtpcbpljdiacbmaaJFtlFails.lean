import Derived.Test.YtpcbpljdiacbmaaJFtlLaw
import Derived.Lib.ConvBytes
import Derived.Deep.DeepCutAuto
set_option linter.unusedVariables false
set_option linter.unusedSimpArgs false
namespace Go.Proofs.Ytpcbpljdiacbmaa.Scan
open Go.RowKit Go.Proofs.Ytpcbpljdiacbmaa.Kit Go.Proofs.Ytpcbpljdiacbmaa.Oct Go.Proofs.Ytpcbpljdiacbmaa.Sheet Go.Proofs.Ytpcbpljdiacbmaa.Nand Go.Proofs.Ytpcbpljdiacbmaa.Plan Go.Proofs.Ytpcbpljdiacbmaa.Log Go.Proofs.Ytpcbpljdiacbmaa.Pmap Go.Maps
theorem rus_any {w : World} {nb np : Nat} {S : Int} {A : Option Addr} {n c : Nat} {bad : List Int} (h : Geo w nb np S A n c bad) :
  Calls Try.prog 27 #[.agg #[.int .i64 (nb : Int), .int .i64 (np : Int), .int .i64 S, .slice A n c]] w fun e w' => ∃ U d, e = .returned (.slice U (us nb bad).length d) ∧ Nums w' .i64 U (us nb bad).length (us nb bad) ∧ (∀ a, U = some a → w.heap.size ≤ a.block) ∧ Below w.heap.size w w' := by
 have hb := h.bd
 refine (rusable_any (nb : Int) (np : Int) S A n c bad w h.nums (by omega)).mono ?_
 rintro e w' ⟨v, rfl, ho, hB⟩
 rw [Int.toNat_natCast] at ho
 obtain ⟨U, d, rfl, -, hz⟩ := own_nums ho (us_wf (bad := bad) hb.2.1)
 exact ⟨U, d, rfl, hz, fun a ha => own_low ho a.block (by rw [ha]; rfl), hB⟩
end Go.Proofs.Ytpcbpljdiacbmaa.Scan

namespace Go.Proofs.Ytpcbpljdiacbmaa.Ftl
open Go.RowKit Go.Proofs.Ytpcbpljdiacbmaa.Kit Go.Proofs.Ytpcbpljdiacbmaa.Oct Go.Proofs.Ytpcbpljdiacbmaa.Sheet Go.Proofs.Ytpcbpljdiacbmaa.Nand Go.Proofs.Ytpcbpljdiacbmaa.Plan Go.Proofs.Ytpcbpljdiacbmaa.Scan Go.Proofs.Ytpcbpljdiacbmaa.Pmap Go.Proofs.Ytpcbpljdiacbmaa.Pool

/-! Strings as bytes; all addresses are full. -/
section
variable {c : FC} {o : FId} {A : Option Addr} {n cc s a : Nat} {K K' : Nat → Prop} {V w w1 w2 : World} {st : FT} {D : Nat → Option (List Int)}
end
theorem LF.ops {c : FC} {o : FId} {A : Option Addr} {n cc : Nat} {K : Nat → Prop} {V w w1 : World} {st : FT} (h : LF c o A n cc K V w w1 st) :
  Calls Try.prog 19 #[.pointer (some ⟨o.ba, 0, none⟩)] w1 fun e w' => e = .returned (.int .i64 st.N.ops) ∧ w' = w1 := by
 obtain ⟨F', hA⟩ := h.arr
 exact ops_any F' o.ba st.N w1 hA
end Go.Proofs.Ytpcbpljdiacbmaa.Ftl

namespace Go.Proofs.Ytpcbpljdiacbmaa.Ftl
open Go.RowKit Go.Proofs.Ytpcbpljdiacbmaa.Kit Go.Proofs.Ytpcbpljdiacbmaa.Oct Go.Proofs.Ytpcbpljdiacbmaa.Sheet Go.Proofs.Ytpcbpljdiacbmaa.Nand Go.Proofs.Ytpcbpljdiacbmaa.Plan Go.Proofs.Ytpcbpljdiacbmaa.Scan Go.Proofs.Ytpcbpljdiacbmaa.Pmap Go.Proofs.Ytpcbpljdiacbmaa.Pool

/-! An array on which each block is empty or has pages that count. -/
structure SetN (c : FC) (N : NA) (c0 : Nat → Option (Int × Fo)) : Prop where
 good : Good c.xs (fun _ => False) (L0 c N) c0
 each : ∀ i : Nat, (i : Int) ∈ c.xs → (N.blk i).failed = false ∧ ((N.blk i).pages = [] ∨ ∃ a x, c0 a = some ((i : Int), x))
 nc : ∀ a i x, c0 a = some (i, x) → ¬ Cop (L0 c N) i
section
variable {c : FC} {o : FId} {A : Option Addr} {n cc b s a : Nat} {K K' : Nat → Prop} {V w w1 w2 : World} {st : FT} {N N' : NA} {c0 c1 : Nat → Option (Int × Fo)} {D : Nat → Option (List Int)} {R : FT × Int} {fe : Int}
theorem SetN.at (h : SetN c N c0) (e : Nat) : SetN (c.at e) N c0 := ⟨h.good, h.each, h.nc⟩
/-- What All found on such an array is what was known. -/
theorem SetN.counts (h : SetN c N c0) (hm : MI c [] (cF st) fe st) (hN : st.N = N) (hn : IsNew c.xs (L0 c N) (cF st)) : ∀ i : Nat, (i : Int) ∈ c.xs → (st.N.blk i).pages = [] ∨ st.cn i ≠ 0 := fun i hi => by
 rw [hN]
 rcases (h.each i hi).2 with g | ⟨a, x, hx⟩
 ·exact .inl g
 ·right
  obtain ⟨g1, g2, g3⟩ := h.good.here a _ x hx
  have hnc := h.nc a _ x hx
  cases hc : cF st a with
  | none => exact absurd g3 (hn.none_ a hc _ g1 hnc x g2)
  | some y =>
   obtain ⟨⟨k1, k2, k3, k4⟩, k5⟩ := hn.some_ a y.1 y.2 hc
   have hle := k5 _ g1 hnc x g2 g3
   have hi2 : y.1 = (i : Int) := by
    rcases h.good.late y.1 k1 y.2 k3 _ x (by rw [k4]; exact hx) with ⟨e1, -⟩ | e | ⟨e, -⟩
    ·exact e1
    ·omega
    ·exact e.elim
   obtain ⟨hh, hat, -, -⟩ := cF_some (i := y.1) (x := y.2) hc
   have := hm.wf.cn_pos hh (b := i) (by rw [← hat, hi2])
   omega
end
end Go.Proofs.Ytpcbpljdiacbmaa.Ftl

namespace Go.Proofs.Ytpcbpljdiacbmaa.Ftl
open Go.RowKit Go.Proofs.Ytpcbpljdiacbmaa.Kit Go.Proofs.Ytpcbpljdiacbmaa.Oct Go.Proofs.Ytpcbpljdiacbmaa.Sheet Go.Proofs.Ytpcbpljdiacbmaa.Nand Go.Proofs.Ytpcbpljdiacbmaa.Plan Go.Proofs.Ytpcbpljdiacbmaa.Scan Go.Proofs.Ytpcbpljdiacbmaa.Pmap Go.Proofs.Ytpcbpljdiacbmaa.Pool

/-! How many pages there are: where blocks are filled one behind the other. -/
theorem usum_ext {u : Nat → Bool} {f g : Nat → Nat} : ∀ m, (∀ i, i < m → u i = true → f i = g i) → usum u f m = usum u g m := by
 intro m
 induction m with
 | zero => intro _; rfl
 | succ m ih =>
  intro h
  show usum u f m + _ = usum u g m + _
  rw [ih (fun i hi => h i (by omega))]
  by_cases e : u m = true
  ·rw [if_pos e, if_pos e, h m (by omega) e]
  ·rw [if_neg e, if_neg e]
theorem usum_upd {u : Nat → Bool} {f g : Nat → Nat} {b : Nat} (hu : u b = true) (h : ∀ i, i ≠ b → g i = f i) : ∀ m, b < m → usum u g m + f b = usum u f m + g b := by
 intro m
 induction m with
 | zero => intro h; omega
 | succ m ih =>
  intro hb
  show usum u g m + (if u m = true then g m else 0) + f b = usum u f m + (if u m = true then f m else 0) + g b
  by_cases e : m = b
  ·subst e
   rw [if_pos hu, if_pos hu, usum_ext (f := g) (g := f) m (fun i hi _ => h i (by omega))]
   omega
  ·have := ih (by omega)
   rw [h m e]
   omega
theorem usum_zero {u : Nat → Bool} : ∀ m, usum u (fun _ => 0) m = 0 := by
 intro m
 induction m with
 | zero => rfl
 | succ m ih =>
  show usum u _ m + _ = 0
  rw [ih]
  split <;> rfl
/-- The sum over the blocks that may be used. -/
def tot (c : FC) (f : Nat → Nat) : Nat := usum (fun i => decide ((i : Int) ∈ c.xs)) f 64
def totP (c : FC) (N : NA) : Nat := tot c (fun i => (N.blk i).pages.length)
def totE (c : FC) (N : NA) : Nat := tot c (fun i => (N.blk i).erases.toNat)
section
variable {c : FC} {st : FT} {N N' : NA} {b : Nat}
theorem tot_upd {f g : Nat → Nat} (hb : (b : Int) ∈ c.xs) (hnb : c.nb ≤ 64) (h : ∀ i, i ≠ b → g i = f i) : tot c g + f b = tot c f + g b := by
 obtain ⟨b', e, -, hn⟩ := xs_nat hb
 exact usum_upd (by simpa using hb) h 64 (by omega)
theorem totP_prog (hb : (b : Int) ∈ c.xs) (hnb : c.nb ≤ 64) (hr : Rest N N' b) (hp : (N'.blk b).pages.length = (N.blk b).pages.length + 1) : totP c N' = totP c N + 1 := by
 have := tot_upd (f := fun i => (N.blk i).pages.length) (g := fun i => (N'.blk i).pages.length) hb hnb (fun i hi => by show (N'.blk i).pages.length = _; rw [hr.other i hi])
 unfold totP
 omega
theorem totE_prog (hb : (b : Int) ∈ c.xs) (hnb : c.nb ≤ 64) (hr : Rest N N' b) (hp : (N'.blk b).erases = (N.blk b).erases) : totE c N' = totE c N := by
 have := tot_upd (f := fun i => (N.blk i).erases.toNat) (g := fun i => (N'.blk i).erases.toNat) hb hnb (fun i hi => by show (N'.blk i).erases.toNat = _; rw [hr.other i hi])
 unfold totE
 simp only [hp] at this
 omega
/-- Each block that is used is full. -/
def Ful (c : FC) (st : FT) : Prop := ∀ i : Nat, (i : Int) ∈ c.xs → hAt st.hs (i : Int) = some 1 → (st.N.blk i).pages.length = c.np
/-- The pages of the used blocks. -/
theorem Ful.used {ex : Nat → Prop} (h : Ful c st) (hp : Pol c st ex) : c.np * cntH st.hs 1 ≤ totP c st.N := by
 have h1 := usum_low (u := fun i => st.hs.getD i none == some 1) (f := fun i => (st.N.blk i).pages.length) (P := c.np) 64 (fun k hk hu => by
  have h1 : hAt st.hs (k : Int) = some 1 := by rw [hAt_nat st.hs k hk]; simpa using hu
  rw [h k (hs_in hp.none_ h1) h1]
  exact Nat.le_refl _)
 refine Nat.le_trans h1 ?_
 unfold totP tot
 have key : ∀ m, m ≤ 64 → usum (fun i => st.hs.getD i none == some 1) (fun i => (st.N.blk i).pages.length) m ≤ usum (fun i => decide ((i : Int) ∈ c.xs)) (fun i => (st.N.blk i).pages.length) m := by
  intro m
  induction m with
  | zero => intro _; exact Nat.le_refl _
  | succ m ih =>
   intro hm
   have := ih (by omega)
   show usum _ _ m + _ ≤ usum _ _ m + _
   by_cases hu : (st.hs.getD m none == some 1) = true
   ·have h1 : hAt st.hs (m : Int) = some 1 := by rw [hAt_nat st.hs m (by omega)]; simpa using hu
    rw [if_pos hu, if_pos (show decide ((m : Int) ∈ c.xs) = true by simpa using hs_in hp.none_ h1)]
    omega
   ·rw [if_neg hu]
    omega
 exact key 64 (Nat.le_refl _)
theorem cap_eq (hk : CK c) : c.M + 1 = c.np * (c.xs.length - c.S - 1) ∧ 1 + c.S < c.xs.length := by
 have hM := hk.ok
 have hM1 := hk.M
 have hnp := hk.np.1
 unfold FC.ok Plan.cap at hM
 have hlen : (usb ((c.nb : Int)).toNat c.bad).length = c.xs.length := by rw [Int.toNat_natCast]; rfl
 rw [hlen] at hM
 by_cases hle : 1 + c.S < c.xs.length
 ·obtain ⟨q, hq⟩ : ∃ q : Nat, c.xs.length = q + c.S + 1 := ⟨c.xs.length - c.S - 1, by omega⟩
  refine ⟨?_, hle⟩
  have e : ((c.xs.length : Nat) : Int) - (c.S : Int) - 1 = (q : Int) := by omega
  rw [e] at hM
  have e2 : c.xs.length - c.S - 1 = q := by omega
  rw [e2]
  have e3 : ((c.np * q : Nat) : Int) = (c.np : Int) * (q : Int) := by simp
  omega
 ·exfalso
  have : (c.np : Int) * ((c.xs.length : Int) - c.S - 1) ≤ (c.np : Int) * 0 := Int.mul_le_mul_of_nonneg_left (by omega) (by omega)
  omega
/-- Which array it is behind making room. -/
def Cleared (c : FC) (st : FT) (N' : NA) : Prop := N' = st.N ∨ ∃ v : Nat, (v : Int) ∈ c.xs ∧ st.cn v = 0 ∧ (st.N.blk v).pages.length = c.np ∧ Rest st.N N' v ∧ (N'.blk v).pages = [] ∧ (N'.blk v).erases = wrap64 ((st.N.blk v).erases + 1)
/-- Room is made without copying. -/
structure Roomy (c : FC) (st st1 : FT) (b : Nat) : Prop where
 rest : At c st1
 ful : Ful c st1
 opn : hAt st1.hs (b : Int) = some 2
 room : (st1.N.blk b).pages.length < c.np
 at' : st1.at' = st.at'
 has : st1.has = st.has
 cnt : st1.cnt = st.cnt
 seq : st1.seq = st.seq
 cf : cF st1 = cF st
 arr : Cleared c st st1.N
theorem open_path (hk : CK c) (h : At c st) (ho : NoOpen st) (hF : Ful c st) (hd : ¬ c.S < cntH st.hs 3) (hr : 1 + c.S < cntH st.hs 0 + cntH st.hs 3) (m k : Nat) : ∃ st1 b, halfG c m (k + 1) st = some (st1, b, 0) ∧ At c st1 ∧ Ful c st1 ∧ hAt st1.hs (b : Int) = some 2 ∧ (st1.N.blk b).pages.length < c.np ∧ st1.N = st.N ∧ st1.at' = st.at' ∧ st1.has = st.has ∧ st1.cnt = st.cnt ∧ st1.seq = st.seq := by
 obtain ⟨d, h1, h2, h3, h4⟩ := open_half hk h ho hd hr m k
 refine ⟨_, d, h1, h2, fun i hi hh => ?_, h3, h4, rfl, rfl, rfl, rfl, rfl⟩
 show (st.N.blk i).pages.length = c.np
 have hdx := hs_in h2.pol.none_ h3
 obtain ⟨d', ed, -, dn⟩ := xs_nat hdx
 obtain ⟨u, -, hu⟩ := h.pol.pool d hdx
 by_cases e : i = d
 ·rw [e, h3] at hh; cases hh
 ·have hu3 : u ≠ 3 := fun x => by
   have h5 := how_dead (c := c) (st := st) (b := d) (v := 2) (by rw [hu, x]) (by omega)
   rw [h5, hu, x] at h3
   cases h3
  rw [how_at h.pol.hl (by have := hk.nb; omega) hu (fun x => absurd x hu3), if_neg (by omega), no_fOpen ho, if_neg (by simp)] at hh
  exact hF i hi hh
set_option maxHeartbeats 2000000 in
theorem room_path (hk : CK c) (h : At c st) (hc : CalmN c st.N) (hF : Ful c st)
  (hz : ∀ st' : FT, At c st' → NoOpen st' → Ful c st' → st'.N = st.N → st'.cnt = st.cnt → cntH st'.hs 0 + cntH st'.hs 3 = 1 + c.S → ∃ v : Nat, (v : Int) ∈ c.xs ∧ hAt st'.hs (v : Int) = some 1 ∧ st'.cn v = 0) :
  ∃ st1 b, roomG c 100 3 st = some (st1, b, 0) ∧ Roomy c st st1 b := by
 have hnb := hk.nb
 -- where no block is open
 have half : ∀ st' : FT, At c st' → NoOpen st' → Ful c st' → st'.N = st.N → st'.at' = st.at' → st'.has = st.has → st'.cnt = st.cnt → st'.seq = st.seq → ∃ st1 b, halfG c 100 2 st' = some (st1, b, 0) ∧ Roomy c st st1 b := by
  intro st' h' ho' hF' hN hat hhas hcnt hsq
  have hcf : ∀ s1 : FT, s1.N = st.N → s1.at' = st.at' → s1.has = st.has → cF s1 = cF st := fun s1 e1 e2 e3 => by
   refine cF_congr e2 e3 (fun a ha => ?_)
   unfold FT.pg
   rw [e1, e2]
  have hc' : CalmN c st'.N := by rw [hN]; exact hc
  have h30 := hc'.none_dead h'.pol
  have hd : ¬ c.S < cntH st'.hs 3 := by omega
  by_cases hr : 1 + c.S < cntH st'.hs 0 + cntH st'.hs 3
  ·obtain ⟨st1, b, g1, g2, g3, g4, g5, g6, g7, g8, g9, g10⟩ := open_path hk h' ho' hF' hd hr 100 1
   exact ⟨st1, b, g1, g2, g3, g4, g5, g7.trans hat, g8.trans hhas, g9.trans hcnt, g10.trans hsq, hcf st1 (g6.trans hN) (g7.trans hat) (g8.trans hhas), .inl (g6.trans hN)⟩
  ·have hrm := h'.room
   obtain ⟨k, kx, k1, kc⟩ := hz st' h' ho' hF' hN hcnt (by omega)
   have hlc := h'.cor.wf.pi.lc
   have hb := bestF_spec st'.hs st'.cnt 1 c.xs (fun x hx => by
    obtain ⟨j, rfl, -, hj⟩ := xs_nat hx
    omega)
   cases hbf : bestF st'.hs st'.cnt 1 c.xs with
   | none => exact absurd (by rw [k1]; rfl) (hb.2 hbf (k : Int) kx)
   | some V =>
    obtain ⟨b1, b2, b3⟩ := hb.1 V hbf
    obtain ⟨v, rfl, v2, vn⟩ := xs_nat b1
    have hv64 : v < 64 := by omega
    have hv : hAt st'.hs (v : Int) = some 1 := by
     obtain ⟨u, -, hu⟩ := h'.pol.pool v b1
     rw [hu] at b2 ⊢
     simp at b2
     rw [b2]
    have hcv0 : 0 ≤ st'.cn v := by
     have := h'.cor.wf.pi.on v vn
     unfold FT.cn
     omega
    have hcv : st'.cn v = 0 := by
     have := b3 (k : Int) kx (by rw [k1]; rfl)
     rw [Int.toNat_natCast, Int.toNat_natCast] at this
     unfold FT.cn at kc hcv0 ⊢
     omega
    have hvp := hF' v b1 hv
    have hcol : collectG c 100 st' = some (eraseF c st' v) := by
     unfold collectG
     rw [hbf]
     unfold colFr
     simp only [Int.toNat_natCast]
     rw [if_pos hcv]
    have hu : halfG c 100 2 st' = if (eraseF c st' v).2 ≠ 0 then some ((eraseF c st' v).1, 0, (eraseF c st' v).2) else roomG c 100 2 (eraseF c st' v).1 := by
     unfold halfG
     rw [if_neg hd, if_neg hr, hcol]
    have hfen : st'.N.fence ≤ (c.ep : Int) := by rw [hc'.fence]; omega
    have hops := eraseF_ops c st' v
    have hE : ∀ (X : FT) (z : Int), eraseF c st' v = (X, z) → X.N = (st'.N.erase (v : Int) c.ep).1 := fun X z e => by
     have : (eraseF c st' v).1.N = (st'.N.erase (v : Int) c.ep).1 := by
      unfold eraseF
      split
      ·rfl
      ·split <;> rfl
     rw [e] at this
     exact this
    rcases h'.cor.erase b1 (by omega) with ⟨e, hf⟩ | ⟨hf, N', hr', hcF, hcase⟩
    ·omega
    ·rcases hcase with ⟨e, hcor, hway, hpg, hhf, hfl, hdd, hL⟩ | ⟨e, hcor, hway, hfl, hdd, hsn, hL, hpg, hhf⟩ | ⟨e, ha1, hoff, ⟨dd', hway⟩, hsn, hfl, hL, hpg, hhf⟩
     ·rw [hu, e]
      simp only
      rw [if_neg (by simp)]
      have P1 := h'.pol.to_free (N' := N') hv64 hv (by omega) hr' hpg hhf hfl hL
      have hat1 := how_at0 (c := c) (s := { st' with N := N' }) (v := 0) h'.pol.hl hv64 hv (fun x => by cases x) (by omega)
      have hno : NoOpen (({ st' with N := N' } : FT).how c v 0) := fun i => by
       rw [hat1]
       split
       ·simp
       ·exact ho' i
      have c1 := fun w => how_cnt (c := c) (st := ({ st' with N := N' } : FT)) (v := 0) (w := w) h'.pol.hl hv64 hv (fun x => by cases x) (.inl (by omega))
      have c10 := c1 0
      have c13 := c1 3
      simp at c10 c13
      have hcap := cap_rest h'.cap hr' (show (N'.blk v).pages.length ≤ c.np by rw [hpg]; exact Nat.zero_le _)
      have hA1 : At c (({ st' with N := N' } : FT).how c v 0) := ⟨hcor.how v 0, P1, hcap, by omega⟩
      have hF1 : Ful c (({ st' with N := N' } : FT).how c v 0) := fun i hi hh => by
       by_cases ei : (i : Int) = (v : Int)
       ·rw [hat1, if_pos ei] at hh; cases hh
       ·rw [hat1, if_neg ei] at hh
        show (N'.blk i).pages.length = c.np
        rw [hr'.other i (by omega)]
        exact hF' i hi hh
      have hc1 : CalmN c (({ st' with N := N' } : FT).how c v 0).N := by
       rw [e] at hops
       exact hc'.ops hops
      have h31 := hc1.none_dead hA1.pol
      rw [roomG_none (no_fOpen hno)]
      obtain ⟨st1, b, g1, g2, g3, g4, g5, g6, g7, g8, g9, g10⟩ := open_path hk hA1 hno hF1 (by omega) (by omega) 100 0
      refine ⟨st1, b, g1, g2, g3, g4, g5, g7.trans hat, g8.trans hhas, g9.trans hcnt, g10.trans hsq, ?_, .inr ⟨v, b1, ?_, ?_, ?_, ?_, ?_⟩⟩
      ·have e1 : cF st1 = cF (({ st' with N := N' } : FT).how c v 0) := cF_congr g7 g8 (fun a ha => by unfold FT.pg; rw [g6, g7])
       rw [e1]
       exact hcF.trans (hcf st' hN hat hhas)
      ·unfold FT.cn at hcv ⊢; rw [← hcnt]; exact hcv
      ·rw [← hN]; exact hvp
      ·rw [g6, ← hN]; exact hr'
      ·rw [g6]; exact hpg
      ·have e1 := hE _ _ e
       rw [g6, ← hN]
       show (N'.blk v).erases = _
       have e1 : N' = (st'.N.erase (v : Int) c.ep).1 := e1
       rcases erase_spec (ep := (c.ep : Int)) (show v < st'.N.bs.length by rw [h'.cor.wf.lb]; exact vn) h'.cor.on with ⟨x, -⟩ | ⟨-, N2, z2, he2, -, hh⟩
       ·omega
       ·rw [he2] at e1
        have e1 : N' = N2 := e1
        subst e1
        rcases hh with ⟨-, -, x, -, y, -⟩ | ⟨-, -, -, x, -⟩ | ⟨-, -, -, -, -, -, -, g⟩
        ·have : N'.off = false := hcor.on
         rw [this] at x; cases x
        ·rw [hpg] at x
         rw [← x] at hvp
         have := hk.np.1
         rw [← hvp] at this
         exact absurd this (by simp)
        ·exact g
     ·exfalso
      have := hc'.hale v b1
      rw [e] at hops
      have h2 := hops.hale this
      have h3 : (N'.blk v).failed = false := h2.2.2
      rw [h3] at hfl
      cases hfl
     ·exfalso
      rw [hc'.armed] at ha1
      cases ha1
 cases ho : fOpen c.xs st.hs with
 | none =>
  rw [roomG_none ho]
  exact half st h (fun i hi => fOpen_none ho _ (hs_in h.pol.none_ hi) hi) hF rfl rfl rfl rfl rfl
 | some x =>
  obtain ⟨h1, h2⟩ := fOpen_mem _ _ _ ho
  obtain ⟨b, rfl, b2, bn⟩ := xs_nat h1
  by_cases hp : (st.N.blk b).pages.length < c.np
  ·exact ⟨st, b, roomG_room ho hp, h, hF, h2, hp, rfl, rfl, rfl, rfl, rfl, .inl rfl⟩
  ·have hb64 : b < 64 := by omega
   obtain ⟨P, hno⟩ := h.pol.to_used hb64 h2 (fun hc => hp ((h.pol.opn b h1 h2).2 hc))
   have c1 := fun w => how_cnt (c := c) (st := st) (v := 1) (w := w) h.pol.hl hb64 h2 (fun x => by cases x) (.inl (by omega))
   have c10 := c1 0
   have c13 := c1 3
   simp at c10 c13
   have hA : At c (st.how c b 1) := ⟨h.cor.how b 1, P, h.cap, by have := h.room; omega⟩
   have hat1 := how_at0 (c := c) (s := st) (v := 1) h.pol.hl hb64 h2 (fun x => by cases x) (by omega)
   have hF1 : Ful c (st.how c b 1) := fun i hi hh => by
    show (st.N.blk i).pages.length = c.np
    by_cases ei : (i : Int) = (b : Int)
    ·have : i = b := by omega
     have := h.cap b
     subst_vars
     omega
    ·rw [hat1, if_neg ei] at hh
     exact hF i hi hh
   rw [roomG_full ho hp]
   exact half (st.how c b 1) hA hno hF1 rfl rfl rfl rfl rfl
end
end Go.Proofs.Ytpcbpljdiacbmaa.Ftl

namespace Go.Proofs.Ytpcbpljdiacbmaa.Ftl
open Go.RowKit Go.Proofs.Ytpcbpljdiacbmaa.Kit Go.Proofs.Ytpcbpljdiacbmaa.Oct Go.Proofs.Ytpcbpljdiacbmaa.Sheet Go.Proofs.Ytpcbpljdiacbmaa.Nand Go.Proofs.Ytpcbpljdiacbmaa.Plan Go.Proofs.Ytpcbpljdiacbmaa.Scan Go.Proofs.Ytpcbpljdiacbmaa.Pmap Go.Proofs.Ytpcbpljdiacbmaa.Pool

/-! A page is written without copying. -/
section
variable {c : FC} {st : FT} {N N' : NA} {a b s : Nat} {D : Nat → Option (List Int)} {R : FT × Int} {ys : List Int}
/-- What is known of a page that was written so. -/
structure PutP (c : FC) (st : FT) (a : Nat) (R : FT × Int) (st1 : FT) (b : Nat) (N' : NA) : Prop where
 roomy : Roomy c st st1 b
 is : R = (st1.put N' b a, 0)
 rest : Rest st1.N N' b
 len : (N'.blk b).pages.length = (st1.N.blk b).pages.length + 1
 er : (N'.blk b).erases = (st1.N.blk b).erases
 ful : Ful c R.1
 page : ∃ p : Pg, p.f = 0 ∧ L0 c N' = putL (L0 c st1.N) (b : Int) ((st1.N.blk b).pages.length, p)
set_option maxHeartbeats 1000000 in
theorem put_path (hk : CK c) (hS : Sound c st D s) (hs : s + 7000 ≤ 281474976710000) (hF : Ful c st) (ha : a < c.M) (hy : ys.length ≤ 64) (hB : IsB ys)
  (hz : ∀ st' : FT, At c st' → NoOpen st' → Ful c st' → st'.N = st.N → st'.cnt = st.cnt → cntH st'.hs 0 + cntH st'.hs 3 = 1 + c.S → ∃ v : Nat, (v : Int) ∈ c.xs ∧ hAt st'.hs (v : Int) = some 1 ∧ st'.cn v = 0)
  (hR : putG c 100 3 65 st 1 a ys = some R) : ∃ st1 b N', PutP c st a R st1 b N' := by
 obtain ⟨st1, b, h1, hr⟩ := room_path hk hS.rest hS.calm hF hz
 obtain ⟨r, g1, g2⟩ := putG_step hR
 rw [h1] at g1
 injection g1 with g1
 subst g1
 have hops := roomG_ops c 100 3 st _ h1
 have hc1 := hS.calm.ops hops
 have hbx := hs_in hr.rest.pol.none_ hr.opn
 obtain ⟨b', eb, b2, bn⟩ := xs_nat hbx
 have hbn : b < c.nb := by omega
 have hopn := hr.rest.pol.opn b hbx hr.opn
 have hsq := hr.seq
 have hse := hS.seq
 have hM16 := hk.M16
 obtain ⟨p, hp⟩ : ∃ p : Pg, p = ⟨1, c.ep, st1.seq + 1, a, 0, ys⟩ := ⟨_, rfl⟩
 have hokp : p.ok := by
  rw [hp]
  exact ⟨by simp, by simp, hk.ep.2, by show st1.seq + 1 < _; omega, by show a < _; omega, by show 0 ≤ 64; omega, hy, .inl rfl, hB⟩
 have hpr : st1.N.prog (b : Int) ((st1.N.blk b).pages.length : Int) (st1.next c 1 a 0 ys) c.ep = st1.prg c b 1 a 0 ys := rfl
 have hE := (prog_gen st1.N b (st1.next c 1 a 0 ys) (c.ep : Int))
 rw [hpr] at hE
 have hfen : st1.N.fence ≤ (c.ep : Int) := by rw [hc1.fence]; omega
 rcases g2 with ⟨x, -⟩ | ⟨-, -, r2, q1, q2⟩
 ·exact absurd rfl x
 ·have hops2 := programF_ops c st1 b 1 a 0 ys
  rcases hr.rest.cor.prog (f := 0) (a := a) (K := 1) (ys := ys) hbx hopn.1 hr.room hk.np.2 p hp hokp (by decide) ha with ⟨hP, hf⟩ | ⟨hf, N', hr', hh', hcase⟩
  ·omega
  ·rcases hcase with ⟨hP, ha1, -⟩ | ⟨hP, hcor, hway, hfl, hdd, hpl, hL, hcF⟩ | ⟨hP, hon, hway, hpg, hfl, hdd, hfw', hL, hcF⟩
   ·exfalso
    rw [hc1.armed] at ha1
    cases ha1
   ·exfalso
    rw [hP] at hops2
    have h2 := hops2.hale (hc1.hale b hbx)
    have h3 : (N'.blk b).failed = false := h2.2.2
    rw [h3] at hfl
    cases hfl
   ·have e0 : r2 = (st1.put N' b a, 0) := by rw [← q1]; exact hP
    have hRe : R = (st1.put N' b a, 0) := by
     rcases q2 with ⟨-, q⟩ | ⟨q, -⟩
     ·rw [q, e0]
     ·rw [e0] at q; cases q
    refine ⟨st1, b, N', hr, hRe, hr', by rw [hpg, List.length_append]; rfl, ?_, ?_, p, by rw [hp], hL⟩
    ·have hNe : (st1.prg c b 1 a 0 ys).1 = N' := by
      have hP2 := hP
      unfold programF at hP2
      split at hP2
      ·injection hP2 with _ x
       cases x
      ·split at hP2
       ·injection hP2 with x _
        exact congrArg FT.N x
       ·rename_i h8 h0
        injection hP2 with _ x
        exact absurd x h0
     rcases hE with e | ⟨-, -, e⟩
     ·exfalso
      rw [hNe] at e
      rw [e] at hpg
      have := congrArg List.length hpg
      simp at this
     ·rw [hNe] at e
      exact e
    ·rw [hRe]
     intro i hi h1'
     have h1' : hAt st1.hs (i : Int) = some 1 := h1'
     show (N'.blk i).pages.length = c.np
     have hib : i ≠ b := fun e => by
      rw [e, hr.opn] at h1'
      cases h1'
     rw [hr'.other i hib]
     exact hr.ful i hi h1'
/-- The counts where an address gets its first page. -/
theorem cn_first (hw : FWf c st) (hb : b < c.nb) (ha : st.has.getD a false = false) (i : Nat) : (st.put N' b a).cn i = if i = b then st.cn b + 1 else st.cn i := by
 have hlc := hw.pi.lc
 have ed : dcnt st.at' st.has st.cnt a = st.cnt := by
  unfold dcnt
  rw [ha]
  simp
 show (scnt st.at' st.has st.cnt a b).getD i 0 = _
 unfold scnt
 rw [ed, getD_setI _ b i (by omega)]
 rfl
/-- While all addresses get their first page. -/
structure Fil (c : FC) (st : FT) (k : Nat) : Prop where
 ful : Ful c st
 pages : totP c st.N = k
 each : ∀ i : Nat, (i : Int) ∈ c.xs → (st.N.blk i).pages = [] ∨ 1 ≤ st.cn i
 own : ∀ i, ∀ x ∈ L0 c st.N i, x.2.f = 0
theorem Fil.put (hk : CK c) (hS : Sound c st D s) (hs : s + 7000 ≤ 281474976710000) {k : Nat} (hF : Fil c st k) (hkM : k < c.M) (ha : a < c.M) (hD : D a = none) (hy : ys.length ≤ 64) (hB : IsB ys) (hR : putG c 100 3 65 st 1 a ys = some R) : Fil c R.1 (k + 1) := by
 have hnb := hk.nb
 obtain ⟨hcap, hlen⟩ := cap_eq hk
 obtain ⟨st1, b, N', hp⟩ := put_path hk hS hs hF.ful ha hy hB (fun st' h' ho' hF' hN' hc' hr' => by
  exfalso
  have h1 := xs_le hnb h'.pol ho'
  have h2 := hF'.used h'.pol
  rw [hN', hF.pages] at h2
  have h3 : c.np * (c.xs.length - c.S - 1) ≤ c.np * cntH st'.hs 1 := Nat.mul_le_mul_left _ (by omega)
  omega) hR
 have hr := hp.roomy
 have hN1 : st1.N = st.N := by
  rcases hr.arr with e | ⟨v, vx, vc, vp, -⟩
  ·exact e
  ·exfalso
   rcases hF.each v vx with e | e
   ·rw [e] at vp
    have := hk.np.1
    rw [← vp] at this
    exact absurd this (by simp)
   ·omega
 have hbx := hs_in hr.rest.pol.none_ hr.opn
 obtain ⟨b', eb, -, bn⟩ := xs_nat hbx
 have hha : st1.has.getD a false = false := by
  rw [hr.has]
  have := hS.rest.cor.cf a
  rw [this]
  rw [← hS.data] at hD
  unfold Vof at hD
  cases hc : cF st a with
  | none => rfl
  | some y => rw [hc] at hD; cases hD
 have hcn := cn_first (N' := N') hr.rest.cor.wf (show b < c.nb by omega) hha
 have hRe := hp.is
 refine ⟨hp.ful, ?_, fun i hi => ?_, fun i x hx => ?_⟩
 ·rw [hRe]
  show totP c N' = k + 1
  rw [totP_prog hbx hnb hp.rest hp.len, hN1, hF.pages]
 ·rw [hRe]
  show (N'.blk i).pages = [] ∨ 1 ≤ (st1.put N' b a).cn i
  rw [hcn i]
  by_cases e : i = b
  ·rw [if_pos e]
   right
   have := hr.rest.cor.wf.pi.on b (by omega)
   unfold FT.cn
   omega
  ·rw [if_neg e, hp.rest.other i e, hN1]
   have := hF.each i hi
   unfold FT.cn at this ⊢
   rw [hr.cnt]
   exact this
 ·rw [hRe] at hx
  have hx : x ∈ L0 c N' i := hx
  obtain ⟨p, hpf, hL⟩ := hp.page
  rw [hL, hN1] at hx
  rcases putL_mem hx with ⟨-, e⟩ | hx
  ·rw [e]; exact hpf
  ·exact hF.own i x hx
section
variable {o : FId} {A : Option Addr} {n cc : Nat} {K : Nat → Prop} {V w w1 w2 : World}
end
end
end Go.Proofs.Ytpcbpljdiacbmaa.Ftl

namespace Go.Proofs.Ytpcbpljdiacbmaa.Ftl
open Go.RowKit Go.Proofs.Ytpcbpljdiacbmaa.Kit Go.Proofs.Ytpcbpljdiacbmaa.Oct Go.Proofs.Ytpcbpljdiacbmaa.Sheet Go.Proofs.Ytpcbpljdiacbmaa.Nand Go.Proofs.Ytpcbpljdiacbmaa.Plan Go.Proofs.Ytpcbpljdiacbmaa.Scan Go.Proofs.Ytpcbpljdiacbmaa.Pmap Go.Proofs.Ytpcbpljdiacbmaa.Pool

/-! One address is written again and again. -/
section
variable {c : FC} {st : FT} {N N' : NA} {a b s : Nat} {D : Nat → Option (List Int)} {R : FT × Int} {ys : List Int}
structure Spr (c : FC) (st : FT) (k : Nat) : Prop where
 ful : Ful c st
 sum : totP c st.N + c.np * totE c st.N = k
 er : ∀ i : Nat, 0 ≤ (st.N.blk i).erases ∧ (st.N.blk i).erases ≤ k
theorem wrap64_in {z : Int} (h : -9223372036854775808 ≤ z ∧ z ≤ 9223372036854775807) : wrap64 z = z := by
 unfold wrap64
 have := IntWalk.i64_in z h
 omega
theorem Spr.put (hk : CK c) (hlen : 3 + c.S ≤ c.xs.length) (hS : Sound c st D s) (hs : s + 7000 ≤ 281474976710000) {k : Nat} (hk1 : k ≤ 100000) (hF : Spr c st k) (hD : ∀ a, a ≠ 0 → D a = none) (hy : ys.length ≤ 64) (hB : IsB ys) (hR : putG c 100 3 65 st 1 0 ys = some R) : Spr c R.1 (k + 1) := by
 have hnb := hk.nb
 obtain ⟨st1, b, N', hp⟩ := put_path hk hS hs hF.ful hk.M hy hB (fun st' h' ho' hF' hN' hc' hr' => by
  refine Classical.byContradiction (fun hno => ?_)
  have h1 := xs_le hnb h'.pol ho'
  have h2 : cntH st'.hs 1 ≤ cnum (fun i => decide (i = (st.at'.getD 0 (0, 0)).1.toNat)) 64 := cnum_mono 64 (fun i hi hu => by
   have h1 : hAt st'.hs (i : Int) = some 1 := by rw [hAt_nat st'.hs i hi]; simpa using hu
   have hx := hs_in h'.pol.none_ h1
   obtain ⟨i', ei, -, hin⟩ := xs_nat hx
   have hcn : st'.cn i ≠ 0 := fun e => hno ⟨i, hx, h1, e⟩
   have hon := hS.rest.cor.wf.pi.on i (by omega)
   unfold FT.cn at hcn
   rw [hc', hon] at hcn
   obtain ⟨a, ha, hoa⟩ := cnum_ex (onP st.at' st.has i) c.M (by omega)
   unfold onP at hoa
   rw [Bool.and_eq_true, decide_eq_true_iff] at hoa
   have ha0 : a = 0 := by
    by_cases e : a = 0
    ·exact e
    ·exfalso
     have h3 := hD a e
     have h4 := hS.rest.cor.cf a
     rw [hoa.1] at h4
     rw [← hS.data] at h3
     unfold Vof at h3
     cases hc : cF st a with
     | none => rw [hc] at h4; cases h4
     | some y => rw [hc] at h3; cases h3
   rw [ha0] at hoa
   simp only [decide_eq_true_eq]
   omega)
  have h3 := cnum_at (st.at'.getD 0 (0, 0)).1.toNat 64
  omega) hR
 have hr := hp.roomy
 have hbx := hs_in hr.rest.pol.none_ hr.opn
 obtain ⟨b', eb, -, bn⟩ := xs_nat hbx
 have hP := totP_prog hbx hnb hp.rest hp.len
 have hE := totE_prog hbx hnb hp.rest hp.er
 have hRe := hp.is
 have hsum := hF.sum
 have her1 : ∀ i : Nat, (N'.blk i).erases = (st1.N.blk i).erases := fun i => by
  by_cases e : i = b
  ·rw [e]; exact hp.er
  ·rw [hp.rest.other i e]
 rcases hr.arr with e | ⟨v, vx, vc, vp, vr, vpg, ver⟩
 ·refine ⟨hp.ful, ?_, fun i => ?_⟩
  ·rw [hRe]
   show totP c N' + c.np * totE c N' = k + 1
   rw [hP, hE, e]
   omega
  ·rw [hRe]
   show 0 ≤ (N'.blk i).erases ∧ (N'.blk i).erases ≤ ((k + 1 : Nat) : Int)
   rw [her1, e]
   have := hF.er i
   omega
 ·have hev := hF.er v
  have hev1 : (st1.N.blk v).erases = (st.N.blk v).erases + 1 := by rw [ver, wrap64_in (by omega)]
  have h1 := tot_upd (f := fun i => (st.N.blk i).pages.length) (g := fun i => (st1.N.blk i).pages.length) vx hnb (fun i hi => by show (st1.N.blk i).pages.length = _; rw [vr.other i hi])
  have h2 := tot_upd (f := fun i => (st.N.blk i).erases.toNat) (g := fun i => (st1.N.blk i).erases.toNat) vx hnb (fun i hi => by show (st1.N.blk i).erases.toNat = _; rw [vr.other i hi])
  have h1 : totP c st1.N + (st.N.blk v).pages.length = totP c st.N + (st1.N.blk v).pages.length := h1
  have h2 : totE c st1.N + (st.N.blk v).erases.toNat = totE c st.N + (st1.N.blk v).erases.toNat := h2
  rw [vp, vpg] at h1
  rw [hev1] at h2
  have h1 : totP c st1.N + c.np = totP c st.N := h1
  have h3 : totE c st1.N = totE c st.N + 1 := by omega
  refine ⟨hp.ful, ?_, fun i => ?_⟩
  ·rw [hRe]
   show totP c N' + c.np * totE c N' = k + 1
   rw [hP, hE, h3, Nat.mul_succ]
   omega
  ·rw [hRe]
   show 0 ≤ (N'.blk i).erases ∧ (N'.blk i).erases ≤ ((k + 1 : Nat) : Int)
   rw [her1]
   by_cases e : i = v
   ·rw [e, hev1]; omega
   ·rw [vr.other i e]
    have := hF.er i
    omega
theorem Spr.new (hF : Fil c st 0) (hN : st.N = newA c.nb c.np c.bad) : Spr c st 0 := by
 have he : ∀ i, ((newA c.nb c.np c.bad).blk i).erases = 0 := fun i => by
  by_cases h : i < c.nb
  ·rw [newA_blk _ _ _ i h]; rfl
  ·unfold NA.blk
   rw [List.getD_eq_getElem?_getD, List.getElem?_eq_none (by rw [newA_len]; omega)]
   rfl
 have hz : totE c st.N = 0 := by
  rw [hN]
  unfold totE tot
  rw [usum_ext (g := fun _ => 0) 64 (fun i _ _ => by rw [he]; rfl)]
  exact usum_zero 64
 refine ⟨hF.ful, by rw [hF.pages, hz]; simp, fun i => ?_⟩
 rw [hN, he]
 simp
/-- The sum over a list of blocks. -/
def lsum (f : Nat → Nat) : List Int → Nat
 | [] => 0
 | x :: l => f x.toNat + lsum f l
theorem lsum_app (f : Nat → Nat) (l l' : List Int) : lsum f (l ++ l') = lsum f l + lsum f l' := by
 induction l with
 | nil => simp [lsum]
 | cons x l ih => simp only [List.cons_append, lsum, ih]; omega
theorem lsum_usb (f : Nat → Nat) (bad : List Int) : ∀ i : Nat, lsum f (usb i bad) = usum (fun j => decide (2 ≤ j ∧ (j : Int) ∉ bad)) f i := by
 intro i
 induction i with
 | zero => rfl
 | succ i ih =>
  rw [usb_succ, lsum_app, ih]
  show _ = usum _ f i + _
  by_cases h : 2 ≤ i ∧ (i : Int) ∉ bad
  ·rw [if_pos h, if_pos (by simpa using h)]
   simp [lsum]
  ·rw [if_neg h, if_neg (by simpa using h)]
   rfl
theorem lsum_tot (f : Nat → Nat) (hnb : c.nb ≤ 64) : lsum f c.xs = tot c f := by
 have h1 : lsum f c.xs = usum (fun j => decide (2 ≤ j ∧ (j : Int) ∉ c.bad)) f c.nb := lsum_usb f c.bad c.nb
 rw [h1]
 unfold tot
 have hm : ∀ j : Nat, j < c.nb → decide ((j : Int) ∈ c.xs) = decide (2 ≤ j ∧ (j : Int) ∉ c.bad) := fun j hj => by
  rw [decide_eq_decide]
  have := usb_mem c.nb c.bad (j : Int)
  have e : (j : Int) ∈ c.xs ↔ 2 ≤ (j : Int) ∧ (j : Int) < c.nb ∧ (j : Int) ∉ c.bad := this
  rw [e]
  constructor
  ·rintro ⟨h1, -, h2⟩; exact ⟨by omega, h2⟩
  ·rintro ⟨h1, h2⟩; exact ⟨by omega, by omega, h2⟩
 have h2 : ∀ m, c.nb ≤ m → usum (fun i => decide ((i : Int) ∈ c.xs)) f m = usum (fun j => decide (2 ≤ j ∧ (j : Int) ∉ c.bad)) f c.nb := by
  intro m hm2
  induction m with
  | zero =>
   have : c.nb = 0 := by omega
   rw [this]
   rfl
  | succ m ih =>
   by_cases e : c.nb = m + 1
   ·rw [e]
    have key : ∀ q, q ≤ m + 1 → usum (fun i => decide ((i : Int) ∈ c.xs)) f q = usum (fun j => decide (2 ≤ j ∧ (j : Int) ∉ c.bad)) f q := by
     intro q
     induction q with
     | zero => intro _; rfl
     | succ q ihq =>
      intro hq
      have hmq := hm q (by omega)
      show usum _ f q + (if decide ((q : Int) ∈ c.xs) = true then f q else 0) = usum _ f q + (if decide (2 ≤ q ∧ (q : Int) ∉ c.bad) = true then f q else 0)
      rw [ihq (by omega), hmq]
    exact key (m + 1) (Nat.le_refl _)
   ·show usum _ f m + _ = _
    rw [ih (by omega), if_neg (by
     simp only [decide_eq_true_eq]
     intro h
     obtain ⟨k, ek, -, hk⟩ := xs_nat h
     omega)]
    rfl
 exact (h2 64 hnb).symm
theorem lsum_take (f : Nat → Nat) (l : List Int) (j : Nat) (hj : j < l.length) : lsum f (l.take (j + 1)) = lsum f (l.take j) + f (l.getD j 0).toNat := by
 rw [take_one j hj, lsum_app]
 simp [lsum]
end
theorem geo_three : ∀ n : Fin 256, 3 + gS n.val ≤ (us (gB n.val) (gL n.val)).length := by decide +kernel
end Go.Proofs.Ytpcbpljdiacbmaa.Ftl

namespace Go.Proofs.Ytpcbpljdiacbmaa.Ftl
open Go.RowKit Go.Proofs.Ytpcbpljdiacbmaa.Kit Go.Proofs.Ytpcbpljdiacbmaa.Oct Go.Proofs.Ytpcbpljdiacbmaa.Sheet Go.Proofs.Ytpcbpljdiacbmaa.Nand Go.Proofs.Ytpcbpljdiacbmaa.Plan Go.Proofs.Ytpcbpljdiacbmaa.Scan Go.Proofs.Ytpcbpljdiacbmaa.Pmap Go.Proofs.Ytpcbpljdiacbmaa.Pool

/-! Where blocks fail, but nothing is cut. -/
structure Soft (c : FC) (st : FT) (D : Nat → Option (List Int)) (s : Nat) : Prop where
 rest : At c st
 data : Vof (cF st) = D
 seq : st.seq ≤ s
 armed : st.N.armed = 0
 fence : st.N.fence = 0
section
variable {c : FC} {o : FId} {A : Option Addr} {n cc b s a : Nat} {K K' : Nat → Prop} {V w w1 w2 : World} {st : FT} {N N' : NA} {c0 : Nat → Option (Int × Fo)} {D : Nat → Option (List Int)} {R : FT × Int} {ys : List Int}
theorem Sound.soft (h : Sound c st D s) : Soft c st D s := ⟨h.rest, h.data, h.seq, h.calm.armed, h.calm.fence⟩
theorem Soft.up {s' : Nat} (h : Soft c st D s) (hs : s ≤ s') : Soft c st D s' := ⟨h.rest, h.data, Nat.le_trans h.seq hs, h.armed, h.fence⟩
theorem Soft.put (h : Soft c st D s) (hp : PutO c st 7000 a ys R) (ho : Ops c.ep st.N R.1.N) : (R.2 = 0 ∧ Soft c R.1 (updV D a ys) (s + 7000)) ∨ (R.2 = 10 ∧ Soft c R.1 D (s + 7000) ∧ c.S < cntH R.1.hs 3) := by
 have hs := h.seq
 have ha := ho.calm h.armed
 have hf := ho.fence.trans h.fence
 rcases hp with ⟨g0, g1, g2, g3, g4, g5⟩ | ⟨g0, g1, g2, g3, g4, g5⟩ | ⟨g0, g1⟩ | ⟨g0, g1, g2, g3, g4, g5⟩
 ·exact .inl ⟨g0, g1, by rw [g2, h.data], by omega, ha, hf⟩
 ·have := h.fence
  omega
 ·have := ho.on h.armed h.rest.cor.on
  rw [g1.1] at this
  cases this
 ·exact .inr ⟨g0, ⟨g1, g2.trans h.data, by omega, ha, hf⟩, g3⟩
theorem Soft.mount (ha : N.armed = 0) (hf : N.fence = 0) (hon : N.off = false) (hm : MntO c N.fence D s R) (ho : Ops c.ep N R.1.N) : R.2 = 0 ∧ Soft c R.1 D s := by
 have ha' := ho.calm ha
 have hf' := ho.fence.trans hf
 rcases hm with ⟨g0, g1, g2, g3, g4⟩ | ⟨g0, g1⟩ | ⟨g0, g1⟩
 ·exact ⟨g0, g1, g2, g4, ha', hf'⟩
 ·omega
 ·have := ho.on ha hon
  rw [g1.1] at this
  cases this
/-- How many have failed, counted one behind the other. -/
def flN (N : NA) (i : Nat) : Nat := if (N.blk i).failed = true then 1 else 0
theorem fl_count {ex : Nat → Prop} (hnb : c.nb ≤ 64) (hp : Pol c st ex) : lsum (flN st.N) c.xs = cntH st.hs 3 := by
 rw [lsum_tot _ hnb, dead_count hp]
 unfold tot
 have key : ∀ m, usum (fun i => decide ((i : Int) ∈ c.xs)) (flN st.N) m = cnum (fun i => decide ((i : Int) ∈ c.xs) && (st.N.blk i).failed) m := by
  intro m
  induction m with
  | zero => rfl
  | succ m ih =>
   rw [cnum_succ, ← ih]
   show usum _ _ m + (if decide ((m : Int) ∈ c.xs) = true then flN st.N m else 0) = _
   congr 1
   unfold flN
   by_cases h1 : (m : Int) ∈ c.xs
   ·rw [decide_eq_true h1, if_pos rfl, Bool.true_and]
   ·rw [decide_eq_false h1, if_neg (by simp), Bool.false_and, if_neg (by simp)]
 exact key 64
theorem flN_le (N : NA) (i : Nat) : flN N i ≤ 1 := by
 unfold flN
 split <;> omega
theorem lsum_len (f : Nat → Nat) (hf : ∀ i, f i ≤ 1) : ∀ l : List Int, lsum f l ≤ l.length := by
 intro l
 induction l with
 | nil => exact Nat.le_refl _
 | cons x l ih =>
  have := hf x.toNat
  simp only [lsum, List.length_cons]
  omega
theorem LF.failed (h : LF c o A n cc K V w w1 st) (i : Nat) (hi : i < st.N.bs.length) :
  Calls Try.prog 30 #[.pointer (some ⟨o.ba, 0, none⟩), .int .i64 (i : Int)] w1 fun e w' => e = .returned (.bool (st.N.blk i).failed) ∧ w' = w1 := by
 obtain ⟨F', hA⟩ := h.arr
 have := failed_any F' o.ba st.N (i : Int) w1 hA
 rw [show st.N.inI (i : Int) = true by unfold NA.inI; simp; omega, if_pos rfl, Int.toNat_natCast] at this
 exact this
/-- A block is doomed. -/
theorem LF.doom (h : LF c o A n cc K V w w1 st) (hS : Soft c st D s) (i q : Nat) (hi : i < c.nb) (hq : q ≤ 1000) :
  Calls Try.prog 29 #[.pointer (some ⟨o.ba, 0, none⟩), .int .i64 (i : Int), .int .i64 (q : Int)] w1 fun e w' => e = .returned (.int .i64 0) ∧ ∃ st', LF c o A n cc K V w w' st' ∧ Soft c st' D s := by
 have hlt : i < st.N.bs.length := by rw [hS.rest.cor.wf.lb]; exact hi
 obtain ⟨N', hN'⟩ : ∃ x, st.N.setB i { st.N.blk i with doom := q } = x := ⟨_, rfl⟩
 have hd : st.N.doomed (i : Int) (q : Int) = (N', 0) := by
  unfold NA.doomed
  rw [if_neg (by omega), Int.toNat_natCast, Int.toNat_natCast, hN']
 have hbk : ∀ j, (N'.blk j).pages = (st.N.blk j).pages ∧ (N'.blk j).erases = (st.N.blk j).erases ∧ (N'.blk j).half = (st.N.blk j).half ∧ (N'.blk j).failed = (st.N.blk j).failed := fun j => by
  rw [← hN', blk_set i j _ hlt]
  by_cases e : j = i
  ·rw [if_pos e, e]; exact ⟨rfl, rfl, rfl, rfl⟩
  ·rw [if_neg e]; exact ⟨rfl, rfl, rfl, rfl⟩
 have hl : N'.bs.length = st.N.bs.length := by rw [← hN']; exact len_set _ _ _
 have hpg : N'.pages = st.N.pages := by subst hN'; rfl
 have hoff : N'.off = false := by subst hN'; exact hS.rest.cor.on
 obtain ⟨h1, h2⟩ := hS.rest.arr (N' := N') hl hpg hoff hbk
 refine (h.calls (N' := N') (R := fun e => e = .returned (.int .i64 0)) (h.wf.arr hl hpg (fun j => ⟨(hbk j).1, (hbk j).2.1⟩)) (fun F' hA => by
  refine (doom_any F' o.ba st.N (i : Int) (q : Int) w1 hA (by omega)).mono ?_
  rintro e w' ⟨he, h1, h2⟩
  rw [hd] at he h1
  exact ⟨he, h1.grown (w := w1) w1, h2⟩)).mono ?_
 rintro e w' ⟨he, hL⟩
 exact ⟨he, _, hL, h1, by rw [h2]; exact hS.data, hS.seq, by subst hN'; exact hS.armed, by subst hN'; exact hS.fence⟩
end
def gk3 (g1 gn gu : Nat) : Nat → Prop := fun g => g = g1 ∨ g = gn ∨ g = gu
theorem LF.row {c : FC} {o : FId} {A : Option Addr} {n cc : Nat} {K : Nat → Prop} {V w w1 : World} {st : FT} {gu ou l : Nat} {k : IntKind} {xs : List Int} (h : LF c o A n cc K V w w1 st) (hg : K gu) (hz : Nums V k (some ⟨gu, ou, none⟩) l xs) : Nums w1 k (some ⟨gu, ou, none⟩) l xs := nums_blk hz (fun _ a ha => by
 injection ha with ha
 rw [← ha]
 exact h.heap hg)
theorem _root_.Go.Proofs.Ytpcbpljdiacbmaa.Kit.Nums.cell0 {w : World} {k : IntKind} {gu ou l : Nat} {xs : List Int} (h : Nums w k (some ⟨gu, ou, none⟩) l xs) (j : Nat) (hj : j < l) : w.cell? ⟨gu, ou + j, none⟩ = some (.int k (xs.getD j 0)) := by
 obtain ⟨b, o, e, hc⟩ := h.at_ j hj
 injection e with e
 injection e with e1 e2
 subst e1
 subst e2
 exact hc
theorem _root_.Go.Proofs.Ytpcbpljdiacbmaa.Kit.Nums.other {w : World} {k : IntKind} {gu ou l : Nat} {xs : List Int} (h : Nums w k (some ⟨gu, ou, none⟩) l xs) (g i : Nat) (v : Value) (hg : g ≠ gu) : Nums (w.setCell ⟨g, i, none⟩ v) k (some ⟨gu, ou, none⟩) l xs := nums_blk h (fun _ a ha => by
 injection ha with ha
 rw [← ha]
 exact Below.heap_setCell w ⟨g, i, none⟩ v gu (fun e => hg e.symm))
theorem _root_.Go.Proofs.Ytpcbpljdiacbmaa.Kit.Nums.lt0 {w : World} {k : IntKind} {A : Option Addr} {l : Nat} {xs : List Int} (h : Nums w k A l xs) (h0 : 0 < l) (ad : Addr) (had : A = some ad) : ad.block < w.heap.size := by
 obtain ⟨b', o', e', hc'⟩ := h.cell 0 h0
 rw [e'] at had
 injection had with had
 rw [← had]
 exact World.block_lt_of_cell? w _ (hc' 0 h0)
end Go.Proofs.Ytpcbpljdiacbmaa.Ftl

namespace Go.Proofs.Ytpcbpljdiacbmaa.Ftl
open Go.RowKit Go.Proofs.Ytpcbpljdiacbmaa.Kit Go.Proofs.Ytpcbpljdiacbmaa.Oct Go.Proofs.Ytpcbpljdiacbmaa.Sheet Go.Proofs.Ytpcbpljdiacbmaa.Nand Go.Proofs.Ytpcbpljdiacbmaa.Plan Go.Proofs.Ytpcbpljdiacbmaa.Scan Go.Proofs.Ytpcbpljdiacbmaa.Pmap Go.Proofs.Ytpcbpljdiacbmaa.Pool

set_option maxRecDepth 100000 in
set_option maxHeartbeats 4000000 in
theorem law_fails (n : Int) (hn : 0 ≤ n ∧ n ≤ 255) (C : Option Addr) (l d : Nat) (xs : Nat → FAct) (w : World) (hx : Recs w C l 5 FAct.enc FAct.ok xs) :
  Calls Try.prog 8 #[.int .u8 n, .slice C l d] w fun e w' => e = .returned (.bool true) ∧ Below w.heap.size w w' := by
 have hl63 : (l : Int) ≤ 9223372036854775807 := by have := hx.most; omega
 have Hx := hid hx
 clear hx
 obtain ⟨n, rfl⟩ := Int.eq_ofNat_of_zero_le hn.1
 have hn : n < 256 := by omega
 have hk : CK (cG n 1) := cG_ok hn (by omega) (by omega)
 have hgeo : ∀ W, Calls Try.prog 14 #[.int .u8 (n : Int)] W fun e w' => ∃ A m cp, e = .returned (.agg #[.int .i64 ((cG n 1).nb : Int), .int .i64 ((cG n 1).np : Int), .int .i64 ((cG n 1).S : Int), .slice A m cp]) ∧ Geo w' (cG n 1).nb (cG n 1).np ((cG n 1).S : Int) A m cp (cG n 1).bad ∧ Below W.heap.size W w' ∧ ∀ ad, A = some ad → W.heap.size ≤ ad.block ∧ ad.block < w'.heap.size := fun W => geometry_low n hn W
 have hbad : ∀ x ∈ (cG n 1).bad, 0 ≤ x ∧ x < ((cG n 1).nb : Int) := geo_bad ⟨n, hn⟩
 have hcM : Plan.cap ((cG n 1).nb : Int) ((cG n 1).np : Int) ((cG n 1).S : Int) (cG n 1).bad = ((cG n 1).M : Int) - 1 := hk.ok
 have hM61 : (cG n 1).M ≤ 61 := by
  have h := (geo_more ⟨n, hn⟩).2.2.2
  have h : capN n ≤ 60 := h
  show capN n + 1 ≤ 61
  omega
 have hnb : 5 ≤ (cG n 1).nb ∧ (cG n 1).nb ≤ 9 := by show 5 ≤ gB n ∧ gB n ≤ 9; unfold gB; omega
 have hnp : 2 ≤ (cG n 1).np ∧ (cG n 1).np ≤ 5 := by show 2 ≤ gP n ∧ gP n ≤ 5; unfold gP; omega
 have hlen3 : 3 + (cG n 1).S ≤ (cG n 1).xs.length := geo_three ⟨n, hn⟩
 generalize cG n 1 = c at *
 have Hlen := hid hlen3
 clear hlen3
 have Hk := hid hk
 have Hbad := hid hbad
 have HcM := hid hcM
 have hM1 := hk.M
 clear hk hbad hcM
 go_enter Try.func8, Try.ntmps8
 go_wp2_with fail
 refine (awake_ftl w).mono ?_
 rintro e w0 ⟨rfl, hB0⟩
 have hgeo' := hgeo w0
 clear hgeo
 go_wp2_with fail
 refine hgeo'.mono ?_
 rintro e w1 ⟨A, m, cp, rfl, hg1, hB1, hA1⟩
 clear hgeo'
 go_upto_region 4 with (fail)
 generalize hw2 : World.alloc w1 _ = w2
 obtain ⟨g1, hg1e⟩ : ∃ g, w1.heap.size = g := ⟨_, rfl⟩
 have hB2 : Below w1.heap.size w1 w2 := by rw [← hw2]; exact (Below.refl _ _).alloc (Nat.le_refl _) _
 have hb1 : Blk w2 g1 #[.int .i64 (c.nb : Int), .int .i64 (c.np : Int), .int .i64 (c.S : Int), .slice A m cp] 26 := by rw [← hw2, ← hg1e]; exact Blk.new _ _ _
 have hg2 := hg1.later hB2
 have hB02 := hB0.trans ((hB1.trans (hB2.mono hB1.size)).mono hB0.size)
 have hnew := new_run c.nb c.np A m cp c.bad (gk g1) w w2 hB02 (by omega) (by omega) hg2.nums Hbad.out (fun g hg => by
  have h1 := hB1.size
  have h2 := hb1.lt
  have h3 := hB0.size
  rcases hg with hg | ⟨ad, had, rfl⟩
  ·have hg : g = g1 := hg
   rw [hg]
   omega
  ·have := hA1 ad had
   omega)
 have hne : ∀ g, gk g1 g → ∀ ad, A = some ad → g ≠ ad.block := fun g hg ad had => by
  have hg : g = g1 := hg
  have := hA1 ad had
  omega
 obtain ⟨z0, z1, z2, z3⟩ := geo_four hb1
 rw [hg1e]
 have Hne := hid hne
 have Hb1 := hid hb1
 have Hg2 := hid hg2
 clear hw2 hg1e hB1 hB2 hb1 hg1 hg2 hA1 hne hB0 hB02
 go_wp2_with fail
 refine hnew.mono ?_
 rintro e w3 ⟨b, rfl, hR3, hB3⟩
 clear hnew z0 z1 z2 z3
 have hb3 := Hb1.out.later hB3
 have hg3 := Hg2.out.later hB3
 have hke := Hk.out.at (e := 1) (by omega) (by omega)
 have hmt : Calls Try.prog 16 #[.pointer (some ⟨b, 0, none⟩), .agg #[.int .i64 (c.nb : Int), .int .i64 (c.np : Int), .int .i64 (c.S : Int), .slice A m cp], .int .u64 1] w3 fun e w' => ∃ o st, o.ba = b ∧ e = .returned (.tuple #[.pointer (some ⟨o.bf, 0, none⟩), .int .i64 0]) ∧ LF (c.at 1) o A m cp (gk g1) w3 w w' st ∧ Sound (c.at 1) st (Vof (fun _ => none)) 0 ∧ Ops 1 (newA c.nb c.np c.bad) st.N := cmount (c := c.at 1) hke hR3 Hne.out hg3 (AOk.new hke) rfl CalmN.new
 obtain ⟨z0, z1, z2, z3⟩ := geo_four hb3
 have Hb3 := hid hb3
 clear hR3 hB3 hg3 hb3 Hb1 Hg2 Hne Hbad hke
 go_wp2_with fail
 refine hmt.mono ?_
 rintro e w4 ⟨o, st, hob, rfl, hL4, hS4, -⟩
 clear hmt z0 z1 z2 z3
 subst hob
 have hb4 := hL4.blk (show gk g1 g1 from rfl) Hb3.out
 have HS := hid hS4
 obtain ⟨z0, z1, z2, z3⟩ := geo_four hb4
 have hrc : Calls Try.prog 17 #[.agg #[.int .i64 (c.nb : Int), .int .i64 (c.np : Int), .int .i64 (c.S : Int), .slice A m cp]] w4 fun e w' => e = .returned (.int .i64 ((c.M : Int) - 1)) ∧ Below w4.heap.size w4 w' := by rw [← HcM.out]; exact rcap_geo hL4.geo
 have HL4 := hid hL4
 have Hb4 := hid hb4
 clear hL4 hS4 hb4 Hb3
 go_wp2_with fail
 refine hrc.mono ?_
 rintro e w5 ⟨rfl, hB5⟩
 clear hrc z0 z1 z2 z3
 have hmk := fun W => make_strs W c.M (by omega)
 have hMw : IntKind.i64.wrap ((c.M : Int) - 1 + 1) = (c.M : Int) := by rw [IntWalk.i64_in _ (by omega)]; omega
 go_upto_region 7 with (fail)
 clear hmk
 generalize hw6 : World.alloc w5 _ = w6
 obtain ⟨gn, hgn⟩ : ∃ g, w5.heap.size = g := ⟨_, rfl⟩
 have hB6 : Below w5.heap.size w5 w6 := by rw [← hw6]; exact (Below.refl _ _).alloc (Nat.le_refl _) _
 have hbn : Blk w6 gn (strs (List.replicate c.M [])) 9 := by rw [← hw6, ← hgn]; exact Blk.new _ _ _
 have hB46 := hB5.trans (hB6.mono hB5.size)
 have hL6 := HL4.out.more (K' := gk2 g1 gn) hB46 (fun g hg => by
  rcases hg with hg | hg
  ·exact .inl hg
  ·exact .inr (by rw [hg]; exact ⟨by have := hB5.size; omega, hbn.lt⟩)) (fun g hg => .inl hg)
 have HL := hid hL6
 have Hg := hid (Hb4.out.later hB46)
 have Hn := hid hbn
 rw [hgn]
 have HM := hid (show c.M ≤ 61 ∧ 1 ≤ c.M from ⟨hM61, hM1⟩)
 have h1n := hid (show g1 ≠ gn by have := Hb4.out.lt; have := hB5.size; omega)
 clear hw6 hgn hB5 hB6 hbn hB46 hL6 HL4 Hb4 hMw
 obtain ⟨ba, hba⟩ : ∃ x, o.ba = x := ⟨_, rfl⟩
 rw [hba]
 have Hba := hid hba
 clear hba
 have hM61 := HM.out.1
 have Hke := hid (Hk.out.at (e := 1) (by omega) (by omega))
 have hru := rus_any HL.out.geo
 have hru : Calls Try.prog 27 #[.agg #[.int .i64 (c.nb : Int), .int .i64 (c.np : Int), .int .i64 (c.S : Int), .slice A m cp]] w6 fun e w' => ∃ U d, e = .returned (.slice U c.xs.length d) ∧ Nums w' .i64 U c.xs.length c.xs ∧ (∀ a, U = some a → w6.heap.size ≤ a.block) ∧ Below w6.heap.size w6 w' := hru
 obtain ⟨z0, z1, z2, z3⟩ := geo_four Hg.out
 have hxl : c.xs.length ≤ 64 := by have := xs_len (c := c) (by omega); rw [this]; exact cnum_le _ _
 have hget : ∀ j, j < c.xs.length → ∃ i : Nat, c.xs.getD j 0 = (i : Int) ∧ i < c.nb := fun j hj => by
  have hm : c.xs.getD j 0 ∈ c.xs := by
   rw [List.getD_eq_getElem?_getD, List.getElem?_eq_getElem hj]
   exact List.getElem_mem _
  obtain ⟨q, hq, -, h2⟩ := xs_nat hm
  exact ⟨q, hq, h2⟩
 have hlen0 : 3 ≤ c.xs.length := by have := Hlen.out; omega
 obtain ⟨us, hus⟩ : ∃ x, c.xs = x := ⟨_, rfl⟩
 rw [hus] at hru hxl hget hlen0
 have Hus := hid hus
 obtain ⟨ul, hul⟩ : ∃ x, us.length = x := ⟨_, rfl⟩
 rw [hul] at hru hxl hget hlen0
 have Hul := hid hul
 have Hget := hid hget
 clear hus hul hget
 go_wp2_with fail
 refine hru.mono ?_
 rintro e w7 ⟨U, ud, rfl, hU, hUl, hB7⟩
 clear hru z0 z1 z2 z3
 obtain ⟨gu, ou, rfl, hu0⟩ := hU.at_ 0 (by omega)
 have hgu := hUl _ rfl
 replace hgu : w6.heap.size ≤ gu := hgu
 have hgu7 := World.block_lt_of_cell? w7 _ hu0
 replace hgu7 : gu < w7.heap.size := hgu7
 have hL7 := HL.out.more (K' := gk3 g1 gn gu) hB7 (fun g hg => by
  rcases hg with hg | hg | hg
  ·exact .inl (.inl hg)
  ·exact .inl (.inr hg)
  ·exact .inr (by rw [hg]; exact ⟨hgu, hgu7⟩)) (fun g hg => by
  rcases hg with hg | hg
  ·exact .inl hg
  ·exact .inr (.inl hg))
 have HL7 := hid hL7
 have Hg7 := hid (Hg.out.later hB7)
 have Hn7 := hid (Hn.out.later hB7)
 have Hu7 := hid hU
 have hnu := hid (show gn ≠ gu by have := Hn.out.lt; omega)
 clear hL7 hB7 hU hUl hu0 HL Hg Hn hgu hgu7
 go_wp2
 go_loopw [12] (fun t w' => ∃ (k : Nat) (st' : FT) (D : Nat → Option (List Int)) (ys : List (List Int)), k ≤ l ∧ k ≤ 100 ∧ t = .int .i64 (k : Int) ∧ LF (c.at 1) o A m cp (gk3 g1 gn gu) w' w w' st' ∧ Soft (c.at 1) st' D (7000 * k) ∧ Fits c D ys ∧ Blk w' g1 #[.int .i64 (c.nb : Int), .int .i64 (c.np : Int), .int .i64 (c.S : Int), .slice A m cp] 26 ∧ Blk w' gn (strs ys) 9 ∧ Nums w' .i64 (some ⟨gu, ou, none⟩) ul us) (fun t _ => l - (intOf t).toNat)
 case atStart => exact ⟨0, st, _, _, by omega, by omega, rfl, HL7.out, HS.out.soft, Fits.new c, Hg7.out, Hn7.out, Hu7.out⟩
 case round =>
  clear HL7 HS Hg7 Hn7 Hu7
  obtain ⟨k, st', D, ys, hkl, hk100, rfl, hL, hS, hF, hbg, hbn, hbu⟩ := hrel
  by_cases hlt : k < l
  ·have hltI : (k : Int) < (l : Int) := by omega
   by_cases h100 : k < 100
   ·have h100I : (k : Int) < 100 := by omega
    obtain ⟨bC, oC, rfl, hc⟩ := (Hx.out.below hL.below (fun _ h => h.later hL.below)).at_ k hlt
    obtain ⟨x0, x1, x2, x3, x4⟩ := FAct.cells hc
    obtain ⟨hkd, had, hz, hnn⟩ := Hx.out.ok k hlt
    generalize (xs k).kind = kd at *
    generalize (xs k).addr = ad at *
    generalize (xs k).near = nr at *
    generalize (xs k).A = dA at *
    generalize (xs k).dn = dn at *
    generalize (xs k).dc = dc at *
    generalize (xs k).ys = dys at *
    generalize (xs k).n = nn at *
    obtain ⟨P, hP, hPt, hP15⟩ := rem_nat kd hkd.1 15 (by omega)
    replace hP : kd % 15 = (P : Int) := hP
    replace hPt : kd.tmod 15 = (P : Int) := hPt
    have HL := hid hL
    have HS := hid hS
    have HF := hid hF
    have Hg := hid hbg
    have Hn := hid hbn
    have Hu := hid hbu
    have Hz := hid hz
    clear hL hS hF hbg hbn hc hz hbu
    go_upto_region 12 with (fail)
    generalize hw2 : World.alloc wr _ = w2
    obtain ⟨gx, hgx⟩ : ∃ g, wr.heap.size = g := ⟨_, rfl⟩
    have hB2 : Below wr.heap.size wr w2 := by rw [← hw2]; exact (Below.refl _ _).alloc (Nat.le_refl _) _
    have hbx : Blk w2 gx #[.int .u8 kd, .int .i64 ad, .bool nr, .slice dA dn dc, .int .u8 nn] 48 := by rw [← hw2, ← hgx]; exact Blk.new _ _ _
    have HL2 := hid (HL.out.more (K' := fun g => gk3 g1 gn gu g ∨ g = gx) hB2 (fun g hg => hg.imp id (fun x => by rw [x]; exact ⟨by omega, hbx.lt⟩)) (fun g hg => .inl hg))
    have Hg2 := hid (Hg.out.later hB2)
    have Hn2 := hid (Hn.out.later hB2)
    have Hu2 := hid (Hu.out.below hB2)
    rw [hgx]
    clear hw2 hgx hB2 HL Hg Hn Hu x0 x1 x2 x3 x4
    have Hbx := hid hbx
    obtain ⟨x0, x1, x2, x3, x4⟩ := five hbx
    clear hbx
    by_cases hP14 : P = 14
    ·have hP14I : (P : Int) = 14 := by omega
     obtain ⟨j, hj, hjt, hjl⟩ := rem_nat nn hnn.1 ul (by omega)
     obtain ⟨q, hq, hqt, hq8⟩ : ∃ q : Nat, nn / 32 = (q : Int) ∧ nn.tdiv 32 = (q : Int) ∧ q < 8 := ⟨(nn / 32).toNat, by omega, by rw [Int.tdiv_eq_ediv_of_nonneg hnn.1]; omega, by omega⟩
     obtain ⟨i0, hi0, hi0n⟩ := Hget.out j hjl
     have hcu := Hu2.out.cell0 j hjl
     rw [hi0] at hcu
     have hdm := HL2.out.doom HS.out i0 (1 + q) hi0n (by omega)
     rw [Hba.out] at hdm
     have hdm : ∀ W, W = w2.drew → Calls Try.prog 29 #[.pointer (some ⟨ba, 0, none⟩), .int .i64 (i0 : Int), .int .i64 (1 + (q : Int))] W fun e w' => e = .returned (.int .i64 0) ∧ ∃ st', LF (c.at 1) o A m cp (fun g => gk3 g1 gn gu g ∨ g = gx) w2 w w' st' ∧ Soft (c.at 1) st' D (7000 * k) := fun W hW => by
      subst hW
      have := HL2.out.drew.doom HS.out i0 (1 + q) hi0n (by omega)
      rw [Hba.out] at this
      rw [show (1 + (q : Int)) = ((1 + q : Nat) : Int) by omega]
      exact this
     have hdm := hdm w2.drew rfl
     have HXd := hid (show w2.drew.cell? ⟨gx, 4, none⟩ = some (.int .u8 nn) ∧ w2.drew.cell? ⟨gu, ou + j, none⟩ = some (.int .i64 (i0 : Int)) from ⟨x4, hcu⟩)
     have u1 : IntKind.i64.wrap nn = nn := IntWalk.i64_in _ (by omega)
     have u2 : IntKind.i64.wrap (j : Int) = (j : Int) := IntWalk.i64_in _ (by omega)
     have u3 : IntKind.i64.wrap (q : Int) = (q : Int) := IntWalk.i64_in _ (by omega)
     have u4 : IntKind.u8.wrap (q : Int) = (q : Int) := IntWalk.u8_in _ (by omega)
     have u5 : IntKind.i64.wrap (1 + (q : Int)) = 1 + (q : Int) := IntWalk.i64_in _ (by omega)
     have ulI : (ul : Int) ≠ 0 := by omega
     have ulN : ul ≠ 0 := by omega
     have hjI : (j : Int) < (ul : Int) := by omega
     go_upto_region 13 with (fail)
     refine wp_region_held_drew (S := (fun w' => w'.cell? ⟨gx, 4, none⟩ = some (.int .u8 nn) ∧ w'.cell? ⟨gu, ou + j, none⟩ = some (.int .i64 (i0 : Int)))) (by kernel_rfl) ?hSnewFlz (fun hHeld => ?restFlz)
     case hSnewFlz => ((try dsimp only); exact HXd.out)
     refine wpAnyH_take (i := 0) (oi := ?oiFlt2x0) (v := ?vFlt2x0) ?hoFlt2x0 ?h1Flt2x0 ?h2Flt2x0 ?h3Flt2x0 ?hqFlt2x0 (Or.inl ⟨?h4Flt2x0, ?hyFlt2x0⟩) (by assumption) ?restFlt2x0
     case hoFlt2x0 => (simp only [qa, qb, qc]; rfl)
     case h1Flt2x0 => kernel_rfl
     case h2Flt2x0 => kernel_rfl
     case h3Flt2x0 => kernel_rfl
     case h4Flt2x0 => rfl
     case hqFlt2x0 => exact fun _ _ _ h => h
     case hyFlt2x0 => (intro w hSw; (try dsimp only at hSw); go_simp <;> with_reducible rfl)
     (try simp only [Act.put, qd, qe, qf])
     refine wpAnyH_take (i := 1) (oi := ?oiFlt4x1) (v := ?vFlt4x1) ?hoFlt4x1 ?h1Flt4x1 ?h2Flt4x1 ?h3Flt4x1 ?hqFlt4x1 (Or.inl ⟨?h4Flt4x1, ?hyFlt4x1⟩) (by assumption) ?restFlt4x1
     case hoFlt4x1 => (simp only [qa, qb, qc]; rfl)
     case h1Flt4x1 => kernel_rfl
     case h2Flt4x1 => kernel_rfl
     case h3Flt4x1 => kernel_rfl
     case h4Flt4x1 => rfl
     case hqFlt4x1 => exact fun _ _ _ h => h
     case hyFlt4x1 => (intro w hSw; (try dsimp only at hSw); go_simp <;> with_reducible rfl)
     (try simp only [Act.put, qd, qe, qf])
     refine wpAnyH_take (i := 2) (oi := ?oiFlt6x2) (v := ?vFlt6x2) ?hoFlt6x2 ?h1Flt6x2 ?h2Flt6x2 ?h3Flt6x2 ?hqFlt6x2 (Or.inl ⟨?h4Flt6x2, ?hyFlt6x2⟩) (by assumption) ?restFlt6x2
     case hoFlt6x2 => (simp only [qa, qb, qc]; rfl)
     case h1Flt6x2 => kernel_rfl
     case h2Flt6x2 => kernel_rfl
     case h3Flt6x2 => kernel_rfl
     case h4Flt6x2 => rfl
     case hqFlt6x2 => exact fun _ _ _ h => h
     case hyFlt6x2 => (intro w hSw; (try dsimp only at hSw); go_simp <;> with_reducible rfl)
     (try simp only [Act.put, qd, qe, qf])
     refine wpAnyH_take (i := 3) (oi := ?oiFlt8x3) (v := ?vFlt8x3) ?hoFlt8x3 ?h1Flt8x3 ?h2Flt8x3 ?h3Flt8x3 ?hqFlt8x3 (Or.inl ⟨?h4Flt8x3, ?hyFlt8x3⟩) (by assumption) ?restFlt8x3
     case hoFlt8x3 => (simp only [qa, qb, qc]; rfl)
     case h1Flt8x3 => kernel_rfl
     case h2Flt8x3 => kernel_rfl
     case h3Flt8x3 => kernel_rfl
     case h4Flt8x3 => rfl
     case hqFlt8x3 => exact fun _ _ _ h => h
     case hyFlt8x3 => (intro w hSw; (try dsimp only at hSw); go_simp <;> with_reducible rfl)
     (try simp only [Act.put, qd, qe, qf])
     refine wpAnyH_take (i := 4) (oi := ?oiFlt10x4) (v := ?vFlt10x4) ?hoFlt10x4 ?h1Flt10x4 ?h2Flt10x4 ?h3Flt10x4 ?hqFlt10x4 (Or.inl ⟨?h4Flt10x4, ?hyFlt10x4⟩) (by assumption) ?restFlt10x4
     case hoFlt10x4 => (simp only [qa, qb, qc]; rfl)
     case h1Flt10x4 => kernel_rfl
     case h2Flt10x4 => kernel_rfl
     case h3Flt10x4 => kernel_rfl
     case h4Flt10x4 => rfl
     case hqFlt10x4 => exact fun _ _ _ h => h
     case hyFlt10x4 => (intro w hSw; (try dsimp only at hSw); go_simp <;> with_reducible rfl)
     (try simp only [Act.put, qd, qe, qf])
     refine wpAnyH_take (i := 5) (oi := ?oiFlt12x5) (v := ?vFlt12x5) ?hoFlt12x5 ?h1Flt12x5 ?h2Flt12x5 ?h3Flt12x5 ?hqFlt12x5 (Or.inl ⟨?h4Flt12x5, ?hyFlt12x5⟩) (by assumption) ?restFlt12x5
     case hoFlt12x5 => (simp only [qa, qb, qc]; rfl)
     case h1Flt12x5 => kernel_rfl
     case h2Flt12x5 => kernel_rfl
     case h3Flt12x5 => kernel_rfl
     case h4Flt12x5 => rfl
     case hqFlt12x5 => exact fun _ _ _ h => h
     case hyFlt12x5 => (intro w hSw; (try dsimp only at hSw); go_simp <;> with_reducible rfl)
     (try simp only [Act.put, qd, qe, qf])
     refine wpAnyH_take (i := 6) (oi := ?oiFlt14x6) (v := ?vFlt14x6) ?hoFlt14x6 ?h1Flt14x6 ?h2Flt14x6 ?h3Flt14x6 ?hqFlt14x6 (Or.inl ⟨?h4Flt14x6, ?hyFlt14x6⟩) (by assumption) ?restFlt14x6
     case hoFlt14x6 => (simp only [qa, qb, qc]; rfl)
     case h1Flt14x6 => kernel_rfl
     case h2Flt14x6 => kernel_rfl
     case h3Flt14x6 => kernel_rfl
     case h4Flt14x6 => rfl
     case hqFlt14x6 => exact fun _ _ _ h => h
     case hyFlt14x6 => (intro w hSw; (try dsimp only at hSw); go_simp <;> with_reducible rfl)
     (try simp only [Act.put, qd, qe, qf])
     refine wpAnyH_take (i := 7) (oi := ?oiFlt16x7) (v := ?vFlt16x7) ?hoFlt16x7 ?h1Flt16x7 ?h2Flt16x7 ?h3Flt16x7 ?hqFlt16x7 (Or.inl ⟨?h4Flt16x7, ?hyFlt16x7⟩) (by assumption) ?restFlt16x7
     case hoFlt16x7 => (simp only [qa, qb, qc]; rfl)
     case h1Flt16x7 => kernel_rfl
     case h2Flt16x7 => kernel_rfl
     case h3Flt16x7 => kernel_rfl
     case h4Flt16x7 => rfl
     case hqFlt16x7 => exact fun _ _ _ h => h
     case hyFlt16x7 => (intro w hSw; (try dsimp only at hSw); go_simp <;> with_reducible rfl)
     (try simp only [Act.put, qd, qe, qf])
     refine wpAnyH_take (i := 8) (oi := ?oiFlt18x8) (v := ?vFlt18x8) ?hoFlt18x8 ?h1Flt18x8 ?h2Flt18x8 ?h3Flt18x8 ?hqFlt18x8 (Or.inl ⟨?h4Flt18x8, ?hyFlt18x8⟩) (by assumption) ?restFlt18x8
     case hoFlt18x8 => (simp only [qa, qb, qc]; rfl)
     case h1Flt18x8 => kernel_rfl
     case h2Flt18x8 => kernel_rfl
     case h3Flt18x8 => kernel_rfl
     case h4Flt18x8 => rfl
     case hqFlt18x8 => exact fun _ _ _ h => h
     case hyFlt18x8 => (intro w hSw; (try dsimp only at hSw); go_simp <;> with_reducible rfl)
     (try simp only [Act.put, qd, qe, qf])
     refine wpAnyH_take (i := 9) (oi := ?oiFlt20x9) (v := ?vFlt20x9) ?hoFlt20x9 ?h1Flt20x9 ?h2Flt20x9 ?h3Flt20x9 ?hqFlt20x9 (Or.inl ⟨?h4Flt20x9, ?hyFlt20x9⟩) (by assumption) ?restFlt20x9
     case hoFlt20x9 => (simp only [qa, qb, qc]; rfl)
     case h1Flt20x9 => kernel_rfl
     case h2Flt20x9 => kernel_rfl
     case h3Flt20x9 => kernel_rfl
     case h4Flt20x9 => rfl
     case hqFlt20x9 => exact fun _ _ _ h => h
     case hyFlt20x9 => (intro w hSw; (try dsimp only at hSw); go_simp <;> with_reducible rfl)
     (try simp only [Act.put, qd, qe, qf])
     refine wpAnyH_take (i := 10) (oi := ?oiFlt22x10) (v := ?vFlt22x10) ?hoFlt22x10 ?h1Flt22x10 ?h2Flt22x10 ?h3Flt22x10 ?hqFlt22x10 (Or.inl ⟨?h4Flt22x10, ?hyFlt22x10⟩) (by assumption) ?restFlt22x10
     case hoFlt22x10 => (simp only [qa, qb, qc]; rfl)
     case h1Flt22x10 => kernel_rfl
     case h2Flt22x10 => kernel_rfl
     case h3Flt22x10 => kernel_rfl
     case h4Flt22x10 => rfl
     case hqFlt22x10 => exact fun _ _ _ h => h
     case hyFlt22x10 => (intro w hSw; (try dsimp only at hSw); go_simp <;> with_reducible rfl)
     (try simp only [Act.put, qd, qe, qf])
     refine wpAnyH_take (i := 11) (oi := ?oiFlt24x11) (v := ?vFlt24x11) ?hoFlt24x11 ?h1Flt24x11 ?h2Flt24x11 ?h3Flt24x11 ?hqFlt24x11 (Or.inl ⟨?h4Flt24x11, ?hyFlt24x11⟩) (by assumption) ?restFlt24x11
     case hoFlt24x11 => (simp only [qa, qb, qc]; rfl)
     case h1Flt24x11 => kernel_rfl
     case h2Flt24x11 => kernel_rfl
     case h3Flt24x11 => kernel_rfl
     case h4Flt24x11 => rfl
     case hqFlt24x11 => exact fun _ _ _ h => h
     case hyFlt24x11 => (intro w hSw; (try dsimp only at hSw); go_simp <;> with_reducible rfl)
     (try simp only [Act.put, qd, qe, qf])
     refine wpAnyH_take (i := 12) (oi := ?oiFlt26x12) (v := ?vFlt26x12) ?hoFlt26x12 ?h1Flt26x12 ?h2Flt26x12 ?h3Flt26x12 ?hqFlt26x12 (Or.inl ⟨?h4Flt26x12, ?hyFlt26x12⟩) (by assumption) ?restFlt26x12
     case hoFlt26x12 => (simp only [qa, qb, qc]; rfl)
     case h1Flt26x12 => kernel_rfl
     case h2Flt26x12 => kernel_rfl
     case h3Flt26x12 => kernel_rfl
     case h4Flt26x12 => rfl
     case hqFlt26x12 => exact fun _ _ _ h => h
     case hyFlt26x12 => (intro w hSw; (try dsimp only at hSw); go_simp <;> with_reducible rfl)
     (try simp only [Act.put, qd, qe, qf])
     refine wpAnyH_take (i := 13) (oi := ?oiFlt28x13) (v := ?vFlt28x13) ?hoFlt28x13 ?h1Flt28x13 ?h2Flt28x13 ?h3Flt28x13 ?hqFlt28x13 (Or.inl ⟨?h4Flt28x13, ?hyFlt28x13⟩) (by assumption) ?restFlt28x13
     case hoFlt28x13 => (simp only [qa, qb, qc]; rfl)
     case h1Flt28x13 => kernel_rfl
     case h2Flt28x13 => kernel_rfl
     case h3Flt28x13 => kernel_rfl
     case h4Flt28x13 => rfl
     case hqFlt28x13 => exact fun _ _ _ h => h
     case hyFlt28x13 => (intro w hSw; (try dsimp only at hSw); go_simp <;> with_reducible rfl)
     (try simp only [Act.put, qd, qe, qf])
     refine wpAnyH_take (i := 14) (oi := ?oiFlt30x14) (v := ?vFlt30x14) ?hoFlt30x14 ?h1Flt30x14 ?h2Flt30x14 ?h3Flt30x14 ?hqFlt30x14 (Or.inl ⟨?h4Flt30x14, ?hyFlt30x14⟩) (by assumption) ?restFlt30x14
     case hoFlt30x14 => (simp only [qa, qb, qc]; rfl)
     case h1Flt30x14 => kernel_rfl
     case h2Flt30x14 => kernel_rfl
     case h3Flt30x14 => kernel_rfl
     case h4Flt30x14 => rfl
     case hqFlt30x14 => exact fun _ _ _ h => h
     case hyFlt30x14 => (intro w hSw; (try dsimp only at hSw); go_simp <;> with_reducible rfl)
     (try simp only [Act.put, qd, qe, qf])
     refine wpAnyH_ready (rs := [15]) (by kernel_rfl) (by simp) ?_
     refine AllReadyH.cons (o := ?oiFlq31) ?hoFlq31 (fun K hK => ?restFlq31) ?moreFlq31
     case moreFlq31 => exact AllReadyH.nil
     case hoFlq31 => (simp only [qa, qb, qc]; rfl)
     go_simp
     refine hdm.mono ?_
     rintro e w8 ⟨rfl, st8, hL8, hS8⟩
     have hbx8 := hL8.blk (.inr rfl) Hbx.out
     have hu8 := hL8.row (.inl (.inr (.inr rfl))) Hu2.out
     have hx8 : w8.cell? ⟨gx, 4, none⟩ = some (.int .u8 nn) ∧ w8.cell? ⟨gu, ou + j, none⟩ = some (.int .i64 (i0 : Int)) := ⟨hbx8.cell 4, by have := hu8.cell0 j (by omega); rw [this, hi0]⟩
     try go_wp2_with fail
     refine hK.out _ _ ?hSnewFlhq31 (fun hHeld => ?restFlhq31)
     case hSnewFlhq31 => ((try dsimp only); exact hx8)
     clear hK K
     (try simp only [Act.put, qd, qe, qf])
     refine wpAnyH_done (by kernel_rfl) ?_ _
     have HL9 := hid hL8.now
     have HS9 := hid hS8
     have Hg9 := hid (hL8.blk (.inl (.inl rfl)) Hg2.out)
     have Hn9 := hid (hL8.blk (.inl (.inr (.inl rfl))) Hn2.out)
     have Hu9 := hid hu8
     clear hL8 hS8 hbx8 hu8 hx8 HL2 Hg2 Hn2 Hu2 HXd hcu hdm u1 u2 u3 u4 u5 x0 x1 x2 x3 x4 HS hHeld
     go_wp2
     go_roundw
     case rel => exact ⟨k + 1, _, _, _, by omega, by omega, by go_num, HL9.out.less (fun g hg => .inl hg), HS9.out.up (by omega), HF.out, Hg9.out, Hn9.out, Hu9.out⟩
     case measure => simp [intOf]; omega
    ·have hP14I : (P : Int) ≠ 14 := by omega
     obtain ⟨j, hj, hjm⟩ := umod_nat ad c.M HM.out.2
     have b1 : IntKind.u64.wrap (c.M : Int) = (c.M : Int) := IntWalk.u64_in _ (by omega)
     have b2 : IntKind.i64.wrap (j : Int) = (j : Int) := IntWalk.i64_in _ (by omega)
     have b3 : (c.M : Int) ≠ 0 := by omega
     have hjI : (j : Int) < (c.M : Int) := by omega
     by_cases hdn : 64 < dn
     ·have hdnI : (64 : Int) < (dn : Int) := by omega
      obtain ⟨R, r1, r2, r3⟩ := put_ex Hke.out HS.out.rest (by have := HS.out.seq; omega) 1 j [] hj (.inl rfl) (by simp) (.inl rfl) (fun x hx => by cases hx)
      have hwr := HL2.out.write Hke.out j [] none 0 0 (Nums.none _ _ _) (fun h => absurd h (by omega)) (fun x hx => by cases hx) hj (by omega) R r1
      have hcase := HS.out.put r2 r3
      clear r1 r2 r3
      go_wp2_with fail
      refine hwr.mono ?_
      rintro e w9 ⟨rfl, hL9⟩
      clear hwr x0 x1 x2 x3 x4
      have hct : Soft (c.at 1) R.1 (if R.2 = 0 then updV D j [] else D) (7000 * k + 7000) ∧ (R.2 = 0 ∨ (R.2 = 10 ∧ c.S < cntH R.1.hs 3)) := by
       rcases hcase with ⟨h1, h2⟩ | ⟨h1, h2, h3⟩
       ·rw [if_pos h1]; exact ⟨h2, .inl h1⟩
       ·rw [if_neg (by omega)]; exact ⟨h2, .inr ⟨h1, h3⟩⟩
      obtain ⟨hS9, hR⟩ := hct
      have hfc := fl_count (c := c.at 1) Hke.out.nb hS9.rest.pol
      obtain ⟨fd, hfd⟩ : ∃ x, cntH R.1.hs 3 = x := ⟨_, rfl⟩
      have Hfdd := hid hfd
      rw [hfd] at hfc hR
      obtain ⟨N9, hN9⟩ : ∃ x, R.1.N = x := ⟨_, rfl⟩
      rw [hN9] at hfc
      have hfl : ∀ i : Nat, i < c.nb → Calls Try.prog 30 #[.pointer (some ⟨ba, 0, none⟩), .int .i64 (i : Int)] w9 fun e w' => e = .returned (.bool (N9.blk i).failed) ∧ w' = w9 := fun i hi => by
       have := hL9.failed i (by rw [hS9.rest.cor.wf.lb]; exact hi)
       rw [Hba.out, hN9] at this
       exact this
      have hfr := fun W (hW : Below w9.heap.size w9 W) => failed_run (hL9.later hW).fr
      rw [hfd] at hfr
      have hbx9 := hL9.blk (.inr rfl) Hbx.out
      have Hbx9 := hid hbx9
      have Hg9 := hid (hL9.blk (.inl (.inl rfl)) Hg2.out)
      have Hn9 := hid (hL9.blk (.inl (.inr (.inl rfl))) Hn2.out)
      have Hu9 := hid (hL9.row (.inl (.inr (.inr rfl))) Hu2.out)
      have HL9 := hid hL9.now
      have HS9 := hid hS9
      have Hfl := hid hfl
      have Hfr := hid hfr
      have HR := hid hR
      have Hfc := hid hfc
      clear hcase hL9 hS9 hfl hfr hR hfc hfd hN9 hbx9 HL2 Hg2 Hn2 Hu2 HS Hbx
      go_wp2
      go_loopw [18, 17] (fun t fl w' => ∃ (j F : Nat), j ≤ ul ∧ t = .int .i64 (j : Int) ∧ fl = .int .i64 (F : Int) ∧ F = lsum (flN N9) (us.take j) ∧ w' = w9) (fun t _ _ => ul - (intOf t).toNat)
      case atStart => exact ⟨0, 0, by omega, rfl, rfl, rfl, rfl⟩
      case round =>
       obtain ⟨j2, F, hj2, rfl, rfl, hFs, rfl⟩ := hrel
       have hF64 : F ≤ j2 := by
        rw [hFs]
        refine Nat.le_trans (lsum_len _ (flN_le N9) _) ?_
        rw [List.length_take]
        omega
       by_cases hlt2 : j2 < ul
       ·have hltI2 : (j2 : Int) < (ul : Int) := by omega
        obtain ⟨i1, hi1, hi1n⟩ := Hget.out j2 hlt2
        have hcu := Hu9.out.cell0 j2 hlt2
        rw [hi1] at hcu
        have hfl1 := Hfl.out i1 hi1n
        have hF2 : F + flN N9 i1 = lsum (flN N9) (us.take (j2 + 1)) := by
         rw [lsum_take _ us j2 (by rw [Hul.out]; exact hlt2), hi1, Int.toNat_natCast, ← hFs]
        unfold flN at hF2
        obtain ⟨bb, hbb⟩ : ∃ x, (N9.blk i1).failed = x := ⟨_, rfl⟩
        rw [hbb] at hfl1 hF2
        have HF2 := hid hF2
        clear hF2 hFs hbb hi1
        go_wp2_with fail
        refine hfl1.mono ?_
        rintro e w10 ⟨rfl, hw10⟩
        subst hw10
        clear hfl1 hcu
        cases bb
        ·go_wp2
         go_roundw
         case rel => exact ⟨j2 + 1, F, by omega, by go_num, rfl, HF2.out, trivial⟩
         case measure => simp [intOf]; omega
        ·have hwF : IntKind.i64.wrap ((F : Int) + 1) = (F : Int) + 1 := IntWalk.i64_in _ (by omega)
         go_wp2
         go_roundw
         case rel => exact ⟨j2 + 1, F + 1, by omega, by go_num, by go_num, HF2.out, trivial⟩
         case measure => simp [intOf]; omega
       ·obtain rfl : j2 = ul := by omega
        have hFd : F = fd := by
         rw [hFs, List.take_of_length_le (by rw [Hul.out]; exact Nat.le_refl _)]
         have := Hfc.out
         rw [show (c.at 1).xs = us from Hus.out] at this
         exact this
        subst hFd
        clear hFs
        obtain ⟨x0, x1, x2, x3, x4⟩ := five Hbx9.out
        obtain ⟨z0, z1, z2, z3⟩ := geo_four Hg9.out
        rcases HR.out with hr | ⟨hr, hfS⟩
        ·have HS10 := HS9
         rw [hr, if_pos rfl] at HS10
         rw [hr]
         have hcv := conv_str (c := 0) (Nums.none wr .u8 none)
         have n0 := strs_cell Hn9.out j (by rw [HF.out.1]; exact hj)
         have fn := Hn9.out.free j
         have hset := Hn9.out.set j (.string (strOfNums []))
         rw [strs_set] at hset
         have hfr1 := Hfr.out (wr.setCell ⟨gn, j, none⟩ (.string (strOfNums [])))
         go_upto_region 29 with (fail)
         have HL10 := hid (HL9.out.store gn j (.string (strOfNums [])) (.inl (.inr (.inl rfl))))
         have Hn10 := hid hset
         have Hg10 := hid (Hg9.out.setOther ⟨gn, j, none⟩ (show g1 ≠ gn from h1n.out) (.string (strOfNums [])))
         have Hu10 := hid (Hu9.out.other gn j (.string (strOfNums [])) (show gn ≠ gu from hnu.out))
         clear hset hcv n0 fn hfr1 x0 x1 x2 x3 x4 z0 z1 z2 z3
         generalize hw2 : wr.setCell ⟨gn, j, none⟩ (.string (strOfNums [])) = w10 at *
         clear hw2
         have hfr1 := failed_run HL10.out.fr
         rw [Hfdd.out] at hfr1
         go_wp2_with fail
         refine hfr1.mono ?_
         rintro e w11 ⟨rfl, hB11⟩
         have HL11 := hid (HL10.out.later hB11).now
         have Hg11 := hid (Hg10.out.later hB11)
         have Hn11 := hid (Hn10.out.later hB11)
         have Hu11 := hid (Hu10.out.below hB11)
         clear hfr1 hB11 HL10 Hg10 Hn10 Hu10 HL9 Hg9 Hn9 Hu9
         go_wp2
         go_roundw
         case rel => exact ⟨k + 1, _, _, _, by omega, by omega, by go_num, HL11.out.less (fun g hg => .inl hg), HS10.out.up (by omega), HF.out.set hj [], Hg11.out, Hn11.out, Hu11.out⟩
         case measure => simp [intOf]; omega
        ·have HS10 := HS9
         rw [hr, if_neg (by decide)] at HS10
         rw [hr]
         have hfSI : (c.S : Int) < (F : Int) := by omega
         have hfr1 := Hfr.out _ (Below.refl _ _)
         go_wp2_with fail
         refine hfr1.mono ?_
         rintro e w11 ⟨rfl, hB11⟩
         have HL11 := hid (HL9.out.later hB11).now
         have Hg11 := hid (Hg9.out.later hB11)
         have Hn11 := hid (Hn9.out.later hB11)
         have Hu11 := hid (Hu9.out.below hB11)
         clear hfr1 hB11 HL9 Hg9 Hn9 Hu9 x0 x1 x2 x3 x4 z0 z1 z2 z3
         go_wp2
         go_roundw
         case rel => exact ⟨k + 1, _, _, _, by omega, by omega, by go_num, HL11.out.less (fun g hg => .inl hg), HS10.out.up (by omega), HF.out, Hg11.out, Hn11.out, Hu11.out⟩
         case measure => simp [intOf]; omega
     ·have hdnI : (dn : Int) ≤ 64 := by omega
      obtain ⟨R, r1, r2, r3⟩ := put_ex Hke.out HS.out.rest (by have := HS.out.seq; omega) 1 j dys hj (.inl rfl) (by rw [Hz.out.len]; omega) (.inl rfl) (fun x hx => wf_u8 (Hz.out.wf x hx))
      have hwr := HL2.out.write Hke.out j dys dA dn dc (nums_blk Hz.out (fun h0 ad had => HL2.out.old _ (Hz.out.lt0 h0 ad had))) (fun h0 ad had => .inl (Hz.out.lt0 h0 ad had)) (fun x hx => wf_u8 (Hz.out.wf x hx)) hj (by omega) R r1
      have hcase := HS.out.put r2 r3
      clear r1 r2 r3
      go_wp2_with fail
      refine hwr.mono ?_
      rintro e w9 ⟨rfl, hL9⟩
      clear hwr x0 x1 x2 x3 x4
      have hct : Soft (c.at 1) R.1 (if R.2 = 0 then updV D j dys else D) (7000 * k + 7000) ∧ (R.2 = 0 ∨ (R.2 = 10 ∧ c.S < cntH R.1.hs 3)) := by
       rcases hcase with ⟨h1, h2⟩ | ⟨h1, h2, h3⟩
       ·rw [if_pos h1]; exact ⟨h2, .inl h1⟩
       ·rw [if_neg (by omega)]; exact ⟨h2, .inr ⟨h1, h3⟩⟩
      obtain ⟨hS9, hR⟩ := hct
      have hfc := fl_count (c := c.at 1) Hke.out.nb hS9.rest.pol
      obtain ⟨fd, hfd⟩ : ∃ x, cntH R.1.hs 3 = x := ⟨_, rfl⟩
      have Hfdd := hid hfd
      rw [hfd] at hfc hR
      obtain ⟨N9, hN9⟩ : ∃ x, R.1.N = x := ⟨_, rfl⟩
      rw [hN9] at hfc
      have hfl : ∀ i : Nat, i < c.nb → Calls Try.prog 30 #[.pointer (some ⟨ba, 0, none⟩), .int .i64 (i : Int)] w9 fun e w' => e = .returned (.bool (N9.blk i).failed) ∧ w' = w9 := fun i hi => by
       have := hL9.failed i (by rw [hS9.rest.cor.wf.lb]; exact hi)
       rw [Hba.out, hN9] at this
       exact this
      have hfr := fun W (hW : Below w9.heap.size w9 W) => failed_run (hL9.later hW).fr
      rw [hfd] at hfr
      have hbx9 := hL9.blk (.inr rfl) Hbx.out
      have Hbx9 := hid hbx9
      have Hg9 := hid (hL9.blk (.inl (.inl rfl)) Hg2.out)
      have Hn9 := hid (hL9.blk (.inl (.inr (.inl rfl))) Hn2.out)
      have Hu9 := hid (hL9.row (.inl (.inr (.inr rfl))) Hu2.out)
      have HL9 := hid hL9.now
      have HS9 := hid hS9
      have Hfl := hid hfl
      have Hfr := hid hfr
      have HR := hid hR
      have Hfc := hid hfc
      clear hcase hL9 hS9 hfl hfr hR hfc hfd hN9 hbx9 HL2 Hg2 Hn2 Hu2 HS Hbx
      go_wp2
      go_loopw [18, 17] (fun t fl w' => ∃ (j F : Nat), j ≤ ul ∧ t = .int .i64 (j : Int) ∧ fl = .int .i64 (F : Int) ∧ F = lsum (flN N9) (us.take j) ∧ w' = w9) (fun t _ _ => ul - (intOf t).toNat)
      case atStart => exact ⟨0, 0, by omega, rfl, rfl, rfl, rfl⟩
      case round =>
       obtain ⟨j2, F, hj2, rfl, rfl, hFs, rfl⟩ := hrel
       have hF64 : F ≤ j2 := by
        rw [hFs]
        refine Nat.le_trans (lsum_len _ (flN_le N9) _) ?_
        rw [List.length_take]
        omega
       by_cases hlt2 : j2 < ul
       ·have hltI2 : (j2 : Int) < (ul : Int) := by omega
        obtain ⟨i1, hi1, hi1n⟩ := Hget.out j2 hlt2
        have hcu := Hu9.out.cell0 j2 hlt2
        rw [hi1] at hcu
        have hfl1 := Hfl.out i1 hi1n
        have hF2 : F + flN N9 i1 = lsum (flN N9) (us.take (j2 + 1)) := by
         rw [lsum_take _ us j2 (by rw [Hul.out]; exact hlt2), hi1, Int.toNat_natCast, ← hFs]
        unfold flN at hF2
        obtain ⟨bb, hbb⟩ : ∃ x, (N9.blk i1).failed = x := ⟨_, rfl⟩
        rw [hbb] at hfl1 hF2
        have HF2 := hid hF2
        clear hF2 hFs hbb hi1
        go_wp2_with fail
        refine hfl1.mono ?_
        rintro e w10 ⟨rfl, hw10⟩
        subst hw10
        clear hfl1 hcu
        cases bb
        ·go_wp2
         go_roundw
         case rel => exact ⟨j2 + 1, F, by omega, by go_num, rfl, HF2.out, trivial⟩
         case measure => simp [intOf]; omega
        ·have hwF : IntKind.i64.wrap ((F : Int) + 1) = (F : Int) + 1 := IntWalk.i64_in _ (by omega)
         go_wp2
         go_roundw
         case rel => exact ⟨j2 + 1, F + 1, by omega, by go_num, by go_num, HF2.out, trivial⟩
         case measure => simp [intOf]; omega
       ·obtain rfl : j2 = ul := by omega
        have hFd : F = fd := by
         rw [hFs, List.take_of_length_le (by rw [Hul.out]; exact Nat.le_refl _)]
         have := Hfc.out
         rw [show (c.at 1).xs = us from Hus.out] at this
         exact this
        subst hFd
        clear hFs
        obtain ⟨x0, x1, x2, x3, x4⟩ := five Hbx9.out
        obtain ⟨z0, z1, z2, z3⟩ := geo_four Hg9.out
        rcases HR.out with hr | ⟨hr, hfS⟩
        ·have HS10 := HS9
         rw [hr, if_pos rfl] at HS10
         rw [hr]
         have hcv := conv_str (c := dc) (Hz.out.below HL9.out.below)
         have n0 := strs_cell Hn9.out j (by rw [HF.out.1]; exact hj)
         have fn := Hn9.out.free j
         have hset := Hn9.out.set j (.string (strOfNums dys))
         rw [strs_set] at hset
         have hfr1 := Hfr.out (wr.setCell ⟨gn, j, none⟩ (.string (strOfNums dys)))
         go_upto_region 29 with (fail)
         have HL10 := hid (HL9.out.store gn j (.string (strOfNums dys)) (.inl (.inr (.inl rfl))))
         have Hn10 := hid hset
         have Hg10 := hid (Hg9.out.setOther ⟨gn, j, none⟩ (show g1 ≠ gn from h1n.out) (.string (strOfNums dys)))
         have Hu10 := hid (Hu9.out.other gn j (.string (strOfNums dys)) (show gn ≠ gu from hnu.out))
         clear hset hcv n0 fn hfr1 x0 x1 x2 x3 x4 z0 z1 z2 z3
         generalize hw2 : wr.setCell ⟨gn, j, none⟩ (.string (strOfNums dys)) = w10 at *
         clear hw2
         have hfr1 := failed_run HL10.out.fr
         rw [Hfdd.out] at hfr1
         go_wp2_with fail
         refine hfr1.mono ?_
         rintro e w11 ⟨rfl, hB11⟩
         have HL11 := hid (HL10.out.later hB11).now
         have Hg11 := hid (Hg10.out.later hB11)
         have Hn11 := hid (Hn10.out.later hB11)
         have Hu11 := hid (Hu10.out.below hB11)
         clear hfr1 hB11 HL10 Hg10 Hn10 Hu10 HL9 Hg9 Hn9 Hu9
         go_wp2
         go_roundw
         case rel => exact ⟨k + 1, _, _, _, by omega, by omega, by go_num, HL11.out.less (fun g hg => .inl hg), HS10.out.up (by omega), HF.out.set hj dys, Hg11.out, Hn11.out, Hu11.out⟩
         case measure => simp [intOf]; omega
        ·have HS10 := HS9
         rw [hr, if_neg (by decide)] at HS10
         rw [hr]
         have hfSI : (c.S : Int) < (F : Int) := by omega
         have hfr1 := Hfr.out _ (Below.refl _ _)
         go_wp2_with fail
         refine hfr1.mono ?_
         rintro e w11 ⟨rfl, hB11⟩
         have HL11 := hid (HL9.out.later hB11).now
         have Hg11 := hid (Hg9.out.later hB11)
         have Hn11 := hid (Hn9.out.later hB11)
         have Hu11 := hid (Hu9.out.below hB11)
         clear hfr1 hB11 HL9 Hg9 Hn9 Hu9 x0 x1 x2 x3 x4 z0 z1 z2 z3
         go_wp2
         go_roundw
         case rel => exact ⟨k + 1, _, _, _, by omega, by omega, by go_num, HL11.out.less (fun g hg => .inl hg), HS10.out.up (by omega), HF.out, Hg11.out, Hn11.out, Hu11.out⟩
         case measure => simp [intOf]; omega
   ·obtain rfl : k = 100 := by omega
    have hrt := right_any hL Hke.out hS.rest gn c.M ys hbn hF.1 (Nat.le_refl _) (fun i hi => by rw [hS.data]; exact hF.2 i hi)
    have hmt : ∀ W, Below wr.heap.size wr W → Calls Try.prog 16 #[.pointer (some ⟨ba, 0, none⟩), .agg #[.int .i64 (c.nb : Int), .int .i64 (c.np : Int), .int .i64 (c.S : Int), .slice A m cp], .int .u64 2] W fun e w' => ∃ o9 R9, o9.ba = ba ∧ (R9.2 = 0 → e = .returned (.tuple #[.pointer (some ⟨o9.bf, 0, none⟩), .int .i64 0])) ∧ (R9.2 ≠ 0 → e = .returned (.tuple #[.pointer none, .int .i64 R9.2])) ∧ LF (c.at 2) o9 A m cp (gk3 g1 gn gu) W w w' R9.1 ∧ MntO (c.at 2) st'.N.fence (Vof (cF st')) (7000 * 100) R9 ∧ Ops (c.at 2).ep st'.N R9.1.N := fun W hW => by
     have hLW := hL.later hW
     have := lmount (c := c.at 2) (Hk.out.at (e := 2) (by omega) (by omega)) hLW.run hLW.apart hLW.geo (((hS.rest.aok Hke.out.nb).later (s' := 7000 * 100) (by have := hS.seq; omega)).at 2) hS.rest.cor.on
     rw [Hba.out] at this
     exact this
    have Hmt := hid hmt
    have HL := hid hL
    have HS := hid hS
    have HF := hid hF
    have Hg := hid hbg
    have Hn := hid hbn
    clear hL hS hF hbg hbn hbu hmt
    go_wp2_with fail
    refine hrt.mono ?_
    rintro e w9 ⟨rfl, hB9⟩
    clear hrt
    have hmt := Hmt.out w9 hB9
    have Hg9 := hid (Hg.out.later hB9)
    have Hn9 := hid (Hn.out.later hB9)
    obtain ⟨z0, z1, z2, z3⟩ := geo_four Hg9.out
    clear hB9 Hmt Hg Hn
    go_wp2_with fail
    refine hmt.mono ?_
    rintro e w10 ⟨o9, R9, hob9, he0, -, hL10, hm10, hO10⟩
    obtain ⟨h0, hS10⟩ := Soft.mount HS.out.armed HS.out.fence HS.out.rest.cor.on hm10 hO10
    obtain rfl := he0 h0
    have hrt := right_any hL10.now (Hk.out.at (e := 2) (by omega) (by omega)) hS10.rest gn c.M ys (hL10.blk (.inr (.inl rfl)) Hn9.out) HF.out.1 (Nat.le_refl _) (fun i hi => by rw [hS10.data, HS.out.data]; exact HF.out.2 i hi)
    have HL10 := hid hL10
    clear hmt he0 hL10 hm10 hO10 h0 hS10 z0 z1 z2 z3 HS HL HF
    go_wp2_with fail
    refine hrt.mono ?_
    rintro e w11 ⟨rfl, hB11⟩
    clear hrt
    go_wp2
    go_ret
    exact ⟨rfl, (HL10.out.later hB11).below⟩
  ·obtain rfl : k = l := by omega
   have hrt := right_any hL Hke.out hS.rest gn c.M ys hbn hF.1 (Nat.le_refl _) (fun i hi => by rw [hS.data]; exact hF.2 i hi)
   have hmt : ∀ W, Below wr.heap.size wr W → Calls Try.prog 16 #[.pointer (some ⟨ba, 0, none⟩), .agg #[.int .i64 (c.nb : Int), .int .i64 (c.np : Int), .int .i64 (c.S : Int), .slice A m cp], .int .u64 2] W fun e w' => ∃ o9 R9, o9.ba = ba ∧ (R9.2 = 0 → e = .returned (.tuple #[.pointer (some ⟨o9.bf, 0, none⟩), .int .i64 0])) ∧ (R9.2 ≠ 0 → e = .returned (.tuple #[.pointer none, .int .i64 R9.2])) ∧ LF (c.at 2) o9 A m cp (gk3 g1 gn gu) W w w' R9.1 ∧ MntO (c.at 2) st'.N.fence (Vof (cF st')) (7000 * 100) R9 ∧ Ops (c.at 2).ep st'.N R9.1.N := fun W hW => by
    have hLW := hL.later hW
    have := lmount (c := c.at 2) (Hk.out.at (e := 2) (by omega) (by omega)) hLW.run hLW.apart hLW.geo (((hS.rest.aok Hke.out.nb).later (s' := 7000 * 100) (by have := hS.seq; omega)).at 2) hS.rest.cor.on
    rw [Hba.out] at this
    exact this
   have Hmt := hid hmt
   have HL := hid hL
   have HS := hid hS
   have HF := hid hF
   have Hg := hid hbg
   have Hn := hid hbn
   clear hL hS hF hbg hbn hbu hmt
   go_wp2_with fail
   refine hrt.mono ?_
   rintro e w9 ⟨rfl, hB9⟩
   clear hrt
   have hmt := Hmt.out w9 hB9
   have Hg9 := hid (Hg.out.later hB9)
   have Hn9 := hid (Hn.out.later hB9)
   obtain ⟨z0, z1, z2, z3⟩ := geo_four Hg9.out
   clear hB9 Hmt Hg Hn
   go_wp2_with fail
   refine hmt.mono ?_
   rintro e w10 ⟨o9, R9, hob9, he0, -, hL10, hm10, hO10⟩
   obtain ⟨h0, hS10⟩ := Soft.mount HS.out.armed HS.out.fence HS.out.rest.cor.on hm10 hO10
   obtain rfl := he0 h0
   have hrt := right_any hL10.now (Hk.out.at (e := 2) (by omega) (by omega)) hS10.rest gn c.M ys (hL10.blk (.inr (.inl rfl)) Hn9.out) HF.out.1 (Nat.le_refl _) (fun i hi => by rw [hS10.data, HS.out.data]; exact HF.out.2 i hi)
   have HL10 := hid hL10
   clear hmt he0 hL10 hm10 hO10 h0 hS10 z0 z1 z2 z3 HS HL HF
   go_wp2_with fail
   refine hrt.mono ?_
   rintro e w11 ⟨rfl, hB11⟩
   clear hrt
   go_wp2
   go_ret
   exact ⟨rfl, (HL10.out.later hB11).below⟩
end Go.Proofs.Ytpcbpljdiacbmaa.Ftl
