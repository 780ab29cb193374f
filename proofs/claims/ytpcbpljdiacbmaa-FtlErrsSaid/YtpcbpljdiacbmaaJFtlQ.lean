import Derived.Test.YtpcbpljdiacbmaaJFtlNew
import Derived.Laws.ResultCell
set_option linter.unusedVariables false
set_option linter.unusedSimpArgs false
namespace Go.Proofs.Ytpcbpljdiacbmaa.Ftl
open Go.RowKit Go.Proofs.Ytpcbpljdiacbmaa.Kit Go.Proofs.Ytpcbpljdiacbmaa.Oct Go.Proofs.Ytpcbpljdiacbmaa.Sheet Go.Proofs.Ytpcbpljdiacbmaa.Nand Go.Proofs.Ytpcbpljdiacbmaa.Plan Go.Proofs.Ytpcbpljdiacbmaa.Scan Go.Proofs.Ytpcbpljdiacbmaa.Pmap Go.Proofs.Ytpcbpljdiacbmaa.Pool
section
variable {c : FC} {o : FId} {w w' : World} {st : FT} {F Q : Nat → Prop} {V w0 w1 w2 : World}
/-- The newest page so far, behind block b's addresses. -/
def nwF (q : Nat → Nat) (b : Nat) (l : List Int) (m : Nat × Int) : Nat × Int := l.foldl (fun m x => if m.1 < q x.toNat then (q x.toNat, (b : Int)) else m) m
/-- What mount does at a block. -/
noncomputable def mstep (c : FC) (q : Nat → Nat) (b : Nat) (m : FT × Nat × Int) : (FT × Nat × Int) × Int :=
 if (m.1.N.blk b).failed = true then ((m.1.how c b 3, m.2), 0)
 else if (m.1.N.blk b).pages.length = 0 then (m, 0)
 else if m.1.cn b = 0 then (((eraseF c (m.1.how c b 1) b).1, m.2), (eraseF c (m.1.how c b 1) b).2)
 else if (m.1.N.blk b).pages.length < c.np then ((m.1.how c b 1, nwF q b (m.1.on c b) m.2), 0)
 else ((m.1.how c b 1, m.2), 0)
noncomputable def mloop (c : FC) (q : Nat → Nat) : List Int → FT × Nat × Int → (FT × Nat × Int) × Int
 | [], m => (m, 0)
 | x :: l, m => if (mstep c q x.toNat m).2 ≠ 0 then mstep c q x.toNat m else mloop c q l (mstep c q x.toNat m).1
/-- What mount does with what All found. -/
noncomputable def mountF (c : FC) (q : Nat → Nat) (st : FT) : FT × Int :=
 let r := mloop c q c.xs (st, 0, -1)
 if r.2 ≠ 0 then (r.1.1, r.2) else if 0 ≤ r.1.2.2 then (r.1.1.how c r.1.2.2.toNat 2, 0) else (r.1.1, 0)
theorem own_slice {w : World} {base n : Nat} {T : TypeId} {v : Value} {xs : List Value} (h : w.ownsRow base T 1 v n xs) : ∃ A k c, v = .slice A k c := by
 rcases h.2 with ⟨h2, h3⟩ | ⟨g, c0, cs, h3, h4⟩
 ·exact ⟨_, _, _, h2⟩
 ·exact ⟨_, _, _, h3⟩
theorem spoil_sub (L : Int → List Scan.Fd) (x : Scan.Fd) (i : Int) : ∀ l : List Int, x ∈ (spoilS l L).1 i → x ∈ L i := by
 intro l
 induction l using snoc_ind with
 | h0 => intro h; exact h
 | h1 l q ih =>
  rw [spoilS_snoc]
  split
  ·intro h
   refine ih ?_
   unfold strikeL at h
   simp only at h
   split at h
   ·cases h
   ·exact h
  ·exact ih
theorem FR.since {wb : World} (h : FR c o F Q V w0 w1 st) (hB : Below wb.heap.size wb w0) (hQ : ∀ g, Q g → wb.heap.size ≤ g) : FR c o F (fun _ => False) w1 wb w1 st := by
 obtain ⟨F', k1, k2, k3, k4, k5, k6, k7⟩ := h
 refine ⟨F', k1, k2, fun g hg => (k3 g hg).imp id (fun h => Nat.le_trans hB.size h), k4, (Nand.Fr.of_below (F := fun g => F g ∨ o.mut g ∨ False) hB).trans k5 (fun g hg hh => ?_), k6, fun g hg => hg.elim⟩
 rcases hh with hh | hh | hh
 ·exact .inl hh
 ·exact .inr (.inl hh)
 ·exact absurd (hQ g hh) (by omega)
theorem eraseF_has (c : FC) (st : FT) (b : Nat) : (eraseF c st b).1.has = st.has := by
 unfold eraseF
 split
 ·rfl
 ·split <;> rfl
/-- The sequence number that is known of an address's page. -/
def qOf (FL : List (Int × Scan.Fd)) (a : Nat) : Nat := ((newest (a : Int) FL).map fun y => y.2.p.S).getD 0
theorem mloop_cons {q : Nat → Nat} {x : Nat} {l : List Int} {m : FT × Nat × Int} : mloop c q ((x : Int) :: l) m = if (mstep c q x m).2 ≠ 0 then mstep c q x m else mloop c q l (mstep c q x m).1 := by
 conv => lhs; unfold mloop
 rw [Int.toNat_natCast]
theorem m_failed {q : Nat → Nat} {b nw : Nat} {op : Int} {s : FT} (h : (s.N.blk b).failed = true) : mstep c q b (s, nw, op) = ((s.how c b 3, nw, op), 0) := by
 unfold mstep
 rw [if_pos h]
theorem m_empty {q : Nat → Nat} {b nw : Nat} {op : Int} {s : FT} (h : ¬ (s.N.blk b).failed = true) (h2 : (s.N.blk b).pages.length = 0) : mstep c q b (s, nw, op) = ((s, nw, op), 0) := by
 unfold mstep
 rw [if_neg h, if_pos h2]
theorem m_erase {q : Nat → Nat} {b nw : Nat} {op : Int} {s : FT} (h : ¬ (s.N.blk b).failed = true) (h2 : ¬ (s.N.blk b).pages.length = 0) (h3 : s.cn b = 0) : mstep c q b (s, nw, op) = (((eraseF c (s.how c b 1) b).1, nw, op), (eraseF c (s.how c b 1) b).2) := by
 unfold mstep
 rw [if_neg h, if_neg h2, if_pos h3]
/-- What mount does with a block's addresses. -/
def innerF (t : Bool) (q : Nat → Nat) (b : Nat) (l : List Int) (m : Nat × Int) : Nat × Int := if t = true then nwF q b l m else m
theorem m_used {q : Nat → Nat} {b nw : Nat} {op : Int} {s : FT} (h : ¬ (s.N.blk b).failed = true) (h2 : ¬ (s.N.blk b).pages.length = 0) (h3 : ¬ s.cn b = 0) : mstep c q b (s, nw, op) = ((s.how c b 1, innerF (decide ((s.N.blk b).pages.length < c.np)) q b (s.on c b) (nw, op)), 0) := by
 unfold mstep innerF
 rw [if_neg h, if_neg h2, if_neg h3]
 by_cases h4 : (s.N.blk b).pages.length < c.np
 ·rw [if_pos h4, if_pos (decide_eq_true h4)]
 ·rw [if_neg h4, if_neg (by simp; omega)]
theorem mloop_end {q : Nat → Nat} {b i : Nat} {m m' : FT × Nat × Int} {r : (FT × Nat × Int) × Int} {z : Int} (hd : c.xs.drop i = (b : Int) :: c.xs.drop (i + 1)) (h : mloop c q (c.xs.drop i) m = r) (hs : mstep c q b m = (m', z)) : (z = 0 → mloop c q (c.xs.drop (i + 1)) m' = r) ∧ (z ≠ 0 → r = (m', z)) := by
 rw [hd, mloop_cons, hs] at h
 refine ⟨fun h0 => ?_, fun h0 => ?_⟩
 ·rw [if_neg (by simp [h0])] at h
  exact h
 ·rw [if_pos h0] at h
  exact h.symm
theorem drop_at {i b : Nat} (hi : i < (us c.nb c.bad).length) (e : (us c.nb c.bad).getD i 0 = (b : Int)) : c.xs.drop i = (b : Int) :: c.xs.drop (i + 1) := by
 show (us c.nb c.bad).drop i = (b : Int) :: (us c.nb c.bad).drop (i + 1)
 rw [List.drop_eq_getElem_cons hi]
 rw [List.getD_eq_getElem?_getD, List.getElem?_eq_getElem hi, Option.getD_some] at e
 rw [e]
theorem field_Q (w : World) (K E S a f v : Value) : (Instr.field 85 (.agg #[K, E, S, a, f, v]) 2).run Try.prog w = .ok S w := by kernel_rfl
theorem inner_no {q : Nat → Nat} {b : Nat} {l : List Int} {m : Nat × Int} {x : Int} {t : Bool} (h : t = false ∨ ¬ m.1 < q x.toNat) : innerF t q b (x :: l) m = innerF t q b l m := by
 unfold innerF nwF
 rcases h with rfl | h
 ·simp
 ·by_cases ht : t = true
  ·rw [if_pos ht, if_pos ht, List.foldl_cons, if_neg h]
  ·rw [if_neg ht, if_neg ht]
theorem inner_yes {q : Nat → Nat} {b : Nat} {l : List Int} {m : Nat × Int} {x : Int} {t : Bool} (ht : t = true) (h : m.1 < q x.toNat) : innerF t q b (x :: l) m = innerF t q b l (q x.toNat, (b : Int)) := by
 unfold innerF nwF
 rw [if_pos ht, if_pos ht, List.foldl_cons, if_pos h]
theorem drop_cons {l : List Int} {k : Nat} (hk : k < l.length) : l.drop k = l.getD k 0 :: l.drop (k + 1) := by
 rw [List.drop_eq_getElem_cons hk, List.getD_eq_getElem?_getD, List.getElem?_eq_getElem hk, Option.getD_some]
/-- What All's map tells of an address. -/
theorem look_q {W : World} {gp n' M : Nat} {FL : List (Int × Scan.Fd)} (h : Mx W gp n' (pgsF FL) (keysN FL M)) {a : Nat} (ha : kwf (a : Int)) {y : Int × Scan.Fd} (hy : newest (a : Int) FL = some y) : ∃ v0 v1 v2 v3 v5 v6 v7, (Instr.lookup 72 (.map (some gp)) (.int .i64 (a : Int)) false).run Try.prog W = .ok (.agg #[v0, v1, v2, v3, .int .u64 (qOf FL a : Int), v5, v6, v7]) W := by
 have h1 := h.look Try.underlying72 (zeroFd W) (a : Int) ha
 have h2 : pgsF FL (a : Int) = some (y.2.val y.1) := by unfold pgsF; rw [hy]; rfl
 have h3 : qOf FL a = y.2.p.S := by unfold qOf; rw [hy]; rfl
 rw [h2] at h1
 rw [h3]
 exact ⟨_, _, _, _, _, _, _, h1⟩
/-- What mount answers. -/
def MountPost (c : FC) (A : Option Addr) (n cc : Nat) (F : Nat → Prop) (w : World) (ba : Nat) (N : NA) (e : Ending) (w' : World) : Prop :=
 ∃ (o : FId) (L : Int → List Scan.Fd) (at' : List (Int × Int)) (has : List Bool) (cnt : List Int) (st0 : FT) (FL : List (Int × Scan.Fd)) (R : FT × Int),
  o.ba = ba ∧ (o.Ab = A ∧ o.nbad = n ∧ o.cbad = cc) ∧ (∀ g, o.K g → w.heap.size ≤ g ∨ ∃ a, A = some a ∧ g = a.block) ∧ FL = flatF (us c.nb c.bad) (spoilS (us c.nb c.bad) L).1 ∧ st0 = ⟨N, at', has, cnt, newH (us c.nb c.bad), seqOf (flatF (us c.nb c.bad) L)⟩ ∧
  ((∀ i : Int, i ∉ us c.nb c.bad → L i = []) ∧ ∀ i : Nat, (i : Int) ∈ us c.nb c.bad → (L (i : Int)).map (fun x => (x.k, x.p)) = found ((c.M - 1 : Nat) : Int) (NB.seen (N.blk i))) ∧
  (∀ a, a < c.M → has.getD a false = (newest (a : Int) FL).isSome ∧ ∀ y, newest (a : Int) FL = some y → at'.getD a (0, 0) = (y.1, (y.2.k : Int))) ∧
  FWf c st0 ∧ mountF c (qOf FL) st0 = R ∧
  (R.2 = 0 → e = .returned (.tuple #[.pointer (some ⟨o.bf, 0, none⟩), .int .i64 0])) ∧ (R.2 ≠ 0 → e = .returned (.tuple #[.pointer none, .int .i64 R.2])) ∧
  FR c o F (fun _ => False) w' w w' R.1 ∧ FWf c R.1
/-- The loop of mount, at a world. -/
def MRel (c : FC) (o : FId) (F Q : Nat → Prop) (V w0 : World) (q : Nat → Nat) (has : List Bool) (r : (FT × Nat × Int) × Int) (i : Nat) (x13 x14 : Value) (W : World) : Prop :=
 ∃ (s : FT) (nw : Nat) (op : Int), x13 = .int .u64 (nw : Int) ∧ x14 = .int .i64 op ∧ -1 ≤ op ∧ op < 64 ∧ nw < 281474976710656 ∧ mloop c q (c.xs.drop i) (s, nw, op) = r ∧ FWf c s ∧ s.has = has ∧ FR c o F Q V w0 W s
theorem us_rise (nb : Nat) (bad : List Int) (h : nb ≤ 64) : Rise (us nb bad) := by
 have hp : (us nb bad).Pairwise (· < ·) := by
  unfold us usb
  refine List.Pairwise.filter _ ?_
  rw [List.pairwise_map]
  exact List.pairwise_lt_range.imp (fun hlt => Int.ofNat_lt.2 hlt)
 intro i hi
 have hb := us_bd (show (us nb bad)[i] ∈ us nb bad from List.getElem_mem _)
 have e : (us nb bad).getD i 0 = (us nb bad)[i] := by rw [List.getD_eq_getElem?_getD, List.getElem?_eq_getElem hi]; rfl
 refine ⟨by rw [e]; omega, by rw [e]; omega, fun h0 => ?_⟩
 have e2 : (us nb bad).getD (i - 1) 0 = (us nb bad)[i - 1]'(by omega) := by rw [List.getD_eq_getElem?_getD, List.getElem?_eq_getElem (by omega)]; rfl
 rw [e, e2]
 exact List.pairwise_iff_getElem.1 hp (i - 1) i (by omega) hi (by omega)
theorem mx_heap {w w' : World} {g n s : Nat} {f : Int → Option Value} (h : Mx w g n f s) (he : w'.heap[g]? = w.heap[g]?) : Mx w' g n f s := by
 obtain ⟨D, ⟨es, clock, hb, r⟩, r2⟩ := h
 exact ⟨D, ⟨es, clock, he.trans hb, r⟩, r2⟩

set_option maxRecDepth 100000 in
set_option maxHeartbeats 4000000 in
theorem mount_run {ba : Nat} {N : NA} (h : Arr w F ba N) (hnb : N.bs.length = c.nb) (hnp : N.pages = c.np) (hon : N.off = false) (hby : ∀ (j : Nat) (q : List Int), q ∈ (N.blk j).pages → IsB q) (her : ∀ i, kwf (N.blk i).erases) (A : Option Addr) (n cc : Nat) (hg : Geo w c.nb c.np (c.S : Int) A n cc c.bad) (hlow : ∀ ad, A = some ad → ad.block < w.heap.size ∧ ¬ F ad.block) (hc : c.ok) (hM : 1 ≤ c.M) (he1 : 1 ≤ c.ep) (he2 : c.ep < 281474976710656) :
  Calls Try.prog 16 #[.pointer (some ⟨ba, 0, none⟩), .agg #[.int .i64 (c.nb : Int), .int .i64 (c.np : Int), .int .i64 (c.S : Int), .slice A n cc], .int .u64 (c.ep : Int)] w fun e w' => MountPost c A n cc F w ba N e w' := by
 have hgb := hg.bd
 have hx0 : 0 < (us c.nb c.bad).length := by
  have h1 := hgb.2.2.2.2.2.2
  rcases Nat.eq_zero_or_pos (us c.nb c.bad).length with h0 | h0
  ·exfalso
   unfold cap at h1
   unfold us at h0
   rw [Int.toNat_natCast, h0] at h1
   have h2 : (c.np : Int) * (((0 : Nat) : Int) - (c.S : Int) - 1) ≤ (c.np : Int) * 0 := Int.mul_le_mul_of_nonneg_left (by omega) (by omega)
   omega
  ·exact h0
 have hcM : cap (c.nb : Int) (c.np : Int) (c.S : Int) c.bad = ((c.M - 1 : Nat) : Int) := by rw [hc]; omega
 have hM1 : c.M - 1 + 1 = c.M := by omega
 obtain ⟨ep, hpe⟩ : ∃ x : Int, (c.ep : Int) = x := ⟨_, rfl⟩
 have ha1 : (1 : Int) ≤ ep := by omega
 have ha2 : ep < 281474976710656 := by omega
 rw [hpe]
 have Hpe := hid hpe
 have Hall := hid (fun (W : World) (hW : Below w.heap.size w W) => all_any (h.later hW) c.nb c.np hnb hnp hon hby (c.S : Int) A n cc c.bad (hg.later hW) (c.M - 1) hcM)
 have Hus := hid (fun (W : World) (hW : Below w.heap.size w W) => geo_usable (hg.later hW))
 have H := hid h
 have Hg := hid hg
 have HM := hid hM
 have Hx0 := hid hx0
 clear h hg hcM hc hM he1 he2 hpe hx0
 go_enter Try.func16, Try.ntmps16
 go_upto_region 1 with (fail)
 generalize hwa : w.alloc _ = wa
 obtain ⟨g4, hg4⟩ : ∃ x, w.heap.size = x := ⟨_, rfl⟩
 rw [hg4]
 have hb4 : Blk wa g4 #[.int .i64 (c.nb : Int), .int .i64 (c.np : Int), .int .i64 (c.S : Int), .slice A n cc] 26 := by rw [← hwa, ← hg4]; exact Blk.new _ _ _
 have hBa : Below w.heap.size w wa := by rw [← hwa]; exact (Below.refl _ _).alloc (Nat.le_refl _) _
 have hal := Hall.out wa hBa
 have HBa := hid hBa
 have Hb4 := hid hb4
 have Hg4 := hid hg4
 obtain ⟨x0, x1, x2, x3⟩ := hb4.four
 clear hwa hb4 hBa Hall hg4
 go_upto_region 3 with (fail)
 go_wp2_with fail
 refine hal.mono ?_
 rintro e w2 ⟨L, bm, ga, gh, gc, gp, n', spv, at', has, cnt, rfl, hL, hR, hB2⟩
 obtain ⟨As, ns, cs, rfl⟩ := own_slice hR.spo
 have HL := hid hL
 have HR := hid hR
 obtain ⟨sq, hsq⟩ : ∃ x, seqOf (flatF (us c.nb c.bad) L) = x := ⟨_, rfl⟩
 rw [hsq]
 have Hsq := hid hsq
 have HB2 := hid (HBa.out.trans (hB2.mono HBa.out.size))
 have Hb42 := hid (Hb4.out.later hB2)
 have Hpl := hid (show (w.heap.size < bm ∧ w.heap.size < ga ∧ w.heap.size < gh ∧ w.heap.size < gc ∧ w.heap.size ≤ gp) ∧ bm < w2.heap.size ∧ ga < w2.heap.size ∧ gh < w2.heap.size ∧ gc < w2.heap.size ∧ gp < w2.heap.size ∧ gp ≠ bm ∧ gp ≠ ga ∧ gp ≠ gh ∧ gp ≠ gc from by
  have l0 := hR.low
  have l1 := hR.pm.blk.lt
  have l2 := hR.pm.ats.lt
  have l3 := hR.pm.hass.lt
  have l4 := hR.pm.cnts.lt
  have l5 := hR.pages.lt
  have l6 := Hb4.out.lt
  have l7 := Hg4.out
  have l8 : w.heap.size ≤ gp := Nat.le_trans HBa.out.size hR.low.2.2.2.2
  obtain ⟨es, ck, hes⟩ := hR.pages.notCells
  refine ⟨⟨by omega, by omega, by omega, by omega, l8⟩, l1, l2, l3, l4, l5, ?_, ?_, ?_, ?_⟩
  ·rintro rfl
   have := hR.pm.blk
   unfold Blk at this
   rw [hes] at this
   cases this
  ·rintro rfl
   have := hR.pm.ats
   unfold Blk at this
   rw [hes] at this
   cases this
  ·rintro rfl
   have := hR.pm.hass
   unfold Blk at this
   rw [hes] at this
   cases this
  ·rintro rfl
   have := hR.pm.cnts
   unfold Blk at this
   rw [hes] at this
   cases this)
 clear hal hL hR hB2 x0 x1 x2 x3 hsq
 go_upto_region 4 with (fail)
 generalize hw3 : w2.alloc _ = w3
 obtain ⟨g8, hg8⟩ : ∃ x, w2.heap.size = x := ⟨_, rfl⟩
 rw [hg8]
 have hb8 : Blk w3 g8 #[.pointer (some ⟨bm, 0, none⟩), .map (some gp), .int .u64 (sq : Int), .slice As ns cs] 74 := by rw [← hw3, ← hg8]; exact Blk.new _ _ _
 have hB3 : Below w2.heap.size w2 w3 := by rw [← hw3]; exact (Below.refl _ _).alloc (Nat.le_refl _) _
 have HR3 := hid (HR.out.later hB3)
 have HB3 := hid (HB2.out.trans (hB3.mono HB2.out.size))
 have Hb8 := hid hb8
 have Hb43 := hid (Hb42.out.later hB3)
 have Hg8 := hid hg8
 clear hw3 hb8 hB3 hg8 HR Hb42 Hb4 HBa
 have hus := Hus.out w3 HB3.out
 obtain ⟨x0, x1, x2, x3⟩ := Hb43.out.four
 go_wp2_with fail
 refine hus.mono ?_
 rintro e w4 ⟨U, d, rfl, hzU, hloU, hB4⟩
 have hul : (us c.nb c.bad).length ≤ 64 := Nat.le_trans (us_len c.bad) hgb.2.1
 have hnw := new_low U (us c.nb c.bad).length d (us c.nb c.bad) w4 hzU (by omega)
 have HR4 := hid (HR3.out.later hB4)
 have HB4 := hid (HB3.out.trans (hB4.mono HB3.out.size))
 have Hb84 := hid (Hb8.out.later hB4)
 have H84 := hid (show g8 < w4.heap.size from Hb84.out.lt)
 have Hb44 := hid (Hb43.out.later hB4)
 clear hus hzU hloU HR3 HB3 Hb8 Hb43 x0 x1 x2 x3
 go_wp2_with fail
 refine hnw.mono ?_
 rintro e w5 ⟨hB5, hcase⟩
 rcases hcase with ⟨-, bp, gq, Ax, cx, rfl, hps, hlo1, hlo2, hlo3⟩ | ⟨hno, -⟩
 case inr => exact absurd (us_rise c.nb c.bad hgb.2.1) hno
 have Hps := hid hps.norm
 have Hql := hid (show gq < w5.heap.size ∧ bp < w5.heap.size ∧ bp ≠ gq ∧ ∀ ad, Ax = some ad → ad.block ≠ gq ∧ ad.block < w5.heap.size ∧ w4.heap.size ≤ ad.block from ⟨hps.mp.lt, hps.blk.lt, hps.ne.1, fun ad e => ⟨hps.ne.2 Hx0.out ad e, by
  obtain ⟨b', o', e', hc'⟩ := hps.nums.cell 0 Hx0.out
  rw [e'] at e
  injection e with e
  subst e
  exact World.block_lt_of_cell? w5 _ (hc' 0 Hx0.out), hlo3 Hx0.out ad e⟩⟩)
 have Hlo := hid (show w4.heap.size ≤ gq ∧ w4.heap.size ≤ bp ∧ (0 < (us c.nb c.bad).length → ∀ ad, Ax = some ad → w4.heap.size ≤ ad.block) from ⟨hlo1, hlo2, hlo3⟩)
 have HR5 := hid (HR4.out.later hB5)
 have HB5 := hid (HB4.out.trans (hB5.mono HB4.out.size))
 have Hb85 := hid (Hb84.out.later hB5)
 have Hb45 := hid (Hb44.out.later hB5)
 have hb85 := Hb85.out
 obtain ⟨y0, y1, y2, y3⟩ := hb85.four
 obtain ⟨x0, x1, x2, x3⟩ := Hb45.out.four
 have H45 := hid hB5.size
 have H24 := hid (show w2.heap.size ≤ w4.heap.size from by have h1 := HB4.out.size; have h2 := Hg8.out; have h3 := Hb84.out.lt; omega)
 clear hnw hps hlo1 hlo2 hlo3 HR4 Hb84 Hb44 hB4 hB5 hb85
 go_upto_region 8 with (fail)
 generalize hw6 : w5.alloc _ = w6
 obtain ⟨bf, hbf⟩ : ∃ x, w5.heap.size = x := ⟨_, rfl⟩
 rw [hbf]
 have hbb : Blk w6 bf #[.pointer (some ⟨ba, 0, none⟩), .int .i64 (c.nb : Int), .int .i64 (c.np : Int), .int .i64 (c.S : Int), .slice A n cc, .int .u64 ep, .pointer (some ⟨bm, 0, none⟩), .pointer (some ⟨bp, 0, none⟩), .int .u64 (sq : Int)] 81 := by rw [← hw6, ← hbf]; exact Blk.new _ _ _
 have hB6 : Below w5.heap.size w5 w6 := by rw [← hw6]; exact (Below.refl _ _).alloc (Nat.le_refl _) _
 have HR6 := hid (HR5.out.later hB6)
 have HB6 := hid (HB5.out.trans (hB6.mono HB5.out.size))
 have Hb86 := hid (Hb85.out.later hB6)
 have Hb46 := hid (Hb45.out.later hB6)
 have Hps6 := hid (Hps.out.later hB6)
 have Hbb := hid hbb
 have Hbf := hid hbf
 have H6l := hid hbb.lt
 clear hw6 hbb hB6 hbf HR5 Hb85 Hb45 x0 x1 x2 x3 y0 y1 y2 y3
 have hus := Hus.out w6 HB6.out
 obtain ⟨x0, x1, x2, x3⟩ := Hb46.out.four
 go_wp2_with fail
 refine hus.mono ?_
 rintro e w7 ⟨U2, d2, rfl, hzU2, hloU2, hB7⟩
 have HR7 := hid (HR6.out.later hB7)
 have HB7 := hid (HB6.out.trans (hB7.mono HB6.out.size))
 have Hb87 := hid (Hb86.out.later hB7)
 have Hb47 := hid (Hb46.out.later hB7)
 have Hps7 := hid (Hps6.out.later hB7)
 have Hbb7 := hid (Hbb.out.later hB7)
 have HzU2 := hid hzU2
 have HloU2 := hid hloU2
 have H67 := hid hB7.size
 clear hus hzU2 hloU2 hB7 HR6 Hb86 Hb46 Hps6 Hbb x0 x1 x2 x3
 obtain ⟨o, ho⟩ : ∃ o : FId, o = ⟨bf, ba, bm, ga, gh, gc, bp, gq, A, n, cc, Ax, (us c.nb c.bad).length, cx⟩ := ⟨_, rfl⟩
 obtain ⟨st0, hst0⟩ : ∃ s : FT, s = ⟨N, at', has, cnt, newH (us c.nb c.bad), sq⟩ := ⟨_, rfl⟩
 have hord : w.heap.size < w2.heap.size ∧ w2.heap.size ≤ w4.heap.size ∧ w4.heap.size ≤ w5.heap.size ∧ w5.heap.size = bf ∧ bf < w6.heap.size ∧ w6.heap.size ≤ w7.heap.size := by
  have h1 := Hpl.out
  have h2 := Hbf.out
  have h3 := H45.out
  have h4 := H24.out
  have h5 := H6l.out
  have h6 := H67.out
  omega
 have hap : o.Apart := by
  obtain ⟨⟨p1, p2, p3, p4, p5⟩, p6, p7, p8, p9, p10, p11, p12, p13, p14⟩ := Hpl.out
  obtain ⟨q1, q2, q3, q4⟩ := Hql.out
  obtain ⟨r1, r2, r3, r4, r5, r6⟩ := hord
  obtain ⟨s1, s2, s3⟩ := Hlo.out
  obtain ⟨n1, n2, n3, n4, n5, n6⟩ := HR7.out.pm.ne
  rw [ho]
  refine ⟨⟨?_, ?_, ?_, ?_⟩, ⟨?_, ?_, ?_⟩, ?_, ?_, fun a ha => ?_, fun a ha => ?_⟩
  ·show bf ≠ ga; omega
  ·show bf ≠ gh; omega
  ·show bf ≠ gc; omega
  ·show bf ≠ gq; omega
  ·show gq ≠ ga; omega
  ·show gq ≠ gh; omega
  ·show gq ≠ gc; omega
  ·show ¬ (bm = bf ∨ bm = ga ∨ bm = gh ∨ bm = gc ∨ bm = gq); omega
  ·show ¬ (bp = bf ∨ bp = ga ∨ bp = gh ∨ bp = gc ∨ bp = gq); omega
  ·have := (hlow a ha).1
   show ¬ (a.block = bf ∨ a.block = ga ∨ a.block = gh ∨ a.block = gc ∨ a.block = gq); omega
  ·have := q4 a ha
   show ¬ (a.block = bf ∨ a.block = ga ∨ a.block = gh ∨ a.block = gc ∨ a.block = gq); omega
 have hK : ∀ g, o.K g → g < w7.heap.size ∧ ((w.heap.size < g ∧ g ≠ gp ∧ g ≠ g8 ∧ g < w6.heap.size) ∨ ∃ a, A = some a ∧ g = a.block) := by
  obtain ⟨⟨p1, p2, p3, p4, p5⟩, p6, p7, p8, p9, p10, p11, p12, p13, p14⟩ := Hpl.out
  obtain ⟨q1, q2, q3, q4⟩ := Hql.out
  obtain ⟨r1, r2, r3, r4, r5, r6⟩ := hord
  obtain ⟨s1, s2, s3⟩ := Hlo.out
  have hg8' := Hg8.out
  have hg84 := H84.out
  rw [ho]
  intro g hg
  rcases hg with (hg | hg | hg | hg | hg) | hg | hg | ⟨a, ha, hg⟩ | ⟨a, ha, hg⟩
  ·have hg : g = bf := hg
   exact ⟨by omega, .inl ⟨by omega, by omega, by omega, by omega⟩⟩
  ·have hg : g = ga := hg
   exact ⟨by omega, .inl ⟨by omega, by omega, by omega, by omega⟩⟩
  ·have hg : g = gh := hg
   exact ⟨by omega, .inl ⟨by omega, by omega, by omega, by omega⟩⟩
  ·have hg : g = gc := hg
   exact ⟨by omega, .inl ⟨by omega, by omega, by omega, by omega⟩⟩
  ·have hg : g = gq := hg
   exact ⟨by omega, .inl ⟨by omega, by omega, by omega, by omega⟩⟩
  ·have hg : g = bm := hg
   exact ⟨by omega, .inl ⟨by omega, by omega, by omega, by omega⟩⟩
  ·have hg : g = bp := hg
   exact ⟨by omega, .inl ⟨by omega, by omega, by omega, by omega⟩⟩
  ·have := (hlow a ha).1
   exact ⟨by omega, .inr ⟨a, ha, hg⟩⟩
  ·have := q4 a ha
   exact ⟨by omega, .inl ⟨by omega, by omega, by omega, by omega⟩⟩
 have hFW : FtW c o w7 st0 := by
  rw [ho, hst0]
  refine ⟨?_, ?_, ?_, ?_, ?_⟩
  ·unfold FtC
   rw [← Hpe.out] at Hbb7
   exact Hbb7.out
  ·have := HR7.out.pm
   rw [hM1] at this
   exact this
  ·exact Hps7.out
  ·exact Hg.out.later HB7.out
  ·rw [ho] at hap
   exact hap
 have hFWf : FWf c st0 := by
  rw [hst0]
  refine ⟨?_, fun a ha => ?_, hnb, hnp, her⟩
  ·have := HR7.out.pi
   rw [hM1] at this
   exact this
  ·have ha : has.getD a false = true := ha
   show (at'.getD a (0, 0)).2 < ((N.blk (at'.getD a (0, 0)).1.toNat).pages.length : Int)
   have haM : a < c.M - 1 + 1 := by
    have h1 := HR7.out.pm.lh
    rcases Nat.lt_or_ge a (c.M - 1 + 1) with h | h
    ·exact h
    ·rw [List.getD_eq_getElem?_getD, List.getElem?_eq_none (by omega)] at ha
     cases ha
   obtain ⟨t1, t2⟩ := HR7.out.tells a haM
   rw [ha] at t1
   obtain ⟨y, hy⟩ := Option.isSome_iff_exists.1 t1.symm
   rw [t2 y hy]
   obtain ⟨m1, -⟩ := newest_spec (a : Int) _ y hy
   obtain ⟨m2, m3⟩ := flatF_mem.1 m1
   have m4 := spoil_sub L y.2 y.1 _ m3
   obtain ⟨i, hi⟩ := Int.eq_ofNat_of_zero_le (show 0 ≤ y.1 by have := us_bd m2; omega)
   rw [hi] at m2 m4 ⊢
   have m5 : (y.2.k, y.2.p) ∈ found ((c.M - 1 : Nat) : Int) (NB.seen (N.blk i)) := by
    rw [← HL.out.2 i m2]
    exact List.mem_map.2 ⟨y.2, m4, rfl⟩
   have m6 := (mem_found m5).1
   have m7 : (NB.seen (N.blk i)).length ≤ (N.blk i).pages.length := by
    unfold NB.seen
    split
    ·exact Nat.zero_le _
    ·exact Nat.le_refl _
   show ((y.2.k : Nat) : Int) < ((N.blk ((i : Nat) : Int).toNat).pages.length : Int)
   rw [Int.toNat_natCast]
   omega
 have hF0 : FR c o F (fun g => w.heap.size ≤ g ∧ g < w7.heap.size ∧ ¬ o.K g) w7 w7 w7 st0 := by
  have hFl := H.out.low
  refine ⟨F, ?_, hFW, fun g hg => .inl hg, fun g hg hk => ?_, Nand.Fr.refl _ _, fun g hg => (hK g hg).1, fun g hg => ⟨⟨fun hh => by have := hFl g hh; omega, hg.2.2⟩, hg.2.1, rfl⟩⟩
  ·rw [ho, hst0]
   exact H.out.later HB7.out
  ·rcases (hK g hk).2 with h | ⟨a, ha, h⟩
   ·have := hFl g hg; omega
   ·exact (hlow a ha).2 (by rw [← h]; exact hg)
 have hQk : ∀ g, w.heap.size ≤ g → g < w7.heap.size → (g ≤ w.heap.size ∨ g = gp ∨ g = g8 ∨ w6.heap.size ≤ g) → ¬ o.K g := fun g h1 h2 h3 hk => by
  rcases (hK g hk).2 with h | ⟨a, ha, h⟩
  ·omega
  ·have := (hlow a ha).1; omega
 obtain ⟨Qm, hQm⟩ : ∃ Q : Nat → Prop, (fun g => w.heap.size ≤ g ∧ g < w7.heap.size ∧ ¬ o.K g) = Q := ⟨_, rfl⟩
 rw [hQm] at hF0
 obtain ⟨FL, hFL⟩ : ∃ x, flatF (us c.nb c.bad) (spoilS (us c.nb c.bad) L).1 = x := ⟨_, rfl⟩
 rw [hFL] at HR7
 obtain ⟨r, hr⟩ : ∃ x, mloop c (qOf FL) (c.xs.drop 0) (st0, 0, -1) = x := ⟨_, rfl⟩
 have Hr := hid hr
 obtain ⟨p1, p2, p3, p4, p5⟩ := Hpl.out.1
 obtain ⟨r1, r2, r3, r4, r5, r6⟩ := hord
 have hQg : ∀ g, w.heap.size ≤ g → g < w7.heap.size → (g ≤ w.heap.size ∨ g = gp ∨ g = g8 ∨ w6.heap.size ≤ g) → Qm g := fun g h1 h2 h3 => by
  rw [← hQm]
  exact ⟨h1, h2, hQk g h1 h2 h3⟩
 have HU := hid (fun (W : World) (S : FT) (hW : FR c o F Qm w7 w7 W S) => (nums_blk HzU2.out (fun hn ad e => (hW.mineQ ad.block (hQg _ (by have := HloU2.out ad e; omega) (by
  obtain ⟨b', o', e', hc'⟩ := HzU2.out.cell 0 hn
  rw [e'] at e
  injection e with e
  subst e
  exact World.block_lt_of_cell? w7 _ (hc' 0 hn)) (.inr (.inr (.inr (HloU2.out ad e)))))).2.2) : Nums W .i64 U2 (us c.nb c.bad).length (us c.nb c.bad)))
 have HB4k := hid (fun (W : World) (S : FT) (hW : FR c o F Qm w7 w7 W S) => (hW.blk (hQg g4 (by have := Hg4.out; omega) Hb47.out.lt (.inl (by have := Hg4.out; omega))) Hb47.out))
 have HB8k := hid (fun (W : World) (S : FT) (hW : FR c o F Qm w7 w7 W S) => (hW.blk (hQg g8 (by have := Hg8.out; omega) Hb87.out.lt (.inr (.inr (.inl rfl)))) Hb87.out))
 have HMx := hid (fun (W : World) (S : FT) (hW : FR c o F Qm w7 w7 W S) => (mx_heap HR7.out.pages (hW.mineQ gp (hQg gp p5 (HR7.out.pages.lt) (.inr (.inl rfl)))).2.2))
 have HFr0 := hid hF0
 have HFf := hid hFWf
 have Hh0 := hid (show st0.has = has by rw [hst0])
 have Hs0 := hid hst0
 have Ho := hid ho
 have Hob := hid (show o.bf = bf ∧ o.ba = ba ∧ o.bm = bm ∧ o.bp = bp ∧ o.Ab = A ∧ o.nbad = n ∧ o.cbad = cc from by rw [ho]; exact ⟨rfl, rfl, rfl, rfl, rfl, rfl, rfl⟩)
 have HTl := hid (show ∀ a, a < c.M → has.getD a false = true → ∃ y, newest (a : Int) FL = some y ∧ y.2.p.S < 281474976710656 from fun a ha hh => by
  obtain ⟨t1, t2⟩ := HR7.out.tells a (by rw [hM1]; exact ha)
  rw [hh] at t1
  obtain ⟨y, hy⟩ := Option.isSome_iff_exists.1 t1.symm
  exact ⟨y, hy, (HR7.out.there y (newest_spec (a : Int) _ y hy).1).1.2.2.2.1⟩)
 have HPost := hid (show ∀ (e : Ending) (w' : World) (R : FT × Int), mountF c (qOf FL) st0 = R → (R.2 = 0 → e = .returned (.tuple #[.pointer (some ⟨o.bf, 0, none⟩), .int .i64 0])) → (R.2 ≠ 0 → e = .returned (.tuple #[.pointer none, .int .i64 R.2])) → FR c o F Qm w7 w7 w' R.1 → FWf c R.1 → MountPost c A n cc F w ba N e w' from fun e w' R h1 h2 h3 h4 h5 => by
  refine ⟨o, L, at', has, cnt, st0, FL, R, by rw [ho], by rw [ho]; exact ⟨rfl, rfl, rfl⟩, fun g hg => ((hK g hg).2.imp (fun h => Nat.le_of_lt h.1) id), hFL.symm, by rw [hst0, Hsq.out], HL.out, fun a ha => HR7.out.tells a (by rw [hM1]; exact ha), hFWf, h1, h2, h3, ?_, h5⟩
  exact (h4.since HB7.out (fun g hg => by rw [← hQm] at hg; exact hg.1)).now)
 have HMf := hid (show (r.2 ≠ 0 → mountF c (qOf FL) st0 = (r.1.1, r.2)) ∧ (r.2 = 0 → 0 ≤ r.1.2.2 → mountF c (qOf FL) st0 = (r.1.1.how c r.1.2.2.toNat 2, 0)) ∧ (r.2 = 0 → ¬ 0 ≤ r.1.2.2 → mountF c (qOf FL) st0 = (r.1.1, 0)) from by
  have e0 : mloop c (qOf FL) c.xs (st0, 0, -1) = r := hr
  unfold mountF
  rw [e0]
  refine ⟨fun h => ?_, fun h h2 => ?_, fun h h2 => ?_⟩
  ·simp only
   rw [if_pos h]
  ·simp only
   rw [if_neg (by simp [h]), if_pos h2]
  ·simp only
   rw [if_neg (by simp [h]), if_neg h2])
 clear ho hst0 hM1 hr hF0 hFWf hQm hQg hQk hK hap hFW p1 p2 p3 p4 p5 r1 r2 r3 r4 r5 r6 hFL
 obtain ⟨ul, hue⟩ : ∃ x, (us c.nb c.bad).length = x := ⟨_, rfl⟩
 obtain ⟨e1, e2, e3, e4, -⟩ := Hob.out
 rw [← e1, ← e2, ← e4]
 rw [hue] at HU hul ⊢
 have Hue := hid hue
 have hm1 : (-1 : Int) ≤ -1 := by omega
 clear e1 e2 e3 e4 hue
 go_wp2
 go_loopw [13, 14, 55] (fun x13 x14 x55 w' => ∃ i : Nat, i ≤ ul ∧ x55 = .int .i64 (i : Int) ∧ MRel c o F Qm w7 w7 (qOf FL) has r i x13 x14 w') (fun x13 x14 x55 _ => ul - (intOf x55).toNat)
 case atStart => exact ⟨0, by omega, rfl, st0, 0, -1, rfl, rfl, by omega, by omega, by omega, Hr.out, HFf.out, Hh0.out, HFr0.out⟩
 case round =>
  obtain ⟨i, hi, rfl, s1, nw, op, rfl, rfl, ho1, ho2, hn1, hl1, hw1, hh1, h1⟩ := hrel
  clear Hr HFf Hh0 HFr0 hm1
  by_cases hlt : i < ul
  ·obtain ⟨b, eb, b2, bn, -, -⟩ := us_get i (show i < (us c.nb c.bad).length by rw [Hue.out]; exact hlt)
   have Hd := hid (drop_at (c := c) (show i < (us c.nb c.bad).length by rw [Hue.out]; exact hlt) eb)
   obtain ⟨bz, oz, hA, hcz⟩ := (HU.out wr s1 h1).at_ i hlt
   rw [eb] at hcz
   subst hA
   have hfl : Calls Try.prog 30 #[.pointer (some ⟨o.ba, 0, none⟩), .int .i64 (b : Int)] wr fun e w' => e = .returned (.bool (s1.N.blk b).failed) ∧ w' = wr := by
    obtain ⟨F', hA⟩ := h1.arr
    have := failed_any F' o.ba s1.N (b : Int) wr hA
    rw [show s1.N.inI (b : Int) = true by unfold NA.inI; have := hw1.lb; simp; omega, if_pos rfl, Int.toNat_natCast] at this
    exact this
   have H1 := hid h1
   have Hw1 := hid hw1
   have Hh1 := hid hh1
   have Hl1 := hid hl1
   have hb64 : b < 64 := by have := hgb.2.1; omega
   clear h1 hw1 hh1 hl1 eb
   cases hfd : (s1.N.blk b).failed with
   | true =>
    rw [hfd] at hfl
    have Hl2 := hid ((mloop_end Hd.out Hl1.out (m_failed hfd)).1 rfl)
    clear hfd
    go_wp2_with fail
    refine hfl.mono ?_
    rintro e w8 ⟨rfl, rfl⟩
    have hs : Calls Try.prog 40 #[.pointer (some ⟨o.bp, 0, none⟩), .int .i64 (b : Int), .int .u8 3] w8 fun e w' => (∃ r, e = .returned (.int .i64 r)) ∧ FR c o F Qm w7 w7 w' (s1.how c b 3) := how_run H1.out b 3 hb64 (by omega)
    clear hfl hcz
    go_wp2_with fail
    refine hs.mono ?_
    rintro e w9 ⟨⟨z, rfl⟩, h9⟩
    have H9 := hid h9
    clear hs h9
    go_wp2
    go_roundw
    case rel => exact ⟨i + 1, by omega, by go_num, s1.how c b 3, nw, op, rfl, rfl, by omega, by omega, by omega, Hl2.out, Hw1.out.how b 3, Hh1.out, H9.out⟩
    case measure => simp [intOf]; omega
   | false =>
    rw [hfd] at hfl
    have Hfd := hid (show ¬ (s1.N.blk b).failed = true by rw [hfd]; simp)
    have hnx := next_run H1.out b (by rw [Hw1.out.lb]; exact bn)
    obtain ⟨pl, hpl⟩ : ∃ x, (s1.N.blk b).pages.length = x := ⟨_, rfl⟩
    rw [hpl] at hnx
    have Hpl2 := hid hpl
    clear hfd hpl
    go_wp2_with fail
    refine hfl.mono ?_
    rintro e w8 ⟨rfl, rfl⟩
    clear hfl
    go_wp2_with fail
    refine hnx.mono ?_
    rintro e w9 ⟨rfl, rfl⟩
    clear hnx hcz
    by_cases hp0 : pl = 0
    ·have Hl2 := hid ((mloop_end Hd.out Hl1.out (m_empty Hfd.out (by rw [Hpl2.out]; exact hp0))).1 rfl)
     subst hp0
     go_wp2
     go_roundw
     case rel => exact ⟨i + 1, by omega, by go_num, s1, nw, op, rfl, rfl, by omega, by omega, by omega, Hl2.out, Hw1.out, Hh1.out, H1.out⟩
     case measure => simp [intOf]; omega
    ·have hpb : ((pl : Int) == 0) = false := by rw [beq_eq_false_iff_ne]; omega
     have hs : Calls Try.prog 40 #[.pointer (some ⟨o.bp, 0, none⟩), .int .i64 (b : Int), .int .u8 1] w9 fun e w' => (∃ r, e = .returned (.int .i64 r)) ∧ FR c o F Qm w7 w7 w' (s1.how c b 1) := how_run H1.out b 1 hb64 (by omega)
     go_wp2_with fail
     refine hs.mono ?_
     rintro e wa ⟨⟨z, rfl⟩, ha⟩
     have Ha := hid ha
     have hct := count_run ha b bn
     have ka : wa.cell? ⟨o.bf, 6, none⟩ = some (.pointer (some ⟨o.bm, 0, none⟩)) := ha.ft.f.cell 6
     obtain ⟨cv, hcv⟩ : ∃ x, s1.cn b = x := ⟨_, rfl⟩
     rw [show (s1.how c b 1).cn b = cv from hcv] at hct
     have Hcv := hid hcv
     clear hs ha hcv
     go_wp2_with fail
     refine hct.mono ?_
     rintro e wb ⟨rfl, rfl⟩
     clear hct ka
     by_cases hc0 : cv = 0
     ·have her2 := erase_run Ha.out b hb64
      have hm2 := mloop_end Hd.out Hl1.out (m_erase Hfd.out (by rw [Hpl2.out]; exact hp0) (by rw [Hcv.out]; exact hc0))
      have hfw := (Hw1.out.how b 1).erase b bn (show (s1.how c b 1).cn b ≤ 0 from by have := Hcv.out; show s1.cn b ≤ 0; omega)
      have hhs := (eraseF_has c (s1.how c b 1) b).trans (show (s1.how c b 1).has = has from Hh1.out)
      obtain ⟨R2, hR2⟩ : ∃ x, eraseF c (s1.how c b 1) b = x := ⟨_, rfl⟩
      rw [hR2] at her2 hm2 hfw hhs
      obtain ⟨s2, z2⟩ := R2
      dsimp only at her2 hm2 hfw hhs
      have Hm2 := hid hm2
      have Hfw := hid hfw
      have Hhs := hid hhs
      subst hc0
      clear hm2 hfw hhs hR2
      go_wp2_with fail
      refine her2.mono ?_
      rintro e wc ⟨rfl, hc⟩
      have Hc := hid hc
      clear her2 hc
      by_cases hz0 : z2 = 0
      ·have Hl2 := hid (Hm2.out.1 hz0)
       subst hz0
       go_wp2
       go_roundw
       case rel => exact ⟨i + 1, by omega, by go_num, s2, nw, op, rfl, rfl, by omega, by omega, by omega, Hl2.out, Hfw.out, Hhs.out, Hc.out⟩
       case measure => simp [intOf]; omega
      ·have hzb : (z2 == 0) = false := by rw [beq_eq_false_iff_ne]; exact hz0
       have Hre := hid (Hm2.out.2 hz0)
       have Hzn := hid hz0
       clear hz0
       go_wp2
       go_ret2
       refine HPost.out _ _ (s2, z2) ?_ (fun h => ?_) (fun _ => rfl) Hc.out Hfw.out
       ·rw [HMf.out.1 (by rw [Hre.out]; exact Hzn.out), Hre.out]
       ·exact absurd h Hzn.out
     ·have hcb : (cv == 0) = false := by rw [beq_eq_false_iff_ne]; exact hc0
      have hon := on_run Ha.out (Hw1.out.how b 1).pi b bn (show s1.cn b ≠ 0 by rw [Hcv.out]; exact hc0)
      have k6 : wb.cell? ⟨o.bf, 6, none⟩ = some (.pointer (some ⟨o.bm, 0, none⟩)) := Ha.out.ft.f.cell 6
      obtain ⟨fin, hfin⟩ : ∃ x, innerF (decide ((s1.N.blk b).pages.length < c.np)) (qOf FL) b (s1.on c b) (nw, op) = x := ⟨_, rfl⟩
      have hm2 := m_used (c := c) (q := qOf FL) (op := op) (nw := nw) Hfd.out (show ¬ (s1.N.blk b).pages.length = 0 by rw [Hpl2.out]; exact hp0) (show ¬ s1.cn b = 0 by rw [Hcv.out]; exact hc0)
      rw [hfin] at hm2
      have Hl2 := hid ((mloop_end Hd.out Hl1.out hm2).1 rfl)
      rw [Hpl2.out] at hfin
      have Hfin := hid hfin
      have hom := fun x hx => on_mem (x := x) (Hw1.out.how b 1).pi b hx
      have Hom := hid (show ∀ x ∈ s1.on c b, ∃ a, a < c.M ∧ x = (a : Int) ∧ has.getD a false = true from fun x hx => by
       obtain ⟨a, m1, m2, m3, -⟩ := hom x hx
       exact ⟨a, m1, m2, by rw [← Hh1.out]; exact m3⟩)
      have HMb := hid (show c.M ≤ 65536 from Ha.out.ft.pm.nM.1)
      clear hm2 hfin hom
      obtain ⟨l3, hl3⟩ : ∃ x, s1.on c b = x := ⟨_, rfl⟩
      rw [hl3] at Hfin Hom
      rw [show (s1.how c b 1).on c b = l3 from hl3] at hon
      clear hl3 hc0
      go_wp2_with fail
      refine hon.mono ?_
      rintro e wc ⟨A3, n3, c3, rfl, hz3, hn3, hB3⟩
      have Hc := hid (Ha.out.later hB3)
      have Hz3 := hid hz3
      have Hl3 := hid hz3.len
      have hm3 := hz3.most
      clear hon hz3 hB3 k6 hn3
      obtain ⟨nwR, opR⟩ := fin
      go_wp2
      go_loopw [13, 14, 92] (fun y13 y14 y92 w' => ∃ (k nw2 : Nat) (op2 : Int), k ≤ n3 ∧ y92 = .int .i64 (k : Int) ∧ y13 = .int .u64 (nw2 : Int) ∧ y14 = .int .i64 op2 ∧ -1 ≤ op2 ∧ op2 < 64 ∧ nw2 < 281474976710656 ∧ innerF (decide (pl < c.np)) (qOf FL) b (l3.drop k) (nw2, op2) = (nwR, opR) ∧ Below wc.heap.size wc w') (fun _ _ y92 _ => n3 - (intOf y92).toNat)
      case atStart => exact ⟨0, nw, op, by omega, rfl, rfl, rfl, by omega, by omega, by omega, Hfin.out, Below.refl _ _⟩
      case round =>
       obtain ⟨k, nw2, op2, hk, rfl, rfl, rfl, hp1, hp2, hp3, hin, hBr⟩ := hrel
       have Hin := hid hin
       have hFr := Hc.out.later hBr
       have HFr := hid hFr
       have HBr := hid hBr
       clear hin hBr
       by_cases hkl : k < n3
       ·have hkl3 : k < l3.length := by rw [Hl3.out]; exact hkl
        obtain ⟨a, haM, hae, hah⟩ := Hom.out _ (show l3.getD k 0 ∈ l3 from mem_at l3 k hkl3)
        obtain ⟨y, hy, hyS⟩ := HTl.out a haM hah
        have hMb := HMb.out
        obtain ⟨v0, v1, v2, v3, v5, v6, v7, hlk⟩ := look_q (HMx.out wr _ hFr) (kwf_of (k := (a : Int)) (by omega)) hy
        have hqb : qOf FL a < 281474976710656 := by
         have : qOf FL a = y.2.p.S := by unfold qOf; rw [hy]; rfl
         omega
        obtain ⟨bz3, oz3, hA3, hcz3⟩ := (Hz3.out.below HBr.out).at_ k hkl
        rw [hae] at hcz3
        have Hdr := hid (drop_cons hkl3)
        rw [hae] at Hdr
        obtain ⟨qa, hqa⟩ : ∃ x, qOf FL a = x := ⟨_, rfl⟩
        rw [hqa] at hlk hqb
        have f1 := field_S wr v0 v1 v2 v3 (.int .u64 (qa : Int)) v5 v6 v7
        have f2 := field_Q wr v2 v3 (.int .u64 (qa : Int)) v5 v6 v7
        have hnx := next_run hFr.drew b (show b < s1.N.bs.length by rw [Hw1.out.lb]; exact bn)
        rw [show ((s1.how c b 1).N.blk b).pages.length = pl from Hpl2.out] at hnx
        have h81 : wr.cell? ⟨g8, 1, none⟩ = some (.map (some gp)) := (HB8k.out wr _ hFr).cell 1
        have HS4 : wr.cell? ⟨g4, 1, none⟩ = some (.int .i64 (c.np : Int)) := (HB4k.out wr _ hFr).cell 1
        have Hqa := hid hqa
        subst hA3
        clear hae hy hyS hFr hqa hkl3 haM hah
        by_cases hpn : pl < c.np
        ·have hpn' : (pl : Int) < (c.np : Int) := by omega
         have HT := hid (decide_eq_true hpn)
         go_upto_region 24 with (fail)
         refine wp_region_held_drew (S := (fun w' => w'.cell? ⟨g4, 1, none⟩ = some (.int .i64 (c.np : Int)))) (by kernel_rfl) ?hSnewQaz (fun hHeld => ?restQaz)
         case hSnewQaz => ((try dsimp only); exact HS4)
         refine wpAnyH_take (i := 0) (oi := ?oiQat53x0) (v := ?vQat53x0) ?hoQat53x0 ?h1Qat53x0 ?h2Qat53x0 ?h3Qat53x0 ?hqQat53x0 (Or.inl ⟨?h4Qat53x0, ?hyQat53x0⟩) (by assumption) ?restQat53x0
         case hoQat53x0 => (simp only [List.getElem?_toArray, List.getElem?_cons_zero, List.getElem?_cons_succ]; rfl)
         case h1Qat53x0 => kernel_rfl
         case h2Qat53x0 => kernel_rfl
         case h3Qat53x0 => kernel_rfl
         case h4Qat53x0 => rfl
         case hqQat53x0 => exact fun _ _ _ h => h
         case hyQat53x0 => (intro w hSw; (try dsimp only at hSw); go_simp <;> with_reducible rfl)
         (try simp only [Act.put, List.setIfInBounds_toArray, List.set_cons_zero, List.set_cons_succ])
         refine wpAnyH_take (i := 1) (oi := ?oiQat55x1) (v := ?vQat55x1) ?hoQat55x1 ?h1Qat55x1 ?h2Qat55x1 ?h3Qat55x1 ?hqQat55x1 (Or.inl ⟨?h4Qat55x1, ?hyQat55x1⟩) (by assumption) ?restQat55x1
         case hoQat55x1 => (simp only [List.getElem?_toArray, List.getElem?_cons_zero, List.getElem?_cons_succ]; rfl)
         case h1Qat55x1 => kernel_rfl
         case h2Qat55x1 => kernel_rfl
         case h3Qat55x1 => kernel_rfl
         case h4Qat55x1 => rfl
         case hqQat55x1 => exact fun _ _ _ h => h
         case hyQat55x1 => (intro w hSw; (try dsimp only at hSw); go_simp <;> with_reducible rfl)
         (try simp only [Act.put, List.setIfInBounds_toArray, List.set_cons_zero, List.set_cons_succ])
         refine wpAnyH_take (i := 3) (oi := ?oiQat57x3) (v := ?vQat57x3) ?hoQat57x3 ?h1Qat57x3 ?h2Qat57x3 ?h3Qat57x3 ?hqQat57x3 (Or.inl ⟨?h4Qat57x3, ?hyQat57x3⟩) (by assumption) ?restQat57x3
         case hoQat57x3 => (simp only [List.getElem?_toArray, List.getElem?_cons_zero, List.getElem?_cons_succ]; rfl)
         case h1Qat57x3 => kernel_rfl
         case h2Qat57x3 => kernel_rfl
         case h3Qat57x3 => kernel_rfl
         case h4Qat57x3 => rfl
         case hqQat57x3 => exact fun _ _ _ h => h
         case hyQat57x3 => (intro w hSw; (try dsimp only at hSw); go_simp <;> with_reducible rfl)
         (try simp only [Act.put, List.setIfInBounds_toArray, List.set_cons_zero, List.set_cons_succ])
         refine wpAnyH_take (i := 4) (oi := ?oiQat59x4) (v := ?vQat59x4) ?hoQat59x4 ?h1Qat59x4 ?h2Qat59x4 ?h3Qat59x4 ?hqQat59x4 (Or.inl ⟨?h4Qat59x4, ?hyQat59x4⟩) (by assumption) ?restQat59x4
         case hoQat59x4 => (simp only [List.getElem?_toArray, List.getElem?_cons_zero, List.getElem?_cons_succ]; rfl)
         case h1Qat59x4 => kernel_rfl
         case h2Qat59x4 => kernel_rfl
         case h3Qat59x4 => kernel_rfl
         case h4Qat59x4 => rfl
         case hqQat59x4 => exact fun _ _ _ h => h
         case hyQat59x4 => (intro w hSw; (try dsimp only at hSw); go_simp <;> with_reducible rfl)
         (try simp only [Act.put, List.setIfInBounds_toArray, List.set_cons_zero, List.set_cons_succ])
         refine wpAnyH_ready (rs := [2]) (by kernel_rfl) (by simp) ?_
         refine AllReadyH.cons (o := ?oiQaq60) ?hoQaq60 (fun K hK => ?restQaq60) ?moreQaq60
         case moreQaq60 => exact AllReadyH.nil
         case hoQaq60 => (simp only [List.getElem?_toArray, List.getElem?_cons_zero, List.getElem?_cons_succ]; rfl)
         go_simp
         refine hnx.mono ?_
         rintro e wz ⟨rfl, rfl⟩
         try go_wp2_with fail
         refine hK.out _ _ ?hSnewQahq60 (fun hHeld => ?restQahq60)
         case hSnewQahq60 => ((try dsimp only); exact HS4)
         clear hK K
         (try simp only [Act.put, List.setIfInBounds_toArray, List.set_cons_zero, List.set_cons_succ])
         refine wpAnyH_take (i := 5) (oi := ?oiQat62x5) (v := ?vQat62x5) ?hoQat62x5 ?h1Qat62x5 ?h2Qat62x5 ?h3Qat62x5 ?hqQat62x5 (Or.inl ⟨?h4Qat62x5, ?hyQat62x5⟩) (by assumption) ?restQat62x5
         case hoQat62x5 => (simp only [List.getElem?_toArray, List.getElem?_cons_zero, List.getElem?_cons_succ]; rfl)
         case h1Qat62x5 => kernel_rfl
         case h2Qat62x5 => kernel_rfl
         case h3Qat62x5 => kernel_rfl
         case h4Qat62x5 => rfl
         case hqQat62x5 => exact fun _ _ _ h => h
         case hyQat62x5 => (intro w hSw; (try dsimp only at hSw); go_simp <;> with_reducible rfl)
         (try simp only [Act.put, List.setIfInBounds_toArray, List.set_cons_zero, List.set_cons_succ])
         refine wpAnyH_take (i := 6) (oi := ?oiQat64x6) (v := ?vQat64x6) ?hoQat64x6 ?h1Qat64x6 ?h2Qat64x6 ?h3Qat64x6 ?hqQat64x6 (Or.inl ⟨?h4Qat64x6, ?hyQat64x6⟩) (by assumption) ?restQat64x6
         case hoQat64x6 => (simp only [List.getElem?_toArray, List.getElem?_cons_zero, List.getElem?_cons_succ]; rfl)
         case h1Qat64x6 => kernel_rfl
         case h2Qat64x6 => kernel_rfl
         case h3Qat64x6 => kernel_rfl
         case h4Qat64x6 => rfl
         case hqQat64x6 => exact fun _ _ _ h => h
         case hyQat64x6 => (intro w hSw; (try dsimp only at hSw); go_simp <;> with_reducible rfl)
         (try simp only [Act.put, List.setIfInBounds_toArray, List.set_cons_zero, List.set_cons_succ])
         refine wpAnyH_take (i := 7) (oi := ?oiQat66x7) (v := ?vQat66x7) ?hoQat66x7 ?h1Qat66x7 ?h2Qat66x7 ?h3Qat66x7 ?hqQat66x7 (Or.inl ⟨?h4Qat66x7, ?hyQat66x7⟩) (by assumption) ?restQat66x7
         case hoQat66x7 => (simp only [List.getElem?_toArray, List.getElem?_cons_zero, List.getElem?_cons_succ]; rfl)
         case h1Qat66x7 => kernel_rfl
         case h2Qat66x7 => kernel_rfl
         case h3Qat66x7 => kernel_rfl
         case h4Qat66x7 => rfl
         case hqQat66x7 => exact fun _ _ _ h => h
         case hyQat66x7 => (intro w hSw; (try dsimp only at hSw); go_simp <;> with_reducible rfl)
         (try simp only [Act.put, List.setIfInBounds_toArray, List.set_cons_zero, List.set_cons_succ])
         refine wpAnyH_take (i := 8) (oi := ?oiQat68x8) (v := ?vQat68x8) ?hoQat68x8 ?h1Qat68x8 ?h2Qat68x8 ?h3Qat68x8 ?hqQat68x8 (Or.inl ⟨?h4Qat68x8, ?hyQat68x8⟩) (by assumption) ?restQat68x8
         case hoQat68x8 => (simp only [List.getElem?_toArray, List.getElem?_cons_zero, List.getElem?_cons_succ]; rfl)
         case h1Qat68x8 => kernel_rfl
         case h2Qat68x8 => kernel_rfl
         case h3Qat68x8 => kernel_rfl
         case h4Qat68x8 => rfl
         case hqQat68x8 => exact fun _ _ _ h => h
         case hyQat68x8 => (intro w hSw; (try dsimp only at hSw); go_simp <;> with_reducible rfl)
         (try simp only [Act.put, List.setIfInBounds_toArray, List.set_cons_zero, List.set_cons_succ])
         refine wpAnyH_take (i := 9) (oi := ?oiQat70x9) (v := ?vQat70x9) ?hoQat70x9 ?h1Qat70x9 ?h2Qat70x9 ?h3Qat70x9 ?hqQat70x9 (Or.inl ⟨?h4Qat70x9, ?hyQat70x9⟩) (by assumption) ?restQat70x9
         case hoQat70x9 => (simp only [List.getElem?_toArray, List.getElem?_cons_zero, List.getElem?_cons_succ]; rfl)
         case h1Qat70x9 => kernel_rfl
         case h2Qat70x9 => kernel_rfl
         case h3Qat70x9 => kernel_rfl
         case h4Qat70x9 => rfl
         case hqQat70x9 => exact fun _ _ _ h => h
         case hyQat70x9 => (intro w hSw; (try dsimp only at hSw); go_simp <;> with_reducible rfl)
         (try simp only [Act.put, List.setIfInBounds_toArray, List.set_cons_zero, List.set_cons_succ])
         refine wpAnyH_take (i := 10) (oi := ?oiQat72x10) (v := ?vQat72x10) ?hoQat72x10 ?h1Qat72x10 ?h2Qat72x10 ?h3Qat72x10 ?hqQat72x10 (Or.inl ⟨?h4Qat72x10, ?hyQat72x10⟩) (by assumption) ?restQat72x10
         case hoQat72x10 => (simp only [List.getElem?_toArray, List.getElem?_cons_zero, List.getElem?_cons_succ]; rfl)
         case h1Qat72x10 => kernel_rfl
         case h2Qat72x10 => kernel_rfl
         case h3Qat72x10 => kernel_rfl
         case h4Qat72x10 => rfl
         case hqQat72x10 => exact fun _ _ _ h => h
         case hyQat72x10 => (intro w hSw; (try dsimp only at hSw); go_simp <;> with_reducible rfl)
         (try simp only [Act.put, List.setIfInBounds_toArray, List.set_cons_zero, List.set_cons_succ])
         refine wpAnyH_done (by kernel_rfl) ?_ _
         have HFd := hid HFr.out.drew
         clear hHeld hnx HS4
         by_cases hq : nw2 < qa
         ·have hq' : (nw2 : Int) < (qa : Int) := by omega
          have Hin2 := hid (show innerF (decide (pl < c.np)) (qOf FL) b (l3.drop (k + 1)) (qa, (b : Int)) = (nwR, opR) by
           have := Hin.out
           rw [Hdr.out, inner_yes HT.out (by rw [Int.toNat_natCast, Hqa.out]; exact hq), Int.toNat_natCast, Hqa.out] at this
           exact this)
          clear hq f1 f2 hlk
          go_wp2
          go_roundw
          case rel => exact ⟨k + 1, qa, (b : Int), by omega, by go_num, rfl, rfl, by omega, by omega, by omega, Hin2.out, HBr.out.drew⟩
          case measure => simp [intOf]; omega
         ·have hq' : (qa : Int) ≤ (nw2 : Int) := by omega
          have Hin2 := hid (show innerF (decide (pl < c.np)) (qOf FL) b (l3.drop (k + 1)) (nw2, op2) = (nwR, opR) by
           have := Hin.out
           rw [Hdr.out, inner_no (.inr (by rw [Int.toNat_natCast, Hqa.out]; exact hq))] at this
           exact this)
          clear hq f1 f2 hlk
          go_wp2
          go_roundw
          case rel => exact ⟨k + 1, nw2, op2, by omega, by go_num, rfl, rfl, by omega, by omega, by omega, Hin2.out, HBr.out.drew⟩
          case measure => simp [intOf]; omega
        ·have hpn' : (c.np : Int) ≤ (pl : Int) := by omega
         have HT := hid (show decide (pl < c.np) = false from decide_eq_false hpn)
         have Hin2 := hid (show innerF (decide (pl < c.np)) (qOf FL) b (l3.drop (k + 1)) (nw2, op2) = (nwR, opR) by
          have := Hin.out
          rw [Hdr.out, inner_no (.inl HT.out)] at this
          exact this)
         go_upto_region 24 with (fail)
         refine wp_region_held_drew (S := (fun w' => w'.cell? ⟨g4, 1, none⟩ = some (.int .i64 (c.np : Int)))) (by kernel_rfl) ?hSnewQbz (fun hHeld => ?restQbz)
         case hSnewQbz => ((try dsimp only); exact HS4)
         refine wpAnyH_take (i := 0) (oi := ?oiQbt74x0) (v := ?vQbt74x0) ?hoQbt74x0 ?h1Qbt74x0 ?h2Qbt74x0 ?h3Qbt74x0 ?hqQbt74x0 (Or.inl ⟨?h4Qbt74x0, ?hyQbt74x0⟩) (by assumption) ?restQbt74x0
         case hoQbt74x0 => (simp only [List.getElem?_toArray, List.getElem?_cons_zero, List.getElem?_cons_succ]; rfl)
         case h1Qbt74x0 => kernel_rfl
         case h2Qbt74x0 => kernel_rfl
         case h3Qbt74x0 => kernel_rfl
         case h4Qbt74x0 => rfl
         case hqQbt74x0 => exact fun _ _ _ h => h
         case hyQbt74x0 => (intro w hSw; (try dsimp only at hSw); go_simp <;> with_reducible rfl)
         (try simp only [Act.put, List.setIfInBounds_toArray, List.set_cons_zero, List.set_cons_succ])
         refine wpAnyH_take (i := 1) (oi := ?oiQbt76x1) (v := ?vQbt76x1) ?hoQbt76x1 ?h1Qbt76x1 ?h2Qbt76x1 ?h3Qbt76x1 ?hqQbt76x1 (Or.inl ⟨?h4Qbt76x1, ?hyQbt76x1⟩) (by assumption) ?restQbt76x1
         case hoQbt76x1 => (simp only [List.getElem?_toArray, List.getElem?_cons_zero, List.getElem?_cons_succ]; rfl)
         case h1Qbt76x1 => kernel_rfl
         case h2Qbt76x1 => kernel_rfl
         case h3Qbt76x1 => kernel_rfl
         case h4Qbt76x1 => rfl
         case hqQbt76x1 => exact fun _ _ _ h => h
         case hyQbt76x1 => (intro w hSw; (try dsimp only at hSw); go_simp <;> with_reducible rfl)
         (try simp only [Act.put, List.setIfInBounds_toArray, List.set_cons_zero, List.set_cons_succ])
         refine wpAnyH_take (i := 3) (oi := ?oiQbt78x3) (v := ?vQbt78x3) ?hoQbt78x3 ?h1Qbt78x3 ?h2Qbt78x3 ?h3Qbt78x3 ?hqQbt78x3 (Or.inl ⟨?h4Qbt78x3, ?hyQbt78x3⟩) (by assumption) ?restQbt78x3
         case hoQbt78x3 => (simp only [List.getElem?_toArray, List.getElem?_cons_zero, List.getElem?_cons_succ]; rfl)
         case h1Qbt78x3 => kernel_rfl
         case h2Qbt78x3 => kernel_rfl
         case h3Qbt78x3 => kernel_rfl
         case h4Qbt78x3 => rfl
         case hqQbt78x3 => exact fun _ _ _ h => h
         case hyQbt78x3 => (intro w hSw; (try dsimp only at hSw); go_simp <;> with_reducible rfl)
         (try simp only [Act.put, List.setIfInBounds_toArray, List.set_cons_zero, List.set_cons_succ])
         refine wpAnyH_take (i := 4) (oi := ?oiQbt80x4) (v := ?vQbt80x4) ?hoQbt80x4 ?h1Qbt80x4 ?h2Qbt80x4 ?h3Qbt80x4 ?hqQbt80x4 (Or.inl ⟨?h4Qbt80x4, ?hyQbt80x4⟩) (by assumption) ?restQbt80x4
         case hoQbt80x4 => (simp only [List.getElem?_toArray, List.getElem?_cons_zero, List.getElem?_cons_succ]; rfl)
         case h1Qbt80x4 => kernel_rfl
         case h2Qbt80x4 => kernel_rfl
         case h3Qbt80x4 => kernel_rfl
         case h4Qbt80x4 => rfl
         case hqQbt80x4 => exact fun _ _ _ h => h
         case hyQbt80x4 => (intro w hSw; (try dsimp only at hSw); go_simp <;> with_reducible rfl)
         (try simp only [Act.put, List.setIfInBounds_toArray, List.set_cons_zero, List.set_cons_succ])
         refine wpAnyH_ready (rs := [2]) (by kernel_rfl) (by simp) ?_
         refine AllReadyH.cons (o := ?oiQbq81) ?hoQbq81 (fun K hK => ?restQbq81) ?moreQbq81
         case moreQbq81 => exact AllReadyH.nil
         case hoQbq81 => (simp only [List.getElem?_toArray, List.getElem?_cons_zero, List.getElem?_cons_succ]; rfl)
         go_simp
         refine hnx.mono ?_
         rintro e wz ⟨rfl, rfl⟩
         try go_wp2_with fail
         refine hK.out _ _ ?hSnewQbhq81 (fun hHeld => ?restQbhq81)
         case hSnewQbhq81 => ((try dsimp only); exact HS4)
         clear hK K
         (try simp only [Act.put, List.setIfInBounds_toArray, List.set_cons_zero, List.set_cons_succ])
         refine wpAnyH_take (i := 5) (oi := ?oiQbt83x5) (v := ?vQbt83x5) ?hoQbt83x5 ?h1Qbt83x5 ?h2Qbt83x5 ?h3Qbt83x5 ?hqQbt83x5 (Or.inl ⟨?h4Qbt83x5, ?hyQbt83x5⟩) (by assumption) ?restQbt83x5
         case hoQbt83x5 => (simp only [List.getElem?_toArray, List.getElem?_cons_zero, List.getElem?_cons_succ]; rfl)
         case h1Qbt83x5 => kernel_rfl
         case h2Qbt83x5 => kernel_rfl
         case h3Qbt83x5 => kernel_rfl
         case h4Qbt83x5 => rfl
         case hqQbt83x5 => exact fun _ _ _ h => h
         case hyQbt83x5 => (intro w hSw; (try dsimp only at hSw); go_simp <;> with_reducible rfl)
         (try simp only [Act.put, List.setIfInBounds_toArray, List.set_cons_zero, List.set_cons_succ])
         refine wpAnyH_take (i := 6) (oi := ?oiQbt85x6) (v := ?vQbt85x6) ?hoQbt85x6 ?h1Qbt85x6 ?h2Qbt85x6 ?h3Qbt85x6 ?hqQbt85x6 (Or.inl ⟨?h4Qbt85x6, ?hyQbt85x6⟩) (by assumption) ?restQbt85x6
         case hoQbt85x6 => (simp only [List.getElem?_toArray, List.getElem?_cons_zero, List.getElem?_cons_succ]; rfl)
         case h1Qbt85x6 => kernel_rfl
         case h2Qbt85x6 => kernel_rfl
         case h3Qbt85x6 => kernel_rfl
         case h4Qbt85x6 => rfl
         case hqQbt85x6 => exact fun _ _ _ h => h
         case hyQbt85x6 => (intro w hSw; (try dsimp only at hSw); go_simp <;> with_reducible rfl)
         (try simp only [Act.put, List.setIfInBounds_toArray, List.set_cons_zero, List.set_cons_succ])
         refine wpAnyH_take (i := 7) (oi := ?oiQbt86k7) (v := undef) ?hoQbt86k7 ?h1Qbt86k7 ?h2Qbt86k7 ?h3Qbt86k7 ?hqQbt86k7 (Or.inr ⟨?h4Qbt86k7, rfl⟩) (by assumption) ?restQbt86k7
         case hoQbt86k7 => (simp only [List.getElem?_toArray, List.getElem?_cons_zero, List.getElem?_cons_succ]; rfl)
         case h1Qbt86k7 => kernel_rfl
         case h2Qbt86k7 => kernel_rfl
         case h3Qbt86k7 => kernel_rfl
         case h4Qbt86k7 => rfl
         case hqQbt86k7 => exact fun _ _ _ h => h
         (try simp only [Act.put, List.setIfInBounds_toArray, List.set_cons_zero, List.set_cons_succ])
         refine wpAnyH_take (i := 8) (oi := ?oiQbt87k8) (v := undef) ?hoQbt87k8 ?h1Qbt87k8 ?h2Qbt87k8 ?h3Qbt87k8 ?hqQbt87k8 (Or.inr ⟨?h4Qbt87k8, rfl⟩) (by assumption) ?restQbt87k8
         case hoQbt87k8 => (simp only [List.getElem?_toArray, List.getElem?_cons_zero, List.getElem?_cons_succ]; rfl)
         case h1Qbt87k8 => kernel_rfl
         case h2Qbt87k8 => kernel_rfl
         case h3Qbt87k8 => kernel_rfl
         case h4Qbt87k8 => rfl
         case hqQbt87k8 => exact fun _ _ _ h => h
         (try simp only [Act.put, List.setIfInBounds_toArray, List.set_cons_zero, List.set_cons_succ])
         refine wpAnyH_take (i := 9) (oi := ?oiQbt88k9) (v := undef) ?hoQbt88k9 ?h1Qbt88k9 ?h2Qbt88k9 ?h3Qbt88k9 ?hqQbt88k9 (Or.inr ⟨?h4Qbt88k9, rfl⟩) (by assumption) ?restQbt88k9
         case hoQbt88k9 => (simp only [List.getElem?_toArray, List.getElem?_cons_zero, List.getElem?_cons_succ]; rfl)
         case h1Qbt88k9 => kernel_rfl
         case h2Qbt88k9 => kernel_rfl
         case h3Qbt88k9 => kernel_rfl
         case h4Qbt88k9 => rfl
         case hqQbt88k9 => exact fun _ _ _ h => h
         (try simp only [Act.put, List.setIfInBounds_toArray, List.set_cons_zero, List.set_cons_succ])
         refine wpAnyH_take (i := 10) (oi := ?oiQbt90x10) (v := ?vQbt90x10) ?hoQbt90x10 ?h1Qbt90x10 ?h2Qbt90x10 ?h3Qbt90x10 ?hqQbt90x10 (Or.inl ⟨?h4Qbt90x10, ?hyQbt90x10⟩) (by assumption) ?restQbt90x10
         case hoQbt90x10 => (simp only [List.getElem?_toArray, List.getElem?_cons_zero, List.getElem?_cons_succ]; rfl)
         case h1Qbt90x10 => kernel_rfl
         case h2Qbt90x10 => kernel_rfl
         case h3Qbt90x10 => kernel_rfl
         case h4Qbt90x10 => rfl
         case hqQbt90x10 => exact fun _ _ _ h => h
         case hyQbt90x10 => (intro w hSw; (try dsimp only at hSw); go_simp <;> with_reducible rfl)
         (try simp only [Act.put, List.setIfInBounds_toArray, List.set_cons_zero, List.set_cons_succ])
         refine wpAnyH_done (by kernel_rfl) ?_ _
         have HFd := hid HFr.out.drew
         clear hHeld hnx HS4 f1 f2 hlk
         go_wp2
         go_roundw
         case rel => exact ⟨k + 1, nw2, op2, by omega, by go_num, rfl, rfl, by omega, by omega, by omega, Hin2.out, HBr.out.drew⟩
         case measure => simp [intOf]; omega
       ·obtain rfl : k = n3 := by omega
        have hfe : (nw2, op2) = (nwR, opR) := by
         have := Hin.out
         rw [List.drop_of_length_le (by rw [Hl3.out]; exact Nat.le_refl _)] at this
         rw [← this]
         unfold innerF nwF
         split <;> rfl
        injection hfe with h1 h2
        subst h1
        subst h2
        clear hFr
        go_wp2
        go_roundw
        case rel => exact ⟨i + 1, by omega, by go_num, s1.how c b 1, nw2, op2, rfl, rfl, by omega, by omega, by omega, Hl2.out, Hw1.out.how b 1, Hh1.out, HFr.out⟩
        case measure => simp [intOf]; omega
  ·obtain rfl : i = ul := by omega
   have Hre := hid (show r = ((s1, nw, op), 0) by
    have := hl1
    rw [show c.xs.drop i = [] from List.drop_of_length_le (by show (us c.nb c.bad).length ≤ i; rw [Hue.out]; exact Nat.le_refl _)] at this
    exact this.symm)
   have H1 := hid h1
   have Hw1 := hid hw1
   clear h1 hw1 hl1
   by_cases hop : 0 ≤ op
   ·obtain ⟨ob, rfl⟩ := Int.eq_ofNat_of_zero_le hop
    have hs : Calls Try.prog 40 #[.pointer (some ⟨o.bp, 0, none⟩), .int .i64 (ob : Int), .int .u8 2] wr fun e w' => (∃ r, e = .returned (.int .i64 r)) ∧ FR c o F Qm w7 w7 w' (s1.how c ob 2) := how_run H1.out ob 2 (by omega) (by omega)
    have Hop := hid hop
    clear hop
    go_wp2_with fail
    refine hs.mono ?_
    rintro e w9 ⟨⟨z, rfl⟩, h9⟩
    have H9 := hid h9
    clear hs h9
    go_wp2
    go_ret2
    refine HPost.out _ _ (s1.how c ob 2, 0) ?_ (fun _ => rfl) (fun h => absurd rfl h) H9.out (Hw1.out.how ob 2)
    rw [HMf.out.2.1 (by rw [Hre.out]) (by rw [Hre.out]; exact Hop.out), Hre.out]
    rfl
   ·have hop' : op < 0 := by omega
    have Hop := hid hop
    clear hop
    go_wp2
    go_ret2
    refine HPost.out _ _ (s1, 0) ?_ (fun _ => rfl) (fun h => absurd rfl h) H1.out Hw1.out
    rw [HMf.out.2.2 (by rw [Hre.out]) (by rw [Hre.out]; exact Hop.out), Hre.out]
end
end Go.Proofs.Ytpcbpljdiacbmaa.Ftl
