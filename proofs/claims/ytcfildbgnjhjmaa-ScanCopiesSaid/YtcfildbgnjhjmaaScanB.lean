import Derived.Test.YtcfildbgnjhjmaaScanRun
import Derived.Test.YtcfildbgnjhjmaaPmapAll
import Derived.Lib.SlBytesConst
set_option linter.unusedVariables false
set_option linter.unusedSimpArgs false
namespace Go.Proofs.Ytcfildbgnjhjmaa.Scan
open Go.RowKit Go.Proofs.Ytcfildbgnjhjmaa.Kit Go.Proofs.Ytcfildbgnjhjmaa.Oct Go.Proofs.Ytcfildbgnjhjmaa.Sheet Go.Proofs.Ytcfildbgnjhjmaa.Nand Go.Proofs.Ytcfildbgnjhjmaa.Plan Go.Proofs.Ytcfildbgnjhjmaa.Log Go.Proofs.Ytcfildbgnjhjmaa.Pmap Go.Maps

def zFound : Value := .agg #[.int .i64 0, .int .i64 0, .int .u8 0, .int .u64 0, .int .u64 0, .int .i64 0, .int .i64 0, .slice none 0 0]
section
variable {W : World} {base bm ga gh gc gp np M nb : Nat} {FL : List (Int × Fd)} {spv : Value} {sp : List Int} {at' : List (Int × Int)} {has : List Bool} {cnt : List Int}
theorem AllR.look (h : AllR W base bm ga gh gc gp np M nb FL spv sp at' has cnt) (a : Int) (hk : kwf a) :
    (Instr.lookup 59 (.map (some gp)) (.int .i64 a) false).run Try.prog W = .ok ((pgsF FL a).getD zFound) W := h.pages.look Try.underlying59 (zeroFd W) a hk
theorem AllR.look_ok (h : AllR W base bm ga gh gc gp np M nb FL spv sp at' has cnt) (a : Int) (hk : kwf a) :
    (Instr.lookup 59 (.map (some gp)) (.int .i64 a) true).run Try.prog W = .ok (.tuple #[(pgsF FL a).getD zFound, .bool (pgsF FL a).isSome]) W := h.pages.look_ok Try.underlying59 (zeroFd W) a hk
theorem AllR.plen (h : AllR W base bm ga gh gc gp np M nb FL spv sp at' has cnt) (ty : TypeId) : (Builtin.len_ #[59] ty #[.map (some gp)]).run Try.prog W = .ok (.int .i64 (keysN FL M : Int)) W := h.pages.len Try.underlying59 ty
theorem AllR.later {W' : World} (h : AllR W base bm ga gh gc gp np M nb FL spv sp at' has cnt) (hB : Below W.heap.size W W') : AllR W' base bm ga gh gc gp np M nb FL spv sp at' has cnt :=
  ⟨h.pm.later hB, h.pi, h.pages.later hB, fun y hy => (h.there y hy).later hB, h.tells, own_later h.spo hB⟩
theorem AllR.mlen (h : AllR W base bm ga gh gc gp np M nb FL spv sp at' has cnt) (hM : M ≤ 65536) (W' : World) (hB : Below W.heap.size W W') : Calls Try.prog 35 #[.pointer (some ⟨bm, 0, none⟩)] W' fun e w' => e = .returned (.int .i64 (keysN FL M : Int)) ∧ w' = W' := by
  have := Pmap.len_any bm ga gh gc M nb at' has cnt W' (h.pm.later hB) (fun x hx => by
    obtain ⟨k, hk, e⟩ := List.mem_iff_getElem.1 hx
    have h1 := h.pi.on k (by rw [← h.pi.lc]; exact hk)
    rw [List.getD_eq_getElem?_getD, List.getElem?_eq_getElem hk, Option.getD_some, e] at h1
    have h2 := cnum_le (onP at' has k) M
    omega)
  rw [h.len] at this
  exact this
end

theorem field_S (w : World) (i k K E S a f v : Value) : (Instr.field 67 (.agg #[i, k, K, E, S, a, f, v]) 1).run Try.prog w = .ok (.agg #[K, E, S, a, f, v]) w := by kernel_rfl
theorem field_D (w : World) (K E S a f v : Value) : (Instr.field 55 (.agg #[K, E, S, a, f, v]) 5).run Try.prog w = .ok v w := by kernel_rfl
def pgA : Pg := ⟨1, 0, 7, 1, 0, [120]⟩
theorem pgA_ok : pgA.ok := ⟨by decide, by decide, by decide, by decide, by decide, by decide, by decide, .inl rfl, fun x hx => by rw [List.mem_singleton.1 hx]; decide⟩
theorem us6 : us 6 [] = [2, 3, 4, 5] := by decide +kernel

theorem Pg.ok.len {p : Pg} (h : p.ok) : p.bytes.length = 96 := page_len _ _ _ _ _ _ h.2.2.2.2.2.2.1
theorem Pg.ok.isB {p : Pg} (h : p.ok) : IsB p.bytes := page_isB _ _ _ _ _ h.2.2.2.2.2.2.2.2
theorem lay_pg (p : Pg) (h : p.ok) (F : Int) (hF : F = (p.f : Int) - 1) (A : Option Addr) (n c : Nat) (w : World) (hz : Nums w .u8 A n p.ys) :
    Calls Try.prog 26 #[.agg #[.int .u8 (p.K : Int), .int .u64 (p.E : Int), .int .u64 (p.S : Int), .int .i64 (p.a : Int), .int .i64 F, .slice A n c]] w fun e w' => ∃ A' c', e = .returned (.slice A' 96 c') ∧ Nums w' .u8 A' 96 p.bytes ∧ Below w.heap.size w w' := by
  obtain ⟨h1, h2, h3, h4, h5, h6, h7, h8, h9⟩ := h
  refine (lay_any p.K p.E p.S p.a p.f F A n c p.ys w hz (by omega) (by omega) (by omega) (by omega) (by omega) hF (by have := hz.len; omega)).mono ?_
  rintro e w' ⟨v, rfl, ho, hB⟩
  obtain ⟨A', c', rfl, hc, hz'⟩ := OwnB.reads ho (page_isB _ _ _ _ _ h9)
  have hl : (page p.K p.E p.S p.a p.f p.ys).length = 96 := page_len _ _ _ _ _ _ h7
  rw [hl] at hz' ⊢
  exact ⟨A', c', rfl, hz', hB⟩
/-- All pages of the array are p, or there are none but one. -/
theorem awake_facts {L : Int → List Fd} {N : NA} {M0 : Nat} (hM : (pgA.a : Int) ≤ (M0 : Int)) (hp : ∀ j, (N.blk j).pages = if j = 2 then [pgA.bytes] else []) (hT : Told (M0 : Int) (us 6 []) (fun i => (N.blk i.toNat).pages) L) :
    spoilS (us 6 []) L = (L, []) ∧ seqOf (flatF (us 6 []) L) = 7 ∧ keysN (flatF (us 6 []) L) (M0 + 1) = 1 ∧ ∃ y, newest 1 (flatF (us 6 []) L) = some y ∧ y.2.p = pgA := by
  have hm : ∀ z ∈ flatF (us 6 []) L, z.2.p = pgA := fun z hz => by
    obtain ⟨h1, h2⟩ := flatF_mem.1 hz
    obtain ⟨h3, h4, -⟩ := hT.mem h1 h2
    rw [hp] at h3 h4
    split at h3
    · rw [if_pos (by assumption)] at h4
      have : z.2.k = 0 := by simp at h3; exact h3
      rw [this] at h4
      rw [show ([pgA.bytes] : List (List Int)).getD 0 [] = pgA.bytes from rfl, rdP_yes pgA_ok rfl] at h4
      injection h4 with h4
      exact h4.symm
    · simp at h3
  have h2 : (2 : Int) ∈ us 6 [] := by rw [us6]; simp
  obtain ⟨x, hx, -, hxp⟩ := hT.has h2 (k := 0) (p := pgA) (by rw [hp]; simp) (by rw [hp]; exact rdP_yes pgA_ok rfl) (by decide) hM
  have hz : ((2 : Int), x) ∈ flatF (us 6 []) L := flatF_mem.2 ⟨h2, hx⟩
  have hxa : (((2 : Int), x).2.p.a : Int) = 1 := by show (x.p.a : Int) = 1; rw [hxp]; rfl
  obtain ⟨y, hy, hym, -, -⟩ := newest_has hz hxa
  refine ⟨spoil_no fun i hi => copied_no fun u hu => ?_, seq_eq (fun z hz => by rw [hm z hz]; decide) (.inr ⟨_, hz, by show x.p.S = 7; rw [hxp]; rfl⟩), ?_, y, hy, hm y hym⟩
  · have := hm (i, u) (flatF_mem.2 ⟨hi, hu⟩)
    show u.p.f = 0
    rw [show u.p = pgA from this]
    rfl
  · have : 1 < M0 + 1 := by have : (1 : Int) ≤ (M0 : Int) := hM; omega
    refine Eq.trans (cnum_congr _ _ _ fun a ha => ?_) (cnum_one (M0 + 1) 1 this)
    by_cases e : a = 1
    · subst e
      show (newest 1 _).isSome = _
      rw [hy]; rfl
    · rw [newest_no (fun z hz e' => e (by rw [hm z hz] at e'; have : (1 : Int) = a := e'; omega))]
      simp [e]

set_option maxRecDepth 100000 in
set_option maxHeartbeats 4000000 in
theorem awake_any (w : World) : Calls Try.prog 22 #[] w fun e w' => e = .returned (.bool true) ∧ Below w.heap.size w w' := by
  have hgeo : Calls Try.prog 23 #[.int .u8 1] w fun e w' => ∃ A m c, e = .returned (.agg #[.int .i64 6, .int .i64 2, .int .i64 0, .slice A m c]) ∧ Geo w' 6 2 0 A m c [] ∧ Below w.heap.size w w' := geometry_any 1 (by omega) w
  go_enter Try.func22, Try.ntmps22
  go_wp2_with fail
  refine hgeo.mono ?_
  rintro e w1 ⟨A, m, c, rfl, hg1, hB1⟩
  clear hgeo
  go_upto_region 2 with (fail)
  generalize hw2 : World.alloc w1 _ = w2
  obtain ⟨g1, hg1e⟩ : ∃ g, w1.heap.size = g := ⟨_, rfl⟩
  have hB2 : Below w1.heap.size w1 w2 := by rw [← hw2]; exact (Below.refl _ _).alloc (Nat.le_refl _) _
  have hb1 : Blk w2 g1 #[.int .i64 6, .int .i64 2, .int .i64 0, .slice A m c] 50 := by rw [← hw2, ← hg1e]; exact Blk.new _ _ _
  have hg2 := hg1.later hB2
  have hnew : Calls Try.prog 14 #[.int .i64 6, .int .i64 2, .slice A m c] w2 fun e w' => ∃ b, e = .returned (.tuple #[.pointer (some ⟨b, 0, none⟩), .int .i64 0]) ∧ Run (fun _ => False) w2 w' b (newA 6 2 []) (fun _ => False) w' := newg_run 6 2 A m c [] w2 (by omega) (by omega) hg2.nums (by simp)
  obtain ⟨z0, z1, z2, z3⟩ := geo_four hb1
  rw [hg1e]
  have HB2 := hid (hB1.trans (hB2.mono hB1.size))
  have Hb1 := hid hb1
  have Hg2 := hid hg2
  clear hw2 hg1e hB1 hB2 hb1 hg1 hg2
  go_wp2_with fail
  refine hnew.mono ?_
  rintro e w3 ⟨b, rfl, hR3⟩
  clear hnew z0 z1 z2 z3
  have Hb3 := hid (hR3.below.block g1 (Hb1.out.lt) |>.trans Hb1.out)
  have Hg3 := hid (Hg2.out.later hR3.below)
  have hcv := Lib.run_convert_bytes_const (P := Try.prog) w3 39 5 #[.int .u8 120] 1 1 Try.underlying39 Try.underlying5
  have HR3 := hid hR3
  clear hR3
  go_wp2_with fail
  clear hcv
  generalize hw4 : World.alloc w3 _ = w4
  obtain ⟨g3, hg3⟩ : ∃ g, w3.heap.size = g := ⟨_, rfl⟩
  have hB4 : Below w3.heap.size w3 w4 := by rw [← hw4]; exact (Below.refl _ _).alloc (Nat.le_refl _) _
  have hx4 : Nums w4 .u8 (some ⟨g3, 0, none⟩) 1 [120] := by rw [← hw4, ← hg3]; exact nums_lit (xs := [120]) (heap_alloc_new _ _) rfl (by simp [Lit.wf, IntKind.min, IntKind.max, IntKind.signed, IntKind.bits])
  rw [hg3]
  have hlay : Calls Try.prog 26 #[.agg #[.int .u8 1, .int .u64 0, .int .u64 7, .int .i64 1, .int .i64 (-1), .slice (some ⟨g3, 0, none⟩) 1 1]] w4 fun e w' => ∃ A' c', e = .returned (.slice A' 96 c') ∧ Nums w' .u8 A' 96 pgA.bytes ∧ Below w4.heap.size w4 w' := lay_pg pgA pgA_ok (-1) rfl (some ⟨g3, 0, none⟩) 1 1 w4 hx4
  have HB4 := hid hB4
  clear hw4 hg3 hB4 hx4
  go_wp2_with fail
  refine hlay.mono ?_
  rintro e w5 ⟨A5, c5, rfl, hz5, hB5⟩
  clear hlay
  have hB35 := HB4.out.trans (hB5.mono HB4.out.size)
  have hpr : Calls Try.prog 25 #[.pointer (some ⟨b, 0, none⟩), .int .i64 2, .int .i64 0, .slice A5 96 c5, .int .u64 0] w5 fun e w' => e = .returned (.int .i64 0) ∧ ∃ N', Run (fun _ => False) w2 w' b N' (fun _ => False) w3 ∧ Hale N' 6 2 [] ∧ ∀ j, (N'.blk j).pages = if j = 2 then ((newA 6 2 []).blk 2).pages ++ [pgA.bytes] else ((newA 6 2 []).blk j).pages :=
    program_run (HR3.out.later hB35) (Hale.new 6 2 []) 2 (by omega) (by simp) 0 (by rw [new_empty 6 2 [] 2 (by omega)]; rfl) (by omega) A5 96 c5 pgA.bytes hz5 rfl pgA_ok.isB
  have HB35 := hid hB35
  clear hB35 hB5 HB4 HR3 hz5
  go_wp2_with fail
  refine hpr.mono ?_
  rintro e w6 ⟨rfl, N6, hR6, hG6, hP6⟩
  clear hpr
  have hb6 := Hb1.out.later hR6.below
  obtain ⟨z0, z1, z2, z3⟩ := geo_four hb6
  have hal : Calls Try.prog 27 #[.pointer (some ⟨b, 0, none⟩), .agg #[.int .i64 6, .int .i64 2, .int .i64 0, .slice A m c]] w6 fun e w' => ∃ (L : Int → List Fd) (bm ga gh gc gp n' : Nat) (spv : Value) (at' : List (Int × Int)) (has : List Bool) (cnt : List Int),
      e = .returned (.tuple #[.agg #[.pointer (some ⟨bm, 0, none⟩), .map (some gp), .int .u64 (seqOf (flatF (us 6 []) L) : Int), spv], .int .i64 0]) ∧
      Told ((4 : Nat) : Int) (us 6 []) (fun i => (N6.blk i.toNat).pages) L ∧
      AllR w' w6.heap.size bm ga gh gc gp n' (4 + 1) 6 (flatF (us 6 []) (spoilS (us 6 []) L).1) spv (spoilS (us 6 []) L).2 at' has cnt ∧ Below w6.heap.size w6 w' := all_run hR6 hG6 0 A m c (Hg2.out.later hR6.below) 4 (by decide +kernel)
  have hpp : ∀ j, (N6.blk j).pages = if j = 2 then [pgA.bytes] else [] := fun j => by
    rw [hP6]
    split
    · rw [new_empty 6 2 [] 2 (by omega)]; rfl
    · by_cases h : j < 6
      · exact new_empty 6 2 [] j h
      · unfold NA.blk
        rw [List.getD_eq_getElem?_getD, List.getElem?_eq_none (by rw [newA_len]; omega)]
        rfl
  have Hpp := hid hpp
  have HB6 := hid hR6.below
  clear hpp hP6 hR6 hG6 hb6
  go_wp2_with fail
  refine hal.mono ?_
  rintro e w7 ⟨L, bm, ga, gh, gc, gp, n', spv, at', has, cnt, rfl, hT, hR, hB7⟩
  clear hal z0 z1 z2 z3
  obtain ⟨f1, f2, f3, y, f4, f5⟩ := awake_facts (M0 := 4) (by decide) Hpp.out hT
  rw [f2]
  rw [f1] at hR
  obtain ⟨As, cs, rfl⟩ := own_slice hR.spo
  go_upto_region 6 with (fail)
  obtain ⟨g4, hg4⟩ : ∃ g, w7.heap.size = g := ⟨_, rfl⟩
  generalize hw8 : World.alloc w7 _ = w8
  have hB8 : Below w7.heap.size w7 w8 := by rw [← hw8]; exact (Below.refl _ _).alloc (Nat.le_refl _) _
  have hb4 : Blk w8 g4 #[.pointer (some ⟨bm, 0, none⟩), .map (some gp), .int .u64 7, .slice As 0 cs] 61 := by rw [← hw8, ← hg4]; exact Blk.new _ _ _
  have hR8 := hR.later hB8
  have hll : (Builtin.len_ #[59] 3 #[.map (some gp)]).run Try.prog w8 = .ok (.int .i64 1) w8 := by have := hR8.plen 3; rw [f3] at this; exact this
  have hlk : (Instr.lookup 59 (.map (some gp)) (.int .i64 1) false).run Try.prog w8 = .ok (.agg #[.int .i64 y.1, .int .i64 (y.2.k : Int), .int .u8 1, .int .u64 0, .int .u64 7, .int .i64 1, .int .i64 (-1), .slice y.2.A y.2.n y.2.c]) w8 := by
    have := hR8.look 1 (kwf_of (by omega))
    unfold pgsF at this
    rw [f4] at this
    rw [this]
    show Result.ok (y.2.val y.1) w8 = _
    unfold Fd.val Fd.cells
    rw [f5]
    rfl
  have hcv : (convert 39 9 (.slice y.2.A y.2.n y.2.c)).run Try.prog w8 = .ok (.string (strOfNums [120])) w8 := by
    have h1 := (hR8.there y (newest_spec 1 _ y f4).1).2
    rw [f5] at h1
    exact conv_str h1
  have hst : ((strOfNums [120]).toList == [(120 : UInt8)]) = true := by rw [str_list]; decide
  have hml := hR.mlen (by omega) w8 hB8
  rw [f3] at hml
  have h0 := hb4.cell 0
  have h1 := hb4.cell 1
  have h2 := hb4.cell 2
  rw [hg4]
  have HBe := hid (HB2.out.trans ((HB6.out.trans ((hB7.trans (hB8.mono hB7.size)).mono HB6.out.size)).mono HB2.out.size))
  have hf1 := field_S w8
  have hf2 := field_D w8
  clear hw8 hg4 hB7 hB8 hb4 hR hR8 hT f1 f2 f3 f4 f5
  go_wp2_with fail
  refine hml.mono ?_
  rintro e w9 ⟨rfl, rfl⟩
  go_wp2
  go_ret
  exact ⟨rfl, HBe.out⟩

/-! What the laws share. -/
def capN (n : Nat) : Nat := (cap (gB n : Int) (gP n : Int) (gS n : Int) (gL n)).toNat
theorem geo_more : ∀ n : Fin 256, (2 ≤ (us (gB n.val) (gL n.val)).length ∧ (us (gB n.val) (gL n.val)).length ≤ 7) ∧ cap (gB n.val : Int) (gP n.val : Int) (gS n.val : Int) (gL n.val) = (capN n.val : Int) ∧ 1 ≤ capN n.val ∧ capN n.val ≤ 60 := by decide +kernel
theorem geo_bad : ∀ n : Fin 256, ∀ x ∈ gL n.val, 0 ≤ x ∧ x < (gB n.val : Int) := by decide +kernel
theorem us_get {nb : Nat} {bad : List Int} (k : Nat) (hk : k < (us nb bad).length) : ∃ i : Nat, (us nb bad).getD k 0 = (i : Int) ∧ 2 ≤ i ∧ i < nb ∧ (i : Int) ∉ bad ∧ (i : Int) ∈ us nb bad := by
  have hm : (us nb bad).getD k 0 ∈ us nb bad := by
    rw [List.getD_eq_getElem?_getD, List.getElem?_eq_getElem hk]
    exact List.getElem_mem _
  have hb := us_bd hm
  obtain ⟨i, hi⟩ := Int.eq_ofNat_of_zero_le (show 0 ≤ (us nb bad).getD k 0 by omega)
  have hm' := hm
  rw [hi] at hb hm'
  exact ⟨i, hi, by omega, by omega, ((usb_mem nb bad _).1 hm').2.2, hm'⟩
theorem us_ne {nb : Nat} {bad : List Int} (k l : Nat) (hk : k < (us nb bad).length) (hl : l < (us nb bad).length) (h : k ≠ l) : (us nb bad).getD k 0 ≠ (us nb bad).getD l 0 := by
  rw [List.getD_eq_getElem?_getD, List.getElem?_eq_getElem hk, List.getD_eq_getElem?_getD, List.getElem?_eq_getElem hl]
  intro e
  have e : (us nb bad)[k] = (us nb bad)[l] := e
  have hn := List.pairwise_iff_getElem.1 (us_nodup nb bad)
  rcases Nat.lt_or_gt_of_ne h with hlt | hlt
  · exact hn k l hk hl hlt e
  · exact hn l k hl hk hlt e.symm
theorem rus_any {w : World} {nb np : Nat} {S : Int} {A : Option Addr} {n c : Nat} {bad : List Int} (h : Geo w nb np S A n c bad) :
    Calls Try.prog 24 #[.agg #[.int .i64 (nb : Int), .int .i64 (np : Int), .int .i64 S, .slice A n c]] w fun e w' => ∃ U d, e = .returned (.slice U (us nb bad).length d) ∧ Nums w' .i64 U (us nb bad).length (us nb bad) ∧ (∀ a, U = some a → w.heap.size ≤ a.block) ∧ Below w.heap.size w w' := by
  have hb := h.bd
  refine (rusable_any (nb : Int) (np : Int) S A n c bad w h.nums (by omega)).mono ?_
  rintro e w' ⟨v, rfl, ho, hB⟩
  rw [Int.toNat_natCast] at ho
  obtain ⟨U, d, rfl, -, hz⟩ := own_nums ho (us_wf (bad := bad) hb.2.1)
  exact ⟨U, d, rfl, hz, fun a ha => own_low ho a.block (by rw [ha]; rfl), hB⟩
theorem rcap_geo {w : World} {nb np : Nat} {S : Int} {A : Option Addr} {n c : Nat} {bad : List Int} (h : Geo w nb np S A n c bad) :
    Calls Try.prog 28 #[.agg #[.int .i64 (nb : Int), .int .i64 (np : Int), .int .i64 S, .slice A n c]] w fun e w' => e = .returned (.int .i64 (cap nb np S bad)) ∧ Below w.heap.size w w' := by
  have hb := h.bd
  exact rcap_any (nb : Int) (np : Int) S A n c bad w h.nums (by omega) (by omega) (by omega) (by omega) (by omega)
theorem _root_.Go.Proofs.Ytcfildbgnjhjmaa.Nand.Run.nums {F : Nat → Prop} {w w' W : World} {b : Nat} {M : NA} {K : Nat → Prop} {k : IntKind} {A : Option Addr} {n : Nat} {xs : List Int} (h : Run F w w' b M K W) (hz : Nums W k A n xs) (hK : 0 < n → ∀ a, A = some a → K a.block) : Nums w' k A n xs := by
  obtain ⟨F', h1, h2, h3, h4⟩ := h
  refine ⟨hz.len, hz.most, fun j hj => ?_, hz.wf⟩
  obtain ⟨bb, o, e, hc⟩ := hz.cell j hj
  refine ⟨bb, o, e, fun i hi => ?_⟩
  rw [World.cell?_of_block (h4 bb (hK (by omega) _ e)).2.2.2]
  exact hc i hi
theorem _root_.Go.Proofs.Ytcfildbgnjhjmaa.Nand.Run.old {F : Nat → Prop} {w w' W : World} {b g : Nat} {M : NA} {K : Nat → Prop} {cs : Array Value} {T : TypeId} (h : Run F w w' b M K W) (hb : Blk w g cs T) (hg : ¬ F g) : Blk w' g cs T := by
  obtain ⟨F', h1, h2, h3, h4⟩ := h
  exact (h3.block g hb.lt hg).trans hb
theorem page_last (K E S a f : Nat) (ys : List Int) (h : ys.length ≤ 64) : (page K E S a f ys).getD 95 0 = 90 := by
  have hl := page_len K E S a f ys h
  obtain ⟨xs, hx⟩ : ∃ xs, page K E S a f ys = xs ++ [90] := ⟨_, rfl⟩
  rw [hx] at hl ⊢
  rw [List.length_append, List.length_singleton] at hl
  rw [List.getD_eq_getElem?_getD, List.getElem?_append_right (by omega), show 95 - xs.length = 0 by omega]
  rfl
theorem rdP_last {q : List Int} (h : q.getD 95 0 ≠ 90) : rdP q = none := rdP_no (by
  rintro ⟨K, E, S, a, f, ys, hf, e⟩
  exact h (by rw [e]; exact page_last K E S a f ys hf.2.2.2.2.2.2.1))
theorem newA_pages (nb np : Nat) (bad : List Int) (j : Nat) : ((newA nb np bad).blk j).pages = [] := by
  by_cases h : j < nb
  · exact new_empty nb np bad j h
  · unfold NA.blk
    rw [List.getD_eq_getElem?_getD, List.getElem?_eq_none (by rw [newA_len]; omega)]
    rfl
theorem _root_.Go.Proofs.Ytcfildbgnjhjmaa.Nand.Run.drew {F : Nat → Prop} {w w' W : World} {b : Nat} {M : NA} {K : Nat → Prop} (h : Run F w w' b M K W) : Run F w w'.drew b M K W := h.later (below_drewN (Below.refl _ _) 1)
theorem next_hale {F : Nat → Prop} {w w1 W : World} {b : Nat} {N : NA} {K : Nat → Prop} (h : Run F w w1 b N K W) {nb np : Nat} {bad : List Int} (hG : Hale N nb np bad) (i : Nat) (hi : i < nb) :
    Calls Try.prog 17 #[.pointer (some ⟨b, 0, none⟩), .int .i64 (i : Int)] w1 fun e w' => e = .returned (.int .i64 ((N.blk i).pages.length : Int)) ∧ w' = w1 := by
  obtain ⟨F', hA⟩ := h.arr
  have := next_any F' b N (i : Int) w1 hA
  rw [show N.inI (i : Int) = true by unfold NA.inI; rw [hG.lb]; simp; omega, if_pos rfl, Int.toNat_natCast] at this
  exact this
end Go.Proofs.Ytcfildbgnjhjmaa.Scan
