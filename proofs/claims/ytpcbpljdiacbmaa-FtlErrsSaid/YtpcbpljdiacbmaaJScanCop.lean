import Derived.Test.YtpcbpljdiacbmaaJScanBlock
set_option linter.unusedVariables false
set_option linter.unusedSimpArgs false
namespace Go.Proofs.Ytpcbpljdiacbmaa.Scan
open Go.RowKit Go.Proofs.Ytpcbpljdiacbmaa.Kit Go.Proofs.Ytpcbpljdiacbmaa.Oct Go.Proofs.Ytpcbpljdiacbmaa.Sheet Go.Proofs.Ytpcbpljdiacbmaa.Nand Go.Proofs.Ytpcbpljdiacbmaa.Plan Go.Proofs.Ytpcbpljdiacbmaa.Log

/-- Is x a copy of o? -/
def copyOf (o x : Pg) : Bool := decide (o.K = x.K ∧ o.a = x.a ∧ o.S < x.S ∧ o.ys = x.ys)
theorem Fd.eight {w : World} {g : Nat} {i : Int} {x : Fd} {T : TypeId} (h : Blk w g (x.cells i).toArray T) :
  w.cell? ⟨g, 0, none⟩ = some (.int .i64 i) ∧ w.cell? ⟨g, 1, none⟩ = some (.int .i64 (x.k : Int)) ∧ w.cell? ⟨g, 2, none⟩ = some (.int .u8 (x.p.K : Int)) ∧ w.cell? ⟨g, 3, none⟩ = some (.int .u64 (x.p.E : Int)) ∧ w.cell? ⟨g, 4, none⟩ = some (.int .u64 (x.p.S : Int)) ∧ w.cell? ⟨g, 5, none⟩ = some (.int .i64 (x.p.a : Int)) ∧ w.cell? ⟨g, 6, none⟩ = some (.int .i64 ((x.p.f : Int) - 1)) ∧ w.cell? ⟨g, 7, none⟩ = some (.slice x.A x.n x.c) :=
 ⟨h.cell 0, h.cell 1, h.cell 2, h.cell 3, h.cell 4, h.cell 5, h.cell 6, h.cell 7⟩

set_option maxRecDepth 100000 in
set_option maxHeartbeats 4000000 in
theorem clos_any (i1 i2 : Int) (o x : Fd) (gf : Nat) (w : World) (ho : o.there w) (hx : x.there w) (hb : Blk w gf (x.cells i2).toArray 89) :
  Calls Try.prog 70 #[o.val i1, .pointer (some ⟨gf, 0, none⟩)] w fun e w' => e = .returned (.bool (copyOf o.p x.p)) ∧ Below w.heap.size w w' := by
 have hov : o.val i1 = .agg #[.int .i64 i1, .int .i64 (o.k : Int), .int .u8 (o.p.K : Int), .int .u64 (o.p.E : Int), .int .u64 (o.p.S : Int), .int .i64 (o.p.a : Int), .int .i64 ((o.p.f : Int) - 1), .slice o.A o.n o.c] := rfl
 rw [hov]
 have hoB : IsB o.p.ys := ho.1.2.2.2.2.2.2.2.2
 have hxB : IsB x.p.ys := hx.1.2.2.2.2.2.2.2.2
 have hcop : copyOf o.p x.p = decide (o.p.K = x.p.K ∧ o.p.a = x.p.a ∧ o.p.S < x.p.S ∧ o.p.ys = x.p.ys) := rfl
 go_enter Try.func70, Try.ntmps70
 go_upto_region 1 with (fail)
 generalize hw2 : World.alloc w _ = w2
 obtain ⟨go, hgo⟩ : ∃ g, w.heap.size = g := ⟨_, rfl⟩
 have hB2 : Below w.heap.size w w2 := by rw [← hw2]; exact (Below.refl _ _).alloc (Nat.le_refl _) _
 have hbo : Blk w2 go (o.cells i1).toArray 89 := by rw [← hw2, ← hgo]; exact Blk.new _ _ _
 have hbx := hb.later hB2
 have hc1 := conv_str (c := o.c) (ho.2.below hB2)
 have hc2 := conv_str (c := x.c) (hx.2.below hB2)
 obtain ⟨-, -, o2, -, o4, o5, -, o7⟩ := Fd.eight hbo
 obtain ⟨-, -, x2, -, x4, x5, -, x7⟩ := Fd.eight hbx
 have hse := str_eq hoB hxB
 rw [hgo]
 have HB2 := hid hB2
 clear hw2 hgo hB2 hbo hbx hov ho hx hb
 generalize o.p.K = oK at *
 generalize o.p.a = oa at *
 generalize o.p.S = oS at *
 generalize o.p.ys = oy at *
 generalize x.p.K = xK at *
 generalize x.p.a = xa at *
 generalize x.p.S = xS at *
 generalize x.p.ys = xy at *
 have Hcop := hid hcop
 clear hcop
 by_cases h1 : oK = xK
 ·by_cases h2 : oa = xa
  ·by_cases h3 : oS < xS
   ·have h1b : ((oK : Int) == (xK : Int)) = true := by rw [beq_iff_eq]; omega
    have h2b : ((oa : Int) == (xa : Int)) = true := by rw [beq_iff_eq]; omega
    have h3b : (oS : Int) < (xS : Int) := by omega
    by_cases h4 : oy = xy
    ·rw [decide_eq_true h4] at hse
     have e := hid (Hcop.out.trans (decide_eq_true ⟨h1, h2, h3, h4⟩))
     clear h1 h2 h3 h4 Hcop
     go_wp2
     go_ret
     exact ⟨by rw [e.out]; rfl, HB2.out⟩
    ·rw [decide_eq_false h4] at hse
     have e := hid (Hcop.out.trans (decide_eq_false (fun h => h4 h.2.2.2)))
     clear h1 h2 h3 h4 Hcop
     go_wp2
     go_ret
     exact ⟨by rw [e.out]; rfl, HB2.out⟩
   ·have e := hid (Hcop.out.trans (decide_eq_false (fun h => h3 h.2.2.1)))
    have h1b : ((oK : Int) == (xK : Int)) = true := by rw [beq_iff_eq]; omega
    have h2b : ((oa : Int) == (xa : Int)) = true := by rw [beq_iff_eq]; omega
    have h3b : (xS : Int) ≤ (oS : Int) := by omega
    clear h1 h2 h3 Hcop hse
    go_wp2
    go_ret
    exact ⟨by rw [e.out]; rfl, HB2.out⟩
  ·have e := hid (Hcop.out.trans (decide_eq_false (fun h => h2 h.2.1)))
   have h1b : ((oK : Int) == (xK : Int)) = true := by rw [beq_iff_eq]; omega
   have h2b : ((oa : Int) == (xa : Int)) = false := by rw [beq_eq_false_iff_ne]; omega
   clear h1 h2 Hcop hse
   go_wp2
   go_ret
   exact ⟨by rw [e.out]; rfl, HB2.out⟩
 ·have e := hid (Hcop.out.trans (decide_eq_false (fun h => h1 h.1)))
  have h1b : ((oK : Int) == (xK : Int)) = false := by rw [beq_eq_false_iff_ne]; omega
  clear h1 Hcop hse
  go_wp2
  go_ret
  exact ⟨by rw [e.out]; rfl, HB2.out⟩

set_option maxRecDepth 100000 in
set_option maxHeartbeats 4000000 in
/-- Is there one of which x is a copy? -/
theorem index_f (base : Nat) (v : Value) (i1 i2 : Int) (l : List Fd) (x : Fd) (gf : Nat) (w : World) (hF : Fnds w base v i1 l) (hll : l.length ≤ 1000) (hx : x.there w) (hb : Blk w gf (x.cells i2).toArray 89) :
  Calls Try.prog 87 #[v, .func (.func 70) #[] #[.pointer (some ⟨gf, 0, none⟩)]] w fun e w' => ∃ r : Int, e = .returned (.int .i64 r) ∧ (0 ≤ r ↔ l.any (fun o => copyOf o.p x.p) = true) ∧ Below w.heap.size w w' := by
 obtain ⟨A, c, rfl, hrd⟩ := hF.read
 obtain ⟨n, hn⟩ : ∃ n, l.length = n := ⟨_, rfl⟩
 rw [hn] at hrd hll ⊢
 have hth : ∀ j, j < n → (l.getD j default).there w := fun j hj => by
  have e : l.getD j default = l[j]'(by omega) := by rw [List.getD_eq_getElem?_getD, List.getElem?_eq_getElem (by omega)]; rfl
  rw [e]
  exact (hF.2 _ (List.getElem_mem _)).1
 have hany : ∀ j, j < n → copyOf (l.getD j default).p x.p = true → l.any (fun o => copyOf o.p x.p) = true := fun j hj h => by
  have e : l.getD j default = l[j]'(by omega) := by rw [List.getD_eq_getElem?_getD, List.getElem?_eq_getElem (by omega)]; rfl
  rw [e] at h
  exact List.any_eq_true.2 ⟨_, List.getElem_mem _, h⟩
 have hnone : (∀ j, j < n → copyOf (l.getD j default).p x.p = false) → l.any (fun o => copyOf o.p x.p) = false := fun h => by
  rw [List.any_eq_false]
  intro o ho
  obtain ⟨j, hj, rfl⟩ := List.getElem_of_mem ho
  have := h j (by omega)
  have e : l.getD j default = l[j]'hj := by rw [List.getD_eq_getElem?_getD, List.getElem?_eq_getElem hj]; rfl
  rw [e] at this
  rw [this]
  simp
 have Hrd := hid hrd
 have Hth := hid hth
 have Hany := hid hany
 have Hnone := hid hnone
 have Hx := hid hx
 have Hb := hid hb
 clear hrd hth hany hnone hx hb hF
 go_enter Try.func87, Try.ntmps87
 go_wp2
 go_loopw [8] (fun t w' => ∃ j : Nat, j ≤ n ∧ t = .int .i64 (j : Int) ∧ (∀ k, k < j → copyOf (l.getD k default).p x.p = false) ∧ Below w.heap.size w w') (fun t _ => n - (intOf t).toNat)
 case atStart => exact ⟨0, by omega, rfl, fun k hk => absurd hk (by omega), Below.refl _ _⟩
 case round =>
  obtain ⟨j, hj, rfl, hno, hB⟩ := hrel
  by_cases hlt : j < n
  ·have hltI : (j : Int) < (n : Int) := by omega
   obtain ⟨g, rfl, hc⟩ := Hrd.out j hlt
   have hcc := fun k u hk => (hB.cell (World.block_lt_of_cell? w _ (hc k u hk))).trans (hc k u hk)
   have hcl := fun (i1 : Int) => clos_any i1 i2 (l.getD j default) x gf wr ((Hth.out j hlt).later hB) (Hx.out.later hB) (Hb.out.later hB)
   have hcl := hcl i1
   have Ha := hid (Hany.out j hlt)
   have Hno := hid hno
   have HB := hid hB
   obtain ⟨o, hod⟩ : ∃ o, l.getD j default = o := ⟨_, rfl⟩
   rw [hod] at hcl Ha hcc
   have Hod := hid hod
   have z0 : wr.cell? ⟨g, j * 8, none⟩ = some (.int .i64 i1) := hcc 0 _ rfl
   have z1 : wr.cell? ⟨g, j * 8 + 1, none⟩ = some (.int .i64 (o.k : Int)) := hcc 1 _ rfl
   have z2 : wr.cell? ⟨g, j * 8 + 2, none⟩ = some (.int .u8 (o.p.K : Int)) := hcc 2 _ rfl
   have z3 : wr.cell? ⟨g, j * 8 + 3, none⟩ = some (.int .u64 (o.p.E : Int)) := hcc 3 _ rfl
   have z4 : wr.cell? ⟨g, j * 8 + 4, none⟩ = some (.int .u64 (o.p.S : Int)) := hcc 4 _ rfl
   have z5 : wr.cell? ⟨g, j * 8 + 5, none⟩ = some (.int .i64 (o.p.a : Int)) := hcc 5 _ rfl
   have z6 : wr.cell? ⟨g, j * 8 + 6, none⟩ = some (.int .i64 ((o.p.f : Int) - 1)) := hcc 6 _ rfl
   have z7 : wr.cell? ⟨g, j * 8 + 7, none⟩ = some (.slice o.A o.n o.c) := hcc 7 _ rfl
   clear hc hcc hno hB hod
   go_wp2_with fail
   refine hcl.mono ?_
   rintro e w2 ⟨rfl, hB2⟩
   clear z0 z1 z2 z3 z4 z5 z6 z7 hcl
   have HB2 := hid (HB.out.trans (hB2.mono HB.out.size))
   clear hB2
   cases hcb : copyOf o.p x.p
   ·have Hcb := hid hcb
    clear hcb
    go_wp2
    go_roundw
    case rel => exact ⟨j + 1, by omega, by go_num, fun k hk => by
     by_cases e : k < j
     ·exact Hno.out k e
     ·obtain rfl : k = j := by omega
      rw [Hod.out]; exact Hcb.out, HB2.out⟩
    case measure => simp [intOf]; omega
   ·have ha := Ha.out hcb
    have Ha' := hid ha
    clear hcb ha
    go_wp2
    go_ret
    exact ⟨_, rfl, ⟨fun _ => Ha'.out, fun _ => by omega⟩, HB2.out⟩
  ·obtain rfl : j = n := by omega
   have hno' := Hnone.out hno
   have Hno' := hid hno'
   have HB := hid hB
   clear hno hno' hB hlt
   go_wp2
   go_ret
   exact ⟨_, rfl, ⟨fun h => absurd h (by decide), fun h => by rw [Hno'.out] at h; cases h⟩, HB.out⟩
theorem contains_f (base : Nat) (v : Value) (i1 i2 : Int) (l : List Fd) (x : Fd) (gf : Nat) (w : World) (hF : Fnds w base v i1 l) (hll : l.length ≤ 1000) (hx : x.there w) (hb : Blk w gf (x.cells i2).toArray 89) :
  Calls Try.prog 69 #[v, .func (.func 70) #[] #[.pointer (some ⟨gf, 0, none⟩)]] w fun e w' => e = .returned (.bool (l.any (fun o => copyOf o.p x.p))) ∧ Below w.heap.size w w' := by
 have hix := index_f base v i1 i2 l x gf w hF hll hx hb
 clear hF hll hx hb
 go_enter Try.func69, Try.ntmps69
 go_wp2_with fail
 refine hix.mono ?_
 rintro e w2 ⟨r, rfl, hr, hB⟩
 clear hix
 by_cases h0 : 0 ≤ r
 ·have e := hid (hr.1 h0)
  clear hr
  go_wp2
  go_ret
  exact ⟨by rw [e.out]; rfl, hB⟩
 ·have e : l.any (fun o => copyOf o.p x.p) = false := by
   cases hh : l.any (fun o => copyOf o.p x.p)
   ·rfl
   ·exact absurd (hr.2 hh) h0
  have e := hid e
  clear hr
  go_wp2
  go_ret
  exact ⟨by rw [e.out, ← decide_eq_false (show ¬ 0 ≤ r by omega)]; rfl, hB⟩

/-- The map of what was found, by blocks. -/
structure By (w : World) (gm n : Nat) (f : Int → Option Value) (s base : Nat) (L : Int → List Fd) : Prop where
 mx : Mx w gm n f s
 at_ : ∀ k, kwf k → Fnds w base ((f k).getD (.slice none 0 0)) k (L k)
 len : ∀ k, (L k).length ≤ 1000
theorem By.later {w w' : World} {gm n s base : Nat} {f : Int → Option Value} {L : Int → List Fd} (h : By w gm n f s base L) (hB : Below w.heap.size w w') : By w' gm n f s base L :=
 ⟨h.mx.later hB, fun k hk => (h.at_ k hk).later hB, h.len⟩
theorem zeroFs (w : World) : (zeroValue 103).run Try.prog w = .ok (.slice none 0 0) w := by kernel_rfl
theorem By.look {w : World} {gm n s base : Nat} {f : Int → Option Value} {L : Int → List Fd} (h : By w gm n f s base L) (k : Int) (hk : kwf k) :
  (Instr.lookup 102 (.map (some gm)) (.int .i64 k) false).run Try.prog w = .ok ((f k).getD (.slice none 0 0)) w := h.mx.look Try.underlying102 (zeroFs w) k hk
/-- Are all pages of block i copies of one block's, which are there? -/
def copiedB (L : Int → List Fd) (i : Int) : Bool := match L i with
 | [] => false
 | x0 :: r => decide (1 ≤ x0.p.f) && (x0 :: r).all (fun x => decide (x.p.f = x0.p.f) && (L ((x0.p.f : Int) - 1)).any (fun o => copyOf o.p x.p))

set_option maxRecDepth 100000 in
set_option maxHeartbeats 8000000 in
theorem copied_any (gm n : Nat) (f : Int → Option Value) (s base : Nat) (L : Int → List Fd) (i : Int) (hi : kwf i) (w : World) (hy : By w gm n f s base L) :
  Calls Try.prog 59 #[.map (some gm), .int .i64 i] w fun e w' => e = .returned (.bool (copiedB L i)) ∧ Below w.heap.size w w' := by
 have hli := hy.look i hi
 have hFi := hy.at_ i hi
 obtain ⟨A, c, hv, hrd⟩ := hFi.read
 have hcb : copiedB L i = match L i with
  | [] => false
  | x0 :: r => decide (1 ≤ x0.p.f) && (x0 :: r).all (fun x => decide (x.p.f = x0.p.f) && (L ((x0.p.f : Int) - 1)).any (fun o => copyOf o.p x.p)) := rfl
 rw [hv] at hli
 have hli' : ∀ W, Below w.heap.size w W → (Instr.lookup 102 (.map (some gm)) (.int .i64 i) false).run Try.prog W = .ok (.slice A (L i).length c) W := fun W hW => by
  have := (hy.later hW).look i hi
  rw [hv] at this
  exact this
 have hth : ∀ x ∈ L i, x.there w := fun x hx => (hFi.2 x hx).1
 have hlen := hy.len i
 have Hy := hid hy
 cases hLi : L i with
 | nil =>
  rw [hLi] at hli hcb
  have hli : (Instr.lookup 102 (.map (some gm)) (.int .i64 i) false).run Try.prog w = .ok (.slice A 0 c) w := hli
  have Hcb := hid hcb
  clear hrd hth hlen hFi hy hv hli' hcb
  go_enter Try.func59, Try.ntmps59
  go_wp2
  go_ret
  exact ⟨by rw [Hcb.out]; rfl, Below.refl _ _⟩
 | cons x0 r =>
  rw [hLi] at hcb
  have hcb : copiedB L i = (decide (1 ≤ x0.p.f) && (L i).all (fun x => decide (x.p.f = x0.p.f) && (L ((x0.p.f : Int) - 1)).any (fun o => copyOf o.p x.p))) := by rw [hLi]; exact hcb
  obtain ⟨m, hm⟩ : ∃ m, (L i).length = m := ⟨_, rfl⟩
  have hm0 : 0 < m := by rw [← hm, hLi]; simp
  have h0 : (L i).getD 0 default = x0 := by rw [hLi]; rfl
  generalize L i = l at *
  rw [hm] at hrd hlen
  simp only [hm] at hli'
  obtain ⟨g, rfl, hc0⟩ := hrd 0 hm0
  rw [h0] at hc0
  have Hrd := hid hrd
  have Hth := hid hth
  have Hcb := hid hcb
  have Hli := hid hli'
  have l0 := hli' w (Below.refl _ _)
  have q0 : w.cell? ⟨g, 6, none⟩ = some (.int .i64 ((x0.p.f : Int) - 1)) := hc0 6 _ rfl
  have hf65 : x0.p.f ≤ 64 := by
   have := hth x0 (by rw [hLi]; exact List.mem_cons_self)
   exact this.1.2.2.2.2.2.1
  have hall : ∀ j, j < m → (l.all (fun x => decide (x.p.f = x0.p.f) && (L ((x0.p.f : Int) - 1)).any (fun o => copyOf o.p x.p)) = true) → (decide ((l.getD j default).p.f = x0.p.f) && (L ((x0.p.f : Int) - 1)).any (fun o => copyOf o.p (l.getD j default).p)) = true := fun j hj h => by
   have e : l.getD j default = l[j]'(by omega) := by rw [List.getD_eq_getElem?_getD, List.getElem?_eq_getElem (by omega)]; rfl
   rw [e]
   exact List.all_eq_true.1 h _ (List.getElem_mem _)
  have hall2 : (∀ j, j < m → (decide ((l.getD j default).p.f = x0.p.f) && (L ((x0.p.f : Int) - 1)).any (fun o => copyOf o.p (l.getD j default).p)) = true) → l.all (fun x => decide (x.p.f = x0.p.f) && (L ((x0.p.f : Int) - 1)).any (fun o => copyOf o.p x.p)) = true := fun h => by
   rw [List.all_eq_true]
   intro x hx
   obtain ⟨j, hj, rfl⟩ := List.getElem_of_mem hx
   have := h j (by omega)
   have e : l.getD j default = l[j]'hj := by rw [List.getD_eq_getElem?_getD, List.getElem?_eq_getElem hj]; rfl
   rw [e] at this
   exact this
  have Hall := hid hall
  have Hall2 := hid hall2
  obtain ⟨fr, hfr⟩ : ∃ fr : Int, (x0.p.f : Int) - 1 = fr := ⟨_, rfl⟩
  rw [hfr] at q0
  have hfrb : -1 ≤ fr ∧ fr ≤ 63 := by omega
  have Hfr := hid hfr
  clear hrd hth hcb hli hli' hc0 hFi hv hall hall2 hfr hLi h0 hy
  go_enter Try.func59, Try.ntmps59
  go_upto_region 4 with (fail)
  have lz := hlen
  go_wp2
  go_loopw [25] (fun t w' => ∃ j : Nat, j ≤ m ∧ t = .int .i64 (j : Int) ∧ (∀ k, k < j → (decide ((l.getD k default).p.f = x0.p.f) && (L ((x0.p.f : Int) - 1)).any (fun o => copyOf o.p (l.getD k default).p)) = true) ∧ (j = 0 ∨ 0 ≤ fr) ∧ Below w.heap.size w w') (fun t _ => m - (intOf t).toNat)
  case atStart => exact ⟨0, by omega, rfl, fun k hk => absurd hk (by omega), .inl rfl, Below.refl _ _⟩
  case round =>
   obtain ⟨j, hj, rfl, hok, hjf, hB⟩ := hrel
   clear l0 q0
   by_cases hlt : j < m
   ·have hltI : (j : Int) < (m : Int) := by omega
    obtain ⟨g', e, hc⟩ := Hrd.out j hlt
    injection e with e
    injection e with e
    subst e
    have hcc := fun k u hk => (hB.cell (World.block_lt_of_cell? w _ (hc k u hk))).trans (hc k u hk)
    have hxt : (l.getD j default).there w := Hth.out _ (by
     have e : l.getD j default = l[j]'(by omega) := by rw [List.getD_eq_getElem?_getD, List.getElem?_eq_getElem (by omega)]; rfl
     rw [e]
     exact List.getElem_mem _)
    obtain ⟨x, hxd⟩ : ∃ x, l.getD j default = x := ⟨_, rfl⟩
    have hallj := Hall.out j hlt
    rw [hxd] at hcc hxt hallj
    have Hallj := hid hallj
    have Hxd := hid hxd
    have Hok := hid hok
    have HB := hid hB
    have z0 : wr.cell? ⟨g, j * 8, none⟩ = some (.int .i64 i) := hcc 0 _ rfl
    have z1 : wr.cell? ⟨g, j * 8 + 1, none⟩ = some (.int .i64 (x.k : Int)) := hcc 1 _ rfl
    have z2 : wr.cell? ⟨g, j * 8 + 2, none⟩ = some (.int .u8 (x.p.K : Int)) := hcc 2 _ rfl
    have z3 : wr.cell? ⟨g, j * 8 + 3, none⟩ = some (.int .u64 (x.p.E : Int)) := hcc 3 _ rfl
    have z4 : wr.cell? ⟨g, j * 8 + 4, none⟩ = some (.int .u64 (x.p.S : Int)) := hcc 4 _ rfl
    have z5 : wr.cell? ⟨g, j * 8 + 5, none⟩ = some (.int .i64 (x.p.a : Int)) := hcc 5 _ rfl
    have z6 : wr.cell? ⟨g, j * 8 + 6, none⟩ = some (.int .i64 ((x.p.f : Int) - 1)) := hcc 6 _ rfl
    have z7 : wr.cell? ⟨g, j * 8 + 7, none⟩ = some (.slice x.A x.n x.c) := hcc 7 _ rfl
    have Hxt := hid hxt
    clear hc hcc hallj hxd hok hB hxt
    go_upto_region 7 with (fail)
    generalize hw2 : World.alloc wr _ = w2
    obtain ⟨gf, hgf⟩ : ∃ g, wr.heap.size = g := ⟨_, rfl⟩
    have hB2 : Below wr.heap.size wr w2 := by rw [← hw2]; exact (Below.refl _ _).alloc (Nat.le_refl _) _
    have hbf : Blk w2 gf (x.cells i).toArray 89 := by rw [← hw2, ← hgf]; exact Blk.new _ _ _
    have hBw := HB.out.trans (hB2.mono HB.out.size)
    have hlk := (Hy.out.later hBw).look fr (kwf_of (by omega))
    have hct := contains_f base _ fr i (L fr) x gf w2 ((Hy.out.later hBw).at_ fr (kwf_of (by omega))) (Hy.out.len fr) (Hxt.out.later hBw) hbf
    generalize (f fr).getD (.slice none 0 0) = vf at *
    obtain ⟨tb, htb⟩ : ∃ tb, (L fr).any (fun o => copyOf o.p x.p) = tb := ⟨_, rfl⟩
    rw [htb] at hct
    have Htb := hid htb
    have Hbf := hid hbf
    have HBw := hid hBw
    rw [hgf]
    clear hw2 hgf hB2 hbf hBw htb z0 z1 z2 z3 z4 z5 z6 z7 HB
    go_wp2_with fail
    refine hct.mono ?_
    rintro e w3 ⟨rfl, hB3⟩
    clear hct hlk
    have hb3 := Hbf.out.later hB3
    have c6 : w3.cell? ⟨gf, 6, none⟩ = some (.int .i64 ((x.p.f : Int) - 1)) := (Fd.eight hb3).2.2.2.2.2.2.1
    have HB3 := hid (HBw.out.trans (hB3.mono HBw.out.size))
    clear hb3 hB3 Hbf HBw
    by_cases h0 : fr < 0
    ·have e : copiedB L i = false := by rw [Hcb.out, decide_eq_false (by have := Hfr.out; omega), Bool.false_and]
     have e := hid e
     clear hjf
     go_wp2
     go_ret
     exact ⟨by rw [e.out]; rfl, HB3.out⟩
    ·by_cases h1 : (x.p.f : Int) - 1 = fr
     ·have hff : x.p.f = x0.p.f := by have := Hfr.out; omega
      cases tb
      ·have e : copiedB L i = false := by
        rw [Hcb.out]
        cases ha : l.all (fun x => decide (x.p.f = x0.p.f) && (L ((x0.p.f : Int) - 1)).any (fun o => copyOf o.p x.p))
        ·rw [Bool.and_false]
        ·have := Hallj.out ha
         rw [Hfr.out, Htb.out, Bool.and_false] at this
         cases this
       have e := hid e
       have h0' : 0 ≤ fr := by omega
       rw [h1] at c6
       clear hjf h0 h1 hff
       go_wp2
       go_ret
       exact ⟨by rw [e.out]; rfl, HB3.out⟩
      ·have e : (decide (x.p.f = x0.p.f) && (L ((x0.p.f : Int) - 1)).any (fun o => copyOf o.p x.p)) = true := by rw [decide_eq_true hff, Hfr.out, Htb.out]; rfl
       have e := hid e
       have h0' : 0 ≤ fr := by omega
       rw [h1] at c6
       clear hjf h0 h1 hff
       go_wp2
       go_roundw
       case rel => exact ⟨j + 1, by omega, by go_num, fun k hk => by
        by_cases ek : k < j
        ·exact Hok.out k ek
        ·obtain rfl : k = j := by omega
         rw [Hxd.out]; exact e.out, .inr h0', HB3.out⟩
       case measure => simp [intOf]; omega
     ·have e : copiedB L i = false := by
       rw [Hcb.out]
       cases ha : l.all (fun x => decide (x.p.f = x0.p.f) && (L ((x0.p.f : Int) - 1)).any (fun o => copyOf o.p x.p))
       ·rw [Bool.and_false]
       ·have := Hallj.out ha
        rw [decide_eq_false (by have := Hfr.out; omega), Bool.false_and] at this
        cases this
      have e := hid e
      have h0' : 0 ≤ fr := by omega
      have h1b : ((x.p.f : Int) - 1 != fr) = true := by rw [bne_iff_ne]; exact h1
      generalize (x.p.f : Int) - 1 = xf at *
      clear hjf h0 h1
      go_wp2
      go_ret
      exact ⟨by rw [e.out]; rfl, HB3.out⟩
   ·obtain rfl : j = m := by omega
    have h0 : 0 ≤ fr := by
     rcases hjf with h | h
     ·omega
     ·exact h
    have e : copiedB L i = true := by rw [Hcb.out, decide_eq_true (by have := Hfr.out; omega), Bool.true_and]; exact Hall2.out hok
    have e := hid e
    have HB := hid hB
    clear hok hB hjf hlt
    go_wp2
    go_ret
    exact ⟨by rw [e.out]; rfl, HB.out⟩
end Go.Proofs.Ytpcbpljdiacbmaa.Scan
