import Derived.Test.YtpcbpljdiacbmaaJKit
set_option linter.unusedVariables false
set_option linter.unusedSimpArgs false
namespace Go.Proofs.Ytpcbpljdiacbmaa.Plan
open Go.RowKit Go.Proofs.Ytpcbpljdiacbmaa.Kit

/-- The blocks from 2 to below i that are not bad. -/
def usb (i : Nat) (bad : List Int) : List Int := ((List.range i).map Int.ofNat).filter fun j => decide (2 ≤ j ∧ j ∉ bad)
theorem usb_succ (i : Nat) (bad : List Int) : usb (i + 1) bad = usb i bad ++ (if 2 ≤ i ∧ (i : Int) ∉ bad then [(i : Int)] else []) := by
 unfold usb
 rw [List.range_succ, List.map_append, List.filter_append]
 congr 1
 have e : (Int.ofNat i : Int) = (i : Int) := rfl
 by_cases h : 2 ≤ i ∧ (i : Int) ∉ bad
 ·have h' : 2 ≤ (i : Int) ∧ (i : Int) ∉ bad := ⟨by omega, h.2⟩
  rw [if_pos h]
  simp [List.filter_cons, e, h'.1, h'.2, h.1]
 ·have h' : ¬ (2 ≤ (i : Int) ∧ (i : Int) ∉ bad) := fun x => h ⟨by omega, x.2⟩
  rw [if_neg h]
  simp only [List.map_cons, List.map_nil, e]
  rw [List.filter_cons, if_neg (by simpa using h')]
  rfl
theorem usb_len (i : Nat) (bad : List Int) : (usb i bad).length ≤ i := by
 unfold usb; refine Nat.le_trans (List.length_filter_le _ _) (by simp)
theorem usb_two (bad : List Int) : usb 2 bad = [] := by
 have h0 := usb_succ 1 bad
 have h1 := usb_succ 0 bad
 have h2 : usb 0 bad = [] := rfl
 rw [h0, h1, h2]; simp
theorem usb_mem (i : Nat) (bad : List Int) (j : Int) : j ∈ usb i bad ↔ 2 ≤ j ∧ j < i ∧ j ∉ bad := by
 unfold usb
 simp only [List.mem_filter, List.mem_map, List.mem_range, decide_eq_true_eq]
 constructor
 ·rintro ⟨⟨k, hk, rfl⟩, h⟩
  exact ⟨h.1, by show ((k : Nat) : Int) < i; omega, h.2⟩
 ·rintro ⟨h1, h2, h3⟩
  exact ⟨⟨j.toNat, by omega, by show ((j.toNat : Nat) : Int) = j; omega⟩, h1, h3⟩

set_option maxHeartbeats 400000 in
theorem index_any (A : Option Addr) (n c : Nat) (xs : List Int) (v : Int) (w : World) (hz : Nums w .i64 A n xs) :
  Calls Try.prog 72 #[.slice A n c, .int .i64 v] w fun e w' => (∃ r : Int, e = .returned (.int .i64 r) ∧ Hid (0 ≤ r ↔ v ∈ xs)) ∧ w' = w := by
 have hn := hz.most
 go_enter Try.func72, Try.ntmps72
 go_wp2
 go_loop [8] (fun i => ∃ k : Nat, k ≤ n ∧ i = .int .i64 k ∧ Hid (v ∉ xs.take k)) (fun i => n - (intOf i).toNat)
 case atStart => exact ⟨0, by omega, rfl, by unfold Hid; simp⟩
 case round =>
  obtain ⟨k, hk, rfl, hno⟩ := hrel
  by_cases hlt : k < n
  ·obtain ⟨bz, oz, rfl, hc⟩ := hz.at_ k hlt
   have hl := hz.len
   have hget : xs.getD k 0 = xs[k] := by rw [List.getD_eq_getElem?_getD, List.getElem?_eq_getElem (by omega)]; rfl
   have hmem := List.getElem_mem (l := xs) (n := k) (by omega)
   rw [← hget] at hmem
   have Htake := hid (List.take_succ_eq_append_getElem (l := xs) (i := k) (by omega))
   rw [← hget] at Htake
   have Hmem := hid hmem
   have Hno := hno
   clear hget hmem hl hz hno
   generalize xs.getD k 0 = x at *
   by_cases hx : v = x
   ·subst hx
    go_wp2
    go_ret
    exact ⟨⟨_, rfl, by unfold Hid; simp [Hmem.out]⟩, rfl⟩
   ·have hxb : (v == x) = false := beq_eq_false_iff_ne.2 hx
    have Hx := hid hx
    clear hx
    go_wp2
    go_round
    case rel =>
     refine ⟨k + 1, by omega, by go_num, ?_⟩
     unfold Hid
     rw [Htake.out]
     simp [Hno.out, Hx.out]
    case measure => simp [intOf]; omega
  ·have hl := hz.len
   have Hl := hid hl
   clear hl
   go_wp2
   go_ret
   refine ⟨⟨_, rfl, ?_⟩, rfl⟩
   have := hno.out
   rw [List.take_of_length_le (by have := Hl.out; omega)] at this
   unfold Hid
   simp [this]

/-- Is it in there? -/
def has (v : Int) (xs : List Int) : Bool := decide (v ∈ xs)

set_option maxHeartbeats 400000 in
theorem contains_any (A : Option Addr) (n c : Nat) (xs : List Int) (v : Int) (w : World) (hz : Nums w .i64 A n xs) :
  Calls Try.prog 62 #[.slice A n c, .int .i64 v] w fun e w' => e = .returned (.bool (has v xs)) ∧ w' = w := by
 go_enter Try.func62, Try.ntmps62
 go_wp2_with fail
 refine (index_any A n c xs v _ hz).mono ?_
 rintro e w1 ⟨⟨r, rfl, hr⟩, rfl⟩
 go_wp2
 go_ret
 refine ⟨?_, rfl⟩
 have := hr.out
 unfold has
 by_cases h : 0 ≤ r
 ·simp [h, this.1 h]
 ·have h2 : v ∉ xs := fun x => h (this.2 x)
  simp [h, h2]

theorem info3 : (Try.prog.info? 3).map (fun i => (i.zero, i.size, i.bytes)) = some (some (.int .i64 0), 1, 8) := by kernel_rfl

set_option maxHeartbeats 400000 in
theorem usable_any (B P S : Int) (A : Option Addr) (n c : Nat) (bad : List Int) (w : World) (hz : Nums w .i64 A n bad) (hB : B ≤ 64) :
  Calls Try.prog 39 #[.agg #[.int .i64 B, .int .i64 P, .int .i64 S, .slice A n c]] w fun e w' =>
   ∃ v, e = .returned v ∧ w'.ownsRow w.heap.size 3 1 v (usb B.toNat bad).length ((usb B.toNat bad).map (Value.int .i64)) ∧ Below w.heap.size w w' := by
 go_enter Try.func39, Try.ntmps39
 go_wp2
 have hb0 := Blk.new w #[.int .i64 B, .int .i64 P, .int .i64 S, .slice A n c] 26
 have hB0 := (Below.refl w.heap.size w).alloc (Nat.le_refl _) (.cells #[.int .i64 B, .int .i64 P, .int .i64 S, .slice A n c] 26)
 go_loopw [3, 4] (fun v i w' => ∃ k : Nat, 2 ≤ k ∧ k ≤ 64 ∧ (k = 2 ∨ (k : Int) ≤ B) ∧ i = .int .i64 k ∧ w'.ownsRow w.heap.size 3 1 v (usb k bad).length ((usb k bad).map (Value.int .i64)) ∧ Blk w' w.heap.size #[.int .i64 B, .int .i64 P, .int .i64 S, .slice A n c] 26 ∧ Below w.heap.size w w') (fun _ i _ => 64 - (intOf i).toNat)
 case atStart =>
  refine ⟨2, by omega, by omega, .inl rfl, rfl, ?_, hb0, hB0⟩
  rw [usb_two]
  exact World.ownsRow_nil _ _ _ _
 case round =>
  obtain ⟨k, hk2, hk, hkB, rfl, hown, hblk, hbel⟩ := hrel
  clear hb0 hB0
  have c0 := hblk.cell 0
  have c3 := hblk.cell 3
  simp at c0 c3
  have hsl := usb_succ k bad
  by_cases hlt : (k : Int) < B
  ·by_cases hbad : (k : Int) ∈ bad
   ·have hh : has (k : Int) bad = true := by simp [has, hbad]
    have hus : usb (k + 1) bad = usb k bad := by rw [hsl, if_neg (by simp [hbad])]; simp
    have Hus := hid hus
    clear hsl hus hkB hbad
    go_wp2_with fail
    refine (contains_any A n c bad _ _ (hz.below hbel)).mono ?_
    rintro e w1 ⟨rfl, rfl⟩
    go_wp2
    go_roundw
    case rel => exact ⟨k + 1, by omega, by omega, .inr (by omega), by go_num, by rw [Hus.out]; exact hown, hblk, hbel⟩
    case measure => simp [intOf]; omega
   ·have hh : has (k : Int) bad = false := by simp [has, hbad]
    have hus : usb (k + 1) bad = usb k bad ++ [(k : Int)] := by rw [hsl, if_pos ⟨hk2, hbad⟩]
    have hll := usb_len k bad
    have Hus := hid hus
    clear hsl hus hkB hbad
    go_wp2_with fail
    refine (contains_any A n c bad _ _ (hz.below hbel)).mono ?_
    rintro e w1 ⟨rfl, rfl⟩
    go_wp2_with (at_builtin; go_loud (refine append_one w.heap.size rfl _ _ 24 3 (.int .i64 0) 8 rfl Try.underlying24 info3 rfl _ _ _ (.int .i64 k) (by rfl) (by rfl) rfl hown hbel.size (by omega) (by omega) ?_); intro v1 w2 hown2 hgr hat)
    have hblk2 := hblk.grown hgr (own_ne hown hblk (by decide))
    have hbel2 := hbel.grown hgr hbel.size (fun k hk => (hown.lt k hk).1)
    go_wp2
    go_roundw
    case rel =>
     refine ⟨k + 1, by omega, by omega, .inr (by omega), by go_num, ?_, hblk2, hbel2⟩
     rw [Hus.out]
     simpa using hown2
    case measure => simp [intOf]; omega
  ·have hkk : usb B.toNat bad = usb k bad := by
    rcases hkB with rfl | hkB
    ·by_cases e : B.toNat = 2
     ·rw [e]
     ·have h1 : B.toNat ≤ 1 := by omega
      rw [usb_two]
      rcases Nat.le_one_iff_eq_zero_or_eq_one.1 h1 with e | e <;> rw [e]
      ·rfl
      ·rw [usb_succ]; simp; rfl
    ·have : B.toNat = k := by omega
     rw [this]
   have Hkk := hid hkk
   clear hkk hkB hsl
   go_wp2
   go_ret
   exact ⟨_, rfl, by rw [Hkk.out]; exact hown, hbel⟩

/-- How many addresses hosts have. -/
def cap (B P S : Int) (bad : List Int) : Int := P * ((usb B.toNat bad).length - S - 1) - 2

set_option maxHeartbeats 400000 in
theorem cap_any (B P S : Int) (A : Option Addr) (n c : Nat) (bad : List Int) (w : World) (hz : Nums w .i64 A n bad) (hB : B ≤ 64) (hP0 : -1000 ≤ P) (hP1 : P ≤ 1000) (hS0 : -1000 ≤ S) (hS1 : S ≤ 1001) :
  Calls Try.prog 68 #[.agg #[.int .i64 B, .int .i64 P, .int .i64 S, .slice A n c]] w fun e w' =>
   e = .returned (.int .i64 (cap B P S bad)) ∧ Below w.heap.size w w' := by
 go_enter Try.func68, Try.ntmps68
 go_wp2
 generalize hw0 : w.alloc (.cells #[.int .i64 B, .int .i64 P, .int .i64 S, .slice A n c] 26) = w0
 have hb0 : Blk w0 w.heap.size #[.int .i64 B, .int .i64 P, .int .i64 S, .slice A n c] 26 := by rw [← hw0]; exact Blk.new _ _ _
 have hB0 : Below w.heap.size w w0 := by rw [← hw0]; exact (Below.refl _ _).alloc (Nat.le_refl _) _
 have hs0 : w0.heap.size = w.heap.size + 1 := by rw [← hw0]; simp
 clear hw0
 have c0 := hb0.cell 0
 have c1 := hb0.cell 1
 have c2 := hb0.cell 2
 have c3 := hb0.cell 3
 simp at c0 c1 c2 c3
 have Hz := hid (hz.below hB0)
 have HB0 := hid hB0
 have Hb0 := hid hb0
 clear hb0 hB0 hz
 go_region_held3 (fun w' => w'.cell? ⟨w.heap.size, 0, none⟩ = some (.int .i64 B) ∧ w'.cell? ⟨w.heap.size, 1, none⟩ = some (.int .i64 P) ∧ w'.cell? ⟨w.heap.size, 2, none⟩ = some (.int .i64 S) ∧ w'.cell? ⟨w.heap.size, 3, none⟩ = some (.slice A n c)) (go_keep) (first | (((with_reducible refine (usable_any B P S A n c bad _ ?hz hB).mono ?_); (case hz => exact Hz.out.drew); rintro e w1 ⟨v, rfl, hown, hbel⟩; have d0 := (hbel.cell (p := ⟨w.heap.size, 0, none⟩) (by simp [hs0])).trans c0; have d1 := (hbel.cell (p := ⟨w.heap.size, 1, none⟩) (by simp [hs0])).trans c1; have d2 := (hbel.cell (p := ⟨w.heap.size, 2, none⟩) (by simp [hs0])).trans c2; have d3 := (hbel.cell (p := ⟨w.heap.size, 3, none⟩) (by simp [hs0])).trans c3; obtain ⟨vA, vc, rfl⟩ := own_slice hown)))
 go_wp2
 go_ret
 have hl := usb_len B.toNat bad
 have hl2 : ((usb B.toNat bad).length : Int) ≤ 64 := by omega
 have hm := mul_bd (a := P) (b := (usb B.toNat bad).length - S - 1) (A := 1000) (B := 1100) ⟨by omega, by omega⟩ ⟨by omega, by omega⟩
 refine ⟨?_, HB0.out.drew.trans (hbel.mono (show w.heap.size ≤ _ by simp [hs0]))⟩
 unfold cap
 rw [IntWalk.i64_in ((usb B.toNat bad).length - S) (by omega), IntWalk.i64_in ((usb B.toNat bad).length - S - 1) (by omega), IntWalk.i64_in (P * _) (by omega), IntWalk.i64_in _ (by omega)]
 rfl

set_option maxHeartbeats 400000 in
theorem meta_any (B P S : Int) (A : Option Addr) (n c : Nat) (bad : List Int) (w : World) (hz : Nums w .i64 A n bad) (hB : B ≤ 64) (hP0 : -1000 ≤ P) (hP1 : P ≤ 1000) (hS0 : -1000 ≤ S) (hS1 : S ≤ 1001) :
  Calls Try.prog 57 #[.agg #[.int .i64 B, .int .i64 P, .int .i64 S, .slice A n c]] w fun e w' =>
   e = .returned (.int .i64 (cap B P S bad)) ∧ Below w.heap.size w w' := by
 go_enter Try.func57, Try.ntmps57
 go_wp2_with fail
 generalize hw0 : w.alloc (.cells #[.int .i64 B, .int .i64 P, .int .i64 S, .slice A n c] 26) = w0
 have hB0 : Below w.heap.size w w0 := by rw [← hw0]; exact (Below.refl _ _).alloc (Nat.le_refl _) _
 have hs0 : w.heap.size ≤ w0.heap.size := hB0.size
 refine (cap_any B P S A n c bad _ (hz.below hB0) hB hP0 hP1 hS0 hS1).mono ?_
 rintro e w1 ⟨rfl, hB1⟩
 clear hw0
 go_wp2
 go_ret
 exact ⟨rfl, hB0.trans (hB1.mono hs0)⟩

set_option maxHeartbeats 400000 in
theorem reserve_any (B P S f : Int) (A : Option Addr) (n c : Nat) (w : World) (hS0 : -1000 ≤ S) (hS1 : S ≤ 1001) (hf0 : -1000 ≤ f) (hf1 : f ≤ 1000) :
  Calls Try.prog 76 #[.agg #[.int .i64 B, .int .i64 P, .int .i64 S, .slice A n c], .int .i64 f] w fun e w' =>
   e = .returned (.int .i64 (1 + S - f)) ∧ Below w.heap.size w w' := by
 go_enter Try.func76, Try.ntmps76
 go_wp2
 go_ret
 exact ⟨rfl, (Below.refl _ _).alloc (Nat.le_refl _) _⟩

def okTo (B : Int) (bad : List Int) (k : Nat) : Prop := ∀ j, j < k → 2 ≤ bad.getD j 0 ∧ bad.getD j 0 < B ∧ bad.getD j 0 ∉ bad.take j
instance (B : Int) (bad : List Int) (k : Nat) : Decidable (okTo B bad k) := by unfold okTo; exact inferInstance
/-- Can an array be made so? -/
def fm (B P S : Int) (bad : List Int) : Bool := decide (4 ≤ B ∧ B ≤ 64 ∧ 2 ≤ P ∧ P ≤ 32 ∧ 0 ≤ S ∧ S ≤ 8 ∧ okTo B bad bad.length ∧ 0 < cap B P S bad)

set_option maxHeartbeats 1000000 in
theorem form_in (B P S : Int) (A : Option Addr) (n c : Nat) (bad : List Int) (w : World) (hz : Nums w .i64 A n bad) (hnc : n ≤ c) (h1 : 4 ≤ B) (h2 : B ≤ 64) (h3 : 2 ≤ P) (h4 : P ≤ 32) (h5 : 0 ≤ S) (h6 : S ≤ 8) :
  Calls Try.prog 53 #[.agg #[.int .i64 B, .int .i64 P, .int .i64 S, .slice A n c]] w fun e w' =>
   e = .returned (.bool (fm B P S bad)) ∧ Below w.heap.size w w' := by
 go_enter Try.func53, Try.ntmps53
 go_wp2
 generalize hw0 : w.alloc (.cells #[.int .i64 B, .int .i64 P, .int .i64 S, .slice A n c] 26) = w0
 have hb0 : Blk w0 w.heap.size #[.int .i64 B, .int .i64 P, .int .i64 S, .slice A n c] 26 := by rw [← hw0]; exact Blk.new _ _ _
 have hB0 : Below w.heap.size w w0 := by rw [← hw0]; exact (Below.refl _ _).alloc (Nat.le_refl _) _
 have hs0 : w.heap.size ≤ w0.heap.size := hB0.size
 clear hw0
 have c0 := hb0.cell 0
 have c3 := hb0.cell 3
 have c4 : w0.cell? ⟨w.heap.size, 0, none⟩ = some (.int .i64 B) := by rw [c0]; rfl
 simp at c0 c3
 have hn := hz.most
 have hl := hz.len
 have Hl := hid hl
 clear hl
 go_loop [3, 4, 36] (fun _ _ i => ∃ k : Nat, k ≤ n ∧ i = .int .i64 k ∧ Hid (okTo B bad k)) (fun _ _ i => n - (intOf i).toNat)
 case atStart => exact ⟨0, by omega, rfl, fun j hj => absurd hj (by omega)⟩
 case round =>
  obtain ⟨k, hk, rfl, hok⟩ := hrel
  by_cases hlt : k < n
  ·obtain ⟨bz, oz, rfl, hc⟩ := (hz.below hB0).at_ k hlt
   have hsub := (hz.below hB0).take k (by omega)
   by_cases hgood : (2 ≤ bad.getD k 0 ∧ bad.getD k 0 < B) ∧ bad.getD k 0 ∉ bad.take k
   ·have hh : has (bad.getD k 0) (bad.take k) = false := decide_eq_false hgood.2
    have hok2 : Hid (okTo B bad (k + 1)) := by
     intro j hj
     rcases Nat.lt_succ_iff_lt_or_eq.1 hj with hj | rfl
     ·exact hok.out j hj
     ·exact ⟨hgood.1.1, hgood.1.2, hgood.2⟩
    obtain ⟨⟨hg1, hg2⟩, -⟩ := hgood
    clear hok
    have Hh := hid hh
    clear hh
    generalize bad.getD k 0 = x at *
    go_wp2_with fail
    refine (contains_any _ k c (bad.take k) x _ hsub).mono ?_
    rintro e w1 ⟨rfl, rfl⟩
    rw [Hh.out]
    go_wp2
    go_round
    case rel => exact ⟨k + 1, by omega, by go_num, hok2⟩
    case measure => simp [intOf]; omega
   ·have hfm : fm B P S bad = false := by
     unfold fm
     rw [decide_eq_false_iff_not]
     rintro ⟨-, -, -, -, -, -, h, -⟩
     have := h k (by rw [Hl.out]; exact hlt)
     exact hgood ⟨⟨this.1, this.2.1⟩, this.2.2⟩
    have Hfm := hid hfm
    clear hfm hok
    by_cases hr : 2 ≤ bad.getD k 0 ∧ bad.getD k 0 < B
    ·have hh : has (bad.getD k 0) (bad.take k) = true := by
      simp only [has, decide_eq_true_eq]
      exact Classical.byContradiction fun h => hgood ⟨hr, h⟩
     have Hh := hid hh
     obtain ⟨hg1, hg2⟩ := hr
     clear hh hgood
     generalize bad.getD k 0 = x at *
     go_wp2_with fail
     refine (contains_any _ k c (bad.take k) x _ hsub).mono ?_
     rintro e w1 ⟨rfl, rfl⟩
     rw [Hh.out]
     go_wp2
     go_ret
     exact ⟨by rw [Hfm.out]; rfl, hB0⟩
    ·have hr' : bad.getD k 0 < 2 ∨ B ≤ bad.getD k 0 := by omega
     clear hgood hr
     generalize bad.getD k 0 = x at *
     rcases hr' with hr | hr
     ·go_wp2
      go_ret
      exact ⟨by rw [Hfm.out]; rfl, hB0⟩
     ·by_cases hr2 : x < 2
      ·go_wp2
       go_ret
       exact ⟨by rw [Hfm.out]; rfl, hB0⟩
      ·go_wp2
       go_ret
       exact ⟨by rw [Hfm.out]; rfl, hB0⟩
  ·have hfm : fm B P S bad = decide (0 < cap B P S bad) := by
    unfold fm
    have hkl : bad.length = k := by have := Hl.out; omega
    rw [hkl]
    by_cases hc : 0 < cap B P S bad
    ·rw [decide_eq_true hc, decide_eq_true_eq]; exact ⟨h1, h2, h3, h4, h5, h6, hok.out, hc⟩
    ·rw [decide_eq_false hc, decide_eq_false_iff_not]; rintro ⟨-, -, -, -, -, -, -, h⟩; exact hc h
   have Hfm := hid hfm
   clear hfm hok
   have hc0 := hb0.cell 0
   have hc1 := hb0.cell 1
   have hc2 := hb0.cell 2
   have hc3 := hb0.cell 3
   simp at hc0 hc1 hc2 hc3
   go_wp2_with fail
   refine (cap_any B P S A n c bad _ (hz.below hB0) h2 (by omega) (by omega) (by omega) (by omega)).mono ?_
   rintro e w1 ⟨rfl, hB1⟩
   go_wp2
   go_ret
   refine ⟨?_, hB0.trans (hB1.mono hs0)⟩
   rw [Hfm.out]; rfl

set_option maxHeartbeats 1000000 in
theorem form_out (B P S : Int) (A : Option Addr) (n c : Nat) (bad : List Int) (w : World) (hout : ¬ (4 ≤ B ∧ B ≤ 64 ∧ 2 ≤ P ∧ P ≤ 32 ∧ 0 ≤ S ∧ S ≤ 8)) :
  Calls Try.prog 53 #[.agg #[.int .i64 B, .int .i64 P, .int .i64 S, .slice A n c]] w fun e w' =>
   e = .returned (.bool (fm B P S bad)) ∧ Below w.heap.size w w' := by
 have hfm : fm B P S bad = false := by
  unfold fm
  rw [decide_eq_false_iff_not]
  rintro ⟨a1, a2, a3, a4, a5, a6, -⟩
  exact hout ⟨a1, a2, a3, a4, a5, a6⟩
 rw [hfm]
 clear hfm
 go_enter Try.func53, Try.ntmps53
 go_wp2
 all_goals
  go_ret
  exact ⟨rfl, (Below.refl _ _).alloc (Nat.le_refl _) _⟩

theorem form_any (B P S : Int) (A : Option Addr) (n c : Nat) (bad : List Int) (w : World) (hz : Nums w .i64 A n bad) (hnc : n ≤ c) :
  Calls Try.prog 53 #[.agg #[.int .i64 B, .int .i64 P, .int .i64 S, .slice A n c]] w fun e w' =>
   e = .returned (.bool (fm B P S bad)) ∧ Below w.heap.size w w' := by
 by_cases h : 4 ≤ B ∧ B ≤ 64 ∧ 2 ≤ P ∧ P ≤ 32 ∧ 0 ≤ S ∧ S ≤ 8
 ·obtain ⟨h1, h2, h3, h4, h5, h6⟩ := h
  exact form_in B P S A n c bad w hz hnc h1 h2 h3 h4 h5 h6
 ·exact form_out B P S A n c bad w h
end Go.Proofs.Ytpcbpljdiacbmaa.Plan

set_option linter.unusedVariables false
set_option linter.unusedSimpArgs false
namespace Go.Proofs.Ytpcbpljdiacbmaa.Plan
open Go.RowKit Go.Proofs.Ytpcbpljdiacbmaa.Kit

theorem has_snoc (v : Int) (xs : List Int) (k : Nat) (hk : k < xs.length) : has v (xs.take (k + 1)) = (has v (xs.take k) || (xs.getD k 0 == v)) := by
 have hget : xs.getD k 0 = xs[k] := by rw [List.getD_eq_getElem?_getD, List.getElem?_eq_getElem hk]; rfl
 rw [List.take_succ_eq_append_getElem hk, hget]
 unfold has
 rw [Bool.eq_iff_iff]
 simp only [List.mem_append, List.mem_singleton, decide_eq_true_eq, Bool.or_eq_true, beq_iff_eq]
 constructor
 ·rintro (h | h)
  ·exact .inl h
  ·exact .inr h.symm
 ·rintro (h | h)
  ·exact .inl h
  ·exact .inr h.symm

set_option maxHeartbeats 1000000 in
theorem rusable_any (B P S : Int) (A : Option Addr) (n c : Nat) (bad : List Int) (w : World) (hz : Nums w .i64 A n bad) (hB : B ≤ 64) :
  Calls Try.prog 27 #[.agg #[.int .i64 B, .int .i64 P, .int .i64 S, .slice A n c]] w fun e w' =>
   ∃ v, e = .returned v ∧ w'.ownsRow w.heap.size 3 1 v (usb B.toNat bad).length ((usb B.toNat bad).map (Value.int .i64)) ∧ Below w.heap.size w w' := by
 go_enter Try.func27, Try.ntmps27
 go_wp2
 have hb0 := Blk.new w #[.int .i64 B, .int .i64 P, .int .i64 S, .slice A n c] 26
 have hB0 := (Below.refl w.heap.size w).alloc (Nat.le_refl _) (.cells #[.int .i64 B, .int .i64 P, .int .i64 S, .slice A n c] 26)
 go_loopw [3, 4, 5, 6] (fun v i _ _ w' => ∃ k : Nat, 2 ≤ k ∧ k ≤ 64 ∧ (k = 2 ∨ (k : Int) ≤ B) ∧ i = .int .i64 k ∧ w'.ownsRow w.heap.size 3 1 v (usb k bad).length ((usb k bad).map (Value.int .i64)) ∧ Blk w' w.heap.size #[.int .i64 B, .int .i64 P, .int .i64 S, .slice A n c] 26 ∧ Below w.heap.size w w') (fun _ i _ _ _ => 64 - (intOf i).toNat)
 case atStart =>
  refine ⟨2, by omega, by omega, .inl rfl, rfl, ?_, hb0, hB0⟩
  rw [usb_two]
  exact World.ownsRow_nil _ _ _ _
 case round =>
  obtain ⟨k, hk2, hk, hkB, rfl, hown, hblk, hbel⟩ := hrel
  clear hb0 hB0
  have c0 := hblk.cell 0
  have c3 := hblk.cell 3
  simp at c0 c3
  have hsl := usb_succ k bad
  by_cases hlt : (k : Int) < B
  ·have hz' := hz.below hbel
   have hn := hz.most
   have Hl := hid hz.len
   obtain ⟨wo, rfl⟩ : ∃ wo : World, wo = wr := ⟨_, rfl⟩
   have Hsl := hid hsl
   have HkB := hid hkB
   clear hsl hkB
   go_wp2
   go_loop [5, 6] (fun b i => ∃ j : Nat, j ≤ n ∧ i = .int .i64 j ∧ b = .bool (has (k : Int) (bad.take j))) (fun _ i => n - (intOf i).toNat)
   case atStart => exact ⟨0, by omega, rfl, rfl⟩
   case round =>
    obtain ⟨j, hj, rfl, rfl⟩ := hrel
    by_cases hjn : j < n
    ·obtain ⟨bz, oz, rfl, hc⟩ := hz'.at_ j hjn
     have Hs := hid (has_snoc (k : Int) bad j (by have := Hl.out; omega))
     generalize bad.getD j 0 = x at *
     go_wp2
     all_goals
      go_round
      case rel => exact ⟨j + 1, by omega, by go_num, by rw [Hs.out]; simp [*]⟩
      case measure => simp [intOf]; omega
    ·have hjl : bad.take j = bad := List.take_of_length_le (by have := Hl.out; omega)
     rw [hjl]
     clear hjl
     by_cases hbad : (k : Int) ∈ bad
     ·have hus : usb (k + 1) bad = usb k bad := by rw [Hsl.out, if_neg (by simp [hbad])]; simp
      have Hus := hid hus
      have hh : has (k : Int) bad = true := decide_eq_true hbad
      rw [hh]
      clear hus hbad hh
      go_wp2
      go_roundw
      case rel => exact ⟨k + 1, by omega, by omega, .inr (by omega), by go_num, by rw [Hus.out]; exact hown, hblk, hbel⟩
      case measure => simp [intOf]; omega
     ·have hus : usb (k + 1) bad = usb k bad ++ [(k : Int)] := by rw [Hsl.out, if_pos ⟨hk2, hbad⟩]
      have hll := usb_len k bad
      have Hus := hid hus
      have hh : has (k : Int) bad = false := decide_eq_false hbad
      rw [hh]
      clear hus hbad hh
      go_wp2_with (at_builtin; refine append_one w.heap.size rfl _ _ 24 3 (.int .i64 0) 8 rfl Try.underlying24 info3 rfl _ _ _ (.int .i64 k) (by rfl) (by rfl) rfl hown hbel.size (by omega) (by omega) ?_; intro v1 w2 hown2 hgr hat)
      have hblk2 := hblk.grown hgr (own_ne hown hblk (by decide))
      have hbel2 := hbel.grown hgr hbel.size (fun k hk => (hown.lt k hk).1)
      go_wp2
      go_roundw
      case rel =>
       refine ⟨k + 1, by omega, by omega, .inr (by omega), by go_num, ?_, hblk2, hbel2⟩
       rw [Hus.out]
       simpa using hown2
      case measure => simp [intOf]; omega
  ·have hkk : usb B.toNat bad = usb k bad := by
    rcases hkB with rfl | hkB
    ·by_cases e : B.toNat = 2
     ·rw [e]
     ·have h1 : B.toNat ≤ 1 := by omega
      rw [usb_two]
      rcases Nat.le_one_iff_eq_zero_or_eq_one.1 h1 with e | e <;> rw [e]
      ·rfl
      ·rw [usb_succ]; simp; rfl
    ·have : B.toNat = k := by omega
     rw [this]
   have Hkk := hid hkk
   clear hkk hkB hsl
   go_wp2
   go_ret
   exact ⟨_, rfl, by rw [Hkk.out]; exact hown, hbel⟩

set_option maxHeartbeats 1000000 in
theorem rcap_any (B P S : Int) (A : Option Addr) (n c : Nat) (bad : List Int) (w : World) (hz : Nums w .i64 A n bad) (hB : B ≤ 64) (hP0 : -1000 ≤ P) (hP1 : P ≤ 1000) (hS0 : -1000 ≤ S) (hS1 : S ≤ 1001) :
  Calls Try.prog 17 #[.agg #[.int .i64 B, .int .i64 P, .int .i64 S, .slice A n c]] w fun e w' =>
   e = .returned (.int .i64 (cap B P S bad)) ∧ Below w.heap.size w w' := by
 go_enter Try.func17, Try.ntmps17
 go_wp2
 generalize hw0 : w.alloc (.cells #[.int .i64 B, .int .i64 P, .int .i64 S, .slice A n c] 26) = w0
 have hb0 : Blk w0 w.heap.size #[.int .i64 B, .int .i64 P, .int .i64 S, .slice A n c] 26 := by rw [← hw0]; exact Blk.new _ _ _
 have hB0 : Below w.heap.size w w0 := by rw [← hw0]; exact (Below.refl _ _).alloc (Nat.le_refl _) _
 have hs0 : w0.heap.size = w.heap.size + 1 := by rw [← hw0]; simp
 clear hw0
 have c0 := hb0.cell 0
 have c1 := hb0.cell 1
 have c2 := hb0.cell 2
 have c3 := hb0.cell 3
 simp at c0 c1 c2 c3
 have Hz := hid (hz.below hB0)
 have HB0 := hid hB0
 have Hb0 := hid hb0
 clear hb0 hB0 hz
 go_region_held3 (fun w' => w'.cell? ⟨w.heap.size, 0, none⟩ = some (.int .i64 B) ∧ w'.cell? ⟨w.heap.size, 1, none⟩ = some (.int .i64 P) ∧ w'.cell? ⟨w.heap.size, 2, none⟩ = some (.int .i64 S) ∧ w'.cell? ⟨w.heap.size, 3, none⟩ = some (.slice A n c)) (go_keep) (first | (((with_reducible refine (rusable_any B P S A n c bad _ ?hz hB).mono ?_); (case hz => exact Hz.out.drew); rintro e w1 ⟨v, rfl, hown, hbel⟩; have d0 := (hbel.cell (p := ⟨w.heap.size, 0, none⟩) (by simp [hs0])).trans c0; have d1 := (hbel.cell (p := ⟨w.heap.size, 1, none⟩) (by simp [hs0])).trans c1; have d2 := (hbel.cell (p := ⟨w.heap.size, 2, none⟩) (by simp [hs0])).trans c2; have d3 := (hbel.cell (p := ⟨w.heap.size, 3, none⟩) (by simp [hs0])).trans c3; obtain ⟨vA, vc, rfl⟩ := own_slice hown)))
 go_wp2
 go_ret
 have hl := usb_len B.toNat bad
 have hl2 : ((usb B.toNat bad).length : Int) ≤ 64 := by omega
 have hm := mul_bd (a := P) (b := (usb B.toNat bad).length) (A := 1000) (B := 100) ⟨by omega, by omega⟩ ⟨by omega, by omega⟩
 have hm2 := mul_bd (a := P) (b := S) (A := 1000) (B := 1100) ⟨by omega, by omega⟩ ⟨by omega, by omega⟩
 refine ⟨?_, HB0.out.drew.trans (hbel.mono (show w.heap.size ≤ _ by simp [hs0]))⟩
 have e : cap B P S bad = P * (usb B.toNat bad).length - P * S - P - 2 := by
  unfold cap
  rw [Int.mul_sub, Int.mul_sub, Int.mul_one]
 rw [e, IntWalk.i64_in (P * (usb B.toNat bad).length) (by omega), IntWalk.i64_in (P * S) (by omega), IntWalk.i64_in (P * _ - P * S) (by omega), IntWalk.i64_in (P * _ - P * S - P) (by omega), IntWalk.i64_in _ (by omega)]
 rfl

theorem fm_cap {B P S : Int} {bad : List Int} (h1 : 4 ≤ B) (h2 : B ≤ 64) (h3 : 2 ≤ P) (h4 : P ≤ 32) (h5 : 0 ≤ S) (h6 : S ≤ 8) (hok : okTo B bad bad.length) : fm B P S bad = decide (0 < cap B P S bad) := by
 unfold fm
 by_cases hc : 0 < cap B P S bad
 ·rw [decide_eq_true hc, decide_eq_true_eq]; exact ⟨h1, h2, h3, h4, h5, h6, hok, hc⟩
 ·rw [decide_eq_false hc, decide_eq_false_iff_not]; rintro ⟨-, -, -, -, -, -, -, h⟩; exact hc h
theorem fm_no {B P S : Int} {bad : List Int} (k : Nat) (hk : k < bad.length) (h : ¬ (2 ≤ bad.getD k 0 ∧ bad.getD k 0 < B ∧ bad.getD k 0 ∉ bad.take k)) : fm B P S bad = false := by
 unfold fm
 rw [decide_eq_false_iff_not]
 rintro ⟨-, -, -, -, -, -, h', -⟩
 exact h (h' k hk)
theorem mem_take_of (bad : List Int) (j k : Nat) (hj : j < k) (hk : k ≤ bad.length) : bad.getD j 0 ∈ bad.take k := by
 have hget : bad.getD j 0 = bad[j] := by rw [List.getD_eq_getElem?_getD, List.getElem?_eq_getElem (by omega)]; rfl
 rw [hget, List.mem_take_iff_getElem]
 exact ⟨j, by omega, rfl⟩
theorem notin_take (bad : List Int) (x : Int) (k : Nat) (hk : k ≤ bad.length) (h : ∀ j, j < k → bad.getD j 0 ≠ x) : x ∉ bad.take k := by
 intro hm
 rw [List.mem_take_iff_getElem] at hm
 obtain ⟨j, hj, e⟩ := hm
 refine h j (by omega) ?_
 rw [List.getD_eq_getElem?_getD, List.getElem?_eq_getElem (by omega)]
 exact e

set_option maxHeartbeats 2000000 in
set_option maxRecDepth 100000 in
theorem rform_in (B P S : Int) (A : Option Addr) (n c : Nat) (bad : List Int) (w : World) (hz : Nums w .i64 A n bad) (h1 : 4 ≤ B) (h2 : B ≤ 64) (h3 : 2 ≤ P) (h4 : P ≤ 32) (h5 : 0 ≤ S) (h6 : S ≤ 8) :
  Calls Try.prog 33 #[.agg #[.int .i64 B, .int .i64 P, .int .i64 S, .slice A n c]] w fun e w' =>
   e = .returned (.bool (fm B P S bad)) ∧ Below w.heap.size w w' := by
 go_enter Try.func33, Try.ntmps33
 go_wp2
 have hb0 := Blk.new w #[.int .i64 B, .int .i64 P, .int .i64 S, .slice A n c] 26
 have hB0 := (Below.refl w.heap.size w).alloc (Nat.le_refl _) (.cells #[.int .i64 B, .int .i64 P, .int .i64 S, .slice A n c] 26)
 have hn := hz.most
 have Hl := hid hz.len
 go_loopw [3, 4] (fun i _ w' => ∃ k : Nat, k ≤ n ∧ i = .int .i64 k ∧ Hid (okTo B bad k) ∧ Blk w' w.heap.size #[.int .i64 B, .int .i64 P, .int .i64 S, .slice A n c] 26 ∧ Below w.heap.size w w') (fun i _ _ => n - (intOf i).toNat)
 case atStart => exact ⟨0, by omega, rfl, fun j hj => absurd hj (by omega), hb0, hB0⟩
 case round =>
  clear hb0 hB0
  obtain ⟨k, hk, rfl, hok, hblk, hbel⟩ := hrel
  by_cases hlt : k < n
  ·obtain ⟨wo, rfl⟩ : ∃ wo : World, wo = wr := ⟨_, rfl⟩
   have hz' := hz.below hbel
   have c3 := hblk.cell 3
   simp at c3
   go_wp2
   go_loopw [4] (fun i w' => ∃ j : Nat, j ≤ k ∧ i = .int .i64 j ∧ Hid (∀ j', j' < j → bad.getD j' 0 ≠ bad.getD k 0) ∧ Blk w' w.heap.size #[.int .i64 B, .int .i64 P, .int .i64 S, .slice A n c] 26 ∧ Below w.heap.size w w') (fun i _ => k - (intOf i).toNat)
   case atStart => exact ⟨0, by omega, rfl, fun j hj => absurd hj (by omega), hblk, hbel⟩
   case round =>
    clear hblk hbel hz' c3
    obtain ⟨j, hj, rfl, hno, hblk, hbel⟩ := hrel
    have hz' := hz.below hbel
    have c0 := hblk.cell 0
    have c1 := hblk.cell 1
    have c2 := hblk.cell 2
    have c3 := hblk.cell 3
    simp at c0 c1 c2 c3
    obtain ⟨bz, oz, rfl, hcc⟩ := hz'.cell k hlt
    have ck := hcc k hlt
    by_cases hjk : j < k
    ·have cj := hcc j (by omega)
     have b1 : (0 : Int) ≤ (j : Int) := by omega
     have b2 : (j : Int) < (n : Int) := by omega
     have b3 : (0 : Int) ≤ (k : Int) := by omega
     have b4 : (k : Int) < (n : Int) := by omega
     have Hz := hid hz'
     clear hcc hz' hz
     by_cases he : bad.getD j 0 = bad.getD k 0
     ·have hfm := fm_no (B := B) (P := P) (S := S) (bad := bad) k (by rw [Hl.out]; exact hlt) (fun h => h.2.2 (by rw [← he]; exact mem_take_of bad j k hjk (by rw [Hl.out]; omega)))
      have Hfm := hid hfm
      have hx : (bad.getD j 0 == bad.getD k 0) = true := beq_iff_eq.2 he
      clear hfm he hno
      generalize bad.getD j 0 = x at *
      generalize bad.getD k 0 = y at *
      go_wp2
      go_quiet (fail)
      go_wp2
      go_ret
      exact ⟨by rw [Hfm.out]; rfl, hbel.drewB _⟩
     ·have hx : (bad.getD j 0 == bad.getD k 0) = false := beq_eq_false_iff_ne.2 he
      have hno2 : Hid (∀ j', j' < j + 1 → bad.getD j' 0 ≠ bad.getD k 0) := by
       intro j' hj'
       rcases Nat.lt_succ_iff_lt_or_eq.1 hj' with h | rfl
       ·exact hno.out j' h
       ·exact he
      clear he hno
      generalize bad.getD j 0 = x at *
      generalize hy : bad.getD k 0 = y at *
      have Hy := hid hy
      clear hy
      go_wp2
      go_quiet (fail)
      go_wp2
      go_roundw
      case rel => exact ⟨j + 1, by omega, by go_num, hno2, hblk.drewN _, hbel.drewB _⟩
      case measure => simp [intOf]; omega
    ·have hjk' : j = k := by omega
     have hno' : bad.getD k 0 ∉ bad.take k := notin_take bad _ k (by rw [Hl.out]; omega) (by rw [← hjk']; rw [hjk']; intro j' hj'; exact hno.out j' (by omega))
     have b3 : (0 : Int) ≤ (k : Int) := by omega
     have b4 : (k : Int) < (n : Int) := by omega
     have hx : bad.getD k 0 < 2 ∨ B ≤ bad.getD k 0 ∨ (2 ≤ bad.getD k 0 ∧ bad.getD k 0 < B) := by omega
     rcases hx with hx | hx | ⟨hx1, hx2⟩
     ·have hfm := fm_no (B := B) (P := P) (S := S) (bad := bad) k (by rw [Hl.out]; exact hlt) (fun h => by omega)
      have Hfm := hid hfm
      clear hfm hno hno' hcc hz' hz hok
      have hd : decide (bad.getD k 0 < 2) = true := decide_eq_true hx
      have hjk2 : ¬ j < k := hjk
      clear hjk' hjk
      generalize bad.getD k 0 = y at *
      go_wp2
      go_quiet (fail)
      go_wp2
      go_ret
      exact ⟨by rw [Hfm.out]; rfl, hbel.drewB _⟩
     ·have hfm := fm_no (B := B) (P := P) (S := S) (bad := bad) k (by rw [Hl.out]; exact hlt) (fun h => by omega)
      have Hfm := hid hfm
      clear hfm hno hno' hcc hz' hz hok
      have hd : decide (bad.getD k 0 < 2) = false := decide_eq_false (by omega)
      have hd2 : decide (B ≤ bad.getD k 0) = true := decide_eq_true hx
      have hjk2 : ¬ j < k := hjk
      clear hjk' hjk
      generalize bad.getD k 0 = y at *
      go_wp2
      go_quiet (fail)
      go_wp2
      go_ret
      exact ⟨by rw [Hfm.out]; rfl, hbel.drewB _⟩
     ·have hok2 : Hid (okTo B bad (k + 1)) := by
       intro j hj
       rcases Nat.lt_succ_iff_lt_or_eq.1 hj with hj | rfl
       ·exact hok.out j hj
       ·exact ⟨hx1, hx2, hno'⟩
      clear hno hno' hcc hz' hz hok
      have hd : decide (bad.getD k 0 < 2) = false := decide_eq_false (by omega)
      have hd2 : decide (B ≤ bad.getD k 0) = false := decide_eq_false (by omega)
      have hjk2 : ¬ j < k := hjk
      clear hjk' hjk
      generalize bad.getD k 0 = y at *
      go_wp2
      go_quiet (fail)
      go_wp2
      go_roundw
      case rel => exact ⟨k + 1, by omega, by go_num, hok2, hblk.drewN _, hbel.drewB _⟩
      case measure => simp [intOf]; omega
  ·have hkl : k = bad.length := by have := Hl.out; omega
   have Hfm := hid (fm_cap (bad := bad) h1 h2 h3 h4 h5 h6 (by rw [← hkl]; exact hok.out))
   clear hok hkl
   have c0 := hblk.cell 0
   have c1 := hblk.cell 1
   have c2 := hblk.cell 2
   have c3 := hblk.cell 3
   simp at c0 c1 c2 c3
   go_wp2_with fail
   refine (rcap_any B P S A n c bad _ (hz.below hbel) h2 (by omega) (by omega) (by omega) (by omega)).mono ?_
   rintro e w1 ⟨rfl, hB1⟩
   go_wp2
   go_ret
   refine ⟨?_, hbel.trans (hB1.mono hbel.size)⟩
   rw [Hfm.out]
   have : (1 ≤ cap B P S bad) ↔ (0 < cap B P S bad) := by omega
   simp [this]

set_option maxHeartbeats 1000000 in
theorem rform_out (B P S : Int) (A : Option Addr) (n c : Nat) (bad : List Int) (w : World) (hout : ¬ (4 ≤ B ∧ B ≤ 64 ∧ 2 ≤ P ∧ P ≤ 32 ∧ 0 ≤ S ∧ S ≤ 8)) :
  Calls Try.prog 33 #[.agg #[.int .i64 B, .int .i64 P, .int .i64 S, .slice A n c]] w fun e w' =>
   e = .returned (.bool (fm B P S bad)) ∧ Below w.heap.size w w' := by
 have hfm : fm B P S bad = false := by
  unfold fm
  rw [decide_eq_false_iff_not]
  rintro ⟨a1, a2, a3, a4, a5, a6, -⟩
  exact hout ⟨a1, a2, a3, a4, a5, a6⟩
 rw [hfm]
 clear hfm
 go_enter Try.func33, Try.ntmps33
 go_wp2
 all_goals
  go_ret
  exact ⟨rfl, (Below.refl _ _).alloc (Nat.le_refl _) _⟩

theorem rform_any (B P S : Int) (A : Option Addr) (n c : Nat) (bad : List Int) (w : World) (hz : Nums w .i64 A n bad) :
  Calls Try.prog 33 #[.agg #[.int .i64 B, .int .i64 P, .int .i64 S, .slice A n c]] w fun e w' =>
   e = .returned (.bool (fm B P S bad)) ∧ Below w.heap.size w w' := by
 by_cases h : 4 ≤ B ∧ B ≤ 64 ∧ 2 ≤ P ∧ P ≤ 32 ∧ 0 ≤ S ∧ S ≤ 8
 ·obtain ⟨h1, h2, h3, h4, h5, h6⟩ := h
  exact rform_in B P S A n c bad w hz h1 h2 h3 h4 h5 h6
 ·exact rform_out B P S A n c bad w h

end Go.Proofs.Ytpcbpljdiacbmaa.Plan

set_option linter.unusedVariables false
set_option linter.unusedSimpArgs false
namespace Go.Proofs.Ytpcbpljdiacbmaa.Plan
open Go.RowKit Go.Proofs.Ytpcbpljdiacbmaa.Kit

theorem usb_nil_len (i : Nat) : (usb i []).length = i - 2 := by
 induction i with
 | zero => rfl
 | succ i ih =>
  rw [usb_succ, List.length_append, ih]
  by_cases h : 2 ≤ i
  ·rw [if_pos ⟨h, by simp⟩]; simp; omega
  ·rw [if_neg (by omega)]; simp; omega

theorem fm_yes {B P S : Int} {bad : List Int} (h : fm B P S bad = true) : 4 ≤ B ∧ B ≤ 64 ∧ 2 ≤ P ∧ P ≤ 32 ∧ 0 ≤ S ∧ S ≤ 8 ∧ okTo B bad bad.length ∧ 0 < cap B P S bad := by
 unfold fm at h; exact of_decide_eq_true h

theorem few {B P S : Int} (hB : 0 ≤ B) (hP : 0 ≤ P) (hS : 0 ≤ S) : fm B P S [] = decide (4 ≤ B ∧ B ≤ 64 ∧ 2 ≤ P ∧ P ≤ 32 ∧ S ≤ 8 ∧ 3 ≤ P * (B - 3 - S)) := by
 have hok : okTo B [] ([] : List Int).length := fun j hj => absurd hj (by simp)
 by_cases h4 : 4 ≤ B
 ·have hc : cap B P S [] = P * (B - 3 - S) - 2 := by
   unfold cap
   rw [usb_nil_len]
   have e : ((B.toNat - 2 : Nat) : Int) - S - 1 = B - 3 - S := by omega
   rw [e]
  unfold fm
  rw [hc]
  have e : (4 ≤ B ∧ B ≤ 64 ∧ 2 ≤ P ∧ P ≤ 32 ∧ 0 ≤ S ∧ S ≤ 8 ∧ okTo B [] ([] : List Int).length ∧ 0 < P * (B - 3 - S) - 2) ↔ (4 ≤ B ∧ B ≤ 64 ∧ 2 ≤ P ∧ P ≤ 32 ∧ S ≤ 8 ∧ 3 ≤ P * (B - 3 - S)) := by
   generalize P * (B - 3 - S) = x
   constructor
   ·rintro ⟨a, b, c, d, e, f, g, h⟩; exact ⟨a, b, c, d, f, by omega⟩
   ·rintro ⟨a, b, c, d, f, h⟩; exact ⟨a, b, c, d, hS, f, hok, by omega⟩
  simp only [e]
 ·unfold fm
  rw [decide_eq_false (by rintro ⟨h, -⟩; exact h4 h), decide_eq_false (by rintro ⟨h, -⟩; exact h4 h)]
end Go.Proofs.Ytpcbpljdiacbmaa.Plan
