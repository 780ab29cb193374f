import Derived.Test.YtlmjngkblmfdmaaPlanRef
import Derived.Test.YtlmjngkblmfdmaaPlanPlain
set_option linter.unusedVariables false
set_option linter.unusedSimpArgs false
namespace Go.Proofs.Ytlmjngkblmfdmaa.Plan
open Go.RowKit Go.Proofs.Ytlmjngkblmfdmaa.Kit

/-- A geometry lies in block g; what was there ahead of the call is as it was. -/
structure Geo (w0 w : World) (g : Nat) (B P S : Int) (A : Option Addr) (n c : Nat) (bad : List Int) : Prop where
  blk : Blk w g #[.int .i64 B, .int .i64 P, .int .i64 S, .slice A n c] 36
  nums : Nums w .i64 A n bad
  bel : Below w0.heap.size w0 w
  base : w0.heap.size ≤ g
theorem Geo.next {w0 w w1 : World} {g : Nat} {B P S : Int} {A : Option Addr} {n c : Nat} {bad : List Int} (h : Geo w0 w g B P S A n c bad) (hb : Below w.heap.size w w1) : Geo w0 w1 g B P S A n c bad :=
  ⟨h.blk.later hb, h.nums.below hb, below_step h.bel h.bel.size hb, h.base⟩
theorem Geo.drew {w0 w : World} {g : Nat} {B P S : Int} {A : Option Addr} {n c : Nat} {bad : List Int} (h : Geo w0 w g B P S A n c bad) : Geo w0 w.drew g B P S A n c bad :=
  ⟨h.blk, h.nums.drew, h.bel.drew, h.base⟩
theorem Geo.cells {w0 w : World} {g : Nat} {B P S : Int} {A : Option Addr} {n c : Nat} {bad : List Int} (h : Geo w0 w g B P S A n c bad) :
    w.cell? ⟨g, 0, none⟩ = some (.int .i64 B) ∧ w.cell? ⟨g, 1, none⟩ = some (.int .i64 P) ∧ w.cell? ⟨g, 2, none⟩ = some (.int .i64 S) ∧ w.cell? ⟨g, 3, none⟩ = some (.slice A n c) :=
  ⟨(h.blk.cell 0).trans rfl, (h.blk.cell 1).trans rfl, (h.blk.cell 2).trans rfl, (h.blk.cell 3).trans rfl⟩
theorem Geo.boxed {w : World} {B P S : Int} {A : Option Addr} {n c : Nat} {bad : List Int} (hz : Nums w .i64 A n bad) : Geo w (w.alloc (.cells #[.int .i64 B, .int .i64 P, .int .i64 S, .slice A n c] 36)) w.heap.size B P S A n c bad :=
  have hB : Below w.heap.size w (w.alloc (.cells #[.int .i64 B, .int .i64 P, .int .i64 S, .slice A n c] 36)) := (Below.refl _ _).alloc (Nat.le_refl _) _
  ⟨Blk.new _ _ _, hz.below hB, hB, Nat.le_refl _⟩

set_option maxHeartbeats 2000000 in
set_option maxRecDepth 100000 in
theorem law_few (b : Int) (hb : 0 ≤ b ∧ b ≤ 255) (p : Int) (hp : 0 ≤ p ∧ p ≤ 255) (s : Int) (hs : 0 ≤ s ∧ s ≤ 255) (w : World) :
    Calls Try.prog 8 #[.int .u8 b, .int .u8 p, .int .u8 s] w fun e w' => e = .returned (.bool true) ∧ Below w.heap.size w w' := by
  obtain ⟨b0, b1⟩ := hb
  obtain ⟨p0, p1⟩ := hp
  obtain ⟨s0, s1⟩ := hs
  have bm0 : 0 ≤ b % 70 := by omega
  have bm1 : b % 70 < 70 := by omega
  have pm0 : 0 ≤ p % 40 := by omega
  have pm1 : p % 40 < 40 := by omega
  have sm0 : 0 ≤ s % 10 := by omega
  have sm1 : s % 10 < 10 := by omega
  have hfew := few (B := b % 70) (P := p % 40) (S := s % 10) bm0 pm0 sm0
  have hm := mul_bd (a := p % 40) (b := b % 70 - 3 - s % 10) (A := 40) (B := 100) ⟨by omega, by omega⟩ ⟨by omega, by omega⟩
  have Hfew := hid hfew
  clear hfew
  go_enter Try.func8, Try.ntmps8
  go_wp2_with fail
  generalize b % 70 = B at *
  generalize p % 40 = P at *
  generalize s % 10 = S at *
  have hg0 := Geo.boxed (w := w) (B := B) (P := P) (S := S) (c := 0) (Nums.none w .i64 none)
  refine (form_any B P S none 0 0 [] _ hg0.nums (by omega)).mono ?_
  rintro e w1 ⟨rfl, hB1⟩
  have hg1 := hg0.next hB1
  clear hg0 hB1
  go_wp2_with fail
  refine (awake_any _).mono ?_
  rintro e w2 ⟨rfl, hB2⟩
  have hg2 := hg1.next hB2
  clear hg1 hB2
  obtain ⟨c0, c1, c2, c3⟩ := hg2.cells
  by_cases hc : 4 ≤ B ∧ B ≤ 64 ∧ 2 ≤ P ∧ P ≤ 32 ∧ S ≤ 8 ∧ 3 ≤ P * (B - 3 - S)
  · have hf := Hfew.out
    rw [decide_eq_true hc] at hf
    rw [hf]
    obtain ⟨d1, d2, d3, d4, d5, d6⟩ := hc
    clear hf
    go_wp2
    all_goals
      go_ret
      exact ⟨by simp <;> omega, hg2.bel⟩
  · have hf := Hfew.out
    rw [decide_eq_false hc] at hf
    rw [hf]
    clear hf
    go_wp2
    all_goals
      go_ret
      exact ⟨by simp <;> omega, hg2.bel⟩

set_option maxHeartbeats 2000000 in
set_option maxRecDepth 100000 in
theorem law_rooms (B P S : Int) (A : Option Addr) (n c : Nat) (bad : List Int) (f : Int) (hf : 0 ≤ f ∧ f ≤ 255) (w : World) (hz : Nums w .i64 A n bad) (hnc : n ≤ c) :
    Calls Try.prog 10 #[.agg #[.int .i64 B, .int .i64 P, .int .i64 S, .slice A n c], .int .u8 f] w fun e w' => e = .returned (.bool true) ∧ Below w.heap.size w w' := by
  obtain ⟨q0, q1⟩ := hf
  go_enter Try.func10, Try.ntmps10
  go_wp2_with fail
  have hg0 := Geo.boxed (w := w) (B := B) (P := P) (S := S) (c := c) hz
  generalize w.alloc (.cells #[.int .i64 B, .int .i64 P, .int .i64 S, .slice A n c] 36) = w1 at *
  have hn := hz.most
  refine (awake_any _).mono ?_
  rintro e w2 ⟨rfl, hB2⟩
  have hg2 := hg0.next hB2
  clear hg0 hB2
  obtain ⟨c0, c1, c2, c3⟩ := hg2.cells
  by_cases hsm : sml B P S n = true
  case neg =>
    have hsm' : sml B P S n = false := by simpa using hsm
    go_wp2_with fail
    refine (small_any B P S A n c _ hn).mono ?_
    rintro e w3 ⟨rfl, hB3⟩
    rw [hsm']
    have hg3 := hg2.next hB3
    go_wp2_with fail
    refine (awake_any _).mono ?_
    rintro e w4 ⟨rfl, hB4⟩
    go_wp2
    go_ret
    exact ⟨rfl, (hg3.next hB4).bel⟩
  go_wp2_with fail
  refine (small_any B P S A n c _ hn).mono ?_
  rintro e w3 ⟨rfl, hB3⟩
  rw [hsm]
  obtain ⟨e1, e2, e3, e4, e5, e6, e7⟩ := sml_yes hsm
  clear hsm c0 c1 c2 c3
  have hg3 := hg2.next hB3
  clear hg2 hB3
  obtain ⟨c0, c1, c2, c3⟩ := hg3.cells
  by_cases hfm : fm B P S bad = true
  case neg =>
    have hfm' : fm B P S bad = false := by simpa using hfm
    have Hfm := hid hfm'
    clear hfm hfm'
    go_wp2_with fail
    refine (form_any B P S A n c bad _ hg3.nums hnc).mono ?_
    rintro e w4 ⟨rfl, hB4⟩
    rw [Hfm.out]
    have hg4 := hg3.next hB4
    go_wp2_with fail
    refine (awake_any _).mono ?_
    rintro e w5 ⟨rfl, hB5⟩
    go_wp2
    go_ret
    exact ⟨rfl, (hg4.next hB5).bel⟩
  have Hfm := hid hfm
  obtain ⟨f1, f2, f3, f4, f5, f6, f7, f8⟩ := fm_yes hfm
  clear hfm
  go_wp2_with fail
  refine (form_any B P S A n c bad _ hg3.nums hnc).mono ?_
  rintro e w4 ⟨rfl, hB4⟩
  rw [Hfm.out]
  clear c0 c1 c2 c3
  have hg4 := hg3.next hB4
  clear hg3 hB4
  obtain ⟨c0, c1, c2, c3⟩ := hg4.cells
  have Hok := hid f7
  clear f7
  have hr := rooms Hfm.out
  have hlen := usb_len B.toNat bad
  have hm0 : 0 ≤ f % (S + 1) := Int.emod_nonneg _ (by omega)
  have hm1 : f % (S + 1) < S + 1 := Int.emod_lt_of_pos _ (by omega)
  have htm : f.tmod (S + 1) = f % (S + 1) := Int.tmod_eq_emod_of_nonneg (by omega)
  have Hr := hid hr
  clear hr
  go_wp2
  generalize f % (S + 1) = m at *
  go_region_held3 (fun w' => w'.cell? ⟨w.heap.size, 0, none⟩ = some (.int .i64 B) ∧ w'.cell? ⟨w.heap.size, 1, none⟩ = some (.int .i64 P) ∧ w'.cell? ⟨w.heap.size, 2, none⟩ = some (.int .i64 S) ∧ w'.cell? ⟨w.heap.size, 3, none⟩ = some (.slice A n c)) (first | exact hg6.cells | exact hg5.cells | exact hg4.drew.cells)
    (first | (((with_reducible refine (reserve_any B P S m A n c _ (by omega) (by omega) (by omega) (by omega)).mono ?_); rintro e w6 ⟨rfl, hbel6⟩; have hg6 := hg5.next hbel6)) | (((with_reducible refine (usable_any B P S A n c bad _ ?hz f2).mono ?_); (case hz => exact hg4.drew.nums); rintro e w5 ⟨v, rfl, hown, hbel⟩; have hg5 := hg4.drew.next hbel; obtain ⟨vA, vc, rfl⟩ := own_slice hown)))
  clear c0 c1 c2 c3
  clear hg4 hg5 hown hbel hbel6
  have hlen2 : ((usb B.toNat bad).length : Int) ≤ 64 := by omega
  obtain ⟨c0, c1, c2, c3⟩ := hg6.cells
  generalize ((usb B.toNat bad).length : Int) = L at *
  have hw : IntKind.i64.wrap (IntKind.i64.wrap (L - m) - (1 + S - m)) = L - S - 1 := by
    obtain ⟨h1, -⟩ := Hr.out
    rw [IntWalk.i64_in (L - m) (by omega), IntWalk.i64_in _ (by omega)]; omega
  rw [hw]
  clear hw
  have hu : L - S - 1 ≤ 64 := by omega
  generalize L - S - 1 = u at *
  obtain ⟨hu1, hu2⟩ := Hr.out
  have hd1 : decide (1 ≤ 1 + S - m) = true := decide_eq_true (by omega)
  have hd2 : decide (1 ≤ u) = true := decide_eq_true hu1
  have hup := mul_bd (a := u) (b := P) (A := 64) (B := 32) ⟨by omega, by omega⟩ ⟨by omega, by omega⟩
  have hd3 : decide (cap B P S bad + 1 < u * P) = true := decide_eq_true hu2
  have hcw : IntKind.i64.wrap (cap B P S bad + 1) = cap B P S bad + 1 := IntWalk.i64_in _ (by omega)
  have huw : IntKind.i64.wrap (u * P) = u * P := IntWalk.i64_in _ (by omega)
  have hs1 : IntKind.i64.wrap (1 + S) = 1 + S := IntWalk.i64_in _ (by omega)
  have hs2 : IntKind.i64.wrap (1 + S - m) = 1 + S - m := IntWalk.i64_in _ (by omega)
  go_wp2
  go_region_held3 (fun w' => w'.cell? ⟨w.heap.size, 0, none⟩ = some (.int .i64 B) ∧ w'.cell? ⟨w.heap.size, 1, none⟩ = some (.int .i64 P) ∧ w'.cell? ⟨w.heap.size, 2, none⟩ = some (.int .i64 S) ∧ w'.cell? ⟨w.heap.size, 3, none⟩ = some (.slice A n c)) (first | exact hg9.cells | exact hg8.cells | exact hg7.cells | exact hg6.drew.cells)
    (first | (((with_reducible refine (cap_any B P S A n c bad _ ?hz f2 (by omega) (by omega) (by omega) (by omega)).mono ?_); (case hz => exact hg8.nums); rintro e w9 ⟨rfl, hbel⟩; have hg9 := hg8.next hbel)) | (((with_reducible refine (reserve_any B P S m A n c _ (by omega) (by omega) (by omega) (by omega)).mono ?_); rintro e w8 ⟨rfl, hbel⟩; have hg8 := hg7.next hbel)) | (((with_reducible refine (reserve_any B P S m A n c _ (by omega) (by omega) (by omega) (by omega)).mono ?_); rintro e w7 ⟨rfl, hbel⟩; have hg7 := hg6.drew.next hbel)))
  go_wp2
  go_ret
  exact ⟨rfl, hg9.bel⟩

set_option maxHeartbeats 4000000 in
set_option maxRecDepth 100000 in
theorem law_grows (B P S : Int) (A : Option Addr) (n c : Nat) (bad : List Int) (w : World) (hz : Nums w .i64 A n bad) (hnc : n ≤ c) :
    Calls Try.prog 7 #[.agg #[.int .i64 B, .int .i64 P, .int .i64 S, .slice A n c]] w fun e w' => e = .returned (.bool true) ∧ Below w.heap.size w w' := by
  go_enter Try.func7, Try.ntmps7
  go_wp2_with fail
  have hg0 := Geo.boxed (w := w) (B := B) (P := P) (S := S) (c := c) hz
  generalize w.alloc (.cells #[.int .i64 B, .int .i64 P, .int .i64 S, .slice A n c] 36) = w1 at *
  have hn := hz.most
  refine (awake_any _).mono ?_
  rintro e w2 ⟨rfl, hB2⟩
  have hg2 := hg0.next hB2
  clear hg0 hB2
  obtain ⟨c0, c1, c2, c3⟩ := hg2.cells
  by_cases hsm : sml B P S n = true
  case neg =>
    have hsm' : sml B P S n = false := by simpa using hsm
    go_wp2_with fail
    refine (small_any B P S A n c _ hn).mono ?_
    rintro e w3 ⟨rfl, hB3⟩
    rw [hsm']
    have hg3 := hg2.next hB3
    go_wp2_with fail
    refine (awake_any _).mono ?_
    rintro e w4 ⟨rfl, hB4⟩
    go_wp2
    go_ret
    exact ⟨rfl, (hg3.next hB4).bel⟩
  go_wp2_with fail
  refine (small_any B P S A n c _ hn).mono ?_
  rintro e w3 ⟨rfl, hB3⟩
  rw [hsm]
  obtain ⟨e1, e2, e3, e4, e5, e6, e7⟩ := sml_yes hsm
  clear hsm c0 c1 c2 c3
  have hg3 := hg2.next hB3
  clear hg2 hB3
  obtain ⟨c0, c1, c2, c3⟩ := hg3.cells
  by_cases hfm : fm B P S bad = true
  case neg =>
    have hfm' : fm B P S bad = false := by simpa using hfm
    have Hfm := hid hfm'
    clear hfm hfm'
    go_wp2_with fail
    refine (form_any B P S A n c bad _ hg3.nums hnc).mono ?_
    rintro e w4 ⟨rfl, hB4⟩
    rw [Hfm.out]
    have hg4 := hg3.next hB4
    go_wp2_with fail
    refine (awake_any _).mono ?_
    rintro e w5 ⟨rfl, hB5⟩
    go_wp2
    go_ret
    exact ⟨rfl, (hg4.next hB5).bel⟩
  have Hfm := hid hfm
  obtain ⟨f1, f2, f3, f4, f5, f6, f7, f8⟩ := fm_yes hfm
  clear hfm
  go_wp2_with fail
  refine (form_any B P S A n c bad _ hg3.nums hnc).mono ?_
  rintro e w4 ⟨rfl, hB4⟩
  rw [Hfm.out]
  clear c0 c1 c2 c3
  have hg4 := hg3.next hB4
  clear hg3 hB4
  obtain ⟨c0, c1, c2, c3⟩ := hg4.cells
  have Hok := hid f7
  clear f7
  by_cases h64 : B = 64
  · have hb : (B == 64) = true := beq_iff_eq.2 h64
    clear h64
    go_wp2_with fail
    refine (awake_any _).mono ?_
    rintro e w5 ⟨rfl, hB5⟩
    go_wp2
    go_ret
    exact ⟨rfl, (hg4.next hB5).bel⟩
  have hb : (B == 64) = false := beq_eq_false_iff_ne.2 h64
  have hb63 : B ≤ 63 := by omega
  have Hg := hid (cap_grow (P := P) (S := S) (bad := bad) (by omega) (ok_notin Hok.out B (by omega)))
  have Hs := hid (cap_spare B P S bad)
  have Hf := hid (fm_grow Hfm.out h64)
  clear h64
  have hgl : w.heap.size < w4.heap.size := hg4.blk.lt
  have hgl2 : w.heap.size < w4.heap.size + 1 := by omega
  go_wp2
  obtain ⟨g1, hg1⟩ : ∃ g1, g1 = w4.heap.size := ⟨_, rfl⟩
  obtain ⟨g2, hg2⟩ : ∃ g2, g2 = w4.heap.size + 1 := ⟨_, rfl⟩
  generalize hw5 : (w4.alloc (.cells #[.int .i64 (B + 1), .int .i64 P, .int .i64 S, .slice A n c] 36)).alloc (.cells #[.int .i64 B, .int .i64 P, .int .i64 (S + 1), .slice A n c] 36) = w5
  have k1 : Below w4.heap.size w4 w5 := by rw [← hw5]; exact ((Below.refl _ _).alloc (Nat.le_refl _) _).alloc (by simp) _
  have k2 : Geo w w5 w.heap.size B P S A n c bad := hg4.next k1
  have k3 : Geo w w5 g1 (B + 1) P S A n c bad := ⟨by rw [← hw5, hg1]; exact (Blk.new _ _ _).alloc _, k2.nums, k2.bel, by omega⟩
  have k4 : Geo w w5 g2 B P (S + 1) A n c bad := ⟨by rw [← hw5, hg2]; have h := Blk.new (w4.alloc (.cells #[.int .i64 (B + 1), .int .i64 P, .int .i64 S, .slice A n c] 36)) #[.int .i64 B, .int .i64 P, .int .i64 (S + 1), .slice A n c] 36; rwa [World.size_alloc] at h, k2.nums, k2.bel, by omega⟩
  rw [← hg2, ← hg1]
  clear hw5 c0 c1 c2 c3 hgl hgl2 hg1 hg2 k1
  have hl := usb_len B.toNat bad
  have hm := mul_bd (a := P) (b := (usb B.toNat bad).length - S - 1) (A := 32) (B := 100) ⟨by omega, by omega⟩ ⟨by omega, by omega⟩
  have hcb : cap B P S bad ≤ 4000 := by unfold cap; omega
  have hw1 : IntKind.i64.wrap (cap B P S bad + P) = cap B P S bad + P := IntWalk.i64_in _ (by omega)
  have hw2 : IntKind.i64.wrap (cap B P S bad - P) = cap B P S bad - P := IntWalk.i64_in _ (by omega)
  go_region_held3 (fun w' => w'.cell? ⟨w.heap.size, 0, none⟩ = some (.int .i64 B) ∧ w'.cell? ⟨w.heap.size, 1, none⟩ = some (.int .i64 P) ∧ w'.cell? ⟨w.heap.size, 2, none⟩ = some (.int .i64 S) ∧ w'.cell? ⟨w.heap.size, 3, none⟩ = some (.slice A n c) ∧ w'.cell? ⟨g1, 0, none⟩ = some (.int .i64 (B + 1)) ∧ w'.cell? ⟨g1, 1, none⟩ = some (.int .i64 P) ∧ w'.cell? ⟨g1, 2, none⟩ = some (.int .i64 S) ∧ w'.cell? ⟨g1, 3, none⟩ = some (.slice A n c) ∧ w'.cell? ⟨g2, 0, none⟩ = some (.int .i64 B) ∧ w'.cell? ⟨g2, 1, none⟩ = some (.int .i64 P) ∧ w'.cell? ⟨g2, 2, none⟩ = some (.int .i64 (S + 1)) ∧ w'.cell? ⟨g2, 3, none⟩ = some (.slice A n c)) (first | exact ⟨hg10.cells.1, hg10.cells.2.1, hg10.cells.2.2.1, hg10.cells.2.2.2, hh10.cells.1, hh10.cells.2.1, hh10.cells.2.2.1, hh10.cells.2.2.2, hi10.cells⟩ | exact ⟨hg9.cells.1, hg9.cells.2.1, hg9.cells.2.2.1, hg9.cells.2.2.2, hh9.cells.1, hh9.cells.2.1, hh9.cells.2.2.1, hh9.cells.2.2.2, hi9.cells⟩ | exact ⟨hg8.cells.1, hg8.cells.2.1, hg8.cells.2.2.1, hg8.cells.2.2.2, hh8.cells.1, hh8.cells.2.1, hh8.cells.2.2.1, hh8.cells.2.2.2, hi8.cells⟩ | exact ⟨hg7.cells.1, hg7.cells.2.1, hg7.cells.2.2.1, hg7.cells.2.2.2, hh7.cells.1, hh7.cells.2.1, hh7.cells.2.2.1, hh7.cells.2.2.2, hi7.cells⟩ | exact ⟨hg6.cells.1, hg6.cells.2.1, hg6.cells.2.2.1, hg6.cells.2.2.2, hh6.cells.1, hh6.cells.2.1, hh6.cells.2.2.1, hh6.cells.2.2.2, hi6.cells⟩ | exact ⟨k2.drew.cells.1, k2.drew.cells.2.1, k2.drew.cells.2.2.1, k2.drew.cells.2.2.2, k3.drew.cells.1, k3.drew.cells.2.1, k3.drew.cells.2.2.1, k3.drew.cells.2.2.2, k4.drew.cells⟩)
    (first
      | (((with_reducible refine (form_any (B + 1) P S A n c bad _ ?hz hnc).mono ?_); (case hz => exact hg9.nums); rintro e w10 ⟨rfl, hbel⟩; rw [Hf.out]; have hg10 := hg9.next hbel; have hh10 := hh9.next hbel; have hi10 := hi9.next hbel))
      | (((with_reducible refine (cap_any B P S A n c bad _ ?hz (by omega) (by omega) (by omega) (by omega) (by omega)).mono ?_); (case hz => exact hg8.nums); rintro e w9 ⟨rfl, hbel⟩; have hg9 := hg8.next hbel; have hh9 := hh8.next hbel; have hi9 := hi8.next hbel))
      | (((with_reducible refine (cap_any B P (S + 1) A n c bad _ ?hz (by omega) (by omega) (by omega) (by omega) (by omega)).mono ?_); (case hz => exact hg7.nums); rintro e w8 ⟨rfl, hbel⟩; rw [Hs.out]; have hg8 := hg7.next hbel; have hh8 := hh7.next hbel; have hi8 := hi7.next hbel))
      | (((with_reducible refine (cap_any B P S A n c bad _ ?hz (by omega) (by omega) (by omega) (by omega) (by omega)).mono ?_); (case hz => exact hg6.nums); rintro e w7 ⟨rfl, hbel⟩; have hg7 := hg6.next hbel; have hh7 := hh6.next hbel; have hi7 := hi6.next hbel))
      | (((with_reducible refine (cap_any (B + 1) P S A n c bad _ ?hz (by omega) (by omega) (by omega) (by omega) (by omega)).mono ?_); (case hz => exact k2.drew.nums); rintro e w6 ⟨rfl, hbel⟩; rw [Hg.out]; have hg6 := k2.drew.next hbel; have hh6 := k3.drew.next hbel; have hi6 := k4.drew.next hbel)))
  go_wp2
  go_ret
  exact ⟨rfl, hg10.bel⟩
end Go.Proofs.Ytlmjngkblmfdmaa.Plan
