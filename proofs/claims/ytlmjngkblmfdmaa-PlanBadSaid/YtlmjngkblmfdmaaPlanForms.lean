import Derived.Test.YtlmjngkblmfdmaaPlanLaws
set_option linter.unusedVariables false
set_option linter.unusedSimpArgs false
namespace Go.Proofs.Ytlmjngkblmfdmaa.Plan
open Go.RowKit Go.Proofs.Ytlmjngkblmfdmaa.Kit

theorem usb_wf (i : Nat) (bad : List Int) (hi : i ≤ 64) : ∀ x ∈ usb i bad, (Lit.int .i64 x).wf = true := by
  intro x hx
  have := (usb_mem i bad x).1 hx
  simp [Lit.wf, IntKind.min, IntKind.max, IntKind.signed, IntKind.bits]
  omega

set_option maxHeartbeats 4000000 in
set_option maxRecDepth 100000 in
theorem law_forms (B P S : Int) (A : Option Addr) (n c : Nat) (bad : List Int) (w : World) (hz : Nums w .i64 A n bad) (hnc : n ≤ c) :
    Calls Try.prog 9 #[.agg #[.int .i64 B, .int .i64 P, .int .i64 S, .slice A n c]] w fun e w' => e = .returned (.bool true) ∧ Below w.heap.size w w' := by
  go_enter Try.func9, Try.ntmps9
  go_wp2_with fail
  have hg0 := Geo.boxed (w := w) (B := B) (P := P) (S := S) (c := c) hz
  generalize w.alloc (.cells #[.int .i64 B, .int .i64 P, .int .i64 S, .slice A n c] 36) = w1 at *
  have hn := hz.most
  refine (awake_any _).mono ?_
  rintro e w2 ⟨rfl, hB2⟩
  have hg2 := hg0.next hB2
  clear hg0 hB2
  obtain ⟨c0, c1, c2, c3⟩ := hg2.cells
  by_cases hsm : sml B P S n = true
  case neg =>
    have hsm' : sml B P S n = false := by simpa using hsm
    go_wp2_with fail
    refine (small_any B P S A n c _ hn).mono ?_
    rintro e w3 ⟨rfl, hB3⟩
    rw [hsm']
    have hg3 := hg2.next hB3
    go_wp2_with fail
    refine (awake_any _).mono ?_
    rintro e w4 ⟨rfl, hB4⟩
    go_wp2
    go_ret
    exact ⟨rfl, (hg3.next hB4).bel⟩
  go_wp2_with fail
  refine (small_any B P S A n c _ hn).mono ?_
  rintro e w3 ⟨rfl, hB3⟩
  rw [hsm]
  obtain ⟨e1, e2, e3, e4, e5, e6, e7⟩ := sml_yes hsm
  clear hsm c0 c1 c2 c3
  have hg3 := hg2.next hB3
  clear hg2 hB3
  obtain ⟨c0, c1, c2, c3⟩ := hg3.cells
  go_wp2_with fail
  refine (usable_any B P S A n c bad _ hg3.nums (by omega)).mono ?_
  rintro e w4 ⟨u4, rfl, hu4, hB4⟩
  have hg4 := hg3.next hB4
  clear c0 c1 c2 c3
  obtain ⟨c0, c1, c2, c3⟩ := hg4.cells
  obtain ⟨uA, uc, rfl⟩ := own_slice hu4
  go_wp2_with fail
  refine (rusable_any B P S A n c bad _ hg4.nums (by omega)).mono ?_
  rintro e w5 ⟨u5, rfl, hv5, hB5⟩
  have hg5 := hg4.next hB5
  have hu5 := own_mono (own_later hu4 hB5) hg3.bel.size
  replace hv5 := own_mono hv5 hg4.bel.size
  obtain ⟨vA, vc, rfl⟩ := own_slice hv5
  clear c0 c1 c2 c3
  obtain ⟨c0, c1, c2, c3⟩ := hg5.cells
  clear hg3 hg4 hB4 hB5 hu4
  have hlen := usb_len B.toNat bad
  have Hwf := hid (usb_wf B.toNat bad (by omega))
  go_wp2
  generalize hL : (usb B.toNat bad).length = L at *
  have HL := hid hL
  clear hL
  go_region_held3 (fun w' => w'.cell? ⟨w.heap.size, 0, none⟩ = some (.int .i64 B) ∧ w'.cell? ⟨w.heap.size, 1, none⟩ = some (.int .i64 P) ∧ w'.cell? ⟨w.heap.size, 2, none⟩ = some (.int .i64 S) ∧ w'.cell? ⟨w.heap.size, 3, none⟩ = some (.slice A n c)) (first | exact hg11.cells | exact hg10.cells | exact hg9.cells | exact hg8.cells | exact hg7.cells | exact hg6.cells | exact hg5.drew.cells)
    (first
      | (((with_reducible refine (rcap_any B P S A n c bad _ ?hz (by omega) (by omega) (by omega) (by omega) (by omega)).mono ?_); (case hz => exact hg10.nums); rintro e w11 ⟨rfl, hbel⟩; have hg11 := hg10.next hbel; have hu11 := own_later hu10 hbel; have hv11 := own_later hv10 hbel))
      | (((with_reducible refine (meta_any B P S A n c bad _ ?hz (by omega) (by omega) (by omega) (by omega) (by omega)).mono ?_); (case hz => exact hg9.nums); rintro e w10 ⟨rfl, hbel⟩; have hg10 := hg9.next hbel; have hu10 := own_later hu9 hbel; have hv10 := own_later hv9 hbel))
      | (((with_reducible refine (rcap_any B P S A n c bad _ ?hz (by omega) (by omega) (by omega) (by omega) (by omega)).mono ?_); (case hz => exact hg8.nums); rintro e w9 ⟨rfl, hbel⟩; have hg9 := hg8.next hbel; have hu9 := own_later hu8 hbel; have hv9 := own_later hv8 hbel))
      | (((with_reducible refine (cap_any B P S A n c bad _ ?hz (by omega) (by omega) (by omega) (by omega) (by omega)).mono ?_); (case hz => exact hg7.nums); rintro e w8 ⟨rfl, hbel⟩; have hg8 := hg7.next hbel; have hu8 := own_later hu7 hbel; have hv8 := own_later hv7 hbel))
      | (((with_reducible refine (rform_any B P S A n c bad _ ?hz).mono ?_); (case hz => exact hg6.nums); rintro e w7 ⟨rfl, hbel⟩; have hg7 := hg6.next hbel; have hu7 := own_later hu6 hbel; have hv7 := own_later hv6 hbel))
      | (((with_reducible refine (form_any B P S A n c bad _ ?hz hnc).mono ?_); (case hz => exact hg5.drew.nums); rintro e w6 ⟨rfl, hbel⟩; have hg6 := hg5.drew.next hbel; have hu6 := own_later hu5.drew hbel; have hv6 := own_later hv5.drew hbel)))
  go_wp2
  obtain ⟨hcu, hnu⟩ := own_reads hu11 Hwf.out
  obtain ⟨hcv, hnv⟩ := own_reads hv11 Hwf.out
  have Hbel := hid hg11.bel
  clear hu5 hv5 hu6 hv6 hu7 hv7 hu8 hv8 hu9 hv9 hu10 hv10 hu11 hv11 hg5 hg6 hg7 hg8 hg9 hg10 hg11 hbel c0 c1 c2 c3
  generalize usb B.toNat bad = us at *
  go_loopw [5] (fun i w' => ∃ k : Nat, k ≤ L ∧ i = .int .i64 k ∧ Drawn w11 w') (fun i _ => L - (intOf i).toNat)
  case atStart => exact ⟨0, by omega, rfl, Drawn.refl _⟩
  case round =>
    obtain ⟨k, hk, rfl, hd⟩ := hrel
    obtain ⟨nd, rfl⟩ := hd
    by_cases hlt : k < L
    · obtain ⟨bu, ou, rfl, hcu⟩ := hnu.at_ k hlt
      obtain ⟨bv, ov, rfl, hcv⟩ := hnv.at_ k hlt
      have b1 : (0 : Int) ≤ (k : Int) := by omega
      have b2 : (k : Int) < (L : Int) := by omega
      have Hnu := hid hnu
      have Hnv := hid hnv
      clear hnu hnv
      generalize us.getD k 0 = x at *
      go_wp2
      go_quiet (fail)
      go_wp2
      go_roundw
      case rel => exact ⟨k + 1, by omega, by go_num, Drawn.drewN _ _⟩
      case measure => simp [intOf]; omega
    · go_wp2
      go_ret
      exact ⟨rfl, Hbel.out.drewB _⟩
end Go.Proofs.Ytlmjngkblmfdmaa.Plan
