import Derived.Test.YtmehebjkdmpigaaMailDec
import Derived.BigRegion
set_option linter.unusedVariables false
set_option linter.unusedSimpArgs false
namespace Go.Proofs.Ytmehebjkdmpigaa.Mail
open Go.RowKit Go.Proofs.Ytmehebjkdmpigaa.Kit Go.Proofs.Ytmehebjkdmpigaa.Oct

theorem own_two (w : World) (base : Nat) (x y : Int) (hb : base ≤ w.heap.size) : OwnB (w.alloc (.cells #[.int .u8 x, .int .u8 y] 5)) base (.slice (some ⟨w.heap.size, 0, none⟩) 2 2) [x, y] :=
  ⟨by simp, .inr ⟨w.heap.size, 2, #[.int .u8 x, .int .u8 y], rfl, hb, heap_alloc_new w _, by simp, by unfold maxLen; omega, by simp, by simp⟩⟩

set_option maxHeartbeats 4000000 in
theorem bytes_0 (kd f E : Nat) (w : World) (hkd : kd ≤ 255) (hk : kd % 3 = 0) (hf : f ≤ 1) (hE : E ≤ 18446744073709551615) :
    Calls Try.prog 15 #[.int .u8 (kd : Int), .int .i64 (f : Int), .int .u64 (E : Int)] w fun e w' => ∃ v, e = .returned v ∧ OwnB w' w.heap.size v (msg 0 f E) ∧ Below w.heap.size w w' := by
  have em : (kd : Int) % 3 = 0 := by omega
  have hw8 : IntKind.u8.wrap (f : Int) = (f : Int) := IntWalk.u8_in _ (by omega)
  clear hk
  go_enter Try.func15, Try.ntmps15
  go_upto_region 2 with (fail)
  clear hw8
  have e2 : [((0 : Int) + 1), (f : Int)] = le (0 + 1) 1 ++ le f 1 := by simp [le]; omega
  obtain ⟨w1, hw1⟩ : ∃ W, W = w.alloc (.cells #[.int .u8 ((0 : Int) + 1), .int .u8 (f : Int)] 5) := ⟨_, rfl⟩
  have ho1 : OwnB w1 w.heap.size (.slice (some ⟨w.heap.size, 0, none⟩) 2 2) (le (0 + 1) 1 ++ le f 1) := by rw [hw1, ← e2]; exact own_two w w.heap.size _ _ (Nat.le_refl _)
  have hB1 : Below w.heap.size w w1 := by rw [hw1]; exact (Below.refl _ _).alloc (Nat.le_refl _) _
  simp only [show ((0 : Int) + 1) = 1 from rfl] at hw1
  rw [← hw1]
  clear hw1 e2
  go_wp2_with fail
  refine (rput_any E 6 _ (by omega) (by decide)).mono ?_
  rintro e w2 ⟨v2, rfl, ho2, hB2⟩
  obtain ⟨A2, c2, e2, hc2, hz2⟩ := ho2.reads (le_isB _ _)
  rw [le_len] at e2 hc2 hz2
  subst e2
  have ho1' := ho1.later hB2
  have hB12 := hB1.trans (hB2.mono hB1.size)
  clear ho2 ho1 hB1 hB2
  go_upto_region 5 with (at_builtin; refine append_nums w.heap.size rfl _ _ 23 5 .u8 1 rfl Try.underlying23 info5 _ _ _ A2 6 c2 (le E 6) (by rfl) (by rfl) ho1' hz2 hB12.size (by simp only [List.length_append, le_len]; omega) (by simp only [List.length_append, le_len]; omega) ?_; intro v3 w3 hown3 hgr3 hat3)
  have ho3 : OwnB w3 w.heap.size v3 (enc 0 f E) := by
    unfold OwnB enc
    rw [List.length_append, List.map_append, le_len]
    exact hown3
  have hB3 := hB12.grown hgr3 hB12.size (fun k hk => (ho1'.lt k hk).1)
  have hel := enc_len 0 f E
  have Hm := hid (show msg 0 f E = enc 0 f E ++ le (sum (enc 0 f E)) 4 from rfl)
  obtain ⟨A6, c6, e6, hc6, hz6⟩ := ho3.reads (enc_isB _ _ _)
  rw [hel] at e6 hc6 hz6
  subst e6
  clear ho3 hown3 hgr3 hat3 ho1' hz2 hB12
  generalize enc 0 f E = ex at *
  go_wp2_with fail
  refine (rseal_any A6 8 c6 ex w3 hz6 (by decide)).mono ?_
  rintro e w7 ⟨v7, rfl, ho7, hB7⟩
  go_wp2
  go_ret
  exact ⟨_, rfl, by rw [Hm.out]; exact ho7.mono hB3.size, hB3.trans (hB7.mono hB3.size)⟩

set_option maxHeartbeats 4000000 in
theorem bytes_1 (kd f E : Nat) (w : World) (hkd : kd ≤ 255) (hk : kd % 3 = 1) (hf : f ≤ 1) (hE : E ≤ 18446744073709551615) :
    Calls Try.prog 15 #[.int .u8 (kd : Int), .int .i64 (f : Int), .int .u64 (E : Int)] w fun e w' => ∃ v, e = .returned v ∧ OwnB w' w.heap.size v (msg 1 f 0) ∧ Below w.heap.size w w' := by
  have em : (kd : Int) % 3 = 1 := by omega
  have hw8 : IntKind.u8.wrap (f : Int) = (f : Int) := IntWalk.u8_in _ (by omega)
  clear hk
  go_enter Try.func15, Try.ntmps15
  go_upto_region 2 with (fail)
  clear hw8
  have e2 : [((1 : Int) + 1), (f : Int)] = le (1 + 1) 1 ++ le f 1 := by simp [le]; omega
  obtain ⟨w1, hw1⟩ : ∃ W, W = w.alloc (.cells #[.int .u8 ((1 : Int) + 1), .int .u8 (f : Int)] 5) := ⟨_, rfl⟩
  have ho1 : OwnB w1 w.heap.size (.slice (some ⟨w.heap.size, 0, none⟩) 2 2) (le (1 + 1) 1 ++ le f 1) := by rw [hw1, ← e2]; exact own_two w w.heap.size _ _ (Nat.le_refl _)
  have hB1 : Below w.heap.size w w1 := by rw [hw1]; exact (Below.refl _ _).alloc (Nat.le_refl _) _
  simp only [show ((1 : Int) + 1) = 2 from rfl] at hw1
  rw [← hw1]
  clear hw1 e2
  go_wp2_with fail
  refine (rput_any 0 6 _ (by omega) (by decide)).mono ?_
  rintro e w2 ⟨v2, rfl, ho2, hB2⟩
  obtain ⟨A2, c2, e2, hc2, hz2⟩ := ho2.reads (le_isB _ _)
  rw [le_len] at e2 hc2 hz2
  subst e2
  have ho1' := ho1.later hB2
  have hB12 := hB1.trans (hB2.mono hB1.size)
  clear ho2 ho1 hB1 hB2
  go_upto_region 5 with (at_builtin; refine append_nums w.heap.size rfl _ _ 23 5 .u8 1 rfl Try.underlying23 info5 _ _ _ A2 6 c2 (le 0 6) (by rfl) (by rfl) ho1' hz2 hB12.size (by simp only [List.length_append, le_len]; omega) (by simp only [List.length_append, le_len]; omega) ?_; intro v3 w3 hown3 hgr3 hat3)
  have ho3 : OwnB w3 w.heap.size v3 (enc 1 f 0) := by
    unfold OwnB enc
    rw [List.length_append, List.map_append, le_len]
    exact hown3
  have hB3 := hB12.grown hgr3 hB12.size (fun k hk => (ho1'.lt k hk).1)
  have hel := enc_len 1 f 0
  have Hm := hid (show msg 1 f 0 = enc 1 f 0 ++ le (sum (enc 1 f 0)) 4 from rfl)
  obtain ⟨A6, c6, e6, hc6, hz6⟩ := ho3.reads (enc_isB _ _ _)
  rw [hel] at e6 hc6 hz6
  subst e6
  clear ho3 hown3 hgr3 hat3 ho1' hz2 hB12
  generalize enc 1 f 0 = ex at *
  go_wp2_with fail
  refine (rseal_any A6 8 c6 ex w3 hz6 (by decide)).mono ?_
  rintro e w7 ⟨v7, rfl, ho7, hB7⟩
  go_wp2
  go_ret
  exact ⟨_, rfl, by rw [Hm.out]; exact ho7.mono hB3.size, hB3.trans (hB7.mono hB3.size)⟩

set_option maxHeartbeats 4000000 in
theorem bytes_2 (kd f E : Nat) (w : World) (hkd : kd ≤ 255) (hk : kd % 3 = 2) (hf : f ≤ 1) (hE : E ≤ 18446744073709551615) :
    Calls Try.prog 15 #[.int .u8 (kd : Int), .int .i64 (f : Int), .int .u64 (E : Int)] w fun e w' => ∃ v, e = .returned v ∧ OwnB w' w.heap.size v (msg 2 f E) ∧ Below w.heap.size w w' := by
  have em : (kd : Int) % 3 = 2 := by omega
  have hw8 : IntKind.u8.wrap (f : Int) = (f : Int) := IntWalk.u8_in _ (by omega)
  clear hk
  go_enter Try.func15, Try.ntmps15
  go_upto_region 2 with (fail)
  clear hw8
  have e2 : [((2 : Int) + 1), (f : Int)] = le (2 + 1) 1 ++ le f 1 := by simp [le]; omega
  obtain ⟨w1, hw1⟩ : ∃ W, W = w.alloc (.cells #[.int .u8 ((2 : Int) + 1), .int .u8 (f : Int)] 5) := ⟨_, rfl⟩
  have ho1 : OwnB w1 w.heap.size (.slice (some ⟨w.heap.size, 0, none⟩) 2 2) (le (2 + 1) 1 ++ le f 1) := by rw [hw1, ← e2]; exact own_two w w.heap.size _ _ (Nat.le_refl _)
  have hB1 : Below w.heap.size w w1 := by rw [hw1]; exact (Below.refl _ _).alloc (Nat.le_refl _) _
  simp only [show ((2 : Int) + 1) = 3 from rfl] at hw1
  rw [← hw1]
  clear hw1 e2
  go_wp2_with fail
  refine (rput_any E 6 _ (by omega) (by decide)).mono ?_
  rintro e w2 ⟨v2, rfl, ho2, hB2⟩
  obtain ⟨A2, c2, e2, hc2, hz2⟩ := ho2.reads (le_isB _ _)
  rw [le_len] at e2 hc2 hz2
  subst e2
  have ho1' := ho1.later hB2
  have hB12 := hB1.trans (hB2.mono hB1.size)
  clear ho2 ho1 hB1 hB2
  go_upto_region 5 with (at_builtin; refine append_nums w.heap.size rfl _ _ 23 5 .u8 1 rfl Try.underlying23 info5 _ _ _ A2 6 c2 (le E 6) (by rfl) (by rfl) ho1' hz2 hB12.size (by simp only [List.length_append, le_len]; omega) (by simp only [List.length_append, le_len]; omega) ?_; intro v3 w3 hown3 hgr3 hat3)
  have ho3 : OwnB w3 w.heap.size v3 (enc 2 f E) := by
    unfold OwnB enc
    rw [List.length_append, List.map_append, le_len]
    exact hown3
  have hB3 := hB12.grown hgr3 hB12.size (fun k hk => (ho1'.lt k hk).1)
  have hel := enc_len 2 f E
  have Hm := hid (show msg 2 f E = enc 2 f E ++ le (sum (enc 2 f E)) 4 from rfl)
  obtain ⟨A6, c6, e6, hc6, hz6⟩ := ho3.reads (enc_isB _ _ _)
  rw [hel] at e6 hc6 hz6
  subst e6
  clear ho3 hown3 hgr3 hat3 ho1' hz2 hB12
  generalize enc 2 f E = ex at *
  go_wp2_with fail
  refine (rseal_any A6 8 c6 ex w3 hz6 (by decide)).mono ?_
  rintro e w7 ⟨v7, rfl, ho7, hB7⟩
  go_wp2
  go_ret
  exact ⟨_, rfl, by rw [Hm.out]; exact ho7.mono hB3.size, hB3.trans (hB7.mono hB3.size)⟩

set_option maxRecDepth 1000000 in
set_option maxHeartbeats 16000000 in
theorem law_back (kd : Int) (hkd : 0 ≤ kd ∧ kd ≤ 255) (F : Int) (hF : -9223372036854775808 ≤ F ∧ F ≤ 9223372036854775807) (E : Int) (hE : 0 ≤ E ∧ E ≤ 18446744073709551615) (w : World) :
    Calls Try.prog 5 #[.int .u8 kd, .int .i64 F, .int .u64 E] w fun e w' => e = .returned (.bool true) ∧ Below w.heap.size w w' := by
  obtain ⟨kd0, kd1⟩ := hkd
  obtain ⟨E0, E1⟩ := hE
  obtain ⟨kd, rfl⟩ := Int.eq_ofNat_of_zero_le kd0
  obtain ⟨E, rfl⟩ := Int.eq_ofNat_of_zero_le E0
  have hk3 : kd % 3 = 0 ∨ kd % 3 = 1 ∨ kd % 3 = 2 := by omega
  have hkl : kd ≤ 255 := by omega
  have hEl : E ≤ 18446744073709551615 := by omega
  clear hF
  by_cases hF : F = 0 ∨ F = 1
  · rcases hk3 with hk | hk | hk
    · by_cases hx48 : E < 281474976710656
      · rcases hF with rfl | rfl
        · have em : (kd : Int) % 3 = 0 := by omega
          have M1 := fun W => make3_any kd 0 (E : Int) W hkl
          rw [hk] at M1
          have BY := fun W => bytes_0 kd 0 E W hkl hk (by decide) hEl
          have EN := fun W => encode_any 0 0 E (E : Int) W (by decide) (by decide) rfl hx48
          have hi := fun W => is_any 0 0 (E : Int) W (by decide)
          rw [decide_eq_true (show right 0 0 (E : Int) from ⟨by decide, by show (E : Int) < (281474976710656 : Int); omega⟩)] at hi
          have hfm := fun W => from_any 0 0 (E : Int) W
          have hin : ∀ v c, DTold (msg 0 0 E) v c → v = .iface 41 (.agg #[.int .i64 0, .int .u64 (E : Int)]) ∧ c = 0 := fun v c h => by
            rcases h with ⟨k', f', x', E', rfl, rfl, hk', hf', hx', hep, h1, hE', he⟩ | ⟨_, _, hno⟩
            · obtain ⟨rfl, rfl, rfl⟩ := msg_inj (by decide) (by decide) hx48 hk' hf' hx' he
              refine ⟨?_, rfl⟩
              have hE2 : E' = (E : Int) := hep
              rw [hE2]
              rfl
            · exact absurd ⟨0, 0, E, by decide, by decide, hx48, (by intro h; first | rfl | cases h), rfl⟩ hno
          have HIN := hid hin
          have hmB := msg_isB 0 0 E
          have hml := msg_len 0 0 E
          generalize msg 0 0 E = ms at *
          have t1 := ta_bb
          have t2 := ta_bw
          have t3 := ta_bg
          generalize mv 0 0 (E : Int) = mm at *
          clear hin hk
          have hxI : (E : Int) < 281474976710656 := by omega
          have hxd : decide ((E : Int) < 281474976710656) = true := decide_eq_true hxI
          clear hx48 hEl E1
          go_enter Try.func5, Try.ntmps5
          go_wp2_with fail
          refine (M1 w).mono ?_
          rintro e w1 ⟨rfl, rfl⟩
          clear M1
          go_wp2_with fail
          refine (EN w1).mono ?_
          rintro e w2 ⟨v2, rfl, ho2, hB2⟩
          obtain ⟨P1, q1, e2, hq2, hp2⟩ := ho2.reads hmB
          rw [hml] at e2 hq2 hp2
          subst e2
          clear EN ho2
          go_wp2_with fail
          refine (awake_any w2).mono ?_
          rintro e w3 ⟨rfl, hB3⟩
          go_wp2_with fail
          refine (hi w3).mono ?_
          rintro e w4 ⟨rfl, hB4⟩
          go_wp2_with fail
          refine (hfm w4).mono ?_
          rintro e w5 ⟨rfl, hB5⟩
          have hB25 := hB3.trans ((hB4.trans (hB5.mono hB4.size)).mono hB3.size)
          have hp5 := hp2.below hB25
          have hB05 := hB2.trans (hB25.mono hB2.size)
          clear hi hfm hB3 hB4 hB5 hp2 hB2 hB25
          go_wp2_with fail
          refine (decode_any P1 12 q1 ms w5 hp5 hq2 (by decide)).mono ?_
          rintro e w6 ⟨v6, k6, rfl, ht6, hB6⟩
          obtain ⟨rfl, rfl⟩ := HIN.out _ _ ht6
          clear ht6
          have hp6 := hp5.below hB6
          have hB06 := hB05.trans (hB6.mono hB05.size)
          have HC := hid (fun W (h : Below w6.heap.size w6 W) => conv_str (c := q1) (hp6.below h))
          have hBd : Below w6.heap.size w6 (w6.drewN 1) := below_drewN (Below.refl _ _) 1
          have hse := str_eq_true (show ms = ms from rfl)
          clear hp5 hp6 hB05 hB6
          go_upto_region 9 with (fail)
          refine wp_region_held_drew (S := (fun w' => (convert 23 9 (.slice P1 12 q1)).run Try.prog w' = .ok (.string (strOfNums ms)) w')) (by kernel_rfl) ?hSnewK00z (fun hHeld => ?restK00z)
          case hSnewK00z => ((try dsimp only); exact HC.out _ hBd)
          refine wpAnyH_take (i := 0) (oi := ?oiK00x0) (v := ?vK00x0) ?hoK00x0 ?h1K00x0 ?h2K00x0 ?h3K00x0 ?hqK00x0 (Or.inl ⟨?h4K00x0, ?hyK00x0⟩) (by assumption) ?restK00x0
          case hoK00x0 => (simp only [List.getElem?_toArray, List.getElem?_cons_zero, List.getElem?_cons_succ]; rfl)
          case h1K00x0 => kernel_rfl
          case h2K00x0 => kernel_rfl
          case h3K00x0 => kernel_rfl
          case h4K00x0 => rfl
          case hqK00x0 => exact fun _ _ _ h => h
          case hyK00x0 => (intro w hSw; (try dsimp only at hSw); go_simp <;> with_reducible rfl)
          (try simp only [Act.put, List.setIfInBounds_toArray, List.set_cons_zero, List.set_cons_succ])
          refine wpAnyH_take (i := 1) (oi := ?oiK00x1) (v := ?vK00x1) ?hoK00x1 ?h1K00x1 ?h2K00x1 ?h3K00x1 ?hqK00x1 (Or.inl ⟨?h4K00x1, ?hyK00x1⟩) (by assumption) ?restK00x1
          case hoK00x1 => (simp only [List.getElem?_toArray, List.getElem?_cons_zero, List.getElem?_cons_succ]; rfl)
          case h1K00x1 => kernel_rfl
          case h2K00x1 => kernel_rfl
          case h3K00x1 => kernel_rfl
          case h4K00x1 => rfl
          case hqK00x1 => exact fun _ _ _ h => h
          case hyK00x1 => (intro w hSw; (try dsimp only at hSw); go_simp <;> with_reducible rfl)
          (try simp only [Act.put, List.setIfInBounds_toArray, List.set_cons_zero, List.set_cons_succ])
          refine wpAnyH_take (i := 2) (oi := ?oiK00x2) (v := ?vK00x2) ?hoK00x2 ?h1K00x2 ?h2K00x2 ?h3K00x2 ?hqK00x2 (Or.inl ⟨?h4K00x2, ?hyK00x2⟩) (by assumption) ?restK00x2
          case hoK00x2 => (simp only [List.getElem?_toArray, List.getElem?_cons_zero, List.getElem?_cons_succ]; rfl)
          case h1K00x2 => kernel_rfl
          case h2K00x2 => kernel_rfl
          case h3K00x2 => kernel_rfl
          case h4K00x2 => rfl
          case hqK00x2 => exact fun _ _ _ h => h
          case hyK00x2 => (intro w hSw; (try dsimp only at hSw); go_simp <;> with_reducible rfl)
          (try simp only [Act.put, List.setIfInBounds_toArray, List.set_cons_zero, List.set_cons_succ])
          refine wpAnyH_take (i := 3) (oi := ?oiK00x3) (v := ?vK00x3) ?hoK00x3 ?h1K00x3 ?h2K00x3 ?h3K00x3 ?hqK00x3 (Or.inl ⟨?h4K00x3, ?hyK00x3⟩) (by assumption) ?restK00x3
          case hoK00x3 => (simp only [List.getElem?_toArray, List.getElem?_cons_zero, List.getElem?_cons_succ]; rfl)
          case h1K00x3 => kernel_rfl
          case h2K00x3 => kernel_rfl
          case h3K00x3 => kernel_rfl
          case h4K00x3 => rfl
          case hqK00x3 => exact fun _ _ _ h => h
          case hyK00x3 => (intro w hSw; (try dsimp only at hSw); go_simp <;> with_reducible rfl)
          (try simp only [Act.put, List.setIfInBounds_toArray, List.set_cons_zero, List.set_cons_succ])
          refine wpAnyH_take (i := 4) (oi := ?oiK00x4) (v := ?vK00x4) ?hoK00x4 ?h1K00x4 ?h2K00x4 ?h3K00x4 ?hqK00x4 (Or.inl ⟨?h4K00x4, ?hyK00x4⟩) (by assumption) ?restK00x4
          case hoK00x4 => (simp only [List.getElem?_toArray, List.getElem?_cons_zero, List.getElem?_cons_succ]; rfl)
          case h1K00x4 => kernel_rfl
          case h2K00x4 => kernel_rfl
          case h3K00x4 => kernel_rfl
          case h4K00x4 => rfl
          case hqK00x4 => exact fun _ _ _ h => h
          case hyK00x4 => (intro w hSw; (try dsimp only at hSw); go_simp <;> with_reducible rfl)
          (try simp only [Act.put, List.setIfInBounds_toArray, List.set_cons_zero, List.set_cons_succ])
          refine wpAnyH_take (i := 5) (oi := ?oiK00x5) (v := ?vK00x5) ?hoK00x5 ?h1K00x5 ?h2K00x5 ?h3K00x5 ?hqK00x5 (Or.inl ⟨?h4K00x5, ?hyK00x5⟩) (by assumption) ?restK00x5
          case hoK00x5 => (simp only [List.getElem?_toArray, List.getElem?_cons_zero, List.getElem?_cons_succ]; rfl)
          case h1K00x5 => kernel_rfl
          case h2K00x5 => kernel_rfl
          case h3K00x5 => kernel_rfl
          case h4K00x5 => rfl
          case hqK00x5 => exact fun _ _ _ h => h
          case hyK00x5 => (intro w hSw; (try dsimp only at hSw); go_simp <;> with_reducible rfl)
          (try simp only [Act.put, List.setIfInBounds_toArray, List.set_cons_zero, List.set_cons_succ])
          refine wpAnyH_take (i := 6) (oi := ?oiK00x6) (v := ?vK00x6) ?hoK00x6 ?h1K00x6 ?h2K00x6 ?h3K00x6 ?hqK00x6 (Or.inl ⟨?h4K00x6, ?hyK00x6⟩) (by assumption) ?restK00x6
          case hoK00x6 => (simp only [List.getElem?_toArray, List.getElem?_cons_zero, List.getElem?_cons_succ]; rfl)
          case h1K00x6 => kernel_rfl
          case h2K00x6 => kernel_rfl
          case h3K00x6 => kernel_rfl
          case h4K00x6 => rfl
          case hqK00x6 => exact fun _ _ _ h => h
          case hyK00x6 => (intro w hSw; (try dsimp only at hSw); go_simp <;> with_reducible rfl)
          (try simp only [Act.put, List.setIfInBounds_toArray, List.set_cons_zero, List.set_cons_succ])
          refine wpAnyH_take (i := 7) (oi := ?oiK00x7) (v := ?vK00x7) ?hoK00x7 ?h1K00x7 ?h2K00x7 ?h3K00x7 ?hqK00x7 (Or.inl ⟨?h4K00x7, ?hyK00x7⟩) (by assumption) ?restK00x7
          case hoK00x7 => (simp only [List.getElem?_toArray, List.getElem?_cons_zero, List.getElem?_cons_succ]; rfl)
          case h1K00x7 => kernel_rfl
          case h2K00x7 => kernel_rfl
          case h3K00x7 => kernel_rfl
          case h4K00x7 => rfl
          case hqK00x7 => exact fun _ _ _ h => h
          case hyK00x7 => (intro w hSw; (try dsimp only at hSw); go_simp <;> with_reducible rfl)
          (try simp only [Act.put, List.setIfInBounds_toArray, List.set_cons_zero, List.set_cons_succ])
          refine wpAnyH_take (i := 8) (oi := ?oiK00x8) (v := ?vK00x8) ?hoK00x8 ?h1K00x8 ?h2K00x8 ?h3K00x8 ?hqK00x8 (Or.inl ⟨?h4K00x8, ?hyK00x8⟩) (by assumption) ?restK00x8
          case hoK00x8 => (simp only [List.getElem?_toArray, List.getElem?_cons_zero, List.getElem?_cons_succ]; rfl)
          case h1K00x8 => kernel_rfl
          case h2K00x8 => kernel_rfl
          case h3K00x8 => kernel_rfl
          case h4K00x8 => rfl
          case hqK00x8 => exact fun _ _ _ h => h
          case hyK00x8 => (intro w hSw; (try dsimp only at hSw); go_simp <;> with_reducible rfl)
          (try simp only [Act.put, List.setIfInBounds_toArray, List.set_cons_zero, List.set_cons_succ])
          refine wpAnyH_take (i := 9) (oi := ?oiK00x9) (v := ?vK00x9) ?hoK00x9 ?h1K00x9 ?h2K00x9 ?h3K00x9 ?hqK00x9 (Or.inl ⟨?h4K00x9, ?hyK00x9⟩) (by assumption) ?restK00x9
          case hoK00x9 => (simp only [List.getElem?_toArray, List.getElem?_cons_zero, List.getElem?_cons_succ]; rfl)
          case h1K00x9 => kernel_rfl
          case h2K00x9 => kernel_rfl
          case h3K00x9 => kernel_rfl
          case h4K00x9 => rfl
          case hqK00x9 => exact fun _ _ _ h => h
          case hyK00x9 => (intro w hSw; (try dsimp only at hSw); go_simp <;> with_reducible rfl)
          (try simp only [Act.put, List.setIfInBounds_toArray, List.set_cons_zero, List.set_cons_succ])
          refine wpAnyH_take (i := 10) (oi := ?oiK00x10) (v := ?vK00x10) ?hoK00x10 ?h1K00x10 ?h2K00x10 ?h3K00x10 ?hqK00x10 (Or.inl ⟨?h4K00x10, ?hyK00x10⟩) (by assumption) ?restK00x10
          case hoK00x10 => (simp only [List.getElem?_toArray, List.getElem?_cons_zero, List.getElem?_cons_succ]; rfl)
          case h1K00x10 => kernel_rfl
          case h2K00x10 => kernel_rfl
          case h3K00x10 => kernel_rfl
          case h4K00x10 => rfl
          case hqK00x10 => exact fun _ _ _ h => h
          case hyK00x10 => (intro w hSw; (try dsimp only at hSw); go_simp <;> with_reducible rfl)
          (try simp only [Act.put, List.setIfInBounds_toArray, List.set_cons_zero, List.set_cons_succ])
          refine wpAnyH_take (i := 11) (oi := ?oiK00x11) (v := ?vK00x11) ?hoK00x11 ?h1K00x11 ?h2K00x11 ?h3K00x11 ?hqK00x11 (Or.inl ⟨?h4K00x11, ?hyK00x11⟩) (by assumption) ?restK00x11
          case hoK00x11 => (simp only [List.getElem?_toArray, List.getElem?_cons_zero, List.getElem?_cons_succ]; rfl)
          case h1K00x11 => kernel_rfl
          case h2K00x11 => kernel_rfl
          case h3K00x11 => kernel_rfl
          case h4K00x11 => rfl
          case hqK00x11 => exact fun _ _ _ h => h
          case hyK00x11 => (intro w hSw; (try dsimp only at hSw); go_simp <;> with_reducible rfl)
          (try simp only [Act.put, List.setIfInBounds_toArray, List.set_cons_zero, List.set_cons_succ])
          refine wpAnyH_ready (rs := [12]) (by kernel_rfl) (by simp) ?_
          refine AllReadyH.cons (o := ?oiK00x12) ?hoK00x12 (fun K hK => ?restK00x12) ?moreK00x12
          case moreK00x12 => exact AllReadyH.nil
          case hoK00x12 => (simp only [List.getElem?_toArray, List.getElem?_cons_zero, List.getElem?_cons_succ]; rfl)
          go_simp
          refine (BY _).mono ?_
          rintro e w8 ⟨v8, rfl, ho8, hB8'⟩
          obtain ⟨P2, q2, e8, hq8, hp8⟩ := ho8.reads hmB
          rw [hml] at e8 hq8 hp8
          subst e8
          have hB8 := hBd.trans hB8'
          have cv2 := conv_str (c := q2) hp8
          try go_wp2_with fail
          refine hK.out _ _ ?hSnewK00y12 (fun hHeld => ?restK00y12)
          case hSnewK00y12 => ((try dsimp only); exact HC.out _ hB8)
          clear hK K
          (try simp only [Act.put, List.setIfInBounds_toArray, List.set_cons_zero, List.set_cons_succ])
          refine held_switch (fun w' => (convert 23 9 (.slice P1 12 q1)).run Try.prog w' = .ok (.string (strOfNums ms)) w' ∧ (convert 23 9 (.slice P2 12 q2)).run Try.prog w' = .ok (.string (strOfNums ms)) w') (fun w h => h.1) ?hSnewK00sa (fun hHeld => ?restK00sa)
          case hSnewK00sa => ((try dsimp only); exact ⟨HC.out _ hB8, cv2⟩)
          refine wpAnyH_take (i := 13) (oi := ?oiK00x13) (v := ?vK00x13) ?hoK00x13 ?h1K00x13 ?h2K00x13 ?h3K00x13 ?hqK00x13 (Or.inl ⟨?h4K00x13, ?hyK00x13⟩) (by assumption) ?restK00x13
          case hoK00x13 => (simp only [List.getElem?_toArray, List.getElem?_cons_zero, List.getElem?_cons_succ]; rfl)
          case h1K00x13 => kernel_rfl
          case h2K00x13 => kernel_rfl
          case h3K00x13 => kernel_rfl
          case h4K00x13 => rfl
          case hqK00x13 => exact fun _ _ _ h => h
          case hyK00x13 => (intro w hSw; (try dsimp only at hSw); go_simp <;> with_reducible rfl)
          (try simp only [Act.put, List.setIfInBounds_toArray, List.set_cons_zero, List.set_cons_succ])
          refine wpAnyH_take (i := 14) (oi := ?oiK00x14) (v := ?vK00x14) ?hoK00x14 ?h1K00x14 ?h2K00x14 ?h3K00x14 ?hqK00x14 (Or.inl ⟨?h4K00x14, ?hyK00x14⟩) (by assumption) ?restK00x14
          case hoK00x14 => (simp only [List.getElem?_toArray, List.getElem?_cons_zero, List.getElem?_cons_succ]; rfl)
          case h1K00x14 => kernel_rfl
          case h2K00x14 => kernel_rfl
          case h3K00x14 => kernel_rfl
          case h4K00x14 => rfl
          case hqK00x14 => exact fun _ _ _ h => h
          case hyK00x14 => (intro w hSw; (try dsimp only at hSw); go_simp <;> with_reducible rfl)
          (try simp only [Act.put, List.setIfInBounds_toArray, List.set_cons_zero, List.set_cons_succ])
          refine wpAnyH_take (i := 15) (oi := ?oiK00x15) (v := ?vK00x15) ?hoK00x15 ?h1K00x15 ?h2K00x15 ?h3K00x15 ?hqK00x15 (Or.inl ⟨?h4K00x15, ?hyK00x15⟩) (by assumption) ?restK00x15
          case hoK00x15 => (simp only [List.getElem?_toArray, List.getElem?_cons_zero, List.getElem?_cons_succ]; rfl)
          case h1K00x15 => kernel_rfl
          case h2K00x15 => kernel_rfl
          case h3K00x15 => kernel_rfl
          case h4K00x15 => rfl
          case hqK00x15 => exact fun _ _ _ h => h
          case hyK00x15 => (intro w hSw; (try dsimp only at hSw); go_simp <;> with_reducible rfl)
          (try simp only [Act.put, List.setIfInBounds_toArray, List.set_cons_zero, List.set_cons_succ])
          refine wpAnyH_done (by kernel_rfl) ?_ _
          have hB9 := hB06.trans (hB8.mono hB06.size)
          have hs9 := hB9.size
          clear hB8 hB8' hBd BY HC cv2 hse ho8 hp8 hB06
          go_wp2
          go_ret
          exact ⟨rfl, ((hB9.alloc hs9 _).alloc (Nat.le_trans hs9 (by simp)) _).alloc (Nat.le_trans hs9 (by simp; omega)) _⟩
        · have em : (kd : Int) % 3 = 0 := by omega
          have M1 := fun W => make3_any kd 1 (E : Int) W hkl
          rw [hk] at M1
          have BY := fun W => bytes_0 kd 1 E W hkl hk (by decide) hEl
          have EN := fun W => encode_any 0 1 E (E : Int) W (by decide) (by decide) rfl hx48
          have hi := fun W => is_any 0 1 (E : Int) W (by decide)
          rw [decide_eq_true (show right 0 1 (E : Int) from ⟨by decide, by show (E : Int) < (281474976710656 : Int); omega⟩)] at hi
          have hfm := fun W => from_any 0 1 (E : Int) W
          have hin : ∀ v c, DTold (msg 0 1 E) v c → v = .iface 41 (.agg #[.int .i64 1, .int .u64 (E : Int)]) ∧ c = 0 := fun v c h => by
            rcases h with ⟨k', f', x', E', rfl, rfl, hk', hf', hx', hep, h1, hE', he⟩ | ⟨_, _, hno⟩
            · obtain ⟨rfl, rfl, rfl⟩ := msg_inj (by decide) (by decide) hx48 hk' hf' hx' he
              refine ⟨?_, rfl⟩
              have hE2 : E' = (E : Int) := hep
              rw [hE2]
              rfl
            · exact absurd ⟨0, 1, E, by decide, by decide, hx48, (by intro h; first | rfl | cases h), rfl⟩ hno
          have HIN := hid hin
          have hmB := msg_isB 0 1 E
          have hml := msg_len 0 1 E
          generalize msg 0 1 E = ms at *
          have t1 := ta_bb
          have t2 := ta_bw
          have t3 := ta_bg
          generalize mv 0 1 (E : Int) = mm at *
          clear hin hk
          have hxI : (E : Int) < 281474976710656 := by omega
          have hxd : decide ((E : Int) < 281474976710656) = true := decide_eq_true hxI
          clear hx48 hEl E1
          go_enter Try.func5, Try.ntmps5
          go_wp2_with fail
          refine (M1 w).mono ?_
          rintro e w1 ⟨rfl, rfl⟩
          clear M1
          go_wp2_with fail
          refine (EN w1).mono ?_
          rintro e w2 ⟨v2, rfl, ho2, hB2⟩
          obtain ⟨P1, q1, e2, hq2, hp2⟩ := ho2.reads hmB
          rw [hml] at e2 hq2 hp2
          subst e2
          clear EN ho2
          go_wp2_with fail
          refine (awake_any w2).mono ?_
          rintro e w3 ⟨rfl, hB3⟩
          go_wp2_with fail
          refine (hi w3).mono ?_
          rintro e w4 ⟨rfl, hB4⟩
          go_wp2_with fail
          refine (hfm w4).mono ?_
          rintro e w5 ⟨rfl, hB5⟩
          have hB25 := hB3.trans ((hB4.trans (hB5.mono hB4.size)).mono hB3.size)
          have hp5 := hp2.below hB25
          have hB05 := hB2.trans (hB25.mono hB2.size)
          clear hi hfm hB3 hB4 hB5 hp2 hB2 hB25
          go_wp2_with fail
          refine (decode_any P1 12 q1 ms w5 hp5 hq2 (by decide)).mono ?_
          rintro e w6 ⟨v6, k6, rfl, ht6, hB6⟩
          obtain ⟨rfl, rfl⟩ := HIN.out _ _ ht6
          clear ht6
          have hp6 := hp5.below hB6
          have hB06 := hB05.trans (hB6.mono hB05.size)
          have HC := hid (fun W (h : Below w6.heap.size w6 W) => conv_str (c := q1) (hp6.below h))
          have hBd : Below w6.heap.size w6 (w6.drewN 1) := below_drewN (Below.refl _ _) 1
          have hse := str_eq_true (show ms = ms from rfl)
          clear hp5 hp6 hB05 hB6
          go_upto_region 9 with (fail)
          refine wp_region_held_drew (S := (fun w' => (convert 23 9 (.slice P1 12 q1)).run Try.prog w' = .ok (.string (strOfNums ms)) w')) (by kernel_rfl) ?hSnewK01z (fun hHeld => ?restK01z)
          case hSnewK01z => ((try dsimp only); exact HC.out _ hBd)
          refine wpAnyH_take (i := 0) (oi := ?oiK01x0) (v := ?vK01x0) ?hoK01x0 ?h1K01x0 ?h2K01x0 ?h3K01x0 ?hqK01x0 (Or.inl ⟨?h4K01x0, ?hyK01x0⟩) (by assumption) ?restK01x0
          case hoK01x0 => (simp only [List.getElem?_toArray, List.getElem?_cons_zero, List.getElem?_cons_succ]; rfl)
          case h1K01x0 => kernel_rfl
          case h2K01x0 => kernel_rfl
          case h3K01x0 => kernel_rfl
          case h4K01x0 => rfl
          case hqK01x0 => exact fun _ _ _ h => h
          case hyK01x0 => (intro w hSw; (try dsimp only at hSw); go_simp <;> with_reducible rfl)
          (try simp only [Act.put, List.setIfInBounds_toArray, List.set_cons_zero, List.set_cons_succ])
          refine wpAnyH_take (i := 1) (oi := ?oiK01x1) (v := ?vK01x1) ?hoK01x1 ?h1K01x1 ?h2K01x1 ?h3K01x1 ?hqK01x1 (Or.inl ⟨?h4K01x1, ?hyK01x1⟩) (by assumption) ?restK01x1
          case hoK01x1 => (simp only [List.getElem?_toArray, List.getElem?_cons_zero, List.getElem?_cons_succ]; rfl)
          case h1K01x1 => kernel_rfl
          case h2K01x1 => kernel_rfl
          case h3K01x1 => kernel_rfl
          case h4K01x1 => rfl
          case hqK01x1 => exact fun _ _ _ h => h
          case hyK01x1 => (intro w hSw; (try dsimp only at hSw); go_simp <;> with_reducible rfl)
          (try simp only [Act.put, List.setIfInBounds_toArray, List.set_cons_zero, List.set_cons_succ])
          refine wpAnyH_take (i := 2) (oi := ?oiK01x2) (v := ?vK01x2) ?hoK01x2 ?h1K01x2 ?h2K01x2 ?h3K01x2 ?hqK01x2 (Or.inl ⟨?h4K01x2, ?hyK01x2⟩) (by assumption) ?restK01x2
          case hoK01x2 => (simp only [List.getElem?_toArray, List.getElem?_cons_zero, List.getElem?_cons_succ]; rfl)
          case h1K01x2 => kernel_rfl
          case h2K01x2 => kernel_rfl
          case h3K01x2 => kernel_rfl
          case h4K01x2 => rfl
          case hqK01x2 => exact fun _ _ _ h => h
          case hyK01x2 => (intro w hSw; (try dsimp only at hSw); go_simp <;> with_reducible rfl)
          (try simp only [Act.put, List.setIfInBounds_toArray, List.set_cons_zero, List.set_cons_succ])
          refine wpAnyH_take (i := 3) (oi := ?oiK01x3) (v := ?vK01x3) ?hoK01x3 ?h1K01x3 ?h2K01x3 ?h3K01x3 ?hqK01x3 (Or.inl ⟨?h4K01x3, ?hyK01x3⟩) (by assumption) ?restK01x3
          case hoK01x3 => (simp only [List.getElem?_toArray, List.getElem?_cons_zero, List.getElem?_cons_succ]; rfl)
          case h1K01x3 => kernel_rfl
          case h2K01x3 => kernel_rfl
          case h3K01x3 => kernel_rfl
          case h4K01x3 => rfl
          case hqK01x3 => exact fun _ _ _ h => h
          case hyK01x3 => (intro w hSw; (try dsimp only at hSw); go_simp <;> with_reducible rfl)
          (try simp only [Act.put, List.setIfInBounds_toArray, List.set_cons_zero, List.set_cons_succ])
          refine wpAnyH_take (i := 4) (oi := ?oiK01x4) (v := ?vK01x4) ?hoK01x4 ?h1K01x4 ?h2K01x4 ?h3K01x4 ?hqK01x4 (Or.inl ⟨?h4K01x4, ?hyK01x4⟩) (by assumption) ?restK01x4
          case hoK01x4 => (simp only [List.getElem?_toArray, List.getElem?_cons_zero, List.getElem?_cons_succ]; rfl)
          case h1K01x4 => kernel_rfl
          case h2K01x4 => kernel_rfl
          case h3K01x4 => kernel_rfl
          case h4K01x4 => rfl
          case hqK01x4 => exact fun _ _ _ h => h
          case hyK01x4 => (intro w hSw; (try dsimp only at hSw); go_simp <;> with_reducible rfl)
          (try simp only [Act.put, List.setIfInBounds_toArray, List.set_cons_zero, List.set_cons_succ])
          refine wpAnyH_take (i := 5) (oi := ?oiK01x5) (v := ?vK01x5) ?hoK01x5 ?h1K01x5 ?h2K01x5 ?h3K01x5 ?hqK01x5 (Or.inl ⟨?h4K01x5, ?hyK01x5⟩) (by assumption) ?restK01x5
          case hoK01x5 => (simp only [List.getElem?_toArray, List.getElem?_cons_zero, List.getElem?_cons_succ]; rfl)
          case h1K01x5 => kernel_rfl
          case h2K01x5 => kernel_rfl
          case h3K01x5 => kernel_rfl
          case h4K01x5 => rfl
          case hqK01x5 => exact fun _ _ _ h => h
          case hyK01x5 => (intro w hSw; (try dsimp only at hSw); go_simp <;> with_reducible rfl)
          (try simp only [Act.put, List.setIfInBounds_toArray, List.set_cons_zero, List.set_cons_succ])
          refine wpAnyH_take (i := 6) (oi := ?oiK01x6) (v := ?vK01x6) ?hoK01x6 ?h1K01x6 ?h2K01x6 ?h3K01x6 ?hqK01x6 (Or.inl ⟨?h4K01x6, ?hyK01x6⟩) (by assumption) ?restK01x6
          case hoK01x6 => (simp only [List.getElem?_toArray, List.getElem?_cons_zero, List.getElem?_cons_succ]; rfl)
          case h1K01x6 => kernel_rfl
          case h2K01x6 => kernel_rfl
          case h3K01x6 => kernel_rfl
          case h4K01x6 => rfl
          case hqK01x6 => exact fun _ _ _ h => h
          case hyK01x6 => (intro w hSw; (try dsimp only at hSw); go_simp <;> with_reducible rfl)
          (try simp only [Act.put, List.setIfInBounds_toArray, List.set_cons_zero, List.set_cons_succ])
          refine wpAnyH_take (i := 7) (oi := ?oiK01x7) (v := ?vK01x7) ?hoK01x7 ?h1K01x7 ?h2K01x7 ?h3K01x7 ?hqK01x7 (Or.inl ⟨?h4K01x7, ?hyK01x7⟩) (by assumption) ?restK01x7
          case hoK01x7 => (simp only [List.getElem?_toArray, List.getElem?_cons_zero, List.getElem?_cons_succ]; rfl)
          case h1K01x7 => kernel_rfl
          case h2K01x7 => kernel_rfl
          case h3K01x7 => kernel_rfl
          case h4K01x7 => rfl
          case hqK01x7 => exact fun _ _ _ h => h
          case hyK01x7 => (intro w hSw; (try dsimp only at hSw); go_simp <;> with_reducible rfl)
          (try simp only [Act.put, List.setIfInBounds_toArray, List.set_cons_zero, List.set_cons_succ])
          refine wpAnyH_take (i := 8) (oi := ?oiK01x8) (v := ?vK01x8) ?hoK01x8 ?h1K01x8 ?h2K01x8 ?h3K01x8 ?hqK01x8 (Or.inl ⟨?h4K01x8, ?hyK01x8⟩) (by assumption) ?restK01x8
          case hoK01x8 => (simp only [List.getElem?_toArray, List.getElem?_cons_zero, List.getElem?_cons_succ]; rfl)
          case h1K01x8 => kernel_rfl
          case h2K01x8 => kernel_rfl
          case h3K01x8 => kernel_rfl
          case h4K01x8 => rfl
          case hqK01x8 => exact fun _ _ _ h => h
          case hyK01x8 => (intro w hSw; (try dsimp only at hSw); go_simp <;> with_reducible rfl)
          (try simp only [Act.put, List.setIfInBounds_toArray, List.set_cons_zero, List.set_cons_succ])
          refine wpAnyH_take (i := 9) (oi := ?oiK01x9) (v := ?vK01x9) ?hoK01x9 ?h1K01x9 ?h2K01x9 ?h3K01x9 ?hqK01x9 (Or.inl ⟨?h4K01x9, ?hyK01x9⟩) (by assumption) ?restK01x9
          case hoK01x9 => (simp only [List.getElem?_toArray, List.getElem?_cons_zero, List.getElem?_cons_succ]; rfl)
          case h1K01x9 => kernel_rfl
          case h2K01x9 => kernel_rfl
          case h3K01x9 => kernel_rfl
          case h4K01x9 => rfl
          case hqK01x9 => exact fun _ _ _ h => h
          case hyK01x9 => (intro w hSw; (try dsimp only at hSw); go_simp <;> with_reducible rfl)
          (try simp only [Act.put, List.setIfInBounds_toArray, List.set_cons_zero, List.set_cons_succ])
          refine wpAnyH_take (i := 10) (oi := ?oiK01x10) (v := ?vK01x10) ?hoK01x10 ?h1K01x10 ?h2K01x10 ?h3K01x10 ?hqK01x10 (Or.inl ⟨?h4K01x10, ?hyK01x10⟩) (by assumption) ?restK01x10
          case hoK01x10 => (simp only [List.getElem?_toArray, List.getElem?_cons_zero, List.getElem?_cons_succ]; rfl)
          case h1K01x10 => kernel_rfl
          case h2K01x10 => kernel_rfl
          case h3K01x10 => kernel_rfl
          case h4K01x10 => rfl
          case hqK01x10 => exact fun _ _ _ h => h
          case hyK01x10 => (intro w hSw; (try dsimp only at hSw); go_simp <;> with_reducible rfl)
          (try simp only [Act.put, List.setIfInBounds_toArray, List.set_cons_zero, List.set_cons_succ])
          refine wpAnyH_take (i := 11) (oi := ?oiK01x11) (v := ?vK01x11) ?hoK01x11 ?h1K01x11 ?h2K01x11 ?h3K01x11 ?hqK01x11 (Or.inl ⟨?h4K01x11, ?hyK01x11⟩) (by assumption) ?restK01x11
          case hoK01x11 => (simp only [List.getElem?_toArray, List.getElem?_cons_zero, List.getElem?_cons_succ]; rfl)
          case h1K01x11 => kernel_rfl
          case h2K01x11 => kernel_rfl
          case h3K01x11 => kernel_rfl
          case h4K01x11 => rfl
          case hqK01x11 => exact fun _ _ _ h => h
          case hyK01x11 => (intro w hSw; (try dsimp only at hSw); go_simp <;> with_reducible rfl)
          (try simp only [Act.put, List.setIfInBounds_toArray, List.set_cons_zero, List.set_cons_succ])
          refine wpAnyH_ready (rs := [12]) (by kernel_rfl) (by simp) ?_
          refine AllReadyH.cons (o := ?oiK01x12) ?hoK01x12 (fun K hK => ?restK01x12) ?moreK01x12
          case moreK01x12 => exact AllReadyH.nil
          case hoK01x12 => (simp only [List.getElem?_toArray, List.getElem?_cons_zero, List.getElem?_cons_succ]; rfl)
          go_simp
          refine (BY _).mono ?_
          rintro e w8 ⟨v8, rfl, ho8, hB8'⟩
          obtain ⟨P2, q2, e8, hq8, hp8⟩ := ho8.reads hmB
          rw [hml] at e8 hq8 hp8
          subst e8
          have hB8 := hBd.trans hB8'
          have cv2 := conv_str (c := q2) hp8
          try go_wp2_with fail
          refine hK.out _ _ ?hSnewK01y12 (fun hHeld => ?restK01y12)
          case hSnewK01y12 => ((try dsimp only); exact HC.out _ hB8)
          clear hK K
          (try simp only [Act.put, List.setIfInBounds_toArray, List.set_cons_zero, List.set_cons_succ])
          refine held_switch (fun w' => (convert 23 9 (.slice P1 12 q1)).run Try.prog w' = .ok (.string (strOfNums ms)) w' ∧ (convert 23 9 (.slice P2 12 q2)).run Try.prog w' = .ok (.string (strOfNums ms)) w') (fun w h => h.1) ?hSnewK01sa (fun hHeld => ?restK01sa)
          case hSnewK01sa => ((try dsimp only); exact ⟨HC.out _ hB8, cv2⟩)
          refine wpAnyH_take (i := 13) (oi := ?oiK01x13) (v := ?vK01x13) ?hoK01x13 ?h1K01x13 ?h2K01x13 ?h3K01x13 ?hqK01x13 (Or.inl ⟨?h4K01x13, ?hyK01x13⟩) (by assumption) ?restK01x13
          case hoK01x13 => (simp only [List.getElem?_toArray, List.getElem?_cons_zero, List.getElem?_cons_succ]; rfl)
          case h1K01x13 => kernel_rfl
          case h2K01x13 => kernel_rfl
          case h3K01x13 => kernel_rfl
          case h4K01x13 => rfl
          case hqK01x13 => exact fun _ _ _ h => h
          case hyK01x13 => (intro w hSw; (try dsimp only at hSw); go_simp <;> with_reducible rfl)
          (try simp only [Act.put, List.setIfInBounds_toArray, List.set_cons_zero, List.set_cons_succ])
          refine wpAnyH_take (i := 14) (oi := ?oiK01x14) (v := ?vK01x14) ?hoK01x14 ?h1K01x14 ?h2K01x14 ?h3K01x14 ?hqK01x14 (Or.inl ⟨?h4K01x14, ?hyK01x14⟩) (by assumption) ?restK01x14
          case hoK01x14 => (simp only [List.getElem?_toArray, List.getElem?_cons_zero, List.getElem?_cons_succ]; rfl)
          case h1K01x14 => kernel_rfl
          case h2K01x14 => kernel_rfl
          case h3K01x14 => kernel_rfl
          case h4K01x14 => rfl
          case hqK01x14 => exact fun _ _ _ h => h
          case hyK01x14 => (intro w hSw; (try dsimp only at hSw); go_simp <;> with_reducible rfl)
          (try simp only [Act.put, List.setIfInBounds_toArray, List.set_cons_zero, List.set_cons_succ])
          refine wpAnyH_take (i := 15) (oi := ?oiK01x15) (v := ?vK01x15) ?hoK01x15 ?h1K01x15 ?h2K01x15 ?h3K01x15 ?hqK01x15 (Or.inl ⟨?h4K01x15, ?hyK01x15⟩) (by assumption) ?restK01x15
          case hoK01x15 => (simp only [List.getElem?_toArray, List.getElem?_cons_zero, List.getElem?_cons_succ]; rfl)
          case h1K01x15 => kernel_rfl
          case h2K01x15 => kernel_rfl
          case h3K01x15 => kernel_rfl
          case h4K01x15 => rfl
          case hqK01x15 => exact fun _ _ _ h => h
          case hyK01x15 => (intro w hSw; (try dsimp only at hSw); go_simp <;> with_reducible rfl)
          (try simp only [Act.put, List.setIfInBounds_toArray, List.set_cons_zero, List.set_cons_succ])
          refine wpAnyH_done (by kernel_rfl) ?_ _
          have hB9 := hB06.trans (hB8.mono hB06.size)
          have hs9 := hB9.size
          clear hB8 hB8' hBd BY HC cv2 hse ho8 hp8 hB06
          go_wp2
          go_ret
          exact ⟨rfl, ((hB9.alloc hs9 _).alloc (Nat.le_trans hs9 (by simp)) _).alloc (Nat.le_trans hs9 (by simp; omega)) _⟩
      · have hx : (281474976710656 : Int) ≤ (E : Int) := by omega
        have hxd : decide ((E : Int) < 281474976710656) = false := decide_eq_false (by omega)
        rcases hF with rfl | rfl
        · have hnr : ¬ right 0 0 (E : Int) := by
            rintro ⟨_, h⟩
            have h2 : (E : Int) < 281474976710656 := h
            omega
          have em : (kd : Int) % 3 = 0 := by omega
          have M1 := fun W => make3_any kd 0 (E : Int) W hkl
          rw [hk] at M1
          have EN := fun W => encode_not 0 0 (E : Int) W (by omega) hnr
          have hi := fun W => is_any 0 0 (E : Int) W (by omega)
          rw [decide_eq_false hnr] at hi
          have hfm := fun W => from_any 0 0 (E : Int) W
          generalize mv 0 0 (E : Int) = mm at *
          clear hk hnr hEl
          try clear hx48
          go_enter Try.func5, Try.ntmps5
          go_wp2_with fail
          refine (M1 w).mono ?_
          rintro e w1 ⟨rfl, rfl⟩
          clear M1
          go_wp2_with fail
          refine (EN w1).mono ?_
          rintro e w2 ⟨rfl, hB2⟩
          go_wp2_with fail
          refine (awake_any w2).mono ?_
          rintro e w3 ⟨rfl, hB3⟩
          go_wp2_with fail
          refine (hi w3).mono ?_
          rintro e w4 ⟨rfl, hB4⟩
          go_wp2_with fail
          refine (hfm w4).mono ?_
          rintro e w5 ⟨rfl, hB5⟩
          have hB25 := hB3.trans ((hB4.trans (hB5.mono hB4.size)).mono hB3.size)
          have hB05 := hB2.trans (hB25.mono hB2.size)
          clear hB3 hB4 hB5 hB2 hB25 hi hfm EN
          go_wp2
          go_ret
          exact ⟨rfl, hB05⟩
        · have hnr : ¬ right 0 1 (E : Int) := by
            rintro ⟨_, h⟩
            have h2 : (E : Int) < 281474976710656 := h
            omega
          have em : (kd : Int) % 3 = 0 := by omega
          have M1 := fun W => make3_any kd 1 (E : Int) W hkl
          rw [hk] at M1
          have EN := fun W => encode_not 0 1 (E : Int) W (by omega) hnr
          have hi := fun W => is_any 0 1 (E : Int) W (by omega)
          rw [decide_eq_false hnr] at hi
          have hfm := fun W => from_any 0 1 (E : Int) W
          generalize mv 0 1 (E : Int) = mm at *
          clear hk hnr hEl
          try clear hx48
          go_enter Try.func5, Try.ntmps5
          go_wp2_with fail
          refine (M1 w).mono ?_
          rintro e w1 ⟨rfl, rfl⟩
          clear M1
          go_wp2_with fail
          refine (EN w1).mono ?_
          rintro e w2 ⟨rfl, hB2⟩
          go_wp2_with fail
          refine (awake_any w2).mono ?_
          rintro e w3 ⟨rfl, hB3⟩
          go_wp2_with fail
          refine (hi w3).mono ?_
          rintro e w4 ⟨rfl, hB4⟩
          go_wp2_with fail
          refine (hfm w4).mono ?_
          rintro e w5 ⟨rfl, hB5⟩
          have hB25 := hB3.trans ((hB4.trans (hB5.mono hB4.size)).mono hB3.size)
          have hB05 := hB2.trans (hB25.mono hB2.size)
          clear hB3 hB4 hB5 hB2 hB25 hi hfm EN
          go_wp2
          go_ret
          exact ⟨rfl, hB05⟩
    · rcases hF with rfl | rfl
      · have em : (kd : Int) % 3 = 1 := by omega
        have M1 := fun W => make3_any kd 0 (E : Int) W hkl
        rw [hk] at M1
        have BY := fun W => bytes_1 kd 0 E W hkl hk (by decide) hEl
        have EN := fun W => encode_any 1 0 0 (E : Int) W (by decide) (by decide) rfl (by decide)
        have hi := fun W => is_any 1 0 (E : Int) W (by decide)
        rw [decide_eq_true (show right 1 0 (E : Int) from ⟨by decide, by show (0 : Int) < (281474976710656 : Int); omega⟩)] at hi
        have hfm := fun W => from_any 1 0 (E : Int) W
        have hin : ∀ v c, DTold (msg 1 0 0) v c → v = .iface 33 (.agg #[.int .i64 0]) ∧ c = 0 := fun v c h => by
          rcases h with ⟨k', f', x', E', rfl, rfl, hk', hf', hx', hep, h1, hE', he⟩ | ⟨_, _, hno⟩
          · obtain ⟨rfl, rfl, rfl⟩ := msg_inj (by decide) (by decide) (by decide) hk' hf' hx' he
            refine ⟨?_, rfl⟩
            rfl
          · exact absurd ⟨1, 0, 0, by decide, by decide, (by decide), (by intro h; first | rfl | cases h), rfl⟩ hno
        have HIN := hid hin
        have hmB := msg_isB 1 0 0
        have hml := msg_len 1 0 0
        generalize msg 1 0 0 = ms at *
        have t1 := ta_wb
        have t2 := ta_ww
        have t3 := ta_wg
        generalize mv 1 0 (E : Int) = mm at *
        clear hin hk
        go_enter Try.func5, Try.ntmps5
        go_wp2_with fail
        refine (M1 w).mono ?_
        rintro e w1 ⟨rfl, rfl⟩
        clear M1
        go_wp2_with fail
        refine (EN w1).mono ?_
        rintro e w2 ⟨v2, rfl, ho2, hB2⟩
        obtain ⟨P1, q1, e2, hq2, hp2⟩ := ho2.reads hmB
        rw [hml] at e2 hq2 hp2
        subst e2
        clear EN ho2
        go_wp2_with fail
        refine (awake_any w2).mono ?_
        rintro e w3 ⟨rfl, hB3⟩
        go_wp2_with fail
        refine (hi w3).mono ?_
        rintro e w4 ⟨rfl, hB4⟩
        go_wp2_with fail
        refine (hfm w4).mono ?_
        rintro e w5 ⟨rfl, hB5⟩
        have hB25 := hB3.trans ((hB4.trans (hB5.mono hB4.size)).mono hB3.size)
        have hp5 := hp2.below hB25
        have hB05 := hB2.trans (hB25.mono hB2.size)
        clear hi hfm hB3 hB4 hB5 hp2 hB2 hB25
        go_wp2_with fail
        refine (decode_any P1 12 q1 ms w5 hp5 hq2 (by decide)).mono ?_
        rintro e w6 ⟨v6, k6, rfl, ht6, hB6⟩
        obtain ⟨rfl, rfl⟩ := HIN.out _ _ ht6
        clear ht6
        have hp6 := hp5.below hB6
        have hB06 := hB05.trans (hB6.mono hB05.size)
        have HC := hid (fun W (h : Below w6.heap.size w6 W) => conv_str (c := q1) (hp6.below h))
        have hBd : Below w6.heap.size w6 (w6.drewN 1) := below_drewN (Below.refl _ _) 1
        have hse := str_eq_true (show ms = ms from rfl)
        clear hp5 hp6 hB05 hB6
        go_upto_region 9 with (fail)
        refine wp_region_held_drew (S := (fun w' => (convert 23 9 (.slice P1 12 q1)).run Try.prog w' = .ok (.string (strOfNums ms)) w')) (by kernel_rfl) ?hSnewK10z (fun hHeld => ?restK10z)
        case hSnewK10z => ((try dsimp only); exact HC.out _ hBd)
        refine wpAnyH_take (i := 0) (oi := ?oiK10x0) (v := ?vK10x0) ?hoK10x0 ?h1K10x0 ?h2K10x0 ?h3K10x0 ?hqK10x0 (Or.inl ⟨?h4K10x0, ?hyK10x0⟩) (by assumption) ?restK10x0
        case hoK10x0 => (simp only [List.getElem?_toArray, List.getElem?_cons_zero, List.getElem?_cons_succ]; rfl)
        case h1K10x0 => kernel_rfl
        case h2K10x0 => kernel_rfl
        case h3K10x0 => kernel_rfl
        case h4K10x0 => rfl
        case hqK10x0 => exact fun _ _ _ h => h
        case hyK10x0 => (intro w hSw; (try dsimp only at hSw); go_simp <;> with_reducible rfl)
        (try simp only [Act.put, List.setIfInBounds_toArray, List.set_cons_zero, List.set_cons_succ])
        refine wpAnyH_take (i := 1) (oi := ?oiK10x1) (v := ?vK10x1) ?hoK10x1 ?h1K10x1 ?h2K10x1 ?h3K10x1 ?hqK10x1 (Or.inl ⟨?h4K10x1, ?hyK10x1⟩) (by assumption) ?restK10x1
        case hoK10x1 => (simp only [List.getElem?_toArray, List.getElem?_cons_zero, List.getElem?_cons_succ]; rfl)
        case h1K10x1 => kernel_rfl
        case h2K10x1 => kernel_rfl
        case h3K10x1 => kernel_rfl
        case h4K10x1 => rfl
        case hqK10x1 => exact fun _ _ _ h => h
        case hyK10x1 => (intro w hSw; (try dsimp only at hSw); go_simp <;> with_reducible rfl)
        (try simp only [Act.put, List.setIfInBounds_toArray, List.set_cons_zero, List.set_cons_succ])
        refine wpAnyH_take (i := 2) (oi := ?oiK10x2) (v := ?vK10x2) ?hoK10x2 ?h1K10x2 ?h2K10x2 ?h3K10x2 ?hqK10x2 (Or.inl ⟨?h4K10x2, ?hyK10x2⟩) (by assumption) ?restK10x2
        case hoK10x2 => (simp only [List.getElem?_toArray, List.getElem?_cons_zero, List.getElem?_cons_succ]; rfl)
        case h1K10x2 => kernel_rfl
        case h2K10x2 => kernel_rfl
        case h3K10x2 => kernel_rfl
        case h4K10x2 => rfl
        case hqK10x2 => exact fun _ _ _ h => h
        case hyK10x2 => (intro w hSw; (try dsimp only at hSw); go_simp <;> with_reducible rfl)
        (try simp only [Act.put, List.setIfInBounds_toArray, List.set_cons_zero, List.set_cons_succ])
        refine wpAnyH_take (i := 3) (oi := ?oiK10x3) (v := ?vK10x3) ?hoK10x3 ?h1K10x3 ?h2K10x3 ?h3K10x3 ?hqK10x3 (Or.inl ⟨?h4K10x3, ?hyK10x3⟩) (by assumption) ?restK10x3
        case hoK10x3 => (simp only [List.getElem?_toArray, List.getElem?_cons_zero, List.getElem?_cons_succ]; rfl)
        case h1K10x3 => kernel_rfl
        case h2K10x3 => kernel_rfl
        case h3K10x3 => kernel_rfl
        case h4K10x3 => rfl
        case hqK10x3 => exact fun _ _ _ h => h
        case hyK10x3 => (intro w hSw; (try dsimp only at hSw); go_simp <;> with_reducible rfl)
        (try simp only [Act.put, List.setIfInBounds_toArray, List.set_cons_zero, List.set_cons_succ])
        refine wpAnyH_take (i := 4) (oi := ?oiK10x4) (v := ?vK10x4) ?hoK10x4 ?h1K10x4 ?h2K10x4 ?h3K10x4 ?hqK10x4 (Or.inl ⟨?h4K10x4, ?hyK10x4⟩) (by assumption) ?restK10x4
        case hoK10x4 => (simp only [List.getElem?_toArray, List.getElem?_cons_zero, List.getElem?_cons_succ]; rfl)
        case h1K10x4 => kernel_rfl
        case h2K10x4 => kernel_rfl
        case h3K10x4 => kernel_rfl
        case h4K10x4 => rfl
        case hqK10x4 => exact fun _ _ _ h => h
        case hyK10x4 => (intro w hSw; (try dsimp only at hSw); go_simp <;> with_reducible rfl)
        (try simp only [Act.put, List.setIfInBounds_toArray, List.set_cons_zero, List.set_cons_succ])
        refine wpAnyH_take (i := 5) (oi := ?oiK10x5) (v := ?vK10x5) ?hoK10x5 ?h1K10x5 ?h2K10x5 ?h3K10x5 ?hqK10x5 (Or.inl ⟨?h4K10x5, ?hyK10x5⟩) (by assumption) ?restK10x5
        case hoK10x5 => (simp only [List.getElem?_toArray, List.getElem?_cons_zero, List.getElem?_cons_succ]; rfl)
        case h1K10x5 => kernel_rfl
        case h2K10x5 => kernel_rfl
        case h3K10x5 => kernel_rfl
        case h4K10x5 => rfl
        case hqK10x5 => exact fun _ _ _ h => h
        case hyK10x5 => (intro w hSw; (try dsimp only at hSw); go_simp <;> with_reducible rfl)
        (try simp only [Act.put, List.setIfInBounds_toArray, List.set_cons_zero, List.set_cons_succ])
        refine wpAnyH_take (i := 6) (oi := ?oiK10x6) (v := ?vK10x6) ?hoK10x6 ?h1K10x6 ?h2K10x6 ?h3K10x6 ?hqK10x6 (Or.inl ⟨?h4K10x6, ?hyK10x6⟩) (by assumption) ?restK10x6
        case hoK10x6 => (simp only [List.getElem?_toArray, List.getElem?_cons_zero, List.getElem?_cons_succ]; rfl)
        case h1K10x6 => kernel_rfl
        case h2K10x6 => kernel_rfl
        case h3K10x6 => kernel_rfl
        case h4K10x6 => rfl
        case hqK10x6 => exact fun _ _ _ h => h
        case hyK10x6 => (intro w hSw; (try dsimp only at hSw); go_simp <;> with_reducible rfl)
        (try simp only [Act.put, List.setIfInBounds_toArray, List.set_cons_zero, List.set_cons_succ])
        refine wpAnyH_take (i := 7) (oi := ?oiK10x7) (v := ?vK10x7) ?hoK10x7 ?h1K10x7 ?h2K10x7 ?h3K10x7 ?hqK10x7 (Or.inl ⟨?h4K10x7, ?hyK10x7⟩) (by assumption) ?restK10x7
        case hoK10x7 => (simp only [List.getElem?_toArray, List.getElem?_cons_zero, List.getElem?_cons_succ]; rfl)
        case h1K10x7 => kernel_rfl
        case h2K10x7 => kernel_rfl
        case h3K10x7 => kernel_rfl
        case h4K10x7 => rfl
        case hqK10x7 => exact fun _ _ _ h => h
        case hyK10x7 => (intro w hSw; (try dsimp only at hSw); go_simp <;> with_reducible rfl)
        (try simp only [Act.put, List.setIfInBounds_toArray, List.set_cons_zero, List.set_cons_succ])
        refine wpAnyH_take (i := 8) (oi := ?oiK10x8) (v := ?vK10x8) ?hoK10x8 ?h1K10x8 ?h2K10x8 ?h3K10x8 ?hqK10x8 (Or.inl ⟨?h4K10x8, ?hyK10x8⟩) (by assumption) ?restK10x8
        case hoK10x8 => (simp only [List.getElem?_toArray, List.getElem?_cons_zero, List.getElem?_cons_succ]; rfl)
        case h1K10x8 => kernel_rfl
        case h2K10x8 => kernel_rfl
        case h3K10x8 => kernel_rfl
        case h4K10x8 => rfl
        case hqK10x8 => exact fun _ _ _ h => h
        case hyK10x8 => (intro w hSw; (try dsimp only at hSw); go_simp <;> with_reducible rfl)
        (try simp only [Act.put, List.setIfInBounds_toArray, List.set_cons_zero, List.set_cons_succ])
        refine wpAnyH_take (i := 9) (oi := ?oiK10x9) (v := ?vK10x9) ?hoK10x9 ?h1K10x9 ?h2K10x9 ?h3K10x9 ?hqK10x9 (Or.inl ⟨?h4K10x9, ?hyK10x9⟩) (by assumption) ?restK10x9
        case hoK10x9 => (simp only [List.getElem?_toArray, List.getElem?_cons_zero, List.getElem?_cons_succ]; rfl)
        case h1K10x9 => kernel_rfl
        case h2K10x9 => kernel_rfl
        case h3K10x9 => kernel_rfl
        case h4K10x9 => rfl
        case hqK10x9 => exact fun _ _ _ h => h
        case hyK10x9 => (intro w hSw; (try dsimp only at hSw); go_simp <;> with_reducible rfl)
        (try simp only [Act.put, List.setIfInBounds_toArray, List.set_cons_zero, List.set_cons_succ])
        refine wpAnyH_take (i := 10) (oi := ?oiK10x10) (v := ?vK10x10) ?hoK10x10 ?h1K10x10 ?h2K10x10 ?h3K10x10 ?hqK10x10 (Or.inl ⟨?h4K10x10, ?hyK10x10⟩) (by assumption) ?restK10x10
        case hoK10x10 => (simp only [List.getElem?_toArray, List.getElem?_cons_zero, List.getElem?_cons_succ]; rfl)
        case h1K10x10 => kernel_rfl
        case h2K10x10 => kernel_rfl
        case h3K10x10 => kernel_rfl
        case h4K10x10 => rfl
        case hqK10x10 => exact fun _ _ _ h => h
        case hyK10x10 => (intro w hSw; (try dsimp only at hSw); go_simp <;> with_reducible rfl)
        (try simp only [Act.put, List.setIfInBounds_toArray, List.set_cons_zero, List.set_cons_succ])
        refine wpAnyH_take (i := 11) (oi := ?oiK10x11) (v := ?vK10x11) ?hoK10x11 ?h1K10x11 ?h2K10x11 ?h3K10x11 ?hqK10x11 (Or.inl ⟨?h4K10x11, ?hyK10x11⟩) (by assumption) ?restK10x11
        case hoK10x11 => (simp only [List.getElem?_toArray, List.getElem?_cons_zero, List.getElem?_cons_succ]; rfl)
        case h1K10x11 => kernel_rfl
        case h2K10x11 => kernel_rfl
        case h3K10x11 => kernel_rfl
        case h4K10x11 => rfl
        case hqK10x11 => exact fun _ _ _ h => h
        case hyK10x11 => (intro w hSw; (try dsimp only at hSw); go_simp <;> with_reducible rfl)
        (try simp only [Act.put, List.setIfInBounds_toArray, List.set_cons_zero, List.set_cons_succ])
        refine wpAnyH_ready (rs := [12]) (by kernel_rfl) (by simp) ?_
        refine AllReadyH.cons (o := ?oiK10x12) ?hoK10x12 (fun K hK => ?restK10x12) ?moreK10x12
        case moreK10x12 => exact AllReadyH.nil
        case hoK10x12 => (simp only [List.getElem?_toArray, List.getElem?_cons_zero, List.getElem?_cons_succ]; rfl)
        go_simp
        refine (BY _).mono ?_
        rintro e w8 ⟨v8, rfl, ho8, hB8'⟩
        obtain ⟨P2, q2, e8, hq8, hp8⟩ := ho8.reads hmB
        rw [hml] at e8 hq8 hp8
        subst e8
        have hB8 := hBd.trans hB8'
        have cv2 := conv_str (c := q2) hp8
        try go_wp2_with fail
        refine hK.out _ _ ?hSnewK10y12 (fun hHeld => ?restK10y12)
        case hSnewK10y12 => ((try dsimp only); exact HC.out _ hB8)
        clear hK K
        (try simp only [Act.put, List.setIfInBounds_toArray, List.set_cons_zero, List.set_cons_succ])
        refine held_switch (fun w' => (convert 23 9 (.slice P1 12 q1)).run Try.prog w' = .ok (.string (strOfNums ms)) w' ∧ (convert 23 9 (.slice P2 12 q2)).run Try.prog w' = .ok (.string (strOfNums ms)) w') (fun w h => h.1) ?hSnewK10sa (fun hHeld => ?restK10sa)
        case hSnewK10sa => ((try dsimp only); exact ⟨HC.out _ hB8, cv2⟩)
        refine wpAnyH_take (i := 13) (oi := ?oiK10x13) (v := ?vK10x13) ?hoK10x13 ?h1K10x13 ?h2K10x13 ?h3K10x13 ?hqK10x13 (Or.inl ⟨?h4K10x13, ?hyK10x13⟩) (by assumption) ?restK10x13
        case hoK10x13 => (simp only [List.getElem?_toArray, List.getElem?_cons_zero, List.getElem?_cons_succ]; rfl)
        case h1K10x13 => kernel_rfl
        case h2K10x13 => kernel_rfl
        case h3K10x13 => kernel_rfl
        case h4K10x13 => rfl
        case hqK10x13 => exact fun _ _ _ h => h
        case hyK10x13 => (intro w hSw; (try dsimp only at hSw); go_simp <;> with_reducible rfl)
        (try simp only [Act.put, List.setIfInBounds_toArray, List.set_cons_zero, List.set_cons_succ])
        refine wpAnyH_take (i := 14) (oi := ?oiK10x14) (v := ?vK10x14) ?hoK10x14 ?h1K10x14 ?h2K10x14 ?h3K10x14 ?hqK10x14 (Or.inl ⟨?h4K10x14, ?hyK10x14⟩) (by assumption) ?restK10x14
        case hoK10x14 => (simp only [List.getElem?_toArray, List.getElem?_cons_zero, List.getElem?_cons_succ]; rfl)
        case h1K10x14 => kernel_rfl
        case h2K10x14 => kernel_rfl
        case h3K10x14 => kernel_rfl
        case h4K10x14 => rfl
        case hqK10x14 => exact fun _ _ _ h => h
        case hyK10x14 => (intro w hSw; (try dsimp only at hSw); go_simp <;> with_reducible rfl)
        (try simp only [Act.put, List.setIfInBounds_toArray, List.set_cons_zero, List.set_cons_succ])
        refine wpAnyH_take (i := 15) (oi := ?oiK10x15) (v := ?vK10x15) ?hoK10x15 ?h1K10x15 ?h2K10x15 ?h3K10x15 ?hqK10x15 (Or.inl ⟨?h4K10x15, ?hyK10x15⟩) (by assumption) ?restK10x15
        case hoK10x15 => (simp only [List.getElem?_toArray, List.getElem?_cons_zero, List.getElem?_cons_succ]; rfl)
        case h1K10x15 => kernel_rfl
        case h2K10x15 => kernel_rfl
        case h3K10x15 => kernel_rfl
        case h4K10x15 => rfl
        case hqK10x15 => exact fun _ _ _ h => h
        case hyK10x15 => (intro w hSw; (try dsimp only at hSw); go_simp <;> with_reducible rfl)
        (try simp only [Act.put, List.setIfInBounds_toArray, List.set_cons_zero, List.set_cons_succ])
        refine wpAnyH_done (by kernel_rfl) ?_ _
        have hB9 := hB06.trans (hB8.mono hB06.size)
        have hs9 := hB9.size
        clear hB8 hB8' hBd BY HC cv2 hse ho8 hp8 hB06
        go_wp2
        go_ret
        exact ⟨rfl, ((hB9.alloc hs9 _).alloc (Nat.le_trans hs9 (by simp)) _).alloc (Nat.le_trans hs9 (by simp; omega)) _⟩
      · have em : (kd : Int) % 3 = 1 := by omega
        have M1 := fun W => make3_any kd 1 (E : Int) W hkl
        rw [hk] at M1
        have BY := fun W => bytes_1 kd 1 E W hkl hk (by decide) hEl
        have EN := fun W => encode_any 1 1 0 (E : Int) W (by decide) (by decide) rfl (by decide)
        have hi := fun W => is_any 1 1 (E : Int) W (by decide)
        rw [decide_eq_true (show right 1 1 (E : Int) from ⟨by decide, by show (0 : Int) < (281474976710656 : Int); omega⟩)] at hi
        have hfm := fun W => from_any 1 1 (E : Int) W
        have hin : ∀ v c, DTold (msg 1 1 0) v c → v = .iface 33 (.agg #[.int .i64 1]) ∧ c = 0 := fun v c h => by
          rcases h with ⟨k', f', x', E', rfl, rfl, hk', hf', hx', hep, h1, hE', he⟩ | ⟨_, _, hno⟩
          · obtain ⟨rfl, rfl, rfl⟩ := msg_inj (by decide) (by decide) (by decide) hk' hf' hx' he
            refine ⟨?_, rfl⟩
            rfl
          · exact absurd ⟨1, 1, 0, by decide, by decide, (by decide), (by intro h; first | rfl | cases h), rfl⟩ hno
        have HIN := hid hin
        have hmB := msg_isB 1 1 0
        have hml := msg_len 1 1 0
        generalize msg 1 1 0 = ms at *
        have t1 := ta_wb
        have t2 := ta_ww
        have t3 := ta_wg
        generalize mv 1 1 (E : Int) = mm at *
        clear hin hk
        go_enter Try.func5, Try.ntmps5
        go_wp2_with fail
        refine (M1 w).mono ?_
        rintro e w1 ⟨rfl, rfl⟩
        clear M1
        go_wp2_with fail
        refine (EN w1).mono ?_
        rintro e w2 ⟨v2, rfl, ho2, hB2⟩
        obtain ⟨P1, q1, e2, hq2, hp2⟩ := ho2.reads hmB
        rw [hml] at e2 hq2 hp2
        subst e2
        clear EN ho2
        go_wp2_with fail
        refine (awake_any w2).mono ?_
        rintro e w3 ⟨rfl, hB3⟩
        go_wp2_with fail
        refine (hi w3).mono ?_
        rintro e w4 ⟨rfl, hB4⟩
        go_wp2_with fail
        refine (hfm w4).mono ?_
        rintro e w5 ⟨rfl, hB5⟩
        have hB25 := hB3.trans ((hB4.trans (hB5.mono hB4.size)).mono hB3.size)
        have hp5 := hp2.below hB25
        have hB05 := hB2.trans (hB25.mono hB2.size)
        clear hi hfm hB3 hB4 hB5 hp2 hB2 hB25
        go_wp2_with fail
        refine (decode_any P1 12 q1 ms w5 hp5 hq2 (by decide)).mono ?_
        rintro e w6 ⟨v6, k6, rfl, ht6, hB6⟩
        obtain ⟨rfl, rfl⟩ := HIN.out _ _ ht6
        clear ht6
        have hp6 := hp5.below hB6
        have hB06 := hB05.trans (hB6.mono hB05.size)
        have HC := hid (fun W (h : Below w6.heap.size w6 W) => conv_str (c := q1) (hp6.below h))
        have hBd : Below w6.heap.size w6 (w6.drewN 1) := below_drewN (Below.refl _ _) 1
        have hse := str_eq_true (show ms = ms from rfl)
        clear hp5 hp6 hB05 hB6
        go_upto_region 9 with (fail)
        refine wp_region_held_drew (S := (fun w' => (convert 23 9 (.slice P1 12 q1)).run Try.prog w' = .ok (.string (strOfNums ms)) w')) (by kernel_rfl) ?hSnewK11z (fun hHeld => ?restK11z)
        case hSnewK11z => ((try dsimp only); exact HC.out _ hBd)
        refine wpAnyH_take (i := 0) (oi := ?oiK11x0) (v := ?vK11x0) ?hoK11x0 ?h1K11x0 ?h2K11x0 ?h3K11x0 ?hqK11x0 (Or.inl ⟨?h4K11x0, ?hyK11x0⟩) (by assumption) ?restK11x0
        case hoK11x0 => (simp only [List.getElem?_toArray, List.getElem?_cons_zero, List.getElem?_cons_succ]; rfl)
        case h1K11x0 => kernel_rfl
        case h2K11x0 => kernel_rfl
        case h3K11x0 => kernel_rfl
        case h4K11x0 => rfl
        case hqK11x0 => exact fun _ _ _ h => h
        case hyK11x0 => (intro w hSw; (try dsimp only at hSw); go_simp <;> with_reducible rfl)
        (try simp only [Act.put, List.setIfInBounds_toArray, List.set_cons_zero, List.set_cons_succ])
        refine wpAnyH_take (i := 1) (oi := ?oiK11x1) (v := ?vK11x1) ?hoK11x1 ?h1K11x1 ?h2K11x1 ?h3K11x1 ?hqK11x1 (Or.inl ⟨?h4K11x1, ?hyK11x1⟩) (by assumption) ?restK11x1
        case hoK11x1 => (simp only [List.getElem?_toArray, List.getElem?_cons_zero, List.getElem?_cons_succ]; rfl)
        case h1K11x1 => kernel_rfl
        case h2K11x1 => kernel_rfl
        case h3K11x1 => kernel_rfl
        case h4K11x1 => rfl
        case hqK11x1 => exact fun _ _ _ h => h
        case hyK11x1 => (intro w hSw; (try dsimp only at hSw); go_simp <;> with_reducible rfl)
        (try simp only [Act.put, List.setIfInBounds_toArray, List.set_cons_zero, List.set_cons_succ])
        refine wpAnyH_take (i := 2) (oi := ?oiK11x2) (v := ?vK11x2) ?hoK11x2 ?h1K11x2 ?h2K11x2 ?h3K11x2 ?hqK11x2 (Or.inl ⟨?h4K11x2, ?hyK11x2⟩) (by assumption) ?restK11x2
        case hoK11x2 => (simp only [List.getElem?_toArray, List.getElem?_cons_zero, List.getElem?_cons_succ]; rfl)
        case h1K11x2 => kernel_rfl
        case h2K11x2 => kernel_rfl
        case h3K11x2 => kernel_rfl
        case h4K11x2 => rfl
        case hqK11x2 => exact fun _ _ _ h => h
        case hyK11x2 => (intro w hSw; (try dsimp only at hSw); go_simp <;> with_reducible rfl)
        (try simp only [Act.put, List.setIfInBounds_toArray, List.set_cons_zero, List.set_cons_succ])
        refine wpAnyH_take (i := 3) (oi := ?oiK11x3) (v := ?vK11x3) ?hoK11x3 ?h1K11x3 ?h2K11x3 ?h3K11x3 ?hqK11x3 (Or.inl ⟨?h4K11x3, ?hyK11x3⟩) (by assumption) ?restK11x3
        case hoK11x3 => (simp only [List.getElem?_toArray, List.getElem?_cons_zero, List.getElem?_cons_succ]; rfl)
        case h1K11x3 => kernel_rfl
        case h2K11x3 => kernel_rfl
        case h3K11x3 => kernel_rfl
        case h4K11x3 => rfl
        case hqK11x3 => exact fun _ _ _ h => h
        case hyK11x3 => (intro w hSw; (try dsimp only at hSw); go_simp <;> with_reducible rfl)
        (try simp only [Act.put, List.setIfInBounds_toArray, List.set_cons_zero, List.set_cons_succ])
        refine wpAnyH_take (i := 4) (oi := ?oiK11x4) (v := ?vK11x4) ?hoK11x4 ?h1K11x4 ?h2K11x4 ?h3K11x4 ?hqK11x4 (Or.inl ⟨?h4K11x4, ?hyK11x4⟩) (by assumption) ?restK11x4
        case hoK11x4 => (simp only [List.getElem?_toArray, List.getElem?_cons_zero, List.getElem?_cons_succ]; rfl)
        case h1K11x4 => kernel_rfl
        case h2K11x4 => kernel_rfl
        case h3K11x4 => kernel_rfl
        case h4K11x4 => rfl
        case hqK11x4 => exact fun _ _ _ h => h
        case hyK11x4 => (intro w hSw; (try dsimp only at hSw); go_simp <;> with_reducible rfl)
        (try simp only [Act.put, List.setIfInBounds_toArray, List.set_cons_zero, List.set_cons_succ])
        refine wpAnyH_take (i := 5) (oi := ?oiK11x5) (v := ?vK11x5) ?hoK11x5 ?h1K11x5 ?h2K11x5 ?h3K11x5 ?hqK11x5 (Or.inl ⟨?h4K11x5, ?hyK11x5⟩) (by assumption) ?restK11x5
        case hoK11x5 => (simp only [List.getElem?_toArray, List.getElem?_cons_zero, List.getElem?_cons_succ]; rfl)
        case h1K11x5 => kernel_rfl
        case h2K11x5 => kernel_rfl
        case h3K11x5 => kernel_rfl
        case h4K11x5 => rfl
        case hqK11x5 => exact fun _ _ _ h => h
        case hyK11x5 => (intro w hSw; (try dsimp only at hSw); go_simp <;> with_reducible rfl)
        (try simp only [Act.put, List.setIfInBounds_toArray, List.set_cons_zero, List.set_cons_succ])
        refine wpAnyH_take (i := 6) (oi := ?oiK11x6) (v := ?vK11x6) ?hoK11x6 ?h1K11x6 ?h2K11x6 ?h3K11x6 ?hqK11x6 (Or.inl ⟨?h4K11x6, ?hyK11x6⟩) (by assumption) ?restK11x6
        case hoK11x6 => (simp only [List.getElem?_toArray, List.getElem?_cons_zero, List.getElem?_cons_succ]; rfl)
        case h1K11x6 => kernel_rfl
        case h2K11x6 => kernel_rfl
        case h3K11x6 => kernel_rfl
        case h4K11x6 => rfl
        case hqK11x6 => exact fun _ _ _ h => h
        case hyK11x6 => (intro w hSw; (try dsimp only at hSw); go_simp <;> with_reducible rfl)
        (try simp only [Act.put, List.setIfInBounds_toArray, List.set_cons_zero, List.set_cons_succ])
        refine wpAnyH_take (i := 7) (oi := ?oiK11x7) (v := ?vK11x7) ?hoK11x7 ?h1K11x7 ?h2K11x7 ?h3K11x7 ?hqK11x7 (Or.inl ⟨?h4K11x7, ?hyK11x7⟩) (by assumption) ?restK11x7
        case hoK11x7 => (simp only [List.getElem?_toArray, List.getElem?_cons_zero, List.getElem?_cons_succ]; rfl)
        case h1K11x7 => kernel_rfl
        case h2K11x7 => kernel_rfl
        case h3K11x7 => kernel_rfl
        case h4K11x7 => rfl
        case hqK11x7 => exact fun _ _ _ h => h
        case hyK11x7 => (intro w hSw; (try dsimp only at hSw); go_simp <;> with_reducible rfl)
        (try simp only [Act.put, List.setIfInBounds_toArray, List.set_cons_zero, List.set_cons_succ])
        refine wpAnyH_take (i := 8) (oi := ?oiK11x8) (v := ?vK11x8) ?hoK11x8 ?h1K11x8 ?h2K11x8 ?h3K11x8 ?hqK11x8 (Or.inl ⟨?h4K11x8, ?hyK11x8⟩) (by assumption) ?restK11x8
        case hoK11x8 => (simp only [List.getElem?_toArray, List.getElem?_cons_zero, List.getElem?_cons_succ]; rfl)
        case h1K11x8 => kernel_rfl
        case h2K11x8 => kernel_rfl
        case h3K11x8 => kernel_rfl
        case h4K11x8 => rfl
        case hqK11x8 => exact fun _ _ _ h => h
        case hyK11x8 => (intro w hSw; (try dsimp only at hSw); go_simp <;> with_reducible rfl)
        (try simp only [Act.put, List.setIfInBounds_toArray, List.set_cons_zero, List.set_cons_succ])
        refine wpAnyH_take (i := 9) (oi := ?oiK11x9) (v := ?vK11x9) ?hoK11x9 ?h1K11x9 ?h2K11x9 ?h3K11x9 ?hqK11x9 (Or.inl ⟨?h4K11x9, ?hyK11x9⟩) (by assumption) ?restK11x9
        case hoK11x9 => (simp only [List.getElem?_toArray, List.getElem?_cons_zero, List.getElem?_cons_succ]; rfl)
        case h1K11x9 => kernel_rfl
        case h2K11x9 => kernel_rfl
        case h3K11x9 => kernel_rfl
        case h4K11x9 => rfl
        case hqK11x9 => exact fun _ _ _ h => h
        case hyK11x9 => (intro w hSw; (try dsimp only at hSw); go_simp <;> with_reducible rfl)
        (try simp only [Act.put, List.setIfInBounds_toArray, List.set_cons_zero, List.set_cons_succ])
        refine wpAnyH_take (i := 10) (oi := ?oiK11x10) (v := ?vK11x10) ?hoK11x10 ?h1K11x10 ?h2K11x10 ?h3K11x10 ?hqK11x10 (Or.inl ⟨?h4K11x10, ?hyK11x10⟩) (by assumption) ?restK11x10
        case hoK11x10 => (simp only [List.getElem?_toArray, List.getElem?_cons_zero, List.getElem?_cons_succ]; rfl)
        case h1K11x10 => kernel_rfl
        case h2K11x10 => kernel_rfl
        case h3K11x10 => kernel_rfl
        case h4K11x10 => rfl
        case hqK11x10 => exact fun _ _ _ h => h
        case hyK11x10 => (intro w hSw; (try dsimp only at hSw); go_simp <;> with_reducible rfl)
        (try simp only [Act.put, List.setIfInBounds_toArray, List.set_cons_zero, List.set_cons_succ])
        refine wpAnyH_take (i := 11) (oi := ?oiK11x11) (v := ?vK11x11) ?hoK11x11 ?h1K11x11 ?h2K11x11 ?h3K11x11 ?hqK11x11 (Or.inl ⟨?h4K11x11, ?hyK11x11⟩) (by assumption) ?restK11x11
        case hoK11x11 => (simp only [List.getElem?_toArray, List.getElem?_cons_zero, List.getElem?_cons_succ]; rfl)
        case h1K11x11 => kernel_rfl
        case h2K11x11 => kernel_rfl
        case h3K11x11 => kernel_rfl
        case h4K11x11 => rfl
        case hqK11x11 => exact fun _ _ _ h => h
        case hyK11x11 => (intro w hSw; (try dsimp only at hSw); go_simp <;> with_reducible rfl)
        (try simp only [Act.put, List.setIfInBounds_toArray, List.set_cons_zero, List.set_cons_succ])
        refine wpAnyH_ready (rs := [12]) (by kernel_rfl) (by simp) ?_
        refine AllReadyH.cons (o := ?oiK11x12) ?hoK11x12 (fun K hK => ?restK11x12) ?moreK11x12
        case moreK11x12 => exact AllReadyH.nil
        case hoK11x12 => (simp only [List.getElem?_toArray, List.getElem?_cons_zero, List.getElem?_cons_succ]; rfl)
        go_simp
        refine (BY _).mono ?_
        rintro e w8 ⟨v8, rfl, ho8, hB8'⟩
        obtain ⟨P2, q2, e8, hq8, hp8⟩ := ho8.reads hmB
        rw [hml] at e8 hq8 hp8
        subst e8
        have hB8 := hBd.trans hB8'
        have cv2 := conv_str (c := q2) hp8
        try go_wp2_with fail
        refine hK.out _ _ ?hSnewK11y12 (fun hHeld => ?restK11y12)
        case hSnewK11y12 => ((try dsimp only); exact HC.out _ hB8)
        clear hK K
        (try simp only [Act.put, List.setIfInBounds_toArray, List.set_cons_zero, List.set_cons_succ])
        refine held_switch (fun w' => (convert 23 9 (.slice P1 12 q1)).run Try.prog w' = .ok (.string (strOfNums ms)) w' ∧ (convert 23 9 (.slice P2 12 q2)).run Try.prog w' = .ok (.string (strOfNums ms)) w') (fun w h => h.1) ?hSnewK11sa (fun hHeld => ?restK11sa)
        case hSnewK11sa => ((try dsimp only); exact ⟨HC.out _ hB8, cv2⟩)
        refine wpAnyH_take (i := 13) (oi := ?oiK11x13) (v := ?vK11x13) ?hoK11x13 ?h1K11x13 ?h2K11x13 ?h3K11x13 ?hqK11x13 (Or.inl ⟨?h4K11x13, ?hyK11x13⟩) (by assumption) ?restK11x13
        case hoK11x13 => (simp only [List.getElem?_toArray, List.getElem?_cons_zero, List.getElem?_cons_succ]; rfl)
        case h1K11x13 => kernel_rfl
        case h2K11x13 => kernel_rfl
        case h3K11x13 => kernel_rfl
        case h4K11x13 => rfl
        case hqK11x13 => exact fun _ _ _ h => h
        case hyK11x13 => (intro w hSw; (try dsimp only at hSw); go_simp <;> with_reducible rfl)
        (try simp only [Act.put, List.setIfInBounds_toArray, List.set_cons_zero, List.set_cons_succ])
        refine wpAnyH_take (i := 14) (oi := ?oiK11x14) (v := ?vK11x14) ?hoK11x14 ?h1K11x14 ?h2K11x14 ?h3K11x14 ?hqK11x14 (Or.inl ⟨?h4K11x14, ?hyK11x14⟩) (by assumption) ?restK11x14
        case hoK11x14 => (simp only [List.getElem?_toArray, List.getElem?_cons_zero, List.getElem?_cons_succ]; rfl)
        case h1K11x14 => kernel_rfl
        case h2K11x14 => kernel_rfl
        case h3K11x14 => kernel_rfl
        case h4K11x14 => rfl
        case hqK11x14 => exact fun _ _ _ h => h
        case hyK11x14 => (intro w hSw; (try dsimp only at hSw); go_simp <;> with_reducible rfl)
        (try simp only [Act.put, List.setIfInBounds_toArray, List.set_cons_zero, List.set_cons_succ])
        refine wpAnyH_take (i := 15) (oi := ?oiK11x15) (v := ?vK11x15) ?hoK11x15 ?h1K11x15 ?h2K11x15 ?h3K11x15 ?hqK11x15 (Or.inl ⟨?h4K11x15, ?hyK11x15⟩) (by assumption) ?restK11x15
        case hoK11x15 => (simp only [List.getElem?_toArray, List.getElem?_cons_zero, List.getElem?_cons_succ]; rfl)
        case h1K11x15 => kernel_rfl
        case h2K11x15 => kernel_rfl
        case h3K11x15 => kernel_rfl
        case h4K11x15 => rfl
        case hqK11x15 => exact fun _ _ _ h => h
        case hyK11x15 => (intro w hSw; (try dsimp only at hSw); go_simp <;> with_reducible rfl)
        (try simp only [Act.put, List.setIfInBounds_toArray, List.set_cons_zero, List.set_cons_succ])
        refine wpAnyH_done (by kernel_rfl) ?_ _
        have hB9 := hB06.trans (hB8.mono hB06.size)
        have hs9 := hB9.size
        clear hB8 hB8' hBd BY HC cv2 hse ho8 hp8 hB06
        go_wp2
        go_ret
        exact ⟨rfl, ((hB9.alloc hs9 _).alloc (Nat.le_trans hs9 (by simp)) _).alloc (Nat.le_trans hs9 (by simp; omega)) _⟩
    · by_cases hx48 : E < 281474976710656
      · rcases hF with rfl | rfl
        · have em : (kd : Int) % 3 = 2 := by omega
          have M1 := fun W => make3_any kd 0 (E : Int) W hkl
          rw [hk] at M1
          have BY := fun W => bytes_2 kd 0 E W hkl hk (by decide) hEl
          have EN := fun W => encode_any 2 0 E (E : Int) W (by decide) (by decide) rfl hx48
          have hi := fun W => is_any 2 0 (E : Int) W (by decide)
          rw [decide_eq_true (show right 2 0 (E : Int) from ⟨by decide, by show (E : Int) < (281474976710656 : Int); omega⟩)] at hi
          have hfm := fun W => from_any 2 0 (E : Int) W
          have hin : ∀ v c, DTold (msg 2 0 E) v c → v = .iface 44 (.agg #[.int .i64 0, .int .u64 (E : Int)]) ∧ c = 0 := fun v c h => by
            rcases h with ⟨k', f', x', E', rfl, rfl, hk', hf', hx', hep, h1, hE', he⟩ | ⟨_, _, hno⟩
            · obtain ⟨rfl, rfl, rfl⟩ := msg_inj (by decide) (by decide) hx48 hk' hf' hx' he
              refine ⟨?_, rfl⟩
              have hE2 : E' = (E : Int) := hep
              rw [hE2]
              rfl
            · exact absurd ⟨2, 0, E, by decide, by decide, hx48, (by intro h; first | rfl | cases h), rfl⟩ hno
          have HIN := hid hin
          have hmB := msg_isB 2 0 E
          have hml := msg_len 2 0 E
          generalize msg 2 0 E = ms at *
          have t1 := ta_gb
          have t2 := ta_gw
          have t3 := ta_gg
          generalize mv 2 0 (E : Int) = mm at *
          clear hin hk
          have hxI : (E : Int) < 281474976710656 := by omega
          have hxd : decide ((E : Int) < 281474976710656) = true := decide_eq_true hxI
          clear hx48 hEl E1
          go_enter Try.func5, Try.ntmps5
          go_wp2_with fail
          refine (M1 w).mono ?_
          rintro e w1 ⟨rfl, rfl⟩
          clear M1
          go_wp2_with fail
          refine (EN w1).mono ?_
          rintro e w2 ⟨v2, rfl, ho2, hB2⟩
          obtain ⟨P1, q1, e2, hq2, hp2⟩ := ho2.reads hmB
          rw [hml] at e2 hq2 hp2
          subst e2
          clear EN ho2
          go_wp2_with fail
          refine (awake_any w2).mono ?_
          rintro e w3 ⟨rfl, hB3⟩
          go_wp2_with fail
          refine (hi w3).mono ?_
          rintro e w4 ⟨rfl, hB4⟩
          go_wp2_with fail
          refine (hfm w4).mono ?_
          rintro e w5 ⟨rfl, hB5⟩
          have hB25 := hB3.trans ((hB4.trans (hB5.mono hB4.size)).mono hB3.size)
          have hp5 := hp2.below hB25
          have hB05 := hB2.trans (hB25.mono hB2.size)
          clear hi hfm hB3 hB4 hB5 hp2 hB2 hB25
          go_wp2_with fail
          refine (decode_any P1 12 q1 ms w5 hp5 hq2 (by decide)).mono ?_
          rintro e w6 ⟨v6, k6, rfl, ht6, hB6⟩
          obtain ⟨rfl, rfl⟩ := HIN.out _ _ ht6
          clear ht6
          have hp6 := hp5.below hB6
          have hB06 := hB05.trans (hB6.mono hB05.size)
          have HC := hid (fun W (h : Below w6.heap.size w6 W) => conv_str (c := q1) (hp6.below h))
          have hBd : Below w6.heap.size w6 (w6.drewN 1) := below_drewN (Below.refl _ _) 1
          have hse := str_eq_true (show ms = ms from rfl)
          clear hp5 hp6 hB05 hB6
          go_upto_region 9 with (fail)
          refine wp_region_held_drew (S := (fun w' => (convert 23 9 (.slice P1 12 q1)).run Try.prog w' = .ok (.string (strOfNums ms)) w')) (by kernel_rfl) ?hSnewK20z (fun hHeld => ?restK20z)
          case hSnewK20z => ((try dsimp only); exact HC.out _ hBd)
          refine wpAnyH_take (i := 0) (oi := ?oiK20x0) (v := ?vK20x0) ?hoK20x0 ?h1K20x0 ?h2K20x0 ?h3K20x0 ?hqK20x0 (Or.inl ⟨?h4K20x0, ?hyK20x0⟩) (by assumption) ?restK20x0
          case hoK20x0 => (simp only [List.getElem?_toArray, List.getElem?_cons_zero, List.getElem?_cons_succ]; rfl)
          case h1K20x0 => kernel_rfl
          case h2K20x0 => kernel_rfl
          case h3K20x0 => kernel_rfl
          case h4K20x0 => rfl
          case hqK20x0 => exact fun _ _ _ h => h
          case hyK20x0 => (intro w hSw; (try dsimp only at hSw); go_simp <;> with_reducible rfl)
          (try simp only [Act.put, List.setIfInBounds_toArray, List.set_cons_zero, List.set_cons_succ])
          refine wpAnyH_take (i := 1) (oi := ?oiK20x1) (v := ?vK20x1) ?hoK20x1 ?h1K20x1 ?h2K20x1 ?h3K20x1 ?hqK20x1 (Or.inl ⟨?h4K20x1, ?hyK20x1⟩) (by assumption) ?restK20x1
          case hoK20x1 => (simp only [List.getElem?_toArray, List.getElem?_cons_zero, List.getElem?_cons_succ]; rfl)
          case h1K20x1 => kernel_rfl
          case h2K20x1 => kernel_rfl
          case h3K20x1 => kernel_rfl
          case h4K20x1 => rfl
          case hqK20x1 => exact fun _ _ _ h => h
          case hyK20x1 => (intro w hSw; (try dsimp only at hSw); go_simp <;> with_reducible rfl)
          (try simp only [Act.put, List.setIfInBounds_toArray, List.set_cons_zero, List.set_cons_succ])
          refine wpAnyH_take (i := 2) (oi := ?oiK20x2) (v := ?vK20x2) ?hoK20x2 ?h1K20x2 ?h2K20x2 ?h3K20x2 ?hqK20x2 (Or.inl ⟨?h4K20x2, ?hyK20x2⟩) (by assumption) ?restK20x2
          case hoK20x2 => (simp only [List.getElem?_toArray, List.getElem?_cons_zero, List.getElem?_cons_succ]; rfl)
          case h1K20x2 => kernel_rfl
          case h2K20x2 => kernel_rfl
          case h3K20x2 => kernel_rfl
          case h4K20x2 => rfl
          case hqK20x2 => exact fun _ _ _ h => h
          case hyK20x2 => (intro w hSw; (try dsimp only at hSw); go_simp <;> with_reducible rfl)
          (try simp only [Act.put, List.setIfInBounds_toArray, List.set_cons_zero, List.set_cons_succ])
          refine wpAnyH_take (i := 3) (oi := ?oiK20x3) (v := ?vK20x3) ?hoK20x3 ?h1K20x3 ?h2K20x3 ?h3K20x3 ?hqK20x3 (Or.inl ⟨?h4K20x3, ?hyK20x3⟩) (by assumption) ?restK20x3
          case hoK20x3 => (simp only [List.getElem?_toArray, List.getElem?_cons_zero, List.getElem?_cons_succ]; rfl)
          case h1K20x3 => kernel_rfl
          case h2K20x3 => kernel_rfl
          case h3K20x3 => kernel_rfl
          case h4K20x3 => rfl
          case hqK20x3 => exact fun _ _ _ h => h
          case hyK20x3 => (intro w hSw; (try dsimp only at hSw); go_simp <;> with_reducible rfl)
          (try simp only [Act.put, List.setIfInBounds_toArray, List.set_cons_zero, List.set_cons_succ])
          refine wpAnyH_take (i := 4) (oi := ?oiK20x4) (v := ?vK20x4) ?hoK20x4 ?h1K20x4 ?h2K20x4 ?h3K20x4 ?hqK20x4 (Or.inl ⟨?h4K20x4, ?hyK20x4⟩) (by assumption) ?restK20x4
          case hoK20x4 => (simp only [List.getElem?_toArray, List.getElem?_cons_zero, List.getElem?_cons_succ]; rfl)
          case h1K20x4 => kernel_rfl
          case h2K20x4 => kernel_rfl
          case h3K20x4 => kernel_rfl
          case h4K20x4 => rfl
          case hqK20x4 => exact fun _ _ _ h => h
          case hyK20x4 => (intro w hSw; (try dsimp only at hSw); go_simp <;> with_reducible rfl)
          (try simp only [Act.put, List.setIfInBounds_toArray, List.set_cons_zero, List.set_cons_succ])
          refine wpAnyH_take (i := 5) (oi := ?oiK20x5) (v := ?vK20x5) ?hoK20x5 ?h1K20x5 ?h2K20x5 ?h3K20x5 ?hqK20x5 (Or.inl ⟨?h4K20x5, ?hyK20x5⟩) (by assumption) ?restK20x5
          case hoK20x5 => (simp only [List.getElem?_toArray, List.getElem?_cons_zero, List.getElem?_cons_succ]; rfl)
          case h1K20x5 => kernel_rfl
          case h2K20x5 => kernel_rfl
          case h3K20x5 => kernel_rfl
          case h4K20x5 => rfl
          case hqK20x5 => exact fun _ _ _ h => h
          case hyK20x5 => (intro w hSw; (try dsimp only at hSw); go_simp <;> with_reducible rfl)
          (try simp only [Act.put, List.setIfInBounds_toArray, List.set_cons_zero, List.set_cons_succ])
          refine wpAnyH_take (i := 6) (oi := ?oiK20x6) (v := ?vK20x6) ?hoK20x6 ?h1K20x6 ?h2K20x6 ?h3K20x6 ?hqK20x6 (Or.inl ⟨?h4K20x6, ?hyK20x6⟩) (by assumption) ?restK20x6
          case hoK20x6 => (simp only [List.getElem?_toArray, List.getElem?_cons_zero, List.getElem?_cons_succ]; rfl)
          case h1K20x6 => kernel_rfl
          case h2K20x6 => kernel_rfl
          case h3K20x6 => kernel_rfl
          case h4K20x6 => rfl
          case hqK20x6 => exact fun _ _ _ h => h
          case hyK20x6 => (intro w hSw; (try dsimp only at hSw); go_simp <;> with_reducible rfl)
          (try simp only [Act.put, List.setIfInBounds_toArray, List.set_cons_zero, List.set_cons_succ])
          refine wpAnyH_take (i := 7) (oi := ?oiK20x7) (v := ?vK20x7) ?hoK20x7 ?h1K20x7 ?h2K20x7 ?h3K20x7 ?hqK20x7 (Or.inl ⟨?h4K20x7, ?hyK20x7⟩) (by assumption) ?restK20x7
          case hoK20x7 => (simp only [List.getElem?_toArray, List.getElem?_cons_zero, List.getElem?_cons_succ]; rfl)
          case h1K20x7 => kernel_rfl
          case h2K20x7 => kernel_rfl
          case h3K20x7 => kernel_rfl
          case h4K20x7 => rfl
          case hqK20x7 => exact fun _ _ _ h => h
          case hyK20x7 => (intro w hSw; (try dsimp only at hSw); go_simp <;> with_reducible rfl)
          (try simp only [Act.put, List.setIfInBounds_toArray, List.set_cons_zero, List.set_cons_succ])
          refine wpAnyH_take (i := 8) (oi := ?oiK20x8) (v := ?vK20x8) ?hoK20x8 ?h1K20x8 ?h2K20x8 ?h3K20x8 ?hqK20x8 (Or.inl ⟨?h4K20x8, ?hyK20x8⟩) (by assumption) ?restK20x8
          case hoK20x8 => (simp only [List.getElem?_toArray, List.getElem?_cons_zero, List.getElem?_cons_succ]; rfl)
          case h1K20x8 => kernel_rfl
          case h2K20x8 => kernel_rfl
          case h3K20x8 => kernel_rfl
          case h4K20x8 => rfl
          case hqK20x8 => exact fun _ _ _ h => h
          case hyK20x8 => (intro w hSw; (try dsimp only at hSw); go_simp <;> with_reducible rfl)
          (try simp only [Act.put, List.setIfInBounds_toArray, List.set_cons_zero, List.set_cons_succ])
          refine wpAnyH_take (i := 9) (oi := ?oiK20x9) (v := ?vK20x9) ?hoK20x9 ?h1K20x9 ?h2K20x9 ?h3K20x9 ?hqK20x9 (Or.inl ⟨?h4K20x9, ?hyK20x9⟩) (by assumption) ?restK20x9
          case hoK20x9 => (simp only [List.getElem?_toArray, List.getElem?_cons_zero, List.getElem?_cons_succ]; rfl)
          case h1K20x9 => kernel_rfl
          case h2K20x9 => kernel_rfl
          case h3K20x9 => kernel_rfl
          case h4K20x9 => rfl
          case hqK20x9 => exact fun _ _ _ h => h
          case hyK20x9 => (intro w hSw; (try dsimp only at hSw); go_simp <;> with_reducible rfl)
          (try simp only [Act.put, List.setIfInBounds_toArray, List.set_cons_zero, List.set_cons_succ])
          refine wpAnyH_take (i := 10) (oi := ?oiK20x10) (v := ?vK20x10) ?hoK20x10 ?h1K20x10 ?h2K20x10 ?h3K20x10 ?hqK20x10 (Or.inl ⟨?h4K20x10, ?hyK20x10⟩) (by assumption) ?restK20x10
          case hoK20x10 => (simp only [List.getElem?_toArray, List.getElem?_cons_zero, List.getElem?_cons_succ]; rfl)
          case h1K20x10 => kernel_rfl
          case h2K20x10 => kernel_rfl
          case h3K20x10 => kernel_rfl
          case h4K20x10 => rfl
          case hqK20x10 => exact fun _ _ _ h => h
          case hyK20x10 => (intro w hSw; (try dsimp only at hSw); go_simp <;> with_reducible rfl)
          (try simp only [Act.put, List.setIfInBounds_toArray, List.set_cons_zero, List.set_cons_succ])
          refine wpAnyH_take (i := 11) (oi := ?oiK20x11) (v := ?vK20x11) ?hoK20x11 ?h1K20x11 ?h2K20x11 ?h3K20x11 ?hqK20x11 (Or.inl ⟨?h4K20x11, ?hyK20x11⟩) (by assumption) ?restK20x11
          case hoK20x11 => (simp only [List.getElem?_toArray, List.getElem?_cons_zero, List.getElem?_cons_succ]; rfl)
          case h1K20x11 => kernel_rfl
          case h2K20x11 => kernel_rfl
          case h3K20x11 => kernel_rfl
          case h4K20x11 => rfl
          case hqK20x11 => exact fun _ _ _ h => h
          case hyK20x11 => (intro w hSw; (try dsimp only at hSw); go_simp <;> with_reducible rfl)
          (try simp only [Act.put, List.setIfInBounds_toArray, List.set_cons_zero, List.set_cons_succ])
          refine wpAnyH_ready (rs := [12]) (by kernel_rfl) (by simp) ?_
          refine AllReadyH.cons (o := ?oiK20x12) ?hoK20x12 (fun K hK => ?restK20x12) ?moreK20x12
          case moreK20x12 => exact AllReadyH.nil
          case hoK20x12 => (simp only [List.getElem?_toArray, List.getElem?_cons_zero, List.getElem?_cons_succ]; rfl)
          go_simp
          refine (BY _).mono ?_
          rintro e w8 ⟨v8, rfl, ho8, hB8'⟩
          obtain ⟨P2, q2, e8, hq8, hp8⟩ := ho8.reads hmB
          rw [hml] at e8 hq8 hp8
          subst e8
          have hB8 := hBd.trans hB8'
          have cv2 := conv_str (c := q2) hp8
          try go_wp2_with fail
          refine hK.out _ _ ?hSnewK20y12 (fun hHeld => ?restK20y12)
          case hSnewK20y12 => ((try dsimp only); exact HC.out _ hB8)
          clear hK K
          (try simp only [Act.put, List.setIfInBounds_toArray, List.set_cons_zero, List.set_cons_succ])
          refine held_switch (fun w' => (convert 23 9 (.slice P1 12 q1)).run Try.prog w' = .ok (.string (strOfNums ms)) w' ∧ (convert 23 9 (.slice P2 12 q2)).run Try.prog w' = .ok (.string (strOfNums ms)) w') (fun w h => h.1) ?hSnewK20sa (fun hHeld => ?restK20sa)
          case hSnewK20sa => ((try dsimp only); exact ⟨HC.out _ hB8, cv2⟩)
          refine wpAnyH_take (i := 13) (oi := ?oiK20x13) (v := ?vK20x13) ?hoK20x13 ?h1K20x13 ?h2K20x13 ?h3K20x13 ?hqK20x13 (Or.inl ⟨?h4K20x13, ?hyK20x13⟩) (by assumption) ?restK20x13
          case hoK20x13 => (simp only [List.getElem?_toArray, List.getElem?_cons_zero, List.getElem?_cons_succ]; rfl)
          case h1K20x13 => kernel_rfl
          case h2K20x13 => kernel_rfl
          case h3K20x13 => kernel_rfl
          case h4K20x13 => rfl
          case hqK20x13 => exact fun _ _ _ h => h
          case hyK20x13 => (intro w hSw; (try dsimp only at hSw); go_simp <;> with_reducible rfl)
          (try simp only [Act.put, List.setIfInBounds_toArray, List.set_cons_zero, List.set_cons_succ])
          refine wpAnyH_take (i := 14) (oi := ?oiK20x14) (v := ?vK20x14) ?hoK20x14 ?h1K20x14 ?h2K20x14 ?h3K20x14 ?hqK20x14 (Or.inl ⟨?h4K20x14, ?hyK20x14⟩) (by assumption) ?restK20x14
          case hoK20x14 => (simp only [List.getElem?_toArray, List.getElem?_cons_zero, List.getElem?_cons_succ]; rfl)
          case h1K20x14 => kernel_rfl
          case h2K20x14 => kernel_rfl
          case h3K20x14 => kernel_rfl
          case h4K20x14 => rfl
          case hqK20x14 => exact fun _ _ _ h => h
          case hyK20x14 => (intro w hSw; (try dsimp only at hSw); go_simp <;> with_reducible rfl)
          (try simp only [Act.put, List.setIfInBounds_toArray, List.set_cons_zero, List.set_cons_succ])
          refine wpAnyH_take (i := 15) (oi := ?oiK20x15) (v := ?vK20x15) ?hoK20x15 ?h1K20x15 ?h2K20x15 ?h3K20x15 ?hqK20x15 (Or.inl ⟨?h4K20x15, ?hyK20x15⟩) (by assumption) ?restK20x15
          case hoK20x15 => (simp only [List.getElem?_toArray, List.getElem?_cons_zero, List.getElem?_cons_succ]; rfl)
          case h1K20x15 => kernel_rfl
          case h2K20x15 => kernel_rfl
          case h3K20x15 => kernel_rfl
          case h4K20x15 => rfl
          case hqK20x15 => exact fun _ _ _ h => h
          case hyK20x15 => (intro w hSw; (try dsimp only at hSw); go_simp <;> with_reducible rfl)
          (try simp only [Act.put, List.setIfInBounds_toArray, List.set_cons_zero, List.set_cons_succ])
          refine wpAnyH_done (by kernel_rfl) ?_ _
          have hB9 := hB06.trans (hB8.mono hB06.size)
          have hs9 := hB9.size
          clear hB8 hB8' hBd BY HC cv2 hse ho8 hp8 hB06
          go_wp2
          go_ret
          exact ⟨rfl, ((hB9.alloc hs9 _).alloc (Nat.le_trans hs9 (by simp)) _).alloc (Nat.le_trans hs9 (by simp; omega)) _⟩
        · have em : (kd : Int) % 3 = 2 := by omega
          have M1 := fun W => make3_any kd 1 (E : Int) W hkl
          rw [hk] at M1
          have BY := fun W => bytes_2 kd 1 E W hkl hk (by decide) hEl
          have EN := fun W => encode_any 2 1 E (E : Int) W (by decide) (by decide) rfl hx48
          have hi := fun W => is_any 2 1 (E : Int) W (by decide)
          rw [decide_eq_true (show right 2 1 (E : Int) from ⟨by decide, by show (E : Int) < (281474976710656 : Int); omega⟩)] at hi
          have hfm := fun W => from_any 2 1 (E : Int) W
          have hin : ∀ v c, DTold (msg 2 1 E) v c → v = .iface 44 (.agg #[.int .i64 1, .int .u64 (E : Int)]) ∧ c = 0 := fun v c h => by
            rcases h with ⟨k', f', x', E', rfl, rfl, hk', hf', hx', hep, h1, hE', he⟩ | ⟨_, _, hno⟩
            · obtain ⟨rfl, rfl, rfl⟩ := msg_inj (by decide) (by decide) hx48 hk' hf' hx' he
              refine ⟨?_, rfl⟩
              have hE2 : E' = (E : Int) := hep
              rw [hE2]
              rfl
            · exact absurd ⟨2, 1, E, by decide, by decide, hx48, (by intro h; first | rfl | cases h), rfl⟩ hno
          have HIN := hid hin
          have hmB := msg_isB 2 1 E
          have hml := msg_len 2 1 E
          generalize msg 2 1 E = ms at *
          have t1 := ta_gb
          have t2 := ta_gw
          have t3 := ta_gg
          generalize mv 2 1 (E : Int) = mm at *
          clear hin hk
          have hxI : (E : Int) < 281474976710656 := by omega
          have hxd : decide ((E : Int) < 281474976710656) = true := decide_eq_true hxI
          clear hx48 hEl E1
          go_enter Try.func5, Try.ntmps5
          go_wp2_with fail
          refine (M1 w).mono ?_
          rintro e w1 ⟨rfl, rfl⟩
          clear M1
          go_wp2_with fail
          refine (EN w1).mono ?_
          rintro e w2 ⟨v2, rfl, ho2, hB2⟩
          obtain ⟨P1, q1, e2, hq2, hp2⟩ := ho2.reads hmB
          rw [hml] at e2 hq2 hp2
          subst e2
          clear EN ho2
          go_wp2_with fail
          refine (awake_any w2).mono ?_
          rintro e w3 ⟨rfl, hB3⟩
          go_wp2_with fail
          refine (hi w3).mono ?_
          rintro e w4 ⟨rfl, hB4⟩
          go_wp2_with fail
          refine (hfm w4).mono ?_
          rintro e w5 ⟨rfl, hB5⟩
          have hB25 := hB3.trans ((hB4.trans (hB5.mono hB4.size)).mono hB3.size)
          have hp5 := hp2.below hB25
          have hB05 := hB2.trans (hB25.mono hB2.size)
          clear hi hfm hB3 hB4 hB5 hp2 hB2 hB25
          go_wp2_with fail
          refine (decode_any P1 12 q1 ms w5 hp5 hq2 (by decide)).mono ?_
          rintro e w6 ⟨v6, k6, rfl, ht6, hB6⟩
          obtain ⟨rfl, rfl⟩ := HIN.out _ _ ht6
          clear ht6
          have hp6 := hp5.below hB6
          have hB06 := hB05.trans (hB6.mono hB05.size)
          have HC := hid (fun W (h : Below w6.heap.size w6 W) => conv_str (c := q1) (hp6.below h))
          have hBd : Below w6.heap.size w6 (w6.drewN 1) := below_drewN (Below.refl _ _) 1
          have hse := str_eq_true (show ms = ms from rfl)
          clear hp5 hp6 hB05 hB6
          go_upto_region 9 with (fail)
          refine wp_region_held_drew (S := (fun w' => (convert 23 9 (.slice P1 12 q1)).run Try.prog w' = .ok (.string (strOfNums ms)) w')) (by kernel_rfl) ?hSnewK21z (fun hHeld => ?restK21z)
          case hSnewK21z => ((try dsimp only); exact HC.out _ hBd)
          refine wpAnyH_take (i := 0) (oi := ?oiK21x0) (v := ?vK21x0) ?hoK21x0 ?h1K21x0 ?h2K21x0 ?h3K21x0 ?hqK21x0 (Or.inl ⟨?h4K21x0, ?hyK21x0⟩) (by assumption) ?restK21x0
          case hoK21x0 => (simp only [List.getElem?_toArray, List.getElem?_cons_zero, List.getElem?_cons_succ]; rfl)
          case h1K21x0 => kernel_rfl
          case h2K21x0 => kernel_rfl
          case h3K21x0 => kernel_rfl
          case h4K21x0 => rfl
          case hqK21x0 => exact fun _ _ _ h => h
          case hyK21x0 => (intro w hSw; (try dsimp only at hSw); go_simp <;> with_reducible rfl)
          (try simp only [Act.put, List.setIfInBounds_toArray, List.set_cons_zero, List.set_cons_succ])
          refine wpAnyH_take (i := 1) (oi := ?oiK21x1) (v := ?vK21x1) ?hoK21x1 ?h1K21x1 ?h2K21x1 ?h3K21x1 ?hqK21x1 (Or.inl ⟨?h4K21x1, ?hyK21x1⟩) (by assumption) ?restK21x1
          case hoK21x1 => (simp only [List.getElem?_toArray, List.getElem?_cons_zero, List.getElem?_cons_succ]; rfl)
          case h1K21x1 => kernel_rfl
          case h2K21x1 => kernel_rfl
          case h3K21x1 => kernel_rfl
          case h4K21x1 => rfl
          case hqK21x1 => exact fun _ _ _ h => h
          case hyK21x1 => (intro w hSw; (try dsimp only at hSw); go_simp <;> with_reducible rfl)
          (try simp only [Act.put, List.setIfInBounds_toArray, List.set_cons_zero, List.set_cons_succ])
          refine wpAnyH_take (i := 2) (oi := ?oiK21x2) (v := ?vK21x2) ?hoK21x2 ?h1K21x2 ?h2K21x2 ?h3K21x2 ?hqK21x2 (Or.inl ⟨?h4K21x2, ?hyK21x2⟩) (by assumption) ?restK21x2
          case hoK21x2 => (simp only [List.getElem?_toArray, List.getElem?_cons_zero, List.getElem?_cons_succ]; rfl)
          case h1K21x2 => kernel_rfl
          case h2K21x2 => kernel_rfl
          case h3K21x2 => kernel_rfl
          case h4K21x2 => rfl
          case hqK21x2 => exact fun _ _ _ h => h
          case hyK21x2 => (intro w hSw; (try dsimp only at hSw); go_simp <;> with_reducible rfl)
          (try simp only [Act.put, List.setIfInBounds_toArray, List.set_cons_zero, List.set_cons_succ])
          refine wpAnyH_take (i := 3) (oi := ?oiK21x3) (v := ?vK21x3) ?hoK21x3 ?h1K21x3 ?h2K21x3 ?h3K21x3 ?hqK21x3 (Or.inl ⟨?h4K21x3, ?hyK21x3⟩) (by assumption) ?restK21x3
          case hoK21x3 => (simp only [List.getElem?_toArray, List.getElem?_cons_zero, List.getElem?_cons_succ]; rfl)
          case h1K21x3 => kernel_rfl
          case h2K21x3 => kernel_rfl
          case h3K21x3 => kernel_rfl
          case h4K21x3 => rfl
          case hqK21x3 => exact fun _ _ _ h => h
          case hyK21x3 => (intro w hSw; (try dsimp only at hSw); go_simp <;> with_reducible rfl)
          (try simp only [Act.put, List.setIfInBounds_toArray, List.set_cons_zero, List.set_cons_succ])
          refine wpAnyH_take (i := 4) (oi := ?oiK21x4) (v := ?vK21x4) ?hoK21x4 ?h1K21x4 ?h2K21x4 ?h3K21x4 ?hqK21x4 (Or.inl ⟨?h4K21x4, ?hyK21x4⟩) (by assumption) ?restK21x4
          case hoK21x4 => (simp only [List.getElem?_toArray, List.getElem?_cons_zero, List.getElem?_cons_succ]; rfl)
          case h1K21x4 => kernel_rfl
          case h2K21x4 => kernel_rfl
          case h3K21x4 => kernel_rfl
          case h4K21x4 => rfl
          case hqK21x4 => exact fun _ _ _ h => h
          case hyK21x4 => (intro w hSw; (try dsimp only at hSw); go_simp <;> with_reducible rfl)
          (try simp only [Act.put, List.setIfInBounds_toArray, List.set_cons_zero, List.set_cons_succ])
          refine wpAnyH_take (i := 5) (oi := ?oiK21x5) (v := ?vK21x5) ?hoK21x5 ?h1K21x5 ?h2K21x5 ?h3K21x5 ?hqK21x5 (Or.inl ⟨?h4K21x5, ?hyK21x5⟩) (by assumption) ?restK21x5
          case hoK21x5 => (simp only [List.getElem?_toArray, List.getElem?_cons_zero, List.getElem?_cons_succ]; rfl)
          case h1K21x5 => kernel_rfl
          case h2K21x5 => kernel_rfl
          case h3K21x5 => kernel_rfl
          case h4K21x5 => rfl
          case hqK21x5 => exact fun _ _ _ h => h
          case hyK21x5 => (intro w hSw; (try dsimp only at hSw); go_simp <;> with_reducible rfl)
          (try simp only [Act.put, List.setIfInBounds_toArray, List.set_cons_zero, List.set_cons_succ])
          refine wpAnyH_take (i := 6) (oi := ?oiK21x6) (v := ?vK21x6) ?hoK21x6 ?h1K21x6 ?h2K21x6 ?h3K21x6 ?hqK21x6 (Or.inl ⟨?h4K21x6, ?hyK21x6⟩) (by assumption) ?restK21x6
          case hoK21x6 => (simp only [List.getElem?_toArray, List.getElem?_cons_zero, List.getElem?_cons_succ]; rfl)
          case h1K21x6 => kernel_rfl
          case h2K21x6 => kernel_rfl
          case h3K21x6 => kernel_rfl
          case h4K21x6 => rfl
          case hqK21x6 => exact fun _ _ _ h => h
          case hyK21x6 => (intro w hSw; (try dsimp only at hSw); go_simp <;> with_reducible rfl)
          (try simp only [Act.put, List.setIfInBounds_toArray, List.set_cons_zero, List.set_cons_succ])
          refine wpAnyH_take (i := 7) (oi := ?oiK21x7) (v := ?vK21x7) ?hoK21x7 ?h1K21x7 ?h2K21x7 ?h3K21x7 ?hqK21x7 (Or.inl ⟨?h4K21x7, ?hyK21x7⟩) (by assumption) ?restK21x7
          case hoK21x7 => (simp only [List.getElem?_toArray, List.getElem?_cons_zero, List.getElem?_cons_succ]; rfl)
          case h1K21x7 => kernel_rfl
          case h2K21x7 => kernel_rfl
          case h3K21x7 => kernel_rfl
          case h4K21x7 => rfl
          case hqK21x7 => exact fun _ _ _ h => h
          case hyK21x7 => (intro w hSw; (try dsimp only at hSw); go_simp <;> with_reducible rfl)
          (try simp only [Act.put, List.setIfInBounds_toArray, List.set_cons_zero, List.set_cons_succ])
          refine wpAnyH_take (i := 8) (oi := ?oiK21x8) (v := ?vK21x8) ?hoK21x8 ?h1K21x8 ?h2K21x8 ?h3K21x8 ?hqK21x8 (Or.inl ⟨?h4K21x8, ?hyK21x8⟩) (by assumption) ?restK21x8
          case hoK21x8 => (simp only [List.getElem?_toArray, List.getElem?_cons_zero, List.getElem?_cons_succ]; rfl)
          case h1K21x8 => kernel_rfl
          case h2K21x8 => kernel_rfl
          case h3K21x8 => kernel_rfl
          case h4K21x8 => rfl
          case hqK21x8 => exact fun _ _ _ h => h
          case hyK21x8 => (intro w hSw; (try dsimp only at hSw); go_simp <;> with_reducible rfl)
          (try simp only [Act.put, List.setIfInBounds_toArray, List.set_cons_zero, List.set_cons_succ])
          refine wpAnyH_take (i := 9) (oi := ?oiK21x9) (v := ?vK21x9) ?hoK21x9 ?h1K21x9 ?h2K21x9 ?h3K21x9 ?hqK21x9 (Or.inl ⟨?h4K21x9, ?hyK21x9⟩) (by assumption) ?restK21x9
          case hoK21x9 => (simp only [List.getElem?_toArray, List.getElem?_cons_zero, List.getElem?_cons_succ]; rfl)
          case h1K21x9 => kernel_rfl
          case h2K21x9 => kernel_rfl
          case h3K21x9 => kernel_rfl
          case h4K21x9 => rfl
          case hqK21x9 => exact fun _ _ _ h => h
          case hyK21x9 => (intro w hSw; (try dsimp only at hSw); go_simp <;> with_reducible rfl)
          (try simp only [Act.put, List.setIfInBounds_toArray, List.set_cons_zero, List.set_cons_succ])
          refine wpAnyH_take (i := 10) (oi := ?oiK21x10) (v := ?vK21x10) ?hoK21x10 ?h1K21x10 ?h2K21x10 ?h3K21x10 ?hqK21x10 (Or.inl ⟨?h4K21x10, ?hyK21x10⟩) (by assumption) ?restK21x10
          case hoK21x10 => (simp only [List.getElem?_toArray, List.getElem?_cons_zero, List.getElem?_cons_succ]; rfl)
          case h1K21x10 => kernel_rfl
          case h2K21x10 => kernel_rfl
          case h3K21x10 => kernel_rfl
          case h4K21x10 => rfl
          case hqK21x10 => exact fun _ _ _ h => h
          case hyK21x10 => (intro w hSw; (try dsimp only at hSw); go_simp <;> with_reducible rfl)
          (try simp only [Act.put, List.setIfInBounds_toArray, List.set_cons_zero, List.set_cons_succ])
          refine wpAnyH_take (i := 11) (oi := ?oiK21x11) (v := ?vK21x11) ?hoK21x11 ?h1K21x11 ?h2K21x11 ?h3K21x11 ?hqK21x11 (Or.inl ⟨?h4K21x11, ?hyK21x11⟩) (by assumption) ?restK21x11
          case hoK21x11 => (simp only [List.getElem?_toArray, List.getElem?_cons_zero, List.getElem?_cons_succ]; rfl)
          case h1K21x11 => kernel_rfl
          case h2K21x11 => kernel_rfl
          case h3K21x11 => kernel_rfl
          case h4K21x11 => rfl
          case hqK21x11 => exact fun _ _ _ h => h
          case hyK21x11 => (intro w hSw; (try dsimp only at hSw); go_simp <;> with_reducible rfl)
          (try simp only [Act.put, List.setIfInBounds_toArray, List.set_cons_zero, List.set_cons_succ])
          refine wpAnyH_ready (rs := [12]) (by kernel_rfl) (by simp) ?_
          refine AllReadyH.cons (o := ?oiK21x12) ?hoK21x12 (fun K hK => ?restK21x12) ?moreK21x12
          case moreK21x12 => exact AllReadyH.nil
          case hoK21x12 => (simp only [List.getElem?_toArray, List.getElem?_cons_zero, List.getElem?_cons_succ]; rfl)
          go_simp
          refine (BY _).mono ?_
          rintro e w8 ⟨v8, rfl, ho8, hB8'⟩
          obtain ⟨P2, q2, e8, hq8, hp8⟩ := ho8.reads hmB
          rw [hml] at e8 hq8 hp8
          subst e8
          have hB8 := hBd.trans hB8'
          have cv2 := conv_str (c := q2) hp8
          try go_wp2_with fail
          refine hK.out _ _ ?hSnewK21y12 (fun hHeld => ?restK21y12)
          case hSnewK21y12 => ((try dsimp only); exact HC.out _ hB8)
          clear hK K
          (try simp only [Act.put, List.setIfInBounds_toArray, List.set_cons_zero, List.set_cons_succ])
          refine held_switch (fun w' => (convert 23 9 (.slice P1 12 q1)).run Try.prog w' = .ok (.string (strOfNums ms)) w' ∧ (convert 23 9 (.slice P2 12 q2)).run Try.prog w' = .ok (.string (strOfNums ms)) w') (fun w h => h.1) ?hSnewK21sa (fun hHeld => ?restK21sa)
          case hSnewK21sa => ((try dsimp only); exact ⟨HC.out _ hB8, cv2⟩)
          refine wpAnyH_take (i := 13) (oi := ?oiK21x13) (v := ?vK21x13) ?hoK21x13 ?h1K21x13 ?h2K21x13 ?h3K21x13 ?hqK21x13 (Or.inl ⟨?h4K21x13, ?hyK21x13⟩) (by assumption) ?restK21x13
          case hoK21x13 => (simp only [List.getElem?_toArray, List.getElem?_cons_zero, List.getElem?_cons_succ]; rfl)
          case h1K21x13 => kernel_rfl
          case h2K21x13 => kernel_rfl
          case h3K21x13 => kernel_rfl
          case h4K21x13 => rfl
          case hqK21x13 => exact fun _ _ _ h => h
          case hyK21x13 => (intro w hSw; (try dsimp only at hSw); go_simp <;> with_reducible rfl)
          (try simp only [Act.put, List.setIfInBounds_toArray, List.set_cons_zero, List.set_cons_succ])
          refine wpAnyH_take (i := 14) (oi := ?oiK21x14) (v := ?vK21x14) ?hoK21x14 ?h1K21x14 ?h2K21x14 ?h3K21x14 ?hqK21x14 (Or.inl ⟨?h4K21x14, ?hyK21x14⟩) (by assumption) ?restK21x14
          case hoK21x14 => (simp only [List.getElem?_toArray, List.getElem?_cons_zero, List.getElem?_cons_succ]; rfl)
          case h1K21x14 => kernel_rfl
          case h2K21x14 => kernel_rfl
          case h3K21x14 => kernel_rfl
          case h4K21x14 => rfl
          case hqK21x14 => exact fun _ _ _ h => h
          case hyK21x14 => (intro w hSw; (try dsimp only at hSw); go_simp <;> with_reducible rfl)
          (try simp only [Act.put, List.setIfInBounds_toArray, List.set_cons_zero, List.set_cons_succ])
          refine wpAnyH_take (i := 15) (oi := ?oiK21x15) (v := ?vK21x15) ?hoK21x15 ?h1K21x15 ?h2K21x15 ?h3K21x15 ?hqK21x15 (Or.inl ⟨?h4K21x15, ?hyK21x15⟩) (by assumption) ?restK21x15
          case hoK21x15 => (simp only [List.getElem?_toArray, List.getElem?_cons_zero, List.getElem?_cons_succ]; rfl)
          case h1K21x15 => kernel_rfl
          case h2K21x15 => kernel_rfl
          case h3K21x15 => kernel_rfl
          case h4K21x15 => rfl
          case hqK21x15 => exact fun _ _ _ h => h
          case hyK21x15 => (intro w hSw; (try dsimp only at hSw); go_simp <;> with_reducible rfl)
          (try simp only [Act.put, List.setIfInBounds_toArray, List.set_cons_zero, List.set_cons_succ])
          refine wpAnyH_done (by kernel_rfl) ?_ _
          have hB9 := hB06.trans (hB8.mono hB06.size)
          have hs9 := hB9.size
          clear hB8 hB8' hBd BY HC cv2 hse ho8 hp8 hB06
          go_wp2
          go_ret
          exact ⟨rfl, ((hB9.alloc hs9 _).alloc (Nat.le_trans hs9 (by simp)) _).alloc (Nat.le_trans hs9 (by simp; omega)) _⟩
      · have hx : (281474976710656 : Int) ≤ (E : Int) := by omega
        have hxd : decide ((E : Int) < 281474976710656) = false := decide_eq_false (by omega)
        rcases hF with rfl | rfl
        · have hnr : ¬ right 2 0 (E : Int) := by
            rintro ⟨_, h⟩
            have h2 : (E : Int) < 281474976710656 := h
            omega
          have em : (kd : Int) % 3 = 2 := by omega
          have M1 := fun W => make3_any kd 0 (E : Int) W hkl
          rw [hk] at M1
          have EN := fun W => encode_not 2 0 (E : Int) W (by omega) hnr
          have hi := fun W => is_any 2 0 (E : Int) W (by omega)
          rw [decide_eq_false hnr] at hi
          have hfm := fun W => from_any 2 0 (E : Int) W
          generalize mv 2 0 (E : Int) = mm at *
          clear hk hnr hEl
          try clear hx48
          go_enter Try.func5, Try.ntmps5
          go_wp2_with fail
          refine (M1 w).mono ?_
          rintro e w1 ⟨rfl, rfl⟩
          clear M1
          go_wp2_with fail
          refine (EN w1).mono ?_
          rintro e w2 ⟨rfl, hB2⟩
          go_wp2_with fail
          refine (awake_any w2).mono ?_
          rintro e w3 ⟨rfl, hB3⟩
          go_wp2_with fail
          refine (hi w3).mono ?_
          rintro e w4 ⟨rfl, hB4⟩
          go_wp2_with fail
          refine (hfm w4).mono ?_
          rintro e w5 ⟨rfl, hB5⟩
          have hB25 := hB3.trans ((hB4.trans (hB5.mono hB4.size)).mono hB3.size)
          have hB05 := hB2.trans (hB25.mono hB2.size)
          clear hB3 hB4 hB5 hB2 hB25 hi hfm EN
          go_wp2
          go_ret
          exact ⟨rfl, hB05⟩
        · have hnr : ¬ right 2 1 (E : Int) := by
            rintro ⟨_, h⟩
            have h2 : (E : Int) < 281474976710656 := h
            omega
          have em : (kd : Int) % 3 = 2 := by omega
          have M1 := fun W => make3_any kd 1 (E : Int) W hkl
          rw [hk] at M1
          have EN := fun W => encode_not 2 1 (E : Int) W (by omega) hnr
          have hi := fun W => is_any 2 1 (E : Int) W (by omega)
          rw [decide_eq_false hnr] at hi
          have hfm := fun W => from_any 2 1 (E : Int) W
          generalize mv 2 1 (E : Int) = mm at *
          clear hk hnr hEl
          try clear hx48
          go_enter Try.func5, Try.ntmps5
          go_wp2_with fail
          refine (M1 w).mono ?_
          rintro e w1 ⟨rfl, rfl⟩
          clear M1
          go_wp2_with fail
          refine (EN w1).mono ?_
          rintro e w2 ⟨rfl, hB2⟩
          go_wp2_with fail
          refine (awake_any w2).mono ?_
          rintro e w3 ⟨rfl, hB3⟩
          go_wp2_with fail
          refine (hi w3).mono ?_
          rintro e w4 ⟨rfl, hB4⟩
          go_wp2_with fail
          refine (hfm w4).mono ?_
          rintro e w5 ⟨rfl, hB5⟩
          have hB25 := hB3.trans ((hB4.trans (hB5.mono hB4.size)).mono hB3.size)
          have hB05 := hB2.trans (hB25.mono hB2.size)
          clear hB3 hB4 hB5 hB2 hB25 hi hfm EN
          go_wp2
          go_ret
          exact ⟨rfl, hB05⟩
  · have e0 : (F == 0) = false := by simp; omega
    have e1 : (F == 1) = false := by simp; omega
    obtain ⟨k, hk⟩ : ∃ k, kd % 3 = k := ⟨_, rfl⟩
    have hnr : ¬ right k F (E : Int) := fun h => hF h.1
    have hk3' : k < 3 := by omega
    clear hF hk3
    have em : (kd : Int) % 3 = (k : Int) := by omega
    have M1 := fun W => make3_any kd F (E : Int) W hkl
    rw [hk] at M1
    have EN := fun W => encode_not k F (E : Int) W (hk3') hnr
    have hi := fun W => is_any k F (E : Int) W hk3'
    rw [decide_eq_false hnr] at hi
    have hfm := fun W => from_any k F (E : Int) W
    generalize mv k F (E : Int) = mm at *
    clear hk hnr hEl
    try clear hx48
    go_enter Try.func5, Try.ntmps5
    go_wp2_with fail
    refine (M1 w).mono ?_
    rintro e w1 ⟨rfl, rfl⟩
    clear M1
    go_wp2_with fail
    refine (EN w1).mono ?_
    rintro e w2 ⟨rfl, hB2⟩
    go_wp2_with fail
    refine (awake_any w2).mono ?_
    rintro e w3 ⟨rfl, hB3⟩
    go_wp2_with fail
    refine (hi w3).mono ?_
    rintro e w4 ⟨rfl, hB4⟩
    go_wp2_with fail
    refine (hfm w4).mono ?_
    rintro e w5 ⟨rfl, hB5⟩
    have hB25 := hB3.trans ((hB4.trans (hB5.mono hB4.size)).mono hB3.size)
    have hB05 := hB2.trans (hB25.mono hB2.size)
    clear hB3 hB4 hB5 hB2 hB25 hi hfm EN
    go_wp2
    go_ret
    exact ⟨rfl, hB05⟩
end Go.Proofs.Ytmehebjkdmpigaa.Mail
