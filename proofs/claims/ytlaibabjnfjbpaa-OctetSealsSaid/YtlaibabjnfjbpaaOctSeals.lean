import Derived.Test.YtlaibabjnfjbpaaOctSeal
set_option linter.unusedVariables false
set_option linter.unusedSimpArgs false
namespace Go.Proofs.Ytlaibabjnfjbpaa.Oct
open Go.RowKit Go.Proofs.Ytlaibabjnfjbpaa.Kit

set_option maxRecDepth 100000 in
set_option maxHeartbeats 4000000 in
theorem law_seals (A : Option Addr) (n c : Nat) (xs : List Int) (A1 : Option Addr) (n1 c1 : Nat) (xs1 : List Int) (w : World) (hz : (n ≤ c ∧ c ≤ 140737488355328) ∧ Nums w .u8 A n xs) (hz1 : (n1 ≤ c1 ∧ c1 ≤ 140737488355328) ∧ Nums w .u8 A1 n1 xs1) :
    Calls Try.prog 5 #[.slice A n c, .slice A1 n1 c1] w fun e w' => e = .returned (.bool true) ∧ Below w.heap.size w w' := by
  obtain ⟨⟨hc, hcm⟩, hz⟩ := hz
  obtain ⟨⟨hc1, hcm1⟩, hz1⟩ := hz1
  have hn := hz.most
  have hn1 := hz1.most
  by_cases hb : n + n1 ≤ 3000
  · have hbI : (n : Int) + (n1 : Int) ≤ 3000 := by omega
    go_enter Try.func5, Try.ntmps5
    go_wp2_with fail
    refine (awake_any w).mono ?_
    rintro e w1 ⟨rfl, hB1⟩
    go_wp2_with fail
    refine (seal_any A n c xs w1 (hz.below hB1) (by omega)).mono ?_
    rintro e w2 ⟨v2, rfl, ho2, hB2⟩
    have hx := isB_of hz
    have hl := hz.len
    have hg := good_seal xs hx
    rw [hl] at hg
    have hs : IsB (xs ++ le (sum xs) 4) := isB_append hx (le_isB _ _)
    have hsl : (xs ++ le (sum xs) 4).length = n + 4 := by rw [List.length_append, le_len, hl]
    have Htk := hid (show (xs ++ le (sum xs) 4).take n = xs by rw [← hl]; exact List.take_left ..)
    have Hsum := hid (rfl : sum xs = sum xs)
    have Gs := fun W (hB : Below w.heap.size w W) => sum_any A n c xs W (hz.below hB)
    have Gr := fun W (hB : Below w.heap.size w W) => rsum_any A n c xs W (hz.below hB)
    have Gl := fun W (hB : Below w.heap.size w W) => rseal_any A n c xs W (hz.below hB) (by omega)
    generalize hS : xs ++ le (sum xs) 4 = S at *
    generalize sum xs = sm at *
    clear hS
    have Hs := hid hs
    have hB2' := below_step hB1 hB1.size hB2
    obtain ⟨A2, c2, e2, hc2, hz2⟩ := ho2.reads hs
    rw [hsl] at e2 hc2 hz2
    subst e2
    go_wp2_with fail
    refine (open_any A2 n (n + 4) c2 S w2 hz2 hc2 (by omega) rfl).mono ?_
    rintro e w3 ⟨hB3, ⟨h, _⟩ | ⟨_, v3, rfl, ho3⟩⟩
    · exact absurd hg h
    rw [Htk.out] at ho3
    obtain ⟨A3, c3, e3, hc3, hz3⟩ := ho3.reads hx
    rw [hl] at e3 hc3 hz3
    subst e3
    have hB3' := below_step hB2' hB2'.size hB3
    go_wp2_with fail
    refine (open_q A1 n1 c1 xs1 w3 (hz1.below hB3') hc1 (by omega)).mono ?_
    rintro e w4 ⟨A4, n4, c4, rfl, hz4, hB4⟩
    have hB4' := below_step hB3' hB3'.size hB4
    go_wp2_with fail
    refine (ropen_q A1 n1 c1 xs1 w4 (hz1.below hB4') hc1 (by omega)).mono ?_
    rintro e w5 ⟨A5, n5, c5, rfl, hz5, hB5⟩
    have hB5' := below_step hB4' hB4'.size hB5
    have cv : ∀ W, Below w5.heap.size w5 W → ((convert 22 9 (.slice A2 (n + 4) c2)).run Try.prog W = .ok (.string (strOfNums S)) W ∧ (convert 22 9 (.slice A n c)).run Try.prog W = .ok (.string (strOfNums xs)) W ∧ (convert 22 9 (.slice A3 n c3)).run Try.prog W = .ok (.string (strOfNums xs)) W ∧ (convert 22 9 (.slice A4 n4 c4)).run Try.prog W = .ok (.string (strOfNums (opB xs1))) W ∧ (convert 22 9 (.slice A5 n5 c5)).run Try.prog W = .ok (.string (strOfNums (opB xs1))) W) := fun W hW =>
      ⟨conv_str ((((hz2.below hB3).below hB4).below hB5).below hW), conv_str ((hz.below hB5').below hW), conv_str (((hz3.below hB4).below hB5).below hW), conv_str ((hz4.below hB5).below hW), conv_str (hz5.below hW)⟩
    clear hz2 hz3 hz4 hz5 hz1 hz ho2 ho3 Htk hg hs hx
    have cv0 : ((convert 22 9 (.slice A2 (n + 4) c2)).run Try.prog w5.drew = .ok (.string (strOfNums S)) w5.drew ∧ (convert 22 9 (.slice A n c)).run Try.prog w5.drew = .ok (.string (strOfNums xs)) w5.drew ∧ (convert 22 9 (.slice A3 n c3)).run Try.prog w5.drew = .ok (.string (strOfNums xs)) w5.drew ∧ (convert 22 9 (.slice A4 n4 c4)).run Try.prog w5.drew = .ok (.string (strOfNums (opB xs1))) w5.drew ∧ (convert 22 9 (.slice A5 n5 c5)).run Try.prog w5.drew = .ok (.string (strOfNums (opB xs1))) w5.drew) := cv w5.drew (below_drewN (Below.refl _ _) 1)
    obtain ⟨k1, k2, k3, k4, k5⟩ := cv0
    have HGs := hid Gs
    have HGr := hid Gr
    have HGl := hid Gl
    have Hcv := hid cv
    have HB := hid hB5'
    clear Gs Gr Gl cv hB1 hB2 hB3 hB4 hB5 hB2' hB3' hB4' hB5' hc2 hc3 hl hn hn1 Hsum hc hc1
    go_wp2
    refine wp_region_held_drew (S := (fun w' => (convert 22 9 (.slice A2 (n + 4) c2)).run Try.prog w' = .ok (.string (strOfNums S)) w' ∧ (convert 22 9 (.slice A n c)).run Try.prog w' = .ok (.string (strOfNums xs)) w' ∧ (convert 22 9 (.slice A3 n c3)).run Try.prog w' = .ok (.string (strOfNums xs)) w' ∧ (convert 22 9 (.slice A4 n4 c4)).run Try.prog w' = .ok (.string (strOfNums (opB xs1))) w' ∧ (convert 22 9 (.slice A5 n5 c5)).run Try.prog w' = .ok (.string (strOfNums (opB xs1))) w')) (by kernel_rfl) ?hSnewz (fun hHeld => ?restz)
    case hSnewz => ((try dsimp only); exact Hcv.out _ (below_drewN (Below.refl _ _) 1))
    refine wpAnyH_take (i := 0) (oi := ?oix0) (v := ?vx0) ?hox0 ?h1x0 ?h2x0 ?h3x0 ?hqx0 (Or.inl ⟨?h4x0, ?hyx0⟩) (by assumption) ?restx0
    case hox0 => (simp only [List.getElem?_toArray, List.getElem?_cons_zero, List.getElem?_cons_succ]; rfl)
    case h1x0 => kernel_rfl
    case h2x0 => kernel_rfl
    case h3x0 => kernel_rfl
    case h4x0 => rfl
    case hqx0 => exact fun _ _ _ h => h
    case hyx0 => (intro w hSw; (try dsimp only at hSw); go_simp <;> with_reducible rfl)
    (try simp only [Act.put, List.setIfInBounds_toArray, List.set_cons_zero, List.set_cons_succ])
    refine wpAnyH_take (i := 2) (oi := ?oix2) (v := ?vx2) ?hox2 ?h1x2 ?h2x2 ?h3x2 ?hqx2 (Or.inl ⟨?h4x2, ?hyx2⟩) (by assumption) ?restx2
    case hox2 => (simp only [List.getElem?_toArray, List.getElem?_cons_zero, List.getElem?_cons_succ]; rfl)
    case h1x2 => kernel_rfl
    case h2x2 => kernel_rfl
    case h3x2 => kernel_rfl
    case h4x2 => rfl
    case hqx2 => exact fun _ _ _ h => h
    case hyx2 => (intro w hSw; (try dsimp only at hSw); go_simp <;> with_reducible rfl)
    (try simp only [Act.put, List.setIfInBounds_toArray, List.set_cons_zero, List.set_cons_succ])
    refine wpAnyH_ready (rs := [1]) (by kernel_rfl) (by simp) ?_
    refine AllReadyH.cons (o := ?oix1) ?hox1 (fun K hK => ?restx1) ?morex1
    case morex1 => exact AllReadyH.nil
    case hox1 => (simp only [List.getElem?_toArray, List.getElem?_cons_zero, List.getElem?_cons_succ]; rfl)
    go_simp
    refine (HGs.out _ (HB.out.drewB 1)).mono ?_
    rintro e w6 ⟨rfl, rfl⟩
    try go_wp2_with fail
    refine hK.out _ _ ?hSnewy1 (fun hHeld => ?resty1)
    case hSnewy1 => ((try dsimp only); exact Hcv.out _ (below_drewN (Below.refl _ _) 1))
    clear hK K
    (try simp only [Act.put, List.setIfInBounds_toArray, List.set_cons_zero, List.set_cons_succ])
    refine wpAnyH_ready (rs := [3]) (by kernel_rfl) (by simp) ?_
    refine AllReadyH.cons (o := ?oix3) ?hox3 (fun K hK => ?restx3) ?morex3
    case morex3 => exact AllReadyH.nil
    case hox3 => (simp only [List.getElem?_toArray, List.getElem?_cons_zero, List.getElem?_cons_succ]; rfl)
    go_simp
    refine (HGr.out _ (HB.out.drewB 1)).mono ?_
    rintro e w6 ⟨rfl, rfl⟩
    try go_wp2_with fail
    refine hK.out _ _ ?hSnewy3 (fun hHeld => ?resty3)
    case hSnewy3 => ((try dsimp only); exact Hcv.out _ (below_drewN (Below.refl _ _) 1))
    clear hK K
    (try simp only [Act.put, List.setIfInBounds_toArray, List.set_cons_zero, List.set_cons_succ])
    refine wpAnyH_take (i := 4) (oi := ?oix4) (v := ?vx4) ?hox4 ?h1x4 ?h2x4 ?h3x4 ?hqx4 (Or.inl ⟨?h4x4, ?hyx4⟩) (by assumption) ?restx4
    case hox4 => (simp only [List.getElem?_toArray, List.getElem?_cons_zero, List.getElem?_cons_succ]; rfl)
    case h1x4 => kernel_rfl
    case h2x4 => kernel_rfl
    case h3x4 => kernel_rfl
    case h4x4 => rfl
    case hqx4 => exact fun _ _ _ h => h
    case hyx4 => (intro w hSw; (try dsimp only at hSw); go_simp <;> with_reducible rfl)
    (try simp only [Act.put, List.setIfInBounds_toArray, List.set_cons_zero, List.set_cons_succ])
    refine wpAnyH_take (i := 5) (oi := ?oix5) (v := ?vx5) ?hox5 ?h1x5 ?h2x5 ?h3x5 ?hqx5 (Or.inl ⟨?h4x5, ?hyx5⟩) (by assumption) ?restx5
    case hox5 => (simp only [List.getElem?_toArray, List.getElem?_cons_zero, List.getElem?_cons_succ]; rfl)
    case h1x5 => kernel_rfl
    case h2x5 => kernel_rfl
    case h3x5 => kernel_rfl
    case h4x5 => rfl
    case hqx5 => exact fun _ _ _ h => h
    case hyx5 => (intro w hSw; (try dsimp only at hSw); go_simp <;> with_reducible rfl)
    (try simp only [Act.put, List.setIfInBounds_toArray, List.set_cons_zero, List.set_cons_succ])
    refine wpAnyH_take (i := 6) (oi := ?oix6) (v := ?vx6) ?hox6 ?h1x6 ?h2x6 ?h3x6 ?hqx6 (Or.inl ⟨?h4x6, ?hyx6⟩) (by assumption) ?restx6
    case hox6 => (simp only [List.getElem?_toArray, List.getElem?_cons_zero, List.getElem?_cons_succ]; rfl)
    case h1x6 => kernel_rfl
    case h2x6 => kernel_rfl
    case h3x6 => kernel_rfl
    case h4x6 => rfl
    case hqx6 => exact fun _ _ _ h => h
    case hyx6 => (intro w hSw; (try dsimp only at hSw); go_simp <;> with_reducible rfl)
    (try simp only [Act.put, List.setIfInBounds_toArray, List.set_cons_zero, List.set_cons_succ])
    refine wpAnyH_take (i := 7) (oi := ?oix7) (v := ?vx7) ?hox7 ?h1x7 ?h2x7 ?h3x7 ?hqx7 (Or.inl ⟨?h4x7, ?hyx7⟩) (by assumption) ?restx7
    case hox7 => (simp only [List.getElem?_toArray, List.getElem?_cons_zero, List.getElem?_cons_succ]; rfl)
    case h1x7 => kernel_rfl
    case h2x7 => kernel_rfl
    case h3x7 => kernel_rfl
    case h4x7 => rfl
    case hqx7 => exact fun _ _ _ h => h
    case hyx7 => (intro w hSw; (try dsimp only at hSw); go_simp <;> with_reducible rfl)
    (try simp only [Act.put, List.setIfInBounds_toArray, List.set_cons_zero, List.set_cons_succ])
    refine wpAnyH_take (i := 8) (oi := ?oix8) (v := ?vx8) ?hox8 ?h1x8 ?h2x8 ?h3x8 ?hqx8 (Or.inl ⟨?h4x8, ?hyx8⟩) (by assumption) ?restx8
    case hox8 => (simp only [List.getElem?_toArray, List.getElem?_cons_zero, List.getElem?_cons_succ]; rfl)
    case h1x8 => kernel_rfl
    case h2x8 => kernel_rfl
    case h3x8 => kernel_rfl
    case h4x8 => rfl
    case hqx8 => exact fun _ _ _ h => h
    case hyx8 => (intro w hSw; (try dsimp only at hSw); go_simp <;> with_reducible rfl)
    (try simp only [Act.put, List.setIfInBounds_toArray, List.set_cons_zero, List.set_cons_succ])
    refine wpAnyH_ready (rs := [9]) (by kernel_rfl) (by simp) ?_
    refine AllReadyH.cons (o := ?oix9) ?hox9 (fun K hK => ?restx9) ?morex9
    case morex9 => exact AllReadyH.nil
    case hox9 => (simp only [List.getElem?_toArray, List.getElem?_cons_zero, List.getElem?_cons_succ]; rfl)
    go_simp
    refine (HGl.out _ (HB.out.drewB 1)).mono ?_
    rintro e w7 ⟨v7, rfl, ho7, hB7'⟩
    have hB7 := below_step (below_drewN (Below.refl w5.heap.size w5) 1) (Nat.le_refl _) hB7'
    obtain ⟨A7, c7, e7, hc7, hz7⟩ := ho7.reads Hs.out
    rw [hsl] at e7 hz7
    subst e7
    have hcv7 := conv_str (c := c7) hz7
    try go_wp2_with fail
    refine hK.out _ _ ?hSnewy9 (fun hHeld => ?resty9)
    case hSnewy9 => ((try dsimp only); exact Hcv.out _ hB7)
    clear hK K
    (try simp only [Act.put, List.setIfInBounds_toArray, List.set_cons_zero, List.set_cons_succ])
    refine wpAnyH_ready (rs := [10]) (by kernel_rfl) (by simp) ?_
    refine AllReadyH.cons (o := ?oix10) ?hox10 (fun K hK => ?restx10) ?morex10
    case morex10 => exact AllReadyH.nil
    case hox10 => (simp only [List.getElem?_toArray, List.getElem?_cons_zero, List.getElem?_cons_succ]; rfl)
    go_simp
    refine hK.out _ _ ?hSnewy10 (fun hHeld => ?resty10)
    case hSnewy10 => ((try dsimp only); exact Hcv.out _ hB7)
    clear hK K
    (try simp only [Act.put, List.setIfInBounds_toArray, List.set_cons_zero, List.set_cons_succ])
    refine wpAnyH_take (i := 11) (oi := ?oix11) (v := ?vx11) ?hox11 ?h1x11 ?h2x11 ?h3x11 ?hqx11 (Or.inl ⟨?h4x11, ?hyx11⟩) (by assumption) ?restx11
    case hox11 => (simp only [List.getElem?_toArray, List.getElem?_cons_zero, List.getElem?_cons_succ]; rfl)
    case h1x11 => kernel_rfl
    case h2x11 => kernel_rfl
    case h3x11 => kernel_rfl
    case h4x11 => rfl
    case hqx11 => exact fun _ _ _ h => h
    case hyx11 => (intro w hSw; (try dsimp only at hSw); go_simp <;> with_reducible rfl)
    (try simp only [Act.put, List.setIfInBounds_toArray, List.set_cons_zero, List.set_cons_succ])
    refine wpAnyH_take (i := 12) (oi := ?oix12) (v := ?vx12) ?hox12 ?h1x12 ?h2x12 ?h3x12 ?hqx12 (Or.inl ⟨?h4x12, ?hyx12⟩) (by assumption) ?restx12
    case hox12 => (simp only [List.getElem?_toArray, List.getElem?_cons_zero, List.getElem?_cons_succ]; rfl)
    case h1x12 => kernel_rfl
    case h2x12 => kernel_rfl
    case h3x12 => kernel_rfl
    case h4x12 => rfl
    case hqx12 => exact fun _ _ _ h => h
    case hyx12 => (intro w hSw; (try dsimp only at hSw); go_simp <;> with_reducible rfl)
    (try simp only [Act.put, List.setIfInBounds_toArray, List.set_cons_zero, List.set_cons_succ])
    refine wpAnyH_take (i := 13) (oi := ?oix13) (v := ?vx13) ?hox13 ?h1x13 ?h2x13 ?h3x13 ?hqx13 (Or.inl ⟨?h4x13, ?hyx13⟩) (by assumption) ?restx13
    case hox13 => (simp only [List.getElem?_toArray, List.getElem?_cons_zero, List.getElem?_cons_succ]; rfl)
    case h1x13 => kernel_rfl
    case h2x13 => kernel_rfl
    case h3x13 => kernel_rfl
    case h4x13 => rfl
    case hqx13 => exact fun _ _ _ h => h
    case hyx13 => (intro w hSw; (try dsimp only at hSw); go_simp <;> with_reducible rfl)
    (try simp only [Act.put, List.setIfInBounds_toArray, List.set_cons_zero, List.set_cons_succ])
    refine wpAnyH_take (i := 14) (oi := ?oix14) (v := ?vx14) ?hox14 ?h1x14 ?h2x14 ?h3x14 ?hqx14 (Or.inl ⟨?h4x14, ?hyx14⟩) (by assumption) ?restx14
    case hox14 => (simp only [List.getElem?_toArray, List.getElem?_cons_zero, List.getElem?_cons_succ]; rfl)
    case h1x14 => kernel_rfl
    case h2x14 => kernel_rfl
    case h3x14 => kernel_rfl
    case h4x14 => rfl
    case hqx14 => exact fun _ _ _ h => h
    case hyx14 => (intro w hSw; (try dsimp only at hSw); go_simp <;> with_reducible rfl)
    (try simp only [Act.put, List.setIfInBounds_toArray, List.set_cons_zero, List.set_cons_succ])
    refine wpAnyH_take (i := 15) (oi := ?oix15) (v := ?vx15) ?hox15 ?h1x15 ?h2x15 ?h3x15 ?hqx15 (Or.inl ⟨?h4x15, ?hyx15⟩) (by assumption) ?restx15
    case hox15 => (simp only [List.getElem?_toArray, List.getElem?_cons_zero, List.getElem?_cons_succ]; rfl)
    case h1x15 => kernel_rfl
    case h2x15 => kernel_rfl
    case h3x15 => kernel_rfl
    case h4x15 => rfl
    case hqx15 => exact fun _ _ _ h => h
    case hyx15 => (intro w hSw; (try dsimp only at hSw); go_simp <;> with_reducible rfl)
    (try simp only [Act.put, List.setIfInBounds_toArray, List.set_cons_zero, List.set_cons_succ])
    refine wpAnyH_take (i := 16) (oi := ?oix16) (v := ?vx16) ?hox16 ?h1x16 ?h2x16 ?h3x16 ?hqx16 (Or.inl ⟨?h4x16, ?hyx16⟩) (by assumption) ?restx16
    case hox16 => (simp only [List.getElem?_toArray, List.getElem?_cons_zero, List.getElem?_cons_succ]; rfl)
    case h1x16 => kernel_rfl
    case h2x16 => kernel_rfl
    case h3x16 => kernel_rfl
    case h4x16 => rfl
    case hqx16 => exact fun _ _ _ h => h
    case hyx16 => (intro w hSw; (try dsimp only at hSw); go_simp <;> with_reducible rfl)
    (try simp only [Act.put, List.setIfInBounds_toArray, List.set_cons_zero, List.set_cons_succ])
    refine wpAnyH_take (i := 17) (oi := ?oix17) (v := ?vx17) ?hox17 ?h1x17 ?h2x17 ?h3x17 ?hqx17 (Or.inl ⟨?h4x17, ?hyx17⟩) (by assumption) ?restx17
    case hox17 => (simp only [List.getElem?_toArray, List.getElem?_cons_zero, List.getElem?_cons_succ]; rfl)
    case h1x17 => kernel_rfl
    case h2x17 => kernel_rfl
    case h3x17 => kernel_rfl
    case h4x17 => rfl
    case hqx17 => exact fun _ _ _ h => h
    case hyx17 => (intro w hSw; (try dsimp only at hSw); go_simp <;> with_reducible rfl)
    (try simp only [Act.put, List.setIfInBounds_toArray, List.set_cons_zero, List.set_cons_succ])
    refine wpAnyH_take (i := 18) (oi := ?oix18) (v := ?vx18) ?hox18 ?h1x18 ?h2x18 ?h3x18 ?hqx18 (Or.inl ⟨?h4x18, ?hyx18⟩) (by assumption) ?restx18
    case hox18 => (simp only [List.getElem?_toArray, List.getElem?_cons_zero, List.getElem?_cons_succ]; rfl)
    case h1x18 => kernel_rfl
    case h2x18 => kernel_rfl
    case h3x18 => kernel_rfl
    case h4x18 => rfl
    case hqx18 => exact fun _ _ _ h => h
    case hyx18 => (intro w hSw; (try dsimp only at hSw); go_simp <;> with_reducible rfl)
    (try simp only [Act.put, List.setIfInBounds_toArray, List.set_cons_zero, List.set_cons_succ])
    refine wpAnyH_take (i := 19) (oi := ?oix19) (v := ?vx19) ?hox19 ?h1x19 ?h2x19 ?h3x19 ?hqx19 (Or.inl ⟨?h4x19, ?hyx19⟩) (by assumption) ?restx19
    case hox19 => (simp only [List.getElem?_toArray, List.getElem?_cons_zero, List.getElem?_cons_succ]; rfl)
    case h1x19 => kernel_rfl
    case h2x19 => kernel_rfl
    case h3x19 => kernel_rfl
    case h4x19 => rfl
    case hqx19 => exact fun _ _ _ h => h
    case hyx19 => (intro w hSw; (try dsimp only at hSw); go_simp <;> with_reducible rfl)
    (try simp only [Act.put, List.setIfInBounds_toArray, List.set_cons_zero, List.set_cons_succ])
    refine wpAnyH_take (i := 20) (oi := ?oix20) (v := ?vx20) ?hox20 ?h1x20 ?h2x20 ?h3x20 ?hqx20 (Or.inl ⟨?h4x20, ?hyx20⟩) (by assumption) ?restx20
    case hox20 => (simp only [List.getElem?_toArray, List.getElem?_cons_zero, List.getElem?_cons_succ]; rfl)
    case h1x20 => kernel_rfl
    case h2x20 => kernel_rfl
    case h3x20 => kernel_rfl
    case h4x20 => rfl
    case hqx20 => exact fun _ _ _ h => h
    case hyx20 => (intro w hSw; (try dsimp only at hSw); go_simp <;> with_reducible rfl)
    (try simp only [Act.put, List.setIfInBounds_toArray, List.set_cons_zero, List.set_cons_succ])
    refine wpAnyH_take (i := 21) (oi := ?oix21) (v := ?vx21) ?hox21 ?h1x21 ?h2x21 ?h3x21 ?hqx21 (Or.inl ⟨?h4x21, ?hyx21⟩) (by assumption) ?restx21
    case hox21 => (simp only [List.getElem?_toArray, List.getElem?_cons_zero, List.getElem?_cons_succ]; rfl)
    case h1x21 => kernel_rfl
    case h2x21 => kernel_rfl
    case h3x21 => kernel_rfl
    case h4x21 => rfl
    case hqx21 => exact fun _ _ _ h => h
    case hyx21 => (intro w hSw; (try dsimp only at hSw); go_simp <;> with_reducible rfl)
    (try simp only [Act.put, List.setIfInBounds_toArray, List.set_cons_zero, List.set_cons_succ])
    refine wpAnyH_take (i := 22) (oi := ?oix22) (v := ?vx22) ?hox22 ?h1x22 ?h2x22 ?h3x22 ?hqx22 (Or.inl ⟨?h4x22, ?hyx22⟩) (by assumption) ?restx22
    case hox22 => (simp only [List.getElem?_toArray, List.getElem?_cons_zero, List.getElem?_cons_succ]; rfl)
    case h1x22 => kernel_rfl
    case h2x22 => kernel_rfl
    case h3x22 => kernel_rfl
    case h4x22 => rfl
    case hqx22 => exact fun _ _ _ h => h
    case hyx22 => (intro w hSw; (try dsimp only at hSw); go_simp <;> with_reducible rfl)
    (try simp only [Act.put, List.setIfInBounds_toArray, List.set_cons_zero, List.set_cons_succ])
    refine wpAnyH_take (i := 23) (oi := ?oix23) (v := ?vx23) ?hox23 ?h1x23 ?h2x23 ?h3x23 ?hqx23 (Or.inl ⟨?h4x23, ?hyx23⟩) (by assumption) ?restx23
    case hox23 => (simp only [List.getElem?_toArray, List.getElem?_cons_zero, List.getElem?_cons_succ]; rfl)
    case h1x23 => kernel_rfl
    case h2x23 => kernel_rfl
    case h3x23 => kernel_rfl
    case h4x23 => rfl
    case hqx23 => exact fun _ _ _ h => h
    case hyx23 => (intro w hSw; (try dsimp only at hSw); go_simp <;> with_reducible rfl)
    (try simp only [Act.put, List.setIfInBounds_toArray, List.set_cons_zero, List.set_cons_succ])
    refine wpAnyH_take (i := 24) (oi := ?oix24) (v := ?vx24) ?hox24 ?h1x24 ?h2x24 ?h3x24 ?hqx24 (Or.inl ⟨?h4x24, ?hyx24⟩) (by assumption) ?restx24
    case hox24 => (simp only [List.getElem?_toArray, List.getElem?_cons_zero, List.getElem?_cons_succ]; rfl)
    case h1x24 => kernel_rfl
    case h2x24 => kernel_rfl
    case h3x24 => kernel_rfl
    case h4x24 => rfl
    case hqx24 => exact fun _ _ _ h => h
    case hyx24 => (intro w hSw; (try dsimp only at hSw); go_simp <;> with_reducible rfl)
    (try simp only [Act.put, List.setIfInBounds_toArray, List.set_cons_zero, List.set_cons_succ])
    refine wpAnyH_take (i := 25) (oi := ?oix25) (v := ?vx25) ?hox25 ?h1x25 ?h2x25 ?h3x25 ?hqx25 (Or.inl ⟨?h4x25, ?hyx25⟩) (by assumption) ?restx25
    case hox25 => (simp only [List.getElem?_toArray, List.getElem?_cons_zero, List.getElem?_cons_succ]; rfl)
    case h1x25 => kernel_rfl
    case h2x25 => kernel_rfl
    case h3x25 => kernel_rfl
    case h4x25 => rfl
    case hqx25 => exact fun _ _ _ h => h
    case hyx25 => (intro w hSw; (try dsimp only at hSw); go_simp <;> with_reducible rfl)
    (try simp only [Act.put, List.setIfInBounds_toArray, List.set_cons_zero, List.set_cons_succ])
    refine wpAnyH_take (i := 26) (oi := ?oix26) (v := ?vx26) ?hox26 ?h1x26 ?h2x26 ?h3x26 ?hqx26 (Or.inl ⟨?h4x26, ?hyx26⟩) (by assumption) ?restx26
    case hox26 => (simp only [List.getElem?_toArray, List.getElem?_cons_zero, List.getElem?_cons_succ]; rfl)
    case h1x26 => kernel_rfl
    case h2x26 => kernel_rfl
    case h3x26 => kernel_rfl
    case h4x26 => rfl
    case hqx26 => exact fun _ _ _ h => h
    case hyx26 => (intro w hSw; (try dsimp only at hSw); go_simp <;> with_reducible rfl)
    (try simp only [Act.put, List.setIfInBounds_toArray, List.set_cons_zero, List.set_cons_succ])
    refine wpAnyH_take (i := 27) (oi := ?oix27) (v := ?vx27) ?hox27 ?h1x27 ?h2x27 ?h3x27 ?hqx27 (Or.inl ⟨?h4x27, ?hyx27⟩) (by assumption) ?restx27
    case hox27 => (simp only [List.getElem?_toArray, List.getElem?_cons_zero, List.getElem?_cons_succ]; rfl)
    case h1x27 => kernel_rfl
    case h2x27 => kernel_rfl
    case h3x27 => kernel_rfl
    case h4x27 => rfl
    case hqx27 => exact fun _ _ _ h => h
    case hyx27 => (intro w hSw; (try dsimp only at hSw); go_simp <;> with_reducible rfl)
    (try simp only [Act.put, List.setIfInBounds_toArray, List.set_cons_zero, List.set_cons_succ])
    refine wpAnyH_take (i := 28) (oi := ?oix28) (v := ?vx28) ?hox28 ?h1x28 ?h2x28 ?h3x28 ?hqx28 (Or.inl ⟨?h4x28, ?hyx28⟩) (by assumption) ?restx28
    case hox28 => (simp only [List.getElem?_toArray, List.getElem?_cons_zero, List.getElem?_cons_succ]; rfl)
    case h1x28 => kernel_rfl
    case h2x28 => kernel_rfl
    case h3x28 => kernel_rfl
    case h4x28 => rfl
    case hqx28 => exact fun _ _ _ h => h
    case hyx28 => (intro w hSw; (try dsimp only at hSw); go_simp <;> with_reducible rfl)
    (try simp only [Act.put, List.setIfInBounds_toArray, List.set_cons_zero, List.set_cons_succ])
    refine wpAnyH_take (i := 29) (oi := ?oix29) (v := ?vx29) ?hox29 ?h1x29 ?h2x29 ?h3x29 ?hqx29 (Or.inl ⟨?h4x29, ?hyx29⟩) (by assumption) ?restx29
    case hox29 => (simp only [List.getElem?_toArray, List.getElem?_cons_zero, List.getElem?_cons_succ]; rfl)
    case h1x29 => kernel_rfl
    case h2x29 => kernel_rfl
    case h3x29 => kernel_rfl
    case h4x29 => rfl
    case hqx29 => exact fun _ _ _ h => h
    case hyx29 => (intro w hSw; (try dsimp only at hSw); go_simp <;> with_reducible rfl)
    (try simp only [Act.put, List.setIfInBounds_toArray, List.set_cons_zero, List.set_cons_succ])
    refine wpAnyH_take (i := 30) (oi := ?oix30) (v := ?vx30) ?hox30 ?h1x30 ?h2x30 ?h3x30 ?hqx30 (Or.inl ⟨?h4x30, ?hyx30⟩) (by assumption) ?restx30
    case hox30 => (simp only [List.getElem?_toArray, List.getElem?_cons_zero, List.getElem?_cons_succ]; rfl)
    case h1x30 => kernel_rfl
    case h2x30 => kernel_rfl
    case h3x30 => kernel_rfl
    case h4x30 => rfl
    case hqx30 => exact fun _ _ _ h => h
    case hyx30 => (intro w hSw; (try dsimp only at hSw); go_simp <;> with_reducible rfl)
    (try simp only [Act.put, List.setIfInBounds_toArray, List.set_cons_zero, List.set_cons_succ])
    refine wpAnyH_take (i := 31) (oi := ?oix31) (v := ?vx31) ?hox31 ?h1x31 ?h2x31 ?h3x31 ?hqx31 (Or.inl ⟨?h4x31, ?hyx31⟩) (by assumption) ?restx31
    case hox31 => (simp only [List.getElem?_toArray, List.getElem?_cons_zero, List.getElem?_cons_succ]; rfl)
    case h1x31 => kernel_rfl
    case h2x31 => kernel_rfl
    case h3x31 => kernel_rfl
    case h4x31 => rfl
    case hqx31 => exact fun _ _ _ h => h
    case hyx31 => (intro w hSw; (try dsimp only at hSw); go_simp <;> with_reducible rfl)
    (try simp only [Act.put, List.setIfInBounds_toArray, List.set_cons_zero, List.set_cons_succ])
    refine wpAnyH_take (i := 32) (oi := ?oix32) (v := ?vx32) ?hox32 ?h1x32 ?h2x32 ?h3x32 ?hqx32 (Or.inl ⟨?h4x32, ?hyx32⟩) (by assumption) ?restx32
    case hox32 => (simp only [List.getElem?_toArray, List.getElem?_cons_zero, List.getElem?_cons_succ]; rfl)
    case h1x32 => kernel_rfl
    case h2x32 => kernel_rfl
    case h3x32 => kernel_rfl
    case h4x32 => rfl
    case hqx32 => exact fun _ _ _ h => h
    case hyx32 => (intro w hSw; (try dsimp only at hSw); go_simp <;> with_reducible rfl)
    (try simp only [Act.put, List.setIfInBounds_toArray, List.set_cons_zero, List.set_cons_succ])
    refine wpAnyH_take (i := 33) (oi := ?oix33) (v := ?vx33) ?hox33 ?h1x33 ?h2x33 ?h3x33 ?hqx33 (Or.inl ⟨?h4x33, ?hyx33⟩) (by assumption) ?restx33
    case hox33 => (simp only [List.getElem?_toArray, List.getElem?_cons_zero, List.getElem?_cons_succ]; rfl)
    case h1x33 => kernel_rfl
    case h2x33 => kernel_rfl
    case h3x33 => kernel_rfl
    case h4x33 => rfl
    case hqx33 => exact fun _ _ _ h => h
    case hyx33 => (intro w hSw; (try dsimp only at hSw); go_simp <;> with_reducible rfl)
    (try simp only [Act.put, List.setIfInBounds_toArray, List.set_cons_zero, List.set_cons_succ])
    refine wpAnyH_take (i := 34) (oi := ?oix34) (v := ?vx34) ?hox34 ?h1x34 ?h2x34 ?h3x34 ?hqx34 (Or.inl ⟨?h4x34, ?hyx34⟩) (by assumption) ?restx34
    case hox34 => (simp only [List.getElem?_toArray, List.getElem?_cons_zero, List.getElem?_cons_succ]; rfl)
    case h1x34 => kernel_rfl
    case h2x34 => kernel_rfl
    case h3x34 => kernel_rfl
    case h4x34 => rfl
    case hqx34 => exact fun _ _ _ h => h
    case hyx34 => (intro w hSw; (try dsimp only at hSw); go_simp <;> with_reducible rfl)
    (try simp only [Act.put, List.setIfInBounds_toArray, List.set_cons_zero, List.set_cons_succ])
    refine wpAnyH_take (i := 35) (oi := ?oix35) (v := ?vx35) ?hox35 ?h1x35 ?h2x35 ?h3x35 ?hqx35 (Or.inl ⟨?h4x35, ?hyx35⟩) (by assumption) ?restx35
    case hox35 => (simp only [List.getElem?_toArray, List.getElem?_cons_zero, List.getElem?_cons_succ]; rfl)
    case h1x35 => kernel_rfl
    case h2x35 => kernel_rfl
    case h3x35 => kernel_rfl
    case h4x35 => rfl
    case hqx35 => exact fun _ _ _ h => h
    case hyx35 => (intro w hSw; (try dsimp only at hSw); go_simp <;> with_reducible rfl)
    (try simp only [Act.put, List.setIfInBounds_toArray, List.set_cons_zero, List.set_cons_succ])
    refine wpAnyH_take (i := 36) (oi := ?oix36) (v := ?vx36) ?hox36 ?h1x36 ?h2x36 ?h3x36 ?hqx36 (Or.inl ⟨?h4x36, ?hyx36⟩) (by assumption) ?restx36
    case hox36 => (simp only [List.getElem?_toArray, List.getElem?_cons_zero, List.getElem?_cons_succ]; rfl)
    case h1x36 => kernel_rfl
    case h2x36 => kernel_rfl
    case h3x36 => kernel_rfl
    case h4x36 => rfl
    case hqx36 => exact fun _ _ _ h => h
    case hyx36 => (intro w hSw; (try dsimp only at hSw); go_simp <;> with_reducible rfl)
    (try simp only [Act.put, List.setIfInBounds_toArray, List.set_cons_zero, List.set_cons_succ])
    refine wpAnyH_done (by kernel_rfl) ?_ _
    go_wp2
    go_ret
    exact ⟨rfl, below_step HB.out HB.out.size hB7⟩
  · have hbI : (3000 : Int) < (n : Int) + (n1 : Int) := by omega
    have hbJ : (n : Int) ≤ 140737488355328 := by omega
    have hbK : (n1 : Int) ≤ 140737488355328 := by omega
    go_enter Try.func5, Try.ntmps5
    go_wp2_with fail
    refine (awake_any w).mono ?_
    rintro e w1 ⟨rfl, hB1⟩
    go_wp2_with fail
    refine (awake_any w1).mono ?_
    rintro e w2 ⟨rfl, hB2⟩
    go_wp2
    go_ret
    exact ⟨rfl, below_step hB1 hB1.size hB2⟩
end Go.Proofs.Ytlaibabjnfjbpaa.Oct
