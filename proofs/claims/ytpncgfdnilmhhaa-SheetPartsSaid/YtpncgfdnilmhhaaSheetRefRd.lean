import Derived.Test.YtpncgfdnilmhhaaSheetRead
import Derived.Test.YtpncgfdnilmhhaaSheetRef
import Derived.Deep.DeepCutAuto
set_option linter.unusedVariables false
set_option linter.unusedSimpArgs false
namespace Go.Proofs.Ytpncgfdnilmhhaa.Sheet
open Go.RowKit Go.Proofs.Ytpncgfdnilmhhaa.Kit Go.Proofs.Ytpncgfdnilmhhaa.Oct

theorem nums_seg {w : World} {b o n c : Nat} {xs : List Int} (h : Nums w .u8 (some ⟨b, o, none⟩) n xs) (hnc : n ≤ c) (m j : Nat) (hj : m + j ≤ n) (hm : m < c) : Nums w .u8 (some ⟨b, o + m, none⟩) j ((xs.drop m).take j) := by
  have := (h.drop hnc m (by omega)).take j (by omega)
  have e : (⟨b, o, none⟩ : Addr).add m = ⟨b, o + m, none⟩ := by unfold Addr.add; split <;> simp_all
  rw [if_neg (by omega), Option.map_some, e] at this
  exact this
theorem nums_plain {w : World} {b o n : Nat} {k : IntKind} {xs : List Int} (h : Nums w k (some ⟨b, o, none⟩) n xs) (i : Nat) (hi : i < n) : w.cell? ⟨b, o + i, none⟩ = some (.int k (xs.getD i 0)) := by
  obtain ⟨b', o', e, hc⟩ := h.cell i hi
  injection e with e
  injection e with e1 e2
  rw [e1, e2]
  exact hc i hi

/-- What no sheet gives: the reference's way. -/
theorem told_no2 {w' : World} {xs bb : List Int} {K E S a f n : Nat} {ys : List Int} (hl : xs.length = 96) (hs : num ((xs.take 95).drop 91) = sum ((xs.take 95).take 91)) (hbb : bb = (xs.take 95).take 91) (hlb : bb.length = 91) (hB : IsB bb)
    (h1 : (K : Int) = bb.getD 0 0) (h2 : E = num ((bb.drop 1).take 6)) (h3 : S = num ((bb.drop 7).take 6)) (h4 : a = num ((bb.drop 13).take 2)) (h5 : (f : Int) = bb.getD 15 0) (h6 : (n : Int) = bb.getD 16 0 + 256 * bb.getD 17 0) (h7 : ys = (bb.drop 18).take n)
    (h : ¬ (n ≤ 64 ∧ formP (K : Int) (E : Int) (S : Int) (a : Int) ((f : Int) - 1) n ∧ page K E S a f ys = xs)) :
    Told w' xs (.agg #[.int .u8 0, .int .u64 0, .int .u64 0, .int .i64 0, .int .i64 0, .slice none 0 0]) 3 := by
  refine .inr ⟨?_, (code_three hl hs).symm, rfl⟩
  rintro ⟨K', E', S', a', f', zs, hf, he⟩
  obtain ⟨_, _, _, p4⟩ := page_read hf he
  rw [(op_good (drop_take_sum hl) hs).2, ← hbb] at p4
  have h0 := num_one bb hB 0 (by omega)
  rw [List.drop_zero] at h0
  have h15 := num_one bb hB 15 (by omega)
  have h16 := num_two bb hB 16 (by omega)
  rw [← h1] at h0
  rw [← h5] at h15
  rw [← h6] at h16
  rw [p4] at h0 h15 h16 h2 h3 h4 h7
  obtain ⟨s1, s2, s3, s4, s5, s6, s7⟩ := seg_body hf
  rw [s1] at h0
  rw [s2] at h2
  rw [s3] at h3
  rw [s4] at h4
  rw [s5] at h15
  rw [s6] at h16
  have e1 : K = K' := by omega
  have e5 : f = f' := by omega
  have e6 : n = zs.length := by omega
  subst h2 h3 h4 e1 e5
  rw [e6, s7] at h7
  subst h7
  have h64 := hf.2.2.2.2.2.2.1
  exact h ⟨by omega, nat_form' hf e6.symm, he.symm⟩

set_option maxRecDepth 100000 in
set_option maxHeartbeats 4000000 in
theorem rsread_any (A : Option Addr) (n c : Nat) (xs : List Int) (w : World) (hz : Nums w .u8 A n xs) (hnc : n ≤ c) :
    Calls Try.prog 19 #[.slice A n c] w fun e w' => ∃ v k, e = .returned (.tuple #[v, .int .i64 k]) ∧ Told w' xs v k ∧ Below w.heap.size w w' := by
  have hn := hz.most
  have hlen := hz.len
  go_enter Try.func19, Try.ntmps19
  go_upto_region 1 with (fail)
  obtain ⟨w2, hw2⟩ : ∃ w2, w2 = w.alloc (.cells #[.int .u8 0, .int .u64 0, .int .u64 0, .int .i64 0, .int .i64 0, .slice none 0 0] 30) := ⟨_, rfl⟩
  have hb : Blk w2 w.heap.size #[.int .u8 0, .int .u64 0, .int .u64 0, .int .i64 0, .int .i64 0, .slice none 0 0] 30 := by rw [hw2]; exact Blk.new _ _ _
  have hB : Below w.heap.size w w2 := by rw [hw2]; exact (Below.refl _ _).alloc (Nat.le_refl _) _
  rw [← hw2]
  clear hw2
  have hz2 := hz.below hB
  obtain ⟨⟨c0, c1, c2, c3, c4, c5⟩, f0, f1, f2, f3, f4, f5⟩ := hb.six
  have hlt2 := hb.lt
  have Hb := hid hb
  have Hz0 := hid hz
  clear hz hb
  by_cases h96 : n = 96
  · obtain rfl := h96
    obtain ⟨b, o, rfl, hcell⟩ := hz2.cell 95 (by decide)
    have hc95 := hcell 95 (by decide)
    generalize hy : xs.getD 95 0 = y at *
    by_cases hy90 : y = 90
    · subst hy90
      have hzt := hz2.take 95 (by decide)
      have Hz := hid hz2
      clear hz2 hcell
      go_wp2_with fail
      refine (ropen_any (some ⟨b, o, none⟩) 91 95 c (xs.take 95) w2 hzt (by omega) (by decide) rfl).mono ?_
      rintro e w3 ⟨hB3, ⟨hs, rfl⟩ | ⟨hs, rfl⟩⟩
      · have Hs := hid hs
        have Hb3 := hid (Hb.out.later hB3)
        have hB3' := hB.trans (hB3.mono (Nat.le_of_lt hlt2))
        clear c0 c1 c2 c3 c4 c5 f0 f1 f2 f3 f4 f5
        obtain ⟨⟨c0, c1, c2, c3, c4, c5⟩, f0, f1, f2, f3, f4, f5⟩ := Hb3.out.six
        clear hzt hs hc95
        go_wp2
        refine bodyPost_ret (results_row_tmp (P := Try.prog) rfl _ _ w.heap.size _ _ (0, 0) _ rfl (Blk.six_set Hb3.out (.int .u8 0) (.int .u64 0) (.int .u64 0) (.int .i64 0) (.int .i64 0) (.slice none 0 0)) Try.underlying30 rfl (by kernel_rfl)) rfl ?_
        exact ⟨_, _, rfl, told_sum hlen hy Hs.out, (((((((hB3'.setCell (Nat.le_refl _) _).setCell (Nat.le_refl _) _).setCell (Nat.le_refl _) _).setCell (Nat.le_refl _) _).setCell (Nat.le_refl _) _).setCell (Nat.le_refl _) _))⟩
      · have hl91 : ((xs.take 95).take 91).length = 91 := by rw [List.length_take, drop_take_sum hlen]; rfl
        have hzb := (hzt.take 91 (by decide)).below hB3
        have Hs := hid hs
        have hB3' := hB.trans (hB3.mono (Nat.le_of_lt hlt2))
        have hb3 := Hb.out.later hB3
        clear hs hzt hc95 c0 c1 c2 c3 c4 c5 f0 f1 f2 f3 f4 f5 hB
        obtain ⟨bb, hbb⟩ : ∃ bb, bb = (xs.take 95).take 91 := ⟨_, rfl⟩
        rw [← hbb] at hzb hl91
        have Hbb := hid hbb
        clear hbb
        have hbB := isB_of hzb
        have gB : ∀ k, k < 91 → 0 ≤ bb.getD k 0 ∧ bb.getD k 0 ≤ 255 := fun k hk => by
          rw [List.getD_eq_getElem?_getD, List.getElem?_eq_getElem (by omega)]
          exact hbB _ (List.getElem_mem _)
        obtain ⟨K, hK⟩ : ∃ K : Nat, (K : Int) = bb.getD 0 0 := ⟨(bb.getD 0 0).toNat, by have := gB 0 (by decide); omega⟩
        obtain ⟨f, hf5⟩ : ∃ K : Nat, (K : Int) = bb.getD 15 0 := ⟨(bb.getD 15 0).toNat, by have := gB 15 (by decide); omega⟩
        obtain ⟨n0, hn0⟩ : ∃ K : Nat, (K : Int) = bb.getD 16 0 := ⟨(bb.getD 16 0).toNat, by have := gB 16 (by decide); omega⟩
        obtain ⟨n1, hn1⟩ : ∃ K : Nat, (K : Int) = bb.getD 17 0 := ⟨(bb.getD 17 0).toNat, by have := gB 17 (by decide); omega⟩
        have mK : K ≤ 255 := by have := gB 0 (by decide); omega
        have mf : f ≤ 255 := by have := gB 15 (by decide); omega
        have mn0 : n0 ≤ 255 := by have := gB 16 (by decide); omega
        have mn1 : n1 ≤ 255 := by have := gB 17 (by decide); omega
        obtain ⟨m, hm⟩ : ∃ m, m = n0 + 256 * n1 := ⟨_, rfl⟩
        have hc := nums_plain hzb
        have q0 := hc 0 (by decide)
        have q15 := hc 15 (by decide)
        have q16 := hc 16 (by decide)
        have q17 := hc 17 (by decide)
        rw [← hK] at q0
        rw [← hf5] at q15
        rw [← hn0] at q16
        rw [← hn1] at q17
        have hmI : (m : Int) = bb.getD 16 0 + 256 * bb.getD 17 0 := by rw [← hn0, ← hn1, hm]; omega
        have HmI := hid hmI
        have HK := hid hK
        have Hf5 := hid hf5
        clear hmI hK hf5 hn0 hn1 gB hc
        obtain ⟨⟨d0, d1, d2, d3, d4, d5⟩, f0, f1, f2, f3, f4, f5⟩ := hb3.six
        have hw1 : IntKind.i64.wrap (n0 : Int) = (n0 : Int) := IntWalk.i64_in _ (by omega)
        have hw2 : IntKind.i64.wrap (n1 : Int) = (n1 : Int) := IntWalk.i64_in _ (by omega)
        have hw3 : IntKind.i64.wrap (256 * (n1 : Int)) = 256 * (n1 : Int) := IntWalk.i64_in _ (by omega)
        have hw4 : IntKind.i64.wrap ((n0 : Int) + 256 * (n1 : Int)) = (m : Int) := by rw [show (n0 : Int) + 256 * (n1 : Int) = (m : Int) by omega]; exact IntWalk.i64_in _ (by omega)
        have hmm : m ≤ 65535 := by omega
        clear hm mn0 mn1
        go_upto_region 6 with (fail)
        clear d0 d1 d2 d3 d4 d5 f0 f1 f2 f3 f4 f5
        go_quiet (fail)
        clear hw1 hw2 hw3 hw4
        obtain ⟨wq, hwq⟩ : ∃ wq, wq = w3.drewN nq := ⟨_, rfl⟩
        rw [← hwq]
        have hbq : Blk wq w.heap.size #[.int .u8 0, .int .u64 0, .int .u64 0, .int .i64 0, .int .i64 0, .slice none 0 0] 30 := by rw [hwq]; exact hb3.drewN nq
        have hBq : Below w.heap.size w wq := by rw [hwq]; exact hB3'.drewB nq
        have hzq : Nums wq .u8 (some ⟨b, o, none⟩) 91 bb := by rw [hwq]; exact hzb.drewN nq
        have p0 : wq.cell? ⟨b, o, none⟩ = some (.int .u8 (K : Int)) := by rw [hwq]; exact q0
        have p15 : wq.cell? ⟨b, o + 15, none⟩ = some (.int .u8 (f : Int)) := by rw [hwq]; exact q15
        clear hwq q0 q15 q16 q17 hzb hb3 hB3 hB3'
        obtain ⟨⟨d0, d1, d2, d3, d4, d5⟩, f0, f1, f2, f3, f4, f5⟩ := hbq.six
        have Hbq := hid hbq
        have HBq := hid hBq
        have Hzq := hid hzq
        obtain ⟨E, hE⟩ : ∃ E, E = num ((bb.drop 1).take 6) := ⟨_, rfl⟩
        obtain ⟨S, hS⟩ : ∃ E, E = num ((bb.drop 7).take 6) := ⟨_, rfl⟩
        obtain ⟨a, ha⟩ : ∃ E, E = num ((bb.drop 13).take 2) := ⟨_, rfl⟩
        obtain ⟨ys, hys⟩ : ∃ E, E = (bb.drop 18).take m := ⟨_, rfl⟩
        have TN : ∀ W : World, ¬ (m ≤ 64 ∧ formP (K : Int) (E : Int) (S : Int) (a : Int) ((f : Int) - 1) m ∧ page K E S a f ys = xs) → Told W xs (.agg #[.int .u8 0, .int .u64 0, .int .u64 0, .int .i64 0, .int .i64 0, .slice none 0 0]) 3 := fun W h =>
          told_no2 hlen Hs.out Hbb.out hl91 hbB HK.out hE hS ha Hf5.out HmI.out hys h
        have TN := hid TN
        by_cases h64 : 64 < m
        · clear hzq hbq hBq p0 p15
          go_wp2
          have hbz := Hbq.out
          have HBB := HBq.out
          refine bodyPost_ret (results_row_tmp (P := Try.prog) rfl _ _ w.heap.size _ _ (0, 0) _ rfl (Blk.six_set hbz (.int .u8 0) (.int .u64 0) (.int .u64 0) (.int .i64 0) (.int .i64 0) (.slice none 0 0)) Try.underlying30 rfl (by kernel_rfl)) rfl ?_
          exact ⟨_, _, rfl, TN.out _ (fun h => by omega), (((((((HBB.setCell (Nat.le_refl _) _).setCell (Nat.le_refl _) _).setCell (Nat.le_refl _) _).setCell (Nat.le_refl _) _).setCell (Nat.le_refl _) _).setCell (Nat.le_refl _) _))⟩
        · have hl1 : ((bb.drop 1).take 6).length = 6 := by rw [List.length_take, List.length_drop, hl91]; rfl
          have hbE := isB_take (isB_drop hbB 1) 6
          have hbS := isB_take (isB_drop hbB 7) 6
          have hba := isB_take (isB_drop hbB 13) 2
          have hE64 : E ≤ 18446744073709551615 := by
            have h1 := num_lt _ hbE
            have h2 : 256 ^ ((bb.drop 1).take 6).length ≤ 256 ^ 6 := Nat.pow_le_pow_right (by decide) (by rw [List.length_take]; omega)
            omega
          have hS64 : S ≤ 18446744073709551615 := by
            have h1 := num_lt _ hbS
            have h2 : 256 ^ ((bb.drop 7).take 6).length ≤ 256 ^ 6 := Nat.pow_le_pow_right (by decide) (by rw [List.length_take]; omega)
            omega
          have ha64 : a ≤ 65535 := by
            have h1 := num_lt _ hba
            have h2 : 256 ^ ((bb.drop 13).take 2).length ≤ 256 ^ 2 := Nat.pow_le_pow_right (by decide) (by rw [List.length_take]; omega)
            omega
          have yB : IsB ys := by rw [hys]; exact isB_take (isB_drop hbB 18) m
          have hzE := nums_seg hzq (show 91 ≤ c by omega) 1 6 (by omega) (by omega)
          have hzS := nums_seg hzq (show 91 ≤ c by omega) 7 6 (by omega) (by omega)
          have hza := nums_seg hzq (show 91 ≤ c by omega) 13 2 (by omega) (by omega)
          have hzy := nums_seg hzq (show 91 ≤ c by omega) 18 m (by omega) (by omega)
          rw [← hys] at hzy
          have hly := hzy.len
          have GE : ∀ W, Below wq.heap.size wq W → Calls Try.prog 33 #[.slice (some ⟨b, o + 1, none⟩) 6 (c - 1)] W fun e w' => e = .returned (.int .u64 (E : Int)) ∧ w' = W := fun W h => by rw [hE]; exact rget_any _ 6 _ _ W (hzE.below h) (by decide)
          have GS : ∀ W, Below wq.heap.size wq W → Calls Try.prog 33 #[.slice (some ⟨b, o + 7, none⟩) 6 (c - 7)] W fun e w' => e = .returned (.int .u64 (S : Int)) ∧ w' = W := fun W h => by rw [hS]; exact rget_any _ 6 _ _ W (hzS.below h) (by decide)
          have Ga : ∀ W, Below wq.heap.size wq W → Calls Try.prog 33 #[.slice (some ⟨b, o + 13, none⟩) 2 (c - 13)] W fun e w' => e = .returned (.int .u64 (a : Int)) ∧ w' = W := fun W h => by rw [ha]; exact rget_any _ 2 _ _ W (hza.below h) (by decide)
          have Hzy := hid hzy
          have hbd : Below wq.heap.size wq (wq.drewN 1) := below_drewN (Below.refl _ _) 1
          clear hzE hzS hza hzy hE hS ha hys hbE hbS hba hl1 hzq hbq hBq d0 d1 d2 d3 d4 d5 f0 f1 f2 f3 f4 f5
          go_upto_region 9 with (fail)
          have hw5 : IntKind.i64.wrap (f : Int) = (f : Int) := IntWalk.i64_in _ (by omega)
          have hw6 : IntKind.i64.wrap ((f : Int) - 1) = (f : Int) - 1 := IntWalk.i64_in _ (by omega)
          have hw7 : IntKind.i64.wrap (a : Int) = (a : Int) := IntWalk.i64_in _ (by omega)
          have hw8 : IntKind.i64.wrap (18 + (m : Int)) = 18 + (m : Int) := IntWalk.i64_in _ (by omega)
          have h18a : (18 : Int) ≤ 18 + (m : Int) := by omega
          have h18d : (0 : Int) ≤ 18 + (m : Int) := by omega
          have h18b : 18 + (m : Int) ≤ (c : Int) := by omega
          have h18c : (18 + (m : Int)).toNat = 18 + m := by omega
          have h18e : 18 + m - 18 = m := by omega
          have n1' : ¬ c = 1 := by omega
          have n7' : ¬ c = 7 := by omega
          have n13' : ¬ c = 13 := by omega
          have n18' : ¬ c = 18 := by omega
          have n7i : (7 : Int) ≤ (c : Int) := by omega
          have n13i : (13 : Int) ≤ (c : Int) := by omega
          have n15i : (15 : Int) ≤ (c : Int) := by omega
          have hX : ∀ W, Below wq.heap.size wq W → (W.cell? ⟨b, o, none⟩ = some (.int .u8 (K : Int)) ∧ W.cell? ⟨b, o + 15, none⟩ = some (.int .u8 (f : Int))) := fun W h =>
            ⟨by rw [← p0]; exact h.cell (World.block_lt_of_cell? wq _ p0), by rw [← p15]; exact h.cell (World.block_lt_of_cell? wq _ p15)⟩
          have HX := hid hX
          clear hX
          go_cut [0, 2, 7] (fun x0 x2 p wx => x0 = .slice (some ⟨b, o, none⟩) 96 c ∧ x2 = .pointer (some ⟨w.heap.size, 0, none⟩) ∧ p = .pointer (some ⟨wq.heap.size, 0, none⟩) ∧ Blk wx wq.heap.size #[.int .u8 (K : Int), .int .u64 (E : Int), .int .u64 (S : Int), .int .i64 (a : Int), .int .i64 ((f : Int) - 1), .slice (some ⟨b, o + 18, none⟩) m (c - 18)] 30 ∧ Below wq.heap.size wq wx)
          case first =>
            go_region_held3 (fun w' => w'.cell? ⟨b, o, none⟩ = some (.int .u8 (K : Int)) ∧ w'.cell? ⟨b, o + 15, none⟩ = some (.int .u8 (f : Int)))
              (first | exact HX.out _ hbd | exact HX.out _ (hbd.alloc (Nat.le_refl _) _))
              (first
               | (((with_reducible refine (GE _ ?hz).mono ?_); (case hz => first | exact hbd | exact hbd.alloc (Nat.le_refl _) _); rintro e w' ⟨rfl, rfl⟩))
               | (((with_reducible refine (GS _ ?hz).mono ?_); (case hz => first | exact hbd | exact hbd.alloc (Nat.le_refl _) _); rintro e w' ⟨rfl, rfl⟩))
               | (((with_reducible refine (Ga _ ?hz).mono ?_); (case hz => first | exact hbd | exact hbd.alloc (Nat.le_refl _) _); rintro e w' ⟨rfl, rfl⟩)))
            all_goals
              go_wp2_with fail
              go_meet
              exact ⟨rfl, rfl, rfl, (Blk.new wq _ _).drewN 1, ((Below.refl _ _).alloc (Nat.le_refl _) _).drewB 1⟩
          case rest =>
            obtain ⟨rfl, rfl, rfl, hs14, hB10⟩ := hcut
            have hb14 := Hbq.out.later hB10
            have hz14 := Hzy.out.below hB10
            have hB14 := HBq.out.trans (hB10.mono HBq.out.size)
            have hx14 := Hz0.out.below hB14
            obtain ⟨g1, hg1⟩ : ∃ g1, wq.heap.size = g1 := ⟨_, rfl⟩
            rw [hg1] at hs14 ⊢
            obtain ⟨w14, hw14⟩ : ∃ w14, w14 = wc := ⟨_, rfl⟩
            rw [← hw14] at hs14 hb14 hz14 hB14 hx14 ⊢
            have hcx : ∀ W, Below w14.heap.size w14 W → (convert 23 9 (.slice (some ⟨b, o, none⟩) 96 c)).run Try.prog W = .ok (.string (strOfNums xs)) W := fun W hB => conv_str (hx14.below hB)
            have hxB := isB_of hx14
            have Hs14 := hid hs14
            have Hb14 := hid hb14
            have HB14 := hid hB14
            have Hz14 := hid hz14
            have Hlow := hid (Hz0.out.low (by decide) ⟨b, o, none⟩ rfl)
            obtain ⟨⟨c0, c1, c2, c3, c4, c5⟩, -⟩ := hs14.six
            obtain ⟨⟨d0, d1, d2, d3, d4, d5⟩, f0, f1, f2, f3, f4, f5⟩ := hb14.six
            clear hs14 hb14 hB14 hz14 hx14 hB10 hw14 GE GS Ga hbd p0 p15 HX hw5 hw6 hw7 hw8 h18a h18b h18c h18d h18e n1' n7' n13' n18' n7i n13i n15i
            have hBd : Below w14.heap.size w14 (w14.drewN 1) := below_drewN (Below.refl w14.heap.size w14) 1
            go_upto_region 10 with (fail)
            by_cases hf : formP (K : Int) (E : Int) (S : Int) (a : Int) ((f : Int) - 1) m
            · have G2 : ∀ W, Calls Try.prog 16 #[.agg #[.int .u8 (K : Int), .int .u64 (E : Int), .int .u64 (S : Int), .int .i64 (a : Int), .int .i64 ((f : Int) - 1), .slice (some ⟨b, o + 18, none⟩) m (c - 18)]] W fun e w' => e = .returned (.bool true) ∧ Below W.heap.size W w' := fun W => by
                have := rform_any (K : Int) (E : Int) (S : Int) (a : Int) ((f : Int) - 1) (some ⟨b, o + 18, none⟩) m (c - 18) W (by omega)
                rw [decide_eq_true hf] at this
                exact this
              have hfN := form_nat hf hly yB
              have my : ys.length ≤ 64 := by omega
              have G3 : ∀ W, Nums W .u8 (some ⟨b, o + 18, none⟩) m ys → Calls Try.prog 18 #[.agg #[.int .u8 (K : Int), .int .u64 (E : Int), .int .u64 (S : Int), .int .i64 (a : Int), .int .i64 ((f : Int) - 1), .slice (some ⟨b, o + 18, none⟩) m (c - 18)]] W fun e w' => ∃ v, e = .returned v ∧ OwnB w' W.heap.size v (page K E S a f ys) ∧ Below W.heap.size W w' := fun W h =>
                rlay_any K E S a f ((f : Int) - 1) (some ⟨b, o + 18, none⟩) m (c - 18) ys W h mK hE64 hS64 ha64 mf rfl (by omega)
              have hpl := page_len K E S a f ys my
              have hpB := page_isB K E S a f yB
              have HF := hid hf
              have HN := hid hfN
              clear hf hfN
              obtain ⟨pg, hpg⟩ : ∃ pg, page K E S a f ys = pg := ⟨_, rfl⟩
              rw [hpg] at G3 hpl hpB
              have Hpg := hid hpg
              clear hpg
              have HS := hid (fun W (h : Below w14.heap.size w14 W) => (⟨(Hs14.out.later h).six.1, hcx W h⟩ : _ ∧ _))
              by_cases hpx : pg = xs
              · have hse := (str_eq hpB hxB).trans (decide_eq_true hpx)
                have Hpx := hid hpx
                clear hpx
                refine wp_region_held_drew (S := (fun w' => (w'.cell? ⟨g1, 0, none⟩ = some (.int .u8 (K : Int)) ∧ w'.cell? ⟨g1, 1, none⟩ = some (.int .u64 (E : Int)) ∧ w'.cell? ⟨g1, 2, none⟩ = some (.int .u64 (S : Int)) ∧ w'.cell? ⟨g1, 3, none⟩ = some (.int .i64 (a : Int)) ∧ w'.cell? ⟨g1, 4, none⟩ = some (.int .i64 ((f : Int) - 1)) ∧ w'.cell? ⟨g1, 5, none⟩ = some (.slice (some ⟨b, o + 18, none⟩) m (c - 18))) ∧ (convert 23 9 (.slice (some ⟨b, o, none⟩) 96 c)).run Try.prog w' = .ok (.string (strOfNums xs)) w')) (by kernel_rfl) ?hSnewAz (fun hHeld => ?restAz)
                case hSnewAz => ((try dsimp only); exact HS.out _ hBd)
                refine wpAnyH_take (i := 0) (oi := ?oiAx0) (v := ?vAx0) ?hoAx0 ?h1Ax0 ?h2Ax0 ?h3Ax0 ?hqAx0 (Or.inl ⟨?h4Ax0, ?hyAx0⟩) (by assumption) ?restAx0
                case hoAx0 => (simp only [List.getElem?_toArray, List.getElem?_cons_zero, List.getElem?_cons_succ]; rfl)
                case h1Ax0 => kernel_rfl
                case h2Ax0 => kernel_rfl
                case h3Ax0 => kernel_rfl
                case h4Ax0 => rfl
                case hqAx0 => exact fun _ _ _ h => h
                case hyAx0 => (intro w hSw; (try dsimp only at hSw); go_simp <;> with_reducible rfl)
                (try simp only [Act.put, List.setIfInBounds_toArray, List.set_cons_zero, List.set_cons_succ])
                refine wpAnyH_ready (rs := [1]) (by kernel_rfl) (by simp) ?_
                refine AllReadyH.cons (o := ?oiAx1) ?hoAx1 (fun K hK => ?restAx1) ?moreAx1
                case moreAx1 => exact AllReadyH.nil
                case hoAx1 => (simp only [List.getElem?_toArray, List.getElem?_cons_zero, List.getElem?_cons_succ]; rfl)
                go_simp
                refine (G2 _).mono ?_
                rintro e w15 ⟨rfl, hB15⟩
                have hB1415 : Below w14.heap.size w14 w15 := hBd.trans hB15
                have hz15 := Hz14.out.below hB1415
                try go_wp2_with fail
                refine hK.out _ _ ?hSnewAy1 (fun hHeld => ?restAy1)
                case hSnewAy1 => ((try dsimp only); exact HS.out _ hB1415)
                clear hK K
                (try simp only [Act.put, List.setIfInBounds_toArray, List.set_cons_zero, List.set_cons_succ])
                refine wpAnyH_take (i := 2) (oi := ?oiAx2) (v := ?vAx2) ?hoAx2 ?h1Ax2 ?h2Ax2 ?h3Ax2 ?hqAx2 (Or.inl ⟨?h4Ax2, ?hyAx2⟩) (by assumption) ?restAx2
                case hoAx2 => (simp only [List.getElem?_toArray, List.getElem?_cons_zero, List.getElem?_cons_succ]; rfl)
                case h1Ax2 => kernel_rfl
                case h2Ax2 => kernel_rfl
                case h3Ax2 => kernel_rfl
                case h4Ax2 => rfl
                case hqAx2 => exact fun _ _ _ h => h
                case hyAx2 => (intro w hSw; (try dsimp only at hSw); go_simp <;> with_reducible rfl)
                (try simp only [Act.put, List.setIfInBounds_toArray, List.set_cons_zero, List.set_cons_succ])
                refine wpAnyH_take (i := 3) (oi := ?oiAx3) (v := ?vAx3) ?hoAx3 ?h1Ax3 ?h2Ax3 ?h3Ax3 ?hqAx3 (Or.inl ⟨?h4Ax3, ?hyAx3⟩) (by assumption) ?restAx3
                case hoAx3 => (simp only [List.getElem?_toArray, List.getElem?_cons_zero, List.getElem?_cons_succ]; rfl)
                case h1Ax3 => kernel_rfl
                case h2Ax3 => kernel_rfl
                case h3Ax3 => kernel_rfl
                case h4Ax3 => rfl
                case hqAx3 => exact fun _ _ _ h => h
                case hyAx3 => (intro w hSw; (try dsimp only at hSw); go_simp <;> with_reducible rfl)
                (try simp only [Act.put, List.setIfInBounds_toArray, List.set_cons_zero, List.set_cons_succ])
                refine wpAnyH_take (i := 4) (oi := ?oiAx4) (v := ?vAx4) ?hoAx4 ?h1Ax4 ?h2Ax4 ?h3Ax4 ?hqAx4 (Or.inl ⟨?h4Ax4, ?hyAx4⟩) (by assumption) ?restAx4
                case hoAx4 => (simp only [List.getElem?_toArray, List.getElem?_cons_zero, List.getElem?_cons_succ]; rfl)
                case h1Ax4 => kernel_rfl
                case h2Ax4 => kernel_rfl
                case h3Ax4 => kernel_rfl
                case h4Ax4 => rfl
                case hqAx4 => exact fun _ _ _ h => h
                case hyAx4 => (intro w hSw; (try dsimp only at hSw); go_simp <;> with_reducible rfl)
                (try simp only [Act.put, List.setIfInBounds_toArray, List.set_cons_zero, List.set_cons_succ])
                refine wpAnyH_take (i := 7) (oi := ?oiAx7) (v := ?vAx7) ?hoAx7 ?h1Ax7 ?h2Ax7 ?h3Ax7 ?hqAx7 (Or.inl ⟨?h4Ax7, ?hyAx7⟩) (by assumption) ?restAx7
                case hoAx7 => (simp only [List.getElem?_toArray, List.getElem?_cons_zero, List.getElem?_cons_succ]; rfl)
                case h1Ax7 => kernel_rfl
                case h2Ax7 => kernel_rfl
                case h3Ax7 => kernel_rfl
                case h4Ax7 => rfl
                case hqAx7 => exact fun _ _ _ h => h
                case hyAx7 => (intro w hSw; (try dsimp only at hSw); go_simp <;> with_reducible rfl)
                (try simp only [Act.put, List.setIfInBounds_toArray, List.set_cons_zero, List.set_cons_succ])
                refine wpAnyH_take (i := 8) (oi := ?oiAx8) (v := ?vAx8) ?hoAx8 ?h1Ax8 ?h2Ax8 ?h3Ax8 ?hqAx8 (Or.inl ⟨?h4Ax8, ?hyAx8⟩) (by assumption) ?restAx8
                case hoAx8 => (simp only [List.getElem?_toArray, List.getElem?_cons_zero, List.getElem?_cons_succ]; rfl)
                case h1Ax8 => kernel_rfl
                case h2Ax8 => kernel_rfl
                case h3Ax8 => kernel_rfl
                case h4Ax8 => rfl
                case hqAx8 => exact fun _ _ _ h => h
                case hyAx8 => (intro w hSw; (try dsimp only at hSw); go_simp <;> with_reducible rfl)
                (try simp only [Act.put, List.setIfInBounds_toArray, List.set_cons_zero, List.set_cons_succ])
                refine wpAnyH_ready (rs := [5]) (by kernel_rfl) (by simp) ?_
                refine AllReadyH.cons (o := ?oiAx5) ?hoAx5 (fun K hK => ?restAx5) ?moreAx5
                case moreAx5 => exact AllReadyH.nil
                case hoAx5 => (simp only [List.getElem?_toArray, List.getElem?_cons_zero, List.getElem?_cons_succ]; rfl)
                go_simp
                refine (G3 _ hz15).mono ?_
                rintro e w16 ⟨v16, rfl, ho16, hB16⟩
                obtain ⟨A16, c16, e16, hc16, hz16⟩ := ho16.reads hpB
                rw [hpl] at e16 hc16 hz16
                subst e16
                have hcv16 := conv_str (c := c16) hz16
                have hB1416 := hB1415.trans (hB16.mono hB1415.size)
                try go_wp2_with fail
                refine hK.out _ _ ?hSnewAy5 (fun hHeld => ?restAy5)
                case hSnewAy5 => ((try dsimp only); exact HS.out _ hB1416)
                clear hK K
                (try simp only [Act.put, List.setIfInBounds_toArray, List.set_cons_zero, List.set_cons_succ])
                refine held_switch (fun w' => ((w'.cell? ⟨g1, 0, none⟩ = some (.int .u8 (K : Int)) ∧ w'.cell? ⟨g1, 1, none⟩ = some (.int .u64 (E : Int)) ∧ w'.cell? ⟨g1, 2, none⟩ = some (.int .u64 (S : Int)) ∧ w'.cell? ⟨g1, 3, none⟩ = some (.int .i64 (a : Int)) ∧ w'.cell? ⟨g1, 4, none⟩ = some (.int .i64 ((f : Int) - 1)) ∧ w'.cell? ⟨g1, 5, none⟩ = some (.slice (some ⟨b, o + 18, none⟩) m (c - 18))) ∧ (convert 23 9 (.slice (some ⟨b, o, none⟩) 96 c)).run Try.prog w' = .ok (.string (strOfNums xs)) w') ∧ (convert 23 9 (.slice A16 96 c16)).run Try.prog w' = .ok (.string (strOfNums pg)) w') (fun w h => h.1) ?hSnewAsa (fun hHeld => ?restAsa)
                case hSnewAsa => ((try dsimp only); exact ⟨HS.out _ hB1416, hcv16⟩)
                refine wpAnyH_take (i := 6) (oi := ?oiAx6) (v := ?vAx6) ?hoAx6 ?h1Ax6 ?h2Ax6 ?h3Ax6 ?hqAx6 (Or.inl ⟨?h4Ax6, ?hyAx6⟩) (by assumption) ?restAx6
                case hoAx6 => (simp only [List.getElem?_toArray, List.getElem?_cons_zero, List.getElem?_cons_succ]; rfl)
                case h1Ax6 => kernel_rfl
                case h2Ax6 => kernel_rfl
                case h3Ax6 => kernel_rfl
                case h4Ax6 => rfl
                case hqAx6 => exact fun _ _ _ h => h
                case hyAx6 => (intro w hSw; (try dsimp only at hSw); go_simp <;> with_reducible rfl)
                (try simp only [Act.put, List.setIfInBounds_toArray, List.set_cons_zero, List.set_cons_succ])
                refine wpAnyH_take (i := 9) (oi := ?oiAx9) (v := ?vAx9) ?hoAx9 ?h1Ax9 ?h2Ax9 ?h3Ax9 ?hqAx9 (Or.inl ⟨?h4Ax9, ?hyAx9⟩) (by assumption) ?restAx9
                case hoAx9 => (simp only [List.getElem?_toArray, List.getElem?_cons_zero, List.getElem?_cons_succ]; rfl)
                case h1Ax9 => kernel_rfl
                case h2Ax9 => kernel_rfl
                case h3Ax9 => kernel_rfl
                case h4Ax9 => rfl
                case hqAx9 => exact fun _ _ _ h => h
                case hyAx9 => (intro w hSw; (try dsimp only at hSw); go_simp <;> with_reducible rfl)
                (try simp only [Act.put, List.setIfInBounds_toArray, List.set_cons_zero, List.set_cons_succ])
                refine wpAnyH_take (i := 10) (oi := ?oiAx10) (v := ?vAx10) ?hoAx10 ?h1Ax10 ?h2Ax10 ?h3Ax10 ?hqAx10 (Or.inl ⟨?h4Ax10, ?hyAx10⟩) (by assumption) ?restAx10
                case hoAx10 => (simp only [List.getElem?_toArray, List.getElem?_cons_zero, List.getElem?_cons_succ]; rfl)
                case h1Ax10 => kernel_rfl
                case h2Ax10 => kernel_rfl
                case h3Ax10 => kernel_rfl
                case h4Ax10 => rfl
                case hqAx10 => exact fun _ _ _ h => h
                case hyAx10 => (intro w hSw; (try dsimp only at hSw); go_simp <;> with_reducible rfl)
                (try simp only [Act.put, List.setIfInBounds_toArray, List.set_cons_zero, List.set_cons_succ])
                refine wpAnyH_done (by kernel_rfl) ?_ _
                have hsz := Hs14.out.later hB1416
                have HZ := hid (Hz14.out.below hB1416)
                have hbz := Hb14.out.later hB1416
                have hB0 := HB14.out.trans (hB1416.mono HB14.out.size)
                clear hz15 hB15 hB16 hz16 hcv16 ho16 hcx G2 G3 hse hB1415 hB1416 HS c0 c1 c2 c3 c4 c5 d0 d1 d2 d3 d4 d5 f0 f1 f2 f3 f4 f5
                obtain ⟨⟨k0, k1, k2, k3, k4, k5⟩, m0, m1, m2, m3, m4, m5⟩ := hbz.six
                have Hbz := hid hbz
                have HB0 := hid hB0
                clear hbz hB0
                obtain ⟨⟨j0, j1, j2, j3, j4, j5⟩, -⟩ := hsz.six
                clear hsz
                go_wp2
                have HBB := HB0.out
                refine bodyPost_ret (results_row_tmp (P := Try.prog) rfl _ _ w.heap.size _ _ (0, 0) _ rfl (Blk.six_set Hbz.out (.int .u8 (K : Int)) (.int .u64 (E : Int)) (.int .u64 (S : Int)) (.int .i64 (a : Int)) (.int .i64 ((f : Int) - 1)) (.slice (some ⟨b, o + 18, none⟩) m (c - 18))) Try.underlying30 rfl (by kernel_rfl)) rfl ?_
                exact ⟨_, _, rfl, .inl ⟨K, E, S, a, f, some ⟨b, o + 18, none⟩, m, c - 18, ys, rfl, rfl, HN.out, nums_six HZ.out (fun _ a ha => by injection ha with ha; subst ha; exact Nat.ne_of_lt Hlow.out) Hbz.out.lt _ _ _ _ _ _, by rw [← Hpx.out, ← Hpg.out]⟩, (((((((HBB.setCell (Nat.le_refl _) _).setCell (Nat.le_refl _) _).setCell (Nat.le_refl _) _).setCell (Nat.le_refl _) _).setCell (Nat.le_refl _) _).setCell (Nat.le_refl _) _))⟩
              · have hse := (str_eq hpB hxB).trans (decide_eq_false hpx)
                have Hpx := hid hpx
                clear hpx
                refine wp_region_held_drew (S := (fun w' => (w'.cell? ⟨g1, 0, none⟩ = some (.int .u8 (K : Int)) ∧ w'.cell? ⟨g1, 1, none⟩ = some (.int .u64 (E : Int)) ∧ w'.cell? ⟨g1, 2, none⟩ = some (.int .u64 (S : Int)) ∧ w'.cell? ⟨g1, 3, none⟩ = some (.int .i64 (a : Int)) ∧ w'.cell? ⟨g1, 4, none⟩ = some (.int .i64 ((f : Int) - 1)) ∧ w'.cell? ⟨g1, 5, none⟩ = some (.slice (some ⟨b, o + 18, none⟩) m (c - 18))) ∧ (convert 23 9 (.slice (some ⟨b, o, none⟩) 96 c)).run Try.prog w' = .ok (.string (strOfNums xs)) w')) (by kernel_rfl) ?hSnewBz (fun hHeld => ?restBz)
                case hSnewBz => ((try dsimp only); exact HS.out _ hBd)
                refine wpAnyH_take (i := 0) (oi := ?oiBx0) (v := ?vBx0) ?hoBx0 ?h1Bx0 ?h2Bx0 ?h3Bx0 ?hqBx0 (Or.inl ⟨?h4Bx0, ?hyBx0⟩) (by assumption) ?restBx0
                case hoBx0 => (simp only [List.getElem?_toArray, List.getElem?_cons_zero, List.getElem?_cons_succ]; rfl)
                case h1Bx0 => kernel_rfl
                case h2Bx0 => kernel_rfl
                case h3Bx0 => kernel_rfl
                case h4Bx0 => rfl
                case hqBx0 => exact fun _ _ _ h => h
                case hyBx0 => (intro w hSw; (try dsimp only at hSw); go_simp <;> with_reducible rfl)
                (try simp only [Act.put, List.setIfInBounds_toArray, List.set_cons_zero, List.set_cons_succ])
                refine wpAnyH_ready (rs := [1]) (by kernel_rfl) (by simp) ?_
                refine AllReadyH.cons (o := ?oiBx1) ?hoBx1 (fun K hK => ?restBx1) ?moreBx1
                case moreBx1 => exact AllReadyH.nil
                case hoBx1 => (simp only [List.getElem?_toArray, List.getElem?_cons_zero, List.getElem?_cons_succ]; rfl)
                go_simp
                refine (G2 _).mono ?_
                rintro e w15 ⟨rfl, hB15⟩
                have hB1415 : Below w14.heap.size w14 w15 := hBd.trans hB15
                have hz15 := Hz14.out.below hB1415
                try go_wp2_with fail
                refine hK.out _ _ ?hSnewBy1 (fun hHeld => ?restBy1)
                case hSnewBy1 => ((try dsimp only); exact HS.out _ hB1415)
                clear hK K
                (try simp only [Act.put, List.setIfInBounds_toArray, List.set_cons_zero, List.set_cons_succ])
                refine wpAnyH_take (i := 2) (oi := ?oiBx2) (v := ?vBx2) ?hoBx2 ?h1Bx2 ?h2Bx2 ?h3Bx2 ?hqBx2 (Or.inl ⟨?h4Bx2, ?hyBx2⟩) (by assumption) ?restBx2
                case hoBx2 => (simp only [List.getElem?_toArray, List.getElem?_cons_zero, List.getElem?_cons_succ]; rfl)
                case h1Bx2 => kernel_rfl
                case h2Bx2 => kernel_rfl
                case h3Bx2 => kernel_rfl
                case h4Bx2 => rfl
                case hqBx2 => exact fun _ _ _ h => h
                case hyBx2 => (intro w hSw; (try dsimp only at hSw); go_simp <;> with_reducible rfl)
                (try simp only [Act.put, List.setIfInBounds_toArray, List.set_cons_zero, List.set_cons_succ])
                refine wpAnyH_take (i := 3) (oi := ?oiBx3) (v := ?vBx3) ?hoBx3 ?h1Bx3 ?h2Bx3 ?h3Bx3 ?hqBx3 (Or.inl ⟨?h4Bx3, ?hyBx3⟩) (by assumption) ?restBx3
                case hoBx3 => (simp only [List.getElem?_toArray, List.getElem?_cons_zero, List.getElem?_cons_succ]; rfl)
                case h1Bx3 => kernel_rfl
                case h2Bx3 => kernel_rfl
                case h3Bx3 => kernel_rfl
                case h4Bx3 => rfl
                case hqBx3 => exact fun _ _ _ h => h
                case hyBx3 => (intro w hSw; (try dsimp only at hSw); go_simp <;> with_reducible rfl)
                (try simp only [Act.put, List.setIfInBounds_toArray, List.set_cons_zero, List.set_cons_succ])
                refine wpAnyH_take (i := 4) (oi := ?oiBx4) (v := ?vBx4) ?hoBx4 ?h1Bx4 ?h2Bx4 ?h3Bx4 ?hqBx4 (Or.inl ⟨?h4Bx4, ?hyBx4⟩) (by assumption) ?restBx4
                case hoBx4 => (simp only [List.getElem?_toArray, List.getElem?_cons_zero, List.getElem?_cons_succ]; rfl)
                case h1Bx4 => kernel_rfl
                case h2Bx4 => kernel_rfl
                case h3Bx4 => kernel_rfl
                case h4Bx4 => rfl
                case hqBx4 => exact fun _ _ _ h => h
                case hyBx4 => (intro w hSw; (try dsimp only at hSw); go_simp <;> with_reducible rfl)
                (try simp only [Act.put, List.setIfInBounds_toArray, List.set_cons_zero, List.set_cons_succ])
                refine wpAnyH_take (i := 7) (oi := ?oiBx7) (v := ?vBx7) ?hoBx7 ?h1Bx7 ?h2Bx7 ?h3Bx7 ?hqBx7 (Or.inl ⟨?h4Bx7, ?hyBx7⟩) (by assumption) ?restBx7
                case hoBx7 => (simp only [List.getElem?_toArray, List.getElem?_cons_zero, List.getElem?_cons_succ]; rfl)
                case h1Bx7 => kernel_rfl
                case h2Bx7 => kernel_rfl
                case h3Bx7 => kernel_rfl
                case h4Bx7 => rfl
                case hqBx7 => exact fun _ _ _ h => h
                case hyBx7 => (intro w hSw; (try dsimp only at hSw); go_simp <;> with_reducible rfl)
                (try simp only [Act.put, List.setIfInBounds_toArray, List.set_cons_zero, List.set_cons_succ])
                refine wpAnyH_take (i := 8) (oi := ?oiBx8) (v := ?vBx8) ?hoBx8 ?h1Bx8 ?h2Bx8 ?h3Bx8 ?hqBx8 (Or.inl ⟨?h4Bx8, ?hyBx8⟩) (by assumption) ?restBx8
                case hoBx8 => (simp only [List.getElem?_toArray, List.getElem?_cons_zero, List.getElem?_cons_succ]; rfl)
                case h1Bx8 => kernel_rfl
                case h2Bx8 => kernel_rfl
                case h3Bx8 => kernel_rfl
                case h4Bx8 => rfl
                case hqBx8 => exact fun _ _ _ h => h
                case hyBx8 => (intro w hSw; (try dsimp only at hSw); go_simp <;> with_reducible rfl)
                (try simp only [Act.put, List.setIfInBounds_toArray, List.set_cons_zero, List.set_cons_succ])
                refine wpAnyH_ready (rs := [5]) (by kernel_rfl) (by simp) ?_
                refine AllReadyH.cons (o := ?oiBx5) ?hoBx5 (fun K hK => ?restBx5) ?moreBx5
                case moreBx5 => exact AllReadyH.nil
                case hoBx5 => (simp only [List.getElem?_toArray, List.getElem?_cons_zero, List.getElem?_cons_succ]; rfl)
                go_simp
                refine (G3 _ hz15).mono ?_
                rintro e w16 ⟨v16, rfl, ho16, hB16⟩
                obtain ⟨A16, c16, e16, hc16, hz16⟩ := ho16.reads hpB
                rw [hpl] at e16 hc16 hz16
                subst e16
                have hcv16 := conv_str (c := c16) hz16
                have hB1416 := hB1415.trans (hB16.mono hB1415.size)
                try go_wp2_with fail
                refine hK.out _ _ ?hSnewBy5 (fun hHeld => ?restBy5)
                case hSnewBy5 => ((try dsimp only); exact HS.out _ hB1416)
                clear hK K
                (try simp only [Act.put, List.setIfInBounds_toArray, List.set_cons_zero, List.set_cons_succ])
                refine held_switch (fun w' => ((w'.cell? ⟨g1, 0, none⟩ = some (.int .u8 (K : Int)) ∧ w'.cell? ⟨g1, 1, none⟩ = some (.int .u64 (E : Int)) ∧ w'.cell? ⟨g1, 2, none⟩ = some (.int .u64 (S : Int)) ∧ w'.cell? ⟨g1, 3, none⟩ = some (.int .i64 (a : Int)) ∧ w'.cell? ⟨g1, 4, none⟩ = some (.int .i64 ((f : Int) - 1)) ∧ w'.cell? ⟨g1, 5, none⟩ = some (.slice (some ⟨b, o + 18, none⟩) m (c - 18))) ∧ (convert 23 9 (.slice (some ⟨b, o, none⟩) 96 c)).run Try.prog w' = .ok (.string (strOfNums xs)) w') ∧ (convert 23 9 (.slice A16 96 c16)).run Try.prog w' = .ok (.string (strOfNums pg)) w') (fun w h => h.1) ?hSnewBsa (fun hHeld => ?restBsa)
                case hSnewBsa => ((try dsimp only); exact ⟨HS.out _ hB1416, hcv16⟩)
                refine wpAnyH_take (i := 6) (oi := ?oiBx6) (v := ?vBx6) ?hoBx6 ?h1Bx6 ?h2Bx6 ?h3Bx6 ?hqBx6 (Or.inl ⟨?h4Bx6, ?hyBx6⟩) (by assumption) ?restBx6
                case hoBx6 => (simp only [List.getElem?_toArray, List.getElem?_cons_zero, List.getElem?_cons_succ]; rfl)
                case h1Bx6 => kernel_rfl
                case h2Bx6 => kernel_rfl
                case h3Bx6 => kernel_rfl
                case h4Bx6 => rfl
                case hqBx6 => exact fun _ _ _ h => h
                case hyBx6 => (intro w hSw; (try dsimp only at hSw); go_simp <;> with_reducible rfl)
                (try simp only [Act.put, List.setIfInBounds_toArray, List.set_cons_zero, List.set_cons_succ])
                refine wpAnyH_take (i := 9) (oi := ?oiBx9) (v := ?vBx9) ?hoBx9 ?h1Bx9 ?h2Bx9 ?h3Bx9 ?hqBx9 (Or.inl ⟨?h4Bx9, ?hyBx9⟩) (by assumption) ?restBx9
                case hoBx9 => (simp only [List.getElem?_toArray, List.getElem?_cons_zero, List.getElem?_cons_succ]; rfl)
                case h1Bx9 => kernel_rfl
                case h2Bx9 => kernel_rfl
                case h3Bx9 => kernel_rfl
                case h4Bx9 => rfl
                case hqBx9 => exact fun _ _ _ h => h
                case hyBx9 => (intro w hSw; (try dsimp only at hSw); go_simp <;> with_reducible rfl)
                (try simp only [Act.put, List.setIfInBounds_toArray, List.set_cons_zero, List.set_cons_succ])
                refine wpAnyH_take (i := 10) (oi := ?oiBx10) (v := ?vBx10) ?hoBx10 ?h1Bx10 ?h2Bx10 ?h3Bx10 ?hqBx10 (Or.inl ⟨?h4Bx10, ?hyBx10⟩) (by assumption) ?restBx10
                case hoBx10 => (simp only [List.getElem?_toArray, List.getElem?_cons_zero, List.getElem?_cons_succ]; rfl)
                case h1Bx10 => kernel_rfl
                case h2Bx10 => kernel_rfl
                case h3Bx10 => kernel_rfl
                case h4Bx10 => rfl
                case hqBx10 => exact fun _ _ _ h => h
                case hyBx10 => (intro w hSw; (try dsimp only at hSw); go_simp <;> with_reducible rfl)
                (try simp only [Act.put, List.setIfInBounds_toArray, List.set_cons_zero, List.set_cons_succ])
                refine wpAnyH_done (by kernel_rfl) ?_ _
                have hbz := Hb14.out.later hB1416
                have hB0 := HB14.out.trans (hB1416.mono HB14.out.size)
                clear hz15 hB15 hB16 hz16 hcv16 ho16 hcx G2 G3 hse hB1415 hB1416 HS c0 c1 c2 c3 c4 c5 d0 d1 d2 d3 d4 d5 f0 f1 f2 f3 f4 f5
                obtain ⟨⟨k0, k1, k2, k3, k4, k5⟩, m0, m1, m2, m3, m4, m5⟩ := hbz.six
                have Hbz := hid hbz
                have HB0 := hid hB0
                clear hbz hB0
                go_wp2
                have HBB := HB0.out
                refine bodyPost_ret (results_row_tmp (P := Try.prog) rfl _ _ w.heap.size _ _ (0, 0) _ rfl (Blk.six_set Hbz.out (.int .u8 0) (.int .u64 0) (.int .u64 0) (.int .i64 0) (.int .i64 0) (.slice none 0 0)) Try.underlying30 rfl (by kernel_rfl)) rfl ?_
                exact ⟨_, _, rfl, TN.out _ (fun h => Hpx.out (by rw [← Hpg.out]; exact h.2.2)), (((((((HBB.setCell (Nat.le_refl _) _).setCell (Nat.le_refl _) _).setCell (Nat.le_refl _) _).setCell (Nat.le_refl _) _).setCell (Nat.le_refl _) _).setCell (Nat.le_refl _) _))⟩
            · have G2 : ∀ W, Calls Try.prog 16 #[.agg #[.int .u8 (K : Int), .int .u64 (E : Int), .int .u64 (S : Int), .int .i64 (a : Int), .int .i64 ((f : Int) - 1), .slice (some ⟨b, o + 18, none⟩) m (c - 18)]] W fun e w' => e = .returned (.bool false) ∧ Below W.heap.size W w' := fun W => by
                have := rform_any (K : Int) (E : Int) (S : Int) (a : Int) ((f : Int) - 1) (some ⟨b, o + 18, none⟩) m (c - 18) W (by omega)
                rw [decide_eq_false hf] at this
                exact this
              have HF := hid hf
              clear hf
              have HS := hid (fun W (h : Below w14.heap.size w14 W) => (Hs14.out.later h).six.1)
              refine wp_region_held_drew (S := (fun w' => w'.cell? ⟨g1, 0, none⟩ = some (.int .u8 (K : Int)) ∧ w'.cell? ⟨g1, 1, none⟩ = some (.int .u64 (E : Int)) ∧ w'.cell? ⟨g1, 2, none⟩ = some (.int .u64 (S : Int)) ∧ w'.cell? ⟨g1, 3, none⟩ = some (.int .i64 (a : Int)) ∧ w'.cell? ⟨g1, 4, none⟩ = some (.int .i64 ((f : Int) - 1)) ∧ w'.cell? ⟨g1, 5, none⟩ = some (.slice (some ⟨b, o + 18, none⟩) m (c - 18)))) (by kernel_rfl) ?hSnewCz (fun hHeld => ?restCz)
              case hSnewCz => ((try dsimp only); exact HS.out _ hBd)
              refine wpAnyH_take (i := 0) (oi := ?oiCx0) (v := ?vCx0) ?hoCx0 ?h1Cx0 ?h2Cx0 ?h3Cx0 ?hqCx0 (Or.inl ⟨?h4Cx0, ?hyCx0⟩) (by assumption) ?restCx0
              case hoCx0 => (simp only [List.getElem?_toArray, List.getElem?_cons_zero, List.getElem?_cons_succ]; rfl)
              case h1Cx0 => kernel_rfl
              case h2Cx0 => kernel_rfl
              case h3Cx0 => kernel_rfl
              case h4Cx0 => rfl
              case hqCx0 => exact fun _ _ _ h => h
              case hyCx0 => (intro w hSw; (try dsimp only at hSw); go_simp <;> with_reducible rfl)
              (try simp only [Act.put, List.setIfInBounds_toArray, List.set_cons_zero, List.set_cons_succ])
              refine wpAnyH_ready (rs := [1]) (by kernel_rfl) (by simp) ?_
              refine AllReadyH.cons (o := ?oiCx1) ?hoCx1 (fun K hK => ?restCx1) ?moreCx1
              case moreCx1 => exact AllReadyH.nil
              case hoCx1 => (simp only [List.getElem?_toArray, List.getElem?_cons_zero, List.getElem?_cons_succ]; rfl)
              go_simp
              refine (G2 _).mono ?_
              rintro e w15 ⟨rfl, hB15⟩
              have hB1415 : Below w14.heap.size w14 w15 := hBd.trans hB15
              try go_wp2_with fail
              refine hK.out _ _ ?hSnewCy1 (fun hHeld => ?restCy1)
              case hSnewCy1 => ((try dsimp only); exact HS.out _ hB1415)
              clear hK K
              (try simp only [Act.put, List.setIfInBounds_toArray, List.set_cons_zero, List.set_cons_succ])
              refine wpAnyH_take (i := 2) (oi := ?oiCx2) (v := ?vCx2) ?hoCx2 ?h1Cx2 ?h2Cx2 ?h3Cx2 ?hqCx2 (Or.inl ⟨?h4Cx2, ?hyCx2⟩) (by assumption) ?restCx2
              case hoCx2 => (simp only [List.getElem?_toArray, List.getElem?_cons_zero, List.getElem?_cons_succ]; rfl)
              case h1Cx2 => kernel_rfl
              case h2Cx2 => kernel_rfl
              case h3Cx2 => kernel_rfl
              case h4Cx2 => rfl
              case hqCx2 => exact fun _ _ _ h => h
              case hyCx2 => (intro w hSw; (try dsimp only at hSw); go_simp <;> with_reducible rfl)
              (try simp only [Act.put, List.setIfInBounds_toArray, List.set_cons_zero, List.set_cons_succ])
              refine wpAnyH_take (i := 3) (oi := ?oiCx3) (v := ?vCx3) ?hoCx3 ?h1Cx3 ?h2Cx3 ?h3Cx3 ?hqCx3 (Or.inl ⟨?h4Cx3, ?hyCx3⟩) (by assumption) ?restCx3
              case hoCx3 => (simp only [List.getElem?_toArray, List.getElem?_cons_zero, List.getElem?_cons_succ]; rfl)
              case h1Cx3 => kernel_rfl
              case h2Cx3 => kernel_rfl
              case h3Cx3 => kernel_rfl
              case h4Cx3 => rfl
              case hqCx3 => exact fun _ _ _ h => h
              case hyCx3 => (intro w hSw; (try dsimp only at hSw); go_simp <;> with_reducible rfl)
              (try simp only [Act.put, List.setIfInBounds_toArray, List.set_cons_zero, List.set_cons_succ])
              refine wpAnyH_take (i := 4) (oi := ?oiCk4) (v := undef) ?hoCk4 ?h1Ck4 ?h2Ck4 ?h3Ck4 ?hqCk4 (Or.inr ⟨?h4Ck4, rfl⟩) (by assumption) ?restCk4
              case hoCk4 => (simp only [List.getElem?_toArray, List.getElem?_cons_zero, List.getElem?_cons_succ]; rfl)
              case h1Ck4 => kernel_rfl
              case h2Ck4 => kernel_rfl
              case h3Ck4 => kernel_rfl
              case h4Ck4 => rfl
              case hqCk4 => exact fun _ _ _ h => h
              (try simp only [Act.put, List.setIfInBounds_toArray, List.set_cons_zero, List.set_cons_succ])
              refine wpAnyH_take (i := 5) (oi := ?oiCk5) (v := undef) ?hoCk5 ?h1Ck5 ?h2Ck5 ?h3Ck5 ?hqCk5 (Or.inr ⟨?h4Ck5, rfl⟩) (by assumption) ?restCk5
              case hoCk5 => (simp only [List.getElem?_toArray, List.getElem?_cons_zero, List.getElem?_cons_succ]; rfl)
              case h1Ck5 => kernel_rfl
              case h2Ck5 => kernel_rfl
              case h3Ck5 => kernel_rfl
              case h4Ck5 => rfl
              case hqCk5 => exact fun _ _ _ h => h
              (try simp only [Act.put, List.setIfInBounds_toArray, List.set_cons_zero, List.set_cons_succ])
              refine wpAnyH_take (i := 6) (oi := ?oiCk6) (v := undef) ?hoCk6 ?h1Ck6 ?h2Ck6 ?h3Ck6 ?hqCk6 (Or.inr ⟨?h4Ck6, rfl⟩) (by assumption) ?restCk6
              case hoCk6 => (simp only [List.getElem?_toArray, List.getElem?_cons_zero, List.getElem?_cons_succ]; rfl)
              case h1Ck6 => kernel_rfl
              case h2Ck6 => kernel_rfl
              case h3Ck6 => kernel_rfl
              case h4Ck6 => rfl
              case hqCk6 => exact fun _ _ _ h => h
              (try simp only [Act.put, List.setIfInBounds_toArray, List.set_cons_zero, List.set_cons_succ])
              refine wpAnyH_take (i := 7) (oi := ?oiCk7) (v := undef) ?hoCk7 ?h1Ck7 ?h2Ck7 ?h3Ck7 ?hqCk7 (Or.inr ⟨?h4Ck7, rfl⟩) (by assumption) ?restCk7
              case hoCk7 => (simp only [List.getElem?_toArray, List.getElem?_cons_zero, List.getElem?_cons_succ]; rfl)
              case h1Ck7 => kernel_rfl
              case h2Ck7 => kernel_rfl
              case h3Ck7 => kernel_rfl
              case h4Ck7 => rfl
              case hqCk7 => exact fun _ _ _ h => h
              (try simp only [Act.put, List.setIfInBounds_toArray, List.set_cons_zero, List.set_cons_succ])
              refine wpAnyH_take (i := 8) (oi := ?oiCk8) (v := undef) ?hoCk8 ?h1Ck8 ?h2Ck8 ?h3Ck8 ?hqCk8 (Or.inr ⟨?h4Ck8, rfl⟩) (by assumption) ?restCk8
              case hoCk8 => (simp only [List.getElem?_toArray, List.getElem?_cons_zero, List.getElem?_cons_succ]; rfl)
              case h1Ck8 => kernel_rfl
              case h2Ck8 => kernel_rfl
              case h3Ck8 => kernel_rfl
              case h4Ck8 => rfl
              case hqCk8 => exact fun _ _ _ h => h
              (try simp only [Act.put, List.setIfInBounds_toArray, List.set_cons_zero, List.set_cons_succ])
              refine wpAnyH_take (i := 9) (oi := ?oiCk9) (v := undef) ?hoCk9 ?h1Ck9 ?h2Ck9 ?h3Ck9 ?hqCk9 (Or.inr ⟨?h4Ck9, rfl⟩) (by assumption) ?restCk9
              case hoCk9 => (simp only [List.getElem?_toArray, List.getElem?_cons_zero, List.getElem?_cons_succ]; rfl)
              case h1Ck9 => kernel_rfl
              case h2Ck9 => kernel_rfl
              case h3Ck9 => kernel_rfl
              case h4Ck9 => rfl
              case hqCk9 => exact fun _ _ _ h => h
              (try simp only [Act.put, List.setIfInBounds_toArray, List.set_cons_zero, List.set_cons_succ])
              refine wpAnyH_take (i := 10) (oi := ?oiCx10) (v := ?vCx10) ?hoCx10 ?h1Cx10 ?h2Cx10 ?h3Cx10 ?hqCx10 (Or.inl ⟨?h4Cx10, ?hyCx10⟩) (by assumption) ?restCx10
              case hoCx10 => (simp only [List.getElem?_toArray, List.getElem?_cons_zero, List.getElem?_cons_succ]; rfl)
              case h1Cx10 => kernel_rfl
              case h2Cx10 => kernel_rfl
              case h3Cx10 => kernel_rfl
              case h4Cx10 => rfl
              case hqCx10 => exact fun _ _ _ h => h
              case hyCx10 => (intro w hSw; (try dsimp only at hSw); go_simp <;> with_reducible rfl)
              (try simp only [Act.put, List.setIfInBounds_toArray, List.set_cons_zero, List.set_cons_succ])
              refine wpAnyH_done (by kernel_rfl) ?_ _
              have hbz := Hb14.out.later hB1415
              have hB0 := HB14.out.trans (hB1415.mono HB14.out.size)
              clear hB15 hcx G2 hB1415 HS hBd c0 c1 c2 c3 c4 c5 d0 d1 d2 d3 d4 d5 f0 f1 f2 f3 f4 f5
              obtain ⟨⟨k0, k1, k2, k3, k4, k5⟩, m0, m1, m2, m3, m4, m5⟩ := hbz.six
              have Hbz := hid hbz
              have HB0 := hid hB0
              clear hbz hB0
              go_wp2
              have HBB := HB0.out
              refine bodyPost_ret (results_row_tmp (P := Try.prog) rfl _ _ w.heap.size _ _ (0, 0) _ rfl (Blk.six_set Hbz.out (.int .u8 0) (.int .u64 0) (.int .u64 0) (.int .i64 0) (.int .i64 0) (.slice none 0 0)) Try.underlying30 rfl (by kernel_rfl)) rfl ?_
              exact ⟨_, _, rfl, TN.out _ (fun h => HF.out h.2.1), (((((((HBB.setCell (Nat.le_refl _) _).setCell (Nat.le_refl _) _).setCell (Nat.le_refl _) _).setCell (Nat.le_refl _) _).setCell (Nat.le_refl _) _).setCell (Nat.le_refl _) _))⟩
    · have Hz := hid hz2
      clear hz2 hcell
      go_wp2
      refine bodyPost_ret (results_row_tmp (P := Try.prog) rfl _ _ w.heap.size _ _ (0, 0) _ rfl (Blk.six_set Hb.out (.int .u8 0) (.int .u64 0) (.int .u64 0) (.int .i64 0) (.int .i64 0) (.slice none 0 0)) Try.underlying30 rfl (by kernel_rfl)) rfl ?_
      exact ⟨_, _, rfl, told_last (.inr (by rw [hy]; exact hy90)), (((((((hB.setCell (Nat.le_refl _) _).setCell (Nat.le_refl _) _).setCell (Nat.le_refl _) _).setCell (Nat.le_refl _) _).setCell (Nat.le_refl _) _).setCell (Nat.le_refl _) _))⟩
  · clear hz2
    go_wp2

    refine bodyPost_ret (results_row_tmp (P := Try.prog) rfl _ _ w.heap.size _ _ (0, 0) _ rfl (Blk.six_set Hb.out (.int .u8 0) (.int .u64 0) (.int .u64 0) (.int .i64 0) (.int .i64 0) (.slice none 0 0)) Try.underlying30 rfl (by kernel_rfl)) rfl ?_
    exact ⟨_, _, rfl, told_last (.inl (by omega)), (((((((hB.setCell (Nat.le_refl _) _).setCell (Nat.le_refl _) _).setCell (Nat.le_refl _) _).setCell (Nat.le_refl _) _).setCell (Nat.le_refl _) _).setCell (Nat.le_refl _) _))⟩
end Go.Proofs.Ytpncgfdnilmhhaa.Sheet
