import Derived.Test.YtnlidokfmpfepaaPmapFullPlain
set_option linter.unusedVariables false
set_option linter.unusedSimpArgs false
namespace Go.Proofs.Ytnlidokfmpfepaa.Pmap
open Go.RowKit Go.Proofs.Ytnlidokfmpfepaa.Kit

theorem f_on (n : Nat) (h : List Bool) (hok : fOk n h) : ∀ a, a < 40 → h.getD a false = true → 0 ≤ ((fAt n h).getD a (0, 0)).2 ∧ ((fAt n h).getD a (0, 0)).2 < (n : Int) := by
  intro a ha hh
  have := hok.2 a hh
  rw [fAt_get n h a ha, if_pos hh]
  show 0 ≤ (n : Int) - 1 - a ∧ (n : Int) - 1 - a < n
  omega
theorem f_get (n : Nat) (h : List Bool) (k : Nat) (hk : k < 40) : getOk h 40 (k : Int) = h.getD k false ∧ (h.getD k false = true → getV (fAt n h) h 40 (k : Int) = (1, (n : Int) - 1 - k)) := by
  have e1 : getOk h 40 (k : Int) = h.getD k false := by unfold getOk; rw [decide_eq_true ⟨by omega, by omega⟩, Bool.true_and]; rfl
  refine ⟨e1, fun hh => ?_⟩
  unfold getV
  rw [e1, hh, if_pos rfl, Int.toNat_natCast, fAt_get n h k hk, if_pos hh]

theorem wrap64_nat (r : Nat) (h : r ≤ 100000) : wrap64 (r : Int) = (r : Int) := by
  have h0 : (r : Int) ≤ 100000 := by omega
  have h1 : (0 : Int) ≤ (r : Int) := by omega
  generalize (r : Int) = x at *
  clear h
  unfold wrap64
  omega
theorem f_k (i y n : Nat) (hi : i ≤ 31) (hy : y ≤ 255) : (wrap64 (wrap64 ((i : Int) * (2 * (y : Int) + 1)) + (y : Int))).tmod (n : Int) = (((i * (2 * y + 1) + y) % n : Nat) : Int) := by
  have hrb : i * (2 * y + 1) ≤ 31 * 511 := Nat.mul_le_mul hi (by omega)
  have e1 : (i : Int) * (2 * (y : Int) + 1) = ((i * (2 * y + 1) : Nat) : Int) := by rw [Int.natCast_mul]; congr 1
  rw [e1, wrap64_nat _ (by omega), ← Int.natCast_add, wrap64_nat _ (by omega), Int.tmod_eq_emod_of_nonneg (by omega), ← Int.natCast_emod]

set_option maxRecDepth 100000 in
set_option maxHeartbeats 8000000 in
theorem law_full (u : Int) (hu : 0 ≤ u ∧ u ≤ 255) (y : Int) (hy : 0 ≤ y ∧ y ≤ 255) (w : World) :
    Calls Try.prog 3 #[.int .u8 u, .int .u8 y] w fun e w' => e = .returned (.bool true) ∧ Below w.heap.size w w' := by
  obtain ⟨u, rfl⟩ := Int.eq_ofNat_of_zero_le hu.1
  obtain ⟨y, rfl⟩ := Int.eq_ofNat_of_zero_le hy.1
  obtain ⟨n, hn⟩ : ∃ n, n = 1 + u % 32 := ⟨_, rfl⟩
  have hn1 : 1 ≤ n ∧ n ≤ 32 := by omega
  have q1 : (u : Int).tmod 32 = ((n - 1 : Nat) : Int) := by rw [Int.tmod_eq_emod_of_nonneg (by omega)]; omega
  have q2 : (1 : Int) + ((n - 1 : Nat) : Int) = (n : Int) := by omega
  have hu2 := hu.2
  have hy2 : y ≤ 255 := by have := hy.2; omega
  clear hu hy hn
  go_enter Try.func3, Try.ntmps3
  go_wp2_with fail
  refine (awake_any w).mono ?_
  rintro e w1 ⟨rfl, hB1⟩
  go_wp2_with fail
  refine (new_any 40 3 w1 (by decide) (by decide) (by decide) (by decide)).mono ?_
  rintro e w2 ⟨b, ga, gh, gc, rfl, hp2, hB2, hga, hgh, hgc, -, la, lh, lc⟩
  have hs1 := hB1.size
  have hga' : w.heap.size ≤ ga := Nat.le_trans hs1 hga
  have hgh' : w.heap.size ≤ gh := Nat.le_trans hs1 hgh
  have hgc' : w.heap.size ≤ gc := Nat.le_trans hs1 hgc
  have hB02 := hB1.trans (hB2.mono hs1)
  clear hB1 hB2 hs1 hga hgh hgc
  rw [← (f_start n).1, ← (f_start n).2] at hp2
  go_wp2
  go_loopw [8] (fun x w' => ∃ (i : Nat) (h : List Bool), i ≤ n ∧ x = .int .i64 (i : Int) ∧ fOk n h ∧ PM w' b ga gh gc 40 3 (fAt n h) h (fCnt n h) ∧ Below w.heap.size w w' ∧ ga < w'.heap.size ∧ gh < w'.heap.size ∧ gc < w'.heap.size) (fun x _ => n - (intOf x).toNat)
  case atStart => exact ⟨0, List.replicate 40 false, by omega, rfl, ⟨by simp, fun k hk => by rw [List.getD_eq_getElem?_getD, List.getElem?_replicate] at hk; split at hk <;> cases hk⟩, hp2, hB02, la, lh, lc⟩
  case round =>
    rename_i wr
    clear hp2 hB02 la lh lc q1 q2 hu2
    obtain ⟨i, h, hi, rfl, hok, hp, hB, la, lh, lc⟩ := hrel
    by_cases hlt : i < n
    · obtain ⟨k, hk⟩ : ∃ k, k = (i * (2 * y + 1) + y) % n := ⟨_, rfl⟩
      have hkn : k < n := by rw [hk]; exact Nat.mod_lt _ (by omega)
      have ek : (wrap64 (wrap64 ((i : Int) * (2 * (y : Int) + 1)) + (y : Int))).tmod (n : Int) = (k : Int) := by
        rw [hk]; exact f_k i y n (by omega) hy2
      have hn0 : (n : Int) ≠ 0 := by omega
      clear hk
      have hget := get_any b ga gh gc 40 3 _ _ _ (k : Int) wr hp
      obtain ⟨f1, f2⟩ := f_get n h k (by omega)
      obtain ⟨bb, hbb⟩ : ∃ x, h.getD k false = x := ⟨_, rfl⟩
      rw [f1, hbb] at hget
      clear f1 f2
      obtain ⟨⟨v1, v2⟩, hv⟩ : ∃ p, getV (fAt n h) h 40 (k : Int) = p := ⟨_, rfl⟩
      rw [hv] at hget
      clear hv
      go_wp2_with fail
      refine hget.mono ?_
      rintro e w4 ⟨rfl, hB4⟩
      clear hget ek
      go_upto_region 10 with (fail)
      obtain ⟨w5, hw5⟩ : ∃ W, W = w4.alloc (.cells #[.int .i64 v1, .int .i64 v2] 28) := ⟨_, rfl⟩
      have hA5 : Below wr.heap.size wr w5 := by rw [hw5]; exact hB4.alloc hB4.size _
      rw [← hw5]
      have hp5 := hp.later hA5
      have hB5 := hB.trans (hA5.mono hB.size)
      have hs5 := hA5.size
      clear hw5 hB4 hA5 hp hB
      rcases bb with _ | _
      rotate_left
      · clear hbb
        go_wp2
        go_roundw
        case rel => exact ⟨i + 1, h, by omega, by go_num, hok, hp5, hB5, by omega, by omega, by omega⟩
        case measure => simp [intOf]; omega
      · have hh := hbb
        have hd : dcnt (fAt n h) h (fCnt n h) k = fCnt n h := by unfold dcnt; rw [hh]; exact if_neg (by simp)
        have hc1 : (fCnt n h).getD 1 0 = (fNum n h : Int) := rfl
        have hle := fNum_le n h
        have hset := set_in b ga gh gc 40 3 _ _ _ k 1 (n - 1 - k) w5 hp5 (by omega) (by decide) (by omega) (fun x => by rw [hh] at x; cases x) (by rw [hd, hc1]; omega) (by omega) (by omega) (by omega)
        have eP : ((n - 1 - k : Nat) : Int) = (n : Int) - 1 - k := by omega
        rw [f_scnt n h k hkn hn1.2 hok.1 hh, eP] at hset
        have e2 := fAt_set n h k (by omega) hok.1
        have hok' : fOk n (h.set k true) := ⟨by rw [List.length_set]; exact hok.1, fun j hj => by
          rw [getD_set_b h k j (by rw [hok.1]; omega)] at hj
          split at hj
          · omega
          · exact hok.2 j hj⟩
        clear hd hc1 hle
        go_wp2_with fail
        refine hset.mono ?_
        rintro e w6 ⟨rfl, hp6, hF6⟩
        have hs6 := hF6.size
        have hB6 := hB5.trans (hF6.below hB5.size hga' hgh' hgc')
        have hp6' : PM w6 b ga gh gc 40 3 (fAt n (h.set k true)) (h.set k true) (fCnt n (h.set k true)) := by rw [← e2]; exact hp6
        clear hset hp5 hp6 hF6 hB5
        go_wp2
        go_roundw
        case rel => exact ⟨i + 1, h.set k true, by omega, by go_num, hok', hp6', hB6, by omega, by omega, by omega⟩
        case measure => simp [intOf]; omega
    · obtain rfl : i = n := by omega
      have hon : Calls Try.prog 15 #[.pointer (some ⟨b, 0, none⟩), .int .i64 1] wr fun e w' => ∃ A c, e = .returned (.slice A (fL i h).length c) ∧ (fL i h).length ≤ c ∧ Nums w' .i64 A (fL i h).length ((fL i h).map (fun k : Nat => (k : Int))) ∧ Below wr.heap.size wr w' := by
        by_cases h0 : fNum i h = 0
        · have hl := fL_len i h
          have he : fL i h = [] := List.eq_nil_of_length_eq_zero (by omega)
          rw [he]
          refine (on_none b ga gh gc 40 3 _ _ _ 1 wr hp (by rintro ⟨-, -, hx⟩; exact hx (by show (fNum i h : Int) = 0; omega))).mono ?_
          rintro e w' ⟨rfl, rfl⟩
          exact ⟨none, 0, rfl, Nat.le_refl _, Nums.none _ _ _, Below.refl _ _⟩
        · refine (on_any b ga gh gc 40 3 _ _ _ 1 wr hp (by decide) (by show (fNum i h : Int) ≠ 0; omega) (fun a ha hh => by have := f_on i h hok a ha hh; omega)).mono ?_
          rintro e w' ⟨v, rfl, ho, hB'⟩
          rw [outs_by i h hn1.2 hok, List.length_map] at ho
          obtain ⟨A, c, rfl, hc, hz⟩ := own_nums ho (fun x hx => by
            obtain ⟨a, ha, rfl⟩ := List.mem_map.1 hx
            unfold fL at ha
            rw [List.mem_filter, List.mem_reverse, List.mem_range] at ha
            simp [Lit.wf, IntKind.min, IntKind.max, IntKind.signed, IntKind.bits]
            omega)
          exact ⟨A, c, rfl, hc, hz, hB'⟩
      have hl := fL_len i h
      have hle := fNum_le i h
      obtain ⟨L, hL⟩ : ∃ L, (fL i h).length = L := ⟨_, rfl⟩
      rw [hL] at hon hl
      have HL := hid hL
      have Hl := hid hl
      have hlen32 : L ≤ 32 := by omega
      clear hlt hi hL hl hle
      go_wp2_with fail
      refine hon.mono ?_
      rintro e w7 ⟨A, c, rfl, hc, hz, hB7⟩
      have hp7 := hp.later hB7
      have hs7 := hB7.size
      have hB07 := hB.trans (hB7.mono hB.size)
      clear hon hp hB hB7 la lh lc
      go_wp2
      go_loopw [13] (fun x w' => ∃ j : Nat, j ≤ L ∧ x = .int .i64 (j : Int) ∧ Below w7.heap.size w7 w') (fun x _ => L - (intOf x).toNat)
      case atStart => exact ⟨0, by omega, rfl, Below.refl _ _⟩
      case round =>
        obtain ⟨j, hj, rfl, hBj⟩ := hrel
        have hpj := hp7.later hBj
        have hzj := hz.below hBj
        have hsj := hBj.size
        have hgetm : ∀ j, j < L → ((fL i h).map (fun k : Nat => (k : Int))).getD j 0 = (((fL i h).getD j 0 : Nat) : Int) := fun j hj => by
          rw [← HL.out] at hj
          rw [List.getD_eq_getElem?_getD, List.getElem?_map, List.getElem?_eq_getElem hj, List.getD_eq_getElem?_getD, List.getElem?_eq_getElem hj]
          rfl
        by_cases hlt : j < L
        · obtain ⟨bz, oz, hA, hcz⟩ := hzj.at_ j hlt
          rw [hgetm j hlt] at hcz
          obtain ⟨hm1, hm2⟩ := fL_mem i h j (by rw [HL.out]; exact hlt)
          have hpre : 0 < j → ∃ k', w7.cell? ⟨bz, oz + (j - 1), none⟩ = some (.int .i64 (k' : Int)) ∧ (fL i h).getD j 0 < k' ∧ k' < 32 := fun h0 => by
            obtain ⟨b', o', hA', hc'⟩ := hz.at_ (j - 1) (by omega)
            rw [hA] at hA'
            injection hA' with hA'
            injection hA' with e1 e2
            subst e1
            subst e2
            rw [hgetm (j - 1) (by omega)] at hc'
            have hd := fL_dec i h (j - 1) (by rw [HL.out]; omega)
            rw [show j - 1 + 1 = j by omega] at hd
            have := (fL_mem i h (j - 1) (by rw [HL.out]; omega)).2
            exact ⟨((fL i h).getD (j - 1) 0 : Nat), hc', by omega, by omega⟩
          have hcz7 : w7.cell? ⟨bz, oz + j, none⟩ = some (.int .i64 (((fL i h).getD j 0 : Nat) : Int)) := by
            obtain ⟨b', o', hA', hc'⟩ := hz.at_ j hlt
            rw [hA] at hA'
            injection hA' with hA'
            injection hA' with e1 e2
            subst e1
            subst e2
            rw [hgetm j hlt] at hc'
            exact hc'
          generalize (fL i h).getD j 0 = k at *
          have hLj : (j : Int) < (L : Int) := by omega
          have hj0 : (0 : Int) ≤ (j : Int) := by omega
          subst hA
          have hget := get_any b ga gh gc 40 3 _ _ _ (k : Int) wr hpj
          obtain ⟨f1, f2⟩ := f_get i h k (by omega)
          rw [f1, hm1, f2 hm1] at hget
          clear f1 f2 hgetm hm1 hz hok hpj hzj
          have hp7' := hid hp7
          clear hp7
          go_wp2_with fail
          refine hget.mono ?_
          rintro e w8 ⟨rfl, hB8⟩
          clear hget
          go_upto_region 17 with (fail)
          obtain ⟨gx, hgx⟩ : ∃ g, w8.heap.size = g := ⟨_, rfl⟩
          obtain ⟨w9, hw9⟩ : ∃ W, W = w8.alloc (.cells #[.int .i64 1, .int .i64 ((i : Int) - 1 - (k : Int))] 28) := ⟨_, rfl⟩
          have hx9 : Blk w9 gx #[.int .i64 1, .int .i64 ((i : Int) - 1 - (k : Int))] 28 := by rw [hw9, ← hgx]; exact Blk.new _ _ _
          have hA9 : Below wr.heap.size wr w9 := by rw [hw9]; exact hB8.alloc hB8.size _
          rw [← hw9, hgx]
          have hB79 := hBj.trans (hA9.mono hBj.size)
          have hc9 : w9.cell? ⟨bz, oz + j, none⟩ = some (.int .i64 (k : Int)) := by rw [hB79.cell (World.block_lt_of_cell? w7 _ hcz7)]; exact hcz7
          obtain ⟨⟨d0, d1⟩, -⟩ := hx9.two
          clear hw9 hgx hA9 hB8 hBj hcz hcz7 hx9
          by_cases h0 : 0 < j
          · obtain ⟨k', hk', hkk, hk32⟩ := hpre h0
            have hc8 : w9.cell? ⟨bz, oz + (j - 1), none⟩ = some (.int .i64 (k' : Int)) := by rw [hB79.cell (World.block_lt_of_cell? w7 _ hk')]; exact hk'
            clear hpre hk'
            have hB80 : Below w7.heap.size w7 (w9.drewN 1) := below_drewN hB79 1
            go_quiet (fail)
            obtain ⟨wx, hwx⟩ : ∃ W, w9.drewN nq = W := ⟨_, rfl⟩
            have hBx : Below w7.heap.size w7 wx := by rw [← hwx]; exact below_drewN hB79 nq
            rw [hwx]
            clear hwx hB80 hB79 hc9 d0 d1 hc8
            go_wp2
            go_roundw

            case rel => exact ⟨j + 1, by omega, by go_num, hBx⟩
            case measure => simp [intOf]; omega
          · obtain rfl : j = 0 := by omega
            rw [Nat.add_zero] at hc9
            clear hpre h0
            go_quiet (fail)
            obtain ⟨wx, hwx⟩ : ∃ W, w9.drewN nq = W := ⟨_, rfl⟩
            have hBx : Below w7.heap.size w7 wx := by rw [← hwx]; exact below_drewN hB79 nq
            rw [hwx]
            clear hwx hB79 hc9 d0 d1
            go_wp2
            go_roundw
            case rel => exact ⟨0 + 1, by omega, by go_num, hBx⟩
            case measure => simp [intOf]; omega
        · obtain rfl : j = L := by omega
          have hct := fun k => count_any b ga gh gc 40 3 _ _ _ k wr hpj
          have e1 : (if (0 : Int) ≤ 1 ∧ (1 : Int) < ((3 : Nat) : Int) then (fCnt i h).getD ((1 : Int)).toNat 0 else 0) = (fNum i h : Int) := rfl
          have e0 : (if (0 : Int) ≤ 0 ∧ (0 : Int) < ((3 : Nat) : Int) then (fCnt i h).getD ((0 : Int)).toNat 0 else 0) = 0 := rfl
          have e2 : (if (0 : Int) ≤ 2 ∧ (2 : Int) < ((3 : Nat) : Int) then (fCnt i h).getD ((2 : Int)).toNat 0 else 0) = 0 := rfl
          have h1 := hct 1
          have h2 := hct 0
          have h3 := hct 2
          rw [e1, ← Hl.out] at h1
          rw [e0] at h2
          rw [e2] at h3
          have hB9 := hB07.trans (hBj.mono hB07.size)
          clear hct e1 e0 e2 hgetm hz hp7 hok hpj hzj hBj hsj
          go_wp2_with fail
          refine h1.mono ?_
          rintro e w8 ⟨rfl, rfl⟩
          go_wp2_with fail
          refine h2.mono ?_
          rintro e w8 ⟨rfl, rfl⟩
          go_wp2_with fail
          refine h3.mono ?_
          rintro e w8 ⟨rfl, rfl⟩
          go_wp2
          go_ret
          exact ⟨rfl, hB9⟩
end Go.Proofs.Ytnlidokfmpfepaa.Pmap
