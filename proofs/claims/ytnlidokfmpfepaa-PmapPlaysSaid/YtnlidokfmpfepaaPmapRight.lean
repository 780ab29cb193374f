import Derived.Test.YtnlidokfmpfepaaPmapSetBad
set_option linter.unusedVariables false
set_option linter.unusedSimpArgs false
namespace Go.Proofs.Ytnlidokfmpfepaa.Pmap
open Go.RowKit Go.Proofs.Ytnlidokfmpfepaa.Kit

set_option maxRecDepth 100000 in
set_option maxHeartbeats 4000000 in
theorem sum_any (g N : Nat) (has : List Bool) (w : World) (hl : has.length = N) (hN : N ≤ 65536) (h : Blk w g (has.map Value.bool).toArray 4) :
    Calls Try.prog 29 #[.slice (some ⟨g, 0, none⟩) N N] w fun e w' => e = .returned (.int .i64 (cnum (fun a => has.getD a false) N : Int)) ∧ w' = w := by
  have hx : ∀ k, k < N → w.cell? ⟨g, k, none⟩ = some (.bool (has.getD k false)) := fun k hk => by
    rw [h.cell]
    have : k < has.length := by rw [hl]; exact hk
    simp [List.getD_eq_getElem?_getD, List.getElem?_eq_getElem this]
  have Hx := hid hx
  clear hx h hl
  go_enter Try.func29, Try.ntmps29
  go_wp2
  go_loopw [3, 4] (fun x y w' => ∃ k : Nat, k ≤ N ∧ y = .int .i64 (k : Int) ∧ x = .int .i64 (cnum (fun a => has.getD a false) k : Int) ∧ w' = w) (fun _ y _ => N - (intOf y).toNat)
  case atStart => exact ⟨0, by omega, rfl, rfl, rfl⟩
  case round =>
    obtain ⟨k, hk, rfl, rfl, rfl⟩ := hrel
    have hcl := cnum_le (fun a => has.getD a false) k
    have hsc := cnum_succ (fun a => has.getD a false) k
    by_cases hlt : k < N
    · have x0 := Hx.out k hlt
      cases hb : has.getD k false
      · rw [hb] at x0
        rw [hb, if_neg (by simp), Nat.add_zero] at hsc
        have Hs := hid hsc
        clear hsc hb
        go_wp2
        go_roundw
        case rel => exact ⟨k + 1, by omega, by go_num, by rw [Hs.out]; rfl, trivial⟩
        case measure => simp [intOf]; omega
      · rw [hb] at x0
        rw [hb, if_pos rfl] at hsc
        have Hs := hid hsc
        clear hsc hb
        generalize cnum (fun a => has.getD a false) k = n at *
        go_wp2
        go_roundw
        case rel => exact ⟨k + 1, by omega, by go_num, by rw [Hs.out]; go_num, trivial⟩
        case measure => simp [intOf]; omega
    · obtain rfl : k = N := by omega
      clear hsc
      go_wp2
      go_ret
      exact ⟨rfl, rfl⟩

/-- A slice of places and one of bools as the law holds them. -/
theorem places_at {w : World} {g N : Nat} {at' : List (Int × Int)} (h : Blk w g (flatP at').toArray 28) (hl : at'.length = N) (k : Nat) (hk : k < N) : w.cell? ⟨g, k * 2, none⟩ = some (.int .i64 (at'.getD k (0, 0)).1) ∧ w.cell? ⟨g, k * 2 + 1, none⟩ = some (.int .i64 (at'.getD k (0, 0)).2) := by
  rw [h.cell, h.cell]
  have := flatP_get at' k (by rw [hl]; exact hk)
  simpa using this
theorem bools_at {w : World} {g N : Nat} {has : List Bool} (h : Blk w g (has.map Value.bool).toArray 4) (hl : has.length = N) (k : Nat) (hk : k < N) : w.cell? ⟨g, k, none⟩ = some (.bool (has.getD k false)) := by
  rw [h.cell]
  have : k < has.length := by rw [hl]; exact hk
  simp [List.getD_eq_getElem?_getD, List.getElem?_eq_getElem this]
theorem PI.get {N M : Nat} {at' : List (Int × Int)} {has : List Bool} {cnt : List Int} (h : PI N M at' has cnt) (k : Nat) (hk : k < N) : getOk has N (k : Int) = has.getD k false ∧ getV at' has N (k : Int) = at'.getD k (0, 0) := by
  have e1 : getOk has N (k : Int) = has.getD k false := by unfold getOk; rw [decide_eq_true ⟨by omega, by omega⟩, Bool.true_and]; rfl
  refine ⟨e1, ?_⟩
  unfold getV
  rw [e1]
  cases hh : has.getD k false
  · rw [if_neg (by simp), h.gone k hh]
  · rw [if_pos rfl]; rfl

theorem PI.cnt_bd {N M : Nat} {at' : List (Int × Int)} {has : List Bool} {cnt : List Int} (h : PI N M at' has cnt) : ∀ x ∈ cnt, 0 ≤ x ∧ x ≤ N := by
  intro x hx
  obtain ⟨i, hi, rfl⟩ := List.getElem_of_mem hx
  have hi' : i < M := by rw [← h.lc]; exact hi
  have ho := h.on i hi'
  have hb := cnum_le (onP at' has i) N
  rw [List.getD_eq_getElem?_getD, List.getElem?_eq_getElem hi] at ho
  simp only [Option.getD_some] at ho
  omega
theorem isum_drop (l : List Int) (j : Nat) (h : j < l.length) : isum (l.drop j) = l.getD j 0 + isum (l.drop (j + 1)) := by
  rw [List.drop_eq_getElem_cons h, List.getD_eq_getElem?_getD, List.getElem?_eq_getElem h]
  rfl
theorem isum_nn (l : List Int) (h : ∀ x ∈ l, 0 ≤ x) : 0 ≤ isum l := by
  induction l with
  | nil => exact Int.le_refl _
  | cons x l ih =>
    have h1 := h x (List.mem_cons_self ..)
    have h2 := ih (fun y hy => h y (List.mem_cons_of_mem _ hy))
    simp only [isum]
    omega
theorem PI.drop_bd {N M : Nat} {at' : List (Int × Int)} {has : List Bool} {cnt : List Int} (h : PI N M at' has cnt) (j : Nat) : 0 ≤ isum (cnt.drop j) ∧ isum (cnt.drop j) ≤ N := by
  refine ⟨isum_nn _ (fun x hx => (h.cnt_bd x (List.mem_of_mem_drop hx)).1), ?_⟩
  have h1 := isum_append (cnt.take j) (cnt.drop j)
  rw [List.take_append_drop] at h1
  have h2 := isum_nn (cnt.take j) (fun x hx => (h.cnt_bd x (List.mem_of_mem_take hx)).1)
  have h3 := h.all
  have h4 := cnum_le (fun a => has.getD a false) N
  omega
theorem on_row (b ga gh gc N M : Nat) (at' : List (Int × Int)) (has : List Bool) (cnt : List Int) (k : Nat) (w : World) (h : PM w b ga gh gc N M at' has cnt) (hp : PI N M at' has cnt) (hk : k < M) :
    Calls Try.prog 15 #[.pointer (some ⟨b, 0, none⟩), .int .i64 (k : Int)] w fun e w' => ∃ A c, e = .returned (.slice A (outs (byL at' has k N)).length c) ∧ Nums w' .i64 A (outs (byL at' has k N)).length (outs (byL at' has k N)) ∧ Below w.heap.size w w' := by
  obtain ⟨o1, o2, o3, -⟩ := outs_at hp k hk
  have hN := h.nM.1
  by_cases h0 : cnt.getD k 0 = 0
  · refine (on_none b ga gh gc N M at' has cnt (k : Int) w h (by rintro ⟨-, -, x⟩; exact x h0)).mono ?_
    rintro e w' ⟨rfl, rfl⟩
    have hl : (outs (byL at' has k N)).length = 0 := by omega
    have hn := List.eq_nil_of_length_eq_zero hl
    rw [hn]
    exact ⟨none, 0, rfl, Nums.none _ _ _, Below.refl _ _⟩
  · refine (on_any b ga gh gc N M at' has cnt k w h hk h0 (fun a _ ha => (hp.here a ha).2)).mono ?_
    rintro e w' ⟨v, rfl, ho, hB⟩
    have hwf : ∀ x ∈ outs (byL at' has k N), (Lit.int .i64 x).wf = true := by
      intro x hx
      obtain ⟨i, hi, rfl⟩ := List.getElem_of_mem hx
      obtain ⟨a, ha, e, -⟩ := o3 i hi
      rw [List.getD_eq_getElem?_getD, List.getElem?_eq_getElem hi] at e
      simp only [Option.getD_some] at e
      rw [e]
      have h1 : -9223372036854775808 ≤ (a : Int) ∧ (a : Int) ≤ 9223372036854775807 := by omega
      simpa [Lit.wf, IntKind.min, IntKind.max, IntKind.signed, IntKind.bits] using h1
    obtain ⟨A, c, rfl, -, hn⟩ := own_nums ho hwf
    exact ⟨A, c, rfl, hn, hB⟩

set_option maxRecDepth 100000 in
set_option maxHeartbeats 2000000 in
theorem right_any (b ga gh gc N M : Nat) (at' : List (Int × Int)) (has : List Bool) (cnt : List Int) (gA gH : Nat) (w : World) (h : PM w b ga gh gc N M at' has cnt) (hp : PI N M at' has cnt)
    (hA : Blk w gA (flatP at').toArray 28) (hH : Blk w gH (has.map Value.bool).toArray 4) :
    Calls Try.prog 24 #[.pointer (some ⟨b, 0, none⟩), .slice (some ⟨gA, 0, none⟩) N N, .slice (some ⟨gH, 0, none⟩) N N, .int .i64 (M : Int)] w fun e w' => e = .returned (.bool true) ∧ Below w.heap.size w w' := by
  have hN := h.nM.1
  have hM := h.nM.2
  have HP := hid hp
  have HM := hid h
  have HA := hid hA
  have HH := hid hH
  clear hp h hA hH
  go_enter Try.func24, Try.ntmps24
  go_wp2
  go_loopw [9, 10] (fun x y w' => ∃ k : Nat, k ≤ N ∧ y = .int .i64 (k : Int) ∧ x = .int .i64 (cnum (fun a => has.getD a false) k : Int) ∧ Below w.heap.size w w') (fun _ y _ => N - (intOf y).toNat)
  case atStart => exact ⟨0, by omega, rfl, rfl, Below.refl _ _⟩
  case round =>
    obtain ⟨k, hk, rfl, rfl, hB⟩ := hrel
    have hcl := cnum_le (fun a => has.getD a false) k
    have hsc := cnum_succ (fun a => has.getD a false) k
    by_cases hlt : k < N
    · have hg := get_any b ga gh gc N M at' has cnt (k : Int) wr (HM.out.later hB)
      obtain ⟨g1, g2⟩ := HP.out.get k hlt
      rw [g1, g2] at hg
      clear g1 g2
      have hX := fun W (hW : Below w.heap.size w W) => bools_at (HH.out.later hW) HP.out.lh k hlt
      have hY := fun W (hW : Below w.heap.size w W) => places_at (HA.out.later hW) HP.out.la k hlt
      generalize at'.getD k (0, 0) = pk at *
      obtain ⟨u, v⟩ := pk
      cases hb : has.getD k false
      · rw [hb, if_neg (by simp)] at hsc
        rw [hb] at hg
        replace hX := hid (fun W hW => (hX W hW).trans (by rw [hb]))
        replace hY := hid hY
        have Hs := hid hsc
        have hB' := hid hB
        clear hsc hB hb
        generalize cnum (fun a => has.getD a false) k = n at *
        go_wp2_with fail
        refine hg.mono ?_
        rintro e w2 ⟨rfl, hB2⟩
        clear hg
        replace hB2 := hid (hB'.out.trans (hB2.mono hB'.out.size))
        go_upto_region 6 with (fail)
        generalize hw3 : World.alloc w2 _ = w3
        obtain ⟨g3, hg3⟩ : ∃ g, w2.heap.size = g := ⟨_, rfl⟩
        have hb3 : Blk w3 w2.heap.size #[.int .i64 u, .int .i64 v] 28 := by rw [← hw3]; exact Blk.new _ _ _
        have hB3 : Below w.heap.size w w3 := by rw [← hw3]; exact hB2.out.alloc hB2.out.size _
        rw [hg3] at hb3 ⊢
        clear hw3 hg3
        have x0 := hX.out w3 hB3
        obtain ⟨x1, x2⟩ := hY.out w3 hB3
        obtain ⟨⟨z0, z1⟩, -⟩ := hb3.two
        replace hB3 := hid hB3
        clear hX hY hb3 hB2 hB'
        go_quiet (fail)
        go_wp2
        go_roundw
        case rel => exact ⟨k + 1, by omega, by go_num, by rw [Hs.out]; rfl, below_drewN hB3.out _⟩
        case measure => simp [intOf]; omega
      · rw [hb, if_pos rfl] at hsc
        rw [hb] at hg
        replace hX := hid (fun W hW => (hX W hW).trans (by rw [hb]))
        replace hY := hid hY
        have Hs := hid hsc
        have hB' := hid hB
        clear hsc hB hb
        generalize cnum (fun a => has.getD a false) k = n at *
        go_wp2_with fail
        refine hg.mono ?_
        rintro e w2 ⟨rfl, hB2⟩
        clear hg
        replace hB2 := hid (hB'.out.trans (hB2.mono hB'.out.size))
        go_upto_region 6 with (fail)
        generalize hw3 : World.alloc w2 _ = w3
        obtain ⟨g3, hg3⟩ : ∃ g, w2.heap.size = g := ⟨_, rfl⟩
        have hb3 : Blk w3 w2.heap.size #[.int .i64 u, .int .i64 v] 28 := by rw [← hw3]; exact Blk.new _ _ _
        have hB3 : Below w.heap.size w w3 := by rw [← hw3]; exact hB2.out.alloc hB2.out.size _
        rw [hg3] at hb3 ⊢
        clear hw3 hg3
        have x0 := hX.out w3 hB3
        obtain ⟨x1, x2⟩ := hY.out w3 hB3
        obtain ⟨⟨z0, z1⟩, -⟩ := hb3.two
        replace hB3 := hid hB3
        clear hX hY hb3 hB2 hB'
        go_quiet (fail)
        go_wp2
        go_roundw
        case rel => exact ⟨k + 1, by omega, by go_num, by rw [Hs.out]; go_num, below_drewN hB3.out _⟩
        case measure => simp [intOf]; omega
    · obtain rfl : N = k := by omega
      have Hall := hid HP.out.all
      rw [← Hall.out]
      have HB := hid hB
      clear hsc hcl hB hk hlt
      go_wp2
      go_loopw [9, 13] (fun x y w' => ∃ j : Nat, j ≤ M ∧ y = .int .i64 (j : Int) ∧ x = .int .i64 (isum (cnt.drop j)) ∧ Below w.heap.size w w') (fun _ y _ => M - (intOf y).toNat)
      case atStart => exact ⟨0, by omega, rfl, rfl, HB.out⟩
      case round =>
        clear HB
        obtain ⟨j, hj, rfl, rfl, hB⟩ := hrel
        have hdb := HP.out.drop_bd j
        by_cases hlt : j < M
        · have hde := isum_drop cnt j (by rw [HP.out.lc]; exact hlt)
          obtain ⟨o1, o2, o3, o4⟩ := outs_at HP.out j hlt
          have hdb1 := HP.out.drop_bd (j + 1)
          have hon := on_row b ga gh gc N M at' has cnt j wr (HM.out.later hB) HP.out hlt
          have hct := fun W (hW : Below w.heap.size w W) => count_any b ga gh gc N M at' has cnt (j : Int) W (HM.out.later hW)
          rw [if_pos (show 0 ≤ (j : Int) ∧ (j : Int) < M by omega), show ((j : Int)).toNat = j by omega, ← o1] at hct
          rw [← o1] at hde
          have HB := hid hB
          have Hct := hid hct
          obtain ⟨y, hy⟩ : ∃ y, y = isum (cnt.drop (j + 1)) := ⟨_, rfl⟩
          rw [← hy] at hde hdb1
          have Hy := hid hy
          generalize isum (cnt.drop j) = x at *
          clear hy
          clear hB hct
          generalize outs (byL at' has j N) = xs at *
          generalize qsL (byL at' has j N) = qs at *
          obtain ⟨L, hL⟩ : ∃ L, L = xs.length := ⟨_, rfl⟩
          rw [← hL] at hon Hct hde o2 o3 o4
          clear hL o1
          go_wp2_with fail
          refine hon.mono ?_
          rintro e w2 ⟨A, c, rfl, hn, hB2⟩
          have hB2' := HB.out.trans (hB2.mono HB.out.size)
          have hct := Hct.out w2 hB2'
          have Hn := hid hn
          replace hB2' := hid hB2'
          clear hon hB2 hn HB Hct
          go_wp2_with fail
          refine hct.mono ?_
          rintro e w2 ⟨rfl, rfl⟩
          clear hct
          have O3 := hid o3
          have O4 := hid o4
          clear o3 o4
          go_wp2
          go_loopw [15] (fun z w' => ∃ i : Nat, i ≤ L ∧ z = .int .i64 (i : Int) ∧ Below w2.heap.size w2 w') (fun z _ => L - (intOf z).toNat)
          case atStart => exact ⟨0, by omega, rfl, Below.refl _ _⟩
          case round =>
            obtain ⟨i, hi, rfl, hB3⟩ := hrel
            by_cases hlt2 : i < L
            · obtain ⟨bs, os, rfl, hc⟩ := (Hn.out.below hB3).at_ i hlt2
              obtain ⟨a, ha, e1, e2, e3, e4⟩ := O3.out i hlt2
              have hBw := hB2'.out.trans (hB3.mono hB2'.out.size)
              have hg := get_any b ga gh gc N M at' has cnt (a : Int) wr (HM.out.later hBw)
              obtain ⟨g1, g2⟩ := HP.out.get a ha
              rw [g1, g2, e2, e3, e4] at hg
              rw [e1] at hc
              clear g1 g2 e1 e2 e3 e4
              replace hB3 := hid hB3
              clear hBw
              go_wp2_with fail
              refine hg.mono ?_
              rintro e w3 ⟨rfl, hB4⟩
              have hB5 := hid (hB3.out.trans (hB4.mono hB3.out.size))
              clear hg hB4 hB3 hc
              go_upto_region 21 with (fail)
              generalize hw4 : World.alloc w3 _ = w4
              obtain ⟨g4, hg4⟩ : ∃ g, w3.heap.size = g := ⟨_, rfl⟩
              have hb4 : Blk w4 w3.heap.size #[.int .i64 (j : Int), .int .i64 (((qs.getD i 0 : Nat)) : Int)] 28 := by rw [← hw4]; exact Blk.new _ _ _
              have hB4 : Below w2.heap.size w2 w4 := by rw [← hw4]; exact hB5.out.alloc hB5.out.size _
              rw [hg4] at hb4 ⊢
              obtain ⟨⟨z0, z1⟩, -⟩ := hb4.two
              have Hb4 := hid hb4
              have HB4 := hid hB4
              clear hw4 hg4 hb4 hB5 hB4
              cases i with
              | zero =>
                generalize qs.getD 0 0 = q0 at *
                go_wp2
                go_roundw
                case rel => exact ⟨1, by omega, by go_num, HB4.out⟩
                case measure => simp [intOf]; omega
              | succ i =>
                obtain ⟨bs', os', hAe, hc⟩ := (Hn.out.below HB4.out).at_ i (by omega)
                injection hAe with hAe
                injection hAe with hA1 hA2 _
                subst hA1 hA2
                obtain ⟨a', ha', e1, e2, e3, e4⟩ := O3.out i (by omega)
                have hq := O4.out i hlt2
                have hBw := hB2'.out.trans (HB4.out.mono hB2'.out.size)
                have hg := get_any b ga gh gc N M at' has cnt (a' : Int) w4 (HM.out.later hBw)
                obtain ⟨g1, g2⟩ := HP.out.get a' ha'
                rw [g1, g2, e2, e3, e4] at hg
                rw [e1] at hc
                clear g1 g2 e1 e2 e3 e4 hBw
                generalize qs.getD i 0 = q0 at *
                generalize qs.getD (i + 1) 0 = q1 at *
                go_wp2_with fail
                refine hg.mono ?_
                rintro e w5 ⟨rfl, hB5⟩
                have z1 := (Hb4.out.later hB5).cell 1
                have HB5 := hid (HB4.out.trans (hB5.mono HB4.out.size))
                clear hg hc hB5 z0
                go_upto_region 25 with (fail)
                generalize hw6 : World.alloc w5 _ = w6
                obtain ⟨g6, hg6⟩ : ∃ g, w5.heap.size = g := ⟨_, rfl⟩
                have hb6 : Blk w6 w5.heap.size #[.int .i64 (j : Int), .int .i64 (q0 : Int)] 28 := by rw [← hw6]; exact Blk.new _ _ _
                have hB6 : Below w5.heap.size w5 w6 := by rw [← hw6]; exact (Below.refl _ _).alloc (Nat.le_refl _) _
                have z1 := (Below.cell hB6 (World.block_lt_of_cell? w5 _ z1)).trans z1
                rw [hg6] at hb6 ⊢
                have y1 : w6.cell? ⟨g6, 1, none⟩ = some (.int .i64 (q0 : Int)) := hb6.cell 1
                have HB6 := hid (HB5.out.trans (hB6.mono HB5.out.size))
                have hqd : decide (q1 ≤ q0) = false := decide_eq_false (by omega)
                clear hw6 hg6 hb6 hB6 hq
                go_wp2
                go_roundw
                case rel => exact ⟨i + 1 + 1, by omega, by go_num, HB6.out⟩
                case measure => simp [intOf]; omega
            · obtain rfl : i = L := by omega
              have hBw := hid (hB2'.out.trans (hB3.mono hB2'.out.size))
              clear hB3 hlt2
              go_wp2
              go_roundw
              case rel => exact ⟨j + 1, by omega, by go_num, by rw [← Hy.out]; congr 1; omega, hBw.out⟩
              case measure => simp [intOf]; omega
        · obtain rfl : M = j := by omega
          have hz : isum (cnt.drop M) = 0 := by rw [List.drop_of_length_le (by rw [HP.out.lc]; exact Nat.le_refl _)]; rfl
          rw [hz]
          have hle := len_any b ga gh gc N M at' has cnt wr (HM.out.later hB) (fun x hx => by have := HP.out.cnt_bd x hx; omega)
          rw [Hall.out] at hle
          have hsm := sum_any gH N has wr HP.out.lh (by omega) (HH.out.later hB)
          generalize cnum (fun a => has.getD a false) N = tot at *
          have HB := hid hB
          clear hB hdb hz
          go_wp2_with fail
          refine hle.mono ?_
          rintro e w2 ⟨rfl, rfl⟩
          go_wp2_with fail
          refine hsm.mono ?_
          rintro e w2 ⟨rfl, rfl⟩
          go_wp2
          go_ret
          exact ⟨rfl, HB.out⟩
end Go.Proofs.Ytnlidokfmpfepaa.Pmap
