import Derived.Test.YtnlidokfmpfepaaPmapNew
import Derived.Deep.WholeRow
import Derived.Laws.Tables
set_option linter.unusedVariables false
set_option linter.unusedSimpArgs false
namespace Go.Proofs.Ytnlidokfmpfepaa.Pmap
open Go.RowKit Go.Proofs.Ytnlidokfmpfepaa.Kit

theorem info3 : (Try.prog.info? 3).map (fun i => (i.zero, i.size, i.bytes)) = some (some (.int .i64 0), 1, 8) := by kernel_rfl
def isum : List Int → Int
  | [] => 0
  | x :: l => x + isum l
theorem isum_append (a b : List Int) : isum (a ++ b) = isum a + isum b := by
  induction a with
  | nil => simp [isum]
  | cons x a ih => simp only [List.cons_append, isum, ih]; omega
theorem isum_bound (l : List Int) (h : ∀ x ∈ l, 0 ≤ x ∧ x ≤ 65536) : 0 ≤ isum l ∧ isum l ≤ 65536 * l.length := by
  induction l with
  | nil => exact ⟨Int.le_refl _, Int.le_refl _⟩
  | cons x l ih =>
    have h1 := ih (fun y hy => h y (List.mem_cons_of_mem _ hy))
    have h2 := h x List.mem_cons_self
    simp only [isum, List.length_cons]
    omega
theorem take_snoc (l : List Int) (k : Nat) (h : k < l.length) : l.take (k + 1) = l.take k ++ [l.getD k 0] := by
  rw [List.take_succ_eq_append_getElem h, List.getD_eq_getElem?_getD, List.getElem?_eq_getElem h]
  rfl

set_option maxHeartbeats 2000000 in
theorem len_any (b ga gh gc N M : Nat) (at' : List (Int × Int)) (has : List Bool) (cnt : List Int) (w : World) (h : PM w b ga gh gc N M at' has cnt) (hb : ∀ x ∈ cnt, 0 ≤ x ∧ x ≤ 65536) :
    Calls Try.prog 25 #[.pointer (some ⟨b, 0, none⟩)] w fun e w' => e = .returned (.int .i64 (isum cnt)) ∧ w' = w := by
  have hM := h.nM.2
  have hl := h.lc
  obtain ⟨c0, c1, c2⟩ := h.cells
  have H := hid h
  have Hl := hid hl
  clear h hl
  go_enter Try.func25, Try.ntmps25
  go_wp2
  go_loop [3, 5, 13] (fun v _ i => ∃ k : Nat, k ≤ M ∧ i = .int .i64 (k : Int) ∧ v = .int .i64 (isum (cnt.take k))) (fun _ _ i => M - (intOf i).toNat)
  case atStart => exact ⟨0, by omega, rfl, rfl⟩
  case round =>
    obtain ⟨k, hk, rfl, rfl⟩ := hrel
    by_cases hlt : k < M
    · have hc := H.out.cnt_at k hlt
      have hbt := isum_bound (cnt.take k) (fun x hx => hb x (List.mem_of_mem_take hx))
      have hlen : (cnt.take k).length ≤ 64 := by rw [List.length_take]; omega
      have Hs := hid (take_snoc cnt k (by rw [Hl.out]; exact hlt))
      have hx : 0 ≤ cnt.getD k 0 ∧ cnt.getD k 0 ≤ 65536 := by
        rw [List.getD_eq_getElem?_getD, List.getElem?_eq_getElem (by rw [Hl.out]; exact hlt)]
        exact hb _ (List.getElem_mem _)
      generalize cnt.getD k 0 = x at *
      generalize hsu : isum (cnt.take k) = s at *
      have Hsu := hid hsu
      obtain ⟨s0, s1⟩ := hbt
      obtain ⟨x0, x1⟩ := hx
      have s2 : s ≤ 4194304 := by
        have : 65536 * ((cnt.take k).length : Int) ≤ 4194304 := by omega
        omega
      clear hsu s1 hlen
      go_wp2
      go_round
      case rel => exact ⟨k + 1, by omega, by go_num, by rw [Hs.out, isum_append, Hsu.out]; simp [isum]⟩
      case measure => simp [intOf]; omega
    · obtain rfl : k = M := by omega
      have ht : cnt.take k = cnt := List.take_of_length_le (by rw [Hl.out]; exact Nat.le_refl _)
      rw [ht]
      clear ht
      go_wp2
      go_ret
      exact ⟨rfl, rfl⟩

/-- By pages: the array that On fills. -/
def byF (at' : List (Int × Int)) (has : List Bool) (k : Nat) (l : List Int) (a : Nat) : List Int := if has.getD a false = true ∧ (at'.getD a (0, 0)).1 = (k : Int) then l.set (at'.getD a (0, 0)).2.toNat ((a : Int) + 1) else l
def byL (at' : List (Int × Int)) (has : List Bool) (k n : Nat) : List Int := (List.range n).foldl (byF at' has k) (List.replicate 32 0)
theorem byL_succ (at' : List (Int × Int)) (has : List Bool) (k n : Nat) : byL at' has k (n + 1) = byF at' has k (byL at' has k n) n := by
  unfold byL
  rw [List.range_succ, List.foldl_append]
  rfl
theorem byF_len (at' : List (Int × Int)) (has : List Bool) (k : Nat) (l : List Int) (a : Nat) : (byF at' has k l a).length = l.length := by
  unfold byF
  split
  · rw [List.length_set]
  · rfl
theorem byL_len (at' : List (Int × Int)) (has : List Bool) (k n : Nat) : (byL at' has k n).length = 32 := by
  induction n with
  | zero => rfl
  | succ n ih => rw [byL_succ, byF_len, ih]
theorem index32 (cs : Array Value) (j : Nat) (y : Int) (hj : j < 32) (h : cs[j]? = some (.int .i64 y)) (W : World) : (Instr.index 70 (.agg cs) (.int .i64 (j : Int))).run Try.prog W = .ok (.int .i64 y) W := by
  have hp : (part 3 cs j).run Try.prog W = .ok (.int .i64 y) W := by
    have ha : (isAgg 3).run Try.prog W = .ok false W := by kernel_rfl
    unfold part
    simp [Sem.run_bind, ha, h]
  have hs : (sizeOf 3).run Try.prog W = .ok 1 W := by kernel_rfl
  have hj' : (j : Int) < 32 := by omega
  simp [Instr.index, run_underlying Try.underlying70, asIntOf, hs, hp, hj', Result.andThen]
  intro h32
  omega
theorem byL_bound (at' : List (Int × Int)) (has : List Bool) (k n : Nat) : ∀ j, 0 ≤ (byL at' has k n).getD j 0 ∧ (byL at' has k n).getD j 0 ≤ n := by
  induction n with
  | zero =>
    intro j
    have : (byL at' has k 0).getD j 0 = 0 := by
      show (List.replicate 32 (0 : Int)).getD j 0 = 0
      rw [List.getD_eq_getElem?_getD, List.getElem?_replicate]
      split <;> rfl
    rw [this]
    omega
  | succ n ih =>
    intro j
    rw [byL_succ]
    unfold byF
    have h := ih j
    split
    · rw [List.getD_eq_getElem?_getD, List.getElem?_set]
      split
      · split
        · simp; omega
        · simp; omega
      · rw [← List.getD_eq_getElem?_getD]; omega
    · omega
def outs (l : List Int) : List Int := (l.filter (fun x => decide (0 < x))).map (fun x => x - 1)

theorem outs_snoc (l : List Int) (y : Int) : outs (l ++ [y]) = outs l ++ (if 0 < y then [y - 1] else []) := by
  unfold outs
  rw [List.filter_append, List.map_append]
  by_cases h : 0 < y
  · rw [if_pos h]; simp [h]
  · rw [if_neg h]; simp [h]

set_option maxRecDepth 100000 in
set_option maxHeartbeats 4000000 in
theorem on_any (b ga gh gc N M : Nat) (at' : List (Int × Int)) (has : List Bool) (cnt : List Int) (k : Nat) (w : World) (h : PM w b ga gh gc N M at' has cnt) (hk : k < M) (hc : cnt.getD k 0 ≠ 0)
    (hpg : ∀ a, a < N → has.getD a false = true → 0 ≤ (at'.getD a (0, 0)).2 ∧ (at'.getD a (0, 0)).2 < 32) :
    Calls Try.prog 15 #[.pointer (some ⟨b, 0, none⟩), .int .i64 (k : Int)] w fun e w' => ∃ v, e = .returned v ∧ w'.ownsRow w.heap.size 3 1 v (outs (byL at' has k N)).length ((outs (byL at' has k N)).map (Value.int .i64)) ∧ Below w.heap.size w w' := by
  have hN := h.nM.1
  have hM := h.nM.2
  obtain ⟨c0, c1, c2⟩ := h.cells
  have hcn := h.cnt_at k hk
  have H := hid h
  have e0 : (cnt.getD k 0 == 0) = false := by rw [beq_eq_false_iff_ne]; exact hc
  have Hc := hid hc
  clear h hc
  generalize cnt.getD k 0 = cx at *
  have hkM : (k : Int) < (M : Int) := by omega
  have hkM' : (k : Int) < 64 := by omega
  go_enter Try.func15, Try.ntmps15
  go_upto_region 4 with (refine wpList_store_row (by rfl) 70 _ _ (by rfl) w.heap.size (List.replicate 32 (Value.int .i64 0)).toArray (by rfl) (by rfl) 70 (List.replicate 32 (Value.int .i64 0)).toArray (heap_alloc_new w _) (by kernel_rfl) rfl (by kernel_rfl) ?_)
  generalize hw : World.setRow _ w.heap.size _ = w3
  have hb3 : Blk w3 w.heap.size ((byL at' has k 0).map (Value.int .i64)).toArray 70 := by
    rw [← hw]
    exact (congrArg (fun W : World => W.heap[w.heap.size]?) (World.setRow_alloc_new w (List.replicate 32 (Value.int .i64 0)).toArray (List.replicate 32 (Value.int .i64 0)).toArray 70)).trans (Blk.new w _ _)
  have hB3 : Below w.heap.size w w3 := by
    rw [← hw]
    show Below w.heap.size w ((w.alloc (.cells (List.replicate 32 (Value.int .i64 0)).toArray 70)).setRow w.heap.size (List.replicate 32 (Value.int .i64 0)).toArray)
    rw [World.setRow_alloc_new]
    exact (Below.refl _ _).alloc (Nat.le_refl _) _
  clear hw c0 c1 c2 hcn e0
  obtain ⟨bb, hbb⟩ : ∃ g, w.heap.size = g := ⟨_, rfl⟩
  have hPM := H.out.later hB3
  rw [hbb] at hb3 hB3 ⊢
  obtain ⟨c0, c1, c2⟩ := hPM.cells
  have Hla := hid H.out.la
  have hbn : b < bb := by rw [← hbb]; exact H.out.blk.lt
  clear hPM
  go_wp2
  go_loopw [42] (fun i w' => ∃ n : Nat, n ≤ N ∧ i = .int .i64 (n : Int) ∧ Blk w' bb ((byL at' has k n).map (Value.int .i64)).toArray 70 ∧ Below bb w w') (fun i _ => N - (intOf i).toNat)
  case atStart => exact ⟨0, by omega, rfl, hb3, hB3⟩
  case round =>
    rename_i wr
    clear hb3 hB3 c0 c1 c2
    obtain ⟨n, hn, rfl, hbr, hBr⟩ := hrel
    have hPr := H.out.later (by rw [hbb]; exact hBr)
    obtain ⟨c0, c1, c2⟩ := hPr.cells
    by_cases hlt : n < N
    · obtain ⟨a0, a1⟩ := hPr.at_at n hlt
      have hh := hPr.has_at n hlt
      have hpn := hpg n hlt
      have Hs := hid (byL_succ at' has k n)
      have hbF : byF at' has k (byL at' has k n) n = if has.getD n false = true ∧ (at'.getD n (0, 0)).1 = (k : Int) then (byL at' has k n).set (at'.getD n (0, 0)).2.toNat ((n : Int) + 1) else byL at' has k n := rfl
      have HbF := hid hbF
      have hbl := byL_len at' has k n
      have hbs := hBr.size
      have Hbr := hid hbr
      have HBr := hid hBr
      clear hbF hbr hBr
      generalize byL at' has k n = L at *
      obtain ⟨⟨p1, p2⟩, hp⟩ : ∃ p, at'.getD n (0, 0) = p := ⟨_, rfl⟩
      rw [hp] at a0 a1 hpn HbF
      simp only at a0 a1 hpn HbF
      have hnI : (n : Int) < (N : Int) := by omega
      have hn0 : (0 : Int) ≤ (n : Int) := by omega
      clear hp
      go_upto_region 7 with (fail)
      obtain ⟨bx, hbx⟩ : ∃ g, wr.heap.size = g := ⟨_, rfl⟩
      rw [hbx]
      obtain ⟨w5, hw5⟩ : ∃ W, W = wr.alloc (.cells #[.int .i64 p1, .int .i64 p2] 28) := ⟨_, rfl⟩
      have hx5 : Blk w5 bx #[.int .i64 p1, .int .i64 p2] 28 := by rw [hw5, ← hbx]; exact Blk.new _ _ _
      have hA5 : Below wr.heap.size wr w5 := by rw [hw5]; exact (Below.refl _ _).alloc (Nat.le_refl _) _
      rw [← hw5]
      have hP5 := hPr.later hA5
      have hb5 := Hbr.out.later hA5
      have hB5 : Below bb w w5 := HBr.out.trans (hA5.mono (by have := Hbr.out.lt; omega))
      have hbbx : bb < bx := by rw [← hbx]; exact Hbr.out.lt
      clear hw5 hbx hA5 hPr c0 c1 c2 a0 a1 hh
      obtain ⟨c0, c1, c2⟩ := hP5.cells
      have hh := hP5.has_at n hlt
      obtain ⟨⟨d0, d1⟩, -⟩ := hx5.two
      have Hb5 := hid hb5
      have HB5 := hid hB5
      clear hP5 hx5 hb5 hB5
      cases hhn : has.getD n false
      · rw [hhn] at hh HbF
        have hF : byL at' has k (n + 1) = L := by rw [Hs.out, HbF.out]; exact if_neg (by simp)
        have HF := hid hF
        clear hF hpn hhn
        go_wp2
        go_roundw
        case rel => exact ⟨n + 1, by omega, by go_num, by rw [HF.out]; exact Hb5.out, HB5.out⟩
        case measure => simp [intOf]; omega
      · rw [hhn] at hh HbF
        obtain ⟨p20, p21⟩ := hpn hhn
        by_cases hpk : p1 = (k : Int)
        · obtain ⟨q, rfl⟩ := Int.eq_ofNat_of_zero_le p20
          have hq : q < 32 := by omega
          have hF : byL at' has k (n + 1) = L.set q ((n : Int) + 1) := by rw [Hs.out, HbF.out]; exact if_pos ⟨rfl, hpk⟩
          have HF := hid hF
          have e1 : (p1 == (k : Int)) = true := by simp [hpk]
          have Hpk := hid hpk
          have hcb : w5.cell? ⟨bb, q, none⟩ = some (.int .i64 (L.getD q 0)) := by
            rw [Hb5.out.cell]
            simp [List.getD_eq_getElem?_getD, List.getElem?_eq_getElem (show q < L.length by omega)]
          have fcb := Hb5.out.free q
          have hb6 := Hb5.out.set q (.int .i64 ((n : Int) + 1))
          have hb6' : Blk (w5.setCell ⟨bb, q, none⟩ (.int .i64 ((n : Int) + 1))) bb ((L.set q ((n : Int) + 1)).map (Value.int .i64)).toArray 70 := by
            rw [List.map_set]
            simpa using hb6
          have Hb6 := hid hb6'
          generalize L.getD q 0 = y at *
          clear hF hpk hhn hb6 hb6' hpn
          go_wp2
          go_roundw
          case rel => exact ⟨n + 1, by omega, by go_num, by rw [HF.out]; exact Hb6.out, HB5.out.setCell (p := (⟨bb, q, none⟩ : Addr)) (Nat.le_refl _) _⟩
          case measure => simp [intOf]; omega
        · have hF : byL at' has k (n + 1) = L := by rw [Hs.out, HbF.out]; exact if_neg (fun h => hpk h.2)
          have HF := hid hF
          have e1 : (p1 == (k : Int)) = false := by rw [beq_eq_false_iff_ne]; exact hpk
          have Hpk := hid hpk
          clear hF hpk hhn hpn
          go_wp2
          go_roundw
          case rel => exact ⟨n + 1, by omega, by go_num, by rw [HF.out]; exact Hb5.out, HB5.out⟩
          case measure => simp [intOf]; omega
    · obtain rfl : n = N := by omega
      have hbl := byL_len at' has k n
      have hLB : ∀ j, j < 32 → (byL at' has k n).getD j 0 ≤ 65536 := fun j _ => by have := byL_bound at' has k n j; omega
      generalize hbL : byL at' has k n = L at *
      have HbL := hid hbL
      clear hbL
      obtain ⟨cs, hcs⟩ : ∃ cs, (L.map (Value.int .i64)).toArray = cs := ⟨_, rfl⟩
      have hsz : cs.size = 32 := by rw [← hcs]; simp [hbl]
      have hget : ∀ j, j < 32 → cs[j]? = some (.int .i64 (L.getD j 0)) := fun j hj => by
        rw [← hcs]
        simp [List.getD_eq_getElem?_getD, List.getElem?_eq_getElem (show j < L.length by omega)]
      rw [hcs] at hbr
      have Hget := hid hget
      have Hbl := hid hbl
      have Hsz := hid hsz
      have Hbr := hid hbr
      have HBr := hid hBr
      have HLB := hid hLB
      clear hcs hget hsz hbl hbr hBr hPr c0 c1 c2 hLB
      go_wp2_with (refine wpList_load_row (by rfl) 70 _ (by rfl) bb (by rfl) 70 cs (0, 0) _ Hbr.out Try.underlying70 rfl (by rw [Hsz.out]; kernel_rfl) ?_)
      go_loopw [8, 67] (fun v i w' => ∃ j : Nat, j ≤ 32 ∧ i = .int .i64 (j : Int) ∧ w'.ownsRow bb 3 1 v (outs (L.take j)).length ((outs (L.take j)).map (Value.int .i64)) ∧ Below bb w w' ∧ bb ≤ w'.heap.size) (fun _ i _ => 32 - (intOf i).toNat)
      case atStart => exact ⟨0, by omega, rfl, World.ownsRow_nil _ _ _ _, HBr.out, Nat.le_of_lt Hbr.out.lt⟩
      case round =>
        obtain ⟨j, hj, rfl, hw, hBj, hsj⟩ := hrel
        by_cases hlt : j < 32
        · have hix := fun W => index32 cs j (L.getD j 0) hlt (Hget.out j hlt) W
          have Ht := hid (take_snoc L j (by rw [Hbl.out]; exact hlt))
          have Ho := hid (outs_snoc (L.take j) (L.getD j 0))
          have hol : (outs (L.take j)).length ≤ 32 := by
            unfold outs
            rw [List.length_map]
            exact Nat.le_trans (List.length_filter_le _ _) (by rw [List.length_take]; omega)
          have hj0 : (j : Int) < 32 := by omega
          have hj1 : (0 : Int) ≤ (j : Int) := by omega
          have hyb := HLB.out j hlt
          generalize L.getD j 0 = y at *
          by_cases hy : 0 < y
          · rw [if_pos hy] at Ho
            have hBj' := hBj
            go_wp2_with (at_builtin; refine append_one bb rfl _ _ 32 3 (.int .i64 0) 8 rfl Try.underlying32 info3 rfl _ _ _ (.int .i64 (y - 1)) (by rfl) (by rfl) rfl hw hsj (by omega) (by omega) ?_; intro v1 w2 hown2 hgr hat)
            have hw2 : w2.ownsRow bb 3 1 v1 (outs (L.take (j + 1))).length ((outs (L.take (j + 1))).map (Value.int .i64)) := by
              rw [Ht.out, Ho.out, List.length_append, List.map_append]
              exact hown2
            have hB2 := hBj.grown hgr hsj (fun k hk => (World.ownsRow.lt hw k hk).1)
            have hs2 := Nat.le_trans hsj hgr.size
            clear hown2 hgr hat hw hBj hBj' hsj
            go_wp2
            go_roundw
            case rel => exact ⟨j + 1, by omega, by go_num, hw2, hB2, hs2⟩
            case measure => simp [intOf]; omega
          · rw [if_neg hy, List.append_nil] at Ho
            go_wp2
            go_roundw
            case rel => exact ⟨j + 1, by omega, by go_num, by rw [Ht.out, Ho.out]; exact hw, hBj, hsj⟩
            case measure => simp [intOf]; omega
        · obtain rfl : j = 32 := by omega
          have ht : L.take 32 = L := List.take_of_length_le (by rw [Hbl.out]; exact Nat.le_refl _)
          rw [ht] at hw
          go_wp2
          go_ret
          exact ⟨_, rfl, by rw [HbL.out, hbb]; exact hw, by rw [hbb]; exact hBj⟩
end Go.Proofs.Ytnlidokfmpfepaa.Pmap
