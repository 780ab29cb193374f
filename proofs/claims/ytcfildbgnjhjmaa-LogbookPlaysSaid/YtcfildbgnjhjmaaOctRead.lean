import Derived.Test.YtcfildbgnjhjmaaOctOpen
set_option linter.unusedVariables false
set_option linter.unusedSimpArgs false
namespace Go.Proofs.Ytcfildbgnjhjmaa.Oct
open Go.RowKit Go.Proofs.Ytcfildbgnjhjmaa.Kit

set_option maxHeartbeats 400000 in
theorem bytes_any (base : Nat) (v : Value) (xs : List Int) (A : Option Addr) (n c : Nat) (ys : List Int) (w : World) (hown : OwnB w base v xs) (hbase : base ≤ w.heap.size) (hz : Nums w .u8 A n ys) (hb : 0 < n → ∀ k, A = some k → some k.block ≠ v.ownBlock) (hn : n ≤ 100000) (hl : xs.length ≤ 100000) :
    Calls Try.prog 46 #[v, .slice A n c] w fun e w' => ∃ v', e = .returned v' ∧ OwnB w' base v' (xs ++ (le n 2 ++ ys)) ∧ Grew w w' v v' := by
  have hn2 : (n : Int) ≤ 100000 := by omega
  go_enter Try.func46, Try.ntmps46
  go_wp2_with fail
  refine (put_any base v xs n 2 w hown hbase (by omega) (by omega) (by omega)).mono ?_
  rintro e w1 ⟨v1, rfl, ho1, hg1⟩
  have hz1 := hz.grown hg1.grew hb
  have hbs := Nat.le_trans hbase hg1.grew.size
  have hll : (xs ++ le n 2).length ≤ 100002 := by rw [List.length_append, le_len]; omega
  go_wp2_with (at_builtin; refine append_nums base rfl _ _ 39 5 .u8 1 rfl Try.underlying39 info5 _ _ _ A n c ys (by rfl) (by rfl) ho1 hz1 hbs (by omega) (by omega) ?_; intro v2 w2 hown2 hgr hat)
  have hw2 : OwnB w2 base v2 (xs ++ (le n 2 ++ ys)) := by
    rw [← List.append_assoc]
    unfold OwnB
    rw [List.length_append, hz.len, List.map_append]
    exact hown2
  have hg2 : Grew w w2 v v2 := hg1.trans ⟨hgr, hat.imp_right fun e => ⟨_, e, Nat.le_refl _⟩⟩
  go_wp2
  go_ret
  exact ⟨_, rfl, hw2, hg2⟩

/-- A reader, as the program has it. -/
def Rd (w : World) (b : Nat) (bad : Bool) (xs : List Int) : Prop := ∃ A n c, Blk w b #[.slice A n c, .bool bad] 172 ∧ Nums w .u8 A n xs ∧ n ≤ c ∧ (0 < n → ∀ a, A = some a → a.block < b)

def Took (w : World) (b : Nat) (v : Value) (ys : List Int) : Prop := ∃ A n c, v = .slice A n c ∧ Nums w .u8 A n ys ∧ (0 < n → ∀ a, A = some a → a.block < b)

def takeSt (bad : Bool) (xs : List Int) (m : Nat) : List Int × Bool × List Int := if bad = true ∨ xs.length < m then ([], true, xs) else (xs.take m, false, xs.drop m)

theorem grown_set {w : World} {b : Nat} (i : Nat) (v : Value) (hb : b < w.heap.size) : w.grownBy (w.setCell ⟨b, i, none⟩ v) (some b) :=
  ⟨rfl, rfl, rfl, by simp, fun j hj hne => heap_setCell_other w _ _ v (by intro e; exact hne (by rw [e]))⟩
theorem nums_set {w : World} {b : Nat} {A : Option Addr} {n : Nat} {xs : List Int} (h : Nums w .u8 A n xs) (i : Nat) (v : Value) (hb : b < w.heap.size) (hab : 0 < n → ∀ a, A = some a → a.block < b) : Nums (w.setCell ⟨b, i, none⟩ v) .u8 A n xs :=
  h.grown (grown_set i v hb) (by intro hn a e; have := hab hn a e; intro e2; injection e2 with e2; omega)

set_option maxHeartbeats 400000 in
theorem take_any (b : Nat) (bad : Bool) (xs : List Int) (m : Nat) (w : World) (h : Rd w b bad xs) (hm : m ≤ 100000) :
    Calls Try.prog 96 #[.pointer (some ⟨b, 0, none⟩), .int .i64 (m : Int)] w fun e w' => ∃ v, e = .returned v ∧ Took w' b v (takeSt bad xs m).1 ∧ Rd w' b (takeSt bad xs m).2.1 (takeSt bad xs m).2.2 ∧ w.grownBy w' (some b) := by
  obtain ⟨A, n, c, hblk, hz, hnc, hab⟩ := h
  have h0 := hblk.cell 0
  have h1 := hblk.cell 1
  have f0 := hblk.free 0
  have f1 := hblk.free 1
  simp only [List.getElem?_toArray, List.getElem?_cons_zero, List.getElem?_cons_succ] at h0 h1
  have hn := hz.most
  have hlen := hz.len
  have Hz := hid hz
  have Hb := hid hblk
  have hlt := hblk.lt
  clear hz hblk
  cases bad
  · by_cases hmn : n < m
    · have ht : takeSt false xs m = ([], true, xs) := if_pos (.inr (by omega))
      rw [ht]
      clear ht
      go_enter Try.func96, Try.ntmps96
      go_wp2
      go_ret
      exact ⟨_, rfl, ⟨none, 0, 0, rfl, Nums.none _ _ _, fun _ a e => (by cases e)⟩, ⟨A, n, c, Hb.out.set 1 _, nums_set Hz.out 1 _ hlt hab, hnc, hab⟩, grown_set 1 _ hlt⟩
    · have ht : takeSt false xs m = (xs.take m, false, xs.drop m) := if_neg (by simp; omega)
      rw [ht]
      clear ht
      have hd := Hz.out.drop hnc m (by omega)
      have htk := Hz.out.take m (by omega)
      have hc : 0 < n - m → ∀ a, (if c = m then A else A.map (·.add m)) = some a → a.block < b := by
        intro hnm a e
        have hab := hab (by omega)
        split at e
        · exact hab a e
        · rcases A with _ | a0
          · cases e
          · injection e with e
            subst e
            have := hab a0 rfl
            by_cases h0 : m = 0
            · simpa [Addr.add, h0] using this
            · simpa [Addr.add, h0] using this
      have Hd := hid hd
      have Htk := hid htk
      have Hc := hid hc
      clear hd htk hc
      generalize hA : (if c = m then A else A.map (·.add m)) = A2 at *
      go_enter Try.func96, Try.ntmps96
      go_wp2
      all_goals (
        go_ret
        exact ⟨_, rfl, ⟨A, m, m, rfl, nums_set Htk.out 0 _ hlt (fun h => hab (by omega)), fun h => hab (by omega)⟩, ⟨_, _, _, Hb.out.set 0 _, nums_set Hd.out 0 _ hlt Hc.out, by omega, Hc.out⟩, grown_set 0 _ hlt⟩)
  · have ht : takeSt true xs m = ([], true, xs) := if_pos (.inl rfl)
    rw [ht]
    clear ht
    go_enter Try.func96, Try.ntmps96
    go_wp2
    go_ret
    exact ⟨_, rfl, ⟨none, 0, 0, rfl, Nums.none _ _ _, fun _ a e => (by cases e)⟩, ⟨A, n, c, Hb.out.set 1 _, nums_set Hz.out 1 _ hlt hab, hnc, hab⟩, grown_set 1 _ hlt⟩

def numSt (bad : Bool) (xs : List Int) (k most : Nat) : Nat × Bool × List Int :=
  if most < num (takeSt bad xs k).1 then (0, true, (takeSt bad xs k).2.2) else (num (takeSt bad xs k).1, (takeSt bad xs k).2)

theorem takeSt_isB {bad : Bool} {xs : List Int} (h : IsB xs) (k : Nat) : IsB (takeSt bad xs k).1 := by
  unfold takeSt
  split
  · intro x hx; cases hx
  · exact fun x hx => h x (List.mem_of_mem_take hx)
theorem takeSt_len (bad : Bool) (xs : List Int) (k : Nat) : (takeSt bad xs k).1.length ≤ k := by
  unfold takeSt
  split
  · simp
  · simp; omega
theorem Rd.isB {w : World} {b : Nat} {bad : Bool} {xs : List Int} (h : Rd w b bad xs) : IsB xs := by
  obtain ⟨A, n, c, _, hz, _⟩ := h
  exact isB_of hz
theorem Rd.lt {w : World} {b : Nat} {bad : Bool} {xs : List Int} (h : Rd w b bad xs) : b < w.heap.size := by
  obtain ⟨A, n, c, hb, _⟩ := h
  exact hb.lt
theorem Rd.spoil {w : World} {b : Nat} {bad : Bool} {xs : List Int} (h : Rd w b bad xs) : Rd (w.setCell ⟨b, 1, none⟩ (.bool true)) b true xs := by
  obtain ⟨A, n, c, hb, hz, hnc, hab⟩ := h
  exact ⟨A, n, c, hb.set 1 _, nums_set hz 1 _ hb.lt hab, hnc, hab⟩

set_option maxHeartbeats 400000 in
theorem num_any (b : Nat) (bad : Bool) (xs : List Int) (k most : Nat) (w : World) (h : Rd w b bad xs) (hk : k ≤ 8) (hmost : most ≤ 18446744073709551615) :
    Calls Try.prog 88 #[.pointer (some ⟨b, 0, none⟩), .int .i64 (k : Int), .int .u64 (most : Int)] w fun e w' => e = .returned (.int .u64 ((numSt bad xs k most).1 : Nat)) ∧ Rd w' b (numSt bad xs k most).2.1 (numSt bad xs k most).2.2 ∧ w.grownBy w' (some b) := by
  have hB := takeSt_isB (bad := bad) h.isB k
  have hL := takeSt_len bad xs k
  have hlt := h.lt
  have Ht := take_any b bad xs k w h (by omega)
  clear h
  unfold numSt
  generalize takeSt bad xs k = t at *
  obtain ⟨ys, bad', xs'⟩ := t
  simp only at hB hL Ht ⊢
  have hbn := num_lt64 ys hB (by omega)
  generalize hqy : num ys = q at *
  have Hq := hid hqy
  clear hqy
  by_cases hq : most < q
  · rw [if_pos hq]
    go_enter Try.func88, Try.ntmps88
    go_wp2_with fail
    refine Ht.mono ?_
    rintro e w1 ⟨v, rfl, ⟨A, n, c, rfl, hz, hab⟩, hr, hg⟩
    clear Ht
    have hn8 : n ≤ 8 := by have := hz.len; omega
    have hlt1 := hr.lt
    obtain ⟨A2, n2, c2, hblk2, hz2, hnc2, hab2⟩ := id hr
    have f1 := hblk2.free 1
    have h1 := hblk2.cell 1
    simp only [List.getElem?_toArray, List.getElem?_cons_zero, List.getElem?_cons_succ] at h1
    have Hr := hid hr
    clear hr hz2 hblk2
    go_wp2_with fail
    refine (get_any A n c ys w1 hz (by omega)).mono ?_
    rintro e w2 ⟨rfl, rfl⟩
    rw [Hq.out]
    go_wp2
    go_ret
    exact ⟨rfl, Hr.out.spoil, World.grownBy.trans hg (grown_set 1 _ hlt1)⟩
  · rw [if_neg hq]
    go_enter Try.func88, Try.ntmps88
    go_wp2_with fail
    refine Ht.mono ?_
    rintro e w1 ⟨v, rfl, ⟨A, n, c, rfl, hz, hab⟩, hr, hg⟩
    clear Ht
    have hn8 : n ≤ 8 := by have := hz.len; omega
    have hlt1 := hr.lt
    obtain ⟨A2, n2, c2, hblk2, hz2, hnc2, hab2⟩ := id hr
    have f1 := hblk2.free 1
    have h1 := hblk2.cell 1
    simp only [List.getElem?_toArray, List.getElem?_cons_zero, List.getElem?_cons_succ] at h1
    have Hr := hid hr
    clear hr hz2 hblk2
    go_wp2_with fail
    refine (get_any A n c ys w1 hz (by omega)).mono ?_
    rintro e w2 ⟨rfl, rfl⟩
    rw [Hq.out]
    go_wp2
    go_ret
    exact ⟨rfl, Hr.out, hg⟩

theorem num_nil (x y : Value) (w : World) :
    Calls Try.prog 88 #[.pointer none, x, y] w fun e w' => e = .returned (.int .u64 0) ∧ w' = w := by
  go_enter Try.func88, Try.ntmps88
  go_wp2
  go_ret
  exact ⟨rfl, rfl⟩

def bytesSt (bad : Bool) (xs : List Int) (most : Nat) : List Int × Bool × List Int :=
  takeSt (numSt bad xs 2 most).2.1 (numSt bad xs 2 most).2.2 (numSt bad xs 2 most).1

theorem numSt_lt {bad : Bool} {xs : List Int} (h : IsB xs) (most : Nat) : (numSt bad xs 2 most).1 < 65536 := by
  have h1 := num_lt (takeSt bad xs 2).1 (takeSt_isB h 2)
  have h2 : 256 ^ (takeSt bad xs 2).1.length ≤ 256 ^ 2 := Nat.pow_le_pow_right (by decide) (takeSt_len _ _ _)
  unfold numSt
  split
  · exact (by omega : (0 : Nat) < 65536)
  · show num _ < 65536
    omega

set_option maxHeartbeats 400000 in
theorem rbytes_any (b : Nat) (bad : Bool) (xs : List Int) (most : Nat) (w : World) (h : Rd w b bad xs) (hmost : most ≤ 1000000) :
    Calls Try.prog 89 #[.pointer (some ⟨b, 0, none⟩), .int .i64 (most : Int)] w fun e w' => ∃ v, e = .returned v ∧ OwnB w' w.heap.size v (bytesSt bad xs most).1 ∧ Rd w' b (bytesSt bad xs most).2.1 (bytesSt bad xs most).2.2 ∧ w.grownBy w' (some b) := by
  have hm2 : (most : Int) ≤ 1000000 := by omega
  have hnl := numSt_lt (bad := bad) h.isB most
  have Hn := num_any b bad xs 2 most w h (by omega) (by omega)
  clear h
  unfold bytesSt
  generalize numSt bad xs 2 most = t at *
  obtain ⟨q, bad', xs'⟩ := t
  simp only at hnl Hn ⊢
  have hq2 : (q : Int) < 65536 := by omega
  have hlen := takeSt_len bad' xs' q
  have Ht2 := fun w1 hr => take_any b bad' xs' q w1 hr (by omega)
  generalize takeSt bad' xs' q = t2 at *
  go_enter Try.func89, Try.ntmps89
  go_wp2_with fail
  refine Hn.mono ?_
  rintro e w1 ⟨rfl, hr, hg⟩
  clear Hn
  go_wp2_with fail
  refine (Ht2 w1 hr).mono ?_
  rintro e w2 ⟨v, rfl, ⟨A, n, c, rfl, hz, hab⟩, hr2, hg2⟩
  clear Ht2
  go_wp2_with fail
  refine (clone_any A n c t2.1 w2 hz (by have := hz.len; omega)).mono ?_
  rintro e w3 ⟨v3, rfl, ho, hB⟩
  go_wp2
  go_ret
  have hs : w.heap.size ≤ w2.heap.size := Nat.le_trans hg.size hg2.size
  obtain ⟨A3, n3, c3, hb3, hz3, hnc3, hab3⟩ := hr2
  exact ⟨_, rfl, ho.mono hs, ⟨A3, n3, c3, hb3.later hB, hz3.below hB, hnc3, hab3⟩, World.grownBy.trans hg (World.grownBy.trans hg2 (grown_of_below hB _))⟩

theorem rbytes_nil (x : Value) (w : World) :
    Calls Try.prog 89 #[.pointer none, x] w fun e w' => e = .returned (.slice none 0 0) ∧ w' = w := by
  go_enter Try.func89, Try.ntmps89
  go_wp2
  go_ret
  exact ⟨rfl, rfl⟩

theorem bad_any (b : Nat) (bad : Bool) (xs : List Int) (w : World) (h : Rd w b bad xs) :
    Calls Try.prog 90 #[.pointer (some ⟨b, 0, none⟩)] w fun e w' => e = .returned (.bool bad) ∧ w' = w := by
  obtain ⟨A, n, c, hblk, hz, hnc, hab⟩ := h
  have h1 := hblk.cell 1
  simp only [List.getElem?_toArray, List.getElem?_cons_zero, List.getElem?_cons_succ] at h1
  go_enter Try.func90, Try.ntmps90
  go_wp2
  go_ret
  exact ⟨rfl, rfl⟩
theorem bad_nil (w : World) :
    Calls Try.prog 90 #[.pointer none] w fun e w' => e = .returned (.bool true) ∧ w' = w := by
  go_enter Try.func90, Try.ntmps90
  go_wp2
  go_ret
  exact ⟨rfl, rfl⟩
theorem read_any (A : Option Addr) (n c : Nat) (xs : List Int) (w : World) (h : Nums w .u8 A n xs) (hnc : n ≤ c) :
    Calls Try.prog 87 #[.slice A n c] w fun e w' => e = .returned (.pointer (some ⟨w.heap.size, 0, none⟩)) ∧ Rd w' w.heap.size false xs ∧ Below w.heap.size w w' := by
  go_enter Try.func87, Try.ntmps87
  go_wp2
  go_ret
  have hB := (Below.refl w.heap.size w).alloc (Nat.le_refl _) (.cells #[.slice A n c, .bool false] 172)
  exact ⟨rfl, ⟨A, n, c, Blk.new _ _ _, h.below hB, hnc, h.low⟩, hB⟩
theorem numSt_one (xs : List Int) (hx : IsB xs) (h : 0 < xs.length) : numSt false xs 1 255 = (num (xs.take 1), false, xs.drop 1) := by
  have ht : takeSt false xs 1 = (xs.take 1, false, xs.drop 1) := if_neg (by rintro (h | h); cases h; omega)
  have hn : num (xs.take 1) < 256 := by
    have hn := num_lt (xs.take 1) (isB_take hx 1)
    rw [List.length_take, Nat.min_eq_left (show 1 ≤ xs.length by omega)] at hn
    exact hn
  unfold numSt
  rw [ht]
  exact if_neg (show ¬ 255 < num (xs.take 1) by omega)
theorem numSt_empty (k most : Nat) (hk : 0 < k) : numSt false [] k most = (0, true, []) := by
  have ht : takeSt false [] k = ([], true, []) := if_pos (.inr hk)
  unfold numSt
  rw [ht]
  exact if_neg (show ¬ most < 0 by omega)
theorem bytesSt_bad (xs : List Int) (most : Nat) : bytesSt true xs most = ([], true, xs) := by
  have ht : ∀ k, takeSt true xs k = ([], true, xs) := fun k => if_pos (.inl rfl)
  have hn : numSt true xs 2 most = (0, true, xs) := by
    unfold numSt
    rw [ht]
    exact if_neg (show ¬ most < 0 by omega)
  unfold bytesSt
  rw [hn]
  exact ht 0

theorem Rd.drewN {w : World} {b : Nat} {bad : Bool} {xs : List Int} (h : Rd w b bad xs) (n : Nat) : Rd (w.drewN n) b bad xs := by
  obtain ⟨A, m, c, hb, hz, r⟩ := h
  exact ⟨A, m, c, hb, hz.drewN n, r⟩
theorem Rd.drew {w : World} {b : Nat} {bad : Bool} {xs : List Int} (h : Rd w b bad xs) : Rd w.drew b bad xs := h.drewN 1
theorem num_one (xs : List Int) (hx : IsB xs) (k : Nat) (hk : k < xs.length) : ((num ((xs.drop k).take 1) : Nat) : Int) = xs.getD k 0 := by
  have h : (xs.drop k).take 1 = [xs.getD k 0] := by
    rw [List.drop_eq_getElem_cons hk, List.getD_eq_getElem?_getD, List.getElem?_eq_getElem hk]
    rfl
  rw [h]
  have := hx (xs.getD k 0) (by rw [List.getD_eq_getElem?_getD, List.getElem?_eq_getElem hk]; exact List.getElem_mem _)
  simp only [num]
  omega

end Go.Proofs.Ytcfildbgnjhjmaa.Oct
