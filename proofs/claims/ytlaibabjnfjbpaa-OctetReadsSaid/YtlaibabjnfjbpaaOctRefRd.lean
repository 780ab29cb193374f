import Derived.Test.YtlaibabjnfjbpaaOctRef
import Derived.Deep.Cut
set_option linter.unusedVariables false
set_option linter.unusedSimpArgs false
namespace Go.Proofs.Ytlaibabjnfjbpaa.Oct
open Go.RowKit Go.Proofs.Ytlaibabjnfjbpaa.Kit

/-- The reference's reader. -/
def Rr (w : World) (b : Nat) (at' : Int) (xs : List Int) : Prop := ∃ A n c, Blk w b #[.slice A n c, .int .i64 at'] 49 ∧ Nums w .u8 A n xs ∧ n ≤ c ∧ n ≤ 1000 ∧ (0 < n → ∀ a, A = some a → a.block < b)
def Sync (bad : Bool) (ys : List Int) (at' : Int) (xs : List Int) : Prop := (bad = true ∧ at' = -1) ∨ (bad = false ∧ ∃ a : Nat, at' = (a : Int) ∧ a ≤ xs.length ∧ ys = xs.drop a)

theorem takeSt_bad (ys : List Int) (k : Nat) : takeSt true ys k = ([], true, ys) := if_pos (.inl rfl)
theorem takeSt_few (ys : List Int) (k : Nat) (h : ys.length < k) : takeSt false ys k = ([], true, ys) := if_pos (.inr h)
theorem takeSt_ok (ys : List Int) (k : Nat) (h : ¬ ys.length < k) : takeSt false ys k = (ys.take k, false, ys.drop k) := if_neg (by rintro (h1 | h1); cases h1; exact h h1)

theorem Rr.put {w : World} {b : Nat} {at' : Int} {xs : List Int} (h : Rr w b at' xs) (v : Int) : Rr (w.setCell ⟨b, 1, none⟩ (.int .i64 v)) b v xs := by
  obtain ⟨A, n, c, hb, hz, hnc, hn, hab⟩ := h
  exact ⟨A, n, c, hb.set 1 _, nums_set hz 1 _ hb.lt hab, hnc, hn, hab⟩
theorem Rr.drewN {w : World} {b : Nat} {at' : Int} {xs : List Int} (h : Rr w b at' xs) (n : Nat) : Rr (w.drewN n) b at' xs := by
  obtain ⟨A, m, c, hb, hz, r⟩ := h
  exact ⟨A, m, c, hb, hz.drewN n, r⟩

theorem low_add {A : Option Addr} {b c a : Nat} (h : ∀ x, A = some x → x.block < b) : ∀ x, (if c = a then A else A.map (·.add a)) = some x → x.block < b := by
  intro x e
  split at e
  · exact h x e
  · rcases A with _ | a0
    · cases e
    · injection e with e
      subst e
      have := h a0 rfl
      by_cases h0 : a = 0
      · simpa [Addr.add, h0] using this
      · simpa [Addr.add, h0] using this

set_option maxHeartbeats 1000000 in
theorem rnum_bad (b : Nat) (at' : Int) (xs ys : List Int) (bad : Bool) (k most : Nat) (w : World) (h : Rr w b at' xs) (hk : k ≤ 8) (hs : Sync bad ys at' xs) (hbad : (numSt bad ys k most) = (0, true, ys)) (hf : bad = true ∨ ys.length < k) :
    Calls Try.prog 28 #[.pointer (some ⟨b, 0, none⟩), .int .i64 (k : Int), .int .u64 (most : Int)] w fun e w' => e = .returned (.int .u64 0) ∧ Rr w' b (-1) xs ∧ w.grownBy w' (some b) := by
  have Hr := hid h
  obtain ⟨A, n, c, hblk, hz, hnc, hn, hab⟩ := h
  have h0 := hblk.cell 0
  have h1 := hblk.cell 1
  have f1 := hblk.free 1
  have hlt := hblk.lt
  have hl := hz.len
  simp only [List.getElem?_toArray, List.getElem?_cons_zero, List.getElem?_cons_succ] at h0 h1
  clear hz hblk
  rcases hs with ⟨rfl, rfl⟩ | ⟨rfl, a, rfl, ha, rfl⟩
  · go_enter Try.func28, Try.ntmps28
    go_wp2
    go_quiet (fail)
    go_wp2
    go_ret
    exact ⟨rfl, (Hr.out.drewN _).put (-1), grown_from (grown_set 1 _ hlt)⟩
  · have hlen : n - a < k := by
      rcases hf with h | h
      · cases h
      · rw [List.length_drop, hl] at h; exact h
    have d1 : decide ((a : Int) < 0) = false := decide_eq_false (by omega)
    have d2 : (n : Int) - (a : Int) < (k : Int) := by omega
    have d3 : IntKind.i64.wrap ((n : Int) - (a : Int)) = (n : Int) - (a : Int) := IntWalk.i64_in _ (by omega)
    go_enter Try.func28, Try.ntmps28
    go_wp2
    go_quiet (fail)
    clear d3
    go_wp2
    go_ret
    exact ⟨rfl, (Hr.out.drewN _).put (-1), grown_from (grown_set 1 _ hlt)⟩

set_option maxRecDepth 100000 in
set_option maxHeartbeats 2000000 in
theorem rnum_ok (b a : Nat) (xs : List Int) (k most : Nat) (w : World) (h : Rr w b (a : Int) xs) (hk : k ≤ 8) (hmost : most ≤ 18446744073709551615) (ha : a + k ≤ xs.length) :
    Calls Try.prog 28 #[.pointer (some ⟨b, 0, none⟩), .int .i64 (k : Int), .int .u64 (most : Int)] w fun e w' => ∃ r at', e = .returned (.int .u64 ((r : Nat) : Int)) ∧ Rr w' b at' xs ∧ w.grownBy w' (some b) ∧ ((most < num ((xs.drop a).take k) ∧ r = 0 ∧ at' = -1) ∨ (¬ most < num ((xs.drop a).take k) ∧ r = num ((xs.drop a).take k) ∧ at' = ((a + k : Nat) : Int))) := by
  have Hr := hid h
  obtain ⟨A, n, c, hblk, hz, hnc, hn, hab⟩ := h
  have h0 := hblk.cell 0
  have h1 := hblk.cell 1
  have f1 := hblk.free 1
  have hlt := hblk.lt
  have hl := hz.len
  simp only [List.getElem?_toArray, List.getElem?_cons_zero, List.getElem?_cons_succ] at h0 h1
  have hd := (hz.drop hnc a (by omega)).take k (by omega)
  have hq := num_lt64 ((xs.drop a).take k) (isB_of hd) (by rw [List.length_take]; omega)
  have G1 : ∀ A2 c2 q, A2 = (if c = a then A else A.map (·.add a)) → Calls Try.prog 32 #[.slice A2 k c2] (w.drewN q) fun e w' => e = .returned (.int .u64 ((num ((xs.drop a).take k) : Nat) : Int)) ∧ w' = w.drewN q := fun A2 c2 q e => by
    subst e
    exact rget_any _ k c2 _ _ (hd.drewN q) hk
  have d1 : decide ((a : Int) < 0) = false := decide_eq_false (by omega)
  have d2 : (k : Int) ≤ (n : Int) - (a : Int) := by omega
  have d3 : IntKind.i64.wrap ((n : Int) - (a : Int)) = (n : Int) - (a : Int) := IntWalk.i64_in _ (by omega)
  have d4 : (0 : Int) ≤ (a : Int) := by omega
  have d5 : (a : Int) ≤ (a : Int) + (k : Int) := by omega
  have d6 : (a : Int) + (k : Int) ≤ (c : Int) := by omega
  have d7 : IntKind.i64.wrap ((a : Int) + (k : Int)) = (a : Int) + (k : Int) := IntWalk.i64_in _ (by omega)
  have d8 : ((a : Int) + (k : Int)).toNat = a + k := by omega
  have d9 : a + k - a = k := by omega
  generalize num ((xs.drop a).take k) = v at *
  clear hd hz hblk
  generalize hA2 : (if c = a then A else A.map (·.add a)) = A2 at *
  have G := fun c2 q => G1 A2 c2 q rfl
  clear G1
  go_enter Try.func28, Try.ntmps28
  go_wp2
  go_quiet (fail)
  clear d3
  go_wp2
  go_quiet ((go_at_call 32; with_reducible exact quiet_add (G _ _)))
  clear d7 G
  by_cases hmv : most < v
  · go_wp2
    go_ret
    exact ⟨0, -1, rfl, ((Hr.out.drewN _).put _).put (-1), grown_from (World.grownBy.trans (grown_set 1 _ hlt) (grown_set 1 _ (by simpa using hlt))), .inl ⟨hmv, rfl, rfl⟩⟩
  · go_wp2
    go_ret
    exact ⟨v, _, rfl, (Hr.out.drewN _).put _, grown_from (grown_set 1 _ hlt), .inr ⟨hmv, rfl, by push_cast; rfl⟩⟩

/-- What the reference's reader answers is what the program's answers. -/
theorem rnum_any (b : Nat) (at' : Int) (xs ys : List Int) (bad : Bool) (k most : Nat) (w : World) (h : Rr w b at' xs) (hk : k ≤ 8) (hmost : most ≤ 18446744073709551615) (hs : Sync bad ys at' xs) :
    Calls Try.prog 28 #[.pointer (some ⟨b, 0, none⟩), .int .i64 (k : Int), .int .u64 (most : Int)] w fun e w' => e = .returned (.int .u64 ((numSt bad ys k most).1 : Nat)) ∧ w.grownBy w' (some b) ∧ ∃ at2, Rr w' b at2 xs ∧ Sync (numSt bad ys k most).2.1 (numSt bad ys k most).2.2 at2 xs := by
  by_cases hf : bad = true ∨ ys.length < k
  · have ht : takeSt bad ys k = ([], true, ys) := if_pos hf
    have hn : numSt bad ys k most = (0, true, ys) := by
      unfold numSt
      rw [ht]
      exact if_neg (show ¬ most < 0 by omega)
    rw [hn]
    refine (rnum_bad b at' xs ys bad k most w h hk hs hn hf).mono ?_
    rintro e w' ⟨rfl, hr, hg⟩
    exact ⟨rfl, hg, _, hr, .inl ⟨rfl, rfl⟩⟩
  · rcases hs with ⟨rfl, _⟩ | ⟨rfl, a, rfl, ha, rfl⟩
    · exact absurd (Or.inl rfl) hf
    · have hlk : a + k ≤ xs.length := by
        have : ¬ (xs.drop a).length < k := fun h => hf (.inr h)
        rw [List.length_drop] at this
        omega
      have ht := takeSt_ok (xs.drop a) k (fun h => hf (.inr h))
      refine (rnum_ok b a xs k most w h hk hmost hlk).mono ?_
      rintro e w' ⟨r, at2, rfl, hr, hg, h2⟩
      unfold numSt
      rw [ht]
      rcases h2 with ⟨hv, rfl, rfl⟩ | ⟨hv, rfl, rfl⟩
      · rw [if_pos hv]
        exact ⟨rfl, hg, _, hr, .inl ⟨rfl, rfl⟩⟩
      · rw [if_neg hv]
        exact ⟨rfl, hg, _, hr, .inr ⟨rfl, _, rfl, hlk, by rw [List.drop_drop]⟩⟩

set_option maxRecDepth 100000 in
set_option maxHeartbeats 2000000 in
theorem rrbytes_any (b : Nat) (at' : Int) (xs ys : List Int) (bad : Bool) (most : Nat) (w : World) (h : Rr w b at' xs) (hmost : most ≤ 1000000) (hs : Sync bad ys at' xs) (hB : IsB ys) :
    Calls Try.prog 27 #[.pointer (some ⟨b, 0, none⟩), .int .i64 (most : Int)] w fun e w' => ∃ A n c, e = .returned (.slice A n c) ∧ Nums w' .u8 A n (bytesSt bad ys most).1 ∧ w.grownBy w' (some b) ∧ ∃ at2, Rr w' b at2 xs ∧ Sync (bytesSt bad ys most).2.1 (bytesSt bad ys most).2.2 at2 xs := by
  have hm2 : (most : Int) ≤ 1000000 := by omega
  have hnl := numSt_lt (bad := bad) hB most
  have Hn := rnum_any b at' xs ys bad 2 most w h (by omega) (by omega) hs
  clear h hs
  unfold bytesSt
  generalize numSt bad ys 2 most = t at *
  obtain ⟨q, bad', ys'⟩ := t
  simp only at hnl Hn ⊢
  generalize hT : takeSt bad' ys' q = T
  have HT := hid hT
  clear hT
  have hq2 : (q : Int) < 65536 := by omega
  go_enter Try.func27, Try.ntmps27
  go_wp2_with fail
  refine Hn.mono ?_
  rintro e w1 ⟨rfl, hg1, at1, hr1, hs1⟩
  clear Hn
  have Hr := hid hr1
  obtain ⟨A, n, c, hblk, hz, hnc, hn, hab⟩ := hr1
  have h0 := hblk.cell 0
  have h1 := hblk.cell 1
  have f1 := hblk.free 1
  have hlt := hblk.lt
  have hl := hz.len
  simp only [List.getElem?_toArray, List.getElem?_cons_zero, List.getElem?_cons_succ] at h0 h1
  have Hz := hid hz
  clear hz hblk
  rcases hs1 with ⟨rfl, rfl⟩ | ⟨rfl, a, rfl, ha, rfl⟩
  · go_wp2
    go_quiet (fail)
    go_wp2
    go_ret
    have hT := HT.out
    rw [takeSt_bad] at hT
    subst hT
    exact ⟨none, 0, 0, rfl, Nums.none _ _ _, World.grownBy.trans hg1 (grown_from (grown_set 1 _ hlt)), -1, (Hr.out.drewN _).put _, .inl ⟨rfl, rfl⟩⟩
  · have d1 : decide ((a : Int) < 0) = false := decide_eq_false (by omega)
    by_cases hf : n - a < q
    · have d2 : (n : Int) - (a : Int) < (q : Int) := by omega
      go_wp2
      have d3 : IntKind.i64.wrap ((n : Int) - (a : Int)) = (n : Int) - (a : Int) := IntWalk.i64_in _ (by omega)
      go_quiet (fail)
      clear d3
      go_wp2
      go_ret
      have hT := HT.out
      rw [takeSt_few _ _ (by rw [List.length_drop, hl]; exact hf)] at hT
      subst hT
      exact ⟨none, 0, 0, rfl, Nums.none _ _ _, World.grownBy.trans hg1 (grown_from (grown_set 1 _ hlt)), -1, (Hr.out.drewN _).put _, .inl ⟨rfl, rfl⟩⟩
    · have Hd := hid ((Hz.out.drop hnc a (by omega)).take q (by omega))
      have Hlow := hid (fun hn => low_add (c := c) (a := a) (hab hn))
      have d2 : (q : Int) ≤ (n : Int) - (a : Int) := by omega
      have d4 : (0 : Int) ≤ (a : Int) := by omega
      have d5 : (a : Int) ≤ (a : Int) + (q : Int) := by omega
      have d6 : (a : Int) + (q : Int) ≤ (c : Int) := by omega
      have d8 : ((a : Int) + (q : Int)).toNat = a + q := by omega
      have d9 : a + q - a = q := by omega
      generalize hA2 : (if c = a then A else A.map (·.add a)) = A2 at *
      go_wp2
      have d3 : IntKind.i64.wrap ((n : Int) - (a : Int)) = (n : Int) - (a : Int) := IntWalk.i64_in _ (by omega)
      go_quiet (fail)
      have d2b : decide ((n : Int) - (a : Int) < (q : Int)) = false := decide_eq_false (by omega)
      simp only [d2b]
      clear d3 d2b
      repeat (first | go_values | go_skip | go_guarded | go_step | go_upon)
      have d7 : IntKind.i64.wrap ((a : Int) + (q : Int)) = (a : Int) + (q : Int) := IntWalk.i64_in _ (by omega)
      go_quiet (fail)
      clear d7
      go_wp2
      go_ret
      have hT := HT.out
      rw [takeSt_ok _ _ (by rw [List.length_drop, hl]; exact hf)] at hT
      subst hT
      refine ⟨A2, q, c - a, rfl, ?_, World.grownBy.trans hg1 (grown_from (grown_set 1 _ hlt)), _, (Hr.out.drewN _).put _, .inr ⟨rfl, a + q, by push_cast; rfl, by omega, by rw [List.drop_drop]⟩⟩
      exact Nums.grown (Nums.drewN Hd.out _) (grown_set 1 _ hlt) (by intro h0 x e; have := Hlow.out (by omega) x e; intro e2; injection e2 with e2; omega)
end Go.Proofs.Ytlaibabjnfjbpaa.Oct
