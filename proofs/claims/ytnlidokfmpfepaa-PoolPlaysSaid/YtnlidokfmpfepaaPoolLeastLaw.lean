import Derived.Test.YtnlidokfmpfepaaPoolLeast
import Derived.BigRegion
import Derived.StillTailTactics
import Derived.Deep.DeepCutAuto
import Derived.Deep.RegionHeld3
set_option linter.unusedVariables false
set_option linter.unusedSimpArgs false
namespace Go.Proofs.Ytnlidokfmpfepaa.Pool
open Go.RowKit Go.Proofs.Ytnlidokfmpfepaa.Kit Go.Maps

def iota (n : Nat) : List Int := (List.range n).map (fun k : Nat => (k : Int))
theorem iota_len (n : Nat) : (iota n).length = n := by simp [iota]
theorem iota_get (n k : Nat) (h : k < n) : (iota n).getD k 0 = (k : Int) := by
  unfold iota
  rw [List.getD_eq_getElem?_getD, List.getElem?_map, List.getElem?_range h]
  rfl
theorem iota_succ (n : Nat) : iota (n + 1) = iota n ++ [(n : Int)] := by
  unfold iota
  rw [List.range_succ, List.map_append]
  rfl
theorem iota_take (n k : Nat) (h : k ≤ n) : (iota n).take k = iota k := by
  unfold iota
  rw [← List.map_take, List.take_range, Nat.min_eq_left h]
theorem iota_mem (n : Nat) (x : Int) : x ∈ iota n ↔ 0 ≤ x ∧ x < (n : Int) := by
  unfold iota
  rw [List.mem_map]
  constructor
  · rintro ⟨k, hk, rfl⟩
    have : k < n := by simpa using hk
    omega
  · rintro ⟨h0, h1⟩
    obtain ⟨k, rfl⟩ := Int.eq_ofNat_of_zero_le h0
    exact ⟨k, by simp; omega, rfl⟩
theorem iota_rise (n : Nat) (h : n ≤ 64) : Rise (iota n) := by
  intro i hi
  rw [iota_len] at hi
  unfold goodAt
  rw [iota_get n i hi]
  refine ⟨by omega, by omega, fun h0 => ?_⟩
  rw [iota_get n (i - 1) (by omega)]
  omega
theorem newH_at (xs : List Int) (h : ∀ x ∈ xs, 0 ≤ x ∧ x < 64) (j : Int) : hAt (newH xs) j = if j ∈ xs then some 0 else none := by
  have aux : ∀ (l : List Int) (hs : List (Option Nat)), hs.length = 64 → (∀ x ∈ l, 0 ≤ x ∧ x < 64) → hAt (l.foldl (fun hs x => hs.set x.toNat (some 0)) hs) j = if j ∈ l then some 0 else hAt hs j := by
    intro l
    induction l with
    | nil => intro hs _ _; simp
    | cons x l ih =>
      intro hs hl hx
      have hx0 := hx x List.mem_cons_self
      rw [List.foldl_cons, ih _ (by rw [List.length_set]; exact hl) (fun y hy => hx y (List.mem_cons_of_mem _ hy)), hAt_set hs x.toNat (by omega) hl]
      have ex : ((x.toNat : Nat) : Int) = x := by omega
      rw [ex]
      by_cases e1 : j ∈ l
      · rw [if_pos e1, if_pos (List.mem_cons_of_mem _ e1)]
      · rw [if_neg e1]
        by_cases e2 : j = x
        · subst e2
          rw [if_pos rfl, if_pos List.mem_cons_self]
        · rw [if_neg e2, if_neg (by rw [List.mem_cons]; rintro (h | h); exact e2 h; exact e1 h)]
  unfold newH
  rw [aux xs _ (by simp) h]
  by_cases e : j ∈ xs
  · rw [if_pos e, if_pos e]
  · rw [if_neg e, if_neg e]
    unfold hAt
    split
    · rw [List.getD_eq_getElem?_getD, List.getElem?_replicate]
      split <;> rfl
    · rfl
theorem hAt_setH (xs : List Int) (hs : List (Option Nat)) (k v : Nat) (hk : k < 64) (hl : hs.length = 64) (j : Int) : hAt (setH xs hs k v) j = if j = (k : Int) then some v else if v = 2 ∧ fOpen xs hs = some j then some 1 else hAt hs j := by
  unfold setH
  by_cases h2 : v = 2
  · rw [if_pos h2]
    cases ho : fOpen xs hs with
    | none =>
      simp only
      rw [hAt_set hs k hk hl]
      simp
    | some o =>
      have hoh := (fOpen_mem xs hs o ho).2
      have ho64 : 0 ≤ o ∧ o < 64 := by
        unfold hAt at hoh
        split at hoh
        · assumption
        · cases hoh
      simp only
      rw [hAt_set _ k hk (by rw [List.length_set]; exact hl), hAt_set hs o.toNat (by omega) hl]
      have eo : ((o.toNat : Nat) : Int) = o := by omega
      rw [eo]
      by_cases e : j = (k : Int)
      · rw [if_pos e, if_pos e]
      · rw [if_neg e, if_neg e]
        by_cases e2 : j = o
        · rw [if_pos e2, if_pos ⟨h2, by rw [e2]⟩]
        · rw [if_neg e2, if_neg (fun h => e2 (by injection h.2 with h; exact h.symm))]
  · rw [if_neg h2, hAt_set hs k hk hl]
    by_cases e : j = (k : Int)
    · rw [if_pos e, if_pos e]
    · rw [if_neg e, if_neg e, if_neg (fun h => h2 h.1)]

def okH (hs : List (Option Nat)) (n : Nat) : Prop := ∀ i : Nat, i < n → ∃ u, hAt hs (i : Int) = some u ∧ u ≤ 3
theorem okH_set (xs : List Int) (hs : List (Option Nat)) (n k v : Nat) (hk : k < 64) (hl : hs.length = 64) (hv : v ≤ 3) (h : okH hs n) : okH (setH xs hs k v) n := by
  intro i hi
  rw [hAt_setH xs hs k v hk hl]
  split
  · exact ⟨v, rfl, hv⟩
  · split
    · exact ⟨1, rfl, by omega⟩
    · exact h i hi

/-- What the law's own loop has found: -1 or a place. -/
def mOne (o : Option Int) : Int := o.getD (-1)
theorem best_stop (hs : List (Option Nat)) (ws : List Int) (v i : Nat) (hi : ws.length ≤ i) : ∀ n, i ≤ n → bestF hs ws v (iota n) = bestF hs ws v (iota i) := by
  intro n hn
  induction n with
  | zero =>
    obtain rfl : i = 0 := by omega
    rfl
  | succ n ih =>
    by_cases e : i = n + 1
    · rw [e]
    · rw [iota_succ, bestF_snoc, ih (by omega)]
      unfold bstep
      rw [if_neg (by omega)]

set_option maxRecDepth 100000 in
set_option maxHeartbeats 16000000 in
theorem law_least (A : Option Addr) (n c : Nat) (xs : List Int) (B : Option Addr) (nw cw : Nat) (ws : List Int) (v : Int) (hv : 0 ≤ v ∧ v ≤ 255) (w : World) (hz : Nums w .u8 A n xs) (hy : Nums w .i64 B nw ws) :
    Calls Try.prog 9 #[.slice A n c, .slice B nw cw, .int .u8 v] w fun e w' => e = .returned (.bool true) ∧ Below w.heap.size w w' := by
  obtain ⟨y, rfl⟩ := Int.eq_ofNat_of_zero_le hv.1
  obtain ⟨v, hvm⟩ : ∃ v, v = y % 4 := ⟨_, rfl⟩
  have hv4 : v < 4 := by omega
  have hy255 : y ≤ 255 := by have := hv.2; omega
  have p1 : (y : Int).tmod 4 = (v : Int) := by rw [Int.tmod_eq_emod_of_nonneg (by omega)]; omega
  have p2 : (y : Int) % 4 = (v : Int) := by omega
  have hn := hz.most
  have hnw := hy.most
  have Hz := hid hz
  have Hy := hid hy
  have Hyl := hid hy.len
  clear hz hy hvm hv
  go_enter Try.func9, Try.ntmps9
  go_wp2_with fail
  refine (awake_any w).mono ?_
  rintro e w1 ⟨rfl, hB1⟩
  by_cases h60 : 60 < n
  · go_wp2_with fail
    refine (awake_any w1).mono ?_
    rintro e w2 ⟨rfl, hB2⟩
    go_wp2
    go_ret
    exact ⟨rfl, hB1.trans (hB2.mono hB1.size)⟩
  · go_wp2
    go_loopw [7, 8] (fun s i w' => ∃ k : Nat, k ≤ n ∧ i = .int .i64 (k : Int) ∧ w'.ownsRow w.heap.size 3 1 s (iota k).length ((iota k).map (Value.int .i64)) ∧ Below w.heap.size w w' ∧ w.heap.size ≤ w'.heap.size) (fun _ i _ => n - (intOf i).toNat)
    case atStart => exact ⟨0, by omega, rfl, World.ownsRow_nil _ _ _ _, hB1, hB1.size⟩
    case round =>
      clear hB1
      obtain ⟨k, hk, rfl, hw, hB, hs⟩ := hrel
      by_cases hlt : k < n
      · have hil : (iota k).length ≤ 60 := by rw [iota_len]; omega
        go_wp2_with (at_builtin; refine append_one w.heap.size rfl _ _ 32 3 (.int .i64 0) 8 rfl Try.underlying32 info3 rfl _ _ _ (.int .i64 (k : Int)) (by rfl) (by rfl) rfl hw hs (by omega) (by omega) ?_; intro v1 w2 hown2 hgr hat)
        have hw2 : w2.ownsRow w.heap.size 3 1 v1 (iota (k + 1)).length ((iota (k + 1)).map (Value.int .i64)) := by
          rw [iota_succ, List.length_append, List.map_append]
          exact hown2
        have hB2 := hB.grown hgr hs (fun k hk => (World.ownsRow.lt hw k hk).1)
        have hs2 := Nat.le_trans hs hgr.size
        clear hown2 hgr hat hw hB hs
        go_wp2
        go_roundw
        case rel => exact ⟨k + 1, by omega, by go_num, hw2, hB2, hs2⟩
        case measure => simp [intOf]; omega
      · obtain rfl : k = n := by omega
        rw [iota_len] at hw
        have hwf : ∀ x ∈ iota k, (Lit.int .i64 x).wf = true := fun x hx => by
          have := (iota_mem k x).1 hx
          exact i64wf_of (by omega)
        obtain ⟨A', c', rfl, hc', hz'⟩ := own_nums hw hwf
        have hnew := new_any A' k c' (iota k) wr hz' hc' (by omega)
        clear hw hwf
        go_wp2_with fail
        refine hnew.mono ?_
        rintro e w3 ⟨hB3, ⟨-, b, g, A2, c2, rfl, hp3, hg3⟩ | ⟨hx, -⟩⟩
        rotate_left
        · exact absurd (iota_rise k (by omega)) hx
        have hg : w.heap.size ≤ g := Nat.le_trans hs hg3
        have hB4 := hB.trans (hB3.mono hs)
        have hok : okH (newH (iota k)) k := fun i hi => ⟨0, by rw [newH_at _ (fun x hx => by have := (iota_mem k x).1 hx; omega), if_pos ((iota_mem k _).2 (by omega))], by omega⟩
        clear hnew hB3 hg3 hz' hB hs hlt hk
        go_wp2
        go_loopw [11] (fun i w' => ∃ (q nn : Nat) (hs : List (Option Nat)), q ≤ k ∧ i = .int .i64 (q : Int) ∧ nn ≤ 100 + 2 * q ∧ okH hs k ∧ PS w' b g nn A2 k c2 (iota k) hs ∧ Below w.heap.size w w') (fun i _ => k - (intOf i).toNat)
        case atStart => exact ⟨0, k, _, by omega, rfl, by omega, hok, hp3, hB4⟩
        case round =>
          clear hok hp3 hB4
          obtain ⟨q, nn, hs, hq, rfl, hnn, hok, hp, hB⟩ := hrel
          by_cases hlt : q < k
          · obtain ⟨bz, oz, rfl, hcz⟩ := (Hz.out.below hB).at_ q hlt
            obtain ⟨hx0, hx1⟩ := wf_u8 ((Hz.out.below hB).wf_at q hlt)
            generalize xs.getD q 0 = x at *
            obtain ⟨x, rfl⟩ := Int.eq_ofNat_of_zero_le hx0
            obtain ⟨h, hh⟩ : ∃ h, h = x % 4 := ⟨_, rfl⟩
            have q1 : (x : Int).tmod 4 = (h : Int) := by rw [Int.tmod_eq_emod_of_nonneg (by omega)]; omega
            have hh4 : h < 4 := by omega
            obtain ⟨u, hu, hu3⟩ := hok q hlt
            clear hx0 hx1 hh
            have hset : Calls Try.prog 19 #[.pointer (some ⟨b, 0, none⟩), .int .i64 (q : Int), .int .u8 (h : Int)] wr fun e w' => ∃ r hs' n', e = .returned (.int .i64 r) ∧ n' ≤ nn + 2 ∧ okH hs' k ∧ PS w' b g n' A2 k c2 (iota k) hs' ∧ wr.grownBy w' (some g) := by
              by_cases hdd : u = 3 ∧ h ≠ 3
              · refine (set_dead b g nn A2 k c2 _ hs _ h wr hp (i64wf_of (by omega)) (by rw [hu, hdd.1]) (by omega)).mono ?_
                rintro e w' ⟨rfl, rfl⟩
                exact ⟨_, hs, nn, rfl, by omega, hok, hp, World.grownBy.but (grown_of_below (Below.refl _ _) none) _⟩
              · refine (set_ok b g nn A2 k c2 _ hs q u h wr hp (by omega) hu (by omega) (by omega) (by omega)).mono ?_
                rintro e w' ⟨rfl, ⟨n', hn', hp'⟩, hG⟩
                exact ⟨_, _, n', rfl, hn', okH_set _ hs k q h (by omega) hp.len (by omega) hok, hp', hG⟩
            clear hu hok hp
            go_wp2_with fail
            refine hset.mono ?_
            rintro e w5 ⟨r, hs', n', rfl, hn', hok', hp', hG⟩
            have hB5 := hB.grown hG hB.size (by intro k hk; cases hk; exact hg)
            have Hok := hid hok'
            clear hset hG hB hcz hok'
            go_wp2
            go_roundw
            case rel => exact ⟨q + 1, n', hs', by omega, by go_num, by omega, Hok.out, hp', hB5⟩
            case measure => simp [intOf]; omega
          · obtain rfl : q = k := by omega
            have Hok := hid hok
            have Hp := hid hp
            clear hlt hq hnn hok hp
            obtain ⟨w6, hw6⟩ : ∃ W, wr = W := ⟨_, rfl⟩
            rw [hw6] at hB Hp ⊢
            clear hw6
            have hB06 := hid hB
            have Hy6 := hid (Hy.out.below hB)
            clear hB
            go_wp2
            go_loopw [12, 13] (fun bs iv w' => ∃ (i : Nat) (acc : Option Int), i ≤ q ∧ i ≤ nw ∧ iv = .int .i64 (i : Int) ∧ bestF hs ws v (iota i) = acc ∧ bs = .int .i64 (mOne acc) ∧ Below w6.heap.size w6 w') (fun _ iv _ => q - (intOf iv).toNat)
            case atStart => exact ⟨0, none, by omega, by omega, rfl, rfl, rfl, Below.refl _ _⟩
            case round =>
              obtain ⟨i, acc, hi, hiw, rfl, hacc, rfl, hBi⟩ := hrel
              by_cases hlt : i < q ∧ i < nw
              · obtain ⟨h1, h2⟩ := hlt
                obtain ⟨u, hu, hu3⟩ := Hok.out i h1
                have hhow := how_any b g nn A2 q c2 (iota q) hs (i : Int) (wr.drewN 1) ((Hp.out.later hBi).later (below_drewN (Below.refl _ _) 1)) (i64wf_of (by omega))
                rw [hu] at hhow
                have hhow : Calls Try.prog 21 #[.pointer (some ⟨b, 0, none⟩), .int .i64 (i : Int)] (wr.drewN 1) fun e w' => e = .returned (.int .u8 (u : Int)) ∧ w' = wr.drewN 1 := hhow
                have hst : bestF hs ws v (iota (i + 1)) = if u = v ∧ bOk ws acc (i : Int) = true then some (i : Int) else acc := by
                  rw [iota_succ, bestF_snoc, hacc]
                  unfold bstep
                  rw [hu, Hyl.out]
                  by_cases hc : u = v ∧ bOk ws acc (i : Int) = true
                  · rw [if_pos hc, if_pos ⟨hc.1, by omega, hc.2⟩]
                  · rw [if_neg hc, if_neg (fun h => hc ⟨h.1, h.2.2⟩)]
                have hin := bestF_in hs ws v (iota i) none (fun j hj => by cases hj) (fun x hx => ((iota_mem i x).1 hx).1)
                change ∀ j, bestF hs ws v (iota i) = some j → _ at hin
                rw [hacc, Hyl.out] at hin
                clear hacc hu
                have hiI : (i : Int) < (q : Int) := by omega
                have hiW : (i : Int) < (nw : Int) := by omega
                have hi0 : (0 : Int) ≤ (i : Int) := by omega
                by_cases huv : u = v
                · subst huv
                  have hue : ((u : Int) == (u : Int)) = true := by simp
                  obtain ⟨bw, ow, hA, hcw⟩ := (Hy6.out.below hBi).at_ i h2
                  rcases acc with _ | j
                  · rw [if_pos ⟨rfl, rfl⟩] at hst
                    have Hst := hid hst
                    have hm1 : mOne none = -1 := rfl
                    rw [hm1]
                    clear hst hin hcw hm1
                    subst hA
                    go_upto_region 17 with (fail)
                    refine wp_region_held_drew (S := (fun w' => w'.heap.size = wr.heap.size)) (by kernel_rfl) ?hSnewBz (fun hHeld => ?restBz)
                    case hSnewBz => ((try dsimp only); rfl)
                    refine wpAnyH_take (i := 0) (oi := ?oiBx0) (v := ?vBx0) ?hoBx0 ?h1Bx0 ?h2Bx0 ?h3Bx0 ?hqBx0 (Or.inl ⟨?h4Bx0, ?hyBx0⟩) (by assumption) ?restBx0
                    case hoBx0 => (simp only [List.getElem?_toArray, List.getElem?_cons_zero, List.getElem?_cons_succ]; rfl)
                    case h1Bx0 => kernel_rfl
                    case h2Bx0 => kernel_rfl
                    case h3Bx0 => kernel_rfl
                    case h4Bx0 => rfl
                    case hqBx0 => exact fun _ _ _ h => h
                    case hyBx0 => (intro w hSw; (try dsimp only at hSw); go_simp <;> with_reducible rfl)
                    (try simp only [Act.put, List.setIfInBounds_toArray, List.set_cons_zero, List.set_cons_succ])
                    refine wpAnyH_take (i := 1) (oi := ?oiBx1) (v := ?vBx1) ?hoBx1 ?h1Bx1 ?h2Bx1 ?h3Bx1 ?hqBx1 (Or.inl ⟨?h4Bx1, ?hyBx1⟩) (by assumption) ?restBx1
                    case hoBx1 => (simp only [List.getElem?_toArray, List.getElem?_cons_zero, List.getElem?_cons_succ]; rfl)
                    case h1Bx1 => kernel_rfl
                    case h2Bx1 => kernel_rfl
                    case h3Bx1 => kernel_rfl
                    case h4Bx1 => rfl
                    case hqBx1 => exact fun _ _ _ h => h
                    case hyBx1 => (intro w hSw; (try dsimp only at hSw); go_simp <;> with_reducible rfl)
                    (try simp only [Act.put, List.setIfInBounds_toArray, List.set_cons_zero, List.set_cons_succ])
                    refine wpAnyH_take (i := 3) (oi := ?oiBx3) (v := ?vBx3) ?hoBx3 ?h1Bx3 ?h2Bx3 ?h3Bx3 ?hqBx3 (Or.inl ⟨?h4Bx3, ?hyBx3⟩) (by assumption) ?restBx3
                    case hoBx3 => (simp only [List.getElem?_toArray, List.getElem?_cons_zero, List.getElem?_cons_succ]; rfl)
                    case h1Bx3 => kernel_rfl
                    case h2Bx3 => kernel_rfl
                    case h3Bx3 => kernel_rfl
                    case h4Bx3 => rfl
                    case hqBx3 => exact fun _ _ _ h => h
                    case hyBx3 => (intro w hSw; (try dsimp only at hSw); go_simp <;> with_reducible rfl)
                    (try simp only [Act.put, List.setIfInBounds_toArray, List.set_cons_zero, List.set_cons_succ])
                    refine wpAnyH_take (i := 4) (oi := ?oiBx4) (v := ?vBx4) ?hoBx4 ?h1Bx4 ?h2Bx4 ?h3Bx4 ?hqBx4 (Or.inl ⟨?h4Bx4, ?hyBx4⟩) (by assumption) ?restBx4
                    case hoBx4 => (simp only [List.getElem?_toArray, List.getElem?_cons_zero, List.getElem?_cons_succ]; rfl)
                    case h1Bx4 => kernel_rfl
                    case h2Bx4 => kernel_rfl
                    case h3Bx4 => kernel_rfl
                    case h4Bx4 => rfl
                    case hqBx4 => exact fun _ _ _ h => h
                    case hyBx4 => (intro w hSw; (try dsimp only at hSw); go_simp <;> with_reducible rfl)
                    (try simp only [Act.put, List.setIfInBounds_toArray, List.set_cons_zero, List.set_cons_succ])
                    refine wpAnyH_ready (rs := [2]) (by kernel_rfl) (by simp) ?_
                    refine AllReadyH.cons (o := ?oiBx2) ?hoBx2 (fun K hK => ?restBx2) ?moreBx2
                    case moreBx2 => exact AllReadyH.nil
                    case hoBx2 => (simp only [List.getElem?_toArray, List.getElem?_cons_zero, List.getElem?_cons_succ]; rfl)
                    go_simp
                    refine (hhow).mono ?_
                    rintro e w' ⟨rfl, rfl⟩
                    try go_wp2_with fail
                    refine hK.out _ _ ?hSnewBy2 (fun hHeld => ?restBy2)
                    case hSnewBy2 => ((try dsimp only); rfl)
                    clear hK K
                    (try simp only [Act.put, List.setIfInBounds_toArray, List.set_cons_zero, List.set_cons_succ])
                    refine wpAnyH_take (i := 5) (oi := ?oiBx5) (v := ?vBx5) ?hoBx5 ?h1Bx5 ?h2Bx5 ?h3Bx5 ?hqBx5 (Or.inl ⟨?h4Bx5, ?hyBx5⟩) (by assumption) ?restBx5
                    case hoBx5 => (simp only [List.getElem?_toArray, List.getElem?_cons_zero, List.getElem?_cons_succ]; rfl)
                    case h1Bx5 => kernel_rfl
                    case h2Bx5 => kernel_rfl
                    case h3Bx5 => kernel_rfl
                    case h4Bx5 => rfl
                    case hqBx5 => exact fun _ _ _ h => h
                    case hyBx5 => (intro w hSw; (try dsimp only at hSw); go_simp <;> with_reducible rfl)
                    (try simp only [Act.put, List.setIfInBounds_toArray, List.set_cons_zero, List.set_cons_succ])
                    refine wpAnyH_take (i := 6) (oi := ?oiBx6) (v := ?vBx6) ?hoBx6 ?h1Bx6 ?h2Bx6 ?h3Bx6 ?hqBx6 (Or.inl ⟨?h4Bx6, ?hyBx6⟩) (by assumption) ?restBx6
                    case hoBx6 => (simp only [List.getElem?_toArray, List.getElem?_cons_zero, List.getElem?_cons_succ]; rfl)
                    case h1Bx6 => kernel_rfl
                    case h2Bx6 => kernel_rfl
                    case h3Bx6 => kernel_rfl
                    case h4Bx6 => rfl
                    case hqBx6 => exact fun _ _ _ h => h
                    case hyBx6 => (intro w hSw; (try dsimp only at hSw); go_simp <;> with_reducible rfl)
                    (try simp only [Act.put, List.setIfInBounds_toArray, List.set_cons_zero, List.set_cons_succ])
                    refine wpAnyH_take (i := 7) (oi := ?oiBx7) (v := ?vBx7) ?hoBx7 ?h1Bx7 ?h2Bx7 ?h3Bx7 ?hqBx7 (Or.inl ⟨?h4Bx7, ?hyBx7⟩) (by assumption) ?restBx7
                    case hoBx7 => (simp only [List.getElem?_toArray, List.getElem?_cons_zero, List.getElem?_cons_succ]; rfl)
                    case h1Bx7 => kernel_rfl
                    case h2Bx7 => kernel_rfl
                    case h3Bx7 => kernel_rfl
                    case h4Bx7 => rfl
                    case hqBx7 => exact fun _ _ _ h => h
                    case hyBx7 => (intro w hSw; (try dsimp only at hSw); go_simp <;> with_reducible rfl)
                    (try simp only [Act.put, List.setIfInBounds_toArray, List.set_cons_zero, List.set_cons_succ])
                    refine wpAnyH_take (i := 8) (oi := ?oiBx8) (v := ?vBx8) ?hoBx8 ?h1Bx8 ?h2Bx8 ?h3Bx8 ?hqBx8 (Or.inl ⟨?h4Bx8, ?hyBx8⟩) (by assumption) ?restBx8
                    case hoBx8 => (simp only [List.getElem?_toArray, List.getElem?_cons_zero, List.getElem?_cons_succ]; rfl)
                    case h1Bx8 => kernel_rfl
                    case h2Bx8 => kernel_rfl
                    case h3Bx8 => kernel_rfl
                    case h4Bx8 => rfl
                    case hqBx8 => exact fun _ _ _ h => h
                    case hyBx8 => (intro w hSw; (try dsimp only at hSw); go_simp <;> with_reducible rfl)
                    (try simp only [Act.put, List.setIfInBounds_toArray, List.set_cons_zero, List.set_cons_succ])
                    refine wpAnyH_take (i := 9) (oi := ?oiBx9) (v := ?vBx9) ?hoBx9 ?h1Bx9 ?h2Bx9 ?h3Bx9 ?hqBx9 (Or.inl ⟨?h4Bx9, ?hyBx9⟩) (by assumption) ?restBx9
                    case hoBx9 => (simp only [List.getElem?_toArray, List.getElem?_cons_zero, List.getElem?_cons_succ]; rfl)
                    case h1Bx9 => kernel_rfl
                    case h2Bx9 => kernel_rfl
                    case h3Bx9 => kernel_rfl
                    case h4Bx9 => rfl
                    case hqBx9 => exact fun _ _ _ h => h
                    case hyBx9 => (intro w hSw; (try dsimp only at hSw); go_simp <;> with_reducible rfl)
                    (try simp only [Act.put, List.setIfInBounds_toArray, List.set_cons_zero, List.set_cons_succ])
                    refine wpAnyH_take (i := 10) (oi := ?oiBk10) (v := undef) ?hoBk10 ?h1Bk10 ?h2Bk10 ?h3Bk10 ?hqBk10 (Or.inr ⟨?h4Bk10, rfl⟩) (by assumption) ?restBk10
                    case hoBk10 => (simp only [List.getElem?_toArray, List.getElem?_cons_zero, List.getElem?_cons_succ]; rfl)
                    case h1Bk10 => kernel_rfl
                    case h2Bk10 => kernel_rfl
                    case h3Bk10 => kernel_rfl
                    case h4Bk10 => rfl
                    case hqBk10 => exact fun _ _ _ h => h
                    (try simp only [Act.put, List.setIfInBounds_toArray, List.set_cons_zero, List.set_cons_succ])
                    refine wpAnyH_take (i := 11) (oi := ?oiBk11) (v := undef) ?hoBk11 ?h1Bk11 ?h2Bk11 ?h3Bk11 ?hqBk11 (Or.inr ⟨?h4Bk11, rfl⟩) (by assumption) ?restBk11
                    case hoBk11 => (simp only [List.getElem?_toArray, List.getElem?_cons_zero, List.getElem?_cons_succ]; rfl)
                    case h1Bk11 => kernel_rfl
                    case h2Bk11 => kernel_rfl
                    case h3Bk11 => kernel_rfl
                    case h4Bk11 => rfl
                    case hqBk11 => exact fun _ _ _ h => h
                    (try simp only [Act.put, List.setIfInBounds_toArray, List.set_cons_zero, List.set_cons_succ])
                    refine wpAnyH_take (i := 12) (oi := ?oiBk12) (v := undef) ?hoBk12 ?h1Bk12 ?h2Bk12 ?h3Bk12 ?hqBk12 (Or.inr ⟨?h4Bk12, rfl⟩) (by assumption) ?restBk12
                    case hoBk12 => (simp only [List.getElem?_toArray, List.getElem?_cons_zero, List.getElem?_cons_succ]; rfl)
                    case h1Bk12 => kernel_rfl
                    case h2Bk12 => kernel_rfl
                    case h3Bk12 => kernel_rfl
                    case h4Bk12 => rfl
                    case hqBk12 => exact fun _ _ _ h => h
                    (try simp only [Act.put, List.setIfInBounds_toArray, List.set_cons_zero, List.set_cons_succ])
                    refine wpAnyH_take (i := 13) (oi := ?oiBk13) (v := undef) ?hoBk13 ?h1Bk13 ?h2Bk13 ?h3Bk13 ?hqBk13 (Or.inr ⟨?h4Bk13, rfl⟩) (by assumption) ?restBk13
                    case hoBk13 => (simp only [List.getElem?_toArray, List.getElem?_cons_zero, List.getElem?_cons_succ]; rfl)
                    case h1Bk13 => kernel_rfl
                    case h2Bk13 => kernel_rfl
                    case h3Bk13 => kernel_rfl
                    case h4Bk13 => rfl
                    case hqBk13 => exact fun _ _ _ h => h
                    (try simp only [Act.put, List.setIfInBounds_toArray, List.set_cons_zero, List.set_cons_succ])
                    refine wpAnyH_take (i := 14) (oi := ?oiBk14) (v := undef) ?hoBk14 ?h1Bk14 ?h2Bk14 ?h3Bk14 ?hqBk14 (Or.inr ⟨?h4Bk14, rfl⟩) (by assumption) ?restBk14
                    case hoBk14 => (simp only [List.getElem?_toArray, List.getElem?_cons_zero, List.getElem?_cons_succ]; rfl)
                    case h1Bk14 => kernel_rfl
                    case h2Bk14 => kernel_rfl
                    case h3Bk14 => kernel_rfl
                    case h4Bk14 => rfl
                    case hqBk14 => exact fun _ _ _ h => h
                    (try simp only [Act.put, List.setIfInBounds_toArray, List.set_cons_zero, List.set_cons_succ])
                    refine wpAnyH_take (i := 15) (oi := ?oiBk15) (v := undef) ?hoBk15 ?h1Bk15 ?h2Bk15 ?h3Bk15 ?hqBk15 (Or.inr ⟨?h4Bk15, rfl⟩) (by assumption) ?restBk15
                    case hoBk15 => (simp only [List.getElem?_toArray, List.getElem?_cons_zero, List.getElem?_cons_succ]; rfl)
                    case h1Bk15 => kernel_rfl
                    case h2Bk15 => kernel_rfl
                    case h3Bk15 => kernel_rfl
                    case h4Bk15 => rfl
                    case hqBk15 => exact fun _ _ _ h => h
                    (try simp only [Act.put, List.setIfInBounds_toArray, List.set_cons_zero, List.set_cons_succ])
                    refine wpAnyH_take (i := 16) (oi := ?oiBk16) (v := undef) ?hoBk16 ?h1Bk16 ?h2Bk16 ?h3Bk16 ?hqBk16 (Or.inr ⟨?h4Bk16, rfl⟩) (by assumption) ?restBk16
                    case hoBk16 => (simp only [List.getElem?_toArray, List.getElem?_cons_zero, List.getElem?_cons_succ]; rfl)
                    case h1Bk16 => kernel_rfl
                    case h2Bk16 => kernel_rfl
                    case h3Bk16 => kernel_rfl
                    case h4Bk16 => rfl
                    case hqBk16 => exact fun _ _ _ h => h
                    (try simp only [Act.put, List.setIfInBounds_toArray, List.set_cons_zero, List.set_cons_succ])
                    refine wpAnyH_take (i := 17) (oi := ?oiBk17) (v := undef) ?hoBk17 ?h1Bk17 ?h2Bk17 ?h3Bk17 ?hqBk17 (Or.inr ⟨?h4Bk17, rfl⟩) (by assumption) ?restBk17
                    case hoBk17 => (simp only [List.getElem?_toArray, List.getElem?_cons_zero, List.getElem?_cons_succ]; rfl)
                    case h1Bk17 => kernel_rfl
                    case h2Bk17 => kernel_rfl
                    case h3Bk17 => kernel_rfl
                    case h4Bk17 => rfl
                    case hqBk17 => exact fun _ _ _ h => h
                    (try simp only [Act.put, List.setIfInBounds_toArray, List.set_cons_zero, List.set_cons_succ])
                    refine wpAnyH_take (i := 18) (oi := ?oiBk18) (v := undef) ?hoBk18 ?h1Bk18 ?h2Bk18 ?h3Bk18 ?hqBk18 (Or.inr ⟨?h4Bk18, rfl⟩) (by assumption) ?restBk18
                    case hoBk18 => (simp only [List.getElem?_toArray, List.getElem?_cons_zero, List.getElem?_cons_succ]; rfl)
                    case h1Bk18 => kernel_rfl
                    case h2Bk18 => kernel_rfl
                    case h3Bk18 => kernel_rfl
                    case h4Bk18 => rfl
                    case hqBk18 => exact fun _ _ _ h => h
                    (try simp only [Act.put, List.setIfInBounds_toArray, List.set_cons_zero, List.set_cons_succ])
                    refine wpAnyH_take (i := 19) (oi := ?oiBx19) (v := ?vBx19) ?hoBx19 ?h1Bx19 ?h2Bx19 ?h3Bx19 ?hqBx19 (Or.inl ⟨?h4Bx19, ?hyBx19⟩) (by assumption) ?restBx19
                    case hoBx19 => (simp only [List.getElem?_toArray, List.getElem?_cons_zero, List.getElem?_cons_succ]; rfl)
                    case h1Bx19 => kernel_rfl
                    case h2Bx19 => kernel_rfl
                    case h3Bx19 => kernel_rfl
                    case h4Bx19 => rfl
                    case hqBx19 => exact fun _ _ _ h => h
                    case hyBx19 => (intro w hSw; (try dsimp only at hSw); go_simp <;> with_reducible rfl)
                    (try simp only [Act.put, List.setIfInBounds_toArray, List.set_cons_zero, List.set_cons_succ])
                    refine wpAnyH_take (i := 20) (oi := ?oiBx20) (v := ?vBx20) ?hoBx20 ?h1Bx20 ?h2Bx20 ?h3Bx20 ?hqBx20 (Or.inl ⟨?h4Bx20, ?hyBx20⟩) (by assumption) ?restBx20
                    case hoBx20 => (simp only [List.getElem?_toArray, List.getElem?_cons_zero, List.getElem?_cons_succ]; rfl)
                    case h1Bx20 => kernel_rfl
                    case h2Bx20 => kernel_rfl
                    case h3Bx20 => kernel_rfl
                    case h4Bx20 => rfl
                    case hqBx20 => exact fun _ _ _ h => h
                    case hyBx20 => (intro w hSw; (try dsimp only at hSw); go_simp <;> with_reducible rfl)
                    (try simp only [Act.put, List.setIfInBounds_toArray, List.set_cons_zero, List.set_cons_succ])
                    refine wpAnyH_done (by kernel_rfl) ?_ _
                    clear hhow
                    obtain ⟨wx, hwx⟩ : ∃ W, wr.drewN 1 = W := ⟨_, rfl⟩
                    have hgoal : wr.drew = wx := hwx
                    have hBx : Below w6.heap.size w6 wx := by rw [← hwx]; exact below_drewN hBi 1
                    rw [hwx]
                    clear hwx hgoal
                    go_wp2
                    go_roundw
                    case rel => exact ⟨i + 1, _, by omega, by omega, by go_num, Hst.out, rfl, hBx⟩
                    case measure => simp [intOf]; omega
                  · obtain ⟨hj0, hjw⟩ := hin j rfl
                    obtain ⟨j, rfl⟩ := Int.eq_ofNat_of_zero_le hj0
                    have hm1 : mOne (some (j : Int)) = (j : Int) := rfl
                    rw [hm1]
                    have hcj : wr.cell? ⟨bw, ow + j, none⟩ = some (.int .i64 (ws.getD j 0)) := by
                      obtain ⟨b', o', hA', hc'⟩ := (Hy6.out.below hBi).at_ j (by omega)
                      rw [hA] at hA'
                      injection hA' with hA'
                      injection hA' with e1 e2
                      subst e1
                      subst e2
                      exact hc'
                    have hbo : bOk ws (some (j : Int)) (i : Int) = decide (ws.getD i 0 < ws.getD j 0) := rfl
                    rw [hbo] at hst
                    subst hA
                    clear hbo hin hm1
                    generalize ws.getD i 0 = pv at *
                    generalize ws.getD j 0 = qv at *
                    have hj1 : ¬ (j : Int) < 0 := by omega
                    by_cases hpq : pv < qv
                    · rw [if_pos ⟨rfl, by simpa using hpq⟩] at hst
                      have Hst := hid hst
                      clear hst
                      go_upto_region 17 with (fail)
                      refine wp_region_held_drew (S := (fun w' => w'.cell? ⟨bw, ow + i, none⟩ = some (.int .i64 pv) ∧ w'.cell? ⟨bw, ow + j, none⟩ = some (.int .i64 qv))) (by kernel_rfl) ?hSnewCz (fun hHeld => ?restCz)
                      case hSnewCz => ((try dsimp only); exact ⟨hcw, hcj⟩)
                      refine wpAnyH_take (i := 0) (oi := ?oiCx0) (v := ?vCx0) ?hoCx0 ?h1Cx0 ?h2Cx0 ?h3Cx0 ?hqCx0 (Or.inl ⟨?h4Cx0, ?hyCx0⟩) (by assumption) ?restCx0
                      case hoCx0 => (simp only [List.getElem?_toArray, List.getElem?_cons_zero, List.getElem?_cons_succ]; rfl)
                      case h1Cx0 => kernel_rfl
                      case h2Cx0 => kernel_rfl
                      case h3Cx0 => kernel_rfl
                      case h4Cx0 => rfl
                      case hqCx0 => exact fun _ _ _ h => h
                      case hyCx0 => (intro w hSw; (try dsimp only at hSw); go_simp <;> with_reducible rfl)
                      (try simp only [Act.put, List.setIfInBounds_toArray, List.set_cons_zero, List.set_cons_succ])
                      refine wpAnyH_take (i := 1) (oi := ?oiCx1) (v := ?vCx1) ?hoCx1 ?h1Cx1 ?h2Cx1 ?h3Cx1 ?hqCx1 (Or.inl ⟨?h4Cx1, ?hyCx1⟩) (by assumption) ?restCx1
                      case hoCx1 => (simp only [List.getElem?_toArray, List.getElem?_cons_zero, List.getElem?_cons_succ]; rfl)
                      case h1Cx1 => kernel_rfl
                      case h2Cx1 => kernel_rfl
                      case h3Cx1 => kernel_rfl
                      case h4Cx1 => rfl
                      case hqCx1 => exact fun _ _ _ h => h
                      case hyCx1 => (intro w hSw; (try dsimp only at hSw); go_simp <;> with_reducible rfl)
                      (try simp only [Act.put, List.setIfInBounds_toArray, List.set_cons_zero, List.set_cons_succ])
                      refine wpAnyH_take (i := 3) (oi := ?oiCx3) (v := ?vCx3) ?hoCx3 ?h1Cx3 ?h2Cx3 ?h3Cx3 ?hqCx3 (Or.inl ⟨?h4Cx3, ?hyCx3⟩) (by assumption) ?restCx3
                      case hoCx3 => (simp only [List.getElem?_toArray, List.getElem?_cons_zero, List.getElem?_cons_succ]; rfl)
                      case h1Cx3 => kernel_rfl
                      case h2Cx3 => kernel_rfl
                      case h3Cx3 => kernel_rfl
                      case h4Cx3 => rfl
                      case hqCx3 => exact fun _ _ _ h => h
                      case hyCx3 => (intro w hSw; (try dsimp only at hSw); go_simp <;> with_reducible rfl)
                      (try simp only [Act.put, List.setIfInBounds_toArray, List.set_cons_zero, List.set_cons_succ])
                      refine wpAnyH_take (i := 4) (oi := ?oiCx4) (v := ?vCx4) ?hoCx4 ?h1Cx4 ?h2Cx4 ?h3Cx4 ?hqCx4 (Or.inl ⟨?h4Cx4, ?hyCx4⟩) (by assumption) ?restCx4
                      case hoCx4 => (simp only [List.getElem?_toArray, List.getElem?_cons_zero, List.getElem?_cons_succ]; rfl)
                      case h1Cx4 => kernel_rfl
                      case h2Cx4 => kernel_rfl
                      case h3Cx4 => kernel_rfl
                      case h4Cx4 => rfl
                      case hqCx4 => exact fun _ _ _ h => h
                      case hyCx4 => (intro w hSw; (try dsimp only at hSw); go_simp <;> with_reducible rfl)
                      (try simp only [Act.put, List.setIfInBounds_toArray, List.set_cons_zero, List.set_cons_succ])
                      refine wpAnyH_ready (rs := [2]) (by kernel_rfl) (by simp) ?_
                      refine AllReadyH.cons (o := ?oiCx2) ?hoCx2 (fun K hK => ?restCx2) ?moreCx2
                      case moreCx2 => exact AllReadyH.nil
                      case hoCx2 => (simp only [List.getElem?_toArray, List.getElem?_cons_zero, List.getElem?_cons_succ]; rfl)
                      go_simp
                      refine (hhow).mono ?_
                      rintro e w' ⟨rfl, rfl⟩
                      try go_wp2_with fail
                      refine hK.out _ _ ?hSnewCy2 (fun hHeld => ?restCy2)
                      case hSnewCy2 => ((try dsimp only); exact ⟨hcw, hcj⟩)
                      clear hK K
                      (try simp only [Act.put, List.setIfInBounds_toArray, List.set_cons_zero, List.set_cons_succ])
                      refine wpAnyH_take (i := 5) (oi := ?oiCx5) (v := ?vCx5) ?hoCx5 ?h1Cx5 ?h2Cx5 ?h3Cx5 ?hqCx5 (Or.inl ⟨?h4Cx5, ?hyCx5⟩) (by assumption) ?restCx5
                      case hoCx5 => (simp only [List.getElem?_toArray, List.getElem?_cons_zero, List.getElem?_cons_succ]; rfl)
                      case h1Cx5 => kernel_rfl
                      case h2Cx5 => kernel_rfl
                      case h3Cx5 => kernel_rfl
                      case h4Cx5 => rfl
                      case hqCx5 => exact fun _ _ _ h => h
                      case hyCx5 => (intro w hSw; (try dsimp only at hSw); go_simp <;> with_reducible rfl)
                      (try simp only [Act.put, List.setIfInBounds_toArray, List.set_cons_zero, List.set_cons_succ])
                      refine wpAnyH_take (i := 6) (oi := ?oiCx6) (v := ?vCx6) ?hoCx6 ?h1Cx6 ?h2Cx6 ?h3Cx6 ?hqCx6 (Or.inl ⟨?h4Cx6, ?hyCx6⟩) (by assumption) ?restCx6
                      case hoCx6 => (simp only [List.getElem?_toArray, List.getElem?_cons_zero, List.getElem?_cons_succ]; rfl)
                      case h1Cx6 => kernel_rfl
                      case h2Cx6 => kernel_rfl
                      case h3Cx6 => kernel_rfl
                      case h4Cx6 => rfl
                      case hqCx6 => exact fun _ _ _ h => h
                      case hyCx6 => (intro w hSw; (try dsimp only at hSw); go_simp <;> with_reducible rfl)
                      (try simp only [Act.put, List.setIfInBounds_toArray, List.set_cons_zero, List.set_cons_succ])
                      refine wpAnyH_take (i := 7) (oi := ?oiCx7) (v := ?vCx7) ?hoCx7 ?h1Cx7 ?h2Cx7 ?h3Cx7 ?hqCx7 (Or.inl ⟨?h4Cx7, ?hyCx7⟩) (by assumption) ?restCx7
                      case hoCx7 => (simp only [List.getElem?_toArray, List.getElem?_cons_zero, List.getElem?_cons_succ]; rfl)
                      case h1Cx7 => kernel_rfl
                      case h2Cx7 => kernel_rfl
                      case h3Cx7 => kernel_rfl
                      case h4Cx7 => rfl
                      case hqCx7 => exact fun _ _ _ h => h
                      case hyCx7 => (intro w hSw; (try dsimp only at hSw); go_simp <;> with_reducible rfl)
                      (try simp only [Act.put, List.setIfInBounds_toArray, List.set_cons_zero, List.set_cons_succ])
                      refine wpAnyH_take (i := 8) (oi := ?oiCx8) (v := ?vCx8) ?hoCx8 ?h1Cx8 ?h2Cx8 ?h3Cx8 ?hqCx8 (Or.inl ⟨?h4Cx8, ?hyCx8⟩) (by assumption) ?restCx8
                      case hoCx8 => (simp only [List.getElem?_toArray, List.getElem?_cons_zero, List.getElem?_cons_succ]; rfl)
                      case h1Cx8 => kernel_rfl
                      case h2Cx8 => kernel_rfl
                      case h3Cx8 => kernel_rfl
                      case h4Cx8 => rfl
                      case hqCx8 => exact fun _ _ _ h => h
                      case hyCx8 => (intro w hSw; (try dsimp only at hSw); go_simp <;> with_reducible rfl)
                      (try simp only [Act.put, List.setIfInBounds_toArray, List.set_cons_zero, List.set_cons_succ])
                      refine wpAnyH_take (i := 9) (oi := ?oiCx9) (v := ?vCx9) ?hoCx9 ?h1Cx9 ?h2Cx9 ?h3Cx9 ?hqCx9 (Or.inl ⟨?h4Cx9, ?hyCx9⟩) (by assumption) ?restCx9
                      case hoCx9 => (simp only [List.getElem?_toArray, List.getElem?_cons_zero, List.getElem?_cons_succ]; rfl)
                      case h1Cx9 => kernel_rfl
                      case h2Cx9 => kernel_rfl
                      case h3Cx9 => kernel_rfl
                      case h4Cx9 => rfl
                      case hqCx9 => exact fun _ _ _ h => h
                      case hyCx9 => (intro w hSw; (try dsimp only at hSw); go_simp <;> with_reducible rfl)
                      (try simp only [Act.put, List.setIfInBounds_toArray, List.set_cons_zero, List.set_cons_succ])
                      refine wpAnyH_take (i := 10) (oi := ?oiCx10) (v := ?vCx10) ?hoCx10 ?h1Cx10 ?h2Cx10 ?h3Cx10 ?hqCx10 (Or.inl ⟨?h4Cx10, ?hyCx10⟩) (by assumption) ?restCx10
                      case hoCx10 => (simp only [List.getElem?_toArray, List.getElem?_cons_zero, List.getElem?_cons_succ]; rfl)
                      case h1Cx10 => kernel_rfl
                      case h2Cx10 => kernel_rfl
                      case h3Cx10 => kernel_rfl
                      case h4Cx10 => rfl
                      case hqCx10 => exact fun _ _ _ h => h
                      case hyCx10 => (intro w hSw; (try dsimp only at hSw); go_simp <;> with_reducible rfl)
                      (try simp only [Act.put, List.setIfInBounds_toArray, List.set_cons_zero, List.set_cons_succ])
                      refine wpAnyH_take (i := 11) (oi := ?oiCx11) (v := ?vCx11) ?hoCx11 ?h1Cx11 ?h2Cx11 ?h3Cx11 ?hqCx11 (Or.inl ⟨?h4Cx11, ?hyCx11⟩) (by assumption) ?restCx11
                      case hoCx11 => (simp only [List.getElem?_toArray, List.getElem?_cons_zero, List.getElem?_cons_succ]; rfl)
                      case h1Cx11 => kernel_rfl
                      case h2Cx11 => kernel_rfl
                      case h3Cx11 => kernel_rfl
                      case h4Cx11 => rfl
                      case hqCx11 => exact fun _ _ _ h => h
                      case hyCx11 => (intro w hSw; (try dsimp only at hSw); go_simp <;> with_reducible rfl)
                      (try simp only [Act.put, List.setIfInBounds_toArray, List.set_cons_zero, List.set_cons_succ])
                      refine wpAnyH_take (i := 12) (oi := ?oiCx12) (v := ?vCx12) ?hoCx12 ?h1Cx12 ?h2Cx12 ?h3Cx12 ?hqCx12 (Or.inl ⟨?h4Cx12, ?hyCx12⟩) (by assumption) ?restCx12
                      case hoCx12 => (simp only [List.getElem?_toArray, List.getElem?_cons_zero, List.getElem?_cons_succ]; rfl)
                      case h1Cx12 => kernel_rfl
                      case h2Cx12 => kernel_rfl
                      case h3Cx12 => kernel_rfl
                      case h4Cx12 => rfl
                      case hqCx12 => exact fun _ _ _ h => h
                      case hyCx12 => (intro w hSw; (try dsimp only at hSw); go_simp <;> with_reducible rfl)
                      (try simp only [Act.put, List.setIfInBounds_toArray, List.set_cons_zero, List.set_cons_succ])
                      refine wpAnyH_take (i := 13) (oi := ?oiCx13) (v := ?vCx13) ?hoCx13 ?h1Cx13 ?h2Cx13 ?h3Cx13 ?hqCx13 (Or.inl ⟨?h4Cx13, ?hyCx13⟩) (by assumption) ?restCx13
                      case hoCx13 => (simp only [List.getElem?_toArray, List.getElem?_cons_zero, List.getElem?_cons_succ]; rfl)
                      case h1Cx13 => kernel_rfl
                      case h2Cx13 => kernel_rfl
                      case h3Cx13 => kernel_rfl
                      case h4Cx13 => rfl
                      case hqCx13 => exact fun _ _ _ h => h
                      case hyCx13 => (intro w hSw; (try dsimp only at hSw); go_simp <;> with_reducible rfl)
                      (try simp only [Act.put, List.setIfInBounds_toArray, List.set_cons_zero, List.set_cons_succ])
                      refine wpAnyH_take (i := 14) (oi := ?oiCx14) (v := ?vCx14) ?hoCx14 ?h1Cx14 ?h2Cx14 ?h3Cx14 ?hqCx14 (Or.inl ⟨?h4Cx14, ?hyCx14⟩) (by assumption) ?restCx14
                      case hoCx14 => (simp only [List.getElem?_toArray, List.getElem?_cons_zero, List.getElem?_cons_succ]; rfl)
                      case h1Cx14 => kernel_rfl
                      case h2Cx14 => kernel_rfl
                      case h3Cx14 => kernel_rfl
                      case h4Cx14 => rfl
                      case hqCx14 => exact fun _ _ _ h => h
                      case hyCx14 => (intro w hSw; (try dsimp only at hSw); go_simp <;> with_reducible rfl)
                      (try simp only [Act.put, List.setIfInBounds_toArray, List.set_cons_zero, List.set_cons_succ])
                      refine wpAnyH_take (i := 15) (oi := ?oiCx15) (v := ?vCx15) ?hoCx15 ?h1Cx15 ?h2Cx15 ?h3Cx15 ?hqCx15 (Or.inl ⟨?h4Cx15, ?hyCx15⟩) (by assumption) ?restCx15
                      case hoCx15 => (simp only [List.getElem?_toArray, List.getElem?_cons_zero, List.getElem?_cons_succ]; rfl)
                      case h1Cx15 => kernel_rfl
                      case h2Cx15 => kernel_rfl
                      case h3Cx15 => kernel_rfl
                      case h4Cx15 => rfl
                      case hqCx15 => exact fun _ _ _ h => h
                      case hyCx15 => (intro w hSw; (try dsimp only at hSw); go_simp <;> with_reducible rfl)
                      (try simp only [Act.put, List.setIfInBounds_toArray, List.set_cons_zero, List.set_cons_succ])
                      refine wpAnyH_take (i := 16) (oi := ?oiCx16) (v := ?vCx16) ?hoCx16 ?h1Cx16 ?h2Cx16 ?h3Cx16 ?hqCx16 (Or.inl ⟨?h4Cx16, ?hyCx16⟩) (by assumption) ?restCx16
                      case hoCx16 => (simp only [List.getElem?_toArray, List.getElem?_cons_zero, List.getElem?_cons_succ]; rfl)
                      case h1Cx16 => kernel_rfl
                      case h2Cx16 => kernel_rfl
                      case h3Cx16 => kernel_rfl
                      case h4Cx16 => rfl
                      case hqCx16 => exact fun _ _ _ h => h
                      case hyCx16 => (intro w hSw; (try dsimp only at hSw); go_simp <;> with_reducible rfl)
                      (try simp only [Act.put, List.setIfInBounds_toArray, List.set_cons_zero, List.set_cons_succ])
                      refine wpAnyH_take (i := 17) (oi := ?oiCx17) (v := ?vCx17) ?hoCx17 ?h1Cx17 ?h2Cx17 ?h3Cx17 ?hqCx17 (Or.inl ⟨?h4Cx17, ?hyCx17⟩) (by assumption) ?restCx17
                      case hoCx17 => (simp only [List.getElem?_toArray, List.getElem?_cons_zero, List.getElem?_cons_succ]; rfl)
                      case h1Cx17 => kernel_rfl
                      case h2Cx17 => kernel_rfl
                      case h3Cx17 => kernel_rfl
                      case h4Cx17 => rfl
                      case hqCx17 => exact fun _ _ _ h => h
                      case hyCx17 => (intro w hSw; (try dsimp only at hSw); go_simp <;> with_reducible rfl)
                      (try simp only [Act.put, List.setIfInBounds_toArray, List.set_cons_zero, List.set_cons_succ])
                      refine wpAnyH_take (i := 18) (oi := ?oiCx18) (v := ?vCx18) ?hoCx18 ?h1Cx18 ?h2Cx18 ?h3Cx18 ?hqCx18 (Or.inl ⟨?h4Cx18, ?hyCx18⟩) (by assumption) ?restCx18
                      case hoCx18 => (simp only [List.getElem?_toArray, List.getElem?_cons_zero, List.getElem?_cons_succ]; rfl)
                      case h1Cx18 => kernel_rfl
                      case h2Cx18 => kernel_rfl
                      case h3Cx18 => kernel_rfl
                      case h4Cx18 => rfl
                      case hqCx18 => exact fun _ _ _ h => h
                      case hyCx18 => (intro w hSw; (try dsimp only at hSw); go_simp <;> with_reducible rfl)
                      (try simp only [Act.put, List.setIfInBounds_toArray, List.set_cons_zero, List.set_cons_succ])
                      refine wpAnyH_take (i := 19) (oi := ?oiCx19) (v := ?vCx19) ?hoCx19 ?h1Cx19 ?h2Cx19 ?h3Cx19 ?hqCx19 (Or.inl ⟨?h4Cx19, ?hyCx19⟩) (by assumption) ?restCx19
                      case hoCx19 => (simp only [List.getElem?_toArray, List.getElem?_cons_zero, List.getElem?_cons_succ]; rfl)
                      case h1Cx19 => kernel_rfl
                      case h2Cx19 => kernel_rfl
                      case h3Cx19 => kernel_rfl
                      case h4Cx19 => rfl
                      case hqCx19 => exact fun _ _ _ h => h
                      case hyCx19 => (intro w hSw; (try dsimp only at hSw); go_simp <;> with_reducible rfl)
                      (try simp only [Act.put, List.setIfInBounds_toArray, List.set_cons_zero, List.set_cons_succ])
                      refine wpAnyH_take (i := 20) (oi := ?oiCx20) (v := ?vCx20) ?hoCx20 ?h1Cx20 ?h2Cx20 ?h3Cx20 ?hqCx20 (Or.inl ⟨?h4Cx20, ?hyCx20⟩) (by assumption) ?restCx20
                      case hoCx20 => (simp only [List.getElem?_toArray, List.getElem?_cons_zero, List.getElem?_cons_succ]; rfl)
                      case h1Cx20 => kernel_rfl
                      case h2Cx20 => kernel_rfl
                      case h3Cx20 => kernel_rfl
                      case h4Cx20 => rfl
                      case hqCx20 => exact fun _ _ _ h => h
                      case hyCx20 => (intro w hSw; (try dsimp only at hSw); go_simp <;> with_reducible rfl)
                      (try simp only [Act.put, List.setIfInBounds_toArray, List.set_cons_zero, List.set_cons_succ])
                      refine wpAnyH_done (by kernel_rfl) ?_ _
                      clear hhow hcw hcj
                      obtain ⟨wx, hwx⟩ : ∃ W, wr.drewN 1 = W := ⟨_, rfl⟩
                      have hgoal : wr.drew = wx := hwx
                      have hBx : Below w6.heap.size w6 wx := by rw [← hwx]; exact below_drewN hBi 1
                      rw [hwx]
                      clear hwx hgoal
                      go_wp2
                      go_roundw
                      case rel => exact ⟨i + 1, _, by omega, by omega, by go_num, Hst.out, rfl, hBx⟩
                      case measure => simp [intOf]; omega
                    · rw [if_neg (fun h => hpq (by simpa using h.2))] at hst
                      have Hst := hid hst
                      clear hst
                      go_upto_region 17 with (fail)
                      refine wp_region_held_drew (S := (fun w' => w'.cell? ⟨bw, ow + i, none⟩ = some (.int .i64 pv) ∧ w'.cell? ⟨bw, ow + j, none⟩ = some (.int .i64 qv))) (by kernel_rfl) ?hSnewDz (fun hHeld => ?restDz)
                      case hSnewDz => ((try dsimp only); exact ⟨hcw, hcj⟩)
                      refine wpAnyH_take (i := 0) (oi := ?oiDx0) (v := ?vDx0) ?hoDx0 ?h1Dx0 ?h2Dx0 ?h3Dx0 ?hqDx0 (Or.inl ⟨?h4Dx0, ?hyDx0⟩) (by assumption) ?restDx0
                      case hoDx0 => (simp only [List.getElem?_toArray, List.getElem?_cons_zero, List.getElem?_cons_succ]; rfl)
                      case h1Dx0 => kernel_rfl
                      case h2Dx0 => kernel_rfl
                      case h3Dx0 => kernel_rfl
                      case h4Dx0 => rfl
                      case hqDx0 => exact fun _ _ _ h => h
                      case hyDx0 => (intro w hSw; (try dsimp only at hSw); go_simp <;> with_reducible rfl)
                      (try simp only [Act.put, List.setIfInBounds_toArray, List.set_cons_zero, List.set_cons_succ])
                      refine wpAnyH_take (i := 1) (oi := ?oiDx1) (v := ?vDx1) ?hoDx1 ?h1Dx1 ?h2Dx1 ?h3Dx1 ?hqDx1 (Or.inl ⟨?h4Dx1, ?hyDx1⟩) (by assumption) ?restDx1
                      case hoDx1 => (simp only [List.getElem?_toArray, List.getElem?_cons_zero, List.getElem?_cons_succ]; rfl)
                      case h1Dx1 => kernel_rfl
                      case h2Dx1 => kernel_rfl
                      case h3Dx1 => kernel_rfl
                      case h4Dx1 => rfl
                      case hqDx1 => exact fun _ _ _ h => h
                      case hyDx1 => (intro w hSw; (try dsimp only at hSw); go_simp <;> with_reducible rfl)
                      (try simp only [Act.put, List.setIfInBounds_toArray, List.set_cons_zero, List.set_cons_succ])
                      refine wpAnyH_take (i := 3) (oi := ?oiDx3) (v := ?vDx3) ?hoDx3 ?h1Dx3 ?h2Dx3 ?h3Dx3 ?hqDx3 (Or.inl ⟨?h4Dx3, ?hyDx3⟩) (by assumption) ?restDx3
                      case hoDx3 => (simp only [List.getElem?_toArray, List.getElem?_cons_zero, List.getElem?_cons_succ]; rfl)
                      case h1Dx3 => kernel_rfl
                      case h2Dx3 => kernel_rfl
                      case h3Dx3 => kernel_rfl
                      case h4Dx3 => rfl
                      case hqDx3 => exact fun _ _ _ h => h
                      case hyDx3 => (intro w hSw; (try dsimp only at hSw); go_simp <;> with_reducible rfl)
                      (try simp only [Act.put, List.setIfInBounds_toArray, List.set_cons_zero, List.set_cons_succ])
                      refine wpAnyH_take (i := 4) (oi := ?oiDx4) (v := ?vDx4) ?hoDx4 ?h1Dx4 ?h2Dx4 ?h3Dx4 ?hqDx4 (Or.inl ⟨?h4Dx4, ?hyDx4⟩) (by assumption) ?restDx4
                      case hoDx4 => (simp only [List.getElem?_toArray, List.getElem?_cons_zero, List.getElem?_cons_succ]; rfl)
                      case h1Dx4 => kernel_rfl
                      case h2Dx4 => kernel_rfl
                      case h3Dx4 => kernel_rfl
                      case h4Dx4 => rfl
                      case hqDx4 => exact fun _ _ _ h => h
                      case hyDx4 => (intro w hSw; (try dsimp only at hSw); go_simp <;> with_reducible rfl)
                      (try simp only [Act.put, List.setIfInBounds_toArray, List.set_cons_zero, List.set_cons_succ])
                      refine wpAnyH_ready (rs := [2]) (by kernel_rfl) (by simp) ?_
                      refine AllReadyH.cons (o := ?oiDx2) ?hoDx2 (fun K hK => ?restDx2) ?moreDx2
                      case moreDx2 => exact AllReadyH.nil
                      case hoDx2 => (simp only [List.getElem?_toArray, List.getElem?_cons_zero, List.getElem?_cons_succ]; rfl)
                      go_simp
                      refine (hhow).mono ?_
                      rintro e w' ⟨rfl, rfl⟩
                      try go_wp2_with fail
                      refine hK.out _ _ ?hSnewDy2 (fun hHeld => ?restDy2)
                      case hSnewDy2 => ((try dsimp only); exact ⟨hcw, hcj⟩)
                      clear hK K
                      (try simp only [Act.put, List.setIfInBounds_toArray, List.set_cons_zero, List.set_cons_succ])
                      refine wpAnyH_take (i := 5) (oi := ?oiDx5) (v := ?vDx5) ?hoDx5 ?h1Dx5 ?h2Dx5 ?h3Dx5 ?hqDx5 (Or.inl ⟨?h4Dx5, ?hyDx5⟩) (by assumption) ?restDx5
                      case hoDx5 => (simp only [List.getElem?_toArray, List.getElem?_cons_zero, List.getElem?_cons_succ]; rfl)
                      case h1Dx5 => kernel_rfl
                      case h2Dx5 => kernel_rfl
                      case h3Dx5 => kernel_rfl
                      case h4Dx5 => rfl
                      case hqDx5 => exact fun _ _ _ h => h
                      case hyDx5 => (intro w hSw; (try dsimp only at hSw); go_simp <;> with_reducible rfl)
                      (try simp only [Act.put, List.setIfInBounds_toArray, List.set_cons_zero, List.set_cons_succ])
                      refine wpAnyH_take (i := 6) (oi := ?oiDx6) (v := ?vDx6) ?hoDx6 ?h1Dx6 ?h2Dx6 ?h3Dx6 ?hqDx6 (Or.inl ⟨?h4Dx6, ?hyDx6⟩) (by assumption) ?restDx6
                      case hoDx6 => (simp only [List.getElem?_toArray, List.getElem?_cons_zero, List.getElem?_cons_succ]; rfl)
                      case h1Dx6 => kernel_rfl
                      case h2Dx6 => kernel_rfl
                      case h3Dx6 => kernel_rfl
                      case h4Dx6 => rfl
                      case hqDx6 => exact fun _ _ _ h => h
                      case hyDx6 => (intro w hSw; (try dsimp only at hSw); go_simp <;> with_reducible rfl)
                      (try simp only [Act.put, List.setIfInBounds_toArray, List.set_cons_zero, List.set_cons_succ])
                      refine wpAnyH_take (i := 7) (oi := ?oiDx7) (v := ?vDx7) ?hoDx7 ?h1Dx7 ?h2Dx7 ?h3Dx7 ?hqDx7 (Or.inl ⟨?h4Dx7, ?hyDx7⟩) (by assumption) ?restDx7
                      case hoDx7 => (simp only [List.getElem?_toArray, List.getElem?_cons_zero, List.getElem?_cons_succ]; rfl)
                      case h1Dx7 => kernel_rfl
                      case h2Dx7 => kernel_rfl
                      case h3Dx7 => kernel_rfl
                      case h4Dx7 => rfl
                      case hqDx7 => exact fun _ _ _ h => h
                      case hyDx7 => (intro w hSw; (try dsimp only at hSw); go_simp <;> with_reducible rfl)
                      (try simp only [Act.put, List.setIfInBounds_toArray, List.set_cons_zero, List.set_cons_succ])
                      refine wpAnyH_take (i := 8) (oi := ?oiDx8) (v := ?vDx8) ?hoDx8 ?h1Dx8 ?h2Dx8 ?h3Dx8 ?hqDx8 (Or.inl ⟨?h4Dx8, ?hyDx8⟩) (by assumption) ?restDx8
                      case hoDx8 => (simp only [List.getElem?_toArray, List.getElem?_cons_zero, List.getElem?_cons_succ]; rfl)
                      case h1Dx8 => kernel_rfl
                      case h2Dx8 => kernel_rfl
                      case h3Dx8 => kernel_rfl
                      case h4Dx8 => rfl
                      case hqDx8 => exact fun _ _ _ h => h
                      case hyDx8 => (intro w hSw; (try dsimp only at hSw); go_simp <;> with_reducible rfl)
                      (try simp only [Act.put, List.setIfInBounds_toArray, List.set_cons_zero, List.set_cons_succ])
                      refine wpAnyH_take (i := 9) (oi := ?oiDx9) (v := ?vDx9) ?hoDx9 ?h1Dx9 ?h2Dx9 ?h3Dx9 ?hqDx9 (Or.inl ⟨?h4Dx9, ?hyDx9⟩) (by assumption) ?restDx9
                      case hoDx9 => (simp only [List.getElem?_toArray, List.getElem?_cons_zero, List.getElem?_cons_succ]; rfl)
                      case h1Dx9 => kernel_rfl
                      case h2Dx9 => kernel_rfl
                      case h3Dx9 => kernel_rfl
                      case h4Dx9 => rfl
                      case hqDx9 => exact fun _ _ _ h => h
                      case hyDx9 => (intro w hSw; (try dsimp only at hSw); go_simp <;> with_reducible rfl)
                      (try simp only [Act.put, List.setIfInBounds_toArray, List.set_cons_zero, List.set_cons_succ])
                      refine wpAnyH_take (i := 10) (oi := ?oiDx10) (v := ?vDx10) ?hoDx10 ?h1Dx10 ?h2Dx10 ?h3Dx10 ?hqDx10 (Or.inl ⟨?h4Dx10, ?hyDx10⟩) (by assumption) ?restDx10
                      case hoDx10 => (simp only [List.getElem?_toArray, List.getElem?_cons_zero, List.getElem?_cons_succ]; rfl)
                      case h1Dx10 => kernel_rfl
                      case h2Dx10 => kernel_rfl
                      case h3Dx10 => kernel_rfl
                      case h4Dx10 => rfl
                      case hqDx10 => exact fun _ _ _ h => h
                      case hyDx10 => (intro w hSw; (try dsimp only at hSw); go_simp <;> with_reducible rfl)
                      (try simp only [Act.put, List.setIfInBounds_toArray, List.set_cons_zero, List.set_cons_succ])
                      refine wpAnyH_take (i := 11) (oi := ?oiDx11) (v := ?vDx11) ?hoDx11 ?h1Dx11 ?h2Dx11 ?h3Dx11 ?hqDx11 (Or.inl ⟨?h4Dx11, ?hyDx11⟩) (by assumption) ?restDx11
                      case hoDx11 => (simp only [List.getElem?_toArray, List.getElem?_cons_zero, List.getElem?_cons_succ]; rfl)
                      case h1Dx11 => kernel_rfl
                      case h2Dx11 => kernel_rfl
                      case h3Dx11 => kernel_rfl
                      case h4Dx11 => rfl
                      case hqDx11 => exact fun _ _ _ h => h
                      case hyDx11 => (intro w hSw; (try dsimp only at hSw); go_simp <;> with_reducible rfl)
                      (try simp only [Act.put, List.setIfInBounds_toArray, List.set_cons_zero, List.set_cons_succ])
                      refine wpAnyH_take (i := 12) (oi := ?oiDx12) (v := ?vDx12) ?hoDx12 ?h1Dx12 ?h2Dx12 ?h3Dx12 ?hqDx12 (Or.inl ⟨?h4Dx12, ?hyDx12⟩) (by assumption) ?restDx12
                      case hoDx12 => (simp only [List.getElem?_toArray, List.getElem?_cons_zero, List.getElem?_cons_succ]; rfl)
                      case h1Dx12 => kernel_rfl
                      case h2Dx12 => kernel_rfl
                      case h3Dx12 => kernel_rfl
                      case h4Dx12 => rfl
                      case hqDx12 => exact fun _ _ _ h => h
                      case hyDx12 => (intro w hSw; (try dsimp only at hSw); go_simp <;> with_reducible rfl)
                      (try simp only [Act.put, List.setIfInBounds_toArray, List.set_cons_zero, List.set_cons_succ])
                      refine wpAnyH_take (i := 13) (oi := ?oiDx13) (v := ?vDx13) ?hoDx13 ?h1Dx13 ?h2Dx13 ?h3Dx13 ?hqDx13 (Or.inl ⟨?h4Dx13, ?hyDx13⟩) (by assumption) ?restDx13
                      case hoDx13 => (simp only [List.getElem?_toArray, List.getElem?_cons_zero, List.getElem?_cons_succ]; rfl)
                      case h1Dx13 => kernel_rfl
                      case h2Dx13 => kernel_rfl
                      case h3Dx13 => kernel_rfl
                      case h4Dx13 => rfl
                      case hqDx13 => exact fun _ _ _ h => h
                      case hyDx13 => (intro w hSw; (try dsimp only at hSw); go_simp <;> with_reducible rfl)
                      (try simp only [Act.put, List.setIfInBounds_toArray, List.set_cons_zero, List.set_cons_succ])
                      refine wpAnyH_take (i := 14) (oi := ?oiDx14) (v := ?vDx14) ?hoDx14 ?h1Dx14 ?h2Dx14 ?h3Dx14 ?hqDx14 (Or.inl ⟨?h4Dx14, ?hyDx14⟩) (by assumption) ?restDx14
                      case hoDx14 => (simp only [List.getElem?_toArray, List.getElem?_cons_zero, List.getElem?_cons_succ]; rfl)
                      case h1Dx14 => kernel_rfl
                      case h2Dx14 => kernel_rfl
                      case h3Dx14 => kernel_rfl
                      case h4Dx14 => rfl
                      case hqDx14 => exact fun _ _ _ h => h
                      case hyDx14 => (intro w hSw; (try dsimp only at hSw); go_simp <;> with_reducible rfl)
                      (try simp only [Act.put, List.setIfInBounds_toArray, List.set_cons_zero, List.set_cons_succ])
                      refine wpAnyH_take (i := 15) (oi := ?oiDx15) (v := ?vDx15) ?hoDx15 ?h1Dx15 ?h2Dx15 ?h3Dx15 ?hqDx15 (Or.inl ⟨?h4Dx15, ?hyDx15⟩) (by assumption) ?restDx15
                      case hoDx15 => (simp only [List.getElem?_toArray, List.getElem?_cons_zero, List.getElem?_cons_succ]; rfl)
                      case h1Dx15 => kernel_rfl
                      case h2Dx15 => kernel_rfl
                      case h3Dx15 => kernel_rfl
                      case h4Dx15 => rfl
                      case hqDx15 => exact fun _ _ _ h => h
                      case hyDx15 => (intro w hSw; (try dsimp only at hSw); go_simp <;> with_reducible rfl)
                      (try simp only [Act.put, List.setIfInBounds_toArray, List.set_cons_zero, List.set_cons_succ])
                      refine wpAnyH_take (i := 16) (oi := ?oiDx16) (v := ?vDx16) ?hoDx16 ?h1Dx16 ?h2Dx16 ?h3Dx16 ?hqDx16 (Or.inl ⟨?h4Dx16, ?hyDx16⟩) (by assumption) ?restDx16
                      case hoDx16 => (simp only [List.getElem?_toArray, List.getElem?_cons_zero, List.getElem?_cons_succ]; rfl)
                      case h1Dx16 => kernel_rfl
                      case h2Dx16 => kernel_rfl
                      case h3Dx16 => kernel_rfl
                      case h4Dx16 => rfl
                      case hqDx16 => exact fun _ _ _ h => h
                      case hyDx16 => (intro w hSw; (try dsimp only at hSw); go_simp <;> with_reducible rfl)
                      (try simp only [Act.put, List.setIfInBounds_toArray, List.set_cons_zero, List.set_cons_succ])
                      refine wpAnyH_take (i := 17) (oi := ?oiDx17) (v := ?vDx17) ?hoDx17 ?h1Dx17 ?h2Dx17 ?h3Dx17 ?hqDx17 (Or.inl ⟨?h4Dx17, ?hyDx17⟩) (by assumption) ?restDx17
                      case hoDx17 => (simp only [List.getElem?_toArray, List.getElem?_cons_zero, List.getElem?_cons_succ]; rfl)
                      case h1Dx17 => kernel_rfl
                      case h2Dx17 => kernel_rfl
                      case h3Dx17 => kernel_rfl
                      case h4Dx17 => rfl
                      case hqDx17 => exact fun _ _ _ h => h
                      case hyDx17 => (intro w hSw; (try dsimp only at hSw); go_simp <;> with_reducible rfl)
                      (try simp only [Act.put, List.setIfInBounds_toArray, List.set_cons_zero, List.set_cons_succ])
                      refine wpAnyH_take (i := 18) (oi := ?oiDx18) (v := ?vDx18) ?hoDx18 ?h1Dx18 ?h2Dx18 ?h3Dx18 ?hqDx18 (Or.inl ⟨?h4Dx18, ?hyDx18⟩) (by assumption) ?restDx18
                      case hoDx18 => (simp only [List.getElem?_toArray, List.getElem?_cons_zero, List.getElem?_cons_succ]; rfl)
                      case h1Dx18 => kernel_rfl
                      case h2Dx18 => kernel_rfl
                      case h3Dx18 => kernel_rfl
                      case h4Dx18 => rfl
                      case hqDx18 => exact fun _ _ _ h => h
                      case hyDx18 => (intro w hSw; (try dsimp only at hSw); go_simp <;> with_reducible rfl)
                      (try simp only [Act.put, List.setIfInBounds_toArray, List.set_cons_zero, List.set_cons_succ])
                      refine wpAnyH_take (i := 19) (oi := ?oiDx19) (v := ?vDx19) ?hoDx19 ?h1Dx19 ?h2Dx19 ?h3Dx19 ?hqDx19 (Or.inl ⟨?h4Dx19, ?hyDx19⟩) (by assumption) ?restDx19
                      case hoDx19 => (simp only [List.getElem?_toArray, List.getElem?_cons_zero, List.getElem?_cons_succ]; rfl)
                      case h1Dx19 => kernel_rfl
                      case h2Dx19 => kernel_rfl
                      case h3Dx19 => kernel_rfl
                      case h4Dx19 => rfl
                      case hqDx19 => exact fun _ _ _ h => h
                      case hyDx19 => (intro w hSw; (try dsimp only at hSw); go_simp <;> with_reducible rfl)
                      (try simp only [Act.put, List.setIfInBounds_toArray, List.set_cons_zero, List.set_cons_succ])
                      refine wpAnyH_take (i := 20) (oi := ?oiDx20) (v := ?vDx20) ?hoDx20 ?h1Dx20 ?h2Dx20 ?h3Dx20 ?hqDx20 (Or.inl ⟨?h4Dx20, ?hyDx20⟩) (by assumption) ?restDx20
                      case hoDx20 => (simp only [List.getElem?_toArray, List.getElem?_cons_zero, List.getElem?_cons_succ]; rfl)
                      case h1Dx20 => kernel_rfl
                      case h2Dx20 => kernel_rfl
                      case h3Dx20 => kernel_rfl
                      case h4Dx20 => rfl
                      case hqDx20 => exact fun _ _ _ h => h
                      case hyDx20 => (intro w hSw; (try dsimp only at hSw); go_simp <;> with_reducible rfl)
                      (try simp only [Act.put, List.setIfInBounds_toArray, List.set_cons_zero, List.set_cons_succ])
                      refine wpAnyH_done (by kernel_rfl) ?_ _
                      clear hhow hcw hcj
                      obtain ⟨wx, hwx⟩ : ∃ W, wr.drewN 1 = W := ⟨_, rfl⟩
                      have hgoal : wr.drew = wx := hwx
                      have hBx : Below w6.heap.size w6 wx := by rw [← hwx]; exact below_drewN hBi 1
                      rw [hwx]
                      clear hwx hgoal
                      go_wp2
                      go_roundw
                      case rel => exact ⟨i + 1, _, by omega, by omega, by go_num, Hst.out, rfl, hBx⟩
                      case measure => simp [intOf]; omega
                · rw [if_neg (fun h => huv h.1)] at hst
                  have Hst := hid hst
                  have hue : ((u : Int) == (v : Int)) = false := by rw [beq_eq_false_iff_ne]; omega
                  clear hst hin
                  go_upto_region 17 with (fail)
                  refine wp_region_held_drew (S := (fun w' => w'.heap.size = wr.heap.size)) (by kernel_rfl) ?hSnewAz (fun hHeld => ?restAz)
                  case hSnewAz => ((try dsimp only); rfl)
                  refine wpAnyH_take (i := 0) (oi := ?oiAx0) (v := ?vAx0) ?hoAx0 ?h1Ax0 ?h2Ax0 ?h3Ax0 ?hqAx0 (Or.inl ⟨?h4Ax0, ?hyAx0⟩) (by assumption) ?restAx0
                  case hoAx0 => (simp only [List.getElem?_toArray, List.getElem?_cons_zero, List.getElem?_cons_succ]; rfl)
                  case h1Ax0 => kernel_rfl
                  case h2Ax0 => kernel_rfl
                  case h3Ax0 => kernel_rfl
                  case h4Ax0 => rfl
                  case hqAx0 => exact fun _ _ _ h => h
                  case hyAx0 => (intro w hSw; (try dsimp only at hSw); go_simp <;> with_reducible rfl)
                  (try simp only [Act.put, List.setIfInBounds_toArray, List.set_cons_zero, List.set_cons_succ])
                  refine wpAnyH_take (i := 1) (oi := ?oiAx1) (v := ?vAx1) ?hoAx1 ?h1Ax1 ?h2Ax1 ?h3Ax1 ?hqAx1 (Or.inl ⟨?h4Ax1, ?hyAx1⟩) (by assumption) ?restAx1
                  case hoAx1 => (simp only [List.getElem?_toArray, List.getElem?_cons_zero, List.getElem?_cons_succ]; rfl)
                  case h1Ax1 => kernel_rfl
                  case h2Ax1 => kernel_rfl
                  case h3Ax1 => kernel_rfl
                  case h4Ax1 => rfl
                  case hqAx1 => exact fun _ _ _ h => h
                  case hyAx1 => (intro w hSw; (try dsimp only at hSw); go_simp <;> with_reducible rfl)
                  (try simp only [Act.put, List.setIfInBounds_toArray, List.set_cons_zero, List.set_cons_succ])
                  refine wpAnyH_take (i := 3) (oi := ?oiAx3) (v := ?vAx3) ?hoAx3 ?h1Ax3 ?h2Ax3 ?h3Ax3 ?hqAx3 (Or.inl ⟨?h4Ax3, ?hyAx3⟩) (by assumption) ?restAx3
                  case hoAx3 => (simp only [List.getElem?_toArray, List.getElem?_cons_zero, List.getElem?_cons_succ]; rfl)
                  case h1Ax3 => kernel_rfl
                  case h2Ax3 => kernel_rfl
                  case h3Ax3 => kernel_rfl
                  case h4Ax3 => rfl
                  case hqAx3 => exact fun _ _ _ h => h
                  case hyAx3 => (intro w hSw; (try dsimp only at hSw); go_simp <;> with_reducible rfl)
                  (try simp only [Act.put, List.setIfInBounds_toArray, List.set_cons_zero, List.set_cons_succ])
                  refine wpAnyH_take (i := 4) (oi := ?oiAx4) (v := ?vAx4) ?hoAx4 ?h1Ax4 ?h2Ax4 ?h3Ax4 ?hqAx4 (Or.inl ⟨?h4Ax4, ?hyAx4⟩) (by assumption) ?restAx4
                  case hoAx4 => (simp only [List.getElem?_toArray, List.getElem?_cons_zero, List.getElem?_cons_succ]; rfl)
                  case h1Ax4 => kernel_rfl
                  case h2Ax4 => kernel_rfl
                  case h3Ax4 => kernel_rfl
                  case h4Ax4 => rfl
                  case hqAx4 => exact fun _ _ _ h => h
                  case hyAx4 => (intro w hSw; (try dsimp only at hSw); go_simp <;> with_reducible rfl)
                  (try simp only [Act.put, List.setIfInBounds_toArray, List.set_cons_zero, List.set_cons_succ])
                  refine wpAnyH_ready (rs := [2]) (by kernel_rfl) (by simp) ?_
                  refine AllReadyH.cons (o := ?oiAx2) ?hoAx2 (fun K hK => ?restAx2) ?moreAx2
                  case moreAx2 => exact AllReadyH.nil
                  case hoAx2 => (simp only [List.getElem?_toArray, List.getElem?_cons_zero, List.getElem?_cons_succ]; rfl)
                  go_simp
                  refine (hhow).mono ?_
                  rintro e w' ⟨rfl, rfl⟩
                  try go_wp2_with fail
                  refine hK.out _ _ ?hSnewAy2 (fun hHeld => ?restAy2)
                  case hSnewAy2 => ((try dsimp only); rfl)
                  clear hK K
                  (try simp only [Act.put, List.setIfInBounds_toArray, List.set_cons_zero, List.set_cons_succ])
                  refine wpAnyH_take (i := 5) (oi := ?oiAx5) (v := ?vAx5) ?hoAx5 ?h1Ax5 ?h2Ax5 ?h3Ax5 ?hqAx5 (Or.inl ⟨?h4Ax5, ?hyAx5⟩) (by assumption) ?restAx5
                  case hoAx5 => (simp only [List.getElem?_toArray, List.getElem?_cons_zero, List.getElem?_cons_succ]; rfl)
                  case h1Ax5 => kernel_rfl
                  case h2Ax5 => kernel_rfl
                  case h3Ax5 => kernel_rfl
                  case h4Ax5 => rfl
                  case hqAx5 => exact fun _ _ _ h => h
                  case hyAx5 => (intro w hSw; (try dsimp only at hSw); go_simp <;> with_reducible rfl)
                  (try simp only [Act.put, List.setIfInBounds_toArray, List.set_cons_zero, List.set_cons_succ])
                  refine wpAnyH_take (i := 6) (oi := ?oiAx6) (v := ?vAx6) ?hoAx6 ?h1Ax6 ?h2Ax6 ?h3Ax6 ?hqAx6 (Or.inl ⟨?h4Ax6, ?hyAx6⟩) (by assumption) ?restAx6
                  case hoAx6 => (simp only [List.getElem?_toArray, List.getElem?_cons_zero, List.getElem?_cons_succ]; rfl)
                  case h1Ax6 => kernel_rfl
                  case h2Ax6 => kernel_rfl
                  case h3Ax6 => kernel_rfl
                  case h4Ax6 => rfl
                  case hqAx6 => exact fun _ _ _ h => h
                  case hyAx6 => (intro w hSw; (try dsimp only at hSw); go_simp <;> with_reducible rfl)
                  (try simp only [Act.put, List.setIfInBounds_toArray, List.set_cons_zero, List.set_cons_succ])
                  refine wpAnyH_take (i := 7) (oi := ?oiAk7) (v := undef) ?hoAk7 ?h1Ak7 ?h2Ak7 ?h3Ak7 ?hqAk7 (Or.inr ⟨?h4Ak7, rfl⟩) (by assumption) ?restAk7
                  case hoAk7 => (simp only [List.getElem?_toArray, List.getElem?_cons_zero, List.getElem?_cons_succ]; rfl)
                  case h1Ak7 => kernel_rfl
                  case h2Ak7 => kernel_rfl
                  case h3Ak7 => kernel_rfl
                  case h4Ak7 => rfl
                  case hqAk7 => exact fun _ _ _ h => h
                  (try simp only [Act.put, List.setIfInBounds_toArray, List.set_cons_zero, List.set_cons_succ])
                  refine wpAnyH_take (i := 8) (oi := ?oiAk8) (v := undef) ?hoAk8 ?h1Ak8 ?h2Ak8 ?h3Ak8 ?hqAk8 (Or.inr ⟨?h4Ak8, rfl⟩) (by assumption) ?restAk8
                  case hoAk8 => (simp only [List.getElem?_toArray, List.getElem?_cons_zero, List.getElem?_cons_succ]; rfl)
                  case h1Ak8 => kernel_rfl
                  case h2Ak8 => kernel_rfl
                  case h3Ak8 => kernel_rfl
                  case h4Ak8 => rfl
                  case hqAk8 => exact fun _ _ _ h => h
                  (try simp only [Act.put, List.setIfInBounds_toArray, List.set_cons_zero, List.set_cons_succ])
                  refine wpAnyH_take (i := 9) (oi := ?oiAk9) (v := undef) ?hoAk9 ?h1Ak9 ?h2Ak9 ?h3Ak9 ?hqAk9 (Or.inr ⟨?h4Ak9, rfl⟩) (by assumption) ?restAk9
                  case hoAk9 => (simp only [List.getElem?_toArray, List.getElem?_cons_zero, List.getElem?_cons_succ]; rfl)
                  case h1Ak9 => kernel_rfl
                  case h2Ak9 => kernel_rfl
                  case h3Ak9 => kernel_rfl
                  case h4Ak9 => rfl
                  case hqAk9 => exact fun _ _ _ h => h
                  (try simp only [Act.put, List.setIfInBounds_toArray, List.set_cons_zero, List.set_cons_succ])
                  refine wpAnyH_take (i := 10) (oi := ?oiAk10) (v := undef) ?hoAk10 ?h1Ak10 ?h2Ak10 ?h3Ak10 ?hqAk10 (Or.inr ⟨?h4Ak10, rfl⟩) (by assumption) ?restAk10
                  case hoAk10 => (simp only [List.getElem?_toArray, List.getElem?_cons_zero, List.getElem?_cons_succ]; rfl)
                  case h1Ak10 => kernel_rfl
                  case h2Ak10 => kernel_rfl
                  case h3Ak10 => kernel_rfl
                  case h4Ak10 => rfl
                  case hqAk10 => exact fun _ _ _ h => h
                  (try simp only [Act.put, List.setIfInBounds_toArray, List.set_cons_zero, List.set_cons_succ])
                  refine wpAnyH_take (i := 11) (oi := ?oiAk11) (v := undef) ?hoAk11 ?h1Ak11 ?h2Ak11 ?h3Ak11 ?hqAk11 (Or.inr ⟨?h4Ak11, rfl⟩) (by assumption) ?restAk11
                  case hoAk11 => (simp only [List.getElem?_toArray, List.getElem?_cons_zero, List.getElem?_cons_succ]; rfl)
                  case h1Ak11 => kernel_rfl
                  case h2Ak11 => kernel_rfl
                  case h3Ak11 => kernel_rfl
                  case h4Ak11 => rfl
                  case hqAk11 => exact fun _ _ _ h => h
                  (try simp only [Act.put, List.setIfInBounds_toArray, List.set_cons_zero, List.set_cons_succ])
                  refine wpAnyH_take (i := 12) (oi := ?oiAk12) (v := undef) ?hoAk12 ?h1Ak12 ?h2Ak12 ?h3Ak12 ?hqAk12 (Or.inr ⟨?h4Ak12, rfl⟩) (by assumption) ?restAk12
                  case hoAk12 => (simp only [List.getElem?_toArray, List.getElem?_cons_zero, List.getElem?_cons_succ]; rfl)
                  case h1Ak12 => kernel_rfl
                  case h2Ak12 => kernel_rfl
                  case h3Ak12 => kernel_rfl
                  case h4Ak12 => rfl
                  case hqAk12 => exact fun _ _ _ h => h
                  (try simp only [Act.put, List.setIfInBounds_toArray, List.set_cons_zero, List.set_cons_succ])
                  refine wpAnyH_take (i := 13) (oi := ?oiAk13) (v := undef) ?hoAk13 ?h1Ak13 ?h2Ak13 ?h3Ak13 ?hqAk13 (Or.inr ⟨?h4Ak13, rfl⟩) (by assumption) ?restAk13
                  case hoAk13 => (simp only [List.getElem?_toArray, List.getElem?_cons_zero, List.getElem?_cons_succ]; rfl)
                  case h1Ak13 => kernel_rfl
                  case h2Ak13 => kernel_rfl
                  case h3Ak13 => kernel_rfl
                  case h4Ak13 => rfl
                  case hqAk13 => exact fun _ _ _ h => h
                  (try simp only [Act.put, List.setIfInBounds_toArray, List.set_cons_zero, List.set_cons_succ])
                  refine wpAnyH_take (i := 14) (oi := ?oiAk14) (v := undef) ?hoAk14 ?h1Ak14 ?h2Ak14 ?h3Ak14 ?hqAk14 (Or.inr ⟨?h4Ak14, rfl⟩) (by assumption) ?restAk14
                  case hoAk14 => (simp only [List.getElem?_toArray, List.getElem?_cons_zero, List.getElem?_cons_succ]; rfl)
                  case h1Ak14 => kernel_rfl
                  case h2Ak14 => kernel_rfl
                  case h3Ak14 => kernel_rfl
                  case h4Ak14 => rfl
                  case hqAk14 => exact fun _ _ _ h => h
                  (try simp only [Act.put, List.setIfInBounds_toArray, List.set_cons_zero, List.set_cons_succ])
                  refine wpAnyH_take (i := 15) (oi := ?oiAk15) (v := undef) ?hoAk15 ?h1Ak15 ?h2Ak15 ?h3Ak15 ?hqAk15 (Or.inr ⟨?h4Ak15, rfl⟩) (by assumption) ?restAk15
                  case hoAk15 => (simp only [List.getElem?_toArray, List.getElem?_cons_zero, List.getElem?_cons_succ]; rfl)
                  case h1Ak15 => kernel_rfl
                  case h2Ak15 => kernel_rfl
                  case h3Ak15 => kernel_rfl
                  case h4Ak15 => rfl
                  case hqAk15 => exact fun _ _ _ h => h
                  (try simp only [Act.put, List.setIfInBounds_toArray, List.set_cons_zero, List.set_cons_succ])
                  refine wpAnyH_take (i := 16) (oi := ?oiAk16) (v := undef) ?hoAk16 ?h1Ak16 ?h2Ak16 ?h3Ak16 ?hqAk16 (Or.inr ⟨?h4Ak16, rfl⟩) (by assumption) ?restAk16
                  case hoAk16 => (simp only [List.getElem?_toArray, List.getElem?_cons_zero, List.getElem?_cons_succ]; rfl)
                  case h1Ak16 => kernel_rfl
                  case h2Ak16 => kernel_rfl
                  case h3Ak16 => kernel_rfl
                  case h4Ak16 => rfl
                  case hqAk16 => exact fun _ _ _ h => h
                  (try simp only [Act.put, List.setIfInBounds_toArray, List.set_cons_zero, List.set_cons_succ])
                  refine wpAnyH_take (i := 17) (oi := ?oiAk17) (v := undef) ?hoAk17 ?h1Ak17 ?h2Ak17 ?h3Ak17 ?hqAk17 (Or.inr ⟨?h4Ak17, rfl⟩) (by assumption) ?restAk17
                  case hoAk17 => (simp only [List.getElem?_toArray, List.getElem?_cons_zero, List.getElem?_cons_succ]; rfl)
                  case h1Ak17 => kernel_rfl
                  case h2Ak17 => kernel_rfl
                  case h3Ak17 => kernel_rfl
                  case h4Ak17 => rfl
                  case hqAk17 => exact fun _ _ _ h => h
                  (try simp only [Act.put, List.setIfInBounds_toArray, List.set_cons_zero, List.set_cons_succ])
                  refine wpAnyH_take (i := 18) (oi := ?oiAk18) (v := undef) ?hoAk18 ?h1Ak18 ?h2Ak18 ?h3Ak18 ?hqAk18 (Or.inr ⟨?h4Ak18, rfl⟩) (by assumption) ?restAk18
                  case hoAk18 => (simp only [List.getElem?_toArray, List.getElem?_cons_zero, List.getElem?_cons_succ]; rfl)
                  case h1Ak18 => kernel_rfl
                  case h2Ak18 => kernel_rfl
                  case h3Ak18 => kernel_rfl
                  case h4Ak18 => rfl
                  case hqAk18 => exact fun _ _ _ h => h
                  (try simp only [Act.put, List.setIfInBounds_toArray, List.set_cons_zero, List.set_cons_succ])
                  refine wpAnyH_take (i := 19) (oi := ?oiAk19) (v := undef) ?hoAk19 ?h1Ak19 ?h2Ak19 ?h3Ak19 ?hqAk19 (Or.inr ⟨?h4Ak19, rfl⟩) (by assumption) ?restAk19
                  case hoAk19 => (simp only [List.getElem?_toArray, List.getElem?_cons_zero, List.getElem?_cons_succ]; rfl)
                  case h1Ak19 => kernel_rfl
                  case h2Ak19 => kernel_rfl
                  case h3Ak19 => kernel_rfl
                  case h4Ak19 => rfl
                  case hqAk19 => exact fun _ _ _ h => h
                  (try simp only [Act.put, List.setIfInBounds_toArray, List.set_cons_zero, List.set_cons_succ])
                  refine wpAnyH_take (i := 20) (oi := ?oiAx20) (v := ?vAx20) ?hoAx20 ?h1Ax20 ?h2Ax20 ?h3Ax20 ?hqAx20 (Or.inl ⟨?h4Ax20, ?hyAx20⟩) (by assumption) ?restAx20
                  case hoAx20 => (simp only [List.getElem?_toArray, List.getElem?_cons_zero, List.getElem?_cons_succ]; rfl)
                  case h1Ax20 => kernel_rfl
                  case h2Ax20 => kernel_rfl
                  case h3Ax20 => kernel_rfl
                  case h4Ax20 => rfl
                  case hqAx20 => exact fun _ _ _ h => h
                  case hyAx20 => (intro w hSw; (try dsimp only at hSw); go_simp <;> with_reducible rfl)
                  (try simp only [Act.put, List.setIfInBounds_toArray, List.set_cons_zero, List.set_cons_succ])
                  refine wpAnyH_done (by kernel_rfl) ?_ _
                  clear hhow
                  obtain ⟨wx, hwx⟩ : ∃ W, wr.drewN 1 = W := ⟨_, rfl⟩
                  have hgoal : wr.drew = wx := hwx
                  have hBx : Below w6.heap.size w6 wx := by rw [← hwx]; exact below_drewN hBi 1
                  rw [hwx]
                  clear hwx hgoal
                  go_wp2
                  go_roundw
                  case rel => exact ⟨i + 1, _, by omega, by omega, by go_num, Hst.out, rfl, hBx⟩
                  case measure => simp [intOf]; omega
              · have hfin : bestF hs ws v (iota q) = acc := by
                  rw [← hacc]
                  by_cases hiq : i = q
                  · rw [hiq]
                  · exact best_stop hs ws v i (by rw [Hyl.out]; omega) q hi
                have hin := bestF_in hs ws v (iota q) none (fun j hj => by cases hj) (fun x hx => ((iota_mem q x).1 hx).1)
                change ∀ j, bestF hs ws v (iota q) = some j → _ at hin
                rw [hfin] at hin
                have hls := least_any b g nn A2 q c2 (iota q) hs v B nw cw ws wr (Hp.out.later hBi) (by omega) (Hy6.out.below hBi)
                rw [hfin] at hls
                have hB7 := hB06.out.trans (hBi.mono hB06.out.size)
                clear hfin hacc hBi
                by_cases hx : i < q
                · have hx2 : (nw : Int) ≤ (i : Int) := by omega
                  rcases acc with _ | j
                  · have hm1 : mOne none = -1 := rfl
                    rw [hm1]
                    go_wp2_with fail
                    refine hls.mono ?_
                    rintro e w8 ⟨rfl, hB8⟩
                    have hB9 := hB7.trans (hB8.mono hB7.size)
                    go_wp2
                    go_ret
                    exact ⟨rfl, hB9⟩
                  · have hm1 : mOne (some j) = j := rfl
                    have hj0 := (hin j rfl).1
                    rw [hm1]
                    go_wp2_with fail
                    refine hls.mono ?_
                    rintro e w8 ⟨rfl, hB8⟩
                    have hB9 := hB7.trans (hB8.mono hB7.size)
                    simp only [Option.getD_some, Option.isSome_some]
                    go_wp2
                    go_ret
                    exact ⟨rfl, hB9⟩
                · obtain rfl : i = q := by omega
                  rcases acc with _ | j
                  · have hm1 : mOne none = -1 := rfl
                    rw [hm1]
                    go_wp2_with fail
                    refine hls.mono ?_
                    rintro e w8 ⟨rfl, hB8⟩
                    have hB9 := hB7.trans (hB8.mono hB7.size)
                    go_wp2
                    go_ret
                    exact ⟨rfl, hB9⟩
                  · have hm1 : mOne (some j) = j := rfl
                    have hj0 := (hin j rfl).1
                    rw [hm1]
                    go_wp2_with fail
                    refine hls.mono ?_
                    rintro e w8 ⟨rfl, hB8⟩
                    have hB9 := hB7.trans (hB8.mono hB7.size)
                    simp only [Option.getD_some, Option.isSome_some]
                    go_wp2
                    go_ret
                    exact ⟨rfl, hB9⟩
end Go.Proofs.Ytnlidokfmpfepaa.Pool
