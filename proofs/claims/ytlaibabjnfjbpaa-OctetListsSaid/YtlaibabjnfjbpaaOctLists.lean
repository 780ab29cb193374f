import Derived.Test.YtlaibabjnfjbpaaOctLaws
set_option linter.unusedVariables false
set_option linter.unusedSimpArgs false
namespace Go.Proofs.Ytlaibabjnfjbpaa.Oct
open Go.RowKit Go.ChangeShapes Go.WideShapes Go.Proofs.Ytlaibabjnfjbpaa.Kit

/-- A slice of slices of bytes. -/
structure Row2 (w : World) (A : Option Addr) (n : Nat) (L : Nat → List Int) : Prop where
  most : n ≤ 9223372036854775807
  cell : ∀ j, j < n → ∃ b o B m c, A = some ⟨b, o, none⟩ ∧ w.cell? ⟨b, o + j, none⟩ = some (.slice B m c) ∧ m ≤ c ∧ Nums w .u8 B m (L j)
theorem Row2.below {w w1 : World} {A : Option Addr} {n : Nat} {L : Nat → List Int} (h : Row2 w A n L) (hb : Below w.heap.size w w1) : Row2 w1 A n L :=
  ⟨h.most, fun j hj => by
    obtain ⟨b, o, B, m, c, e, hc, hmc, hz⟩ := h.cell j hj
    exact ⟨b, o, B, m, c, e, (hb.cell (World.block_lt_of_cell? w _ hc)).trans hc, hmc, hz.below hb⟩⟩

theorem open_lists {H : Type} {enc : TypeId × Value → H} {W : World} {r : Reach} {b0 : Nat} {v : Value} {d : DataW H} {p : List MemPlace}
    (hv : Value.okWide Try.prog W r b0 50 v) (h : DataW.Trod enc Try.prog W 0 (fun _ => true) true 50 v d p) :
    ∃ (A : Option Addr) (n c : Nat) (L : Nat → List Int), v = .slice A n c ∧ Row2 W A n L := by
  obtain ⟨A, n, c, rfl⟩ := okWide_slice Try.underlying50 hv
  obtain ⟨fuel, hf⟩ := h
  have hf' : DataW.trod enc Try.prog W 0 (fun _ => true) true fuel 50 [.slice A n c] = some (d, p) := by simpa [Value.cells] using hf
  rcases Deep.open_slice1 Try.underlying50 (by kernel_rfl) hf' with ⟨hcs, _⟩ | ⟨a, len, cap, m, q, V, D, Pl, hcs, _, hl, hm, hmm, hx, hcell⟩
  · simp at hcs
    obtain ⟨rfl, rfl, rfl⟩ := hcs
    exact ⟨_, _, _, fun _ => [], rfl, ⟨by omega, fun j hj => absurd hj (by omega)⟩⟩
  · simp at hcs
    obtain ⟨rfl, rfl, rfl⟩ := hcs
    simp only [if_true] at hmm
    subst hmm
    unfold maxLen at hm
    have each : ∀ i, i < n → ∃ zs : List Int, ∃ B k e, V i = .slice B k e ∧ k ≤ e ∧ Nums W .u8 B k zs := fun i hi => by
      obtain ⟨B, k, e, zs, h1, h2, h3⟩ := trod_nums Try.underlying22 Try.underlying5 (by kernel_rfl) (hcell i (by omega)).2
      exact ⟨zs, B, k, e, h1, h2, h3⟩
    obtain ⟨L, hL⟩ := Deep.choose_lt each
    refine ⟨_, _, _, L, rfl, ⟨by omega, fun j hj => ?_⟩⟩
    obtain ⟨B, k, e, h1, h2, h3⟩ := hL j hj
    have hc := (hcell j (by omega)).1
    obtain ⟨b, o, spot⟩ := a
    have hspot : spot = none := by
      have := (hcell 0 (by omega)).1
      simpa [Addr.add] using World.cell?_spot this
    subst hspot
    rw [add_plain, h1] at hc
    exact ⟨b, o, B, k, e, rfl, hc, h2, h3⟩

def item (L : Nat → List Int) (k : Nat) : List Int := le (L k).length 2 ++ L k
def enc (L : Nat → List Int) : Nat → Nat → List Int
  | _, 0 => []
  | k, c + 1 => item L k ++ enc L (k + 1) c
theorem enc_snoc (L : Nat → List Int) (k c : Nat) : enc L k (c + 1) = enc L k c ++ item L (k + c) := by
  induction c generalizing k with
  | zero => simp [enc]
  | succ c ih =>
    rw [enc, ih (k + 1)]
    simp only [enc, List.append_assoc]
    congr 3
    omega
/-- What a reader tells of one item. -/
theorem bytes_item (x rest : List Int) (h : x.length ≤ 1000) : bytesSt false (le x.length 2 ++ x ++ rest) 1000 = (x, false, rest) := by
  have hl : (le x.length 2).length = 2 := le_len _ _
  have h2 : takeSt false (le x.length 2 ++ x ++ rest) 2 = (le x.length 2, false, x ++ rest) := by
    rw [List.append_assoc]
    unfold takeSt
    rw [if_neg (by rintro (h | h); cases h; rw [List.length_append, hl] at h; omega)]
    have e1 : (le x.length 2 ++ (x ++ rest)).take 2 = le x.length 2 := by rw [← hl]; exact List.take_left ..
    have e2 : (le x.length 2 ++ (x ++ rest)).drop 2 = x ++ rest := by
      have := List.drop_left (l₁ := le x.length 2) (l₂ := x ++ rest)
      rw [hl] at this
      exact this
    rw [e1, e2]
  have hn : num (le x.length 2) = x.length := by
    rw [num_le]
    exact Nat.mod_eq_of_lt (by omega)
  have h3 : numSt false (le x.length 2 ++ x ++ rest) 2 1000 = (x.length, false, x ++ rest) := by
    unfold numSt
    rw [h2]
    simp only
    rw [hn, if_neg (by omega)]
  unfold bytesSt
  rw [h3]
  simp only
  unfold takeSt
  rw [if_neg (by rintro (h | h); cases h; rw [List.length_append] at h; omega), List.take_left, List.drop_left]

def LRel1 (n B0 base : Nat) (w0 : World) (L : Nat → List Int) (v i : Value) (w' : World) : Prop :=
  ∃ k : Nat, k ≤ n ∧ i = .int .i64 (k : Int) ∧ OwnB w' base v (enc L 0 k) ∧ (enc L 0 k).length ≤ 1002 * k ∧ (∀ j, j < k → (L j).length ≤ 1000) ∧ IsB (enc L 0 k) ∧ Below B0 w0 w' ∧ base ≤ w'.heap.size
def LRel2 (n b B0 : Nat) (w0 : World) (L : Nat → List Int) (i : Value) (w' : World) : Prop :=
  ∃ k : Nat, k ≤ n ∧ i = .int .i64 (k : Int) ∧ Rd w' b false (enc L k (n - k)) ∧ Below B0 w0 w'

set_option maxRecDepth 100000 in
set_option maxHeartbeats 4000000 in
theorem law_lists (A : Option Addr) (n c : Nat) (L : Nat → List Int) (w : World) (hz : Row2 w A n L) :
    Calls Try.prog 10 #[.slice A n c] w fun e w' => e = .returned (.bool true) ∧ Below w.heap.size w w' := by
  have hn := hz.most
  go_enter Try.func10, Try.ntmps10
  go_wp2_with fail
  refine (awake_any w).mono ?_
  rintro e w1 ⟨rfl, hB1⟩
  by_cases hb : 20 < n
  · go_wp2_with fail
    refine (awake_any w1).mono ?_
    rintro e w2 ⟨rfl, hB2⟩
    go_wp2
    go_ret
    exact ⟨rfl, below_step hB1 hB1.size hB2⟩
  · have Hz := hid hz
    have hs1 := hB1.size
    clear hz
    go_wp2
    go_loopw [3, 4] (fun v i w' => LRel1 n w.heap.size w1.heap.size w L v i w') (fun _ i _ => n - (intOf i).toNat)
    case atStart => exact ⟨0, by omega, rfl, OwnB.nil _ _, by simp [enc], fun j hj => absurd hj (by omega), (by intro x hx; cases hx), hB1, Nat.le_refl _⟩
    case round =>
      obtain ⟨k, hk, rfl, ho, hlen, hall, hib, hB, hbs⟩ := hrel
      by_cases hlt : k < n
      · obtain ⟨b3, o3, B, m, c3, rfl, hcell0, hmc, hzL0⟩ := Hz.out.cell k hlt
        have hl3 := World.block_lt_of_cell? w _ hcell0
        have hcell : wr.cell? ⟨b3, o3 + k, none⟩ = some (.slice B m c3) := (hB.cell hl3).trans hcell0
        have hzL := hzL0.below hB
        have hmost := hzL.most
        have hkn' : (k : Int) < (n : Int) := by omega
        have hk0 : (0 : Int) ≤ (k : Int) := by omega
        have Hall := hid hall
        clear hall
        by_cases hm : 1000 < m
        · go_wp2
          go_ret
          exact ⟨rfl, hB⟩
        · have hm' : (m : Int) ≤ 1000 := by omega
          go_wp2_with fail
          refine (bytes_any w1.heap.size _ (enc L 0 k) B m c3 (L k) wr ho hbs hzL (fun hm0 a ha e => ?_) (by omega) (by omega)).mono ?_
          · have h1 := hzL0.low hm0 a ha
            have h2 := (ho.lt _ e.symm).1
            omega
          rintro e w3 ⟨v3, rfl, ho3, hg3⟩
          have hLk : (L k).length = m := hzL0.len
          have hen : enc L 0 (k + 1) = enc L 0 k ++ (le m 2 ++ L k) := by
            rw [enc_snoc, Nat.zero_add]
            unfold item
            rw [hLk]
          have hB3 : Below w.heap.size w w3 := hg3.below hB hB.size (fun j hj => Nat.le_trans hs1 (ho.lt j hj).1)
          have hbs3 := Nat.le_trans hbs hg3.grew.size
          have Hib := hid (isB_append hib (isB_append (le_isB m 2) (isB_of hzL0)))
          clear hib hg3 ho
          go_wp2
          go_roundw
          case rel =>
            refine ⟨k + 1, by omega, by go_num, by rw [hen]; exact ho3, ?_, ?_, by rw [hen]; exact Hib.out, hB3, hbs3⟩
            · rw [hen, List.length_append, List.length_append, le_len, hLk]
              omega
            · intro j hj
              rcases Nat.lt_or_ge j k with h | h
              · exact Hall.out j h
              · rw [show j = k by omega, hLk]
                omega
          case measure => simp [intOf]; omega
      · obtain rfl : n = k := by omega
        obtain ⟨Ap, cp, rfl, hcp, hzp⟩ := ho.reads hib
        have Hall := hid hall
        clear hall
        generalize (enc L 0 n).length = lp at *
        go_wp2_with fail
        refine (read_any Ap lp cp (enc L 0 n) wr hzp hcp).mono ?_
        rintro e w4 ⟨rfl, hr4, hB4⟩
        have hB4' := below_step hB hB.size hB4
        have hrs := hB.size
        have hbw := hr4.lt
        generalize wr.heap.size = b at *
        clear hzp ho hib hB4 hB
        go_wp2
        go_loopw [6] (fun i w' => LRel2 n b w.heap.size w L i w') (fun i _ => n - (intOf i).toNat)
        case atStart => exact ⟨0, by omega, rfl, by rw [Nat.sub_zero]; exact hr4, hB4'⟩
        case round =>
        clear hr4 hB4' hbw
        obtain ⟨k, hk, rfl, hr, hB⟩ := hrel
        by_cases hlt : k < n
        · obtain ⟨b3, o3, B, m, c3, rfl, hcell0, hmc, hzL0⟩ := Hz.out.cell k hlt
          have hl3 := World.block_lt_of_cell? w _ hcell0
          have hcell : wr.cell? ⟨b3, o3 + k, none⟩ = some (.slice B m c3) := (hB.cell hl3).trans hcell0
          have h31 : some b3 ≠ some b := by intro e; injection e with e; simp only at hl3; omega
          have hzLr := hzL0.below hB
          have hBb : 0 < m → ∀ a, B = some a → some a.block ≠ some b := by
            intro hm0 a ha e
            injection e with e
            have := hzL0.low hm0 a ha
            omega
          have hLk : (L k).length = m := hzL0.len
          have Hm := hid hLk
          have HLk := hid (isB_of hzL0)
          have hml : m ≤ 1000 := by rw [← hLk]; exact Hall.out k hlt
          have hcvL := conv_str (c := c3) (hzLr.drewN 1)
          obtain ⟨d, hd⟩ : ∃ d, n - k = d + 1 := ⟨n - k - 1, by omega⟩
          have hen : enc L k (n - k) = le (L k).length 2 ++ L k ++ enc L (k + 1) d := by rw [hd]; rfl
          rw [hen] at hr
          have hE : decide ((le (L k).length 2 ++ L k ++ enc L (k + 1) d).length = 0) = false := decide_eq_false (by rw [List.length_append, List.length_append, le_len]; omega)
          have HBy : Hid (∀ W, Rd W b false (le (L k).length 2 ++ L k ++ enc L (k + 1) d) → Calls Try.prog 25 #[.pointer (some ⟨b, 0, none⟩), .int .i64 1000] W fun e w' => ∃ v, e = .returned v ∧ OwnB w' W.heap.size v (L k) ∧ Rd w' b false (enc L (k + 1) d) ∧ W.grownBy w' (some b)) := by
            intro W hW
            have h := rbytes_any b false _ 1000 W hW (by omega)
            rw [bytes_item (L k) (enc L (k + 1) d) (by rw [hLk]; exact hml)] at h
            exact h
          have HEnd : Hid (∀ W, Rd W b false (le (L k).length 2 ++ L k ++ enc L (k + 1) d) → Calls Try.prog 23 #[.pointer (some ⟨b, 0, none⟩)] W fun e w' => e = .returned (.bool false) ∧ w' = W) := by
            intro W hW
            have h := end_any b false _ W hW
            rw [hE] at h
            exact h
          have Hd := hid (show n - (k + 1) = d by omega)
          have hkn' : (k : Int) < (n : Int) := by omega
          have hk0 : (0 : Int) ≤ (k : Int) := by omega
          clear hE hen hd hLk hml hzL0
          go_wp2
          refine wp_region_held_drew (S := (fun w' => w'.cell? ⟨b3, o3 + k, none⟩ = some (.slice B m c3) ∧ (convert 22 9 (.slice B m c3)).run Try.prog w' = .ok (.string (strOfNums (L k))) w')) (by kernel_rfl) ?hSnewz (fun hHeld => ?restz)
          case hSnewz => ((try dsimp only); exact ⟨hcell, hcvL⟩)
          refine wpAnyH_take (i := 0) (oi := ?oix0) (v := ?vx0) ?hox0 ?h1x0 ?h2x0 ?h3x0 ?hqx0 (Or.inl ⟨?h4x0, ?hyx0⟩) (by assumption) ?restx0
          case hox0 => (simp only [List.getElem?_toArray, List.getElem?_cons_zero, List.getElem?_cons_succ]; rfl)
          case h1x0 => kernel_rfl
          case h2x0 => kernel_rfl
          case h3x0 => kernel_rfl
          case h4x0 => rfl
          case hqx0 => exact fun _ _ _ h => h
          case hyx0 => (intro w hSw; (try dsimp only at hSw); go_simp <;> with_reducible rfl)
          (try simp only [Act.put, List.setIfInBounds_toArray, List.set_cons_zero, List.set_cons_succ])
          refine wpAnyH_ready (rs := [1]) (by kernel_rfl) (by simp) ?_
          refine AllReadyH.cons (o := ?oix1) ?hox1 (fun K hK => ?restx1) ?morex1
          case morex1 => exact AllReadyH.nil
          case hox1 => (simp only [List.getElem?_toArray, List.getElem?_cons_zero, List.getElem?_cons_succ]; rfl)
          go_simp
          refine (HEnd.out _ hr.drew).mono ?_
          rintro e w6 ⟨rfl, rfl⟩
          try go_wp2_with fail
          refine hK.out _ _ ?hSnewy1 (fun hHeld => ?resty1)
          case hSnewy1 => ((try dsimp only); exact ⟨hcell, hcvL⟩)
          clear hK K
          (try simp only [Act.put, List.setIfInBounds_toArray, List.set_cons_zero, List.set_cons_succ])
          refine wpAnyH_take (i := 2) (oi := ?oix2) (v := ?vx2) ?hox2 ?h1x2 ?h2x2 ?h3x2 ?hqx2 (Or.inl ⟨?h4x2, ?hyx2⟩) (by assumption) ?restx2
          case hox2 => (simp only [List.getElem?_toArray, List.getElem?_cons_zero, List.getElem?_cons_succ]; rfl)
          case h1x2 => kernel_rfl
          case h2x2 => kernel_rfl
          case h3x2 => kernel_rfl
          case h4x2 => rfl
          case hqx2 => exact fun _ _ _ h => h
          case hyx2 => (intro w hSw; (try dsimp only at hSw); go_simp <;> with_reducible rfl)
          (try simp only [Act.put, List.setIfInBounds_toArray, List.set_cons_zero, List.set_cons_succ])
          refine wpAnyH_take (i := 3) (oi := ?oix3) (v := ?vx3) ?hox3 ?h1x3 ?h2x3 ?h3x3 ?hqx3 (Or.inl ⟨?h4x3, ?hyx3⟩) (by assumption) ?restx3
          case hox3 => (simp only [List.getElem?_toArray, List.getElem?_cons_zero, List.getElem?_cons_succ]; rfl)
          case h1x3 => kernel_rfl
          case h2x3 => kernel_rfl
          case h3x3 => kernel_rfl
          case h4x3 => rfl
          case hqx3 => exact fun _ _ _ h => h
          case hyx3 => (intro w hSw; (try dsimp only at hSw); go_simp <;> with_reducible rfl)
          (try simp only [Act.put, List.setIfInBounds_toArray, List.set_cons_zero, List.set_cons_succ])
          refine wpAnyH_take (i := 6) (oi := ?oix6) (v := ?vx6) ?hox6 ?h1x6 ?h2x6 ?h3x6 ?hqx6 (Or.inl ⟨?h4x6, ?hyx6⟩) (by assumption) ?restx6
          case hox6 => (simp only [List.getElem?_toArray, List.getElem?_cons_zero, List.getElem?_cons_succ]; rfl)
          case h1x6 => kernel_rfl
          case h2x6 => kernel_rfl
          case h3x6 => kernel_rfl
          case h4x6 => rfl
          case hqx6 => exact fun _ _ _ h => h
          case hyx6 => (intro w hSw; (try dsimp only at hSw); go_simp <;> with_reducible rfl)
          (try simp only [Act.put, List.setIfInBounds_toArray, List.set_cons_zero, List.set_cons_succ])
          refine wpAnyH_take (i := 7) (oi := ?oix7) (v := ?vx7) ?hox7 ?h1x7 ?h2x7 ?h3x7 ?hqx7 (Or.inl ⟨?h4x7, ?hyx7⟩) (by assumption) ?restx7
          case hox7 => (simp only [List.getElem?_toArray, List.getElem?_cons_zero, List.getElem?_cons_succ]; rfl)
          case h1x7 => kernel_rfl
          case h2x7 => kernel_rfl
          case h3x7 => kernel_rfl
          case h4x7 => rfl
          case hqx7 => exact fun _ _ _ h => h
          case hyx7 => (intro w hSw; (try dsimp only at hSw); go_simp <;> with_reducible rfl)
          (try simp only [Act.put, List.setIfInBounds_toArray, List.set_cons_zero, List.set_cons_succ])
          refine wpAnyH_take (i := 8) (oi := ?oix8) (v := ?vx8) ?hox8 ?h1x8 ?h2x8 ?h3x8 ?hqx8 (Or.inl ⟨?h4x8, ?hyx8⟩) (by assumption) ?restx8
          case hox8 => (simp only [List.getElem?_toArray, List.getElem?_cons_zero, List.getElem?_cons_succ]; rfl)
          case h1x8 => kernel_rfl
          case h2x8 => kernel_rfl
          case h3x8 => kernel_rfl
          case h4x8 => rfl
          case hqx8 => exact fun _ _ _ h => h
          case hyx8 => (intro w hSw; (try dsimp only at hSw); go_simp <;> with_reducible rfl)
          (try simp only [Act.put, List.setIfInBounds_toArray, List.set_cons_zero, List.set_cons_succ])
          refine wpAnyH_take (i := 9) (oi := ?oix9) (v := ?vx9) ?hox9 ?h1x9 ?h2x9 ?h3x9 ?hqx9 (Or.inl ⟨?h4x9, ?hyx9⟩) (by assumption) ?restx9
          case hox9 => (simp only [List.getElem?_toArray, List.getElem?_cons_zero, List.getElem?_cons_succ]; rfl)
          case h1x9 => kernel_rfl
          case h2x9 => kernel_rfl
          case h3x9 => kernel_rfl
          case h4x9 => rfl
          case hqx9 => exact fun _ _ _ h => h
          case hyx9 => (intro w hSw; (try dsimp only at hSw); go_simp <;> with_reducible rfl)
          (try simp only [Act.put, List.setIfInBounds_toArray, List.set_cons_zero, List.set_cons_succ])
          refine wpAnyH_take (i := 10) (oi := ?oix10) (v := ?vx10) ?hox10 ?h1x10 ?h2x10 ?h3x10 ?hqx10 (Or.inl ⟨?h4x10, ?hyx10⟩) (by assumption) ?restx10
          case hox10 => (simp only [List.getElem?_toArray, List.getElem?_cons_zero, List.getElem?_cons_succ]; rfl)
          case h1x10 => kernel_rfl
          case h2x10 => kernel_rfl
          case h3x10 => kernel_rfl
          case h4x10 => rfl
          case hqx10 => exact fun _ _ _ h => h
          case hyx10 => (intro w hSw; (try dsimp only at hSw); go_simp <;> with_reducible rfl)
          (try simp only [Act.put, List.setIfInBounds_toArray, List.set_cons_zero, List.set_cons_succ])
          refine wpAnyH_ready (rs := [4]) (by kernel_rfl) (by simp) ?_
          refine AllReadyH.cons (o := ?oix4) ?hox4 (fun K hK => ?restx4) ?morex4
          case morex4 => exact AllReadyH.nil
          case hox4 => (simp only [List.getElem?_toArray, List.getElem?_cons_zero, List.getElem?_cons_succ]; rfl)
          go_simp
          refine (HBy.out _ hr.drew).mono ?_
          rintro e w7 ⟨v7, rfl, ho7, hr7, hg7⟩
          obtain ⟨A7, c7, e7, hc7, hz7⟩ := ho7.reads HLk.out
          rw [Hm.out] at e7 hz7
          subst e7
          have hcv7 := conv_str (c := c7) hz7
          have hcell7 : w7.cell? ⟨b3, o3 + k, none⟩ = some (.slice B m c3) := hg7.cell (w := wr.drew) hcell h31
          have hcvL7 := conv_str (c := c3) ((hzLr.drewN 1).grown hg7 hBb)
          try go_wp2_with fail
          refine hK.out _ _ ?hSnewy4 (fun hHeld => ?resty4)
          case hSnewy4 => ((try dsimp only); exact ⟨hcell7, hcvL7⟩)
          clear hK K
          (try simp only [Act.put, List.setIfInBounds_toArray, List.set_cons_zero, List.set_cons_succ])
          refine held_switch (fun w' => (w'.cell? ⟨b3, o3 + k, none⟩ = some (.slice B m c3) ∧ (convert 22 9 (.slice B m c3)).run Try.prog w' = .ok (.string (strOfNums (L k))) w') ∧ (convert 22 9 (.slice A7 m c7)).run Try.prog w' = .ok (.string (strOfNums (L k))) w') (fun w h => h.1) ?hSnewsa (fun hHeld => ?restsa)
          case hSnewsa => ((try dsimp only); exact ⟨⟨hcell7, hcvL7⟩, hcv7⟩)
          refine wpAnyH_take (i := 5) (oi := ?oix5) (v := ?vx5) ?hox5 ?h1x5 ?h2x5 ?h3x5 ?hqx5 (Or.inl ⟨?h4x5, ?hyx5⟩) (by assumption) ?restx5
          case hox5 => (simp only [List.getElem?_toArray, List.getElem?_cons_zero, List.getElem?_cons_succ]; rfl)
          case h1x5 => kernel_rfl
          case h2x5 => kernel_rfl
          case h3x5 => kernel_rfl
          case h4x5 => rfl
          case hqx5 => exact fun _ _ _ h => h
          case hyx5 => (intro w hSw; (try dsimp only at hSw); go_simp <;> with_reducible rfl)
          (try simp only [Act.put, List.setIfInBounds_toArray, List.set_cons_zero, List.set_cons_succ])
          refine wpAnyH_take (i := 11) (oi := ?oix11) (v := ?vx11) ?hox11 ?h1x11 ?h2x11 ?h3x11 ?hqx11 (Or.inl ⟨?h4x11, ?hyx11⟩) (by assumption) ?restx11
          case hox11 => (simp only [List.getElem?_toArray, List.getElem?_cons_zero, List.getElem?_cons_succ]; rfl)
          case h1x11 => kernel_rfl
          case h2x11 => kernel_rfl
          case h3x11 => kernel_rfl
          case h4x11 => rfl
          case hqx11 => exact fun _ _ _ h => h
          case hyx11 => (intro w hSw; (try dsimp only at hSw); go_simp <;> with_reducible rfl)
          (try simp only [Act.put, List.setIfInBounds_toArray, List.set_cons_zero, List.set_cons_succ])
          refine wpAnyH_take (i := 12) (oi := ?oix12) (v := ?vx12) ?hox12 ?h1x12 ?h2x12 ?h3x12 ?hqx12 (Or.inl ⟨?h4x12, ?hyx12⟩) (by assumption) ?restx12
          case hox12 => (simp only [List.getElem?_toArray, List.getElem?_cons_zero, List.getElem?_cons_succ]; rfl)
          case h1x12 => kernel_rfl
          case h2x12 => kernel_rfl
          case h3x12 => kernel_rfl
          case h4x12 => rfl
          case hqx12 => exact fun _ _ _ h => h
          case hyx12 => (intro w hSw; (try dsimp only at hSw); go_simp <;> with_reducible rfl)
          (try simp only [Act.put, List.setIfInBounds_toArray, List.set_cons_zero, List.set_cons_succ])
          refine wpAnyH_done (by kernel_rfl) ?_ _
          clear hHeld hcv7 hcell7 hcvL7 hcvL hz7 ho7
          have hB7 : Below w.heap.size w w7 := (hB.drewB 1).grown hg7 hB.size (by intro j hj; injection hj with hj; omega)
          go_wp2
          go_roundw
          case rel => exact ⟨k + 1, by omega, by go_num, by rw [Hd.out]; exact hr7, hB7⟩
          case measure => simp [intOf]; omega
        · have hd0 : n - k = 0 := by omega
          rw [hd0] at hr
          have hE : Calls Try.prog 23 #[.pointer (some ⟨b, 0, none⟩)] wr fun e w' => e = .returned (.bool true) ∧ w' = wr := end_any b false _ wr hr
          have hkn' : (n : Int) ≤ (k : Int) := by omega
          go_wp2_with fail
          refine hE.mono ?_
          rintro e w5 ⟨rfl, rfl⟩
          go_wp2
          go_ret
          exact ⟨rfl, hB⟩
end Go.Proofs.Ytlaibabjnfjbpaa.Oct
