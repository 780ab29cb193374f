import Derived.Test.YtlaibabjnfjbpaaOctRefRd
import Derived.Test.YtlaibabjnfjbpaaOctLaws
set_option linter.unusedVariables false
set_option linter.unusedSimpArgs false
namespace Go.Proofs.Ytlaibabjnfjbpaa.Oct
open Go.RowKit Go.Proofs.Ytlaibabjnfjbpaa.Kit

theorem own_block_ne {w : World} {base b n c : Nat} {A : Option Addr} {xs : List Int} (h : OwnB w base (.slice A n c) xs) {a : Addr} (ha : A = some a) (hb : b < base) : some a.block ≠ some b := by
  subst ha
  rcases h.2 with ⟨e, _⟩ | ⟨g, cap, cur, e, hg, _⟩
  · cases e
  · injection e with e
    injection e with e
    subst e
    intro e2
    injection e2 with e2
    simp only at e2
    omega
/-- The reference's reader, over a slice that is named. -/
def Rm (w : World) (b : Nat) (at' : Int) (xs : List Int) : Prop := Rr w b at' xs
theorem Rr.lt {w : World} {b : Nat} {at' : Int} {xs : List Int} (h : Rr w b at' xs) : b < w.heap.size := by
  obtain ⟨A, n, c, hb, _⟩ := h
  exact hb.lt
theorem Rd.grown {w w' : World} {b b2 : Nat} {bad : Bool} {xs : List Int} (h : Rd w b bad xs) (hg : w.grownBy w' (some b2)) (hb : b < b2) : Rd w' b bad xs := by
  obtain ⟨A, n, c, hb1, hz, hnc, hab⟩ := h
  refine ⟨A, n, c, hb1.grown hg (by intro e; injection e with e; omega), hz.grown hg (fun hn a ha e => ?_), hnc, hab⟩
  injection e with e
  have := hab hn a ha
  omega
/-- A call on the one reader leaves the other as it was. -/
theorem Rr.grown {w w' : World} {b b1 : Nat} {at' : Int} {bad : Bool} {xs ys : List Int} (h : Rr w b at' xs) (hr : Rd w b1 bad ys) (hg : w.grownBy w' (some b1)) (hb : b1 < b) : Rr w' b at' xs := by
  obtain ⟨A, n, c, hb1, hz, hnc, hn, hab⟩ := h
  obtain ⟨A2, n2, c2, hb2, _⟩ := hr
  exact ⟨A, n, c, hb1.grown hg (by intro e; injection e with e; omega), hz.grown hg (nums_ne hz hb2 (by intro y e; cases e) (by intro y e; cases e)), hnc, hn, hab⟩

theorem numSt_isB {bad : Bool} {ys : List Int} (h : IsB ys) (k most : Nat) : IsB (numSt bad ys k most).2.2 := by
  have : IsB (takeSt bad ys k).2.2 := by
    unfold takeSt
    split
    · exact h
    · exact isB_drop h k
  unfold numSt
  split
  · exact this
  · exact this
theorem takeSt_isB_bytes {bad : Bool} {ys : List Int} (h : IsB ys) (most : Nat) : IsB (bytesSt bad ys most).1 := takeSt_isB (numSt_isB h 2 most) _

set_option maxRecDepth 100000 in
set_option maxHeartbeats 4000000 in
theorem law_reads (A : Option Addr) (n c : Nat) (xs : List Int) (A1 : Option Addr) (n1 c1 : Nat) (asks : List Int) (w : World) (hz : n ≤ c ∧ Nums w .u8 A n xs) (hz1 : n1 ≤ c1 ∧ Nums w .u8 A1 n1 asks) :
    Calls Try.prog 9 #[.slice A n c, .slice A1 n1 c1] w fun e w' => e = .returned (.bool true) ∧ Below w.heap.size w w' := by
  obtain ⟨hc, hz⟩ := hz
  obtain ⟨hc1, hz1⟩ := hz1
  have hn := hz.most
  have hn1 := hz1.most
  go_enter Try.func9, Try.ntmps9
  go_wp2_with fail
  refine (awake_any w).mono ?_
  rintro e w1 ⟨rfl, hB1⟩
  by_cases hb : 1000 < n
  · go_wp2_with fail
    refine (awake_any w1).mono ?_
    rintro e w2 ⟨rfl, hB2⟩
    go_wp2
    go_ret
    exact ⟨rfl, below_step hB1 hB1.size hB2⟩
  · go_wp2_with fail
    have hzw1 := hz.below hB1
    refine (read_any A n c xs w1 hzw1 hc).mono ?_
    rintro e w2 ⟨rfl, hr2, hB2⟩
    have hB2' := below_step hB1 hB1.size hB2
    have hlt12 := hr2.lt
    have hzw2 := hz.below hB2'
    have hb1s := hB1.size
    generalize hb1 : w1.heap.size = b1 at *
    go_wp2
    have hrr : Rr (w2.alloc (.cells #[.slice A n c, .int .i64 0] 49)) w2.heap.size 0 xs := by
      have hBa := (Below.refl w2.heap.size w2).alloc (Nat.le_refl _) (.cells #[.slice A n c, .int .i64 0] 49)
      exact ⟨A, n, c, Blk.new _ _ _, hzw2.below hBa, hc, by omega, hzw2.low⟩
    have hrd : Rd (w2.alloc (.cells #[.slice A n c, .int .i64 0] 49)) b1 false xs := by
      have hBa := (Below.refl w2.heap.size w2).alloc (Nat.le_refl _) (.cells #[.slice A n c, .int .i64 0] 49)
      obtain ⟨A2, n2, c2, h1, h2, h3, h4⟩ := hr2
      exact ⟨A2, n2, c2, h1.later hBa, h2.below hBa, h3, h4⟩
    have hB3 : Below w.heap.size w (w2.alloc (.cells #[.slice A n c, .int .i64 0] 49)) := hB2'.alloc hB2'.size _
    generalize w2.alloc (.cells #[.slice A n c, .int .i64 0] 49) = w3 at *
    generalize hb2 : w2.heap.size = b2 at *
    have Hlow1 := hid hz1.low
    have Hz1 := hid hz1
    have hlen := hz.len
    clear hz hz1 hzw1 hzw2 hr2 hB2' hB2 hB1 hb1 hb2
    go_loopw [7, 8, 9] (fun i _ _ w' => ∃ (k : Nat) (bad : Bool) (ys : List Int) (at' : Int), i = .int .i64 (k : Int) ∧ k ≤ 40 ∧ Rd w' b1 bad ys ∧ Rr w' b2 at' xs ∧ Sync bad ys at' xs ∧ Below w.heap.size w w') (fun i _ _ _ => 40 - (intOf i).toNat)
    case atStart => exact ⟨0, false, xs, 0, rfl, by omega, hrd, hrr, .inr ⟨rfl, 0, rfl, by omega, rfl⟩, hB3⟩
    case round =>
      clear hrr hrd hB3
      obtain ⟨k, bad, ys, at', rfl, hk, hr, hm, hs, hB⟩ := hrel
      by_cases hlt : k < n1 ∧ k < 40
      · obtain ⟨hkn, hk40⟩ := hlt
        have hkn' : (k : Int) < (n1 : Int) := by omega
        have hk40' : (k : Int) < 40 := by omega
        obtain ⟨b3, o3, rfl, hcell0⟩ := Hz1.out.at_ k hkn
        obtain ⟨hx0, hx1⟩ := wf_u8 (Hz1.out.wf_at k hkn)
        have hl3 : b3 < w.heap.size := Hlow1.out (by omega) _ rfl
        have hcell : wr.cell? ⟨b3, o3 + k, none⟩ = some (.int .u8 (asks.getD k 0)) := (hB.cell hl3).trans hcell0
        have h31 : some b3 ≠ some b1 := by intro e; injection e with e; omega
        have h32 : some b3 ≠ some b2 := by intro e; injection e with e; omega
        generalize asks.getD k 0 = x at *
        obtain ⟨xn, rfl⟩ := Int.eq_ofNat_of_zero_le hx0
        have Hby := hid hr.isB
        have hbl := hr.lt
        by_cases h3 : xn % 3 = 0
        · have h3' : (xn : Int) % 3 = 0 := by omega
          go_wp2
          have hwx : IntKind.i64.wrap (xn : Int) = (xn : Int) := IntWalk.i64_in _ (by omega)
          have hk0 : (0 : Int) ≤ (k : Int) := by omega
          have hmlt := hm.lt
          have Hy := hid (takeSt_isB_bytes (bad := bad) hr.isB xn)
          refine wp_region_held_drew (S := (fun w' => w'.cell? ⟨b3, o3 + k, none⟩ = some (.int .u8 (xn : Int)))) (by kernel_rfl) ?hSnewz (fun hHeld => ?restz)
          case hSnewz => ((try dsimp only); exact hcell)
          refine wpAnyH_take (i := 0) (oi := ?oix0) (v := ?vx0) ?hox0 ?h1x0 ?h2x0 ?h3x0 ?hqx0 (Or.inl ⟨?h4x0, ?hyx0⟩) (by assumption) ?restx0
          case hox0 => (simp only [List.getElem?_toArray, List.getElem?_cons_zero, List.getElem?_cons_succ]; rfl)
          case h1x0 => kernel_rfl
          case h2x0 => kernel_rfl
          case h3x0 => kernel_rfl
          case h4x0 => rfl
          case hqx0 => exact fun _ _ _ h => h
          case hyx0 => (intro w hSw; (try dsimp only at hSw); go_simp <;> with_reducible rfl)
          (try simp only [Act.put, List.setIfInBounds_toArray, List.set_cons_zero, List.set_cons_succ])
          refine wpAnyH_take (i := 1) (oi := ?oix1) (v := ?vx1) ?hox1 ?h1x1 ?h2x1 ?h3x1 ?hqx1 (Or.inl ⟨?h4x1, ?hyx1⟩) (by assumption) ?restx1
          case hox1 => (simp only [List.getElem?_toArray, List.getElem?_cons_zero, List.getElem?_cons_succ]; rfl)
          case h1x1 => kernel_rfl
          case h2x1 => kernel_rfl
          case h3x1 => kernel_rfl
          case h4x1 => rfl
          case hqx1 => exact fun _ _ _ h => h
          case hyx1 => (intro w hSw; (try dsimp only at hSw); go_simp <;> with_reducible rfl)
          (try simp only [Act.put, List.setIfInBounds_toArray, List.set_cons_zero, List.set_cons_succ])
          refine wpAnyH_take (i := 2) (oi := ?oix2) (v := ?vx2) ?hox2 ?h1x2 ?h2x2 ?h3x2 ?hqx2 (Or.inl ⟨?h4x2, ?hyx2⟩) (by assumption) ?restx2
          case hox2 => (simp only [List.getElem?_toArray, List.getElem?_cons_zero, List.getElem?_cons_succ]; rfl)
          case h1x2 => kernel_rfl
          case h2x2 => kernel_rfl
          case h3x2 => kernel_rfl
          case h4x2 => rfl
          case hqx2 => exact fun _ _ _ h => h
          case hyx2 => (intro w hSw; (try dsimp only at hSw); go_simp <;> with_reducible rfl)
          (try simp only [Act.put, List.setIfInBounds_toArray, List.set_cons_zero, List.set_cons_succ])
          refine wpAnyH_take (i := 3) (oi := ?oix3) (v := ?vx3) ?hox3 ?h1x3 ?h2x3 ?h3x3 ?hqx3 (Or.inl ⟨?h4x3, ?hyx3⟩) (by assumption) ?restx3
          case hox3 => (simp only [List.getElem?_toArray, List.getElem?_cons_zero, List.getElem?_cons_succ]; rfl)
          case h1x3 => kernel_rfl
          case h2x3 => kernel_rfl
          case h3x3 => kernel_rfl
          case h4x3 => rfl
          case hqx3 => exact fun _ _ _ h => h
          case hyx3 => (intro w hSw; (try dsimp only at hSw); go_simp <;> with_reducible rfl)
          (try simp only [Act.put, List.setIfInBounds_toArray, List.set_cons_zero, List.set_cons_succ])
          refine wpAnyH_take (i := 4) (oi := ?oix4) (v := ?vx4) ?hox4 ?h1x4 ?h2x4 ?h3x4 ?hqx4 (Or.inl ⟨?h4x4, ?hyx4⟩) (by assumption) ?restx4
          case hox4 => (simp only [List.getElem?_toArray, List.getElem?_cons_zero, List.getElem?_cons_succ]; rfl)
          case h1x4 => kernel_rfl
          case h2x4 => kernel_rfl
          case h3x4 => kernel_rfl
          case h4x4 => rfl
          case hqx4 => exact fun _ _ _ h => h
          case hyx4 => (intro w hSw; (try dsimp only at hSw); go_simp <;> with_reducible rfl)
          (try simp only [Act.put, List.setIfInBounds_toArray, List.set_cons_zero, List.set_cons_succ])
          refine wpAnyH_take (i := 5) (oi := ?oix5) (v := ?vx5) ?hox5 ?h1x5 ?h2x5 ?h3x5 ?hqx5 (Or.inl ⟨?h4x5, ?hyx5⟩) (by assumption) ?restx5
          case hox5 => (simp only [List.getElem?_toArray, List.getElem?_cons_zero, List.getElem?_cons_succ]; rfl)
          case h1x5 => kernel_rfl
          case h2x5 => kernel_rfl
          case h3x5 => kernel_rfl
          case h4x5 => rfl
          case hqx5 => exact fun _ _ _ h => h
          case hyx5 => (intro w hSw; (try dsimp only at hSw); go_simp <;> with_reducible rfl)
          (try simp only [Act.put, List.setIfInBounds_toArray, List.set_cons_zero, List.set_cons_succ])
          refine wpAnyH_take (i := 8) (oi := ?oix8) (v := ?vx8) ?hox8 ?h1x8 ?h2x8 ?h3x8 ?hqx8 (Or.inl ⟨?h4x8, ?hyx8⟩) (by assumption) ?restx8
          case hox8 => (simp only [List.getElem?_toArray, List.getElem?_cons_zero, List.getElem?_cons_succ]; rfl)
          case h1x8 => kernel_rfl
          case h2x8 => kernel_rfl
          case h3x8 => kernel_rfl
          case h4x8 => rfl
          case hqx8 => exact fun _ _ _ h => h
          case hyx8 => (intro w hSw; (try dsimp only at hSw); go_simp <;> with_reducible rfl)
          (try simp only [Act.put, List.setIfInBounds_toArray, List.set_cons_zero, List.set_cons_succ])
          refine wpAnyH_take (i := 9) (oi := ?oix9) (v := ?vx9) ?hox9 ?h1x9 ?h2x9 ?h3x9 ?hqx9 (Or.inl ⟨?h4x9, ?hyx9⟩) (by assumption) ?restx9
          case hox9 => (simp only [List.getElem?_toArray, List.getElem?_cons_zero, List.getElem?_cons_succ]; rfl)
          case h1x9 => kernel_rfl
          case h2x9 => kernel_rfl
          case h3x9 => kernel_rfl
          case h4x9 => rfl
          case hqx9 => exact fun _ _ _ h => h
          case hyx9 => (intro w hSw; (try dsimp only at hSw); go_simp <;> with_reducible rfl)
          (try simp only [Act.put, List.setIfInBounds_toArray, List.set_cons_zero, List.set_cons_succ])
          refine wpAnyH_take (i := 10) (oi := ?oix10) (v := ?vx10) ?hox10 ?h1x10 ?h2x10 ?h3x10 ?hqx10 (Or.inl ⟨?h4x10, ?hyx10⟩) (by assumption) ?restx10
          case hox10 => (simp only [List.getElem?_toArray, List.getElem?_cons_zero, List.getElem?_cons_succ]; rfl)
          case h1x10 => kernel_rfl
          case h2x10 => kernel_rfl
          case h3x10 => kernel_rfl
          case h4x10 => rfl
          case hqx10 => exact fun _ _ _ h => h
          case hyx10 => (intro w hSw; (try dsimp only at hSw); go_simp <;> with_reducible rfl)
          (try simp only [Act.put, List.setIfInBounds_toArray, List.set_cons_zero, List.set_cons_succ])
          refine wpAnyH_take (i := 11) (oi := ?oix11) (v := ?vx11) ?hox11 ?h1x11 ?h2x11 ?h3x11 ?hqx11 (Or.inl ⟨?h4x11, ?hyx11⟩) (by assumption) ?restx11
          case hox11 => (simp only [List.getElem?_toArray, List.getElem?_cons_zero, List.getElem?_cons_succ]; rfl)
          case h1x11 => kernel_rfl
          case h2x11 => kernel_rfl
          case h3x11 => kernel_rfl
          case h4x11 => rfl
          case hqx11 => exact fun _ _ _ h => h
          case hyx11 => (intro w hSw; (try dsimp only at hSw); go_simp <;> with_reducible rfl)
          (try simp only [Act.put, List.setIfInBounds_toArray, List.set_cons_zero, List.set_cons_succ])
          refine wpAnyH_take (i := 12) (oi := ?oix12) (v := ?vx12) ?hox12 ?h1x12 ?h2x12 ?h3x12 ?hqx12 (Or.inl ⟨?h4x12, ?hyx12⟩) (by assumption) ?restx12
          case hox12 => (simp only [List.getElem?_toArray, List.getElem?_cons_zero, List.getElem?_cons_succ]; rfl)
          case h1x12 => kernel_rfl
          case h2x12 => kernel_rfl
          case h3x12 => kernel_rfl
          case h4x12 => rfl
          case hqx12 => exact fun _ _ _ h => h
          case hyx12 => (intro w hSw; (try dsimp only at hSw); go_simp <;> with_reducible rfl)
          (try simp only [Act.put, List.setIfInBounds_toArray, List.set_cons_zero, List.set_cons_succ])
          refine wpAnyH_take (i := 13) (oi := ?oix13) (v := ?vx13) ?hox13 ?h1x13 ?h2x13 ?h3x13 ?hqx13 (Or.inl ⟨?h4x13, ?hyx13⟩) (by assumption) ?restx13
          case hox13 => (simp only [List.getElem?_toArray, List.getElem?_cons_zero, List.getElem?_cons_succ]; rfl)
          case h1x13 => kernel_rfl
          case h2x13 => kernel_rfl
          case h3x13 => kernel_rfl
          case h4x13 => rfl
          case hqx13 => exact fun _ _ _ h => h
          case hyx13 => (intro w hSw; (try dsimp only at hSw); go_simp <;> with_reducible rfl)
          (try simp only [Act.put, List.setIfInBounds_toArray, List.set_cons_zero, List.set_cons_succ])
          refine wpAnyH_ready (rs := [6]) (by kernel_rfl) (by simp) ?_
          refine AllReadyH.cons (o := ?oix6) ?hox6 (fun K hK => ?restx6) ?morex6
          case morex6 => exact AllReadyH.nil
          case hox6 => (simp only [List.getElem?_toArray, List.getElem?_cons_zero, List.getElem?_cons_succ]; rfl)
          go_simp
          refine (rbytes_any b1 bad ys xn _ (hr.drew) (by omega)).mono ?_
          rintro e w6 ⟨v6, rfl, ho6, hr6, hg6⟩
          obtain ⟨A6, c6, e6, hc6, hz6⟩ := ho6.reads Hy.out
          generalize hn6 : (bytesSt bad ys xn).1.length = n6 at *
          subst e6
          have hcv6 := conv_str (c := c6) hz6
          have hm6 := Rr.grown (hm.drewN 1) (hr.drewN 1) hg6 hlt12
          have hc6' : w6.cell? ⟨b3, o3 + k, none⟩ = some (.int .u8 (xn : Int)) := hg6.cell (w := wr.drew) hcell h31
          try go_wp2_with fail
          refine hK.out _ _ ?hSnewy6 (fun hHeld => ?resty6)
          case hSnewy6 => ((try dsimp only); exact hc6')
          clear hK K
          (try simp only [Act.put, List.setIfInBounds_toArray, List.set_cons_zero, List.set_cons_succ])
          refine held_switch (fun w' => w'.cell? ⟨b3, o3 + k, none⟩ = some (.int .u8 (xn : Int)) ∧ (convert 22 9 (.slice A6 n6 c6)).run Try.prog w' = .ok (.string (strOfNums (bytesSt bad ys xn).1)) w') (fun w h => h.1) ?hSnewsa (fun hHeld => ?restsa)
          case hSnewsa => ((try dsimp only); exact ⟨hc6', hcv6⟩)
          refine wpAnyH_take (i := 7) (oi := ?oix7) (v := ?vx7) ?hox7 ?h1x7 ?h2x7 ?h3x7 ?hqx7 (Or.inl ⟨?h4x7, ?hyx7⟩) (by assumption) ?restx7
          case hox7 => (simp only [List.getElem?_toArray, List.getElem?_cons_zero, List.getElem?_cons_succ]; rfl)
          case h1x7 => kernel_rfl
          case h2x7 => kernel_rfl
          case h3x7 => kernel_rfl
          case h4x7 => rfl
          case hqx7 => exact fun _ _ _ h => h
          case hyx7 => (intro w hSw; (try dsimp only at hSw); go_simp <;> with_reducible rfl)
          (try simp only [Act.put, List.setIfInBounds_toArray, List.set_cons_zero, List.set_cons_succ])
          refine wpAnyH_ready (rs := [14]) (by kernel_rfl) (by simp) ?_
          refine AllReadyH.cons (o := ?oix14) ?hox14 (fun K hK => ?restx14) ?morex14
          case morex14 => exact AllReadyH.nil
          case hox14 => (simp only [List.getElem?_toArray, List.getElem?_cons_zero, List.getElem?_cons_succ]; rfl)
          go_simp
          refine (rrbytes_any b2 at' xs ys bad xn _ hm6 (by omega) hs Hby.out).mono ?_
          rintro e w7 ⟨A7, n7, c7, rfl, hz7, hg7, at2, hm7, hs7⟩
          have hcv7 := conv_str (c := c7) hz7
          have hz6' := hz6.grown hg7 (fun hn a ha => own_block_ne ho6 ha hmlt)
          have hcv6' := conv_str (c := c6) hz6'
          have hr7 := Rd.grown hr6 hg7 hlt12
          have hc7' : w7.cell? ⟨b3, o3 + k, none⟩ = some (.int .u8 (xn : Int)) := hg7.cell (w := w6) hc6' h32
          try go_wp2_with fail
          refine hK.out _ _ ?hSnewy14 (fun hHeld => ?resty14)
          case hSnewy14 => ((try dsimp only); exact ⟨hc7', hcv6'⟩)
          clear hK K
          (try simp only [Act.put, List.setIfInBounds_toArray, List.set_cons_zero, List.set_cons_succ])
          refine held_switch (fun w' => w'.cell? ⟨b3, o3 + k, none⟩ = some (.int .u8 (xn : Int)) ∧ (convert 22 9 (.slice A6 n6 c6)).run Try.prog w' = .ok (.string (strOfNums (bytesSt bad ys xn).1)) w' ∧ (convert 22 9 (.slice A7 n7 c7)).run Try.prog w' = .ok (.string (strOfNums (bytesSt bad ys xn).1)) w') (fun w h => ⟨h.1, h.2.1⟩) ?hSnewsb (fun hHeld => ?restsb)
          case hSnewsb => ((try dsimp only); exact ⟨hc7', hcv6', hcv7⟩)
          refine wpAnyH_take (i := 15) (oi := ?oix15) (v := ?vx15) ?hox15 ?h1x15 ?h2x15 ?h3x15 ?hqx15 (Or.inl ⟨?h4x15, ?hyx15⟩) (by assumption) ?restx15
          case hox15 => (simp only [List.getElem?_toArray, List.getElem?_cons_zero, List.getElem?_cons_succ]; rfl)
          case h1x15 => kernel_rfl
          case h2x15 => kernel_rfl
          case h3x15 => kernel_rfl
          case h4x15 => rfl
          case hqx15 => exact fun _ _ _ h => h
          case hyx15 => (intro w hSw; (try dsimp only at hSw); go_simp <;> with_reducible rfl)
          (try simp only [Act.put, List.setIfInBounds_toArray, List.set_cons_zero, List.set_cons_succ])
          refine wpAnyH_take (i := 16) (oi := ?oix16) (v := ?vx16) ?hox16 ?h1x16 ?h2x16 ?h3x16 ?hqx16 (Or.inl ⟨?h4x16, ?hyx16⟩) (by assumption) ?restx16
          case hox16 => (simp only [List.getElem?_toArray, List.getElem?_cons_zero, List.getElem?_cons_succ]; rfl)
          case h1x16 => kernel_rfl
          case h2x16 => kernel_rfl
          case h3x16 => kernel_rfl
          case h4x16 => rfl
          case hqx16 => exact fun _ _ _ h => h
          case hyx16 => (intro w hSw; (try dsimp only at hSw); go_simp <;> with_reducible rfl)
          (try simp only [Act.put, List.setIfInBounds_toArray, List.set_cons_zero, List.set_cons_succ])
          refine wpAnyH_take (i := 17) (oi := ?oix17) (v := ?vx17) ?hox17 ?h1x17 ?h2x17 ?h3x17 ?hqx17 (Or.inl ⟨?h4x17, ?hyx17⟩) (by assumption) ?restx17
          case hox17 => (simp only [List.getElem?_toArray, List.getElem?_cons_zero, List.getElem?_cons_succ]; rfl)
          case h1x17 => kernel_rfl
          case h2x17 => kernel_rfl
          case h3x17 => kernel_rfl
          case h4x17 => rfl
          case hqx17 => exact fun _ _ _ h => h
          case hyx17 => (intro w hSw; (try dsimp only at hSw); go_simp <;> with_reducible rfl)
          (try simp only [Act.put, List.setIfInBounds_toArray, List.set_cons_zero, List.set_cons_succ])
          refine wpAnyH_done (by kernel_rfl) ?_ _
          clear hwx hHeld hcv6 hcv7 hcv6' hz6 hz6' hz7 ho6 hr6 hm6 hc6' hc7' Hy
          have hB7 : Below w.heap.size w w7 := by
            have h1 := (hB.drewB 1).grown hg6 hB.size (by intro k hk; injection hk with hk; omega)
            exact h1.grown hg7 h1.size (by intro k hk; injection hk with hk; omega)
          clear hg6 hg7 hcell hr hm hs
          have HBad : ∀ q, Calls Try.prog 22 #[.pointer (some ⟨b1, 0, none⟩)] (w7.drewN q) fun e w' => e = .returned (.bool (bytesSt bad ys xn).2.1) ∧ w' = w7.drewN q := fun q => bad_any b1 _ _ _ (hr7.drewN q)
          have HEnd : ∀ q, Calls Try.prog 23 #[.pointer (some ⟨b1, 0, none⟩)] (w7.drewN q) fun e w' => e = .returned (.bool (!(bytesSt bad ys xn).2.1 && decide ((bytesSt bad ys xn).2.2.length = 0))) ∧ w' = w7.drewN q := fun q => end_any b1 _ _ _ (hr7.drewN q)
          generalize (bytesSt bad ys xn).2.1 = bad2 at *
          generalize (bytesSt bad ys xn).2.2 = ys2 at *
          have Hs7 := hid hs7
          have Hr7 := hid hr7
          have Hm7 := hid hm7
          obtain ⟨_, _, _, hblk7, _⟩ := hm7
          have hat := hblk7.cell 1
          simp only [List.getElem?_toArray, List.getElem?_cons_zero, List.getElem?_cons_succ] at hat
          clear hr7 hblk7
          rcases hs7 with ⟨rfl, rfl⟩ | ⟨rfl, a, rfl, ha, rfl⟩
          · have E1 : ((-1 : Int) == (n : Int)) = false := beq_eq_false_iff_ne.2 (by omega)
            go_wp2
            go_quiet ((first | (go_at_call 22; with_reducible exact Calls.quiet_of_same (HBad _)) | (go_at_call 23; with_reducible exact Calls.quiet_of_same (HEnd _))))
            clear HBad HEnd
            go_wp2
            go_roundw
            case rel => exact ⟨k + 1, _, _, _, by go_num, by omega, Hr7.out.drewN _, Hm7.out.drewN _, Hs7.out, hB7.drewB _⟩
            case measure => simp [intOf]; omega
          · have E0 : decide ((a : Int) < 0) = false := decide_eq_false (by omega)
            by_cases han : a = n
            · have E1 : ((a : Int) == (n : Int)) = true := by rw [han]; simp
              have E2 : decide ((xs.drop a).length = 0) = true := decide_eq_true (by rw [List.length_drop]; omega)
              rw [E2] at HEnd
              clear han E2
              go_wp2
              go_quiet ((first | (go_at_call 22; with_reducible exact Calls.quiet_of_same (HBad _)) | (go_at_call 23; with_reducible exact Calls.quiet_of_same (HEnd _))))
              clear HBad HEnd
              go_wp2
              go_roundw
              case rel => exact ⟨k + 1, _, _, _, by go_num, by omega, Hr7.out.drewN _, Hm7.out.drewN _, Hs7.out, hB7.drewB _⟩
              case measure => simp [intOf]; omega
            · have E1 : ((a : Int) == (n : Int)) = false := beq_eq_false_iff_ne.2 (by omega)
              have E2 : decide ((xs.drop a).length = 0) = false := decide_eq_false (by rw [List.length_drop]; omega)
              rw [E2] at HEnd
              clear han E2
              go_wp2
              go_quiet ((first | (go_at_call 22; with_reducible exact Calls.quiet_of_same (HBad _)) | (go_at_call 23; with_reducible exact Calls.quiet_of_same (HEnd _))))
              clear HBad HEnd
              go_wp2
              go_roundw
              case rel => exact ⟨k + 1, _, _, _, by go_num, by omega, Hr7.out.drewN _, Hm7.out.drewN _, Hs7.out, hB7.drewB _⟩
              case measure => simp [intOf]; omega
        · have h3' : ¬ (xn : Int) % 3 = 0 := by omega
          obtain ⟨k9, hk9⟩ : ∃ k9, k9 = xn % 9 := ⟨_, rfl⟩
          have e9 : (xn : Int) % 9 = (k9 : Int) := by rw [hk9]; rfl
          have hk8 : k9 ≤ 8 := by omega
          clear hk9
          by_cases h2 : xn % 2 = 0
          · have h2' : (xn : Int) % 2 = 0 := by omega
            have HN : ∀ W, Rd W b1 bad ys → Calls Try.prog 24 #[.pointer (some ⟨b1, 0, none⟩), .int .i64 (k9 : Int), .int .u64 (xn : Int)] W fun e w' => e = .returned (.int .u64 ((numSt bad ys k9 xn).1 : Nat)) ∧ Rd w' b1 (numSt bad ys k9 xn).2.1 (numSt bad ys k9 xn).2.2 ∧ W.grownBy w' (some b1) := fun W h => num_any b1 bad ys k9 xn W h hk8 (by omega)
            have HM : ∀ W, Rr W b2 at' xs → Calls Try.prog 28 #[.pointer (some ⟨b2, 0, none⟩), .int .i64 (k9 : Int), .int .u64 (xn : Int)] W fun e w' => e = .returned (.int .u64 ((numSt bad ys k9 xn).1 : Nat)) ∧ W.grownBy w' (some b2) ∧ ∃ at2, Rr w' b2 at2 xs ∧ Sync (numSt bad ys k9 xn).2.1 (numSt bad ys k9 xn).2.2 at2 xs := fun W h => rnum_any b2 at' xs ys bad k9 xn W h hk8 (by omega) hs
            generalize numSt bad ys k9 xn = ns at *
            have HHN := hid HN
            have HHM := hid HM
            clear HN HM
            go_wp2
            have hwx : IntKind.i64.wrap (xn : Int) = (xn : Int) := IntWalk.i64_in _ (by omega)
            have hwk : IntKind.i64.wrap (k9 : Int) = (k9 : Int) := IntWalk.i64_in _ (by omega)
            have e9t : (xn : Int).tmod 9 = (k9 : Int) := by rw [← e9]; exact IntWalk.rem_in _ _ (by omega)
            have hk0 : (0 : Int) ≤ (k : Int) := by omega
            go_region_held3 (fun w' => w'.cell? ⟨b3, o3 + k, none⟩ = some (.int .u8 (xn : Int))) (first | exact hg7.cell (w := w6) hc6' h32 | exact hg6.cell (w := wr.drew) hcell h31 | exact hcell)
              (first
               | (((with_reducible refine (HHM.out _ ?hz).mono ?_); (case hz => exact hm6); rintro e w7 ⟨rfl, hg7, at2, hm7, hs7⟩; have hr7 := Rd.grown hr6 hg7 hlt12))
               | (((with_reducible refine (HHN.out _ ?hz).mono ?_); (case hz => exact hr.drew); rintro e w6 ⟨rfl, hr6, hg6⟩; have hm6 := Rr.grown (hm.drewN 1) (hr.drewN 1) hg6 hlt12; have hc6' : w6.cell? ⟨b3, o3 + k, none⟩ = some (.int .u8 (xn : Int)) := hg6.cell (w := wr.drew) hcell h31)))
            clear hwx hwk e9t HHN HHM hr6 hm6 hc6'
            have hB7 : Below w.heap.size w w7 := by
              have h1 := (hB.drewB 1).grown hg6 hB.size (by intro k hk; injection hk with hk; omega)
              exact h1.grown hg7 h1.size (by intro k hk; injection hk with hk; omega)
            clear hg6 hg7 hcell hr hm hs
            have HBad : ∀ q, Calls Try.prog 22 #[.pointer (some ⟨b1, 0, none⟩)] (w7.drewN q) fun e w' => e = .returned (.bool ns.2.1) ∧ w' = w7.drewN q := fun q => bad_any b1 _ _ _ (hr7.drewN q)
            have HEnd : ∀ q, Calls Try.prog 23 #[.pointer (some ⟨b1, 0, none⟩)] (w7.drewN q) fun e w' => e = .returned (.bool (!ns.2.1 && decide (ns.2.2.length = 0))) ∧ w' = w7.drewN q := fun q => end_any b1 _ _ _ (hr7.drewN q)
            generalize ns.2.1 = bad2 at *
            generalize ns.2.2 = ys2 at *
            have Hs7 := hid hs7
            have Hr7 := hid hr7
            have Hm7 := hid hm7
            obtain ⟨_, _, _, hblk7, _⟩ := hm7
            have hat := hblk7.cell 1
            simp only [List.getElem?_toArray, List.getElem?_cons_zero, List.getElem?_cons_succ] at hat
            clear hr7 hblk7
            rcases hs7 with ⟨rfl, rfl⟩ | ⟨rfl, a, rfl, ha, rfl⟩
            · have E1 : ((-1 : Int) == (n : Int)) = false := beq_eq_false_iff_ne.2 (by omega)
              go_wp2
              go_quiet ((first | (go_at_call 22; with_reducible exact Calls.quiet_of_same (HBad _)) | (go_at_call 23; with_reducible exact Calls.quiet_of_same (HEnd _))))
              clear HBad HEnd
              go_wp2
              go_roundw
              case rel => exact ⟨k + 1, _, _, _, by go_num, by omega, Hr7.out.drewN _, Hm7.out.drewN _, Hs7.out, hB7.drewB _⟩
              case measure => simp [intOf]; omega
            · have E0 : decide ((a : Int) < 0) = false := decide_eq_false (by omega)
              by_cases han : a = n
              · have E1 : ((a : Int) == (n : Int)) = true := by rw [han]; simp
                have E2 : decide ((xs.drop a).length = 0) = true := decide_eq_true (by rw [List.length_drop]; omega)
                rw [E2] at HEnd
                clear han E2
                go_wp2
                go_quiet ((first | (go_at_call 22; with_reducible exact Calls.quiet_of_same (HBad _)) | (go_at_call 23; with_reducible exact Calls.quiet_of_same (HEnd _))))
                clear HBad HEnd
                go_wp2
                go_roundw
                case rel => exact ⟨k + 1, _, _, _, by go_num, by omega, Hr7.out.drewN _, Hm7.out.drewN _, Hs7.out, hB7.drewB _⟩
                case measure => simp [intOf]; omega
              · have E1 : ((a : Int) == (n : Int)) = false := beq_eq_false_iff_ne.2 (by omega)
                have E2 : decide ((xs.drop a).length = 0) = false := decide_eq_false (by rw [List.length_drop]; omega)
                rw [E2] at HEnd
                clear han E2
                go_wp2
                go_quiet ((first | (go_at_call 22; with_reducible exact Calls.quiet_of_same (HBad _)) | (go_at_call 23; with_reducible exact Calls.quiet_of_same (HEnd _))))
                clear HBad HEnd
                go_wp2
                go_roundw
                case rel => exact ⟨k + 1, _, _, _, by go_num, by omega, Hr7.out.drewN _, Hm7.out.drewN _, Hs7.out, hB7.drewB _⟩
                case measure => simp [intOf]; omega
          · have h2' : ¬ (xn : Int) % 2 = 0 := by omega
            have HN : ∀ W, Rd W b1 bad ys → Calls Try.prog 24 #[.pointer (some ⟨b1, 0, none⟩), .int .i64 (k9 : Int), .int .u64 18446744073709551615] W fun e w' => e = .returned (.int .u64 ((numSt bad ys k9 18446744073709551615).1 : Nat)) ∧ Rd w' b1 (numSt bad ys k9 18446744073709551615).2.1 (numSt bad ys k9 18446744073709551615).2.2 ∧ W.grownBy w' (some b1) := fun W h => num_any b1 bad ys k9 18446744073709551615 W h hk8 (by omega)
            have HM : ∀ W, Rr W b2 at' xs → Calls Try.prog 28 #[.pointer (some ⟨b2, 0, none⟩), .int .i64 (k9 : Int), .int .u64 18446744073709551615] W fun e w' => e = .returned (.int .u64 ((numSt bad ys k9 18446744073709551615).1 : Nat)) ∧ W.grownBy w' (some b2) ∧ ∃ at2, Rr w' b2 at2 xs ∧ Sync (numSt bad ys k9 18446744073709551615).2.1 (numSt bad ys k9 18446744073709551615).2.2 at2 xs := fun W h => rnum_any b2 at' xs ys bad k9 18446744073709551615 W h hk8 (by omega) hs
            generalize numSt bad ys k9 18446744073709551615 = ns at *
            have HHN := hid HN
            have HHM := hid HM
            clear HN HM
            go_wp2
            have hwx : IntKind.i64.wrap (xn : Int) = (xn : Int) := IntWalk.i64_in _ (by omega)
            have hwk : IntKind.i64.wrap (k9 : Int) = (k9 : Int) := IntWalk.i64_in _ (by omega)
            have e9t : (xn : Int).tmod 9 = (k9 : Int) := by rw [← e9]; exact IntWalk.rem_in _ _ (by omega)
            have hk0 : (0 : Int) ≤ (k : Int) := by omega
            go_region_held3 (fun w' => w'.cell? ⟨b3, o3 + k, none⟩ = some (.int .u8 (xn : Int))) (first | exact hg7.cell (w := w6) hc6' h32 | exact hg6.cell (w := wr.drew) hcell h31 | exact hcell)
              (first
               | (((with_reducible refine (HHM.out _ ?hz).mono ?_); (case hz => exact hm6); rintro e w7 ⟨rfl, hg7, at2, hm7, hs7⟩; have hr7 := Rd.grown hr6 hg7 hlt12))
               | (((with_reducible refine (HHN.out _ ?hz).mono ?_); (case hz => exact hr.drew); rintro e w6 ⟨rfl, hr6, hg6⟩; have hm6 := Rr.grown (hm.drewN 1) (hr.drewN 1) hg6 hlt12; have hc6' : w6.cell? ⟨b3, o3 + k, none⟩ = some (.int .u8 (xn : Int)) := hg6.cell (w := wr.drew) hcell h31)))
            clear hwx hwk e9t HHN HHM hr6 hm6 hc6'
            have hB7 : Below w.heap.size w w7 := by
              have h1 := (hB.drewB 1).grown hg6 hB.size (by intro k hk; injection hk with hk; omega)
              exact h1.grown hg7 h1.size (by intro k hk; injection hk with hk; omega)
            clear hg6 hg7 hcell hr hm hs
            have HBad : ∀ q, Calls Try.prog 22 #[.pointer (some ⟨b1, 0, none⟩)] (w7.drewN q) fun e w' => e = .returned (.bool ns.2.1) ∧ w' = w7.drewN q := fun q => bad_any b1 _ _ _ (hr7.drewN q)
            have HEnd : ∀ q, Calls Try.prog 23 #[.pointer (some ⟨b1, 0, none⟩)] (w7.drewN q) fun e w' => e = .returned (.bool (!ns.2.1 && decide (ns.2.2.length = 0))) ∧ w' = w7.drewN q := fun q => end_any b1 _ _ _ (hr7.drewN q)
            generalize ns.2.1 = bad2 at *
            generalize ns.2.2 = ys2 at *
            have Hs7 := hid hs7
            have Hr7 := hid hr7
            have Hm7 := hid hm7
            obtain ⟨_, _, _, hblk7, _⟩ := hm7
            have hat := hblk7.cell 1
            simp only [List.getElem?_toArray, List.getElem?_cons_zero, List.getElem?_cons_succ] at hat
            clear hr7 hblk7
            rcases hs7 with ⟨rfl, rfl⟩ | ⟨rfl, a, rfl, ha, rfl⟩
            · have E1 : ((-1 : Int) == (n : Int)) = false := beq_eq_false_iff_ne.2 (by omega)
              go_wp2
              go_quiet ((first | (go_at_call 22; with_reducible exact Calls.quiet_of_same (HBad _)) | (go_at_call 23; with_reducible exact Calls.quiet_of_same (HEnd _))))
              clear HBad HEnd
              go_wp2
              go_roundw
              case rel => exact ⟨k + 1, _, _, _, by go_num, by omega, Hr7.out.drewN _, Hm7.out.drewN _, Hs7.out, hB7.drewB _⟩
              case measure => simp [intOf]; omega
            · have E0 : decide ((a : Int) < 0) = false := decide_eq_false (by omega)
              by_cases han : a = n
              · have E1 : ((a : Int) == (n : Int)) = true := by rw [han]; simp
                have E2 : decide ((xs.drop a).length = 0) = true := decide_eq_true (by rw [List.length_drop]; omega)
                rw [E2] at HEnd
                clear han E2
                go_wp2
                go_quiet ((first | (go_at_call 22; with_reducible exact Calls.quiet_of_same (HBad _)) | (go_at_call 23; with_reducible exact Calls.quiet_of_same (HEnd _))))
                clear HBad HEnd
                go_wp2
                go_roundw
                case rel => exact ⟨k + 1, _, _, _, by go_num, by omega, Hr7.out.drewN _, Hm7.out.drewN _, Hs7.out, hB7.drewB _⟩
                case measure => simp [intOf]; omega
              · have E1 : ((a : Int) == (n : Int)) = false := beq_eq_false_iff_ne.2 (by omega)
                have E2 : decide ((xs.drop a).length = 0) = false := decide_eq_false (by rw [List.length_drop]; omega)
                rw [E2] at HEnd
                clear han E2
                go_wp2
                go_quiet ((first | (go_at_call 22; with_reducible exact Calls.quiet_of_same (HBad _)) | (go_at_call 23; with_reducible exact Calls.quiet_of_same (HEnd _))))
                clear HBad HEnd
                go_wp2
                go_roundw
                case rel => exact ⟨k + 1, _, _, _, by go_num, by omega, Hr7.out.drewN _, Hm7.out.drewN _, Hs7.out, hB7.drewB _⟩
                case measure => simp [intOf]; omega
      · by_cases h : k < n1
        · have h1 : (k : Int) < (n1 : Int) := by omega
          have h2 : (40 : Int) ≤ (k : Int) := by omega
          go_wp2
          all_goals
            go_ret
            exact ⟨rfl, hB⟩
        · have h1 : (n1 : Int) ≤ (k : Int) := by omega
          go_wp2
          all_goals
            go_ret
            exact ⟨rfl, hB⟩
end Go.Proofs.Ytlaibabjnfjbpaa.Oct
