import Derived.Test.YtcfildbgnjhjmaaNandSet
import Derived.BigQuiet
import Derived.Deep.QuietTactic
import Derived.Deep.RegionHeld3
import Derived.Laws.CopyOwn
set_option linter.unusedVariables false
set_option linter.unusedSimpArgs false
namespace Go.Proofs.Ytcfildbgnjhjmaa.Nand
open Go.RowKit Go.Proofs.Ytcfildbgnjhjmaa.Kit Go.ChangeShapes

theorem mul_any (w : World) : Calls Try.prog 92 #[.int .u64 1, .int .u64 96] w fun e w' => e = .returned (.tuple #[.int .u64 0, .int .u64 96]) ∧ w' = w := by
  go_enter Try.func92, Try.ntmps92
  go_wp2_with go_in
  go_ret2
  exact ⟨rfl, rfl⟩

def fillN (m : Nat) : List Value := List.replicate m (Value.int .u8 255) ++ List.replicate (96 - m) (Value.int .u8 0)
theorem fillN_len (m : Nat) (h : m ≤ 96) : (fillN m).length = 96 := by unfold fillN; simp; omega
theorem fillN_all : fillN 96 = List.replicate 96 (Value.int .u8 255) := by unfold fillN; simp
theorem fillN_splice (m k : Nat) (h : m + k ≤ 96) : splice (fillN m) m (List.replicate k (Value.int .u8 255)) = fillN (m + k) := by
  unfold splice fillN
  rw [List.take_left' (by simp), List.length_replicate, List.drop_append, List.drop_replicate, List.drop_replicate, List.length_replicate]
  rw [show m - (m + k) = 0 by omega, List.replicate_zero, List.nil_append, ← List.append_assoc, List.replicate_append_replicate, show 96 - m - (m + k - m) = 96 - (m + k) by omega]
theorem fillN_at (m j : Nat) (h : j < m) : (fillN m)[j]? = some (.int .u8 255) := by
  unfold fillN
  rw [List.getElem?_append_left (by simpa using h), List.getElem?_replicate, if_pos h]
set_option maxHeartbeats 1000000 in
theorem repeat_96 (g : Nat) (w : World) (hb : Blk w g #[.int .u8 255] 5) : Calls Try.prog 70 #[.slice (some ⟨g, 0, none⟩) 1 1, .int .i64 96] w fun e w' => ∃ g', e = .returned (.slice (some ⟨g', 0, none⟩) 96 96) ∧ Blk w' g' (fillN 96).toArray 5 ∧ w.heap.size ≤ g' ∧ Below w.heap.size w w' := by
  have hmk : ∀ W, (Instr.makeSlice 39 (.int .i64 96) (.int .i64 96)).run Try.prog W = .ok (.slice (some ⟨W.heap.size, 0, none⟩) 96 96) (W.alloc (.cells (fillN 0).toArray 5)) := fun _ => by kernel_rfl
  have hbl := hb.lt
  have Hc0 := hid ((hb.alloc (.cells (fillN 0).toArray 5)).cell 0)
  have Hn := hid (Blk.new w (fillN 0).toArray 5)
  have HB := hid ((Below.refl w.heap.size w).alloc (Nat.le_refl _) (.cells (fillN 0).toArray 5))
  obtain ⟨B0, hB0⟩ : ∃ z, w.heap.size = z := ⟨_, rfl⟩
  rw [hB0] at Hn HB hbl ⊢
  have HB0 := hid hB0
  clear hb
  go_enter Try.func70, Try.ntmps70
  go_wp2_with fail
  refine (mul_any w).mono ?_
  rintro e w ⟨rfl, rfl⟩
  go_wp2_with (refine wpList_copy_splice rfl (.tmp 31) (.tmp 32) 39 39 (by rfl) 5 Try.underlying39 (by kernel_rfl) _ _ _ _ _ _ (by rfl) (by rfl) B0 0 (fillN 0) 5 Hn.out (List.replicate 1 (Value.int .u8 255)) (by rfl) (fun _ => ⟨by rfl, _, rfl, ?_⟩) (by decide) (by intro v hv; rw [List.mem_replicate] at hv; rw [hv.2]; rfl) B0 w HB.out (Nat.le_refl _) ?_)
  · intro j v hv
    have hj : j < 1 := by simpa using (List.getElem?_eq_some_iff.1 hv).1
    obtain rfl : j = 0 := by omega
    have : v = .int .u8 255 := by simpa using hv.symm
    rw [this]
    exact Hc0.out
  · intro w2 HG hB2
    have hb1 : Blk w2 B0 (fillN 1).toArray 5 := by
      have := HG.out
      rw [show ([Value.int .u8 255] : List Value) = List.replicate 1 (Value.int .u8 255) from rfl, fillN_splice 0 1 (by omega)] at this
      exact this
    clear HG
    go_wp2
    go_loopw [8] (fun x w' => ∃ m : Nat, 1 ≤ m ∧ m ≤ 96 ∧ x = .int .i64 (m : Int) ∧ Blk w' B0 (fillN m).toArray 5 ∧ Below B0 w w') (fun x _ => 96 - (intOf x).toNat)
    case atStart => exact ⟨1, by omega, by omega, rfl, hb1, hB2⟩
    case round =>
      clear hb1 hB2
      obtain ⟨m, h1, h96, rfl, hbm, hB⟩ := hrel
      by_cases hlt : m < 96
      · obtain ⟨k, hk⟩ : ∃ k, k = min m (96 - m) := ⟨_, rfl⟩
        have hk1 : 1 ≤ k ∧ m + k ≤ 96 := by omega
        have hlen : (List.replicate k (Value.int .u8 255)).length = Nat.min m (96 - m) := by rw [List.length_replicate]; exact hk
        have hsrc : ∀ j v, (List.replicate k (Value.int .u8 255))[j]? = some v → wr.cell? ((⟨B0, 0, none⟩ : Addr).add j) = some v := by
          intro j v hv
          have hj : j < k := by simpa using (List.getElem?_eq_some_iff.1 hv).1
          rw [List.getElem?_replicate, if_pos hj] at hv
          rw [WideShapes.add_plain, Nat.zero_add]
          have := hbm.cell j
          rw [List.getElem?_toArray, fillN_at m j (by omega), hv] at this
          exact this
        have hfit : m + (List.replicate k (Value.int .u8 255)).length ≤ (fillN m).length := by rw [fillN_len m h96, List.length_replicate]; omega
        have hone : ∀ v ∈ List.replicate k (Value.int .u8 255), v.oneCell' = true := by intro v hv; rw [List.mem_replicate] at hv; rw [hv.2]; rfl
        have Hlen := hid hlen
        have Hsrc := hid hsrc
        have Hfit := hid hfit
        have Hone := hid hone
        have Hbm := hid (show Blk wr.drew B0 (fillN m).toArray 5 from hbm)
        have HB' := hid (show Below B0 w wr.drew from below_drewN hB 1)
        have Hk := hid hk
        clear hlen hsrc hfit hone hbm hB hk
        have hmI : (m : Int) ≤ 96 := by omega
        have hm0 : (0 : Int) ≤ (m : Int) := by omega
        have hne : ¬ (96 = m) := by omega
        have hwk : IntKind.i64.wrap ((m : Int) + (k : Int)) = ((m + k : Nat) : Int) := by rw [IntWalk.i64_in _ (by omega)]; omega
        go_wp2_with fail
        refine wp_region_held_drew (S := (fun w' : World => 0 ≤ w'.heap.size)) (by kernel_rfl) ?hSnewRz (fun hHeld => ?restRz)
        case hSnewRz => ((try dsimp only); exact Nat.zero_le _)
        refine wpAnyH_take (i := 0) (oi := ?oiRx0) (v := ?vRx0) ?hoRx0 ?h1Rx0 ?h2Rx0 ?h3Rx0 ?hqRx0 (Or.inl ⟨?h4Rx0, ?hyRx0⟩) (by assumption) ?restRx0
        case hoRx0 => (simp only [List.getElem?_toArray, List.getElem?_cons_zero, List.getElem?_cons_succ]; rfl)
        case h1Rx0 => kernel_rfl
        case h2Rx0 => kernel_rfl
        case h3Rx0 => kernel_rfl
        case h4Rx0 => rfl
        case hqRx0 => exact fun _ _ _ h => h
        case hyRx0 => (intro w hSw; (try dsimp only at hSw); go_simp <;> with_reducible rfl)
        (try simp only [Act.put, List.setIfInBounds_toArray, List.set_cons_zero, List.set_cons_succ])
        refine wpAnyH_take (i := 1) (oi := ?oiRx1) (v := ?vRx1) ?hoRx1 ?h1Rx1 ?h2Rx1 ?h3Rx1 ?hqRx1 (Or.inl ⟨?h4Rx1, ?hyRx1⟩) (by assumption) ?restRx1
        case hoRx1 => (simp only [List.getElem?_toArray, List.getElem?_cons_zero, List.getElem?_cons_succ]; rfl)
        case h1Rx1 => kernel_rfl
        case h2Rx1 => kernel_rfl
        case h3Rx1 => kernel_rfl
        case h4Rx1 => rfl
        case hqRx1 => exact fun _ _ _ h => h
        case hyRx1 => (intro w hSw; (try dsimp only at hSw); go_simp <;> with_reducible rfl)
        (try simp only [Act.put, List.setIfInBounds_toArray, List.set_cons_zero, List.set_cons_succ])
        refine wpAnyH_take (i := 2) (oi := ?oiRx2) (v := ?vRx2) ?hoRx2 ?h1Rx2 ?h2Rx2 ?h3Rx2 ?hqRx2 (Or.inl ⟨?h4Rx2, ?hyRx2⟩) (by assumption) ?restRx2
        case hoRx2 => (simp only [List.getElem?_toArray, List.getElem?_cons_zero, List.getElem?_cons_succ]; rfl)
        case h1Rx2 => kernel_rfl
        case h2Rx2 => kernel_rfl
        case h3Rx2 => kernel_rfl
        case h4Rx2 => rfl
        case hqRx2 => exact fun _ _ _ h => h
        case hyRx2 => (intro w hSw; (try dsimp only at hSw); go_simp <;> with_reducible rfl)
        (try simp only [Act.put, List.setIfInBounds_toArray, List.set_cons_zero, List.set_cons_succ])
        refine wpAnyH_take (i := 3) (oi := ?oiRx3) (v := ?vRx3) ?hoRx3 ?h1Rx3 ?h2Rx3 ?h3Rx3 ?hqRx3 (Or.inl ⟨?h4Rx3, ?hyRx3⟩) (by assumption) ?restRx3
        case hoRx3 => (simp only [List.getElem?_toArray, List.getElem?_cons_zero, List.getElem?_cons_succ]; rfl)
        case h1Rx3 => kernel_rfl
        case h2Rx3 => kernel_rfl
        case h3Rx3 => kernel_rfl
        case h4Rx3 => rfl
        case hqRx3 => exact fun _ _ _ h => h
        case hyRx3 => (intro w hSw; (try dsimp only at hSw); go_simp <;> with_reducible rfl)
        (try simp only [Act.put, List.setIfInBounds_toArray, List.set_cons_zero, List.set_cons_succ])
        refine wpAnyH_take (i := 4) (oi := ?oiRx4) (v := ?vRx4) ?hoRx4 ?h1Rx4 ?h2Rx4 ?h3Rx4 ?hqRx4 (Or.inl ⟨?h4Rx4, ?hyRx4⟩) (by assumption) ?restRx4
        case hoRx4 => (simp only [List.getElem?_toArray, List.getElem?_cons_zero, List.getElem?_cons_succ]; rfl)
        case h1Rx4 => kernel_rfl
        case h2Rx4 => kernel_rfl
        case h3Rx4 => kernel_rfl
        case h4Rx4 => rfl
        case hqRx4 => exact fun _ _ _ h => h
        case hyRx4 => (intro w hSw; (try dsimp only at hSw); go_simp <;> with_reducible rfl)
        (try simp only [Act.put, List.setIfInBounds_toArray, List.set_cons_zero, List.set_cons_succ])
        refine wpAnyH_take (i := 5) (oi := ?oiRx5) (v := ?vRx5) ?hoRx5 ?h1Rx5 ?h2Rx5 ?h3Rx5 ?hqRx5 (Or.inl ⟨?h4Rx5, ?hyRx5⟩) (by assumption) ?restRx5
        case hoRx5 => (simp only [List.getElem?_toArray, List.getElem?_cons_zero, List.getElem?_cons_succ]; rfl)
        case h1Rx5 => kernel_rfl
        case h2Rx5 => kernel_rfl
        case h3Rx5 => kernel_rfl
        case h4Rx5 => rfl
        case hqRx5 => exact fun _ _ _ h => h
        case hyRx5 => (intro w hSw; (try dsimp only at hSw); go_simp <;> with_reducible rfl)
        (try simp only [Act.put, List.setIfInBounds_toArray, List.set_cons_zero, List.set_cons_succ])
        refine wpAnyH_take (i := 6) (oi := ?oiRx6) (v := ?vRx6) ?hoRx6 ?h1Rx6 ?h2Rx6 ?h3Rx6 ?hqRx6 (Or.inl ⟨?h4Rx6, ?hyRx6⟩) (by assumption) ?restRx6
        case hoRx6 => (simp only [List.getElem?_toArray, List.getElem?_cons_zero, List.getElem?_cons_succ]; rfl)
        case h1Rx6 => kernel_rfl
        case h2Rx6 => kernel_rfl
        case h3Rx6 => kernel_rfl
        case h4Rx6 => rfl
        case hqRx6 => exact fun _ _ _ h => h
        case hyRx6 => (intro w hSw; (try dsimp only at hSw); go_simp <;> with_reducible rfl)
        (try simp only [Act.put, List.setIfInBounds_toArray, List.set_cons_zero, List.set_cons_succ])
        refine wpAnyH_ready (rs := [7]) (by kernel_rfl) (by simp) ?_
        refine AllReadyH.cons (o := ?oiRx7) ?hoRx7 (fun K hK => ?restRx7) ?moreRx7
        case moreRx7 => exact AllReadyH.nil
        case hoRx7 => (simp only [List.getElem?_toArray, List.getElem?_cons_zero, List.getElem?_cons_succ]; rfl)
        refine step_copy_splice (by rfl) (.tmp 41) (.tmp 44) 39 39 (by rfl) 5 Try.underlying39 (by kernel_rfl) _ _ _ _ _ _ (by rfl) (by rfl) B0 m (fillN m) 5 Hbm.out (List.replicate k (Value.int .u8 255)) Hlen.out (fun _ => ⟨rfl, _, rfl, Hsrc.out⟩) Hfit.out Hone.out B0 w HB'.out (Nat.le_refl _) ?_
        intro w2 HG2 hB2
        refine hK.out _ _ ?hSnewRy7 (fun hHeld => ?restRy7)
        case hSnewRy7 => ((try dsimp only); exact Nat.zero_le _)
        clear hK K
        (try simp only [Act.put, List.setIfInBounds_toArray, List.set_cons_zero, List.set_cons_succ])
        refine wpAnyH_take (i := 8) (oi := ?oiRx8) (v := ?vRx8) ?hoRx8 ?h1Rx8 ?h2Rx8 ?h3Rx8 ?hqRx8 (Or.inl ⟨?h4Rx8, ?hyRx8⟩) (by assumption) ?restRx8
        case hoRx8 => (simp only [List.getElem?_toArray, List.getElem?_cons_zero, List.getElem?_cons_succ]; rfl)
        case h1Rx8 => kernel_rfl
        case h2Rx8 => kernel_rfl
        case h3Rx8 => kernel_rfl
        case h4Rx8 => rfl
        case hqRx8 => exact fun _ _ _ h => h
        case hyRx8 => (intro w hSw; (try dsimp only at hSw); go_simp <;> with_reducible rfl)
        (try simp only [Act.put, List.setIfInBounds_toArray, List.set_cons_zero, List.set_cons_succ])
        refine wpAnyH_take (i := 9) (oi := ?oiRx9) (v := ?vRx9) ?hoRx9 ?h1Rx9 ?h2Rx9 ?h3Rx9 ?hqRx9 (Or.inl ⟨?h4Rx9, ?hyRx9⟩) (by assumption) ?restRx9
        case hoRx9 => (simp only [List.getElem?_toArray, List.getElem?_cons_zero, List.getElem?_cons_succ]; rfl)
        case h1Rx9 => kernel_rfl
        case h2Rx9 => kernel_rfl
        case h3Rx9 => kernel_rfl
        case h4Rx9 => rfl
        case hqRx9 => exact fun _ _ _ h => h
        case hyRx9 => (intro w hSw; (try dsimp only at hSw); go_simp <;> with_reducible rfl)
        (try simp only [Act.put, List.setIfInBounds_toArray, List.set_cons_zero, List.set_cons_succ])
        refine wpAnyH_done (by kernel_rfl) ?_ _
        clear hwk
        have hb2 : Blk w2 B0 (fillN (m + k)).toArray 5 := by
          have := HG2.out
          rw [fillN_splice m k (by omega)] at this
          exact this
        clear HG2
        go_wp2
        go_roundw
        case rel => exact ⟨m + k, by omega, by omega, rfl, hb2, hB2⟩
        case measure => simp [intOf]; omega
      · have hm : m = 96 := by omega
        have H1 := hid (hm ▸ hbm)
        have H2 := hid hB
        clear hbm hB hm
        go_wp2
        go_ret
        exact ⟨B0, rfl, H1.out, Nat.le_refl _, H2.out⟩

theorem own_of_blk {w : World} {g n base : Nat} {e : TypeId} {xs : List Value} (h : Blk w g xs.toArray e) (hn : xs.length = n) (hb : base ≤ g) (hm : n ≤ 1000000) : w.ownsRow base e 1 (.slice (some ⟨g, 0, none⟩) n n) n xs :=
  ⟨by omega, .inr ⟨g, n, xs.toArray, rfl, hb, h, Nat.le_refl _, by unfold maxLen; omega, by simpa using hn, by rw [List.take_of_length_le (by simp; omega)]⟩⟩
theorem src_of {w : World} {b o n : Nat} {q : List Int} (hz : Nums w .u8 (some ⟨b, o, none⟩) n q) (k : Nat) : ∀ j v, ((q.take k).map (Value.int .u8))[j]? = some v → w.cell? ((⟨b, o, none⟩ : Addr).add j) = some v := by
  intro j v hv
  have hl := (List.getElem?_eq_some_iff.1 hv).1
  rw [List.length_map, List.length_take, hz.len] at hl
  obtain ⟨b', o', e, hc⟩ := hz.cell j (by omega)
  injection e with e
  injection e with e1 e2
  subst e1 e2
  rw [WideShapes.add_plain, hc j (by omega), ← hv]
  have : j < q.length := by rw [hz.len]; omega
  simp [List.getElem?_take, show j < k by omega, List.getElem?_eq_getElem this, List.getD_eq_getElem?_getD]
theorem torn_cells (q : List Int) (n : Int) (hq : q.length = 96) : splice (fillN 96) 0 ((q.take n.toNat).map (Value.int .u8)) = (tornL q n).map (Value.int .u8) := by
  unfold splice tornL
  rw [List.take_zero, List.nil_append, Nat.zero_add, fillN_all, List.drop_replicate, List.map_append, List.map_replicate, List.length_map, List.length_take, hq]
  congr 2
  omega
set_option maxHeartbeats 1000000 in
theorem torn_any (A : Option Addr) (c : Nat) (q : List Int) (n : Int) (w : World) (hz : Nums w .u8 A 96 q) (hc : 96 ≤ c) : Calls Try.prog 44 #[.slice A 96 c, .int .i64 n] w fun e w' => ∃ A' c', e = .returned (.slice A' 96 c') ∧ w'.ownsRow w.heap.size 5 1 (.slice A' 96 c') 96 ((tornL q n).map (Value.int .u8)) ∧ Below w.heap.size w w' := by
  obtain ⟨bq, oq, rfl, -⟩ := hz.cell 0 (by omega)
  have Hz := hid hz
  clear hz
  have hc' : (96 : Int) ≤ (c : Int) := by omega
  obtain ⟨B0, hB0⟩ : ∃ z, w.heap.size = z := ⟨_, rfl⟩
  have HB := hid ((Below.refl w.heap.size w).alloc (Nat.le_refl _) (.cells #[.int .u8 255] 5))
  have hb1 := Blk.new w #[.int .u8 255] 5
  have hrep := repeat_96 w.heap.size (w.alloc (.cells #[.int .u8 255] 5)) hb1
  have hsz := HB.out.size
  rw [hB0] at HB hsz hrep ⊢
  have HB0 := hid hB0
  clear hB0 hb1
  go_enter Try.func44, Try.ntmps44
  go_wp2_with fail
  rw [HB0.out]
  refine hrep.mono ?_
  rintro e w2 ⟨g', rfl, hb2, hg2, hB2⟩
  have hg3 : B0 ≤ g' := by omega
  have Hql := hid Hz.out.len
  have hz2 := Hz.out.below (HB0.out.symm ▸ (HB.out.trans (hB2.mono hsz)))
  have HB2 := hid (HB.out.trans (hB2.mono hsz))
  have Hb2 := hid hb2
  clear hrep hb2 hg2 hB2 hsz
  by_cases h0 : n < 0
  · have hd : decide (n < 0) = true := decide_eq_true h0
    obtain ⟨X, hX⟩ : ∃ X, X = (q.take n.toNat).map (Value.int .u8) := ⟨_, rfl⟩
    have Hlen := hid (show X.length = Nat.min 0 96 from by rw [hX, List.length_map, List.length_take, Hql.out]; show min _ _ = min _ _; omega)
    have Hfit := hid (show 0 + X.length ≤ (fillN 96).length from by rw [hX, List.length_map, List.length_take, Hql.out, fillN_len 96 (by omega)]; omega)
    have Hone := hid (show ∀ v ∈ X, v.oneCell' = true from by rw [hX]; intro v hv; obtain ⟨x, _, rfl⟩ := List.mem_map.1 hv; rfl)
    have Hsrc := hid (show ∀ j v, X[j]? = some v → w2.cell? ((⟨bq, oq, none⟩ : Addr).add j) = some v from by rw [hX]; exact src_of hz2 n.toNat)
    have Htorn := hid (show splice (fillN 96) 0 X = (tornL q _).map (Value.int .u8) from by rw [hX]; exact torn_cells q _ Hql.out)
    clear hz2 hX
    go_wp2_with (refine wpList_copy_splice rfl (.tmp 10) (.tmp 17) 39 39 (by rfl) 5 Try.underlying39 (by kernel_rfl) _ _ _ _ _ _ (by rfl) (by rfl) g' 0 (fillN 96) 5 Hb2.out X Hlen.out (fun _ => ⟨rfl, _, rfl, Hsrc.out⟩) Hfit.out Hone.out B0 w HB2.out hg3 ?_)
    intro w3 HG hB3
    go_wp2
    go_ret
    have hG := HG.out
    rw [Htorn.out] at hG
    exact ⟨_, _, rfl, own_of_blk hG (by rw [List.length_map, tornL_len]; exact Hql.out) hg3 (by decide), hB3⟩
  · obtain ⟨m, rfl⟩ := Int.eq_ofNat_of_zero_le (show 0 ≤ n by omega)
    by_cases h96 : m ≤ 96
    · have h96' : (m : Int) ≤ 96 := by omega
      obtain ⟨X, hX⟩ : ∃ X, X = (q.take ((m : Int)).toNat).map (Value.int .u8) := ⟨_, rfl⟩
      have Hlen := hid (show X.length = Nat.min m 96 from by rw [hX, List.length_map, List.length_take, Hql.out]; show min _ _ = min _ _; omega)
      have Hfit := hid (show 0 + X.length ≤ (fillN 96).length from by rw [hX, List.length_map, List.length_take, Hql.out, fillN_len 96 (by omega)]; omega)
      have Hone := hid (show ∀ v ∈ X, v.oneCell' = true from by rw [hX]; intro v hv; obtain ⟨x, _, rfl⟩ := List.mem_map.1 hv; rfl)
      have Hsrc := hid (show ∀ j v, X[j]? = some v → w2.cell? ((⟨bq, oq, none⟩ : Addr).add j) = some v from by rw [hX]; exact src_of hz2 ((m : Int)).toNat)
      have Htorn := hid (show splice (fillN 96) 0 X = (tornL q _).map (Value.int .u8) from by rw [hX]; exact torn_cells q _ Hql.out)
      clear hz2 hX
      go_wp2_with (refine wpList_copy_splice rfl (.tmp 10) (.tmp 17) 39 39 (by rfl) 5 Try.underlying39 (by kernel_rfl) _ _ _ _ _ _ (by rfl) (by rfl) g' 0 (fillN 96) 5 Hb2.out X Hlen.out (fun _ => ⟨rfl, _, rfl, Hsrc.out⟩) Hfit.out Hone.out B0 w HB2.out hg3 ?_)
      intro w3 HG hB3
      go_wp2
      go_ret
      have hG := HG.out
      rw [Htorn.out] at hG
      exact ⟨_, _, rfl, own_of_blk hG (by rw [List.length_map, tornL_len]; exact Hql.out) hg3 (by decide), hB3⟩
    · have h96' : (96 : Int) < (m : Int) := by omega
      obtain ⟨X, hX⟩ : ∃ X, X = (q.take ((m : Int)).toNat).map (Value.int .u8) := ⟨_, rfl⟩
      have Hlen := hid (show X.length = Nat.min 96 96 from by rw [hX, List.length_map, List.length_take, Hql.out]; show min _ _ = min _ _; omega)
      have Hfit := hid (show 0 + X.length ≤ (fillN 96).length from by rw [hX, List.length_map, List.length_take, Hql.out, fillN_len 96 (by omega)]; omega)
      have Hone := hid (show ∀ v ∈ X, v.oneCell' = true from by rw [hX]; intro v hv; obtain ⟨x, _, rfl⟩ := List.mem_map.1 hv; rfl)
      have Hsrc := hid (show ∀ j v, X[j]? = some v → w2.cell? ((⟨bq, oq, none⟩ : Addr).add j) = some v from by rw [hX]; exact src_of hz2 ((m : Int)).toNat)
      have Htorn := hid (show splice (fillN 96) 0 X = (tornL q _).map (Value.int .u8) from by rw [hX]; exact torn_cells q _ Hql.out)
      clear hz2 hX
      go_wp2_with (refine wpList_copy_splice rfl (.tmp 10) (.tmp 17) 39 39 (by rfl) 5 Try.underlying39 (by kernel_rfl) _ _ _ _ _ _ (by rfl) (by rfl) g' 0 (fillN 96) 5 Hb2.out X Hlen.out (fun _ => ⟨rfl, _, rfl, Hsrc.out⟩) Hfit.out Hone.out B0 w HB2.out hg3 ?_)
      intro w3 HG hB3
      go_wp2
      go_ret
      have hG := HG.out
      rw [Htorn.out] at hG
      exact ⟨_, _, rfl, own_of_blk hG (by rw [List.length_map, tornL_len]; exact Hql.out) hg3 (by decide), hB3⟩
end Go.Proofs.Ytcfildbgnjhjmaa.Nand
