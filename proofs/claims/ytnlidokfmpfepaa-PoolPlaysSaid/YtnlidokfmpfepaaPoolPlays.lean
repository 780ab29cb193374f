import Derived.Test.YtnlidokfmpfepaaPoolPlaysPlain
import Derived.Test.YtnlidokfmpfepaaRecs
import Derived.BigRegion
import Derived.BigQuiet
import Derived.Deep.QuietTactic
import Derived.StillTailTactics
import Derived.Deep.DeepCutAuto
import Derived.Deep.CutBlock
set_option linter.unusedVariables false
set_option linter.unusedSimpArgs false
namespace Go.Proofs.Ytnlidokfmpfepaa.Pool
open Go.RowKit Go.Proofs.Ytnlidokfmpfepaa.Kit Go.Maps

structure PAct where
  b : Int
  how : Int
instance : Inhabited PAct := ⟨⟨0, 0⟩⟩
def PAct.enc (a : PAct) : List Value := [.int .i64 a.b, .int .u8 a.how]
def PAct.ok (_ : World) (a : PAct) : Prop := i64wf a.b ∧ 0 ≤ a.how ∧ a.how ≤ 255

set_option maxRecDepth 100000 in
set_option maxHeartbeats 8000000 in
theorem law_plays (A : Option Addr) (n c : Nat) (xs : List Int) (C : Option Addr) (m d : Nat) (ys : Nat → PAct) (w : World) (hz : Nums w .i64 A n xs) (hnc : n ≤ c) (hy : Recs w C m 2 PAct.enc PAct.ok ys) :
    Calls Try.prog 4 #[.slice A n c, .slice C m d] w fun e w' => e = .returned (.bool true) ∧ Below w.heap.size w w' := by
  have hn := hz.most
  have hm := hy.most
  have Hz := hid hz
  have Hy := hid hy
  have Hl := hid hz.len
  clear hz hy
  go_enter Try.func4, Try.ntmps4
  go_wp2_with fail
  refine (awake_any w).mono ?_
  rintro e w1 ⟨rfl, hB1⟩
  by_cases h100 : 100 < n
  · go_wp2_with fail
    refine (awake_any w1).mono ?_
    rintro e w2 ⟨rfl, hB2⟩
    go_wp2
    go_ret
    exact ⟨rfl, hB1.trans (hB2.mono hB1.size)⟩
  · have h100' : decide ((100 : Int) < (n : Int)) = false := by simp; omega
    go_wp2
    go_loopw [5, 6] (fun r i w' => ∃ k : Nat, k ≤ n ∧ i = .int .i64 (k : Int) ∧ r = .bool (riseB xs k) ∧ Below w.heap.size w w') (fun _ i _ => n - (intOf i).toNat)
    case atStart => exact ⟨0, by omega, rfl, rfl, hB1⟩
    case round =>
      clear hB1
      obtain ⟨k, hk, rfl, rfl, hB⟩ := hrel
      have hn64 : (n : Int) ≤ 100 := by omega
      by_cases hlt : k < n
      · obtain ⟨bz, oz, rfl, hcz⟩ := (Hz.out.below hB).cell k hlt
        have hc0 := hcz k hlt
        have hc1 : ∀ j, k = j + 1 → wr.cell? ⟨bz, oz + j, none⟩ = some (.int .i64 (xs.getD j 0)) := fun j hj => hcz j (by omega)
        have hS : riseB xs (k + 1) = (riseB xs k && goodB xs k) := rfl
        have hkn : (k : Int) < (n : Int) := by omega
        have Hcz := hid hcz
        clear hcz
        cases hr : riseB xs k
        · rw [hr] at hS
          have HS := hid (show riseB xs (k + 1) = false from hS)
          clear hS hr hc1 hc0
          go_wp2_with fail
          go_quiet (fail)
          go_wp2
          go_roundw
          case rel => exact ⟨k + 1, by omega, by go_num, by rw [HS.out], below_drewN hB _⟩
          case measure => simp [intOf]; omega
        · rw [hr] at hS
          unfold goodB at hS
          clear hr
          by_cases h0 : 0 ≤ xs.getD k 0
          · rw [decide_eq_true h0] at hS
            by_cases h1 : xs.getD k 0 < 64
            · rw [decide_eq_true h1] at hS
              by_cases hk0 : k = 0
              · rw [decide_eq_true hk0] at hS
                have hz : ((k : Int) == 0) = true := by rw [beq_iff_eq]; omega
                have HS := hid (show riseB xs (k + 1) = true by rw [hS]; simp)
                generalize xs.getD k 0 = x at *
                clear hS hc1 hk0
                go_wp2_with fail
                go_quiet (fail)
                go_wp2
                go_roundw
                case rel => exact ⟨k + 1, by omega, by go_num, by rw [HS.out], below_drewN hB _⟩
                case measure => simp [intOf]; omega
              · rw [decide_eq_false hk0] at hS
                have hc1 := hc1 (k - 1) (by omega)
                have hz : ((k : Int) == 0) = false := by rw [beq_eq_false_iff_ne]; omega
                have hk1 : (1 : Int) ≤ (k : Int) := by omega
                by_cases h2 : xs.getD (k - 1) 0 < xs.getD k 0
                · rw [decide_eq_true h2] at hS
                  have HS := hid (show riseB xs (k + 1) = true by rw [hS]; simp)
                  generalize xs.getD k 0 = x at *
                  generalize xs.getD (k - 1) 0 = y at *
                  clear hS hk0
                  go_wp2_with fail
                  go_quiet (fail)
                  go_wp2
                  go_roundw
                  case rel => exact ⟨k + 1, by omega, by go_num, by rw [HS.out], below_drewN hB _⟩
                  case measure => simp [intOf]; omega
                · rw [decide_eq_false h2] at hS
                  have HS := hid (show riseB xs (k + 1) = false by rw [hS]; simp)
                  generalize xs.getD k 0 = x at *
                  generalize xs.getD (k - 1) 0 = y at *
                  have h3 : decide (y < x) = false := decide_eq_false h2
                  clear hS hk0
                  go_wp2_with fail
                  go_quiet (fail)
                  go_wp2
                  go_roundw
                  case rel => exact ⟨k + 1, by omega, by go_num, by rw [HS.out], below_drewN hB _⟩
                  case measure => simp [intOf]; omega
            · rw [decide_eq_false h1] at hS
              have HS := hid (show riseB xs (k + 1) = false by rw [hS]; simp)
              generalize xs.getD k 0 = x at *
              have h3 : decide (x < 64) = false := decide_eq_false h1
              clear hS hc1
              go_wp2_with fail
              go_quiet (fail)
              go_wp2
              go_roundw
              case rel => exact ⟨k + 1, by omega, by go_num, by rw [HS.out], below_drewN hB _⟩
              case measure => simp [intOf]; omega
          · rw [decide_eq_false h0] at hS
            have HS := hid (show riseB xs (k + 1) = false by rw [hS]; simp)
            generalize xs.getD k 0 = x at *
            have h3 : decide (0 ≤ x) = false := decide_eq_false h0
            clear hS hc1
            go_wp2_with fail
            go_quiet (fail)
            go_wp2
            go_roundw
            case rel => exact ⟨k + 1, by omega, by go_num, by rw [HS.out], below_drewN hB _⟩
            case measure => simp [intOf]; omega
      · have hkn : k = n := by omega
        rw [hkn]
        clear hkn hlt hk
        by_cases hR : Rise xs
        · have hb : riseB xs n = true := by rw [← Hl.out]; exact (rise_iff xs).2 hR
          rw [hb]
          clear hb
          go_wp2_with fail
          refine (new_any A n c xs wr (Hz.out.below hB) hnc (by omega)).mono ?_
          rintro e w2 ⟨hB2, ⟨-, b, g, A', c', rfl, hp, hg⟩ | ⟨hR', rfl⟩⟩
          · have hB3 := hB.trans (hB2.mono hB.size)
            have hg3 : w.heap.size ≤ g := Nat.le_trans hB.size hg
            clear hB hB2 hg
            have Hp := hid hp
            have HR := hid hR
            clear hp hR
            have hmk1 : ∀ W, (Instr.makeSlice 40 (.int .i64 64) (.int .i64 64)).run Try.prog W = .ok (.slice (some ⟨W.heap.size, 0, none⟩) 64 64) (W.alloc (.cells (((List.replicate 64 0).map (fun x : Nat => Value.int .u8 (x : Int))).toArray) 5)) := fun _ => by kernel_rfl
            have hmk2 : ∀ W, (Instr.makeSlice 41 (.int .i64 64) (.int .i64 64)).run Try.prog W = .ok (.slice (some ⟨W.heap.size, 0, none⟩) 64 64) (W.alloc (.cells (((List.replicate 64 false).map Value.bool).toArray) 4)) := fun _ => by kernel_rfl
            go_upto_block 2 with (fail)
            obtain ⟨gh, hgh⟩ : ∃ x, w2.heap.size = x := ⟨_, rfl⟩
            generalize hW : World.alloc (World.alloc w2 _) _ = w4
            have hbh : Blk w4 gh ((List.replicate 64 0).map (fun x : Nat => Value.int .u8 (x : Int))).toArray 5 := by
              rw [← hW, ← hgh]
              exact (Blk.new w2 _ _).alloc _
            have hbi : Blk w4 (gh + 1) ((List.replicate 64 false).map Value.bool).toArray 4 := by
              rw [← hW, ← hgh]
              have := Blk.new (w2.alloc (.cells (((List.replicate 64 0).map (fun x : Nat => Value.int .u8 (x : Int))).toArray) 5)) ((List.replicate 64 false).map Value.bool).toArray 4
              simpa using this
            have hB4 : Below gh w2 w4 := by
              rw [← hW, ← hgh]
              exact ((Below.refl _ _).alloc (Nat.le_refl _) _).alloc (by simp) _
            rw [hgh]
            clear hW hmk1 hmk2
            have hgb : w.heap.size ≤ gh := by rw [← hgh]; exact hB3.size
            have hgl : g < gh := by rw [← hgh]; exact Hp.out.mp.lt
            have hblt : b < gh := by rw [← hgh]; exact Hp.out.blk.lt
            have HAlt := hid (show 0 < n → ∀ a, A' = some a → a.block < gh from by rw [← hgh]; exact fun h0 => Hp.out.nums.low h0)
            have Hgh := hid hgh
            clear hgh
            have hB4' := hB3.trans (hB4.mono hgb)
            go_wp2
            go_loopw [11] (fun x w' => ∃ k : Nat, k ≤ n ∧ x = .int .i64 (k : Int) ∧ Blk w' gh ((List.replicate 64 0).map (fun x : Nat => Value.int .u8 (x : Int))).toArray 5 ∧ Blk w' (gh + 1) ((isOf (xs.take k)).map Value.bool).toArray 4 ∧ Below gh w2 w') (fun x _ => n - (intOf x).toNat)
            case atStart => exact ⟨0, by omega, rfl, hbh, hbi, hB4⟩
            case round =>
              clear hbh hbi hB4 hB4'
              obtain ⟨k, hk, rfl, hbh, hbi, hB⟩ := hrel
              have hB' := hB3.trans (hB.mono hgb)
              by_cases hlt : k < n
              · obtain ⟨bz, oz, rfl, hcz⟩ := (Hz.out.below hB').at_ k hlt
                have hmem : xs.getD k 0 ∈ xs := by
                  rw [List.getD_eq_getElem?_getD, List.getElem?_eq_getElem (by rw [Hl.out]; exact hlt)]
                  exact List.getElem_mem _
                obtain ⟨hx0, hx1⟩ := rise_bd xs HR.out _ hmem
                have hsn : isOf (xs.take (k + 1)) = (isOf (xs.take k)).set (xs.getD k 0).toNat true := by
                  rw [List.take_succ_eq_append_getElem (by rw [Hl.out]; exact hlt), isOf_snoc, List.getD_eq_getElem?_getD, List.getElem?_eq_getElem (by rw [Hl.out]; exact hlt)]
                  rfl
                have hln := (isOf_facts (xs.take k) (fun x hx => rise_bd xs HR.out x (List.mem_of_mem_take hx))).1
                obtain ⟨v, hv⟩ := Int.eq_ofNat_of_zero_le hx0
                rw [hv] at hcz hx1 hsn
                have hv64 : v < 64 := by omega
                have hv64' : (v : Int) < 64 := by omega
                have hci : wr.cell? ⟨gh + 1, v, none⟩ = some (.bool ((isOf (xs.take k)).getD v false)) := by
                  rw [hbi.cell]
                  simp [List.getD_eq_getElem?_getD, List.getElem?_eq_getElem (show v < (isOf (xs.take k)).length by omega)]
                have hfi := hbi.free v
                have Hb1 := hid (show Blk (wr.setCell ⟨gh + 1, v, none⟩ (.bool true)) (gh + 1) ((isOf (xs.take (k + 1))).map Value.bool).toArray 4 from by
                  rw [hsn, List.map_set]
                  simpa using hbi.set v (.bool true))
                have Hb2 := hid (hbh.setOther ⟨gh + 1, v, none⟩ (by simp) (.bool true))
                have HB := hid (hB.setCell (p := (⟨gh + 1, v, none⟩ : Addr)) (by simp) (.bool true))
                clear hsn hln hx0 hmem hv hbi hbh hB hB'
                generalize (isOf (xs.take k)).getD v false = ov at *
                go_wp2
                go_roundw
                case rel => exact ⟨k + 1, by omega, by go_num, Hb2.out, Hb1.out, HB.out⟩
                case measure => simp [intOf]; omega
              · have hkn : xs.take k = xs := List.take_of_length_le (by rw [Hl.out]; omega)
                rw [hkn] at hbi
                have Hp3 := hid (Hp.out.later (Hgh.out ▸ hB))
                clear hkn
                go_wp2
                go_loopw [12] (fun i w' => ∃ (k nn : Nat) (hs : List (Option Nat)) (hv : List Nat), k ≤ m ∧ k ≤ 60 ∧ i = .int .i64 (k : Int) ∧ nn ≤ 1000 + 2 * k ∧ PS w' b g nn A' n c' xs hs ∧ Blk w' gh (hv.map (fun x : Nat => Value.int .u8 (x : Int))).toArray 5 ∧ Blk w' (gh + 1) ((isOf xs).map Value.bool).toArray 4 ∧ Rel hs hv (isOf xs) xs ∧ Below w.heap.size w w') (fun x _ => 60 - (intOf x).toNat)
                case atStart => exact ⟨0, n, newH xs, List.replicate 64 0, by omega, by omega, rfl, by omega, Hp3.out, hbh, hbi, rel_start xs HR.out, hB'⟩
                case round =>
                  clear Hp3 hbh hbi hB hB'
                  obtain ⟨k, nn, hs, hv, hk, hk60, rfl, hnn, hp, hbh, hbi, hrl, hB⟩ := hrel
                  have Hp := hid hp
                  have Hr := hid hrl
                  have Hbh := hid hbh
                  have Hbi := hid hbi
                  clear hp hrl hbh hbi
                  by_cases hlt : k < m ∧ k < 60
                  · obtain ⟨hlt, hlt60⟩ := hlt
                    obtain ⟨bs, os, rfl, hcs⟩ := (Hy.out.below hB (fun _ h => h)).at_ k hlt
                    have hc0 : wr.cell? ⟨bs, os + k * 2, none⟩ = some (.int .i64 (ys k).b) := hcs 0 _ rfl
                    have hc1 : wr.cell? ⟨bs, os + k * 2 + 1, none⟩ = some (.int .u8 (ys k).how) := hcs 1 _ rfl
                    have hys := Hy.out.ok k hlt
                    clear hcs
                    unfold PAct.ok at hys
                    obtain ⟨hwx, hh0, hh1⟩ := hys
                    generalize (ys k).b = x at *
                    generalize (ys k).how = h at *
                    go_upto_region 21 with (fail)
                    go_cut [109] (fun q wx => ∃ bq : Bool, q = .bool bq ∧ (bq = true → 0 < n) ∧ wx = wr.alloc (.cells #[.int .i64 x, .int .u8 h] 43))
                    case first =>
                      by_cases h0 : 0 < n
                      · go_wp2
                        go_meet
                        case rel => exact ⟨_, rfl, fun _ => h0, rfl⟩
                      · go_wp2
                        go_meet
                        case rel => exact ⟨false, rfl, fun h => by (cases h), rfl⟩
                    case rest =>
                      obtain ⟨bq, rfl, hbq, rfl⟩ := hcut
                      go_upto_if 109 with (fail)
                      go_cut [] (fun wx => ∃ (x' h' : Int), wx = wr.alloc (.cells #[.int .i64 x', .int .u8 h'] 43) ∧ i64wf x' ∧ 0 ≤ h' ∧ h' ≤ 255)
                      case first =>
                        cases bq
                        · go_wp2
                          go_meet
                          case rel => exact ⟨_, _, rfl, hwx, hh0, hh1⟩
                        · have h0 := hbq rfl
                          have h0' : (0 : Int) < (n : Int) := by omega
                          obtain ⟨bz, oz, rfl, hcz⟩ := (Hz.out.below hB).cell 0 h0
                          obtain ⟨j, hj, hjq⟩ := umod_nat x n h0
                          have hcj := hcz j hj
                          have hmem : xs.getD j 0 ∈ xs := by
                            rw [List.getD_eq_getElem?_getD, List.getElem?_eq_getElem (by rw [Hl.out]; exact hj)]
                            exact List.getElem_mem _
                          obtain ⟨hx0, hx1⟩ := rise_bd xs HR.out _ hmem
                          have hwx' : i64wf (xs.getD j 0) := i64wf_of (by omega)
                          have hjn : (j : Int) < (n : Int) := by omega
                          have hq1 := Int.tmod_eq_emod_of_nonneg (b := 5) hh0
                          have hq2 := Int.emod_nonneg h (show (5 : Int) ≠ 0 by omega)
                          have hq3 := Int.emod_lt_of_pos h (show (0 : Int) < 5 by omega)
                          generalize xs.getD j 0 = x' at *
                          clear hcz hmem
                          have hca : (wr.alloc (.cells #[.int .i64 x, .int .u8 h] 43)).cell? ⟨bz, oz + j, none⟩ = some (.int .i64 x') :=
                            ((Below.refl wr.heap.size wr).alloc (Nat.le_refl _) _).cell (p := ⟨bz, oz + j, none⟩) (World.block_lt_of_cell? wr _ hcj) |>.trans hcj
                          go_wp2
                          go_meet
                          case rel => exact ⟨_, _, rfl, hwx', by omega, by omega⟩
                      case rest =>
                        obtain ⟨x', h', rfl, hwx', hh0', hh1'⟩ := hcut
                        clear hc0 hc1 hwx hh0 hh1 hbq
                        generalize hw5 : World.alloc wr _ = w5
                        have hba : Blk w5 wr.heap.size #[.int .i64 x', .int .u8 h'] 43 := by rw [← hw5]; exact Blk.new _ _ _
                        have hB1 : Below wr.heap.size wr w5 := by rw [← hw5]; exact (Below.refl _ _).alloc (Nat.le_refl _) _
                        clear hw5
                        have hB5 := hB.trans (hB1.mono hB.size)
                        have Hp5 := hid (Hp.out.later hB1)
                        have Hbh5 := hid (Hbh.out.later hB1)
                        have Hbi5 := hid (Hbi.out.later hB1)
                        have hca0 := hba.cell 0
                        have hca1 := hba.cell 1
                        have hglw : gh + 1 < wr.heap.size := Hbi.out.lt
                        obtain ⟨ga, hga⟩ : ∃ z, wr.heap.size = z := ⟨_, rfl⟩
                        rw [hga] at hba hca0 hca1 hglw ⊢
                        have Hba := hid hba
                        clear hga hB1 hB Hp Hbh Hbi hba
                        have hca0 : w5.cell? ⟨ga, 0, none⟩ = some (.int .i64 x') := hca0
                        have hca1 : w5.cell? ⟨ga, 1, none⟩ = some (.int .u8 h') := hca1
                        obtain ⟨hv', rfl⟩ := Int.eq_ofNat_of_zero_le hh0'
                        by_cases hx0 : x' < 0
                        · have hst := set_arg b g nn A' n c' xs hs x' hv' w5 Hp5.out hwx' (by omega) (.inl (hAt_out hs x' (by omega)))
                          go_wp2_with fail
                          refine hst.mono ?_
                          rintro e w5 ⟨rfl, rfl⟩
                          clear hst
                          have hrt := right_any b g nn A' n c' xs hs gh (gh + 1) hv (isOf xs) w5 Hp5.out Hbh5.out Hbi5.out Hr.out
                          go_wp2_with fail
                          refine hrt.mono ?_
                          rintro e w6 ⟨rfl, hB6⟩
                          clear hrt
                          have Hend := hid (show nn ≤ 1000 + 2 * (k + 1) ∧ PS w6 b g nn A' n c' xs hs ∧ Blk w6 gh (hv.map (fun x : Nat => Value.int .u8 (x : Int))).toArray 5 ∧ Blk w6 (gh + 1) ((isOf xs).map Value.bool).toArray 4 ∧ Rel hs hv (isOf xs) xs ∧ Below w.heap.size w w6 from ⟨by omega, Hp5.out.later hB6, Hbh5.out.later hB6, Hbi5.out.later hB6, Hr.out, hB5.trans (hB6.mono hB5.size)⟩)
                          clear hB6
                          go_wp2
                          go_roundw
                          case rel => first | exact ⟨k + 1, _, _, _, by omega, by omega, by go_num, Hend.out⟩ | ((repeat apply Exists.intro); exact ⟨⟨k + 1, _, _, _, by omega, by omega, by go_num, Hend.out⟩, rfl⟩)
                          case measure => simp [intOf]; omega
                        · by_cases hx1 : 63 < x'
                          · have hst := set_arg b g nn A' n c' xs hs x' hv' w5 Hp5.out hwx' (by omega) (.inl (hAt_out hs x' (by omega)))
                            go_wp2_with fail
                            refine hst.mono ?_
                            rintro e w5 ⟨rfl, rfl⟩
                            clear hst
                            have hrt := right_any b g nn A' n c' xs hs gh (gh + 1) hv (isOf xs) w5 Hp5.out Hbh5.out Hbi5.out Hr.out
                            go_wp2_with fail
                            refine hrt.mono ?_
                            rintro e w6 ⟨rfl, hB6⟩
                            clear hrt
                            have Hend := hid (show nn ≤ 1000 + 2 * (k + 1) ∧ PS w6 b g nn A' n c' xs hs ∧ Blk w6 gh (hv.map (fun x : Nat => Value.int .u8 (x : Int))).toArray 5 ∧ Blk w6 (gh + 1) ((isOf xs).map Value.bool).toArray 4 ∧ Rel hs hv (isOf xs) xs ∧ Below w.heap.size w w6 from ⟨by omega, Hp5.out.later hB6, Hbh5.out.later hB6, Hbi5.out.later hB6, Hr.out, hB5.trans (hB6.mono hB5.size)⟩)
                            clear hB6
                            go_wp2
                            go_roundw
                            case rel => first | exact ⟨k + 1, _, _, _, by omega, by omega, by go_num, Hend.out⟩ | ((repeat apply Exists.intro); exact ⟨⟨k + 1, _, _, _, by omega, by omega, by go_num, Hend.out⟩, rfl⟩)
                            case measure => simp [intOf]; omega
                          · obtain ⟨v, rfl⟩ := Int.eq_ofNat_of_zero_le (show 0 ≤ x' by omega)
                            have hv64 : v < 64 := by omega
                            have hv64' : (v : Int) < 64 := by omega
                            obtain ⟨hch, hci⟩ := right_rows w5 gh (gh + 1) hv (isOf xs) Hbh5.out Hbi5.out v (by rw [Hr.out.lh]; exact hv64) (by rw [Hr.out.lb]; exact hv64)
                            have heq := Hr.out.eq v hv64
                            have hle := Hr.out.le v
                            cases hbv : (isOf xs).getD v false
                            · rw [hbv] at heq hci
                              rw [if_neg (by simp)] at heq
                              have hst := set_arg b g nn A' n c' xs hs v hv' w5 Hp5.out hwx' (by omega) (.inl (by rw [hAt_nat hs v hv64]; exact heq))
                              clear heq hbv hch hle
                              go_wp2_with fail
                              refine hst.mono ?_
                              rintro e w5 ⟨rfl, rfl⟩
                              clear hst
                              have hrt := right_any b g nn A' n c' xs hs gh (gh + 1) hv (isOf xs) w5 Hp5.out Hbh5.out Hbi5.out Hr.out
                              go_wp2_with fail
                              refine hrt.mono ?_
                              rintro e w6 ⟨rfl, hB6⟩
                              clear hrt
                              have Hend := hid (show nn ≤ 1000 + 2 * (k + 1) ∧ PS w6 b g nn A' n c' xs hs ∧ Blk w6 gh (hv.map (fun x : Nat => Value.int .u8 (x : Int))).toArray 5 ∧ Blk w6 (gh + 1) ((isOf xs).map Value.bool).toArray 4 ∧ Rel hs hv (isOf xs) xs ∧ Below w.heap.size w w6 from ⟨by omega, Hp5.out.later hB6, Hbh5.out.later hB6, Hbi5.out.later hB6, Hr.out, hB5.trans (hB6.mono hB5.size)⟩)
                              clear hB6
                              go_wp2
                              go_roundw
                              case rel => first | exact ⟨k + 1, _, _, _, by omega, by omega, by go_num, Hend.out⟩ | ((repeat apply Exists.intro); exact ⟨⟨k + 1, _, _, _, by omega, by omega, by go_num, Hend.out⟩, rfl⟩)
                              case measure => simp [intOf]; omega
                            · rw [hbv] at heq hci
                              rw [if_pos rfl] at heq
                              by_cases hv3 : 3 < hv'
                              · have hst := set_arg b g nn A' n c' xs hs v hv' w5 Hp5.out hwx' (by omega) (.inr hv3)
                                have hv3' : (3 : Int) < (hv' : Int) := by omega
                                clear heq hbv hch hle
                                go_wp2_with fail
                                refine hst.mono ?_
                                rintro e w5 ⟨rfl, rfl⟩
                                clear hst
                                have hrt := right_any b g nn A' n c' xs hs gh (gh + 1) hv (isOf xs) w5 Hp5.out Hbh5.out Hbi5.out Hr.out
                                go_wp2_with fail
                                refine hrt.mono ?_
                                rintro e w6 ⟨rfl, hB6⟩
                                clear hrt
                                have Hend := hid (show nn ≤ 1000 + 2 * (k + 1) ∧ PS w6 b g nn A' n c' xs hs ∧ Blk w6 gh (hv.map (fun x : Nat => Value.int .u8 (x : Int))).toArray 5 ∧ Blk w6 (gh + 1) ((isOf xs).map Value.bool).toArray 4 ∧ Rel hs hv (isOf xs) xs ∧ Below w.heap.size w w6 from ⟨by omega, Hp5.out.later hB6, Hbh5.out.later hB6, Hbi5.out.later hB6, Hr.out, hB5.trans (hB6.mono hB5.size)⟩)
                                clear hB6
                                go_wp2
                                go_roundw
                                case rel => first | exact ⟨k + 1, _, _, _, by omega, by omega, by go_num, Hend.out⟩ | ((repeat apply Exists.intro); exact ⟨⟨k + 1, _, _, _, by omega, by omega, by go_num, Hend.out⟩, rfl⟩)
                                case measure => simp [intOf]; omega
                              · have hv3' : ¬ (3 : Int) < (hv' : Int) := by omega
                                have hat : hAt hs (v : Int) = some (hv.getD v 0) := by rw [hAt_nat hs v hv64]; exact heq
                                by_cases hdd : hv.getD v 0 = 3 ∧ hv' ≠ 3
                                · obtain ⟨hd3, hne3⟩ := hdd
                                  rw [hd3] at hat hch
                                  have hst := set_dead b g nn A' n c' xs hs v hv' w5 Hp5.out hwx' hat (by omega)
                                  have hch : w5.cell? ⟨gh, v, none⟩ = some (.int .u8 3) := hch
                                  have hne3' : (hv' : Int) ≠ 3 := by omega
                                  have hne3b : ((hv' : Int) != 3) = true := by rw [bne_iff_ne]; exact hne3'
                                  clear heq hbv hle hat hd3 hne3
                                  go_wp2_with fail
                                  refine hst.mono ?_
                                  rintro e w5 ⟨rfl, rfl⟩
                                  clear hst
                                  have hrt := right_any b g nn A' n c' xs hs gh (gh + 1) hv (isOf xs) w5 Hp5.out Hbh5.out Hbi5.out Hr.out
                                  go_wp2_with fail
                                  refine hrt.mono ?_
                                  rintro e w6 ⟨rfl, hB6⟩
                                  clear hrt
                                  have Hend := hid (show nn ≤ 1000 + 2 * (k + 1) ∧ PS w6 b g nn A' n c' xs hs ∧ Blk w6 gh (hv.map (fun x : Nat => Value.int .u8 (x : Int))).toArray 5 ∧ Blk w6 (gh + 1) ((isOf xs).map Value.bool).toArray 4 ∧ Rel hs hv (isOf xs) xs ∧ Below w.heap.size w w6 from ⟨by omega, Hp5.out.later hB6, Hbh5.out.later hB6, Hbi5.out.later hB6, Hr.out, hB5.trans (hB6.mono hB5.size)⟩)
                                  clear hB6
                                  go_wp2
                                  go_roundw
                                  case rel => first | exact ⟨k + 1, _, _, _, by omega, by omega, by go_num, Hend.out⟩ | ((repeat apply Exists.intro); exact ⟨⟨k + 1, _, _, _, by omega, by omega, by go_num, Hend.out⟩, rfl⟩)
                                  case measure => simp [intOf]; omega
                                · have hne1 : some gh ≠ some g := by simp; omega
                                  have hne2 : some (gh + 1) ≠ some g := by simp; omega
                                  have hne3 : some ga ≠ some g := by simp; omega
                                  have hst := set_ok b g nn A' n c' xs hs v (hv.getD v 0) hv' w5 Hp5.out hv64 hat (by omega) (by omega) (by omega)
                                  have HR7 := hid (rel_set Hr.out Hp5.out.len v hv' (hv.getD v 0) hv64 heq (by omega))
                                  have hrun := right_rows
                                  have Hhat := hid hat
                                  have hn3 : ((hv.getD v 0 : Nat) : Int) = 3 → hv' = 3 := fun h => by omega
                                  go_wp2_with fail
                                  refine hst.mono ?_
                                  rintro e w7 ⟨rfl, ⟨n7, hn7, hp7⟩, hG7⟩
                                  have hB7 := hB5.grown hG7 hB5.size (by intro k hk; cases hk; exact hg3)
                                  have Hbh7 := hid (Hbh5.out.grown hG7 hne1)
                                  have Hbi7 := hid (Hbi5.out.grown hG7 hne2)
                                  have Hba7 := hid (Hba.out.grown hG7 hne3)
                                  have Hp7 := hid hp7
                                  have hca0 := Hba7.out.cell 0
                                  have hca1 := Hba7.out.cell 1
                                  have hca0 : w7.cell? ⟨ga, 0, none⟩ = some (.int .i64 (v : Int)) := hca0
                                  have hca1 : w7.cell? ⟨ga, 1, none⟩ = some (.int .u8 (hv' : Int)) := hca1
                                  obtain ⟨hch, hci⟩ := right_rows w7 gh (gh + 1) hv (isOf xs) Hbh7.out Hbi7.out v (by rw [Hr.out.lh]; exact hv64) (by rw [Hr.out.lb]; exact hv64)
                                  rw [hbv] at hci
                                  have hfr := Hbh7.out.free v
                                  clear hst hp7 hG7 hrun hat heq hle hbv hB5 Hp5 Hbh5 Hbi5 Hba Hhat
                                  generalize hov : hv.getD v 0 = ov at *
                                  have Hov := hid hov
                                  clear hov
                                  by_cases hov3 : ov = 3
                                  · have hov3b : ((ov : Int) == 3) = true := by rw [beq_iff_eq]; omega
                                    have hv'3 : ((hv' : Int) != 3) = false := by rw [bne_eq_false_iff_eq]; omega
                                    clear hn3 hov3 hdd hv3
                                    go_upto_block 7 with (fail)
                                    have Hz0 := hid (show Blk w7 gh ((clr hv (isOf xs) 0).map (fun x : Nat => Value.int .u8 (x : Int))).toArray 5 from by rw [clr_zero hv _ Hr.out.lh]; exact Hbh7.out)
                                    clear hch hci hfr
                                    go_wp2
                                    go_loopw [15] (fun i w' => ∃ q : Nat, q ≤ 64 ∧ (hv' ≠ 2 → q = 0) ∧ i = .int .i64 (q : Int) ∧ Blk w' gh ((clr hv (isOf xs) q).map (fun x : Nat => Value.int .u8 (x : Int))).toArray 5 ∧ Blk w' (gh + 1) ((isOf xs).map Value.bool).toArray 4 ∧ Blk w' ga #[.int .i64 (v : Int), .int .u8 (hv' : Int)] 43 ∧ PS w' b g n7 A' n c' xs (setH xs hs v hv') ∧ Below w.heap.size w w') (fun i _ => 64 - (intOf i).toNat)
                                    case atStart => exact ⟨0, by omega, fun _ => rfl, rfl, Hz0.out, Hbi7.out, Hba7.out, Hp7.out, hB7⟩
                                    case round =>
                                      clear hB7 Hz0 Hba7 Hbi7 Hbh7 Hp7 hca0 hca1
                                      obtain ⟨q, hq, hq0, rfl, hbh, hbi, hba, hp, hB⟩ := hrel
                                      have hca0 : wr.cell? ⟨ga, 0, none⟩ = some (.int .i64 (v : Int)) := hba.cell 0
                                      have hca1 : wr.cell? ⟨ga, 1, none⟩ = some (.int .u8 (hv' : Int)) := hba.cell 1
                                      by_cases h2 : hv' = 2
                                      · have h2' : (hv' : Int) = 2 := by omega
                                        have h2b : ((hv' : Int) == 2) = true := by rw [beq_iff_eq]; exact h2'
                                        have H2 := hid h2
                                        clear h2 h2'
                                        by_cases hq64 : q < 64
                                        · have hq64' : (q : Int) < 64 := by omega
                                          obtain ⟨hch, hci⟩ := right_rows wr gh (gh + 1) (clr hv (isOf xs) q) (isOf xs) hbh hbi q (by rw [clr_len]; exact hq64) (by rw [Hr.out.lb]; exact hq64)
                                          rw [clr_same, if_neg (by omega)] at hch
                                          have hfr := hbh.free q
                                          cases hbq : (isOf xs).getD q false
                                          · rw [hbq] at hci
                                            have Hk := hid (clr_keep hv (isOf xs) q (by rw [hbq]; simp))
                                            clear hbq hch hfr
                                            go_wp2
                                            go_roundw
                                            case rel => exact ⟨q + 1, by omega, fun h => absurd H2.out h, by go_num, by rw [Hk.out]; exact hbh, hbi, hba, hp, hB⟩
                                            case measure => simp [intOf]; omega
                                          · rw [hbq] at hci
                                            by_cases hqv : hv.getD q 0 = 2
                                            · have Hk := hid (clr_hit hv (isOf xs) q hq64 ⟨hbq, hqv⟩)
                                              rw [hqv] at hch
                                              have hch : wr.cell? ⟨gh, q, none⟩ = some (.int .u8 2) := hch
                                              have Hb1 := hid (show Blk (wr.setCell ⟨gh, q, none⟩ (.int .u8 1)) gh ((clr hv (isOf xs) (q + 1)).map (fun x : Nat => Value.int .u8 (x : Int))).toArray 5 from by
                                                rw [Hk.out, List.map_set]
                                                simpa using hbh.set q (.int .u8 1))
                                              have Hb2 := hid (hbi.setOther ⟨gh, q, none⟩ (by simp) (.int .u8 1))
                                              have Hb3 := hid (hba.setOther ⟨gh, q, none⟩ (by simp; omega) (.int .u8 1))
                                              have Hb4 := hid (hp.other (grown_setCell wr gh q (.int .u8 1)) (by omega) (by omega) (fun h0 a ha => by have := HAlt.out h0 a ha; omega))
                                              have HB := hid (hB.setCell (p := (⟨gh, q, none⟩ : Addr)) hgb (.int .u8 1))
                                              clear hbq hqv hbh hbi hba hp hB
                                              go_wp2
                                              go_roundw
                                              case rel => exact ⟨q + 1, by omega, fun h => absurd H2.out h, by go_num, Hb1.out, Hb2.out, Hb3.out, Hb4.out, HB.out⟩
                                              case measure => simp [intOf]; omega
                                            · have Hk := hid (clr_keep hv (isOf xs) q (by rw [hbq]; simpa using hqv))
                                              have hqv' : ((hv.getD q 0 : Nat) : Int) ≠ 2 := by omega
                                              have hqvb : (((hv.getD q 0 : Nat) : Int) == 2) = false := by rw [beq_eq_false_iff_ne]; exact hqv'
                                              generalize hv.getD q 0 = oq at *
                                              clear hbq hfr hqv
                                              go_wp2
                                              go_roundw
                                              case rel => exact ⟨q + 1, by omega, fun h => absurd H2.out h, by go_num, by rw [Hk.out]; exact hbh, hbi, hba, hp, hB⟩
                                              case measure => simp [intOf]; omega
                                        · have hcur : clr hv (isOf xs) q = if hv' = 2 then clr hv (isOf xs) 64 else hv := by
                                            rw [if_pos H2.out, show q = 64 by omega]
                                          have hcx := right_rows wr gh (gh + 1) (clr hv (isOf xs) q) (isOf xs) hbh hbi v (by rw [clr_len]; exact hv64) (by rw [Hr.out.lb]; exact hv64)
                                          have hch := hcx.1
                                          generalize (clr hv (isOf xs) q).getD v 0 = ov2 at hch
                                          have hfr := hbh.free v
                                          have Hbh5 := hid (show Blk (wr.setCell ⟨gh, v, none⟩ (.int .u8 (hv' : Int))) gh (((if hv' = 2 then clr hv (isOf xs) 64 else hv).set v hv').map (fun x : Nat => Value.int .u8 (x : Int))).toArray 5 from by
                                            rw [← hcur, List.map_set]
                                            simpa using hbh.set v (.int .u8 (hv' : Int)))
                                          have Hbi5 := hid (hbi.setOther ⟨gh, v, none⟩ (by simp) (.int .u8 (hv' : Int)))
                                          have Hp5 := hid (hp.other (grown_setCell wr gh v (.int .u8 (hv' : Int))) (by omega) (by omega) (fun h0 a ha => by have := HAlt.out h0 a ha; omega))
                                          have hB5 := hB.setCell (p := (⟨gh, v, none⟩ : Addr)) hgb (.int .u8 (hv' : Int))
                                          clear hcx hbh hbi hba hp hB hcur hq hq0
                                          go_upto_region 31 with (fail)
                                          generalize hw5 : World.setCell wr _ _ = w5
                                          rw [hw5] at Hbh5 Hbi5 Hp5 hB5
                                          clear hw5 hch hfr hca0 hca1
                                          have hrt := right_any b g n7 A' n c' xs (setH xs hs v hv') gh (gh + 1) ((if hv' = 2 then clr hv (isOf xs) 64 else hv).set v hv') (isOf xs) w5 Hp5.out Hbh5.out Hbi5.out HR7.out
                                          go_wp2_with fail
                                          refine hrt.mono ?_
                                          rintro e w6 ⟨rfl, hB6⟩
                                          clear hrt
                                          have Hend := hid (show n7 ≤ 1000 + 2 * (k + 1) ∧ PS w6 b g n7 A' n c' xs (setH xs hs v hv') ∧ Blk w6 gh (((if hv' = 2 then clr hv (isOf xs) 64 else hv).set v hv').map (fun x : Nat => Value.int .u8 (x : Int))).toArray 5 ∧ Blk w6 (gh + 1) ((isOf xs).map Value.bool).toArray 4 ∧ Rel (setH xs hs v hv') ((if hv' = 2 then clr hv (isOf xs) 64 else hv).set v hv') (isOf xs) xs ∧ Below w.heap.size w w6 from ⟨by omega, Hp5.out.later hB6, Hbh5.out.later hB6, Hbi5.out.later hB6, HR7.out, hB5.trans (hB6.mono hB5.size)⟩)
                                          clear hB6
                                          go_wp2
                                          go_roundw
                                          case rel => first | exact ⟨k + 1, _, _, _, by omega, by omega, by go_num, Hend.out⟩ | ((repeat apply Exists.intro); exact ⟨⟨k + 1, _, _, _, by omega, by omega, by go_num, Hend.out⟩, rfl⟩)
                                          case measure => simp [intOf]; omega
                                      · have hcur : clr hv (isOf xs) q = if hv' = 2 then clr hv (isOf xs) 64 else hv := by
                                          rw [if_neg h2, hq0 h2, clr_zero hv _ Hr.out.lh]
                                        have h2' : (hv' : Int) ≠ 2 := by omega
                                        have h2b : ((hv' : Int) == 2) = false := by rw [beq_eq_false_iff_ne]; exact h2'
                                        have hqq := hq0 h2
                                        clear h2
                                        have hcx := right_rows wr gh (gh + 1) (clr hv (isOf xs) q) (isOf xs) hbh hbi v (by rw [clr_len]; exact hv64) (by rw [Hr.out.lb]; exact hv64)
                                        have hch := hcx.1
                                        generalize (clr hv (isOf xs) q).getD v 0 = ov2 at hch
                                        have hfr := hbh.free v
                                        have Hbh5 := hid (show Blk (wr.setCell ⟨gh, v, none⟩ (.int .u8 (hv' : Int))) gh (((if hv' = 2 then clr hv (isOf xs) 64 else hv).set v hv').map (fun x : Nat => Value.int .u8 (x : Int))).toArray 5 from by
                                          rw [← hcur, List.map_set]
                                          simpa using hbh.set v (.int .u8 (hv' : Int)))
                                        have Hbi5 := hid (hbi.setOther ⟨gh, v, none⟩ (by simp) (.int .u8 (hv' : Int)))
                                        have Hp5 := hid (hp.other (grown_setCell wr gh v (.int .u8 (hv' : Int))) (by omega) (by omega) (fun h0 a ha => by have := HAlt.out h0 a ha; omega))
                                        have hB5 := hB.setCell (p := (⟨gh, v, none⟩ : Addr)) hgb (.int .u8 (hv' : Int))
                                        clear hcx hbh hbi hba hp hB hcur hq hq0
                                        go_upto_region 31 with (fail)
                                        generalize hw5 : World.setCell wr _ _ = w5
                                        rw [hw5] at Hbh5 Hbi5 Hp5 hB5
                                        clear hw5 hch hfr hca0 hca1
                                        have hrt := right_any b g n7 A' n c' xs (setH xs hs v hv') gh (gh + 1) ((if hv' = 2 then clr hv (isOf xs) 64 else hv).set v hv') (isOf xs) w5 Hp5.out Hbh5.out Hbi5.out HR7.out
                                        go_wp2_with fail
                                        refine hrt.mono ?_
                                        rintro e w6 ⟨rfl, hB6⟩
                                        clear hrt
                                        have Hend := hid (show n7 ≤ 1000 + 2 * (k + 1) ∧ PS w6 b g n7 A' n c' xs (setH xs hs v hv') ∧ Blk w6 gh (((if hv' = 2 then clr hv (isOf xs) 64 else hv).set v hv').map (fun x : Nat => Value.int .u8 (x : Int))).toArray 5 ∧ Blk w6 (gh + 1) ((isOf xs).map Value.bool).toArray 4 ∧ Rel (setH xs hs v hv') ((if hv' = 2 then clr hv (isOf xs) 64 else hv).set v hv') (isOf xs) xs ∧ Below w.heap.size w w6 from ⟨by omega, Hp5.out.later hB6, Hbh5.out.later hB6, Hbi5.out.later hB6, HR7.out, hB5.trans (hB6.mono hB5.size)⟩)
                                        clear hB6
                                        go_wp2
                                        go_roundw
                                        case rel => first | exact ⟨k + 1, _, _, _, by omega, by omega, by go_num, Hend.out⟩ | ((repeat apply Exists.intro); exact ⟨⟨k + 1, _, _, _, by omega, by omega, by go_num, Hend.out⟩, rfl⟩)
                                        case measure => simp [intOf]; omega
                                  · have hov3' : (ov : Int) ≠ 3 := by omega
                                    have hov3b : ((ov : Int) == 3) = false := by rw [beq_eq_false_iff_ne]; exact hov3'
                                    clear hn3 hov3 hdd hv3
                                    go_upto_block 7 with (fail)
                                    have Hz0 := hid (show Blk w7 gh ((clr hv (isOf xs) 0).map (fun x : Nat => Value.int .u8 (x : Int))).toArray 5 from by rw [clr_zero hv _ Hr.out.lh]; exact Hbh7.out)
                                    clear hch hci hfr
                                    go_wp2
                                    go_loopw [15] (fun i w' => ∃ q : Nat, q ≤ 64 ∧ (hv' ≠ 2 → q = 0) ∧ i = .int .i64 (q : Int) ∧ Blk w' gh ((clr hv (isOf xs) q).map (fun x : Nat => Value.int .u8 (x : Int))).toArray 5 ∧ Blk w' (gh + 1) ((isOf xs).map Value.bool).toArray 4 ∧ Blk w' ga #[.int .i64 (v : Int), .int .u8 (hv' : Int)] 43 ∧ PS w' b g n7 A' n c' xs (setH xs hs v hv') ∧ Below w.heap.size w w') (fun i _ => 64 - (intOf i).toNat)
                                    case atStart => exact ⟨0, by omega, fun _ => rfl, rfl, Hz0.out, Hbi7.out, Hba7.out, Hp7.out, hB7⟩
                                    case round =>
                                      clear hB7 Hz0 Hba7 Hbi7 Hbh7 Hp7 hca0 hca1
                                      obtain ⟨q, hq, hq0, rfl, hbh, hbi, hba, hp, hB⟩ := hrel
                                      have hca0 : wr.cell? ⟨ga, 0, none⟩ = some (.int .i64 (v : Int)) := hba.cell 0
                                      have hca1 : wr.cell? ⟨ga, 1, none⟩ = some (.int .u8 (hv' : Int)) := hba.cell 1
                                      by_cases h2 : hv' = 2
                                      · have h2' : (hv' : Int) = 2 := by omega
                                        have h2b : ((hv' : Int) == 2) = true := by rw [beq_iff_eq]; exact h2'
                                        have H2 := hid h2
                                        clear h2 h2'
                                        by_cases hq64 : q < 64
                                        · have hq64' : (q : Int) < 64 := by omega
                                          obtain ⟨hch, hci⟩ := right_rows wr gh (gh + 1) (clr hv (isOf xs) q) (isOf xs) hbh hbi q (by rw [clr_len]; exact hq64) (by rw [Hr.out.lb]; exact hq64)
                                          rw [clr_same, if_neg (by omega)] at hch
                                          have hfr := hbh.free q
                                          cases hbq : (isOf xs).getD q false
                                          · rw [hbq] at hci
                                            have Hk := hid (clr_keep hv (isOf xs) q (by rw [hbq]; simp))
                                            clear hbq hch hfr
                                            go_wp2
                                            go_roundw
                                            case rel => exact ⟨q + 1, by omega, fun h => absurd H2.out h, by go_num, by rw [Hk.out]; exact hbh, hbi, hba, hp, hB⟩
                                            case measure => simp [intOf]; omega
                                          · rw [hbq] at hci
                                            by_cases hqv : hv.getD q 0 = 2
                                            · have Hk := hid (clr_hit hv (isOf xs) q hq64 ⟨hbq, hqv⟩)
                                              rw [hqv] at hch
                                              have hch : wr.cell? ⟨gh, q, none⟩ = some (.int .u8 2) := hch
                                              have Hb1 := hid (show Blk (wr.setCell ⟨gh, q, none⟩ (.int .u8 1)) gh ((clr hv (isOf xs) (q + 1)).map (fun x : Nat => Value.int .u8 (x : Int))).toArray 5 from by
                                                rw [Hk.out, List.map_set]
                                                simpa using hbh.set q (.int .u8 1))
                                              have Hb2 := hid (hbi.setOther ⟨gh, q, none⟩ (by simp) (.int .u8 1))
                                              have Hb3 := hid (hba.setOther ⟨gh, q, none⟩ (by simp; omega) (.int .u8 1))
                                              have Hb4 := hid (hp.other (grown_setCell wr gh q (.int .u8 1)) (by omega) (by omega) (fun h0 a ha => by have := HAlt.out h0 a ha; omega))
                                              have HB := hid (hB.setCell (p := (⟨gh, q, none⟩ : Addr)) hgb (.int .u8 1))
                                              clear hbq hqv hbh hbi hba hp hB
                                              go_wp2
                                              go_roundw
                                              case rel => exact ⟨q + 1, by omega, fun h => absurd H2.out h, by go_num, Hb1.out, Hb2.out, Hb3.out, Hb4.out, HB.out⟩
                                              case measure => simp [intOf]; omega
                                            · have Hk := hid (clr_keep hv (isOf xs) q (by rw [hbq]; simpa using hqv))
                                              have hqv' : ((hv.getD q 0 : Nat) : Int) ≠ 2 := by omega
                                              have hqvb : (((hv.getD q 0 : Nat) : Int) == 2) = false := by rw [beq_eq_false_iff_ne]; exact hqv'
                                              generalize hv.getD q 0 = oq at *
                                              clear hbq hfr hqv
                                              go_wp2
                                              go_roundw
                                              case rel => exact ⟨q + 1, by omega, fun h => absurd H2.out h, by go_num, by rw [Hk.out]; exact hbh, hbi, hba, hp, hB⟩
                                              case measure => simp [intOf]; omega
                                        · have hcur : clr hv (isOf xs) q = if hv' = 2 then clr hv (isOf xs) 64 else hv := by
                                            rw [if_pos H2.out, show q = 64 by omega]
                                          have hcx := right_rows wr gh (gh + 1) (clr hv (isOf xs) q) (isOf xs) hbh hbi v (by rw [clr_len]; exact hv64) (by rw [Hr.out.lb]; exact hv64)
                                          have hch := hcx.1
                                          generalize (clr hv (isOf xs) q).getD v 0 = ov2 at hch
                                          have hfr := hbh.free v
                                          have Hbh5 := hid (show Blk (wr.setCell ⟨gh, v, none⟩ (.int .u8 (hv' : Int))) gh (((if hv' = 2 then clr hv (isOf xs) 64 else hv).set v hv').map (fun x : Nat => Value.int .u8 (x : Int))).toArray 5 from by
                                            rw [← hcur, List.map_set]
                                            simpa using hbh.set v (.int .u8 (hv' : Int)))
                                          have Hbi5 := hid (hbi.setOther ⟨gh, v, none⟩ (by simp) (.int .u8 (hv' : Int)))
                                          have Hp5 := hid (hp.other (grown_setCell wr gh v (.int .u8 (hv' : Int))) (by omega) (by omega) (fun h0 a ha => by have := HAlt.out h0 a ha; omega))
                                          have hB5 := hB.setCell (p := (⟨gh, v, none⟩ : Addr)) hgb (.int .u8 (hv' : Int))
                                          clear hcx hbh hbi hba hp hB hcur hq hq0
                                          go_upto_region 31 with (fail)
                                          generalize hw5 : World.setCell wr _ _ = w5
                                          rw [hw5] at Hbh5 Hbi5 Hp5 hB5
                                          clear hw5 hch hfr hca0 hca1
                                          have hrt := right_any b g n7 A' n c' xs (setH xs hs v hv') gh (gh + 1) ((if hv' = 2 then clr hv (isOf xs) 64 else hv).set v hv') (isOf xs) w5 Hp5.out Hbh5.out Hbi5.out HR7.out
                                          go_wp2_with fail
                                          refine hrt.mono ?_
                                          rintro e w6 ⟨rfl, hB6⟩
                                          clear hrt
                                          have Hend := hid (show n7 ≤ 1000 + 2 * (k + 1) ∧ PS w6 b g n7 A' n c' xs (setH xs hs v hv') ∧ Blk w6 gh (((if hv' = 2 then clr hv (isOf xs) 64 else hv).set v hv').map (fun x : Nat => Value.int .u8 (x : Int))).toArray 5 ∧ Blk w6 (gh + 1) ((isOf xs).map Value.bool).toArray 4 ∧ Rel (setH xs hs v hv') ((if hv' = 2 then clr hv (isOf xs) 64 else hv).set v hv') (isOf xs) xs ∧ Below w.heap.size w w6 from ⟨by omega, Hp5.out.later hB6, Hbh5.out.later hB6, Hbi5.out.later hB6, HR7.out, hB5.trans (hB6.mono hB5.size)⟩)
                                          clear hB6
                                          go_wp2
                                          go_roundw
                                          case rel => first | exact ⟨k + 1, _, _, _, by omega, by omega, by go_num, Hend.out⟩ | ((repeat apply Exists.intro); exact ⟨⟨k + 1, _, _, _, by omega, by omega, by go_num, Hend.out⟩, rfl⟩)
                                          case measure => simp [intOf]; omega
                                      · have hcur : clr hv (isOf xs) q = if hv' = 2 then clr hv (isOf xs) 64 else hv := by
                                          rw [if_neg h2, hq0 h2, clr_zero hv _ Hr.out.lh]
                                        have h2' : (hv' : Int) ≠ 2 := by omega
                                        have h2b : ((hv' : Int) == 2) = false := by rw [beq_eq_false_iff_ne]; exact h2'
                                        have hqq := hq0 h2
                                        clear h2
                                        have hcx := right_rows wr gh (gh + 1) (clr hv (isOf xs) q) (isOf xs) hbh hbi v (by rw [clr_len]; exact hv64) (by rw [Hr.out.lb]; exact hv64)
                                        have hch := hcx.1
                                        generalize (clr hv (isOf xs) q).getD v 0 = ov2 at hch
                                        have hfr := hbh.free v
                                        have Hbh5 := hid (show Blk (wr.setCell ⟨gh, v, none⟩ (.int .u8 (hv' : Int))) gh (((if hv' = 2 then clr hv (isOf xs) 64 else hv).set v hv').map (fun x : Nat => Value.int .u8 (x : Int))).toArray 5 from by
                                          rw [← hcur, List.map_set]
                                          simpa using hbh.set v (.int .u8 (hv' : Int)))
                                        have Hbi5 := hid (hbi.setOther ⟨gh, v, none⟩ (by simp) (.int .u8 (hv' : Int)))
                                        have Hp5 := hid (hp.other (grown_setCell wr gh v (.int .u8 (hv' : Int))) (by omega) (by omega) (fun h0 a ha => by have := HAlt.out h0 a ha; omega))
                                        have hB5 := hB.setCell (p := (⟨gh, v, none⟩ : Addr)) hgb (.int .u8 (hv' : Int))
                                        clear hcx hbh hbi hba hp hB hcur hq hq0
                                        go_upto_region 31 with (fail)
                                        generalize hw5 : World.setCell wr _ _ = w5
                                        rw [hw5] at Hbh5 Hbi5 Hp5 hB5
                                        clear hw5 hch hfr hca0 hca1
                                        have hrt := right_any b g n7 A' n c' xs (setH xs hs v hv') gh (gh + 1) ((if hv' = 2 then clr hv (isOf xs) 64 else hv).set v hv') (isOf xs) w5 Hp5.out Hbh5.out Hbi5.out HR7.out
                                        go_wp2_with fail
                                        refine hrt.mono ?_
                                        rintro e w6 ⟨rfl, hB6⟩
                                        clear hrt
                                        have Hend := hid (show n7 ≤ 1000 + 2 * (k + 1) ∧ PS w6 b g n7 A' n c' xs (setH xs hs v hv') ∧ Blk w6 gh (((if hv' = 2 then clr hv (isOf xs) 64 else hv).set v hv').map (fun x : Nat => Value.int .u8 (x : Int))).toArray 5 ∧ Blk w6 (gh + 1) ((isOf xs).map Value.bool).toArray 4 ∧ Rel (setH xs hs v hv') ((if hv' = 2 then clr hv (isOf xs) 64 else hv).set v hv') (isOf xs) xs ∧ Below w.heap.size w w6 from ⟨by omega, Hp5.out.later hB6, Hbh5.out.later hB6, Hbi5.out.later hB6, HR7.out, hB5.trans (hB6.mono hB5.size)⟩)
                                        clear hB6
                                        go_wp2
                                        go_roundw
                                        case rel => first | exact ⟨k + 1, _, _, _, by omega, by omega, by go_num, Hend.out⟩ | ((repeat apply Exists.intro); exact ⟨⟨k + 1, _, _, _, by omega, by omega, by go_num, Hend.out⟩, rfl⟩)
                                        case measure => simp [intOf]; omega
                  · by_cases hkm : k < m
                    · have hk6 : ¬ k < 60 := fun h => hlt ⟨hkm, h⟩
                      clear hlt
                      have h1 := how_any b g nn A' n c' xs hs 64 wr Hp.out (i64wf_of (by decide))
                      have h2 := how_any b g nn A' n c' xs hs (-1) wr Hp.out (i64wf_of (by decide))
                      rw [hAt_out hs 64 (by decide)] at h1
                      rw [hAt_out hs (-1) (by decide)] at h2
                      have h1 : Calls Try.prog 21 #[.pointer (some ⟨b, 0, none⟩), .int .i64 64] wr fun e w' => e = .returned (.int .u8 3) ∧ w' = wr := h1
                      have h2 : Calls Try.prog 21 #[.pointer (some ⟨b, 0, none⟩), .int .i64 (-1)] wr fun e w' => e = .returned (.int .u8 3) ∧ w' = wr := h2
                      go_wp2_with fail
                      refine h1.mono ?_
                      rintro e wr ⟨rfl, rfl⟩
                      clear h1
                      go_wp2_with fail
                      refine h2.mono ?_
                      rintro e wr ⟨rfl, rfl⟩
                      go_wp2
                      go_ret
                      exact ⟨rfl, hB⟩
                    · clear hlt
                      have h1 := how_any b g nn A' n c' xs hs 64 wr Hp.out (i64wf_of (by decide))
                      have h2 := how_any b g nn A' n c' xs hs (-1) wr Hp.out (i64wf_of (by decide))
                      rw [hAt_out hs 64 (by decide)] at h1
                      rw [hAt_out hs (-1) (by decide)] at h2
                      have h1 : Calls Try.prog 21 #[.pointer (some ⟨b, 0, none⟩), .int .i64 64] wr fun e w' => e = .returned (.int .u8 3) ∧ w' = wr := h1
                      have h2 : Calls Try.prog 21 #[.pointer (some ⟨b, 0, none⟩), .int .i64 (-1)] wr fun e w' => e = .returned (.int .u8 3) ∧ w' = wr := h2
                      go_wp2_with fail
                      refine h1.mono ?_
                      rintro e wr ⟨rfl, rfl⟩
                      clear h1
                      go_wp2_with fail
                      refine h2.mono ?_
                      rintro e wr ⟨rfl, rfl⟩
                      go_wp2
                      go_ret
                      exact ⟨rfl, hB⟩
          · exact absurd hR hR'
        · have hb : riseB xs n = false := by
            cases hb : riseB xs n
            · rfl
            · rw [← Hl.out] at hb
              exact absurd ((rise_iff xs).1 hb) hR
          rw [hb]
          clear hb
          go_wp2_with fail
          refine (new_any A n c xs wr (Hz.out.below hB) hnc (by omega)).mono ?_
          rintro e w2 ⟨hB2, ⟨hR', b, g, A', c', rfl, hp, hg⟩ | ⟨-, rfl⟩⟩
          · exact absurd hR' hR
          · go_wp2
            go_ret
            exact ⟨rfl, hB.trans (hB2.mono hB.size)⟩
end Go.Proofs.Ytnlidokfmpfepaa.Pool
