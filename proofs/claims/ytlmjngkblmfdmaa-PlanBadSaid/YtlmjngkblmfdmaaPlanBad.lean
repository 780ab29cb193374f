import Derived.Test.YtlmjngkblmfdmaaPlanForms
import Derived.Deep.RegionLaw
import Derived.Deep.DeepCutAuto
set_option linter.unusedVariables false
set_option linter.unusedSimpArgs false
namespace Go.Proofs.Ytlmjngkblmfdmaa.Plan
open Go.RowKit Go.Proofs.Ytlmjngkblmfdmaa.Kit

set_option maxHeartbeats 4000000 in
set_option maxRecDepth 100000 in
theorem law_bad (B P S : Int) (A : Option Addr) (n c : Nat) (bad : List Int) (q : Int) (hq : 0 ≤ q ∧ q ≤ 255) (w : World) (hz : Nums w .i64 A n bad) (hnc : n ≤ c) :
    Calls Try.prog 11 #[.agg #[.int .i64 B, .int .i64 P, .int .i64 S, .slice A n c], .int .u8 q] w fun e w' => e = .returned (.bool true) ∧ Below w.heap.size w w' := by
  obtain ⟨q0, q1⟩ := hq
  go_enter Try.func11, Try.ntmps11
  go_wp2_with fail
  have hg0 := Geo.boxed (w := w) (B := B) (P := P) (S := S) (c := c) hz
  generalize w.alloc (.cells #[.int .i64 B, .int .i64 P, .int .i64 S, .slice A n c] 36) = w1 at *
  have hn := hz.most
  refine (awake_any _).mono ?_
  rintro e w2 ⟨rfl, hB2⟩
  have hg2 := hg0.next hB2
  clear hg0 hB2
  obtain ⟨c0, c1, c2, c3⟩ := hg2.cells
  by_cases hsm : sml B P S n = true
  case neg =>
    have hsm' : sml B P S n = false := by simpa using hsm
    go_wp2_with fail
    refine (small_any B P S A n c _ hn).mono ?_
    rintro e w3 ⟨rfl, hB3⟩
    rw [hsm']
    have hg3 := hg2.next hB3
    go_wp2_with fail
    refine (awake_any _).mono ?_
    rintro e w4 ⟨rfl, hB4⟩
    go_wp2
    go_ret
    exact ⟨rfl, (hg3.next hB4).bel⟩
  go_wp2_with fail
  refine (small_any B P S A n c _ hn).mono ?_
  rintro e w3 ⟨rfl, hB3⟩
  rw [hsm]
  obtain ⟨e1, e2, e3, e4, e5, e6, e7⟩ := sml_yes hsm
  clear hsm c0 c1 c2 c3
  have hg3 := hg2.next hB3
  clear hg2 hB3
  obtain ⟨c0, c1, c2, c3⟩ := hg3.cells
  by_cases hfm : fm B P S bad = true
  case neg =>
    have hfm' : fm B P S bad = false := by simpa using hfm
    have Hfm := hid hfm'
    clear hfm hfm'
    go_wp2_with fail
    refine (form_any B P S A n c bad _ hg3.nums hnc).mono ?_
    rintro e w4 ⟨rfl, hB4⟩
    rw [Hfm.out]
    have hg4 := hg3.next hB4
    go_wp2_with fail
    refine (awake_any _).mono ?_
    rintro e w5 ⟨rfl, hB5⟩
    go_wp2
    go_ret
    exact ⟨rfl, (hg4.next hB5).bel⟩
  have Hfm := hid hfm
  obtain ⟨f1, f2, f3, f4, f5, f6, f7, f8⟩ := fm_yes hfm
  clear hfm
  go_wp2_with fail
  refine (form_any B P S A n c bad _ hg3.nums hnc).mono ?_
  rintro e w4 ⟨rfl, hB4⟩
  rw [Hfm.out]
  clear c0 c1 c2 c3
  have hg4 := hg3.next hB4
  clear hg3 hB4
  obtain ⟨c0, c1, c2, c3⟩ := hg4.cells
  have Hok := hid f7
  clear f7
  have hr := (rooms Hfm.out).1
  have hlen := usb_len B.toNat bad
  have Hwf := hid (usb_wf B.toNat bad (by omega))
  go_wp2_with fail
  refine (usable_any B P S A n c bad _ hg4.nums (by omega)).mono ?_
  rintro e w5 ⟨u5, rfl, hu5, hB5⟩
  have hg5 := hg4.next hB5
  replace hu5 := own_mono hu5 hg4.bel.size
  clear c0 c1 c2 c3
  obtain ⟨c0, c1, c2, c3⟩ := hg5.cells
  obtain ⟨uA, uc, rfl⟩ := own_slice hu5
  have hgl : w.heap.size < w5.heap.size := hg5.blk.lt
  have hgl2 : w.heap.size < w5.heap.size + 1 := by omega
  clear hg4 hB5
  have HBA := hid (show Below w5.heap.size w5 (w5.alloc (.cells #[.int .i64 B, .int .i64 P, .int .i64 S, .slice none 0 0] 36)) from (Below.refl _ _).alloc (Nat.le_refl _) _)
  go_wp2_with (at_builtin; refine append_nums w.heap.size rfl _ _ 34 3 .i64 8 rfl Try.underlying34 info3 (.slice none 0 0) 0 [] A n c bad (by rfl) (by rfl) (World.ownsRow_nil _ _ _ _) (hg5.nums.below HBA.out) (by simp; omega) (by omega) (by omega) ?_; intro v1 w6 hown6 hgr6 hat6; obtain ⟨nA, nc, rfl⟩ := own_slice hown6; have hb6 := (Blk.new w5 #[.int .i64 B, .int .i64 P, .int .i64 S, .slice none 0 0] 36).grown hgr6 (by simp [Value.ownBlock]); have hfr6 := hb6.free 3; have hce6 : w6.cell? ⟨w5.heap.size, 3, none⟩ = some (.slice none 0 0) := (hb6.cell 3).trans rfl; have Hat6 := hid hat6; clear hat6)
  rw [Nat.zero_add] at hown6 Hat6
  rw [List.nil_append] at hown6
  generalize hw7 : w6.setCell ⟨w5.heap.size, 3, none⟩ (.slice nA n nc) = w7
  have hb7 : Blk w7 w5.heap.size #[.int .i64 B, .int .i64 P, .int .i64 S, .slice nA n nc] 36 := by rw [← hw7]; exact hb6.set 3 _
  have hgr6' : Below w5.heap.size w5 w6 := HBA.out.grown hgr6 (by simp) (by simp [Value.ownBlock])
  have hB7 : Below w5.heap.size w5 w7 := by rw [← hw7]; exact hgr6'.setCell (Nat.le_refl _) _
  have hg7 := hg5.next hB7
  have hown7 : w7.ownsRow w.heap.size 3 1 (.slice nA n nc) n (bad.map (Value.int .i64)) := by
    rw [← hw7]; exact ownsRow_setCell_other hown6 (Ne.symm (own_ne hown6 hb6 (by decide))) _
  have hu7 := own_later hu5 hB7
  have hgh : w.heap.size < w5.heap.size := hgl
  have hne7 : (Value.slice uA (usb B.toNat bad).length uc).ownBlock ≠ (Value.slice nA n nc).ownBlock := by
    intro e
    obtain ⟨hcu, hnu⟩ := own_reads hu5 Hwf.out
    obtain ⟨bu, ou, rfl, -⟩ := hnu.cell 0 (by omega)
    have h1 := hu5.lt bu rfl
    rcases Hat6.out with h | h
    · rw [h] at e; cases e
    · rw [h] at e
      simp [Value.ownBlock] at e
      omega
  generalize hgw : w5.heap.size = gh at *
  clear hw7 hgr6' hB7 hg5 hu5 hown6 hb6 hfr6 hce6 hgr6 HBA Hat6 c0 c1 c2 c3 hgl2 hgw
  obtain ⟨hcu, hnu⟩ := own_reads hu7 Hwf.out
  have hL : (0 : Int) < ((usb B.toNat bad).length : Int) := by omega
  have hj0 : 0 ≤ q % ((usb B.toNat bad).length : Int) := Int.emod_nonneg _ (by omega)
  have hj1 : q % ((usb B.toNat bad).length : Int) < (usb B.toNat bad).length := Int.emod_lt_of_pos _ hL
  have htm : q.tmod (usb B.toNat bad).length = q % ((usb B.toNat bad).length : Int) := Int.tmod_eq_emod_of_nonneg (by omega)
  obtain ⟨jn, hjn⟩ : ∃ jn : Nat, q % ((usb B.toNat bad).length : Int) = jn := ⟨(q % ((usb B.toNat bad).length : Int)).toNat, by omega⟩
  have hjl : jn < (usb B.toNat bad).length := by omega
  rw [hjn] at htm hj0 hj1
  obtain ⟨bu, ou, rfl, hcx⟩ := hnu.at_ jn hjl
  have hx : (usb B.toNat bad).getD jn 0 ∈ usb B.toNat bad := by
    rw [List.getD_eq_getElem?_getD, List.getElem?_eq_getElem hjl]
    exact List.getElem_mem _
  have hx2 := (usb_mem _ _ _).1 hx
  obtain ⟨hx3, hx4, hx5⟩ := hx2
  have hxB : (usb B.toNat bad).getD jn 0 < B := by omega
  have Hc := hid (cap_bad (P := P) (S := S) hx3 hx5 hxB)
  have Hf := hid (fm_bad Hfm.out hx3 hx5 hxB)
  clear hx hx4 hjn hnu hcu
  have Hx5 := hid hx5
  clear hx5
  generalize hx : (usb B.toNat bad).getD jn 0 = x at *
  have Hx := hid hx
  clear hx
  obtain ⟨i0, hi', hz0', hz1', hz2'⟩ := info_parts info3
  have hi := hid hi'
  have hz0 := hid hz0'
  have hz1 := hid hz1'
  have hz2 := hid hz2'
  clear hi' hz0' hz1' hz2'
  have c73 : w7.cell? ⟨gh, 3, none⟩ = some (.slice nA n nc) := (hb7.cell 3).trans rfl
  have f73 : w7.frozen? ⟨gh, 3, none⟩ = false := hb7.free 3
  have Hne7 := hid hne7
  clear hne7
  have hne1 := World.new_ne w7 _ c73
  have hne2 := World.new_ne w7 _ hcx
  have hrem : q % ((usb B.toNat bad).length : Int) = jn := by rw [← htm]; exact (Int.tmod_eq_emod_of_nonneg (by omega)).symm
  generalize hLL : (usb B.toNat bad).length = L at *
  have HLL := hid hLL
  clear hLL
  have hL0 : ¬ L = 0 := by omega
  have hL1 : ((L : Int) == 0) = false := beq_eq_false_iff_ne.2 (by omega)
  have hbs := hg7.bel.size
  have hml : n + 1 ≤ maxLen := Nat.le_trans (show n + 1 ≤ 200 by omega) (by decide)
  have hwj : IntKind.i64.wrap (jn : Int) = jn := IntWalk.i64_in _ (by omega)
  have hwq : IntKind.i64.wrap q = q := IntWalk.i64_in _ (by omega)
  have hghlt : gh < w7.heap.size := hb7.lt
  have hbult : bu < w7.heap.size := World.block_lt_of_cell? w7 _ hcx
  go_cut [] (fun wx => ∃ (g8 cap8 : Nat), Blk wx gh #[.int .i64 B, .int .i64 P, .int .i64 S, .slice (some ⟨g8, 0, none⟩) (n + 1) cap8] 36 ∧ wx.ownsRow w.heap.size 3 1 (.slice (some ⟨g8, 0, none⟩) (n + 1) cap8) (n + 1) ((bad ++ [x]).map (Value.int .i64)) ∧ Geo w wx w.heap.size B P S A n c bad)
  case first =>
    go_region_law ((refine step_append_lies _ (by rfl) _ _ _ (by rfl) w.heap.size 3 i0 (.int .i64 0) 1 8 Try.underlying34 hi.out hz0.out hz1.out hz2.out rfl ?b1 (.slice nA n nc) n (bad.map (Value.int .i64)) ?c1 ?b2 ⟨w7.heap.size, 0, none⟩ 1 1 [.int .i64 x] ?c2 ?c3 ?b3 ?b4 ?b5 hml ?b6 ?b7 (w7.heap.size + 1) ?b8 ?_; (case b2 => exact (hown7.alloc _).drew); (case c1 => rfl); (case c2 => rfl); (case c3 => rfl); (case b3 => exact (World.news_of_block (cs := #[.int .i64 x]) (t := 3) (fr := (0, 0)) (heap_alloc_new w7 _))); (case b4 => simp [Value.oneCell']); (case b5 => omega); (case b6 => omega); (case b7 => exact (Nat.le_trans hbs (by simp))); (case b8 => simp); (case b1 => omega); intro g8 cap8 w8 hown8 hgr8 hat8 hlt8; have hb8 := Blk.grown (w := (w7.alloc (.cells #[.int .i64 x] 3)).drew) (hb7.alloc _) hgr8 (own_ne hown7 hb7 (by decide)); have hka : w8.cell? ⟨gh, 3, none⟩ = some (.slice nA n nc) := (hb8.cell 3).trans rfl; have hf8 := hb8.free 3))
    all_goals
      go_wp2_with fail
      go_meet
      have hbel9 : Below w.heap.size w (w8.setCell ⟨gh, 3, none⟩ (.slice (some ⟨g8, 0, none⟩) (n + 1) cap8)) := ((hg7.bel.alloc hbs (.cells #[.int .i64 x] 3)).drew.grown hgr8 (Nat.le_trans hbs (by simp)) (fun k hk => (hown7.lt k hk).1)).setCell (Nat.le_of_lt hgl) _
      refine ⟨g8, cap8, hb8.set 3 _, ?_, ⟨?_, hz.below hbel9, hbel9, hg7.base⟩⟩
      · rw [List.map_append]
        exact ownsRow_setCell_other hown8 (Ne.symm (own_ne hown8 hb8 (by decide))) _
      · exact ((Blk.grown (w := (w7.alloc (.cells #[.int .i64 x] 3)).drew) (hg7.blk.alloc _) hgr8 (own_ne hown7 hg7.blk (by decide)))).setOther _ (Nat.ne_of_lt hgl) _
  case rest =>
    obtain ⟨g8, cap8, hb9, hown9, hg9⟩ := hcut
    have hwb : ∀ y ∈ bad ++ [x], (Lit.int .i64 y).wf = true := by
      intro y hy
      rcases List.mem_append.1 hy with h | h
      · exact hz.wf y h
      · rw [List.mem_singleton] at h
        subst h
        simp [Lit.wf, IntKind.min, IntKind.max, IntKind.signed, IntKind.bits]
        omega
    obtain ⟨hcap8, hnum9⟩ := own_reads hown9 hwb
    have hh9 : Geo w wc gh B P S (some ⟨g8, 0, none⟩) (n + 1) cap8 (bad ++ [x]) := ⟨hb9, hnum9, hg9.bel, Nat.le_of_lt hgl⟩
    clear hwb hb9 hown9 hnum9 hz hg7 hown7 hb7 hu7 hcx c73 f73 hne1 hne2 hj0 hj1 htm hjl hrem hwj hwq
    have Hc1 := hid Hc.out.1
    have Hc2 := hid Hc.out.2
    have hlw : IntKind.i64.wrap ((L : Int) - 1) = L - 1 := IntWalk.i64_in _ (by omega)
    have hm := mul_bd (a := P) (b := L - S - 1) (A := 32) (B := 100) ⟨by omega, by omega⟩ ⟨by omega, by omega⟩
    have hcb : cap B P S bad ≤ 4000 := by unfold cap; rw [HLL.out]; omega
    have hw2 : IntKind.i64.wrap (cap B P S bad - P) = cap B P S bad - P := IntWalk.i64_in _ (by omega)
    clear hL hr hlen
    have hdd : (decide (P < cap B P S bad) == decide (P < cap B P S bad)) = true := by simp
    go_wp2
    go_region_held3 (fun w' => w'.cell? ⟨w.heap.size, 0, none⟩ = some (.int .i64 B) ∧ w'.cell? ⟨w.heap.size, 1, none⟩ = some (.int .i64 P) ∧ w'.cell? ⟨w.heap.size, 2, none⟩ = some (.int .i64 S) ∧ w'.cell? ⟨w.heap.size, 3, none⟩ = some (.slice A n c) ∧ w'.cell? ⟨gh, 0, none⟩ = some (.int .i64 B) ∧ w'.cell? ⟨gh, 1, none⟩ = some (.int .i64 P) ∧ w'.cell? ⟨gh, 2, none⟩ = some (.int .i64 S) ∧ w'.cell? ⟨gh, 3, none⟩ = some (.slice (some ⟨g8, 0, none⟩) (n + 1) cap8)) (first | exact ⟨hg16.cells.1, hg16.cells.2.1, hg16.cells.2.2.1, hg16.cells.2.2.2, hh16.cells⟩ | exact ⟨hg15.cells.1, hg15.cells.2.1, hg15.cells.2.2.1, hg15.cells.2.2.2, hh15.cells⟩ | exact ⟨hg14.cells.1, hg14.cells.2.1, hg14.cells.2.2.1, hg14.cells.2.2.2, hh14.cells⟩ | exact ⟨hg13.cells.1, hg13.cells.2.1, hg13.cells.2.2.1, hg13.cells.2.2.2, hh13.cells⟩ | exact ⟨hg12.cells.1, hg12.cells.2.1, hg12.cells.2.2.1, hg12.cells.2.2.2, hh12.cells⟩ | exact ⟨hg11.cells.1, hg11.cells.2.1, hg11.cells.2.2.1, hg11.cells.2.2.2, hh11.cells⟩ | exact ⟨hg10.cells.1, hg10.cells.2.1, hg10.cells.2.2.1, hg10.cells.2.2.2, hh10.cells⟩ | exact ⟨hg9.drew.cells.1, hg9.drew.cells.2.1, hg9.drew.cells.2.2.1, hg9.drew.cells.2.2.2, hh9.drew.cells⟩)
      (first
        | (((with_reducible refine (meta_any B P S (some ⟨g8, 0, none⟩) (n + 1) cap8 (bad ++ [x]) _ ?hz (by omega) (by omega) (by omega) (by omega) (by omega)).mono ?_); (case hz => exact hh15.nums); rintro e w16 ⟨rfl, hbel⟩; have hg16 := hg15.next hbel; have hh16 := hh15.next hbel))
        | (((with_reducible refine (rcap_any B P S (some ⟨g8, 0, none⟩) (n + 1) cap8 (bad ++ [x]) _ ?hz (by omega) (by omega) (by omega) (by omega) (by omega)).mono ?_); (case hz => exact hh14.nums); rintro e w15 ⟨rfl, hbel⟩; have hg15 := hg14.next hbel; have hh15 := hh14.next hbel))
        | (((with_reducible refine (cap_any B P S A n c bad _ ?hz (by omega) (by omega) (by omega) (by omega) (by omega)).mono ?_); (case hz => exact hg13.nums); rintro e w14 ⟨rfl, hbel⟩; have hg14 := hg13.next hbel; have hh14 := hh13.next hbel))
        | (((with_reducible refine (form_any B P S (some ⟨g8, 0, none⟩) (n + 1) cap8 (bad ++ [x]) _ ?hz hcap8).mono ?_); (case hz => exact hh12.nums); rintro e w13 ⟨rfl, hbel⟩; rw [Hf.out]; have hg13 := hg12.next hbel; have hh13 := hh12.next hbel))
        | (((with_reducible refine (cap_any B P S A n c bad _ ?hz (by omega) (by omega) (by omega) (by omega) (by omega)).mono ?_); (case hz => exact hg11.nums); rintro e w12 ⟨rfl, hbel⟩; have hg12 := hg11.next hbel; have hh12 := hh11.next hbel))
        | (((with_reducible refine (cap_any B P S (some ⟨g8, 0, none⟩) (n + 1) cap8 (bad ++ [x]) _ ?hz (by omega) (by omega) (by omega) (by omega) (by omega)).mono ?_); (case hz => exact hh10.nums); rintro e w11 ⟨rfl, hbel⟩; rw [Hc2.out]; have hg11 := hg10.next hbel; have hh11 := hh10.next hbel))
        | (((with_reducible refine (usable_any B P S (some ⟨g8, 0, none⟩) (n + 1) cap8 (bad ++ [x]) _ ?hz f2).mono ?_); (case hz => exact hh9.drew.nums); rintro e w10 ⟨v, rfl, hown, hbel⟩; have hg10 := hg9.drew.next hbel; have hh10 := hh9.drew.next hbel; obtain ⟨vA, vc, rfl⟩ := own_slice hown; have hcl : ((usb B.toNat (bad ++ [x])).length : Int) = L - 1 := by rw [Hc1.out])))
    go_wp2
    go_ret
    exact ⟨rfl, hg16.bel⟩
end Go.Proofs.Ytlmjngkblmfdmaa.Plan
