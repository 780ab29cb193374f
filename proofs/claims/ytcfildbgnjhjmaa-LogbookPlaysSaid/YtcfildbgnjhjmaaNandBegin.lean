import Derived.Test.YtcfildbgnjhjmaaNandTorn
import Derived.Deep.DeepCutAuto
import Derived.Lib.SliceRun
set_option linter.unusedVariables false
set_option linter.unusedSimpArgs false
namespace Go.Proofs.Ytcfildbgnjhjmaa.Nand
open Go.RowKit Go.Proofs.Ytcfildbgnjhjmaa.Kit

theorem info8 : (Try.prog.info? 5).map (fun i => (i.zero, i.size, i.bytes)) = some (some (.int .u8 0), 1, 1) := by kernel_rfl
theorem infoP : (Try.prog.info? 39).map (fun i => (i.zero, i.size, i.bytes)) = some (some (.slice none 0 0), 1, 24) := by kernel_rfl
set_option maxHeartbeats 400000 in
theorem clone_own (A : Option Addr) (n c : Nat) (xs : List Int) (w : World) (hz : Nums w .u8 A n xs) (hn : 0 < n) (hl : n ≤ 1000000) :
    Calls Try.prog 41 #[.slice A n c] w fun e w' => ∃ A' c', e = .returned (.slice A' n c') ∧ w'.ownsRow w.heap.size 5 1 (.slice A' n c') n (xs.map (Value.int .u8)) ∧ Below w.heap.size w w' := by
  obtain ⟨b, o, rfl, -⟩ := hz.cell 0 hn
  have Hl := hid hz.len
  have Hw := hid hz.wf
  have HB := hid ((Below.refl w.heap.size w).alloc (Nat.le_refl _) (.cells #[] 5))
  have Hlit := hid (World.ownsRow_lit (base := w.heap.size) (e := 5) (size := 1) w #[] 0 (Nat.le_refl _) (by decide) rfl)
  have heq := Lib.run_eql_slice_nil (P := Try.prog) w 39 5 (some ⟨b, o, none⟩) n c 0 0 Try.underlying39
  go_enter Try.func41, Try.ntmps41
  go_wp2_with (at_builtin; refine append_nums w.heap.size rfl _ _ 39 5 .u8 1 rfl Try.underlying39 info8 (.slice (some ⟨w.heap.size, 0, none⟩) 0 0) 0 [] (some ⟨b, o, none⟩) n c xs (by rfl) (by rfl) Hlit.out (hz.below HB.out) HB.out.size (by omega) (by omega) ?_; intro v1 w6 hown6 hgr6 hat6)
  go_wp2
  go_ret
  have ho : w6.ownsRow w.heap.size 5 1 v1 n (xs.map (Value.int .u8)) := by simpa using hown6
  obtain ⟨A', c', e⟩ := own_slice ho
  rw [e] at ho ⊢
  exact ⟨A', c', rfl, ho, HB.out.grown hgr6 HB.out.size (by intro k hk; simp [Value.ownBlock] at hk; omega)⟩

theorem setB_setB (N : NA) (i : Nat) (x y : NB) : (N.setB i x).setB i y = N.setB i y := by unfold NA.setB; simp
theorem AR.drewN {w : World} {F : Nat → Prop} {b gb : Nat} {pv : Nat → Value} {wv : Value} {N : NA} (h : AR w F b gb pv wv N) (n : Nat) : AR (w.drewN n) F b gb pv wv N := h.keep (fun _ _ => rfl) (Nat.le_refl _)
theorem Arr.drewN {w : World} {F : Nat → Prop} {b : Nat} {N : NA} (h : Arr w F b N) (n : Nat) : Arr (w.drewN n) F b N := h.keep (fun _ _ => rfl) (Nat.le_refl _)
theorem wf_tick {N : NA} (h : N.Wf) (ho : N.off = false) : N.way = none := by
  cases hw : N.way with
  | none => rfl
  | some u =>
    have := (h.way u hw).1
    rw [ho] at this
    cases this
theorem wf_begun {N : NA} (h : N.Wf) (ho : N.off = false) (i : Nat) (hi : i < N.bs.length) : (N.begun i).Wf := by
  have h1 : N.tick.Wf := ⟨h.nb, h.np, h.len, fun u hu => (by rw [show N.tick.way = N.way from rfl, wf_tick h ho] at hu; exact nomatch hu), (by show N.armed - 1 ≤ 9223372036854775807; have := h.armed; omega), h.doom⟩
  exact h1.setB i _ hi rfl (by show (N.blk i).doom - 1 ≤ 9223372036854775807; have := h.doom i hi; omega)

set_option maxRecDepth 100000 in
set_option maxHeartbeats 4000000 in
theorem begin_any (F : Nat → Prop) (b gb : Nat) (pv : Nat → Value) (wv : Value) (N : NA) (i : Nat) (w : World) (h : AR w F b gb pv wv N) (hi : i < N.bs.length) (ho : N.off = false) :
    Calls Try.prog 42 #[.pointer (some ⟨b, 0, none⟩), .pointer (some ⟨gb, i * 6, none⟩)] w fun e w' => e = .returned (.tuple #[.bool (!(N.begun i).off), .bool ((N.begun i).blk i).dead]) ∧ AR w' F b gb pv wv (N.begun i) ∧ Fr (fun g => g = b ∨ g = gb) w w' := by
  have hway := wf_tick h.wf ho
  rw [blk_begun i i hi, if_pos rfl, begun_off]
  have Hwf := hid (wf_begun h.wf ho i hi)
  obtain ⟨bs, pages, fence, boots, armed, off, ops, way⟩ := N
  obtain rfl : off = false := ho
  obtain rfl : way = none := hway
  have hi : i < bs.length := hi
  have harm : armed ≤ 9223372036854775807 := h.wf.armed
  have hdoom : (bs.getD i default).doom ≤ 9223372036854775807 := h.wf.doom i hi
  have f6 := h.hd.free 6
  have c6 : w.cell? ⟨b, 6, none⟩ = some (.int .i64 ops) := h.hd.cell 6
  have H1 := hid (h.setHd 6 (.int .i64 (wrap64 (ops + 1))) ⟨bs, pages, fence, boots, armed, false, wrap64 (ops + 1), none⟩ rfl rfl rfl ⟨h.wf.nb, h.wf.np, h.wf.len, h.wf.way, h.wf.armed, h.wf.doom⟩)
  have F1 := hid (fr_set (F := fun g => g = b ∨ g = gb) w b 6 (.int .i64 (wrap64 (ops + 1))) (.inl rfl))
  clear h
  show Calls _ _ _ _ fun e w' => e = .returned (.tuple #[.bool (!(armed == 1)), .bool ((bs.getD i default).dead || (bs.getD i default).doom == 1)]) ∧ _
  go_enter Try.func42, Try.ntmps42
  go_upto_region 2 with (fail)
  obtain ⟨w1, hw1⟩ : ∃ W, W = w.setCell ⟨b, 6, none⟩ (.int .i64 (wrap64 (ops + 1))) := ⟨_, rfl⟩
  rw [← hw1] at H1 F1 ⊢
  clear hw1 c6 f6
  have c4 : w1.cell? ⟨b, 4, none⟩ = some (.int .i64 (armed : Int)) := H1.out.hd.cell 4
  have f4 := H1.out.hd.free 4
  go_upto_if 17 with (fail)
  go_cut [] (fun wx => AR wx F b gb pv wv ⟨bs, pages, fence, boots, armed - 1, armed == 1, wrap64 (ops + 1), none⟩ ∧ Fr (fun g => g = b ∨ g = gb) w wx)
  case first =>
    rcases armed with _ | a
    · have hz : ((0 : Nat) : Int) = 0 := rfl
      go_wp2
      go_meet
      case rel => exact ⟨H1.out, F1.out⟩
    · have ha : (((a + 1 : Nat)) : Int) = (a : Int) + 1 := by omega
      have H2 := hid (H1.out.setHd 4 (.int .i64 (a : Int)) ⟨bs, pages, fence, boots, a, false, wrap64 (ops + 1), none⟩ rfl rfl rfl ⟨H1.out.wf.nb, H1.out.wf.np, H1.out.wf.len, H1.out.wf.way, by show a ≤ 9223372036854775807; omega, H1.out.wf.doom⟩)
      have F2 := hid (F1.out.set b 4 (.int .i64 (a : Int)) (.inl (.inl rfl)))
      go_upto_region 4 with (fail)
      obtain ⟨w2, hw2⟩ : ∃ W, W = w1.setCell ⟨b, 4, none⟩ (.int .i64 (a : Int)) := ⟨_, rfl⟩
      rw [← hw2] at H2 F2 ⊢
      clear hw2 c4 f4 ha
      have c4 : w2.cell? ⟨b, 4, none⟩ = some (.int .i64 (a : Int)) := H2.out.hd.cell 4
      have c5 : w2.cell? ⟨b, 5, none⟩ = some (.bool false) := H2.out.hd.cell 5
      have f5 := H2.out.hd.free 5
      by_cases ha0 : a = 0
      · have hb0 : ((a : Int) == 0) = true := by rw [beq_iff_eq]; omega
        have e1 : (a + 1 == 1) = true := by rw [beq_iff_eq]; omega
        have H3 := hid (show AR _ F b gb pv wv ⟨bs, pages, fence, boots, a + 1 - 1, a + 1 == 1, wrap64 (ops + 1), none⟩ from by
          rw [e1]
          exact H2.out.setHd 5 (.bool true) ⟨bs, pages, fence, boots, a, true, wrap64 (ops + 1), none⟩ rfl rfl rfl ⟨H2.out.wf.nb, H2.out.wf.np, H2.out.wf.len, (fun u hu => nomatch hu), H2.out.wf.armed, H2.out.wf.doom⟩)
        have F3 := hid (F2.out.set b 5 (.bool true) (.inl (.inl rfl)))
        clear ha0 e1
        go_wp2
        go_meet
        case rel => exact ⟨H3.out, F3.out⟩
      · have hb0 : ((a : Int) == 0) = false := by rw [beq_eq_false_iff_ne]; omega
        have e1 : (a + 1 == 1) = false := by rw [beq_eq_false_iff_ne]; omega
        have H3 := hid (show AR _ F b gb pv wv ⟨bs, pages, fence, boots, a + 1 - 1, a + 1 == 1, wrap64 (ops + 1), none⟩ from by
          rw [e1]
          exact H2.out.setHd 5 (.bool false) ⟨bs, pages, fence, boots, a, false, wrap64 (ops + 1), none⟩ rfl rfl rfl ⟨H2.out.wf.nb, H2.out.wf.np, H2.out.wf.len, (fun u hu => nomatch hu), H2.out.wf.armed, H2.out.wf.doom⟩)
        have F3 := hid (F2.out.set b 5 (.bool false) (.inl (.inl rfl)))
        clear ha0 e1
        go_wp2
        go_meet
        case rel => exact ⟨H3.out, F3.out⟩
  case rest =>
    obtain ⟨H3, F3⟩ := hcut
    clear H1 F1 c4 f4
    replace H3 := hid H3
    replace F3 := hid F3
    obtain ⟨off', hoff⟩ : ∃ o, o = (armed == 1) := ⟨_, rfl⟩
    have Hwf : Hid (NA.setB ⟨bs, pages, fence, boots, armed - 1, armed == 1, wrap64 (ops + 1), none⟩ i (bs.getD i default).tick).Wf := Hwf
    rw [← hoff] at H3 Hwf
    have Hoff := hid hoff
    clear hoff
    have hset : ∀ x, bs.getD i default = x → bs.set i x = bs := fun x hx => by
      rw [List.getD_eq_getElem?_getD, List.getElem?_eq_getElem hi] at hx
      rw [← (show bs[i] = x from hx), List.set_getElem_self]
    obtain ⟨-, -, -, e3, -, e5⟩ := H3.out.recs i hi
    have f3 := H3.out.row.free (i * 6 + 3)
    have f5 := H3.out.row.free (i * 6 + 5)
    obtain ⟨x, hx⟩ : ∃ x, bs.getD i default = x := ⟨_, rfl⟩
    have d3 : wc.cell? ⟨gb, i * 6 + 3, none⟩ = some (.bool x.dead) := by rw [← hx]; exact e3
    have d5 : wc.cell? ⟨gb, i * 6 + 5, none⟩ = some (.int .i64 (x.doom : Int)) := by rw [← hx]; exact e5
    clear e3 e5
    replace hset := hid (hset x hx)
    rw [hx] at hdoom Hwf
    have Hx := hid hx
    clear hx
    go_upto_if 37 with (fail)
    go_cut [] (fun wx => AR wx F b gb pv wv (NA.setB ⟨bs, pages, fence, boots, armed - 1, off', wrap64 (ops + 1), none⟩ i x.tick) ∧ Fr (fun g => g = b ∨ g = gb) w wx)
    case first =>
      obtain ⟨pg, er, hf, dd, fl, dm⟩ := x
      replace d3 : wc.cell? ⟨gb, i * 6 + 3, none⟩ = some (.bool dd) := d3
      replace d5 : wc.cell? ⟨gb, i * 6 + 5, none⟩ = some (.int .i64 (dm : Int)) := d5
      rcases dm with _ | a
      · replace d5 : wc.cell? ⟨gb, i * 6 + 5, none⟩ = some (.int .i64 0) := d5
        have H4 := hid (show AR wc F b gb pv wv (NA.setB ⟨bs, pages, fence, boots, armed - 1, off', wrap64 (ops + 1), none⟩ i (NB.tick ⟨pg, er, hf, dd, fl, 0⟩)) from by
          have e : NB.tick ⟨pg, er, hf, dd, fl, 0⟩ = ⟨pg, er, hf, dd, fl, 0⟩ := by unfold NB.tick; simp
          rw [e]
          unfold NA.setB
          rw [hset.out]
          exact H3.out)
        go_wp2
        go_meet
        case rel => exact ⟨H4.out, F3.out⟩
      · have hdm : a + 1 ≤ 9223372036854775807 := hdoom
        replace d5 : wc.cell? ⟨gb, i * 6 + 5, none⟩ = some (.int .i64 ((a : Int) + 1)) := d5
        have hrx : recOf (pv i) (bs.getD i default) = [pv i, .int .i64 er, .bool hf, .bool dd, .bool fl, .int .i64 ((a + 1 : Nat) : Int)] := by rw [Hx.out]; rfl
        have H4 := hid (H3.out.setRec i 5 (.int .i64 (a : Int)) ⟨pg, er, hf, dd, fl, a⟩ hi (by decide) (by show recOf (pv i) _ = (recOf (pv i) (bs.getD i default)).set 5 _; rw [hrx]; rfl) (by show pg = (bs.getD i default).pages; rw [Hx.out]) (H3.out.wf.setB i _ hi (by show pg.length = (bs.getD i default).pages.length; rw [Hx.out]) (by show a ≤ 9223372036854775807; omega)))
        have F4 := hid (F3.out.set gb (i * 6 + 5) (.int .i64 (a : Int)) (.inl (.inr rfl)))
        go_upto_region 7 with (fail)
        obtain ⟨w5, hw5⟩ : ∃ W, W = wc.setCell ⟨gb, i * 6 + 5, none⟩ (.int .i64 (a : Int)) := ⟨_, rfl⟩
        rw [← hw5] at H4 F4 ⊢
        clear hw5 d3 d5 f3 f5 hrx
        obtain ⟨-, -, -, e3, -, e5⟩ := H4.out.recs i (by rw [len_set]; exact hi)
        rw [blk_set _ _ _ hi, if_pos rfl] at e3 e5
        have d3 : w5.cell? ⟨gb, i * 6 + 3, none⟩ = some (.bool dd) := e3
        have d5 : w5.cell? ⟨gb, i * 6 + 5, none⟩ = some (.int .i64 (a : Int)) := e5
        have f3 := H4.out.row.free (i * 6 + 3)
        clear e3 e5
        cases dd
        · by_cases ha0 : a = 0
          · have hb0 : ((a : Int) == 0) = true := by rw [beq_iff_eq]; omega
            have ha0 := hid ha0
            have e1 : NB.tick ⟨pg, er, hf, false, fl, a + 1⟩ = ⟨pg, er, hf, true, fl, a⟩ := by unfold NB.tick; simp; exact ha0.out
            have H6 := hid (show AR (w5.setCell ⟨gb, i * 6 + 3, none⟩ (.bool true)) F b gb pv wv (NA.setB ⟨bs, pages, fence, boots, armed - 1, off', wrap64 (ops + 1), none⟩ i (NB.tick ⟨pg, er, hf, false, fl, a + 1⟩)) from by
              rw [e1] at Hwf ⊢
              have := H4.out.setRec i 3 (.bool true) ⟨pg, er, hf, true, fl, a⟩ (by rw [len_set]; exact hi) (by decide) (by rw [blk_set _ _ _ hi, if_pos rfl]; rfl) (by rw [blk_set _ _ _ hi, if_pos rfl]) (by rw [setB_setB]; exact Hwf.out)
              rw [setB_setB] at this
              exact this)
            have F6 := hid (F4.out.set gb (i * 6 + 3) (.bool true) (.inl (.inr rfl)))
            clear e1
            go_wp2
            go_meet
            case rel => exact ⟨H6.out, F6.out⟩
          · have hb0 : ((a : Int) == 0) = false := by rw [beq_eq_false_iff_ne]; omega
            have ha0 := hid ha0
            have e1 : NB.tick ⟨pg, er, hf, false, fl, a + 1⟩ = ⟨pg, er, hf, false, fl, a⟩ := by unfold NB.tick; simp; exact ha0.out
            have H6 := hid (show AR (w5.setCell ⟨gb, i * 6 + 3, none⟩ (.bool false)) F b gb pv wv (NA.setB ⟨bs, pages, fence, boots, armed - 1, off', wrap64 (ops + 1), none⟩ i (NB.tick ⟨pg, er, hf, false, fl, a + 1⟩)) from by
              rw [e1] at Hwf ⊢
              have := H4.out.setRec i 3 (.bool false) ⟨pg, er, hf, false, fl, a⟩ (by rw [len_set]; exact hi) (by decide) (by rw [blk_set _ _ _ hi, if_pos rfl]; rfl) (by rw [blk_set _ _ _ hi, if_pos rfl]) (by rw [setB_setB]; exact Hwf.out)
              rw [setB_setB] at this
              exact this)
            have F6 := hid (F4.out.set gb (i * 6 + 3) (.bool false) (.inl (.inr rfl)))
            clear e1
            go_wp2
            go_meet
            case rel => exact ⟨H6.out, F6.out⟩
        · clear d5
          have e1 : NB.tick ⟨pg, er, hf, true, fl, a + 1⟩ = ⟨pg, er, hf, true, fl, a⟩ := by unfold NB.tick; simp
          have H6 := hid (show AR (w5.setCell ⟨gb, i * 6 + 3, none⟩ (.bool true)) F b gb pv wv (NA.setB ⟨bs, pages, fence, boots, armed - 1, off', wrap64 (ops + 1), none⟩ i (NB.tick ⟨pg, er, hf, true, fl, a + 1⟩)) from by
            rw [e1] at Hwf ⊢
            have := H4.out.setRec i 3 (.bool true) ⟨pg, er, hf, true, fl, a⟩ (by rw [len_set]; exact hi) (by decide) (by rw [blk_set _ _ _ hi, if_pos rfl]; rfl) (by rw [blk_set _ _ _ hi, if_pos rfl]) (by rw [setB_setB]; exact Hwf.out)
            rw [setB_setB] at this
            exact this)
          have F6 := hid (F4.out.set gb (i * 6 + 3) (.bool true) (.inl (.inr rfl)))
          clear e1
          go_wp2
          go_meet
          case rel => exact ⟨H6.out, F6.out⟩
    case rest =>
      obtain ⟨H7, F7⟩ := hcut
      replace H7 := hid H7
      replace F7 := hid F7
      clear d3 d5 f3 f5 H3 F3
      obtain ⟨-, -, -, e3, -, -⟩ := H7.out.recs i (by rw [len_set]; exact hi)
      rw [blk_set _ _ _ hi, if_pos rfl] at e3
      have c5 : wc.cell? ⟨b, 5, none⟩ = some (.bool off') := H7.out.hd.cell 5
      generalize hdd : x.tick.dead = dd at e3
      have Hdd := hid hdd
      clear hdd
      go_wp2_with fail
      go_quiet (fail)
      go_wp2
      go_ret2
      refine ⟨?_, ?_, F7.out.drewN nq⟩
      · rw [← Hoff.out, ← Hdd.out, Hx.out]
        rfl
      · show AR _ _ _ _ _ _ (NA.setB ⟨bs, pages, fence, boots, armed - 1, armed == 1, wrap64 (ops + 1), none⟩ i (bs.getD i default).tick)
        rw [Hx.out, ← Hoff.out]
        exact H7.out.drewN nq
end Go.Proofs.Ytcfildbgnjhjmaa.Nand
