import Derived.Test.YtcfildbgnjhjmaaLogB
import Derived.Deep.DeepCutAuto
set_option linter.unusedVariables false
set_option linter.unusedSimpArgs false
namespace Go.Proofs.Ytcfildbgnjhjmaa.Log
open Go.RowKit Go.Proofs.Ytcfildbgnjhjmaa.Kit Go.Proofs.Ytcfildbgnjhjmaa.Oct Go.Proofs.Ytcfildbgnjhjmaa.Sheet Go.Proofs.Ytcfildbgnjhjmaa.Nand

theorem doom_run {F : Nat → Prop} {w w1 W : World} {b : Nat} {N : NA} {K : Nat → Prop} (h : Run F w w1 b N K W) (i n : Int) (hn : n ≤ 9223372036854775807) :
    Calls Try.prog 20 #[.pointer (some ⟨b, 0, none⟩), .int .i64 i, .int .i64 n] w1 fun e w' => e = .returned (.int .i64 (N.doomed i n).2) ∧ Run F w w' b (N.doomed i n).1 K W :=
  h.calls (fun F' hA => (doom_any F' b N i n w1 hA hn).mono fun e w' hw => ⟨hw.1, Arr.grown (w := w1) hw.2.1 w1, hw.2.2⟩)
theorem failed_run {F : Nat → Prop} {w w1 W : World} {b : Nat} {N : NA} {K : Nat → Prop} (h : Run F w w1 b N K W) (i : Int) :
    Calls Try.prog 21 #[.pointer (some ⟨b, 0, none⟩), .int .i64 i] w1 fun e w' => e = .returned (.bool (if N.inI i then (N.blk i.toNat).failed else false)) ∧ w' = w1 := by
  obtain ⟨F', hA⟩ := h.arr
  exact failed_any F' b N i w1 hA
theorem st_doom (p q d : Nat) (hq : q < 2) : ((newA 2 p []).doomed (q : Int) (d : Int)).2 = 0 ∧ St q ((newA 2 p []).doomed (q : Int) (d : Int)).1 (fun _ => []) ∧ ((newA 2 p []).doomed (q : Int) (d : Int)).1.pages = p ∧ ((newA 2 p []).doomed (q : Int) (d : Int)).1.fence = 0 ∧ ((newA 2 p []).doomed (q : Int) (d : Int)).1.bs.length = 2 := by
  have h := st_new 2 p (by omega)
  have hl : q < (newA 2 p []).bs.length := by rw [newA_len]; exact hq
  unfold NA.doomed
  rw [if_neg (by rw [newA_len]; omega), Int.toNat_natCast, Int.toNat_natCast]
  refine ⟨rfl, ?_, rfl, rfl, by rw [len_set, newA_len]⟩
  refine ⟨by rw [len_set]; exact h.nb, rfl, rfl, fun i hi => ?_, fun i hi => ?_, fun i hi hiq => ?_⟩
  · rw [blk_set _ _ _ hl]; split
    · rename_i e; exact h.half q hq
    · exact h.half i hi
  · rw [blk_set _ _ _ hl]; split
    · exact (h.bk q hq).same rfl
    · exact h.bk i hi
  · rw [blk_set _ _ _ hl, if_neg hiq]
    exact h.sick i hi (by omega)

set_option maxRecDepth 100000 in
set_option maxHeartbeats 8000000 in
theorem law_fails (p : Int) (hp : 0 ≤ p ∧ p ≤ 255) (wh : Int) (hwh : 0 ≤ wh ∧ wh ≤ 255) (wn : Int) (hwn : 0 ≤ wn ∧ wn ≤ 255) (m : Int) (hm : 0 ≤ m ∧ m ≤ 255) (w : World) :
    Calls Try.prog 7 #[.int .u8 p, .int .u8 wh, .int .u8 wn, .int .u8 m] w fun e w' => e = .returned (.bool true) ∧ Below w.heap.size w w' := by
  obtain ⟨p, rfl⟩ := Int.eq_ofNat_of_zero_le hp.1
  obtain ⟨wn, rfl⟩ := Int.eq_ofNat_of_zero_le hwn.1
  obtain ⟨m, rfl⟩ := Int.eq_ofNat_of_zero_le hm.1
  obtain ⟨q, hq, hq2⟩ : ∃ q : Nat, wh % 2 = (q : Int) ∧ q < 2 := ⟨(wh % 2).toNat, by omega, by omega⟩
  have hqt : wh.tmod 2 = (q : Int) := by rw [Int.tmod_eq_emod_of_nonneg hwh.1]; exact hq
  obtain ⟨n, hn, hn60⟩ : ∃ n : Nat, (m : Int) % 60 = (n : Int) ∧ n < 60 := ⟨m % 60, by omega, by omega⟩
  obtain ⟨pg, hpg⟩ : ∃ pg, 1 + p % 6 = pg := ⟨_, rfl⟩
  obtain ⟨d, hd⟩ : ∃ d, 1 + wn % 30 = d := ⟨_, rfl⟩
  have hpgI : 1 + (p : Int) % 6 = (pg : Int) := by omega
  have hdI : 1 + (wn : Int) % 30 = (d : Int) := by omega
  have hpg32 : 1 ≤ pg ∧ pg ≤ 32 := by omega
  have hnew : ∀ W, Below w.heap.size w W → _ := fun W hW => new_run 2 pg w W hW (by omega) (by omega)
  have w1 : IntKind.i64.wrap (p : Int) = (p : Int) := IntWalk.i64_in _ (by omega)
  have w2 : IntKind.i64.wrap (wn : Int) = (wn : Int) := IntWalk.i64_in _ (by omega)
  have w3 : IntKind.i64.wrap (m : Int) = (m : Int) := IntWalk.i64_in _ (by omega)
  have w4 : IntKind.i64.wrap (pg : Int) = (pg : Int) := IntWalk.i64_in _ (by omega)
  have w5 : IntKind.i64.wrap (d : Int) = (d : Int) := IntWalk.i64_in _ (by omega)
  have w6 : IntKind.i64.wrap (q : Int) = (q : Int) := IntWalk.i64_in _ (by omega)
  obtain ⟨hd0, hst, hdp, hdf, hdl⟩ := st_doom pg q d hq2
  have hdl' : d ≤ 31 := by omega
  clear hpg hd
  go_enter Try.func7, Try.ntmps7
  go_wp2_with fail
  refine (awake_any w).mono ?_
  rintro e w7 ⟨rfl, hB7⟩
  have hnew' := hnew w7 hB7
  clear hnew hB7
  go_wp2_with fail
  refine hnew'.mono ?_
  rintro e w8 ⟨b, rfl, hR8⟩
  clear hnew'
  have hdm := doom_run hR8 (q : Int) (d : Int) (by omega)
  rw [hd0] at hdm
  generalize ((newA 2 pg []).doomed (q : Int) (d : Int)).1 = N0 at *
  have Hst := hid hst
  have Hdp := hid hdp
  have Hdf := hid hdf
  have Hdl := hid hdl
  clear hR8 hst hdp hdf hdl hd0
  go_wp2_with fail
  refine hdm.mono ?_
  rintro e w9 ⟨rfl, hR9⟩
  clear hdm
  have HR9 := hid hR9
  clear hR9
  go_upto_region 7 with (fail)
  generalize hw10 : World.alloc w9 _ = w10
  obtain ⟨gl, hgl⟩ : ∃ g, w9.heap.size = g := ⟨_, rfl⟩
  have hB10 : Below w9.heap.size w9 w10 := by rw [← hw10]; exact (Below.refl _ _).alloc (Nat.le_refl _) _
  have hbl : Blk w10 gl #[.int .u64 0, .int .i64 0] 30 := by rw [← hw10, ← hgl]; exact Blk.new _ _ _
  have HR10 := hid ((HR9.out.own hB10).less (K' := fun g => g = gl) (fun g e => .inr (by rw [e]; exact ⟨by omega, hbl.lt⟩)))
  have Hbl := hid hbl
  rw [hgl]
  clear hw10 hgl hB10 hbl HR9
  go_wp2
  go_loopw [11, 13] (fun u t w' => ∃ (k : Nat) (lost : Bool) (N : NA) (c : Nat → List (Option (Nat × Nat))) (E a : Nat), k ≤ n ∧ u = .bool lost ∧ t = .int .i64 (k : Int) ∧ Run (fun _ => False) w w' b N (fun g => g = gl) w' ∧ St q N c ∧ Fx N0 N (fun j => j < 2) ∧ Blk w' gl #[.int .u64 (E : Int), .int .i64 (a : Int)] 30 ∧ top (c 0) (c 1) = (E, a) ∧ (lost = true → (N.blk q).failed = true) ∧ E ≤ k) (fun _ t _ => 60 - (intOf t).toNat)
  case atStart => exact ⟨0, false, N0, fun _ => [], 0, 0, by omega, rfl, rfl, HR10.out, Hst.out, Fx.refl _ _, Hbl.out, rfl, (fun h => (by cases h)), by omega⟩
  case round =>
    clear HR10 Hbl Hst
    obtain ⟨k, lost, N, c, E, a, hk, rfl, rfl, hR, hs, hx, hbl, ht, hlf, hEk⟩ := hrel
    by_cases hlt : k < n
    · have hltI : (k : Int) < (n : Int) := by omega
      have a1 : IntKind.u64.wrap ((E : Int) + 1) = (E : Int) + 1 := IntWalk.u64_in _ (by omega)
      obtain ⟨⟨x0, x1⟩, -⟩ := blk_two hbl
      have HR := hid hR
      have Hs := hid hs
      have Hx := hid hx
      have Hbl := hid hbl
      have Ht := hid ht
      have Hlf := hid hlf
      clear hR hs hx hbl ht hlf
      go_upto_region 11 with (fail)
      generalize hw11 : World.alloc wr _ = w11
      obtain ⟨gx, hgx⟩ : ∃ g, wr.heap.size = g := ⟨_, rfl⟩
      have hB11 : Below wr.heap.size wr w11 := by rw [← hw11]; exact (Below.refl _ _).alloc (Nat.le_refl _) _
      have hbx : Blk w11 gx #[.int .u64 ((E : Int) + 1), .int .i64 ((k : Int) % 2)] 30 := by rw [← hw11, ← hgx]; exact Blk.new _ _ _
      have hR11 := (HR.out.own hB11).less (K' := fun g => g = gl ∨ g = gx) (fun g e => by
        rcases e with e | e
        · exact .inl e
        · exact .inr (by rw [e]; exact ⟨by omega, hbx.lt⟩))
      have hgne : gl ≠ gx := by have := Hbl.out.lt; omega
      have hbl11 := Hbl.out.later hB11
      obtain ⟨⟨z0, z1⟩, -⟩ := blk_two hbx
      have hcr := claim_run hR11 Hs.out ((E + 1 : Nat) : Int) ((k % 2 : Nat) : Int) (by omega)
      have hcs := claim_st (E := E + 1) (who := k % 2) Hs.out (by omega) (by omega) (by omega) (by rw [Hx.out.pages, Hdp.out]; exact hpg32) (by rw [Hx.out.fence, Hdf.out]; omega) (by rw [Ht.out]; show E < _; omega)
      generalize claimN N (c 0) (c 1) ((E + 1 : Nat) : Int) ((k % 2 : Nat) : Int) = r at *
      obtain ⟨N', er⟩ := r
      rw [show ((E + 1 : Nat) : Int) = (E : Int) + 1 by omega, show ((k % 2 : Nat) : Int) = (k : Int) % 2 by omega] at hcr
      have hcr : Calls Try.prog 15 #[.pointer (some ⟨b, 0, none⟩), .agg #[.int .u64 ((E : Int) + 1), .int .i64 ((k : Int) % 2)]] w11 fun e w' => e = .returned (.int .i64 er) ∧ Run (fun _ => False) w w' b N' (fun g => g = gl ∨ g = gx) w11 := hcr
      have Hbx := hid hbx
      have Hbl11 := hid hbl11
      have Hcs := hid hcs
      rw [hgx]
      clear hw11 hgx hB11 hbx hR11 hbl11 hcs HR Hbl Hs x0 x1
      go_wp2_with fail
      refine hcr.mono ?_
      rintro e w12 ⟨rfl, hR12⟩
      clear hcr
      have hbx12 := hR12.blk (.inr rfl) Hbx.out
      have hbl12 := hR12.blk (.inl rfl) Hbl11.out
      have HR12 := hid hR12.now
      clear hR12 z0 z1 Hbx Hbl11
      obtain ⟨c', hs', hx', ⟨he, ht'⟩ | ⟨he, -, hfl, ht'⟩⟩ := Hcs.out
      · obtain rfl : er = 0 := he
        have Hs' := hid hs'
        have Hx' := hid (Hx.out.trans hx')
        have Ht' := hid ht'
        have Hfm := hid (hx'.failed q)
        clear Hcs hs' hx' ht'
        obtain ⟨⟨x0, x1⟩, -⟩ := blk_two hbx12
        obtain ⟨⟨y0, y1⟩, f0, f1⟩ := blk_two hbl12
        have Hbl12 := hid hbl12
        clear hbx12 hbl12
        go_upto_region 15 with (fail)
        obtain ⟨w13, hw13⟩ : ∃ W, W = (w12.setCell ⟨gl, 0, none⟩ (.int .u64 ((E : Int) + 1))).setCell ⟨gl, 1, none⟩ (.int .i64 ((k : Int) % 2)) := ⟨_, rfl⟩
        rw [← hw13]
        have HR13 := hid (show Run (fun _ => False) w w13 b N' (fun g => g = gl ∨ g = gx) w13 by rw [hw13]; exact (HR12.out.store gl 0 _ (.inl rfl)).store gl 1 _ (.inl rfl))
        have Hbl13 := hid (show Blk w13 gl #[.int .u64 ((E : Int) + 1), .int .i64 ((k : Int) % 2)] 30 by rw [hw13]; exact blk_two_set Hbl12.out _ _)
        clear hw13 x0 x1 y0 y1 f0 f1 HR12 Hbl12
        cases lost
        · have hl := last_run HR13.out Hs'.out
          rw [Ht'.out] at hl
          have hl : Calls Try.prog 16 #[.pointer (some ⟨b, 0, none⟩)] w13 fun e w' => e = .returned (.tuple #[.agg #[.int .u64 ((E + 1 : Nat) : Int), .int .i64 ((k % 2 : Nat) : Int)], .int .i64 0]) ∧ Below w13.heap.size w13 w' := hl
          rw [show ((E + 1 : Nat) : Int) = (E : Int) + 1 by omega, show ((k % 2 : Nat) : Int) = (k : Int) % 2 by omega] at hl
          go_wp2_with fail
          refine hl.mono ?_
          rintro e w14 ⟨rfl, hB14⟩
          clear hl
          go_upto_region 16 with (fail)
          generalize hw15 : World.alloc w14 _ = w15
          obtain ⟨gy, hgy⟩ : ∃ g, w14.heap.size = g := ⟨_, rfl⟩
          have hB15 : Below w14.heap.size w14 w15 := by rw [← hw15]; exact (Below.refl _ _).alloc (Nat.le_refl _) _
          have hby : Blk w15 gy #[.int .u64 ((E : Int) + 1), .int .i64 ((k : Int) % 2)] 30 := by rw [← hw15, ← hgy]; exact Blk.new _ _ _
          have hB1315 := hB14.trans (hB15.mono hB14.size)
          have hR15 := (HR13.out.later hB1315).now
          have hbl15 := Hbl13.out.later hB1315
          obtain ⟨⟨y0, y1⟩, -⟩ := blk_two hby
          obtain ⟨⟨z0, z1⟩, -⟩ := blk_two hbl15
          rw [hgy]
          have HR15 := hid hR15
          have Hbl15 := hid hbl15
          clear hw15 hgy hB14 hB15 hby hB1315 hR15 hbl15 HR13 Hbl13
          go_wp2
          go_roundw
          case rel => exact ⟨k + 1, false, N', c', E + 1, k % 2, by omega, rfl, by go_num, HR15.out.less (fun g e => .inl e), Hs'.out, Hx'.out, by first | exact Hbl15.out | (have := Hbl15.out; rw [show ((E + 1 : Nat) : Int) = (E : Int) + 1 by omega, show ((k % 2 : Nat) : Int) = (k : Int) % 2 by omega]; exact this), Ht'.out, (fun h => (by cases h)), by omega⟩
          case measure => simp [intOf]; omega
        · have Hfl := hid (Hfm.out (Hlf.out rfl))
          have hl := last_run HR13.out Hs'.out
          rw [Ht'.out] at hl
          have hl : Calls Try.prog 16 #[.pointer (some ⟨b, 0, none⟩)] w13 fun e w' => e = .returned (.tuple #[.agg #[.int .u64 ((E + 1 : Nat) : Int), .int .i64 ((k % 2 : Nat) : Int)], .int .i64 0]) ∧ Below w13.heap.size w13 w' := hl
          rw [show ((E + 1 : Nat) : Int) = (E : Int) + 1 by omega, show ((k % 2 : Nat) : Int) = (k : Int) % 2 by omega] at hl
          go_wp2_with fail
          refine hl.mono ?_
          rintro e w14 ⟨rfl, hB14⟩
          clear hl
          go_upto_region 16 with (fail)
          generalize hw15 : World.alloc w14 _ = w15
          obtain ⟨gy, hgy⟩ : ∃ g, w14.heap.size = g := ⟨_, rfl⟩
          have hB15 : Below w14.heap.size w14 w15 := by rw [← hw15]; exact (Below.refl _ _).alloc (Nat.le_refl _) _
          have hby : Blk w15 gy #[.int .u64 ((E : Int) + 1), .int .i64 ((k : Int) % 2)] 30 := by rw [← hw15, ← hgy]; exact Blk.new _ _ _
          have hB1315 := hB14.trans (hB15.mono hB14.size)
          have hR15 := (HR13.out.later hB1315).now
          have hbl15 := Hbl13.out.later hB1315
          obtain ⟨⟨y0, y1⟩, -⟩ := blk_two hby
          obtain ⟨⟨z0, z1⟩, -⟩ := blk_two hbl15
          rw [hgy]
          have HR15 := hid hR15
          have Hbl15 := hid hbl15
          have hfr := failed_run hR15 (q : Int)
          rw [Int.toNat_natCast, show N'.inI (q : Int) = true by unfold NA.inI; rw [Hx'.out.len, Hdl.out]; simp; omega, if_pos rfl, Hfl.out] at hfr
          clear hw15 hgy hB14 hB15 hby hB1315 hR15 hbl15 HR13 Hbl13
          go_wp2_with fail
          refine hfr.mono ?_
          rintro e w16 ⟨rfl, rfl⟩
          clear hfr
          go_wp2
          go_roundw
          case rel => exact ⟨k + 1, true, N', c', E + 1, k % 2, by omega, rfl, by go_num, HR15.out.less (fun g e => .inl e), Hs'.out, Hx'.out, by first | exact Hbl15.out | (have := Hbl15.out; rw [show ((E + 1 : Nat) : Int) = (E : Int) + 1 by omega, show ((k % 2 : Nat) : Int) = (k : Int) % 2 by omega]; exact this), Ht'.out, (fun h => Hfl.out), by omega⟩
          case measure => simp [intOf]; omega
      · obtain rfl : er = 8 := he
        have Hs' := hid hs'
        have Hx' := hid (Hx.out.trans hx')
        have Ht' := hid (ht'.trans Ht.out)
        have Hfl := hid hfl
        have HR13 := HR12
        have Hbl13 := hid hbl12
        clear Hcs hs' hx' ht' hfl HR12 hbx12 hbl12
        have hl := last_run HR13.out Hs'.out
        rw [Ht'.out] at hl
        have hl : Calls Try.prog 16 #[.pointer (some ⟨b, 0, none⟩)] w12 fun e w' => e = .returned (.tuple #[.agg #[.int .u64 (E : Int), .int .i64 (a : Int)], .int .i64 0]) ∧ Below w12.heap.size w12 w' := hl
        go_wp2_with fail
        refine hl.mono ?_
        rintro e w14 ⟨rfl, hB14⟩
        clear hl
        go_upto_region 16 with (fail)
        generalize hw15 : World.alloc w14 _ = w15
        obtain ⟨gy, hgy⟩ : ∃ g, w14.heap.size = g := ⟨_, rfl⟩
        have hB15 : Below w14.heap.size w14 w15 := by rw [← hw15]; exact (Below.refl _ _).alloc (Nat.le_refl _) _
        have hby : Blk w15 gy #[.int .u64 (E : Int), .int .i64 (a : Int)] 30 := by rw [← hw15, ← hgy]; exact Blk.new _ _ _
        have hB1315 := hB14.trans (hB15.mono hB14.size)
        have hR15 := (HR13.out.later hB1315).now
        have hbl15 := Hbl13.out.later hB1315
        obtain ⟨⟨y0, y1⟩, -⟩ := blk_two hby
        obtain ⟨⟨z0, z1⟩, -⟩ := blk_two hbl15
        rw [hgy]
        have HR15 := hid hR15
        have Hbl15 := hid hbl15
        have hfr := failed_run hR15 (q : Int)
        rw [Int.toNat_natCast, show N'.inI (q : Int) = true by unfold NA.inI; rw [Hx'.out.len, Hdl.out]; simp; omega, if_pos rfl, Hfl.out] at hfr
        clear hw15 hgy hB14 hB15 hby hB1315 hR15 hbl15 HR13 Hbl13
        go_wp2_with fail
        refine hfr.mono ?_
        rintro e w16 ⟨rfl, rfl⟩
        clear hfr
        go_wp2
        go_roundw
        case rel => exact ⟨k + 1, true, N', c', E, a, by omega, rfl, by go_num, HR15.out.less (fun g e => .inl e), Hs'.out, Hx'.out, by first | exact Hbl15.out | (have := Hbl15.out; rw [show ((E + 1 : Nat) : Int) = (E : Int) + 1 by omega, show ((k % 2 : Nat) : Int) = (k : Int) % 2 by omega]; exact this), Ht'.out, (fun h => Hfl.out), by omega⟩
        case measure => simp [intOf]; omega
    · have hgtI : (n : Int) ≤ (k : Int) := by omega
      have HB := hid hR.below
      clear hR hs hx hbl ht hlf
      go_wp2
      go_ret
      exact ⟨rfl, HB.out⟩
end Go.Proofs.Ytcfildbgnjhjmaa.Log
