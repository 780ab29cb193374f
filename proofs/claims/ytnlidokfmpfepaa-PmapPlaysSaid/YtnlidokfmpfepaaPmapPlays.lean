import Derived.Test.YtnlidokfmpfepaaPmapRight
import Derived.Test.YtnlidokfmpfepaaRecs
import Derived.Deep.DeepCutAuto
import Derived.Deep.CutBlock
set_option linter.unusedVariables false
set_option linter.unusedSimpArgs false
namespace Go.Proofs.Ytnlidokfmpfepaa.Pmap
open Go.RowKit Go.Proofs.Ytnlidokfmpfepaa.Kit

structure MAct where
  kind : Int
  addr : Int
  b : Int
  p : Int
  near : Bool
instance : Inhabited MAct := ⟨⟨0, 0, 0, 0, false⟩⟩
def MAct.enc (a : MAct) : List Value := [.int .u8 a.kind, .int .i64 a.addr, .int .i64 a.b, .int .i64 a.p, .bool a.near]
def MAct.ok (_ : World) (a : MAct) : Prop := (0 ≤ a.kind ∧ a.kind ≤ 255) ∧ (-9223372036854775808 ≤ a.addr ∧ a.addr ≤ 9223372036854775807) ∧ (-9223372036854775808 ≤ a.b ∧ a.b ≤ 9223372036854775807) ∧ (-9223372036854775808 ≤ a.p ∧ a.p ≤ 9223372036854775807)
theorem MAct.cells {w : World} {bs o : Nat} {a : MAct} (h : ∀ k v, (MAct.enc a)[k]? = some v → w.cell? ⟨bs, o + k, none⟩ = some v) :
    w.cell? ⟨bs, o, none⟩ = some (.int .u8 a.kind) ∧ w.cell? ⟨bs, o + 1, none⟩ = some (.int .i64 a.addr) ∧ w.cell? ⟨bs, o + 2, none⟩ = some (.int .i64 a.b) ∧ w.cell? ⟨bs, o + 3, none⟩ = some (.int .i64 a.p) ∧ w.cell? ⟨bs, o + 4, none⟩ = some (.bool a.near) :=
  ⟨h 0 _ rfl, h 1 _ rfl, h 2 _ rfl, h 3 _ rfl, h 4 _ rfl⟩

/-- The map, and the law's own at and has, which say the same. -/
structure LP (w0 w : World) (b ga gh gc gA gH N M : Nat) (at' : List (Int × Int)) (has : List Bool) (cnt : List Int) : Prop where
  pm : PM w b ga gh gc N M at' has cnt
  pi : PI N M at' has cnt
  ats : Blk w gA (flatP at').toArray 28
  hass : Blk w gH (has.map Value.bool).toArray 4
  bel : Below w0.heap.size w0 w
theorem LP.later {w0 w w' : World} {b ga gh gc gA gH N M : Nat} {at' : List (Int × Int)} {has : List Bool} {cnt : List Int} (h : LP w0 w b ga gh gc gA gH N M at' has cnt) (hB : Below w.heap.size w w') : LP w0 w' b ga gh gc gA gH N M at' has cnt :=
  ⟨h.pm.later hB, h.pi, h.ats.later hB, h.hass.later hB, h.bel.trans (hB.mono h.bel.size)⟩

theorem PI.dropable {N M : Nat} {at' : List (Int × Int)} {has : List Bool} {cnt : List Int} (h : PI N M at' has cnt) (k : Nat) (hk : k < N) (hN : N ≤ 65536) : has.getD k false = true → 0 ≤ (at'.getD k (0, 0)).1 ∧ (at'.getD k (0, 0)).1 < M ∧ 1 ≤ cnt.getD (at'.getD k (0, 0)).1.toNat 0 ∧ cnt.getD (at'.getD k (0, 0)).1.toNat 0 ≤ 65536 := by
  intro hh
  obtain ⟨⟨h1, h2⟩, -⟩ := h.here k hh
  have ho := h.on (at'.getD k (0, 0)).1.toNat (by omega)
  have hp := cnum_pos (onP at' has (at'.getD k (0, 0)).1.toNat) N k hk (by unfold onP; rw [hh, Bool.true_and]; exact decide_eq_true (by omega))
  have hl := cnum_le (onP at' has (at'.getD k (0, 0)).1.toNat) N
  omega
theorem Fr.blk {w w' : World} {ga gh gc g : Nat} {cs : Array Value} {T : TypeId} (h : Fr w w' ga gh gc) (hb : Blk w g cs T) (h1 : g ≠ ga) (h2 : g ≠ gh) (h3 : g ≠ gc) : Blk w' g cs T := (h.block g hb.lt h1 h2 h3).trans hb
theorem PM.under {w w' : World} {b ga gh gc N M B : Nat} {at' : List (Int × Int)} {has : List Bool} {cnt : List Int} (h : PM w b ga gh gc N M at' has cnt) (hB : Below B w w') (h1 : b < B) (h2 : ga < B) (h3 : gh < B) (h4 : gc < B) : PM w' b ga gh gc N M at' has cnt :=
  ⟨(hB.block b h1).trans h.blk, (hB.block ga h2).trans h.ats, (hB.block gh h3).trans h.hass, (hB.block gc h4).trans h.cnts, h.la, h.lh, h.lc, h.nM, h.ne⟩
/-- What the law stores itself, behind Set or Drop. -/
theorem LP.stored {w0 w : World} {b ga gh gc gA N M : Nat} {at' : List (Int × Int)} {has : List Bool} {cnt : List Int} (k : Nat) (x : Int × Int) (v : Bool) (hk : k < N) (hm : PM w b ga gh gc N M (at'.set k x) (has.set k v) cnt) (hi : PI N M (at'.set k x) (has.set k v) cnt)
    (hA : Blk w gA (flatP at').toArray 28) (hH : Blk w (gA + 1) (has.map Value.bool).toArray 4) (hB : Below w0.heap.size w0 w) (hr : (ga < gA ∧ gh < gA ∧ gc < gA) ∧ (w0.heap.size ≤ ga ∧ w0.heap.size ≤ gh ∧ w0.heap.size ≤ gc ∧ w0.heap.size ≤ gA) ∧ b < gA) :
    LP w0 (((w.setCell ⟨gA, k * 2, none⟩ (.int .i64 x.1)).setCell ⟨gA, k * 2 + 1, none⟩ (.int .i64 x.2)).setCell ⟨gA + 1, k, none⟩ (.bool v)) b ga gh gc gA (gA + 1) N M (at'.set k x) (has.set k v) cnt := by
  obtain ⟨⟨r1, r2, r3⟩, ⟨r4, r5, r6, r7⟩, r8⟩ := hr
  have hla : at'.length = N := by have := hi.la; rwa [List.length_set] at this
  have hW : Below gA w (((w.setCell ⟨gA, k * 2, none⟩ (.int .i64 x.1)).setCell ⟨gA, k * 2 + 1, none⟩ (.int .i64 x.2)).setCell ⟨gA + 1, k, none⟩ (.bool v)) :=
    (((Below.refl gA w).setCell (p := (⟨gA, k * 2, none⟩ : Addr)) (Nat.le_refl _) _).setCell (p := (⟨gA, k * 2 + 1, none⟩ : Addr)) (Nat.le_refl _) _).setCell (p := (⟨gA + 1, k, none⟩ : Addr)) (Nat.le_succ _) _
  refine ⟨hm.under hW r8 r1 r2 r3, hi, ?_, ?_, hB.trans (hW.mono r7)⟩
  · have h1 := ((hA.set (k * 2) (.int .i64 x.1)).set (k * 2 + 1) (.int .i64 x.2)).setOther (⟨gA + 1, k, none⟩ : Addr) (by simp) (.bool v)
    have h2 := flatP_set at' k (by rw [hla]; exact hk) x
    simp only [List.setIfInBounds_toArray] at h1
    rw [h2] at h1
    exact h1
  · have h1 := ((hH.setOther (⟨gA, k * 2, none⟩ : Addr) (by simp) (.int .i64 x.1)).setOther (⟨gA, k * 2 + 1, none⟩ : Addr) (by simp) (.int .i64 x.2)).set k (.bool v)
    rw [List.map_set]
    simpa using h1

set_option maxRecDepth 100000 in
set_option maxHeartbeats 2000000 in
theorem law_plays (n m : Int) (hn : -9223372036854775808 ≤ n ∧ n ≤ 9223372036854775807) (hm : -9223372036854775808 ≤ m ∧ m ≤ 9223372036854775807) (C : Option Addr) (mm d : Nat) (ys : Nat → MAct) (w : World) (hy : Recs w C mm 5 MAct.enc MAct.ok ys) :
    Calls Try.prog 6 #[.int .i64 n, .int .i64 m, .slice C mm d] w fun e w' => e = .returned (.bool true) ∧ Below w.heap.size w w' := by
  have hmm := hy.most
  have Hy := hid hy
  clear hy
  by_cases hv : 1 ≤ n ∧ n ≤ 65536 ∧ 1 ≤ m ∧ m ≤ 64
  · obtain ⟨hn1, hn2, hm1, hm2⟩ := hv
    obtain ⟨N, rfl⟩ := Int.eq_ofNat_of_zero_le (show 0 ≤ n by omega)
    obtain ⟨M, rfl⟩ := Int.eq_ofNat_of_zero_le (show 0 ≤ m by omega)
    clear hn hm
    go_enter Try.func6, Try.ntmps6
    go_wp2_with fail
    refine (awake_any w).mono ?_
    rintro e w1 ⟨rfl, hB1⟩
    go_wp2_with fail
    refine (new_any N M w1 (by omega) (by omega) (by omega) (by omega)).mono ?_
    rintro e w2 ⟨b, ga, gh, gc, rfl, hpm, hB2, s1, s2, s3, s4, s5, s6, s7⟩
    have hB02 := hB1.trans (hB2.mono hB1.size)
    have hs01 := hB1.size
    by_cases h300 : 300 < N
    · have hN3 : (300 : Int) < (N : Int) := by omega
      have HB := hid hB02
      clear hpm hB1 hB2 hB02 s1 s2 s3 s4 s5 s6 s7
      go_wp2
      go_ret
      exact ⟨rfl, HB.out⟩
    · have hN3 : (N : Int) ≤ 300 := by omega
      have Hpm := hid hpm
      obtain ⟨i0, hi0, hz0⟩ : ∃ i : TypeInfo, Try.prog.info? 28 = some i ∧ i.zero = some (.agg #[.int .i64 0, .int .i64 0]) ∧ i.size = 2 ∧ i.bytes = 16 := ⟨_, rfl, rfl, rfl, rfl⟩
      obtain ⟨i1, hi1, hz1⟩ : ∃ i : TypeInfo, Try.prog.info? 4 = some i ∧ i.zero = some (.bool false) ∧ i.size = 1 ∧ i.bytes = 1 := ⟨_, rfl, rfl, rfl, rfl⟩
      have m0 : ∀ W : World, (Instr.makeSlice 52 (.int .i64 (N : Int)) (.int .i64 (N : Int))).run Try.prog W = .ok (.slice (some ⟨W.heap.size, 0, none⟩) N N) (W.alloc (.cells (flatP (List.replicate N ((0 : Int), (0 : Int)))).toArray 28)) := fun W => by
        have := run_make (P := Try.prog) W 52 28 i0 _ Try.underlying52 hi0 hz0.1 .i64 .i64 (N : Int) (N : Int) (by omega) (Int.le_refl _) (by rw [hz0.2.2]; omega) (by omega)
        rw [hz0.2.1, Int.toNat_natCast] at this
        rw [← made_two]
        exact this
      have m1 : ∀ W : World, (Instr.makeSlice 41 (.int .i64 (N : Int)) (.int .i64 (N : Int))).run Try.prog W = .ok (.slice (some ⟨W.heap.size, 0, none⟩) N N) (W.alloc (.cells ((List.replicate N false).map Value.bool).toArray 4)) := fun W => by
        have := run_make (P := Try.prog) W 41 4 i1 _ Try.underlying41 hi1 hz1.1 .i64 .i64 (N : Int) (N : Int) (by omega) (Int.le_refl _) (by rw [hz1.2.2]; omega) (by omega)
        rw [hz1.2.1, Int.toNat_natCast, Nat.mul_one] at this
        rw [List.map_replicate, ← made_one]
        exact this
      clear hi0 hz0 hi1 hz1 hpm
      generalize hq0 : (flatP (List.replicate N ((0 : Int), (0 : Int)))).toArray = q0 at m0
      generalize hq1 : ((List.replicate N false).map Value.bool).toArray = q1 at m1
      go_upto_region 10 with (fail)
      generalize hw4 : World.alloc (World.alloc w2 _) _ = w4
      obtain ⟨gA, hgA⟩ : ∃ x, w2.heap.size = x := ⟨_, rfl⟩
      have hbA : Blk w4 gA (flatP (List.replicate N ((0 : Int), (0 : Int)))).toArray 28 := by
        rw [← hw4, ← hgA, hq0]
        exact (Blk.new w2 _ _).alloc _
      have hbH : Blk w4 (gA + 1) ((List.replicate N false).map Value.bool).toArray 4 := by
        rw [← hw4, ← hgA, hq1]
        have := Blk.new (w2.alloc (.cells q0 28)) q1 4
        simpa using this
      have hB4 : Below w2.heap.size w2 w4 := by
        rw [← hw4]
        exact ((Below.refl _ _).alloc (Nat.le_refl _) _).alloc (by simp) _
      have hL : LP w w4 b ga gh gc gA (gA + 1) N M _ _ _ := ⟨Hpm.out.later hB4, PI.start N M, hbA, hbH, hB02.trans (hB4.mono hB02.size)⟩
      have hlb : b < gA := by rw [← hgA]; exact Hpm.out.blk.lt
      have hlw : w.heap.size ≤ gA := by rw [← hgA]; exact hB02.size
      have HL := hid hL
      have Hr := hid (show (ga < gA ∧ gh < gA ∧ gc < gA) ∧ (w.heap.size ≤ ga ∧ w.heap.size ≤ gh ∧ w.heap.size ≤ gc ∧ w.heap.size ≤ gA) ∧ b < gA from by omega)
      rw [hgA]
      clear hw4 hgA hq0 hq1 m0 m1 hbA hbH hB4 hL hB1 hB2 hB02 s1 s2 s3 s4 s5 s6 s7 hs01 hlb hlw Hpm h300
      go_wp2
      go_loopw [11] (fun i w' => ∃ (k : Nat) (at' : List (Int × Int)) (has : List Bool) (cnt : List Int), k ≤ mm ∧ k ≤ 60 ∧ i = .int .i64 (k : Int) ∧ LP w w' b ga gh gc gA (gA + 1) N M at' has cnt) (fun i _ => 60 - (intOf i).toNat)
      case atStart => exact ⟨0, _, _, _, by omega, by omega, rfl, HL.out⟩
      case round =>
        clear HL
        obtain ⟨k, at', has, cnt, hk, hk60, rfl, hL⟩ := hrel
        by_cases hlt : k < mm ∧ k < 60
        · obtain ⟨hlt, hlt60⟩ := hlt
          obtain ⟨bs, os, rfl, hcs⟩ := (Hy.out.below hL.bel (fun _ h => h)).at_ k hlt
          obtain ⟨x0, x1, x2, x3, x4⟩ := MAct.cells hcs
          obtain ⟨⟨hk0, hk1⟩, ha, hb, hp⟩ := Hy.out.ok k hlt
          have HL := hid hL
          clear hcs hL
          generalize (ys k).kind = kd at *
          generalize (ys k).addr = xa at *
          generalize (ys k).b = xb at *
          generalize (ys k).p = xp at *
          generalize (ys k).near = nr at *
          go_upto_if 71 with (fail)
          go_cut [] (fun wx => ∃ (a' b' p' : Int), wx = wr.alloc (.cells #[.int .u8 kd, .int .i64 a', .int .i64 b', .int .i64 p', .bool nr] 54) ∧ (-9223372036854775808 ≤ a' ∧ a' ≤ 9223372036854775807) ∧ (-9223372036854775808 ≤ b' ∧ b' ≤ 9223372036854775807) ∧ (-9223372036854775808 ≤ p' ∧ p' ≤ 9223372036854775807))
          case first =>
            cases nr
            · go_wp2
              go_meet
              case rel => exact ⟨_, _, _, rfl, ha, hb, hp⟩
            · as_aux_lemma =>
              obtain ⟨j1, hj1, q1⟩ := umod_nat xa N (by omega)
              obtain ⟨j2, hj2, q2⟩ := umod_nat xb M (by omega)
              obtain ⟨j3, hj3, q3⟩ := umod_nat xp 32 (by omega)
              replace q3 : (IntKind.u64.wrap xp).tmod 32 = (j3 : Int) := q3
              have hwN : IntKind.u64.wrap (N : Int) = (N : Int) := IntWalk.u64_in _ (by omega)
              have hwM : IntKind.u64.wrap (M : Int) = (M : Int) := IntWalk.u64_in _ (by omega)
              have w1 : IntKind.i64.wrap (j1 : Int) = (j1 : Int) := IntWalk.i64_in _ (by omega)
              have w2 : IntKind.i64.wrap (j2 : Int) = (j2 : Int) := IntWalk.i64_in _ (by omega)
              have w3 : IntKind.i64.wrap (j3 : Int) = (j3 : Int) := IntWalk.i64_in _ (by omega)
              go_wp2
              go_meet
              case rel => exact ⟨j1, j2, j3, rfl, by omega, by omega, by omega⟩
          case rest =>
            obtain ⟨a', b', p', rfl, ha', hb', hp'⟩ := hcut
            clear x0 x1 x2 x3 x4 ha hb hp
            generalize hw5 : World.alloc wr _ = w5
            obtain ⟨gx, hgx⟩ : ∃ z, wr.heap.size = z := ⟨_, rfl⟩
            have hbx : Blk w5 wr.heap.size #[.int .u8 kd, .int .i64 a', .int .i64 b', .int .i64 p', .bool nr] 54 := by rw [← hw5]; exact Blk.new _ _ _
            have hB5 : Below wr.heap.size wr w5 := by rw [← hw5]; exact (Below.refl _ _).alloc (Nat.le_refl _) _
            have HL5 := hid (HL.out.later hB5)
            have hgxl : gA + 1 < gx := by rw [← hgx]; exact HL.out.hass.lt
            rw [hgx] at hbx ⊢
            have y2 : w5.cell? ⟨gx, 2, none⟩ = some (.int .i64 b') := hbx.cell 2
            have y3 : w5.cell? ⟨gx, 3, none⟩ = some (.int .i64 p') := hbx.cell 3
            have Hbx := hid hbx
            clear hw5 hgx hB5 HL hbx
            go_upto_region 19 with (fail)
            generalize hw6 : World.alloc w5 _ = w6
            obtain ⟨gp, hgp⟩ : ∃ z, w5.heap.size = z := ⟨_, rfl⟩
            have hbp : Blk w6 w5.heap.size #[.int .i64 b', .int .i64 p'] 28 := by rw [← hw6]; exact Blk.new _ _ _
            have hB6 : Below w5.heap.size w5 w6 := by rw [← hw6]; exact (Below.refl _ _).alloc (Nat.le_refl _) _
            have HL6 := hid (HL5.out.later hB6)
            have hgpl : gx < gp := by rw [← hgp]; exact Hbx.out.lt
            have hbx6 := Hbx.out.later hB6
            rw [hgp] at hbp ⊢
            have Hbx6 := hid hbx6
            have Hbp := hid hbp
            have y0 : w6.cell? ⟨gx, 0, none⟩ = some (.int .u8 kd) := hbx6.cell 0
            have y1 : w6.cell? ⟨gx, 1, none⟩ = some (.int .i64 a') := hbx6.cell 1
            clear hw6 hgp hB6 HL5 hbp hbx6 Hbx y2 y3
            by_cases hk5 : kd.tmod 6 = 5
            ·
              as_aux_lemma =>
              have hk5b : (kd.tmod 6 == 5) = true := by rw [beq_iff_eq]; exact hk5
              by_cases hth : 0 ≤ a' ∧ a' < N
              · obtain ⟨a, rfl⟩ := Int.eq_ofNat_of_zero_le hth.1
                have haN : a < N := by omega
                have haI : (a : Int) < (N : Int) := by omega
                have hdr := drop_in b ga gh gc N M at' has cnt a w6 HL6.out.pm haN (HL6.out.pi.dropable a haN (by omega))
                clear hth ha' hk5b
                go_wp2_with fail
                refine hdr.mono ?_
                rintro e w7 ⟨rfl, hpm, hF⟩
                have hL6 := HL6.out
                obtain ⟨⟨r1, r2, r3⟩, ⟨r4, r5, r6, r7⟩, r8⟩ := Hr.out
                have hA7 := hF.blk hL6.ats (by omega) (by omega) (by omega)
                have hH7 := hF.blk hL6.hass (by omega) (by omega) (by omega)
                have hx7 := hF.blk Hbx6.out (by omega) (by omega) (by omega)
                have hB7 : Below w.heap.size w w7 := hL6.bel.trans (hF.below hL6.bel.size r4 r5 r6)
                have HS := hid (LP.stored a (0, 0) false haN hpm (hL6.pi.drop a haN) hA7 hH7 hB7 Hr.out)
                obtain ⟨c1, c2⟩ := places_at hA7 hL6.pi.la a haN
                have c3 := bools_at hH7 hL6.pi.lh a haN
                have f1 := hA7.free (a * 2)
                have f2 := hA7.free (a * 2 + 1)
                have f3 := hH7.free a
                have y1' : w7.cell? ⟨gx, 1, none⟩ = some (.int .i64 (a : Int)) := hx7.cell 1
                clear hL6 hA7 hH7 hx7 hB7 hF hpm hdr r1 r2 r3 r4 r5 r6 r7 r8 y0 y1 Hbp Hbx6 HL6
                go_upto_region 39 with (fail)
                obtain ⟨w9, hw9⟩ : ∃ W, W = (((w7.setCell ⟨gA, a * 2, none⟩ (.int .i64 0)).setCell ⟨gA, a * 2 + 1, none⟩ (.int .i64 0)).setCell ⟨gA + 1, a, none⟩ (.bool false)) := ⟨_, rfl⟩
                rw [← hw9]
                have HL9 := hid (show LP w w9 b ga gh gc gA (gA + 1) N M _ _ _ by rw [hw9]; exact HS.out)
                have hrt := right_any b ga gh gc N M _ _ _ gA (gA + 1) w9 HL9.out.pm HL9.out.pi HL9.out.ats HL9.out.hass
                clear hw9 HS
                go_wp2_with fail
                refine hrt.mono ?_
                rintro e w10 ⟨rfl, hB10⟩
                have HL10 := hid (HL9.out.later hB10)
                clear hrt hB10
                go_wp2
                go_roundw
                case rel => exact ⟨k + 1, _, _, _, by omega, by omega, by go_num, HL10.out⟩
                case measure => simp [intOf]; omega
              · have hdo := drop_out b ga gh gc N M at' has cnt a' w6 HL6.out.pm hth
                have htc : a' < 0 ∨ (0 ≤ a' ∧ (N : Int) ≤ a') := by omega
                clear hth hk5b
                rcases htc with ht | ⟨ht, ht2⟩
                · go_wp2_with fail
                  refine hdo.mono ?_
                  rintro e w7 ⟨rfl, rfl⟩
                  clear hdo y0 y1
                  have HL9 := HL6
                  go_upto_region 39 with (fail)
                  have hrt := right_any b ga gh gc N M _ _ _ gA (gA + 1) w7 HL9.out.pm HL9.out.pi HL9.out.ats HL9.out.hass
                  go_wp2_with fail
                  refine hrt.mono ?_
                  rintro e w10 ⟨rfl, hB10⟩
                  have HL10 := hid (HL9.out.later hB10)
                  clear hrt hB10
                  go_wp2
                  go_roundw
                  case rel => exact ⟨k + 1, _, _, _, by omega, by omega, by go_num, HL10.out⟩
                  case measure => simp [intOf]; omega
                · go_wp2_with fail
                  refine hdo.mono ?_
                  rintro e w7 ⟨rfl, rfl⟩
                  clear hdo y0 y1
                  have HL9 := HL6
                  go_upto_region 39 with (fail)
                  have hrt := right_any b ga gh gc N M _ _ _ gA (gA + 1) w7 HL9.out.pm HL9.out.pi HL9.out.ats HL9.out.hass
                  go_wp2_with fail
                  refine hrt.mono ?_
                  rintro e w10 ⟨rfl, hB10⟩
                  have HL10 := hid (HL9.out.later hB10)
                  clear hrt hB10
                  go_wp2
                  go_roundw
                  case rel => exact ⟨k + 1, _, _, _, by omega, by omega, by go_num, HL10.out⟩
                  case measure => simp [intOf]; omega
            · have hk5b : (kd.tmod 6 == 5) = false := by rw [beq_eq_false_iff_ne]; exact hk5
              have hk5c : (kd % 6 == 5) = false := by rw [beq_eq_false_iff_ne, ← Int.tmod_eq_emod_of_nonneg hk0]; exact hk5
              go_cut [14] (fun t wx => ∃ th : Bool, t = .bool th ∧ (th = true ↔ 0 ≤ a' ∧ a' < (N : Int)) ∧ wx = w6)
              case first =>
                as_aux_lemma =>
                rcases (show a' < 0 ∨ (0 ≤ a' ∧ (N : Int) ≤ a') ∨ (0 ≤ a' ∧ a' < (N : Int)) by omega) with ht | ⟨ht, ht2⟩ | ⟨ht, ht2⟩
                · go_wp2
                  go_meet
                  case rel => exact ⟨_, rfl, by first | (simp; omega) | trace_state, rfl⟩
                · go_wp2
                  go_meet
                  case rel => exact ⟨_, rfl, by first | (simp; omega) | trace_state, rfl⟩
                · go_wp2
                  go_meet
                  case rel => exact ⟨_, rfl, by first | (simp; omega) | trace_state, rfl⟩
              case rest =>
                obtain ⟨th, rfl, hth, hwx⟩ := hcut
                rw [hwx]
                have Hth := hid hth
                clear hwx hth hk5
                go_wp2
                go_loopw [16] (fun i w' => ∃ q : Nat, q ≤ N ∧ i = .int .i64 (q : Int) ∧ Below w6.heap.size w6 w' ∧ ∀ c, c < q → has.getD c false = true → at'.getD c (0, 0) = (b', p') → (c : Int) = a') (fun i _ => N - (intOf i).toNat)
                case atStart => exact ⟨0, by omega, rfl, Below.refl _ _, fun c hc => absurd hc (by omega)⟩
                case round =>
                  obtain ⟨q, hq, rfl, hBq, hno⟩ := hrel
                  clear y0 y1
                  by_cases hqN : q < N
                  · as_aux_lemma =>
                    have hqI : (q : Int) < (N : Int) := by omega
                    have x0 := bools_at (HL6.out.hass.later hBq) HL6.out.pi.lh q hqN
                    obtain ⟨x1, x2⟩ := places_at (HL6.out.ats.later hBq) HL6.out.pi.la q hqN
                    have y1 : wr.cell? ⟨gx, 1, none⟩ = some (.int .i64 a') := (Hbx6.out.later hBq).cell 1
                    have z0 : wr.cell? ⟨gp, 0, none⟩ = some (.int .i64 b') := (Hbp.out.later hBq).cell 0
                    have z1 : wr.cell? ⟨gp, 1, none⟩ = some (.int .i64 p') := (Hbp.out.later hBq).cell 1
                    have HBq := hid hBq
                    have Hno := hid hno
                    clear hBq hno
                    have Hnx := hid (show (has.getD q false = true → at'.getD q (0, 0) = (b', p') → (q : Int) = a') → ∀ c, c < q + 1 → has.getD c false = true → at'.getD c (0, 0) = (b', p') → (c : Int) = a' from fun h c hc => by
                      by_cases e : c < q
                      · exact Hno.out c e
                      · obtain rfl : c = q := by omega
                        exact h)
                    clear Hno
                    generalize at'.getD q (0, 0) = pk at *
                    obtain ⟨u, v⟩ := pk
                    generalize has.getD q false = hb at *
                    cases hb
                    · go_upto_region 30 with (fail)
                      go_quiet (fail)
                      go_wp2
                      go_roundw
                      case rel => exact ⟨q + 1, by omega, by go_num, below_drewN HBq.out _, Hnx.out (fun h => by cases h)⟩
                      case measure => simp [intOf]; omega
                    · by_cases hu : u = b'
                      · obtain rfl := hu
                        by_cases hv : v = p'
                        · obtain rfl := hv
                          by_cases hqa : (q : Int) = a'
                          · obtain rfl : a' = (q : Int) := hqa.symm
                            go_upto_region 30 with (fail)
                            go_quiet (fail)
                            go_wp2
                            go_roundw
                            case rel => exact ⟨q + 1, by omega, by go_num, below_drewN HBq.out _, Hnx.out (fun _ _ => rfl)⟩
                            case measure => simp [intOf]; omega
                          · have hqb : ((q : Int) == a') = false := by rw [beq_eq_false_iff_ne]; exact hqa
                            have hqc : ((q : Int) != a') = true := by rw [bne_iff_ne]; exact hqa
                            have HBf := hid ((HL6.out.later HBq.out).bel)
                            go_upto_region 30 with (fail)
                            go_quiet (fail)
                            go_wp2
                            go_ret
                            exact ⟨rfl, below_drewN HBf.out _⟩
                        · have hvb : (v == p') = false := by rw [beq_eq_false_iff_ne]; exact hv
                          go_upto_region 30 with (fail)
                          go_quiet (fail)
                          go_wp2
                          go_roundw
                          case rel => exact ⟨q + 1, by omega, by go_num, below_drewN HBq.out _, Hnx.out (fun _ h => absurd (Prod.ext_iff.mp h).2 hv)⟩
                          case measure => simp [intOf]; omega
                      · have hub : (u == b') = false := by rw [beq_eq_false_iff_ne]; exact hu
                        go_upto_region 30 with (fail)
                        go_quiet (fail)
                        go_wp2
                        go_roundw
                        case rel => exact ⟨q + 1, by omega, by go_num, below_drewN HBq.out _, Hnx.out (fun _ h => absurd (Prod.ext_iff.mp h).1 hu)⟩
                        case measure => simp [intOf]; omega
                  · obtain rfl : q = N := by omega
                    have Hno := hid hno
                    have HLr := hid (HL6.out.later hBq)
                    have Hbxr := hid (Hbx6.out.later hBq)
                    have Hbpr := hid (Hbp.out.later hBq)
                    have y1 : wr.cell? ⟨gx, 1, none⟩ = some (.int .i64 a') := Hbxr.out.cell 1
                    have y2 : wr.cell? ⟨gx, 2, none⟩ = some (.int .i64 b') := Hbxr.out.cell 2
                    have y3 : wr.cell? ⟨gx, 3, none⟩ = some (.int .i64 p') := Hbxr.out.cell 3
                    have z0 : wr.cell? ⟨gp, 0, none⟩ = some (.int .i64 b') := Hbpr.out.cell 0
                    have z1 : wr.cell? ⟨gp, 1, none⟩ = some (.int .i64 p') := Hbpr.out.cell 1
                    clear hqN hno hBq HL6 Hbx6 Hbp hq
                    go_upto_region 32 with (fail)
                    go_cut [14] (fun t wx => ∃ t2 : Bool, t = .bool t2 ∧ (t2 = true ↔ (0 ≤ a' ∧ a' < (q : Int)) ∧ (0 ≤ b' ∧ b' < (M : Int)) ∧ 0 ≤ p' ∧ p' < 32) ∧ wx = wr)
                    case first =>
                      as_aux_lemma =>
                      cases th
                      · have hno' : ¬ (0 ≤ a' ∧ a' < (q : Int)) := fun h => by cases Hth.out.mpr h
                        have Hn := hid (show False ↔ (0 ≤ a' ∧ a' < (q : Int)) ∧ (0 ≤ b' ∧ b' < (M : Int)) ∧ 0 ≤ p' ∧ p' < 32 from ⟨fun h => h.elim, fun h => hno' h.1⟩)
                        clear hno'
                        go_wp2
                        go_meet
                        case rel => exact ⟨false, rfl, ⟨fun h => (by cases h), fun h => (Hn.out.mpr h).elim⟩, rfl⟩
                      · have Hy' := Hth.out.mp rfl
                        have Hn := hid (show ((0 ≤ b' ∧ b' < (M : Int)) ∧ 0 ≤ p' ∧ p' < 32) ↔ (0 ≤ a' ∧ a' < (q : Int)) ∧ (0 ≤ b' ∧ b' < (M : Int)) ∧ 0 ≤ p' ∧ p' < 32 from ⟨fun h => ⟨Hy', h⟩, fun h => h.2⟩)
                        clear Hy'
                        rcases (show b' < 0 ∨ (0 ≤ b' ∧ (M : Int) ≤ b') ∨ ((0 ≤ b' ∧ b' < (M : Int)) ∧ p' < 0) ∨ ((0 ≤ b' ∧ b' < (M : Int)) ∧ 0 ≤ p' ∧ 32 ≤ p') ∨ ((0 ≤ b' ∧ b' < (M : Int)) ∧ 0 ≤ p' ∧ p' < 32) by omega) with ht | ⟨ht, ht2⟩ | ⟨⟨ht, ht2⟩, ht3⟩ | ⟨⟨ht, ht2⟩, ht3, ht4⟩ | ⟨⟨ht, ht2⟩, ht3, ht4⟩
                        all_goals
                          go_wp2
                          go_meet
                          case rel => exact ⟨_, rfl, by rw [← Hn.out]; first | (simp; done) | (simp; omega) | (simp; trace_state), rfl⟩
                    case rest =>
                      obtain ⟨t2, rfl, ht2, hwx⟩ := hcut
                      rw [hwx]
                      clear hwx Hth
                      by_cases hgood : (0 ≤ a' ∧ a' < (q : Int)) ∧ (0 ≤ b' ∧ b' < (M : Int)) ∧ 0 ≤ p' ∧ p' < 32
                      · as_aux_lemma =>
                        obtain rfl : t2 = true := ht2.mpr hgood
                        clear ht2
                        obtain ⟨⟨ga0, ga1⟩, ⟨gb0, gb1⟩, gp0, gp1⟩ := hgood
                        obtain ⟨a, rfl⟩ := Int.eq_ofNat_of_zero_le ga0
                        obtain ⟨B, rfl⟩ := Int.eq_ofNat_of_zero_le gb0
                        obtain ⟨P, rfl⟩ := Int.eq_ofNat_of_zero_le gp0
                        have haN : a < q := by omega
                        have hBM : B < M := by omega
                        have hP : P < 32 := by omega
                        have hLr := HLr.out
                        have hdi := hLr.pi.drop a haN
                        have hbd : 0 ≤ (dcnt at' has cnt a).getD B 0 ∧ (dcnt at' has cnt a).getD B 0 ≤ 65536 := by
                          have hl : B < (dcnt at' has cnt a).length := by rw [hdi.lc]; exact hBM
                          have := hdi.cnt_bd ((dcnt at' has cnt a).getD B 0) (by rw [List.getD_eq_getElem?_getD, List.getElem?_eq_getElem hl]; exact List.getElem_mem hl)
                          omega
                        have hpi := hLr.pi.set a B P haN hBM hP (fun c hc hh he => by
                          by_cases e : c < q
                          · have := Hno.out c e hh he
                            omega
                          · exact e (by have := has_lt hh; rwa [hLr.pi.lh] at this))
                        obtain ⟨⟨r1, r2, r3⟩, ⟨r4, r5, r6, r7⟩, r8⟩ := Hr.out
                        have hlt := hLr.ats.lt
                        have hst := set_in b ga gh gc q M at' has cnt a B P wr hLr.pm haN hBM hP (hLr.pi.dropable a haN (by omega)) hbd (by omega) (by omega) (by omega)
                        have Hpi := hid hpi
                        have Hr1 := hid (show ga < gA ∧ gh < gA ∧ gc < gA from ⟨r1, r2, r3⟩)
                        have Hr2 := hid (show w.heap.size ≤ ga ∧ w.heap.size ≤ gh ∧ w.heap.size ≤ gc from ⟨r4, r5, r6⟩)
                        clear ga0 ga1 gb0 gb1 gp0 gp1 hLr hdi hbd hpi r1 r2 r3 r4 r5 r6 r7 r8 hlt ha' hb' hp'
                        go_wp2_with fail
                        refine hst.mono ?_
                        rintro e w7 ⟨rfl, hpm, hF⟩
                        have hLr := HLr.out
                        obtain ⟨r1, r2, r3⟩ := Hr1.out
                        obtain ⟨r4, r5, r6⟩ := Hr2.out
                        have hA7 := hF.blk hLr.ats (by omega) (by omega) (by omega)
                        have hH7 := hF.blk hLr.hass (by omega) (by omega) (by omega)
                        have hx7 := hF.blk Hbxr.out (by omega) (by omega) (by omega)
                        have hp7 := hF.blk Hbpr.out (by omega) (by omega) (by omega)
                        have hB7 : Below w.heap.size w w7 := hLr.bel.trans (hF.below hLr.bel.size r4 r5 r6)
                        have HS := hid (LP.stored a ((B : Int), (P : Int)) true haN hpm Hpi.out hA7 hH7 hB7 Hr.out)
                        obtain ⟨c1, c2⟩ := places_at hA7 hLr.pi.la a haN
                        have c3 := bools_at hH7 hLr.pi.lh a haN
                        have f1 := hA7.free (a * 2)
                        have f2 := hA7.free (a * 2 + 1)
                        have f3 := hH7.free a
                        have y1' : w7.cell? ⟨gx, 1, none⟩ = some (.int .i64 (a : Int)) := hx7.cell 1
                        have z0' : w7.cell? ⟨gp, 0, none⟩ = some (.int .i64 (B : Int)) := hp7.cell 0
                        have z1' : w7.cell? ⟨gp, 1, none⟩ = some (.int .i64 (P : Int)) := hp7.cell 1
                        have haI : (a : Int) < (q : Int) := by omega
                        clear hLr hA7 hH7 hx7 hp7 hB7 hF hpm hst r1 r2 r3 r4 r5 r6 y1 y2 y3 z0 z1 Hbpr Hbxr HLr Hno Hpi Hr1 Hr2
                        go_upto_region 39 with (fail)
                        obtain ⟨w9, hw9⟩ : ∃ W, W = (((w7.setCell ⟨gA, a * 2, none⟩ (.int .i64 (B : Int))).setCell ⟨gA, a * 2 + 1, none⟩ (.int .i64 (P : Int))).setCell ⟨gA + 1, a, none⟩ (.bool true)) := ⟨_, rfl⟩
                        rw [← hw9]
                        have HL9 := hid (show LP w w9 b ga gh gc gA (gA + 1) q M _ _ _ by rw [hw9]; exact HS.out)
                        have hrt := right_any b ga gh gc q M _ _ _ gA (gA + 1) w9 HL9.out.pm HL9.out.pi HL9.out.ats HL9.out.hass
                        clear hw9 HS
                        go_wp2_with fail
                        refine hrt.mono ?_
                        rintro e w10 ⟨rfl, hB10⟩
                        have HL10 := hid (HL9.out.later hB10)
                        clear hrt hB10
                        go_wp2
                        go_roundw
                        case rel => exact ⟨k + 1, _, _, _, by omega, by omega, by go_num, HL10.out⟩
                        case measure => simp [intOf]; omega
                      · as_aux_lemma =>
                        have ht2' : t2 = false := by
                          cases t2
                          · rfl
                          · exact absurd (ht2.mp rfl) hgood
                        obtain rfl := ht2'
                        have hsb := set_bad b ga gh gc q M at' has cnt a' b' p' wr HLr.out.pm hgood
                        clear ht2 hgood
                        go_wp2_with fail
                        refine hsb.mono ?_
                        rintro e w7 ⟨rfl, hB7⟩
                        have HL9 := hid (HLr.out.later hB7)
                        clear hsb hB7 HLr Hbxr Hbpr Hno y1 y2 y3 z0 z1
                        go_upto_region 39 with (fail)
                        have hrt := right_any b ga gh gc q M _ _ _ gA (gA + 1) w7 HL9.out.pm HL9.out.pi HL9.out.ats HL9.out.hass
                        go_wp2_with fail
                        refine hrt.mono ?_
                        rintro e w10 ⟨rfl, hB10⟩
                        have HL10 := hid (HL9.out.later hB10)
                        clear hrt hB10
                        go_wp2
                        go_roundw
                        case rel => exact ⟨k + 1, _, _, _, by omega, by omega, by go_num, HL10.out⟩
                        case measure => simp [intOf]; omega
        · as_aux_lemma =>
          have hg := get_any b ga gh gc N M at' has cnt (N : Int) wr hL.pm
          have e1 : getOk has N (N : Int) = false := by unfold getOk; rw [decide_eq_false (by omega), Bool.false_and]
          rw [e1] at hg
          generalize (getV at' has N (N : Int)).1 = g1 at *
          generalize (getV at' has N (N : Int)).2 = g2 at *
          have HL := hid hL
          clear hL e1
          have hex : mm ≤ k ∨ (k < mm ∧ 60 ≤ k) := by omega
          clear hlt
          rcases hex with hx | ⟨hx, hx2⟩
          all_goals
            go_wp2_with fail
            refine hg.mono ?_
            rintro e w2 ⟨rfl, hB2⟩
            have HL2 := hid (HL.out.later hB2)
            clear hg HL hB2
            go_upto_region 42 with (fail)
            generalize hw3 : World.alloc w2 _ = w3
            have hB3 : Below w2.heap.size w2 w3 := by rw [← hw3]; exact (Below.refl _ _).alloc (Nat.le_refl _) _
            have HL3 := hid (HL2.out.later hB3)
            have hc1 := count_any b ga gh gc N M at' has cnt (-1) w3 HL3.out.pm
            rw [if_neg (by omega)] at hc1
            have hc2 := count_any b ga gh gc N M at' has cnt (M : Int) w3 HL3.out.pm
            rw [if_neg (by omega)] at hc2
            clear hw3 hB3 HL2
            go_wp2_with fail
            refine hc1.mono ?_
            rintro e w4 ⟨rfl, rfl⟩
            go_wp2_with fail
            refine hc2.mono ?_
            rintro e w5 ⟨rfl, rfl⟩
            clear hc1 hc2
            go_wp2
            go_ret
            exact ⟨rfl, HL3.out.bel⟩
  · go_enter Try.func6, Try.ntmps6
    go_wp2_with fail
    refine (awake_any w).mono ?_
    rintro e w1 ⟨rfl, hB1⟩
    go_wp2_with fail
    refine (new_bad n m w1 hv).mono ?_
    rintro e w2 ⟨rfl, rfl⟩
    have hc : n < 1 ∨ (1 ≤ n ∧ 65536 < n) ∨ (1 ≤ n ∧ n ≤ 65536 ∧ m < 1) ∨ (1 ≤ n ∧ n ≤ 65536 ∧ 1 ≤ m ∧ 64 < m) := by omega
    have HB := hid hB1
    clear hv hn hm hB1
    rcases hc with h1 | ⟨h1, h2⟩ | ⟨h1, h2, h3⟩ | ⟨h1, h2, h3, h4⟩
    all_goals
      go_wp2
      go_ret
      exact ⟨rfl, HB.out⟩
end Go.Proofs.Ytnlidokfmpfepaa.Pmap
