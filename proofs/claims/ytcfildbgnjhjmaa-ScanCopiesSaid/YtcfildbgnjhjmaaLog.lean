import Derived.Test.YtcfildbgnjhjmaaSheetRead
import Derived.Test.YtcfildbgnjhjmaaNandZ
import Derived.Laws.ResultCell
set_option linter.unusedVariables false
set_option linter.unusedSimpArgs false
namespace Go.Proofs.Ytcfildbgnjhjmaa.Log
open Go.RowKit Go.Proofs.Ytcfildbgnjhjmaa.Kit Go.Proofs.Ytcfildbgnjhjmaa.Oct Go.Proofs.Ytcfildbgnjhjmaa.Sheet Go.Proofs.Ytcfildbgnjhjmaa.Nand

/-! What the logbook's blocks tell. -/
/-- What a page tells: a claim (its epoch, and who has it), or none. -/
def Tells (q : List Int) : Option (Nat × Nat) → Prop
  | some y => ∃ S f ys, formN 3 y.1 S y.2 f ys ∧ q = page 3 y.1 S y.2 f ys
  | none => ∀ E S a f ys, formN 3 E S a f ys → q ≠ page 3 E S a f ys
structure LBk (x : NB) (cl : List (Option (Nat × Nat))) : Prop where
  len : x.pages.length = cl.length
  tells : ∀ k, k < cl.length → Tells (x.pages.getD k []) (cl.getD k none)
  bytes : ∀ k, k < cl.length → IsB (x.pages.getD k [])
def up (x : Nat × Nat) : Option (Nat × Nat) → Nat × Nat
  | some y => if x.1 < y.1 then y else x
  | none => x
theorem up_pos {x y : Nat × Nat} (h : x.1 < y.1) : up x (some y) = y := if_pos h
theorem up_neg {x y : Nat × Nat} (h : ¬ x.1 < y.1) : up x (some y) = x := if_neg h
def best (l : List (Option (Nat × Nat))) : Nat × Nat := l.foldl up (0, 0)
theorem best_snoc (l : List (Option (Nat × Nat))) (o : Option (Nat × Nat)) : best (l ++ [o]) = up (best l) o := by
  unfold best; rw [List.foldl_append]; rfl
theorem best_take (l : List (Option (Nat × Nat))) (k : Nat) (hk : k < l.length) : best (l.take (k + 1)) = up (best (l.take k)) (l.getD k none) := by
  rw [List.take_add_one, List.getElem?_eq_getElem hk]
  show best (l.take k ++ [l[k]]) = _
  rw [best_snoc, List.getD_eq_getElem?_getD, List.getElem?_eq_getElem hk]
  rfl
theorem tells_yes {q : List Int} {o : Option (Nat × Nat)} {E S a f : Nat} {ys : List Int} (h : Tells q o) (hf : formN 3 E S a f ys) (hq : q = page 3 E S a f ys) : o = some (E, a) := by
  cases o with
  | none => exact absurd hq (h E S a f ys hf)
  | some y =>
    obtain ⟨S', f', ys', hf', hq'⟩ := h
    obtain ⟨-, h1, -, h2, -⟩ := page_inj hf hf' (hq.symm.trans hq')
    exact congrArg some (Prod.ext h1.symm h2.symm)
theorem tells_no {q : List Int} {o : Option (Nat × Nat)} (h : Tells q o) (hq : ¬ IsPage q) : o = none := by
  cases o with
  | none => rfl
  | some y =>
    obtain ⟨S, f, ys, hf, e⟩ := h
    exact absurd ⟨3, _, _, _, _, _, hf, e⟩ hq
theorem tells_other {q : List Int} {o : Option (Nat × Nat)} {K E S a f : Nat} {ys : List Int} (h : Tells q o) (hf : formN K E S a f ys) (hq : q = page K E S a f ys) (hK : K ≠ 3) : o = none := by
  cases o with
  | none => rfl
  | some y =>
    obtain ⟨S', f', ys', hf', e⟩ := h
    exact absurd (page_inj hf hf' (hq.symm.trans e)).1 hK
theorem best_lt {l : List (Option (Nat × Nat))} {x : NB} (h : LBk x l) (k : Nat) (hk : k ≤ l.length) : (best (l.take k)).1 < 281474976710656 ∧ (best (l.take k)).2 < 65536 := by
  induction k with
  | zero => rw [List.take_zero]; exact ⟨by decide, by decide⟩
  | succ k ih =>
    have ih := ih (by omega)
    rw [best_take l k (by omega)]
    have ht := h.tells k (by omega)
    generalize l.getD k none = o at *
    cases o with
    | none => exact ih
    | some y =>
      obtain ⟨S, f, ys, hf, -⟩ := ht
      show (if _ then _ else _ : Nat × Nat).1 < _ ∧ (if _ then _ else _ : Nat × Nat).2 < _
      split
      · exact ⟨hf.2.2.1, hf.2.2.2.2.1⟩
      · exact ih
theorem blk_two {w : World} {g : Nat} {v0 v1 : Value} {T : TypeId} (h : Blk w g #[v0, v1] T) : (w.cell? ⟨g, 0, none⟩ = some v0 ∧ w.cell? ⟨g, 1, none⟩ = some v1) ∧ (w.frozen? ⟨g, 0, none⟩ = false ∧ w.frozen? ⟨g, 1, none⟩ = false) := ⟨⟨h.cell 0, h.cell 1⟩, h.free 0, h.free 1⟩
theorem blk_two_set {w : World} {g : Nat} {v0 v1 : Value} {T : TypeId} (h : Blk w g #[v0, v1] T) (u0 u1 : Value) : Blk ((w.setCell ⟨g, 0, none⟩ u0).setCell ⟨g, 1, none⟩ u1) g #[u0, u1] T := by
  have := (h.set 0 u0).set 1 u1
  simpa using this
/-- Of a fresh block: its cells are the caller's no more than any above. -/
theorem ArrB.own {w0 w : World} {b g : Nat} {N : NA} (h : ArrB w0 w b N) (hg : w.heap.size ≤ g) {w' : World} (hB : Below w.heap.size w w') (i : Nat) (v : Value) : ArrB w0 (w'.setCell ⟨g, i, none⟩ v) b N :=
  h.later (hB.setCell (p := (⟨g, i, none⟩ : Addr)) hg v)

set_option maxRecDepth 100000 in
set_option maxHeartbeats 4000000 in
theorem last_any {w0 w : World} {b : Nat} {N : NA} (h : ArrB w0 w b N) (i : Nat) (hi : i < N.bs.length) (ho : N.off = false) (hh : (N.blk i).half = false) (cl : List (Option (Nat × Nat))) (hc : LBk (N.blk i) cl) :
    Calls Try.prog 69 #[.pointer (some ⟨b, 0, none⟩), .int .i64 (i : Int)] w fun e w' => e = .returned (.tuple #[.agg #[.int .u64 ((best cl).1 : Int), .int .i64 ((best cl).2 : Int)], .int .i64 0]) ∧ ArrB w0 w' b N ∧ Below w.heap.size w w' := by
  have hwf := h.wf
  have hnl := hwf.len i hi
  have hnp := hwf.np
  have hnb := hwf.nb
  obtain ⟨n, hn⟩ : ∃ n, cl.length = n := ⟨_, rfl⟩
  have hpl : (N.blk i).pages.length = n := hc.len.trans hn
  have hin : N.inI (i : Int) = true := by unfold NA.inI; simp; omega
  have hnext : ∀ W, ArrB w0 W b N → Calls Try.prog 17 #[.pointer (some ⟨b, 0, none⟩), .int .i64 (i : Int)] W fun e w' => e = .returned (.int .i64 (n : Int)) ∧ w' = W := fun W hW => by
    have := next_b hW (i : Int)
    rw [hin, if_pos rfl, Int.toNat_natCast, hpl] at this
    exact this
  have hrd : ∀ W (p : Nat), ArrB w0 W b N → p < n → Calls Try.prog 65 #[.pointer (some ⟨b, 0, none⟩), .int .i64 (i : Int), .int .i64 (p : Int)] W fun e w' => ∃ A c, e = .returned (.tuple #[.slice A 96 c, .int .i64 0]) ∧ (96 ≤ c ∧ Nums w' .u8 A 96 ((N.blk i).pages.getD p [])) ∧ Below W.heap.size W w' := fun W p hW hp => by
    have he : N.readE (i : Int) (p : Int) = 0 := by
      rw [readE_eq (atE_in i hi ho)]
      unfold NA.readE2
      rw [if_neg (by omega), if_neg (by omega), if_neg (by rw [hh]; simp)]
    refine (read_yes_b hW (i : Int) (p : Int) he).mono ?_
    rintro e w' ⟨A, c, he, ho, -, hB⟩
    refine ⟨A, c, he, ?_, hB⟩
    have hpg : N.page (i : Int) (p : Int) = (N.blk i).pages.getD p [] := rfl
    rw [hpg] at ho
    exact own_reads ho (wf_of (hc.bytes p (by omega)))
  go_enter Try.func69, Try.ntmps69
  go_upto_region 2 with (fail)
  obtain ⟨gr, hgr⟩ : ∃ g, w.heap.size = g := ⟨_, rfl⟩
  generalize hw2 : World.alloc (World.alloc w _) _ = w2
  have hbr : Blk w2 gr #[.int .u64 0, .int .i64 0] 30 := by rw [← hw2, ← hgr]; exact (Blk.new w _ _).alloc _
  have hbx : Blk w2 (gr + 1) #[.int .u64 0, .int .i64 0] 30 := by
    rw [← hw2, ← hgr]
    have := Blk.new (w.alloc (.cells #[.int .u64 0, .int .i64 0] 30)) #[.int .u64 0, .int .i64 0] 30
    simpa using this
  have hB2 : Below gr w w2 := by rw [← hw2, ← hgr]; exact ((Below.refl _ _).alloc (Nat.le_refl _) _).alloc (by simp) _
  have hA2 : ArrB w0 w2 b N := h.later (by rw [hgr]; exact hB2)
  have hB2' := hid hB2
  clear hw2 hB2
  rw [hgr]
  go_wp2_with fail
  refine (hnext w2 hA2).mono ?_
  rintro e w3 ⟨rfl, rfl⟩
  clear hA2
  go_wp2
  go_loopw [15] (fun v w' => ∃ p : Nat, p ≤ n ∧ v = .int .i64 (p : Int) ∧ Blk w' (gr + 1) #[.int .u64 ((best (cl.take p)).1 : Int), .int .i64 ((best (cl.take p)).2 : Int)] 30 ∧ Blk w' gr #[.int .u64 0, .int .i64 0] 30 ∧ Below gr w w') (fun v _ => n - (intOf v).toNat)
  case atStart => exact ⟨0, by omega, rfl, hbx, hbr, hB2'.out⟩
  case round =>
    clear hbx hbr hB2'
    obtain ⟨p, hp, rfl, hbx, hbr, hB⟩ := hrel
    have hbd := best_lt hc p (by omega)
    by_cases hlt : p < n
    · have hbt := best_take cl p (by omega)
      have htl := hc.tells p (by omega)
      have hrd' := hrd wr p (h.later (by rw [hgr]; exact hB)) hlt
      generalize best (cl.take p) = x at *
      obtain ⟨E0, a0⟩ := x
      generalize cl.getD p none = o at *
      generalize hxs : (N.blk i).pages.getD p [] = xs at *
      have hltI : (p : Int) < (n : Int) := by omega
      have Hbt := hid hbt
      have Htl := hid htl
      have HB := hid hB
      have Hbd := hid hbd
      have Hgr := hid hgr
      clear hbt htl hB hbd hxs hgr
      go_wp2_with fail
      refine hrd'.mono ?_
      rintro e w4 ⟨A, c, rfl, ⟨hc96, hz⟩, hB4⟩
      have hbx4 := hbx.later hB4
      have hbr4 := hbr.later hB4
      have HB4 := hid (HB.out.trans (hB4.mono (by rw [← Hgr.out]; exact Nat.le_trans (by rw [Hgr.out]; exact Nat.le_of_lt hbr.lt) (Nat.le_refl _))))
      clear hbx hbr HB hB4 hrd'
      go_wp2_with fail
      refine (sread_any A 96 c xs w4 hz hc96).mono ?_
      rintro e w5 ⟨v, k, rfl, ht, hB5⟩
      have Hbx5 := hid (hbx4.later hB5)
      have Hbr5 := hid (hbr4.later hB5)
      have HB5 := hid (HB4.out.trans (hB5.mono (Nat.le_of_lt hbr4.lt)))
      clear hbx4 hbr4 HB4 hB5 hz hc96
      rcases ht with ⟨K, E, S, a, f, A2, n2, c2, ys, rfl, rfl, hf, -, hpg⟩ | ⟨hno, rfl, rfl⟩
      · by_cases hK : K = 3
        · obtain rfl := hK
          obtain rfl : o = some (E, a) := tells_yes Htl.out hf hpg
          clear Htl hf hpg
          go_upto_region 10 with (fail)
          generalize hw6 : World.alloc w5 _ = w6
          obtain ⟨gs, hgs⟩ : ∃ g, w5.heap.size = g := ⟨_, rfl⟩
          have hB6 : Below w5.heap.size w5 w6 := by rw [← hw6]; exact (Below.refl _ _).alloc (Nat.le_refl _) _
          have hbs : Blk w6 gs #[.int .u8 ((3 : Nat) : Int), .int .u64 (E : Int), .int .u64 (S : Int), .int .i64 (a : Int), .int .i64 ((f : Int) - 1), .slice A2 n2 c2] 55 := by rw [← hw6, ← hgs]; exact Blk.new _ _ _
          have hbx6 := Hbx5.out.later hB6
          have Hbr6 := hid (Hbr5.out.later hB6)
          have HB6 := hid (HB5.out.trans (hB6.mono (Nat.le_of_lt Hbr5.out.lt)))
          have Hgsl := hid (show gr + 1 < gs by rw [← hgs]; exact Hbx5.out.lt)
          rw [hgs]
          have y0 : w6.cell? ⟨gs, 0, none⟩ = some (.int .u8 ((3 : Nat) : Int)) := hbs.cell 0
          have y1 : w6.cell? ⟨gs, 1, none⟩ = some (.int .u64 (E : Int)) := hbs.cell 1
          have y3 : w6.cell? ⟨gs, 3, none⟩ = some (.int .i64 (a : Int)) := hbs.cell 3
          obtain ⟨⟨x0, x1⟩, f0, f1⟩ := blk_two hbx6
          have Hbx6 := hid hbx6
          clear Hbx5 Hbr5 HB5 hB6 hw6 hgs hbs hbx6
          have y0 : w6.cell? ⟨gs, 0, none⟩ = some (.int .u8 3) := y0
          by_cases hE : E0 < E
          · have hEI : (E0 : Int) < (E : Int) := by omega
            go_wp2
            go_roundw
            case rel => exact ⟨p + 1, by omega, by go_num, by rw [Hbt.out, up_pos hE]; exact blk_two_set Hbx6.out _ _, (Hbr6.out.setOther _ (by simp) _).setOther _ (by simp) _, (HB6.out.setCell (by simp) _).setCell (by simp) _⟩
            case measure => simp [intOf]; omega
          · have hEI : (E : Int) ≤ (E0 : Int) := by omega
            clear f0 f1
            go_wp2
            go_roundw
            case rel => exact ⟨p + 1, by omega, by go_num, by rw [Hbt.out, up_neg hE]; exact Hbx6.out, Hbr6.out, HB6.out⟩
            case measure => simp [intOf]; omega
        · obtain rfl : o = none := tells_other Htl.out hf hpg hK
          have hKb : ((K : Int) == 3) = false := by rw [beq_eq_false_iff_ne]; omega
          clear Htl hf hpg
          go_upto_region 10 with (fail)
          generalize hw6 : World.alloc w5 _ = w6
          obtain ⟨gs, hgs⟩ : ∃ g, w5.heap.size = g := ⟨_, rfl⟩
          have hB6 : Below w5.heap.size w5 w6 := by rw [← hw6]; exact (Below.refl _ _).alloc (Nat.le_refl _) _
          have hbs : Blk w6 gs #[.int .u8 (K : Int), .int .u64 (E : Int), .int .u64 (S : Int), .int .i64 (a : Int), .int .i64 ((f : Int) - 1), .slice A2 n2 c2] 55 := by rw [← hw6, ← hgs]; exact Blk.new _ _ _
          have hbx6 := Hbx5.out.later hB6
          have Hbr6 := hid (Hbr5.out.later hB6)
          have HB6 := hid (HB5.out.trans (hB6.mono (Nat.le_of_lt Hbr5.out.lt)))
          have Hgsl := hid (show gr + 1 < gs by rw [← hgs]; exact Hbx5.out.lt)
          rw [hgs]
          have y0 : w6.cell? ⟨gs, 0, none⟩ = some (.int .u8 (K : Int)) := hbs.cell 0
          have y1 : w6.cell? ⟨gs, 1, none⟩ = some (.int .u64 (E : Int)) := hbs.cell 1
          have y3 : w6.cell? ⟨gs, 3, none⟩ = some (.int .i64 (a : Int)) := hbs.cell 3
          obtain ⟨⟨x0, x1⟩, f0, f1⟩ := blk_two hbx6
          have Hbx6 := hid hbx6
          clear Hbx5 Hbr5 HB5 hB6 hw6 hgs hbs hbx6
          clear f0 f1 x0 x1 y1 y3
          go_wp2
          go_roundw
          case rel => exact ⟨p + 1, by omega, by go_num, by rw [Hbt.out]; exact Hbx6.out, Hbr6.out, HB6.out⟩
          case measure => simp [intOf]; omega
      · obtain rfl : o = none := tells_no Htl.out hno
        have hcd : (code xs == 0) = false := by rw [beq_eq_false_iff_ne]; exact code_ne xs
        clear hno
        generalize code xs = k at *
        go_upto_region 10 with (fail)
        generalize hw6 : World.alloc w5 _ = w6
        have hB6 : Below w5.heap.size w5 w6 := by rw [← hw6]; exact (Below.refl _ _).alloc (Nat.le_refl _) _
        have Hbx6 := hid (Hbx5.out.later hB6)
        have Hbr6 := hid (Hbr5.out.later hB6)
        have HB6 := hid (HB5.out.trans (hB6.mono (Nat.le_of_lt Hbr5.out.lt)))
        clear Hbx5 Hbr5 HB5 hB6 hw6
        go_wp2
        go_roundw
        case rel => exact ⟨p + 1, by omega, by go_num, by rw [Hbt.out]; exact Hbx6.out, Hbr6.out, HB6.out⟩
        case measure => simp [intOf]; omega
    · obtain rfl : n = p := by omega
      rw [List.take_of_length_le (by omega)] at hbx
      generalize hbe : best cl = x at hbx
      obtain ⟨E0, a0⟩ := x
      replace hbe := hid hbe
      obtain ⟨⟨x0, x1⟩, -⟩ := blk_two hbx
      obtain ⟨⟨y0, y1⟩, f0, f1⟩ := blk_two hbr
      have HB := hid hB
      have Hbr := hid hbr
      have HA := hid h
      have Hgr := hid hgr
      clear hbx hbr hB hrd hnext h hgr hlt
      go_wp2
      have hw := blk_two_set Hbr.out (.int .u64 (E0 : Int)) (.int .i64 (a0 : Int))
      have hBB : Below w.heap.size w ((wr.setCell ⟨gr, 0, none⟩ (.int .u64 (E0 : Int))).setCell ⟨gr, 1, none⟩ (.int .i64 (a0 : Int))) := by rw [Hgr.out]; exact (HB.out.setCell (by simp) _).setCell (by simp) _
      refine bodyPost_ret (results_row_tmp (P := Try.prog) rfl _ _ gr _ _ (0, 0) _ rfl hw Try.underlying30 rfl (by kernel_rfl)) rfl ?_
      exact ⟨by rw [hbe.out]; rfl, HA.out.later hBB, hBB⟩
end Go.Proofs.Ytcfildbgnjhjmaa.Log
