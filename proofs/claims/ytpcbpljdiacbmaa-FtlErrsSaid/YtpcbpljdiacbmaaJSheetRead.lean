import Derived.Test.YtpcbpljdiacbmaaJSheetForm
import Derived.Test.YtpcbpljdiacbmaaJSheetPlain
import Derived.Laws.ResultCell
set_option linter.unusedVariables false
set_option linter.unusedSimpArgs false
namespace Go.Proofs.Ytpcbpljdiacbmaa.Sheet
open Go.RowKit Go.Proofs.Ytpcbpljdiacbmaa.Kit Go.Proofs.Ytpcbpljdiacbmaa.Oct

theorem results_row_tmp {P : Program} {fn : Func} {p u : Tmp} {ty : TypeId} (h : fn.results = #[.cell p ty, .tmp u]) (tmps : Array Value) (w : World) (g : Nat) (t : TypeId) (cs : Array Value) (fr : Nat × Nat) (d : TypeDesc)
  (hp : tmps.getD p undef = .pointer (some ⟨g, 0, none⟩)) (hg : w.heap[g]? = some (.cells cs t fr))
  (hu : P.underlying ty = some d) (hd : (match d with | .struct _ | .array _ _ => true | _ => false) = true) (hi : (P.info? ty).map (·.size) = some cs.size) :
  (results fn tmps).run P w = .ok (.tuple #[.agg cs, tmps.getD u undef]) w := by
 rw [results_cell_tmp h, hp]
 show ((loadVar ty ⟨g, 0, none⟩).run P w).andThen _ = _
 rw [run_loadVar_row w g t ty cs fr d hg hu hd hi]
 rfl

/-- What reading bytes told. -/
def Told (w' : World) (xs : List Int) (v : Value) (e : Int) : Prop :=
 (∃ (K E S a f : Nat) (A : Option Addr) (n c : Nat) (ys : List Int), v = .agg #[.int .u8 (K : Int), .int .u64 (E : Int), .int .u64 (S : Int), .int .i64 (a : Int), .int .i64 ((f : Int) - 1), .slice A n c] ∧ e = 0 ∧ formN K E S a f ys ∧ Nums w' .u8 A n ys ∧ xs = page K E S a f ys) ∨
 (¬ IsPage xs ∧ e = code xs ∧ v = .agg #[.int .u8 0, .int .u64 0, .int .u64 0, .int .i64 0, .int .i64 0, .slice none 0 0])

theorem numSt_most (bad : Bool) (xs : List Int) (k most : Nat) : (numSt bad xs k most).1 ≤ most := by
 unfold numSt
 split
 ·exact Nat.zero_le _
 ·rename_i h
  exact Nat.le_of_not_lt h

theorem told_last {w' : World} {xs : List Int} (h : xs.length ≠ 96 ∨ xs.getD 95 0 ≠ 90) : Told w' xs (.agg #[.int .u8 0, .int .u64 0, .int .u64 0, .int .i64 0, .int .i64 0, .slice none 0 0]) 3 := by
 refine .inr ⟨not_page_last h, ?_, rfl⟩
 unfold code
 rw [if_neg]
 rintro ⟨h1, h2, _⟩
 rcases h with h | h
 ·exact h h1
 ·exact h h2
theorem drop_take_sum {xs : List Int} (hl : xs.length = 96) : (xs.take 95).length = 95 := by rw [List.length_take, hl]; rfl
theorem told_sum {w' : World} {xs : List Int} (hl : xs.length = 96) (hy : xs.getD 95 0 = 90) (h : num ((xs.take 95).drop 91) ≠ sum ((xs.take 95).take 91)) : Told w' xs (.agg #[.int .u8 0, .int .u64 0, .int .u64 0, .int .i64 0, .int .i64 0, .slice none 0 0]) 4 := by
 have h4 := op_bad (drop_take_sum hl) h
 refine .inr ⟨not_page_sum (by rw [h4]; decide), ?_, rfl⟩
 unfold code
 rw [if_pos ⟨hl, hy, by rw [h4]; decide⟩]
theorem code_three {xs : List Int} (hl : xs.length = 96) (h : num ((xs.take 95).drop 91) = sum ((xs.take 95).take 91)) : code xs = 3 := by
 unfold code
 rw [if_neg]
 rintro ⟨_, _, h3⟩
 exact h3 (op_good (drop_take_sum hl) h).1

theorem form_nat {K E S a f : Nat} {n : Nat} {ys : List Int} (h : formP (K : Int) (E : Int) (S : Int) (a : Int) ((f : Int) - 1) n) (hn : ys.length = n) (hB : IsB ys) : formN K E S a f ys := by
 unfold formP at h
 unfold formN
 exact ⟨by omega, by omega, by omega, by omega, by omega, by omega, by omega, by omega, hB⟩
theorem nat_form' {K E S a f : Nat} {n : Nat} {ys : List Int} (h : formN K E S a f ys) (hn : ys.length = n) : formP (K : Int) (E : Int) (S : Int) (a : Int) ((f : Int) - 1) n := by
 unfold formN at h
 unfold formP
 omega

theorem told_no {w' : World} {xs : List Int} {K E S a f n : Nat} {ys : List Int} {q : Bool} (hl : xs.length = 96) (hs : num ((xs.take 95).drop 91) = sum ((xs.take 95).take 91))
  (h1 : (st1 ((xs.take 95).take 91)).1 = K) (h2 : (st2 ((xs.take 95).take 91)).1 = E) (h3 : (st3 ((xs.take 95).take 91)).1 = S) (h4 : (st4 ((xs.take 95).take 91)).1 = a) (h5 : (st5 ((xs.take 95).take 91)).1 = f) (h6 : (st6 ((xs.take 95).take 91)).1 = ys) (h7 : (st6 ((xs.take 95).take 91)).2.1 = q) (hn : ys.length = n)
  (h : ¬ (q = false ∧ formP (K : Int) (E : Int) (S : Int) (a : Int) ((f : Int) - 1) n ∧ page K E S a f ys = xs)) :
  Told w' xs (.agg #[.int .u8 0, .int .u64 0, .int .u64 0, .int .i64 0, .int .i64 0, .slice none 0 0]) 3 := by
 refine .inr ⟨?_, (code_three hl hs).symm, rfl⟩
 rintro ⟨K', E', S', a', f', zs, hf, he⟩
 obtain ⟨_, _, _, p4⟩ := page_read hf he
 rw [(op_good (drop_take_sum hl) hs).2] at p4
 rw [p4] at h1 h2 h3 h4 h5 h6 h7
 obtain ⟨b1, b2, b3, b4, b5, b6, b7⟩ := st_body hf
 have e1 := b1.symm.trans h1
 have e2 := b2.symm.trans h2
 have e3 := b3.symm.trans h3
 have e4 := b4.symm.trans h4
 have e5 := b5.symm.trans h5
 have e6 := b6.symm.trans h6
 have e7 := b7.symm.trans h7
 subst e1 e2 e3 e4 e5 e6 e7
 exact h ⟨rfl, nat_form' hf hn, he.symm⟩

theorem _root_.Go.Proofs.Ytpcbpljdiacbmaa.Oct.Rd.later {w w' : World} {b : Nat} {bad : Bool} {xs : List Int} (h : Rd w b bad xs) (hB : Below w.heap.size w w') : Rd w' b bad xs := by
 obtain ⟨A, n, c, hb, hz, r⟩ := h
 exact ⟨A, n, c, hb.later hB, hz.below hB, r⟩
theorem _root_.Go.Proofs.Ytpcbpljdiacbmaa.Oct.Rd.other {w : World} {b g : Nat} {bad : Bool} {xs : List Int} (h : Rd w b bad xs) (hg : b < g) (hlt : g < w.heap.size) (i : Nat) (v : Value) : Rd (w.setCell ⟨g, i, none⟩ v) b bad xs := by
 obtain ⟨A, n, c, hb, hz, hnc, hab⟩ := h
 exact ⟨A, n, c, hb.setOther ⟨g, i, none⟩ (by simp; omega) v, nums_set hz i v hlt (fun h a e => Nat.lt_trans (hab h a e) hg), hnc, hab⟩

theorem nums_six {w : World} {g : Nat} {A : Option Addr} {n : Nat} {xs : List Int} (h : Nums w .u8 A n xs) (hne : 0 < n → ∀ a, A = some a → a.block ≠ g) (hg : g < w.heap.size) (u0 u1 u2 u3 u4 u5 : Value) :
  Nums ((((((w.setCell ⟨g, 0, none⟩ u0).setCell ⟨g, 1, none⟩ u1).setCell ⟨g, 2, none⟩ u2).setCell ⟨g, 3, none⟩ u3).setCell ⟨g, 4, none⟩ u4).setCell ⟨g, 5, none⟩ u5) .u8 A n xs := by
 have e : ∀ (W : World) (i : Nat) (u : Value), g < W.heap.size → Nums W .u8 A n xs → Nums (W.setCell ⟨g, i, none⟩ u) .u8 A n xs := fun W i u hW h =>
  h.grown (grown_set i u hW) (by intro hp a ha e; injection e with e; exact hne hp a ha e)
 have s : ∀ (W : World) (i : Nat) (u : Value), g < W.heap.size → g < (W.setCell ⟨g, i, none⟩ u).heap.size := fun W i u h => by simpa [World.setCell] using h
 exact e _ 5 u5 (s _ _ _ (s _ _ _ (s _ _ _ (s _ _ _ (s _ _ _ hg))))) (e _ 4 u4 (s _ _ _ (s _ _ _ (s _ _ _ (s _ _ _ hg)))) (e _ 3 u3 (s _ _ _ (s _ _ _ (s _ _ _ hg))) (e _ 2 u2 (s _ _ _ (s _ _ _ hg)) (e _ 1 u1 (s _ _ _ hg) (e _ 0 u0 hg h)))))

theorem numSt_isB' {bad : Bool} {ys : List Int} (h : IsB ys) (k most : Nat) : IsB (numSt bad ys k most).2.2 := by
 have : IsB (takeSt bad ys k).2.2 := by
  unfold takeSt
  split
  ·exact h
  ·exact isB_drop h k
 unfold numSt
 split
 ·exact this
 ·exact this
theorem bytesSt_isB {bad : Bool} {ys : List Int} (h : IsB ys) (most : Nat) : IsB (bytesSt bad ys most).1 := takeSt_isB (numSt_isB' h 2 most) _
theorem bytesSt_most (bad : Bool) (ys : List Int) (most : Nat) : (bytesSt bad ys most).1.length ≤ most := Nat.le_trans (takeSt_len _ _ _) (numSt_most _ _ _ _)

/-- The data of a sheet that was read lie in memory that is new. -/
def LowD (w : World) (v : Value) : Prop := ∀ cs A n c, v = .agg cs → cs[5]? = some (.slice A n c) → 0 < n → ∀ a, A = some a → w.heap.size ≤ a.block
theorem low_zero (w : World) : LowD w (.agg #[.int .u8 0, .int .u64 0, .int .u64 0, .int .i64 0, .int .i64 0, .slice none 0 0]) := by
 intro cs A n c h h5 hn
 injection h with h
 subst h
 simp at h5
 omega
theorem low_of {w : World} {v0 v1 v2 v3 v4 : Value} {A : Option Addr} {n c : Nat} (h : 0 < n → ∀ a, A = some a → w.heap.size ≤ a.block) : LowD w (.agg #[v0, v1, v2, v3, v4, .slice A n c]) := by
 intro cs A' n' c' h1 h5 hn
 injection h1 with h1
 subst h1
 simp at h5
 obtain ⟨rfl, rfl, rfl⟩ := h5
 exact h hn
set_option maxRecDepth 100000 in
set_option maxHeartbeats 4000000 in
theorem sread_low (A : Option Addr) (n c : Nat) (xs : List Int) (w : World) (hz : Nums w .u8 A n xs) (hnc : n ≤ c) :
  Calls Try.prog 67 #[.slice A n c] w fun e w' => ∃ v k, e = .returned (.tuple #[v, .int .i64 k]) ∧ Told w' xs v k ∧ Below w.heap.size w w' ∧ LowD w v := by
 have hn := hz.most
 have hlen := hz.len
 go_enter Try.func67, Try.ntmps67
 go_upto_region 1 with (fail)
 obtain ⟨w2, hw2⟩ : ∃ w2, w2 = w.alloc (.cells #[.int .u8 0, .int .u64 0, .int .u64 0, .int .i64 0, .int .i64 0, .slice none 0 0] 85) := ⟨_, rfl⟩
 have hb : Blk w2 w.heap.size #[.int .u8 0, .int .u64 0, .int .u64 0, .int .i64 0, .int .i64 0, .slice none 0 0] 85 := by rw [hw2]; exact Blk.new _ _ _
 have hB : Below w.heap.size w w2 := by rw [hw2]; exact (Below.refl _ _).alloc (Nat.le_refl _) _
 rw [← hw2]
 clear hw2
 have hz2 := hz.below hB
 obtain ⟨⟨c0, c1, c2, c3, c4, c5⟩, f0, f1, f2, f3, f4, f5⟩ := hb.six
 have hlt2 := hb.lt
 have Hb := hid hb
 have Hz0 := hid hz
 clear hz hb
 by_cases h96 : n = 96
 ·obtain rfl := h96
  obtain ⟨b, o, rfl, hcell⟩ := hz2.cell 95 (by decide)
  have hc95 := hcell 95 (by decide)
  generalize hy : xs.getD 95 0 = y at *
  by_cases hy90 : y = 90
  ·subst hy90
   have hzt := hz2.take 95 (by decide)
   have Hz := hid hz2
   clear hz2 hcell
   go_wp2_with fail
   refine (open_any (some ⟨b, o, none⟩) 91 95 c (xs.take 95) w2 hzt (by omega) (by decide) rfl).mono ?_
   rintro e w3 ⟨hB3, ⟨hs, rfl⟩ | ⟨hs, v3, rfl, ho3⟩⟩
   ·have Hs := hid hs
    have Hb3 := hid (Hb.out.later hB3)
    have hB3' := hB.trans (hB3.mono (Nat.le_of_lt hlt2))
    clear c0 c1 c2 c3 c4 c5 f0 f1 f2 f3 f4 f5
    obtain ⟨⟨c0, c1, c2, c3, c4, c5⟩, f0, f1, f2, f3, f4, f5⟩ := Hb3.out.six
    clear hzt hs hc95
    go_wp2
    refine bodyPost_ret (results_row_tmp (P := Try.prog) rfl _ _ w.heap.size _ _ (0, 0) _ rfl (Blk.six_set Hb3.out (.int .u8 0) (.int .u64 0) (.int .u64 0) (.int .i64 0) (.int .i64 0) (.slice none 0 0)) Try.underlying85 rfl (by kernel_rfl)) rfl ?_
    exact ⟨_, _, rfl, told_sum hlen hy Hs.out, (((((((hB3'.setCell (Nat.le_refl _) _).setCell (Nat.le_refl _) _).setCell (Nat.le_refl _) _).setCell (Nat.le_refl _) _).setCell (Nat.le_refl _) _).setCell (Nat.le_refl _) _)), low_zero w⟩
   ·have hl91 : ((xs.take 95).take 91).length = 91 := by rw [List.length_take, drop_take_sum hlen]; rfl
    obtain ⟨C, d, ev, hcd, hzb⟩ := ho3.reads (isB_take (isB_take (isB_of Hz.out) 95) 91)
    rw [hl91] at ev hcd hzb
    subst ev
    have Hs := hid hs
    have hB3' := hB.trans (hB3.mono (Nat.le_of_lt hlt2))
    have hb3 := Hb.out.later hB3
    have Hx3 := hid (Hz.out.below hB3)
    clear hs hzt hc95 ho3 hl91 c0 c1 c2 c3 c4 c5 f0 f1 f2 f3 f4 f5 hB
    obtain ⟨bb, hbb⟩ : ∃ bb, bb = (xs.take 95).take 91 := ⟨_, rfl⟩
    rw [← hbb] at hzb
    have Hbb := hid hbb
    clear hbb
    have hbB := isB_of hzb
    obtain ⟨K, q1, r1, e1⟩ : ∃ K q r, numSt false bb 1 3 = (K, q, r) := ⟨_, _, _, rfl⟩
    obtain ⟨E, q2, r2, e2⟩ : ∃ K q r, numSt q1 r1 6 281474976710656 = (K, q, r) := ⟨_, _, _, rfl⟩
    obtain ⟨S, q3, r3, e3⟩ : ∃ K q r, numSt q2 r2 6 281474976710656 = (K, q, r) := ⟨_, _, _, rfl⟩
    obtain ⟨a, q4, r4, e4⟩ : ∃ K q r, numSt q3 r3 2 65536 = (K, q, r) := ⟨_, _, _, rfl⟩
    obtain ⟨f, q5, r5, e5⟩ : ∃ K q r, numSt q4 r4 1 64 = (K, q, r) := ⟨_, _, _, rfl⟩
    obtain ⟨ys, q6, r6, e6⟩ : ∃ K q r, bytesSt q5 r5 64 = (K, q, r) := ⟨_, _, _, rfl⟩
    have mK : K ≤ 3 := by have := numSt_most false bb 1 3; rw [e1] at this; exact this
    have mE : E ≤ 281474976710656 := by have := numSt_most q1 r1 6 281474976710656; rw [e2] at this; exact this
    have mS : S ≤ 281474976710656 := by have := numSt_most q2 r2 6 281474976710656; rw [e3] at this; exact this
    have ma : a ≤ 65536 := by have := numSt_most q3 r3 2 65536; rw [e4] at this; exact this
    have mf : f ≤ 64 := by have := numSt_most q4 r4 1 64; rw [e5] at this; exact this
    have my : ys.length ≤ 64 := by have := bytesSt_most q5 r5 64; rw [e6] at this; exact this
    have s1 : st1 bb = (K, q1, r1) := e1
    have s2 : st2 bb = (E, q2, r2) := by unfold st2; rw [s1]; exact e2
    have s3 : st3 bb = (S, q3, r3) := by unfold st3; rw [s2]; exact e3
    have s4 : st4 bb = (a, q4, r4) := by unfold st4; rw [s3]; exact e4
    have s5 : st5 bb = (f, q5, r5) := by unfold st5; rw [s4]; exact e5
    have s6 : st6 bb = (ys, q6, r6) := by unfold st6; rw [s5]; exact e6
    have b1 : IsB r1 := by have := numSt_isB' (bad := false) hbB 1 3; rw [e1] at this; exact this
    have b2 : IsB r2 := by have := numSt_isB' (bad := q1) b1 6 281474976710656; rw [e2] at this; exact this
    have b3 : IsB r3 := by have := numSt_isB' (bad := q2) b2 6 281474976710656; rw [e3] at this; exact this
    have b4 : IsB r4 := by have := numSt_isB' (bad := q3) b3 2 65536; rw [e4] at this; exact this
    have b5 : IsB r5 := by have := numSt_isB' (bad := q4) b4 1 64; rw [e5] at this; exact this
    have yB : IsB ys := by have := bytesSt_isB (bad := q5) b5 64; rw [e6] at this; exact this
    clear b1 b2 b3 b4 b5
    have Hst := hid (And.intro s1 (And.intro s2 (And.intro s3 (And.intro s4 (And.intro s5 s6)))))
    clear s1 s2 s3 s4 s5 s6
    obtain ⟨gr, hgr⟩ : ∃ gr, w3.heap.size = gr := ⟨_, rfl⟩
    have N1 : ∀ W, Rd W gr false bb → Calls Try.prog 83 #[.pointer (some ⟨gr, 0, none⟩), .int .i64 1, .int .u64 3] W fun e w' => e = .returned (.int .u64 (K : Int)) ∧ Rd w' gr q1 r1 ∧ W.grownBy w' (some gr) := fun W h => by
     have := num_any gr false bb 1 3 W h (by decide) (by decide); rw [e1] at this; exact this
    have N2 : ∀ W, Rd W gr q1 r1 → Calls Try.prog 83 #[.pointer (some ⟨gr, 0, none⟩), .int .i64 6, .int .u64 281474976710656] W fun e w' => e = .returned (.int .u64 (E : Int)) ∧ Rd w' gr q2 r2 ∧ W.grownBy w' (some gr) := fun W h => by
     have := num_any gr q1 r1 6 281474976710656 W h (by decide) (by decide); rw [e2] at this; exact this
    have N3 : ∀ W, Rd W gr q2 r2 → Calls Try.prog 83 #[.pointer (some ⟨gr, 0, none⟩), .int .i64 6, .int .u64 281474976710656] W fun e w' => e = .returned (.int .u64 (S : Int)) ∧ Rd w' gr q3 r3 ∧ W.grownBy w' (some gr) := fun W h => by
     have := num_any gr q2 r2 6 281474976710656 W h (by decide) (by decide); rw [e3] at this; exact this
    have N4 : ∀ W, Rd W gr q3 r3 → Calls Try.prog 83 #[.pointer (some ⟨gr, 0, none⟩), .int .i64 2, .int .u64 65536] W fun e w' => e = .returned (.int .u64 (a : Int)) ∧ Rd w' gr q4 r4 ∧ W.grownBy w' (some gr) := fun W h => by
     have := num_any gr q3 r3 2 65536 W h (by decide) (by decide); rw [e4] at this; exact this
    have N5 : ∀ W, Rd W gr q4 r4 → Calls Try.prog 83 #[.pointer (some ⟨gr, 0, none⟩), .int .i64 1, .int .u64 64] W fun e w' => e = .returned (.int .u64 (f : Int)) ∧ Rd w' gr q5 r5 ∧ W.grownBy w' (some gr) := fun W h => by
     have := num_any gr q4 r4 1 64 W h (by decide) (by decide); rw [e5] at this; exact this
    have N6 : ∀ W, Rd W gr q5 r5 → Calls Try.prog 84 #[.pointer (some ⟨gr, 0, none⟩), .int .i64 64] W fun e w' => ∃ v, e = .returned v ∧ OwnB w' W.heap.size v ys ∧ Rd w' gr q6 r6 ∧ W.grownBy w' (some gr) := fun W h => by
     have := rbytes_any gr q5 r5 64 W h (by decide); rw [e6] at this; exact this
    clear e1 e2 e3 e4 e5 e6
    go_wp2_with fail
    refine (read_any C 91 d bb w3 hzb hcd).mono ?_
    rintro e w4 ⟨rfl, hr4, hB4⟩
    rw [hgr] at hr4 hB4
    rw [hgr]
    have hb4 := hb3.below hB4 (by rw [← hgr]; exact hb3.lt)
    have hlt3 : w.heap.size < gr := by rw [← hgr]; exact hb3.lt
    have Hx4 := hid (Hx3.out.below (by rw [hgr]; exact hB4))
    have hB4' := hB3'.trans (hB4.mono (Nat.le_of_lt hlt3))
    clear hzb hB4 hb3 hB3 Hx3
    go_wp2_with fail
    refine (N1 w4 hr4).mono ?_
    rintro e w5 ⟨rfl, hr5, hg5⟩
    have hltr := hr5.lt
    have hb5 := hb4.grown hg5 (by intro e; injection e with e; omega)
    have hB5 : Below w.heap.size w w5 := hB4'.grown hg5 (Nat.le_of_lt (Nat.lt_trans hlt3 hr4.lt)) (by intro k e; injection e with e; omega)
    clear hr4 hB4' hb4 N1
    go_upto_region 8 with (fail)
    obtain ⟨g1, hg1⟩ : ∃ g1, w5.heap.size = g1 := ⟨_, rfl⟩
    rw [hg1]
    obtain ⟨w6, hw6⟩ : ∃ w6, w6 = w5.alloc (.cells #[.int .u8 (K : Int), .int .u64 0, .int .u64 0, .int .i64 0, .int .i64 0, .slice none 0 0] 85) := ⟨_, rfl⟩
    have hs6 : Blk w6 g1 #[.int .u8 (K : Int), .int .u64 0, .int .u64 0, .int .i64 0, .int .i64 0, .slice none 0 0] 85 := by rw [hw6, ← hg1]; exact Blk.new _ _ _
    have hb6 : Blk w6 w.heap.size #[.int .u8 0, .int .u64 0, .int .u64 0, .int .i64 0, .int .i64 0, .slice none 0 0] 85 := by rw [hw6]; exact hb5.alloc _
    have hB56 : Below w5.heap.size w5 w6 := by rw [hw6]; exact (Below.refl _ _).alloc (Nat.le_refl _) _
    have hr6 := hr5.later hB56
    have hlt5 : gr < g1 := by rw [← hg1]; exact hltr
    have hB6 := hB5.trans (hB56.mono hB5.size)
    rw [← hw6]
    clear hw6 hb5 hr5 hB5 hB56 hltr
    go_wp2_with fail
    refine (N2 w6 hr6).mono ?_
    rintro e w7 ⟨rfl, hr7, hg7⟩
    have hb7 := hb6.grown hg7 (by intro e; injection e with e; omega)
    have hs7 := hs6.grown hg7 (by intro e; injection e with e; omega)
    have hB7 : Below w.heap.size w w7 := hB6.grown hg7 hB6.size (by intro k e; injection e with e; omega)
    clear hb6 hs6 hB6 hr6 N2 hg7
    go_wp2_with fail
    refine (N3 w7 hr7).mono ?_
    rintro e w8 ⟨rfl, hr8, hg8⟩
    have hb8 := hb7.grown hg8 (by intro e; injection e with e; omega)
    have hs8 := hs7.grown hg8 (by intro e; injection e with e; omega)
    have hB8 : Below w.heap.size w w8 := hB7.grown hg8 hB7.size (by intro k e; injection e with e; omega)
    clear hb7 hs7 hB7 hr7 N3 hg8
    obtain ⟨⟨c0, c1, c2, c3, c4, c5⟩, f0, f1, f2, f3, f4, f5⟩ := hs8.six
    go_upto_region 9 with (fail)
    obtain ⟨w9, hw9⟩ : ∃ w9, w9 = (w8.setCell ⟨g1, 1, none⟩ (.int .u64 (E : Int))).setCell ⟨g1, 2, none⟩ (.int .u64 (S : Int)) := ⟨_, rfl⟩
    have hlt8 := hs8.lt
    have hs9 : Blk w9 g1 #[.int .u8 (K : Int), .int .u64 (E : Int), .int .u64 (S : Int), .int .i64 0, .int .i64 0, .slice none 0 0] 85 := by
     rw [hw9]
     have := (hs8.set 1 (.int .u64 (E : Int))).set 2 (.int .u64 (S : Int))
     simpa using this
    have hgg : w.heap.size ≠ g1 := by omega
    have hb9 : Blk w9 w.heap.size #[.int .u8 0, .int .u64 0, .int .u64 0, .int .i64 0, .int .i64 0, .slice none 0 0] 85 := by
     rw [hw9]
     exact (hb8.setOther (⟨g1, 1, none⟩ : Addr) hgg _).setOther (⟨g1, 2, none⟩ : Addr) hgg _
    have hr9 : Rd w9 gr q3 r3 := by
     rw [hw9]
     exact (hr8.other hlt5 hlt8 1 _).other hlt5 (by simpa [World.setCell] using hlt8) 2 _
    have hgl : w.heap.size ≤ g1 := by omega
    have hB9 : Below w.heap.size w w9 := by
     rw [hw9]
     exact (hB8.setCell (p := (⟨g1, 1, none⟩ : Addr)) hgl _).setCell (p := (⟨g1, 2, none⟩ : Addr)) hgl _
    rw [← hw9]
    clear hw9 hb8 hs8 hr8 hB8 hlt8 c0 c1 c2 c3 c4 c5 f0 f1 f2 f3 f4 f5
    go_wp2_with fail
    refine (N4 w9 hr9).mono ?_
    rintro e w10 ⟨rfl, hr10, hg10⟩
    have hb10 := hb9.grown hg10 (by intro e; injection e with e; omega)
    have hs10 := hs9.grown hg10 (by intro e; injection e with e; omega)
    have hB10 : Below w.heap.size w w10 := hB9.grown hg10 hB9.size (by intro k e; injection e with e; omega)
    clear hb9 hs9 hB9 hr9 N4 hg10
    go_wp2_with fail
    refine (N5 w10 hr10).mono ?_
    rintro e w11 ⟨rfl, hr11, hg11⟩
    have hb11 := hb10.grown hg11 (by intro e; injection e with e; omega)
    have hs11 := hs10.grown hg11 (by intro e; injection e with e; omega)
    have hB11 : Below w.heap.size w w11 := hB10.grown hg11 hB10.size (by intro k e; injection e with e; omega)
    clear hb10 hs10 hB10 hr10 N5 hg11
    obtain ⟨⟨c0, c1, c2, c3, c4, c5⟩, f0, f1, f2, f3, f4, f5⟩ := hs11.six
    go_upto_region 10 with (fail)
    obtain ⟨w12, hw12⟩ : ∃ w12, w12 = (w11.setCell ⟨g1, 3, none⟩ (.int .i64 (a : Int))).setCell ⟨g1, 4, none⟩ (.int .i64 ((f : Int) - 1)) := ⟨_, rfl⟩
    have hlt11 := hs11.lt
    have hs12 : Blk w12 g1 #[.int .u8 (K : Int), .int .u64 (E : Int), .int .u64 (S : Int), .int .i64 (a : Int), .int .i64 ((f : Int) - 1), .slice none 0 0] 85 := by
     rw [hw12]
     have := (hs11.set 3 (.int .i64 (a : Int))).set 4 (.int .i64 ((f : Int) - 1))
     simpa using this
    have hb12 : Blk w12 w.heap.size #[.int .u8 0, .int .u64 0, .int .u64 0, .int .i64 0, .int .i64 0, .slice none 0 0] 85 := by
     rw [hw12]
     exact (hb11.setOther (⟨g1, 3, none⟩ : Addr) hgg _).setOther (⟨g1, 4, none⟩ : Addr) hgg _
    have hr12 : Rd w12 gr q5 r5 := by
     rw [hw12]
     exact (hr11.other hlt5 hlt11 3 _).other hlt5 (by simpa [World.setCell] using hlt11) 4 _
    have hB12 : Below w.heap.size w w12 := by
     rw [hw12]
     exact (hB11.setCell (p := (⟨g1, 3, none⟩ : Addr)) hgl _).setCell (p := (⟨g1, 4, none⟩ : Addr)) hgl _
    rw [← hw12]
    clear hw12 hb11 hs11 hr11 hB11 hlt11 c0 c1 c2 c3 c4 c5 f0 f1 f2 f3 f4 f5
    go_wp2_with fail
    refine (N6 w12 hr12).mono ?_
    rintro e w13 ⟨v13, rfl, ho13, hr13, hg13⟩
    have hb13 := hb12.grown hg13 (by intro e; injection e with e; omega)
    have hs13 := hs12.grown hg13 (by intro e; injection e with e; omega)
    have hB13 : Below w.heap.size w w13 := hB12.grown hg13 hB12.size (by intro k e; injection e with e; omega)
    have hlt12 := hs12.lt
    clear hb12 hs12 hB12 hr12 N6 hg13
    obtain ⟨A7, c7, e7, hc7, hz7⟩ := ho13.reads yB
    subst e7
    have hl13 : 0 < ys.length → ∀ a, A7 = some a → a.block ≠ g1 := by
     intro hp a ha
     subst ha
     have := (ho13.lt _ rfl).1
     have : w12.heap.size ≤ a.block := this
     omega
    have Hl0 : Hid (0 < ys.length → ∀ a, A7 = some a → a.block ≠ w.heap.size) := hid (by
     intro hp a ha
     subst ha
     have := (ho13.lt _ rfl).1
     have : w12.heap.size ≤ a.block := this
     omega)
    have Hl1 : Hid (0 < ys.length → ∀ a, A7 = some a → w.heap.size ≤ a.block) := hid (by
     intro hp a ha
     subst ha
     have := (ho13.lt _ rfl).1
     have : w12.heap.size ≤ a.block := this
     omega)
    obtain ⟨⟨c0, c1, c2, c3, c4, c5⟩, f0, f1, f2, f3, f4, f5⟩ := hs13.six
    go_upto_region 11 with (fail)
    obtain ⟨w14, hw14⟩ : ∃ w14, w14 = w13.setCell ⟨g1, 5, none⟩ (.slice A7 ys.length c7) := ⟨_, rfl⟩
    have hlt13 := hs13.lt
    have hs14 : Blk w14 g1 #[.int .u8 (K : Int), .int .u64 (E : Int), .int .u64 (S : Int), .int .i64 (a : Int), .int .i64 ((f : Int) - 1), .slice A7 ys.length c7] 85 := by
     rw [hw14]
     have := hs13.set 5 (.slice A7 ys.length c7)
     simpa using this
    have hb14 : Blk w14 w.heap.size #[.int .u8 0, .int .u64 0, .int .u64 0, .int .i64 0, .int .i64 0, .slice none 0 0] 85 := by
     rw [hw14]
     exact hb13.setOther (⟨g1, 5, none⟩ : Addr) hgg _
    have hr14 : Rd w14 gr q6 r6 := by
     rw [hw14]
     exact hr13.other hlt5 hlt13 5 _
    have hB14 : Below w.heap.size w w14 := by
     rw [hw14]
     exact hB13.setCell (p := (⟨g1, 5, none⟩ : Addr)) hgl _
    have hz14 : Nums w14 .u8 A7 ys.length ys := by
     rw [hw14]
     exact hz7.grown (grown_set 5 _ hlt13) (by intro hp a ha e; injection e with e; exact hl13 hp a ha e)
    rw [← hw14]
    clear hw14 hb13 hs13 hr13 hB13 hlt13 c0 c1 c2 c3 c4 c5 f0 f1 f2 f3 f4 f5 hz7 hl13 ho13
    have hx14 := Hz0.out.below hB14
    have hcx : ∀ W, Below w14.heap.size w14 W → (convert 22 9 (.slice (some ⟨b, o, none⟩) 96 c)).run Try.prog W = .ok (.string (strOfNums xs)) W := fun W hB => conv_str (hx14.below hB)
    have hxB := isB_of hx14
    have G1 : ∀ W, Rd W gr q6 r6 → Calls Try.prog 85 #[.pointer (some ⟨gr, 0, none⟩)] W fun e w' => e = .returned (.bool q6) ∧ w' = W := fun W h => bad_any gr q6 r6 W h
    have TN : ∀ W : World, ¬ (q6 = false ∧ formP (K : Int) (E : Int) (S : Int) (a : Int) ((f : Int) - 1) ys.length ∧ page K E S a f ys = xs) → Told W xs (.agg #[.int .u8 0, .int .u64 0, .int .u64 0, .int .i64 0, .int .i64 0, .slice none 0 0]) 3 := fun W h => by
     obtain ⟨s1, s2, s3, s4, s5, s6⟩ := Hst.out
     rw [Hbb.out] at s1 s2 s3 s4 s5 s6
     exact told_no hlen Hs.out (by rw [s1]) (by rw [s2]) (by rw [s3]) (by rw [s4]) (by rw [s5]) (by rw [s6]) (by rw [s6]) rfl h
    have TN := hid TN
    have Hs14 := hid hs14
    have Hb14 := hid hb14
    have HB14 := hid hB14
    have Hr14 := hid hr14
    have Hz14 := hid hz14
    obtain ⟨⟨c0, c1, c2, c3, c4, c5⟩, -⟩ := hs14.six
    obtain ⟨⟨d0, d1, d2, d3, d4, d5⟩, f0, f1, f2, f3, f4, f5⟩ := hb14.six
    have hs14' := hs14.lt
    clear hs14 hb14 hB14 hr14 hz14 hx14 Hx4 hg5 hlt12
    cases hq6 : q6
    ·subst hq6
     by_cases hf : formP (K : Int) (E : Int) (S : Int) (a : Int) ((f : Int) - 1) ys.length
     ·have G2 : ∀ W, Calls Try.prog 86 #[.agg #[.int .u8 (K : Int), .int .u64 (E : Int), .int .u64 (S : Int), .int .i64 (a : Int), .int .i64 ((f : Int) - 1), .slice A7 ys.length c7]] W fun e w' => e = .returned (.bool true) ∧ Below W.heap.size W w' := fun W => by
       have := form_any (K : Int) (E : Int) (S : Int) (a : Int) ((f : Int) - 1) A7 ys.length c7 W (by omega)
       rw [decide_eq_true hf] at this
       exact this
      have hfN := form_nat hf rfl yB
      have G3 : ∀ W, Nums W .u8 A7 ys.length ys → Calls Try.prog 80 #[.agg #[.int .u8 (K : Int), .int .u64 (E : Int), .int .u64 (S : Int), .int .i64 (a : Int), .int .i64 ((f : Int) - 1), .slice A7 ys.length c7]] W fun e w' => ∃ v, e = .returned v ∧ OwnB w' W.heap.size v (page K E S a f ys) ∧ Below W.heap.size W w' := fun W h =>
       lay_any K E S a f ((f : Int) - 1) A7 ys.length c7 ys W h (by omega) (by omega) (by omega) (by have := hfN.2.2.2.2.1; omega) (by omega) rfl my
      have hpl := page_len K E S a f ys my
      have hpB := page_isB K E S a f yB
      have HF := hid hf
      have HN := hid hfN
      clear hf hfN
      obtain ⟨pg, hpg⟩ : ∃ pg, page K E S a f ys = pg := ⟨_, rfl⟩
      rw [hpg] at G3 hpl hpB
      have Hpg := hid hpg
      clear hpg
      have HS := hid (fun W (h : Below w14.heap.size w14 W) => (⟨(Hs14.out.later h).six.1, hcx W h⟩ : _ ∧ _))
      have hBd : Below w14.heap.size w14 (w14.drewN 1) := below_drewN (Below.refl w14.heap.size w14) 1
      by_cases hpx : pg = xs
      ·have hse := (str_eq hpB hxB).trans (decide_eq_true hpx)
       have Hpx := hid hpx
       clear hpx
       refine wp_region_held_drew (S := (fun w' => (w'.cell? ⟨g1, 0, none⟩ = some (.int .u8 (K : Int)) ∧ w'.cell? ⟨g1, 1, none⟩ = some (.int .u64 (E : Int)) ∧ w'.cell? ⟨g1, 2, none⟩ = some (.int .u64 (S : Int)) ∧ w'.cell? ⟨g1, 3, none⟩ = some (.int .i64 (a : Int)) ∧ w'.cell? ⟨g1, 4, none⟩ = some (.int .i64 ((f : Int) - 1)) ∧ w'.cell? ⟨g1, 5, none⟩ = some (.slice A7 ys.length c7)) ∧ (convert 22 9 (.slice (some ⟨b, o, none⟩) 96 c)).run Try.prog w' = .ok (.string (strOfNums xs)) w')) (by kernel_rfl) ?hSnewAz (fun hHeld => ?restAz)
       case hSnewAz => ((try dsimp only); exact HS.out _ hBd)
       refine wpAnyH_take (i := 0) (oi := ?oiAx0) (v := ?vAx0) ?hoAx0 ?h1Ax0 ?h2Ax0 ?h3Ax0 ?hqAx0 (Or.inl ⟨?h4Ax0, ?hyAx0⟩) (by assumption) ?restAx0
       case hoAx0 => (simp only [qa, qb, qc]; rfl)
       case h1Ax0 => kernel_rfl
       case h2Ax0 => kernel_rfl
       case h3Ax0 => kernel_rfl
       case h4Ax0 => rfl
       case hqAx0 => exact fun _ _ _ h => h
       case hyAx0 => (intro w hSw; (try dsimp only at hSw); go_simp <;> with_reducible rfl)
       (try simp only [Act.put, qd, qe, qf])
       refine wpAnyH_ready (rs := [1]) (by kernel_rfl) (by simp) ?_
       refine AllReadyH.cons (o := ?oiAx1) ?hoAx1 (fun K hK => ?restAx1) ?moreAx1
       case moreAx1 => exact AllReadyH.nil
       case hoAx1 => (simp only [qa, qb, qc]; rfl)
       go_simp
       refine (G1 _ (Hr14.out.drewN 1)).mono ?_
       rintro e w17 ⟨rfl, rfl⟩
       try go_wp2_with fail
       refine hK.out _ _ ?hSnewAy1 (fun hHeld => ?restAy1)
       case hSnewAy1 => ((try dsimp only); exact HS.out _ hBd)
       clear hK K
       (try simp only [Act.put, qd, qe, qf])
       refine wpAnyH_take (i := 2) (oi := ?oiAx2) (v := ?vAx2) ?hoAx2 ?h1Ax2 ?h2Ax2 ?h3Ax2 ?hqAx2 (Or.inl ⟨?h4Ax2, ?hyAx2⟩) (by assumption) ?restAx2
       case hoAx2 => (simp only [qa, qb, qc]; rfl)
       case h1Ax2 => kernel_rfl
       case h2Ax2 => kernel_rfl
       case h3Ax2 => kernel_rfl
       case h4Ax2 => rfl
       case hqAx2 => exact fun _ _ _ h => h
       case hyAx2 => (intro w hSw; (try dsimp only at hSw); go_simp <;> with_reducible rfl)
       (try simp only [Act.put, qd, qe, qf])
       refine wpAnyH_take (i := 3) (oi := ?oiAx3) (v := ?vAx3) ?hoAx3 ?h1Ax3 ?h2Ax3 ?h3Ax3 ?hqAx3 (Or.inl ⟨?h4Ax3, ?hyAx3⟩) (by assumption) ?restAx3
       case hoAx3 => (simp only [qa, qb, qc]; rfl)
       case h1Ax3 => kernel_rfl
       case h2Ax3 => kernel_rfl
       case h3Ax3 => kernel_rfl
       case h4Ax3 => rfl
       case hqAx3 => exact fun _ _ _ h => h
       case hyAx3 => (intro w hSw; (try dsimp only at hSw); go_simp <;> with_reducible rfl)
       (try simp only [Act.put, qd, qe, qf])
       refine wpAnyH_ready (rs := [4]) (by kernel_rfl) (by simp) ?_
       refine AllReadyH.cons (o := ?oiAx4) ?hoAx4 (fun K hK => ?restAx4) ?moreAx4
       case moreAx4 => exact AllReadyH.nil
       case hoAx4 => (simp only [qa, qb, qc]; rfl)
       go_simp
       refine (G2 _).mono ?_
       rintro e w15 ⟨rfl, hB15⟩
       have hB1415 : Below w14.heap.size w14 w15 := hBd.trans hB15
       have hz15 := Hz14.out.below hB1415
       try go_wp2_with fail
       refine hK.out _ _ ?hSnewAy4 (fun hHeld => ?restAy4)
       case hSnewAy4 => ((try dsimp only); exact HS.out _ hB1415)
       clear hK K
       (try simp only [Act.put, qd, qe, qf])
       refine wpAnyH_take (i := 5) (oi := ?oiAx5) (v := ?vAx5) ?hoAx5 ?h1Ax5 ?h2Ax5 ?h3Ax5 ?hqAx5 (Or.inl ⟨?h4Ax5, ?hyAx5⟩) (by assumption) ?restAx5
       case hoAx5 => (simp only [qa, qb, qc]; rfl)
       case h1Ax5 => kernel_rfl
       case h2Ax5 => kernel_rfl
       case h3Ax5 => kernel_rfl
       case h4Ax5 => rfl
       case hqAx5 => exact fun _ _ _ h => h
       case hyAx5 => (intro w hSw; (try dsimp only at hSw); go_simp <;> with_reducible rfl)
       (try simp only [Act.put, qd, qe, qf])
       refine wpAnyH_take (i := 6) (oi := ?oiAx6) (v := ?vAx6) ?hoAx6 ?h1Ax6 ?h2Ax6 ?h3Ax6 ?hqAx6 (Or.inl ⟨?h4Ax6, ?hyAx6⟩) (by assumption) ?restAx6
       case hoAx6 => (simp only [qa, qb, qc]; rfl)
       case h1Ax6 => kernel_rfl
       case h2Ax6 => kernel_rfl
       case h3Ax6 => kernel_rfl
       case h4Ax6 => rfl
       case hqAx6 => exact fun _ _ _ h => h
       case hyAx6 => (intro w hSw; (try dsimp only at hSw); go_simp <;> with_reducible rfl)
       (try simp only [Act.put, qd, qe, qf])
       refine wpAnyH_take (i := 7) (oi := ?oiAx7) (v := ?vAx7) ?hoAx7 ?h1Ax7 ?h2Ax7 ?h3Ax7 ?hqAx7 (Or.inl ⟨?h4Ax7, ?hyAx7⟩) (by assumption) ?restAx7
       case hoAx7 => (simp only [qa, qb, qc]; rfl)
       case h1Ax7 => kernel_rfl
       case h2Ax7 => kernel_rfl
       case h3Ax7 => kernel_rfl
       case h4Ax7 => rfl
       case hqAx7 => exact fun _ _ _ h => h
       case hyAx7 => (intro w hSw; (try dsimp only at hSw); go_simp <;> with_reducible rfl)
       (try simp only [Act.put, qd, qe, qf])
       refine wpAnyH_take (i := 8) (oi := ?oiAx8) (v := ?vAx8) ?hoAx8 ?h1Ax8 ?h2Ax8 ?h3Ax8 ?hqAx8 (Or.inl ⟨?h4Ax8, ?hyAx8⟩) (by assumption) ?restAx8
       case hoAx8 => (simp only [qa, qb, qc]; rfl)
       case h1Ax8 => kernel_rfl
       case h2Ax8 => kernel_rfl
       case h3Ax8 => kernel_rfl
       case h4Ax8 => rfl
       case hqAx8 => exact fun _ _ _ h => h
       case hyAx8 => (intro w hSw; (try dsimp only at hSw); go_simp <;> with_reducible rfl)
       (try simp only [Act.put, qd, qe, qf])
       refine wpAnyH_take (i := 11) (oi := ?oiAx11) (v := ?vAx11) ?hoAx11 ?h1Ax11 ?h2Ax11 ?h3Ax11 ?hqAx11 (Or.inl ⟨?h4Ax11, ?hyAx11⟩) (by assumption) ?restAx11
       case hoAx11 => (simp only [qa, qb, qc]; rfl)
       case h1Ax11 => kernel_rfl
       case h2Ax11 => kernel_rfl
       case h3Ax11 => kernel_rfl
       case h4Ax11 => rfl
       case hqAx11 => exact fun _ _ _ h => h
       case hyAx11 => (intro w hSw; (try dsimp only at hSw); go_simp <;> with_reducible rfl)
       (try simp only [Act.put, qd, qe, qf])
       refine wpAnyH_take (i := 12) (oi := ?oiAx12) (v := ?vAx12) ?hoAx12 ?h1Ax12 ?h2Ax12 ?h3Ax12 ?hqAx12 (Or.inl ⟨?h4Ax12, ?hyAx12⟩) (by assumption) ?restAx12
       case hoAx12 => (simp only [qa, qb, qc]; rfl)
       case h1Ax12 => kernel_rfl
       case h2Ax12 => kernel_rfl
       case h3Ax12 => kernel_rfl
       case h4Ax12 => rfl
       case hqAx12 => exact fun _ _ _ h => h
       case hyAx12 => (intro w hSw; (try dsimp only at hSw); go_simp <;> with_reducible rfl)
       (try simp only [Act.put, qd, qe, qf])
       refine wpAnyH_ready (rs := [9]) (by kernel_rfl) (by simp) ?_
       refine AllReadyH.cons (o := ?oiAx9) ?hoAx9 (fun K hK => ?restAx9) ?moreAx9
       case moreAx9 => exact AllReadyH.nil
       case hoAx9 => (simp only [qa, qb, qc]; rfl)
       go_simp
       refine (G3 _ hz15).mono ?_
       rintro e w16 ⟨v16, rfl, ho16, hB16⟩
       obtain ⟨A16, c16, e16, hc16, hz16⟩ := ho16.reads hpB
       rw [hpl] at e16 hc16 hz16
       subst e16
       have hcv16 := conv_str (c := c16) hz16
       have hB1416 := hB1415.trans (hB16.mono hB1415.size)
       try go_wp2_with fail
       refine hK.out _ _ ?hSnewAy9 (fun hHeld => ?restAy9)
       case hSnewAy9 => ((try dsimp only); exact HS.out _ hB1416)
       clear hK K
       (try simp only [Act.put, qd, qe, qf])
       refine held_switch (fun w' => ((w'.cell? ⟨g1, 0, none⟩ = some (.int .u8 (K : Int)) ∧ w'.cell? ⟨g1, 1, none⟩ = some (.int .u64 (E : Int)) ∧ w'.cell? ⟨g1, 2, none⟩ = some (.int .u64 (S : Int)) ∧ w'.cell? ⟨g1, 3, none⟩ = some (.int .i64 (a : Int)) ∧ w'.cell? ⟨g1, 4, none⟩ = some (.int .i64 ((f : Int) - 1)) ∧ w'.cell? ⟨g1, 5, none⟩ = some (.slice A7 ys.length c7)) ∧ (convert 22 9 (.slice (some ⟨b, o, none⟩) 96 c)).run Try.prog w' = .ok (.string (strOfNums xs)) w') ∧ (convert 22 9 (.slice A16 96 c16)).run Try.prog w' = .ok (.string (strOfNums pg)) w') (fun w h => h.1) ?hSnewAsa (fun hHeld => ?restAsa)
       case hSnewAsa => ((try dsimp only); exact ⟨HS.out _ hB1416, hcv16⟩)
       refine wpAnyH_take (i := 10) (oi := ?oiAx10) (v := ?vAx10) ?hoAx10 ?h1Ax10 ?h2Ax10 ?h3Ax10 ?hqAx10 (Or.inl ⟨?h4Ax10, ?hyAx10⟩) (by assumption) ?restAx10
       case hoAx10 => (simp only [qa, qb, qc]; rfl)
       case h1Ax10 => kernel_rfl
       case h2Ax10 => kernel_rfl
       case h3Ax10 => kernel_rfl
       case h4Ax10 => rfl
       case hqAx10 => exact fun _ _ _ h => h
       case hyAx10 => (intro w hSw; (try dsimp only at hSw); go_simp <;> with_reducible rfl)
       (try simp only [Act.put, qd, qe, qf])
       refine wpAnyH_take (i := 13) (oi := ?oiAx13) (v := ?vAx13) ?hoAx13 ?h1Ax13 ?h2Ax13 ?h3Ax13 ?hqAx13 (Or.inl ⟨?h4Ax13, ?hyAx13⟩) (by assumption) ?restAx13
       case hoAx13 => (simp only [qa, qb, qc]; rfl)
       case h1Ax13 => kernel_rfl
       case h2Ax13 => kernel_rfl
       case h3Ax13 => kernel_rfl
       case h4Ax13 => rfl
       case hqAx13 => exact fun _ _ _ h => h
       case hyAx13 => (intro w hSw; (try dsimp only at hSw); go_simp <;> with_reducible rfl)
       (try simp only [Act.put, qd, qe, qf])
       refine wpAnyH_take (i := 14) (oi := ?oiAx14) (v := ?vAx14) ?hoAx14 ?h1Ax14 ?h2Ax14 ?h3Ax14 ?hqAx14 (Or.inl ⟨?h4Ax14, ?hyAx14⟩) (by assumption) ?restAx14
       case hoAx14 => (simp only [qa, qb, qc]; rfl)
       case h1Ax14 => kernel_rfl
       case h2Ax14 => kernel_rfl
       case h3Ax14 => kernel_rfl
       case h4Ax14 => rfl
       case hqAx14 => exact fun _ _ _ h => h
       case hyAx14 => (intro w hSw; (try dsimp only at hSw); go_simp <;> with_reducible rfl)
       (try simp only [Act.put, qd, qe, qf])
       refine wpAnyH_done (by kernel_rfl) ?_ _
       all_goals
        have hsz := (Hs14.out.later hB1416)
        have HZ := hid (Hz14.out.below hB1416)
        have hbz := Hb14.out.later hB1416
        have hB0 := HB14.out.trans (hB1416.mono HB14.out.size)
        clear hz15 hB15 hB16 hz16 hcv16 ho16 hcx G1 G2 G3 hse hB1415 hB1416 HS c0 c1 c2 c3 c4 c5 d0 d1 d2 d3 d4 d5 f0 f1 f2 f3 f4 f5
        obtain ⟨⟨k0, k1, k2, k3, k4, k5⟩, m0, m1, m2, m3, m4, m5⟩ := hbz.six
        have Hbz := hid hbz
        have HB0 := hid hB0
        clear hbz hB0
        obtain ⟨⟨j0, j1, j2, j3, j4, j5⟩, -⟩ := hsz.six
        clear hsz
        go_wp2
        have HBB := HB0.out
        refine bodyPost_ret (results_row_tmp (P := Try.prog) rfl _ _ w.heap.size _ _ (0, 0) _ rfl (Blk.six_set Hbz.out (.int .u8 (K : Int)) (.int .u64 (E : Int)) (.int .u64 (S : Int)) (.int .i64 (a : Int)) (.int .i64 ((f : Int) - 1)) (.slice A7 ys.length c7)) Try.underlying85 rfl (by kernel_rfl)) rfl ?_
        exact ⟨_, _, rfl, .inl ⟨K, E, S, a, f, A7, ys.length, c7, ys, rfl, rfl, HN.out, nums_six HZ.out Hl0.out Hbz.out.lt _ _ _ _ _ _, by rw [← Hpx.out, ← Hpg.out]⟩, (((((((HBB.setCell (Nat.le_refl _) _).setCell (Nat.le_refl _) _).setCell (Nat.le_refl _) _).setCell (Nat.le_refl _) _).setCell (Nat.le_refl _) _).setCell (Nat.le_refl _) _)), low_of Hl1.out⟩
      ·have hse := (str_eq hpB hxB).trans (decide_eq_false hpx)
       have Hpx := hid hpx
       clear hpx
       refine wp_region_held_drew (S := (fun w' => (w'.cell? ⟨g1, 0, none⟩ = some (.int .u8 (K : Int)) ∧ w'.cell? ⟨g1, 1, none⟩ = some (.int .u64 (E : Int)) ∧ w'.cell? ⟨g1, 2, none⟩ = some (.int .u64 (S : Int)) ∧ w'.cell? ⟨g1, 3, none⟩ = some (.int .i64 (a : Int)) ∧ w'.cell? ⟨g1, 4, none⟩ = some (.int .i64 ((f : Int) - 1)) ∧ w'.cell? ⟨g1, 5, none⟩ = some (.slice A7 ys.length c7)) ∧ (convert 22 9 (.slice (some ⟨b, o, none⟩) 96 c)).run Try.prog w' = .ok (.string (strOfNums xs)) w')) (by kernel_rfl) ?hSnewBz (fun hHeld => ?restBz)
       case hSnewBz => ((try dsimp only); exact HS.out _ hBd)
       refine wpAnyH_take (i := 0) (oi := ?oiBx0) (v := ?vBx0) ?hoBx0 ?h1Bx0 ?h2Bx0 ?h3Bx0 ?hqBx0 (Or.inl ⟨?h4Bx0, ?hyBx0⟩) (by assumption) ?restBx0
       case hoBx0 => (simp only [qa, qb, qc]; rfl)
       case h1Bx0 => kernel_rfl
       case h2Bx0 => kernel_rfl
       case h3Bx0 => kernel_rfl
       case h4Bx0 => rfl
       case hqBx0 => exact fun _ _ _ h => h
       case hyBx0 => (intro w hSw; (try dsimp only at hSw); go_simp <;> with_reducible rfl)
       (try simp only [Act.put, qd, qe, qf])
       refine wpAnyH_ready (rs := [1]) (by kernel_rfl) (by simp) ?_
       refine AllReadyH.cons (o := ?oiBx1) ?hoBx1 (fun K hK => ?restBx1) ?moreBx1
       case moreBx1 => exact AllReadyH.nil
       case hoBx1 => (simp only [qa, qb, qc]; rfl)
       go_simp
       refine (G1 _ (Hr14.out.drewN 1)).mono ?_
       rintro e w17 ⟨rfl, rfl⟩
       try go_wp2_with fail
       refine hK.out _ _ ?hSnewBy1 (fun hHeld => ?restBy1)
       case hSnewBy1 => ((try dsimp only); exact HS.out _ hBd)
       clear hK K
       (try simp only [Act.put, qd, qe, qf])
       refine wpAnyH_take (i := 2) (oi := ?oiBx2) (v := ?vBx2) ?hoBx2 ?h1Bx2 ?h2Bx2 ?h3Bx2 ?hqBx2 (Or.inl ⟨?h4Bx2, ?hyBx2⟩) (by assumption) ?restBx2
       case hoBx2 => (simp only [qa, qb, qc]; rfl)
       case h1Bx2 => kernel_rfl
       case h2Bx2 => kernel_rfl
       case h3Bx2 => kernel_rfl
       case h4Bx2 => rfl
       case hqBx2 => exact fun _ _ _ h => h
       case hyBx2 => (intro w hSw; (try dsimp only at hSw); go_simp <;> with_reducible rfl)
       (try simp only [Act.put, qd, qe, qf])
       refine wpAnyH_take (i := 3) (oi := ?oiBx3) (v := ?vBx3) ?hoBx3 ?h1Bx3 ?h2Bx3 ?h3Bx3 ?hqBx3 (Or.inl ⟨?h4Bx3, ?hyBx3⟩) (by assumption) ?restBx3
       case hoBx3 => (simp only [qa, qb, qc]; rfl)
       case h1Bx3 => kernel_rfl
       case h2Bx3 => kernel_rfl
       case h3Bx3 => kernel_rfl
       case h4Bx3 => rfl
       case hqBx3 => exact fun _ _ _ h => h
       case hyBx3 => (intro w hSw; (try dsimp only at hSw); go_simp <;> with_reducible rfl)
       (try simp only [Act.put, qd, qe, qf])
       refine wpAnyH_ready (rs := [4]) (by kernel_rfl) (by simp) ?_
       refine AllReadyH.cons (o := ?oiBx4) ?hoBx4 (fun K hK => ?restBx4) ?moreBx4
       case moreBx4 => exact AllReadyH.nil
       case hoBx4 => (simp only [qa, qb, qc]; rfl)
       go_simp
       refine (G2 _).mono ?_
       rintro e w15 ⟨rfl, hB15⟩
       have hB1415 : Below w14.heap.size w14 w15 := hBd.trans hB15
       have hz15 := Hz14.out.below hB1415
       try go_wp2_with fail
       refine hK.out _ _ ?hSnewBy4 (fun hHeld => ?restBy4)
       case hSnewBy4 => ((try dsimp only); exact HS.out _ hB1415)
       clear hK K
       (try simp only [Act.put, qd, qe, qf])
       refine wpAnyH_take (i := 5) (oi := ?oiBx5) (v := ?vBx5) ?hoBx5 ?h1Bx5 ?h2Bx5 ?h3Bx5 ?hqBx5 (Or.inl ⟨?h4Bx5, ?hyBx5⟩) (by assumption) ?restBx5
       case hoBx5 => (simp only [qa, qb, qc]; rfl)
       case h1Bx5 => kernel_rfl
       case h2Bx5 => kernel_rfl
       case h3Bx5 => kernel_rfl
       case h4Bx5 => rfl
       case hqBx5 => exact fun _ _ _ h => h
       case hyBx5 => (intro w hSw; (try dsimp only at hSw); go_simp <;> with_reducible rfl)
       (try simp only [Act.put, qd, qe, qf])
       refine wpAnyH_take (i := 6) (oi := ?oiBx6) (v := ?vBx6) ?hoBx6 ?h1Bx6 ?h2Bx6 ?h3Bx6 ?hqBx6 (Or.inl ⟨?h4Bx6, ?hyBx6⟩) (by assumption) ?restBx6
       case hoBx6 => (simp only [qa, qb, qc]; rfl)
       case h1Bx6 => kernel_rfl
       case h2Bx6 => kernel_rfl
       case h3Bx6 => kernel_rfl
       case h4Bx6 => rfl
       case hqBx6 => exact fun _ _ _ h => h
       case hyBx6 => (intro w hSw; (try dsimp only at hSw); go_simp <;> with_reducible rfl)
       (try simp only [Act.put, qd, qe, qf])
       refine wpAnyH_take (i := 7) (oi := ?oiBx7) (v := ?vBx7) ?hoBx7 ?h1Bx7 ?h2Bx7 ?h3Bx7 ?hqBx7 (Or.inl ⟨?h4Bx7, ?hyBx7⟩) (by assumption) ?restBx7
       case hoBx7 => (simp only [qa, qb, qc]; rfl)
       case h1Bx7 => kernel_rfl
       case h2Bx7 => kernel_rfl
       case h3Bx7 => kernel_rfl
       case h4Bx7 => rfl
       case hqBx7 => exact fun _ _ _ h => h
       case hyBx7 => (intro w hSw; (try dsimp only at hSw); go_simp <;> with_reducible rfl)
       (try simp only [Act.put, qd, qe, qf])
       refine wpAnyH_take (i := 8) (oi := ?oiBx8) (v := ?vBx8) ?hoBx8 ?h1Bx8 ?h2Bx8 ?h3Bx8 ?hqBx8 (Or.inl ⟨?h4Bx8, ?hyBx8⟩) (by assumption) ?restBx8
       case hoBx8 => (simp only [qa, qb, qc]; rfl)
       case h1Bx8 => kernel_rfl
       case h2Bx8 => kernel_rfl
       case h3Bx8 => kernel_rfl
       case h4Bx8 => rfl
       case hqBx8 => exact fun _ _ _ h => h
       case hyBx8 => (intro w hSw; (try dsimp only at hSw); go_simp <;> with_reducible rfl)
       (try simp only [Act.put, qd, qe, qf])
       refine wpAnyH_take (i := 11) (oi := ?oiBx11) (v := ?vBx11) ?hoBx11 ?h1Bx11 ?h2Bx11 ?h3Bx11 ?hqBx11 (Or.inl ⟨?h4Bx11, ?hyBx11⟩) (by assumption) ?restBx11
       case hoBx11 => (simp only [qa, qb, qc]; rfl)
       case h1Bx11 => kernel_rfl
       case h2Bx11 => kernel_rfl
       case h3Bx11 => kernel_rfl
       case h4Bx11 => rfl
       case hqBx11 => exact fun _ _ _ h => h
       case hyBx11 => (intro w hSw; (try dsimp only at hSw); go_simp <;> with_reducible rfl)
       (try simp only [Act.put, qd, qe, qf])
       refine wpAnyH_take (i := 12) (oi := ?oiBx12) (v := ?vBx12) ?hoBx12 ?h1Bx12 ?h2Bx12 ?h3Bx12 ?hqBx12 (Or.inl ⟨?h4Bx12, ?hyBx12⟩) (by assumption) ?restBx12
       case hoBx12 => (simp only [qa, qb, qc]; rfl)
       case h1Bx12 => kernel_rfl
       case h2Bx12 => kernel_rfl
       case h3Bx12 => kernel_rfl
       case h4Bx12 => rfl
       case hqBx12 => exact fun _ _ _ h => h
       case hyBx12 => (intro w hSw; (try dsimp only at hSw); go_simp <;> with_reducible rfl)
       (try simp only [Act.put, qd, qe, qf])
       refine wpAnyH_ready (rs := [9]) (by kernel_rfl) (by simp) ?_
       refine AllReadyH.cons (o := ?oiBx9) ?hoBx9 (fun K hK => ?restBx9) ?moreBx9
       case moreBx9 => exact AllReadyH.nil
       case hoBx9 => (simp only [qa, qb, qc]; rfl)
       go_simp
       refine (G3 _ hz15).mono ?_
       rintro e w16 ⟨v16, rfl, ho16, hB16⟩
       obtain ⟨A16, c16, e16, hc16, hz16⟩ := ho16.reads hpB
       rw [hpl] at e16 hc16 hz16
       subst e16
       have hcv16 := conv_str (c := c16) hz16
       have hB1416 := hB1415.trans (hB16.mono hB1415.size)
       try go_wp2_with fail
       refine hK.out _ _ ?hSnewBy9 (fun hHeld => ?restBy9)
       case hSnewBy9 => ((try dsimp only); exact HS.out _ hB1416)
       clear hK K
       (try simp only [Act.put, qd, qe, qf])
       refine held_switch (fun w' => ((w'.cell? ⟨g1, 0, none⟩ = some (.int .u8 (K : Int)) ∧ w'.cell? ⟨g1, 1, none⟩ = some (.int .u64 (E : Int)) ∧ w'.cell? ⟨g1, 2, none⟩ = some (.int .u64 (S : Int)) ∧ w'.cell? ⟨g1, 3, none⟩ = some (.int .i64 (a : Int)) ∧ w'.cell? ⟨g1, 4, none⟩ = some (.int .i64 ((f : Int) - 1)) ∧ w'.cell? ⟨g1, 5, none⟩ = some (.slice A7 ys.length c7)) ∧ (convert 22 9 (.slice (some ⟨b, o, none⟩) 96 c)).run Try.prog w' = .ok (.string (strOfNums xs)) w') ∧ (convert 22 9 (.slice A16 96 c16)).run Try.prog w' = .ok (.string (strOfNums pg)) w') (fun w h => h.1) ?hSnewBsa (fun hHeld => ?restBsa)
       case hSnewBsa => ((try dsimp only); exact ⟨HS.out _ hB1416, hcv16⟩)
       refine wpAnyH_take (i := 10) (oi := ?oiBx10) (v := ?vBx10) ?hoBx10 ?h1Bx10 ?h2Bx10 ?h3Bx10 ?hqBx10 (Or.inl ⟨?h4Bx10, ?hyBx10⟩) (by assumption) ?restBx10
       case hoBx10 => (simp only [qa, qb, qc]; rfl)
       case h1Bx10 => kernel_rfl
       case h2Bx10 => kernel_rfl
       case h3Bx10 => kernel_rfl
       case h4Bx10 => rfl
       case hqBx10 => exact fun _ _ _ h => h
       case hyBx10 => (intro w hSw; (try dsimp only at hSw); go_simp <;> with_reducible rfl)
       (try simp only [Act.put, qd, qe, qf])
       refine wpAnyH_take (i := 13) (oi := ?oiBx13) (v := ?vBx13) ?hoBx13 ?h1Bx13 ?h2Bx13 ?h3Bx13 ?hqBx13 (Or.inl ⟨?h4Bx13, ?hyBx13⟩) (by assumption) ?restBx13
       case hoBx13 => (simp only [qa, qb, qc]; rfl)
       case h1Bx13 => kernel_rfl
       case h2Bx13 => kernel_rfl
       case h3Bx13 => kernel_rfl
       case h4Bx13 => rfl
       case hqBx13 => exact fun _ _ _ h => h
       case hyBx13 => (intro w hSw; (try dsimp only at hSw); go_simp <;> with_reducible rfl)
       (try simp only [Act.put, qd, qe, qf])
       refine wpAnyH_take (i := 14) (oi := ?oiBx14) (v := ?vBx14) ?hoBx14 ?h1Bx14 ?h2Bx14 ?h3Bx14 ?hqBx14 (Or.inl ⟨?h4Bx14, ?hyBx14⟩) (by assumption) ?restBx14
       case hoBx14 => (simp only [qa, qb, qc]; rfl)
       case h1Bx14 => kernel_rfl
       case h2Bx14 => kernel_rfl
       case h3Bx14 => kernel_rfl
       case h4Bx14 => rfl
       case hqBx14 => exact fun _ _ _ h => h
       case hyBx14 => (intro w hSw; (try dsimp only at hSw); go_simp <;> with_reducible rfl)
       (try simp only [Act.put, qd, qe, qf])
       refine wpAnyH_done (by kernel_rfl) ?_ _
       all_goals
        have hbz := Hb14.out.later hB1416
        have hB0 := HB14.out.trans (hB1416.mono HB14.out.size)
        clear hz15 hB15 hB16 hz16 hcv16 ho16 hcx G1 G2 G3 hse hB1415 hB1416 HS c0 c1 c2 c3 c4 c5 d0 d1 d2 d3 d4 d5 f0 f1 f2 f3 f4 f5
        obtain ⟨⟨k0, k1, k2, k3, k4, k5⟩, m0, m1, m2, m3, m4, m5⟩ := hbz.six
        have Hbz := hid hbz
        have HB0 := hid hB0
        clear hbz hB0
        go_wp2
        have HBB := HB0.out
        refine bodyPost_ret (results_row_tmp (P := Try.prog) rfl _ _ w.heap.size _ _ (0, 0) _ rfl (Blk.six_set Hbz.out (.int .u8 0) (.int .u64 0) (.int .u64 0) (.int .i64 0) (.int .i64 0) (.slice none 0 0)) Try.underlying85 rfl (by kernel_rfl)) rfl ?_
        exact ⟨_, _, rfl, TN.out _ (fun h => Hpx.out (by rw [← Hpg.out]; exact h.2.2)), (((((((HBB.setCell (Nat.le_refl _) _).setCell (Nat.le_refl _) _).setCell (Nat.le_refl _) _).setCell (Nat.le_refl _) _).setCell (Nat.le_refl _) _).setCell (Nat.le_refl _) _)), low_zero w⟩
     ·have G2 : ∀ W, Calls Try.prog 86 #[.agg #[.int .u8 (K : Int), .int .u64 (E : Int), .int .u64 (S : Int), .int .i64 (a : Int), .int .i64 ((f : Int) - 1), .slice A7 ys.length c7]] W fun e w' => e = .returned (.bool false) ∧ Below W.heap.size W w' := fun W => by
       have := form_any (K : Int) (E : Int) (S : Int) (a : Int) ((f : Int) - 1) A7 ys.length c7 W (by omega)
       rw [decide_eq_false hf] at this
       exact this
      have HF := hid hf
      clear hf
      have hBd : Below w14.heap.size w14 (w14.drewN 1) := below_drewN (Below.refl w14.heap.size w14) 1
      have HS := hid (fun W (h : Below w14.heap.size w14 W) => (Hs14.out.later h).six.1)
      refine wp_region_held_drew (S := (fun w' => w'.cell? ⟨g1, 0, none⟩ = some (.int .u8 (K : Int)) ∧ w'.cell? ⟨g1, 1, none⟩ = some (.int .u64 (E : Int)) ∧ w'.cell? ⟨g1, 2, none⟩ = some (.int .u64 (S : Int)) ∧ w'.cell? ⟨g1, 3, none⟩ = some (.int .i64 (a : Int)) ∧ w'.cell? ⟨g1, 4, none⟩ = some (.int .i64 ((f : Int) - 1)) ∧ w'.cell? ⟨g1, 5, none⟩ = some (.slice A7 ys.length c7))) (by kernel_rfl) ?hSnewCz (fun hHeld => ?restCz)
      case hSnewCz => ((try dsimp only); exact HS.out _ hBd)
      refine wpAnyH_take (i := 0) (oi := ?oiCx0) (v := ?vCx0) ?hoCx0 ?h1Cx0 ?h2Cx0 ?h3Cx0 ?hqCx0 (Or.inl ⟨?h4Cx0, ?hyCx0⟩) (by assumption) ?restCx0
      case hoCx0 => (simp only [qa, qb, qc]; rfl)
      case h1Cx0 => kernel_rfl
      case h2Cx0 => kernel_rfl
      case h3Cx0 => kernel_rfl
      case h4Cx0 => rfl
      case hqCx0 => exact fun _ _ _ h => h
      case hyCx0 => (intro w hSw; (try dsimp only at hSw); go_simp <;> with_reducible rfl)
      (try simp only [Act.put, qd, qe, qf])
      refine wpAnyH_ready (rs := [1]) (by kernel_rfl) (by simp) ?_
      refine AllReadyH.cons (o := ?oiCx1) ?hoCx1 (fun K hK => ?restCx1) ?moreCx1
      case moreCx1 => exact AllReadyH.nil
      case hoCx1 => (simp only [qa, qb, qc]; rfl)
      go_simp
      refine (G1 _ (Hr14.out.drewN 1)).mono ?_
      rintro e w17 ⟨rfl, rfl⟩
      try go_wp2_with fail
      refine hK.out _ _ ?hSnewCy1 (fun hHeld => ?restCy1)
      case hSnewCy1 => ((try dsimp only); exact HS.out _ hBd)
      clear hK K
      (try simp only [Act.put, qd, qe, qf])
      refine wpAnyH_take (i := 2) (oi := ?oiCx2) (v := ?vCx2) ?hoCx2 ?h1Cx2 ?h2Cx2 ?h3Cx2 ?hqCx2 (Or.inl ⟨?h4Cx2, ?hyCx2⟩) (by assumption) ?restCx2
      case hoCx2 => (simp only [qa, qb, qc]; rfl)
      case h1Cx2 => kernel_rfl
      case h2Cx2 => kernel_rfl
      case h3Cx2 => kernel_rfl
      case h4Cx2 => rfl
      case hqCx2 => exact fun _ _ _ h => h
      case hyCx2 => (intro w hSw; (try dsimp only at hSw); go_simp <;> with_reducible rfl)
      (try simp only [Act.put, qd, qe, qf])
      refine wpAnyH_take (i := 3) (oi := ?oiCx3) (v := ?vCx3) ?hoCx3 ?h1Cx3 ?h2Cx3 ?h3Cx3 ?hqCx3 (Or.inl ⟨?h4Cx3, ?hyCx3⟩) (by assumption) ?restCx3
      case hoCx3 => (simp only [qa, qb, qc]; rfl)
      case h1Cx3 => kernel_rfl
      case h2Cx3 => kernel_rfl
      case h3Cx3 => kernel_rfl
      case h4Cx3 => rfl
      case hqCx3 => exact fun _ _ _ h => h
      case hyCx3 => (intro w hSw; (try dsimp only at hSw); go_simp <;> with_reducible rfl)
      (try simp only [Act.put, qd, qe, qf])
      refine wpAnyH_ready (rs := [4]) (by kernel_rfl) (by simp) ?_
      refine AllReadyH.cons (o := ?oiCx4) ?hoCx4 (fun K hK => ?restCx4) ?moreCx4
      case moreCx4 => exact AllReadyH.nil
      case hoCx4 => (simp only [qa, qb, qc]; rfl)
      go_simp
      refine (G2 _).mono ?_
      rintro e w15 ⟨rfl, hB15⟩
      have hB1415 : Below w14.heap.size w14 w15 := hBd.trans hB15
      try go_wp2_with fail
      refine hK.out _ _ ?hSnewCy4 (fun hHeld => ?restCy4)
      case hSnewCy4 => ((try dsimp only); exact HS.out _ hB1415)
      clear hK K
      (try simp only [Act.put, qd, qe, qf])
      refine wpAnyH_take (i := 5) (oi := ?oiCx5) (v := ?vCx5) ?hoCx5 ?h1Cx5 ?h2Cx5 ?h3Cx5 ?hqCx5 (Or.inl ⟨?h4Cx5, ?hyCx5⟩) (by assumption) ?restCx5
      case hoCx5 => (simp only [qa, qb, qc]; rfl)
      case h1Cx5 => kernel_rfl
      case h2Cx5 => kernel_rfl
      case h3Cx5 => kernel_rfl
      case h4Cx5 => rfl
      case hqCx5 => exact fun _ _ _ h => h
      case hyCx5 => (intro w hSw; (try dsimp only at hSw); go_simp <;> with_reducible rfl)
      (try simp only [Act.put, qd, qe, qf])
      refine wpAnyH_take (i := 6) (oi := ?oiCx6) (v := ?vCx6) ?hoCx6 ?h1Cx6 ?h2Cx6 ?h3Cx6 ?hqCx6 (Or.inl ⟨?h4Cx6, ?hyCx6⟩) (by assumption) ?restCx6
      case hoCx6 => (simp only [qa, qb, qc]; rfl)
      case h1Cx6 => kernel_rfl
      case h2Cx6 => kernel_rfl
      case h3Cx6 => kernel_rfl
      case h4Cx6 => rfl
      case hqCx6 => exact fun _ _ _ h => h
      case hyCx6 => (intro w hSw; (try dsimp only at hSw); go_simp <;> with_reducible rfl)
      (try simp only [Act.put, qd, qe, qf])
      refine wpAnyH_take (i := 7) (oi := ?oiCx7) (v := ?vCx7) ?hoCx7 ?h1Cx7 ?h2Cx7 ?h3Cx7 ?hqCx7 (Or.inl ⟨?h4Cx7, ?hyCx7⟩) (by assumption) ?restCx7
      case hoCx7 => (simp only [qa, qb, qc]; rfl)
      case h1Cx7 => kernel_rfl
      case h2Cx7 => kernel_rfl
      case h3Cx7 => kernel_rfl
      case h4Cx7 => rfl
      case hqCx7 => exact fun _ _ _ h => h
      case hyCx7 => (intro w hSw; (try dsimp only at hSw); go_simp <;> with_reducible rfl)
      (try simp only [Act.put, qd, qe, qf])
      refine wpAnyH_take (i := 8) (oi := ?oiCk8) (v := undef) ?hoCk8 ?h1Ck8 ?h2Ck8 ?h3Ck8 ?hqCk8 (Or.inr ⟨?h4Ck8, rfl⟩) (by assumption) ?restCk8
      case hoCk8 => (simp only [qa, qb, qc]; rfl)
      case h1Ck8 => kernel_rfl
      case h2Ck8 => kernel_rfl
      case h3Ck8 => kernel_rfl
      case h4Ck8 => rfl
      case hqCk8 => exact fun _ _ _ h => h
      (try simp only [Act.put, qd, qe, qf])
      refine wpAnyH_take (i := 9) (oi := ?oiCk9) (v := undef) ?hoCk9 ?h1Ck9 ?h2Ck9 ?h3Ck9 ?hqCk9 (Or.inr ⟨?h4Ck9, rfl⟩) (by assumption) ?restCk9
      case hoCk9 => (simp only [qa, qb, qc]; rfl)
      case h1Ck9 => kernel_rfl
      case h2Ck9 => kernel_rfl
      case h3Ck9 => kernel_rfl
      case h4Ck9 => rfl
      case hqCk9 => exact fun _ _ _ h => h
      (try simp only [Act.put, qd, qe, qf])
      refine wpAnyH_take (i := 10) (oi := ?oiCk10) (v := undef) ?hoCk10 ?h1Ck10 ?h2Ck10 ?h3Ck10 ?hqCk10 (Or.inr ⟨?h4Ck10, rfl⟩) (by assumption) ?restCk10
      case hoCk10 => (simp only [qa, qb, qc]; rfl)
      case h1Ck10 => kernel_rfl
      case h2Ck10 => kernel_rfl
      case h3Ck10 => kernel_rfl
      case h4Ck10 => rfl
      case hqCk10 => exact fun _ _ _ h => h
      (try simp only [Act.put, qd, qe, qf])
      refine wpAnyH_take (i := 11) (oi := ?oiCk11) (v := undef) ?hoCk11 ?h1Ck11 ?h2Ck11 ?h3Ck11 ?hqCk11 (Or.inr ⟨?h4Ck11, rfl⟩) (by assumption) ?restCk11
      case hoCk11 => (simp only [qa, qb, qc]; rfl)
      case h1Ck11 => kernel_rfl
      case h2Ck11 => kernel_rfl
      case h3Ck11 => kernel_rfl
      case h4Ck11 => rfl
      case hqCk11 => exact fun _ _ _ h => h
      (try simp only [Act.put, qd, qe, qf])
      refine wpAnyH_take (i := 12) (oi := ?oiCk12) (v := undef) ?hoCk12 ?h1Ck12 ?h2Ck12 ?h3Ck12 ?hqCk12 (Or.inr ⟨?h4Ck12, rfl⟩) (by assumption) ?restCk12
      case hoCk12 => (simp only [qa, qb, qc]; rfl)
      case h1Ck12 => kernel_rfl
      case h2Ck12 => kernel_rfl
      case h3Ck12 => kernel_rfl
      case h4Ck12 => rfl
      case hqCk12 => exact fun _ _ _ h => h
      (try simp only [Act.put, qd, qe, qf])
      refine wpAnyH_take (i := 13) (oi := ?oiCk13) (v := undef) ?hoCk13 ?h1Ck13 ?h2Ck13 ?h3Ck13 ?hqCk13 (Or.inr ⟨?h4Ck13, rfl⟩) (by assumption) ?restCk13
      case hoCk13 => (simp only [qa, qb, qc]; rfl)
      case h1Ck13 => kernel_rfl
      case h2Ck13 => kernel_rfl
      case h3Ck13 => kernel_rfl
      case h4Ck13 => rfl
      case hqCk13 => exact fun _ _ _ h => h
      (try simp only [Act.put, qd, qe, qf])
      refine wpAnyH_take (i := 14) (oi := ?oiCx14) (v := ?vCx14) ?hoCx14 ?h1Cx14 ?h2Cx14 ?h3Cx14 ?hqCx14 (Or.inl ⟨?h4Cx14, ?hyCx14⟩) (by assumption) ?restCx14
      case hoCx14 => (simp only [qa, qb, qc]; rfl)
      case h1Cx14 => kernel_rfl
      case h2Cx14 => kernel_rfl
      case h3Cx14 => kernel_rfl
      case h4Cx14 => rfl
      case hqCx14 => exact fun _ _ _ h => h
      case hyCx14 => (intro w hSw; (try dsimp only at hSw); go_simp <;> with_reducible rfl)
      (try simp only [Act.put, qd, qe, qf])
      refine wpAnyH_done (by kernel_rfl) ?_ _
      all_goals
       have hbz := Hb14.out.later hB1415
       have hB0 := HB14.out.trans (hB1415.mono HB14.out.size)
       clear hB15 hcx G1 G2 hB1415 HS hBd c0 c1 c2 c3 c4 c5 d0 d1 d2 d3 d4 d5 f0 f1 f2 f3 f4 f5
       obtain ⟨⟨k0, k1, k2, k3, k4, k5⟩, m0, m1, m2, m3, m4, m5⟩ := hbz.six
       have Hbz := hid hbz
       have HB0 := hid hB0
       clear hbz hB0
       go_wp2
       have HBB := HB0.out
       refine bodyPost_ret (results_row_tmp (P := Try.prog) rfl _ _ w.heap.size _ _ (0, 0) _ rfl (Blk.six_set Hbz.out (.int .u8 0) (.int .u64 0) (.int .u64 0) (.int .i64 0) (.int .i64 0) (.slice none 0 0)) Try.underlying85 rfl (by kernel_rfl)) rfl ?_
       exact ⟨_, _, rfl, TN.out _ (fun h => HF.out h.2.1), (((((((HBB.setCell (Nat.le_refl _) _).setCell (Nat.le_refl _) _).setCell (Nat.le_refl _) _).setCell (Nat.le_refl _) _).setCell (Nat.le_refl _) _).setCell (Nat.le_refl _) _)), low_zero w⟩
    ·subst hq6
     have G1q : ∀ q, Calls Try.prog 85 #[.pointer (some ⟨gr, 0, none⟩)] (w14.drewN q) fun e w' => e = .returned (.bool true) ∧ w' = w14.drewN q := fun q => G1 _ (Hr14.out.drewN q)
     clear c0 c1 c2 c3 c4 c5 d0 d1 d2 d3 d4 d5 f0 f1 f2 f3 f4 f5
     have hBd : Below w14.heap.size w14 (w14.drewN 1) := below_drewN (Below.refl w14.heap.size w14) 1
     refine wp_region_held_drew (S := (fun w' => w'.heap.size = w14.heap.size)) (by kernel_rfl) ?hSnewDz (fun hHeld => ?restDz)
     case hSnewDz => ((try dsimp only); (try rfl))
     refine wpAnyH_take (i := 0) (oi := ?oiDx0) (v := ?vDx0) ?hoDx0 ?h1Dx0 ?h2Dx0 ?h3Dx0 ?hqDx0 (Or.inl ⟨?h4Dx0, ?hyDx0⟩) (by assumption) ?restDx0
     case hoDx0 => (simp only [qa, qb, qc]; rfl)
     case h1Dx0 => kernel_rfl
     case h2Dx0 => kernel_rfl
     case h3Dx0 => kernel_rfl
     case h4Dx0 => rfl
     case hqDx0 => exact fun _ _ _ h => h
     case hyDx0 => (intro w hSw; (try dsimp only at hSw); go_simp <;> with_reducible rfl)
     (try simp only [Act.put, qd, qe, qf])
     refine wpAnyH_ready (rs := [1]) (by kernel_rfl) (by simp) ?_
     refine AllReadyH.cons (o := ?oiDx1) ?hoDx1 (fun K hK => ?restDx1) ?moreDx1
     case moreDx1 => exact AllReadyH.nil
     case hoDx1 => (simp only [qa, qb, qc]; rfl)
     go_simp
     refine (G1 _ (Hr14.out.drewN 1)).mono ?_
     rintro e w17 ⟨rfl, rfl⟩
     try go_wp2_with fail
     refine hK.out _ _ ?hSnewDy1 (fun hHeld => ?restDy1)
     case hSnewDy1 => ((try dsimp only); (try rfl))
     clear hK K
     (try simp only [Act.put, qd, qe, qf])
     refine wpAnyH_take (i := 2) (oi := ?oiDx2) (v := ?vDx2) ?hoDx2 ?h1Dx2 ?h2Dx2 ?h3Dx2 ?hqDx2 (Or.inl ⟨?h4Dx2, ?hyDx2⟩) (by assumption) ?restDx2
     case hoDx2 => (simp only [qa, qb, qc]; rfl)
     case h1Dx2 => kernel_rfl
     case h2Dx2 => kernel_rfl
     case h3Dx2 => kernel_rfl
     case h4Dx2 => rfl
     case hqDx2 => exact fun _ _ _ h => h
     case hyDx2 => (intro w hSw; (try dsimp only at hSw); go_simp <;> with_reducible rfl)
     (try simp only [Act.put, qd, qe, qf])
     refine wpAnyH_take (i := 3) (oi := ?oiDk3) (v := undef) ?hoDk3 ?h1Dk3 ?h2Dk3 ?h3Dk3 ?hqDk3 (Or.inr ⟨?h4Dk3, rfl⟩) (by assumption) ?restDk3
     case hoDk3 => (simp only [qa, qb, qc]; rfl)
     case h1Dk3 => kernel_rfl
     case h2Dk3 => kernel_rfl
     case h3Dk3 => kernel_rfl
     case h4Dk3 => rfl
     case hqDk3 => exact fun _ _ _ h => h
     (try simp only [Act.put, qd, qe, qf])
     refine wpAnyH_take (i := 4) (oi := ?oiDk4) (v := undef) ?hoDk4 ?h1Dk4 ?h2Dk4 ?h3Dk4 ?hqDk4 (Or.inr ⟨?h4Dk4, rfl⟩) (by assumption) ?restDk4
     case hoDk4 => (simp only [qa, qb, qc]; rfl)
     case h1Dk4 => kernel_rfl
     case h2Dk4 => kernel_rfl
     case h3Dk4 => kernel_rfl
     case h4Dk4 => rfl
     case hqDk4 => exact fun _ _ _ h => h
     (try simp only [Act.put, qd, qe, qf])
     refine wpAnyH_take (i := 5) (oi := ?oiDk5) (v := undef) ?hoDk5 ?h1Dk5 ?h2Dk5 ?h3Dk5 ?hqDk5 (Or.inr ⟨?h4Dk5, rfl⟩) (by assumption) ?restDk5
     case hoDk5 => (simp only [qa, qb, qc]; rfl)
     case h1Dk5 => kernel_rfl
     case h2Dk5 => kernel_rfl
     case h3Dk5 => kernel_rfl
     case h4Dk5 => rfl
     case hqDk5 => exact fun _ _ _ h => h
     (try simp only [Act.put, qd, qe, qf])
     refine wpAnyH_take (i := 6) (oi := ?oiDx6) (v := ?vDx6) ?hoDx6 ?h1Dx6 ?h2Dx6 ?h3Dx6 ?hqDx6 (Or.inl ⟨?h4Dx6, ?hyDx6⟩) (by assumption) ?restDx6
     case hoDx6 => (simp only [qa, qb, qc]; rfl)
     case h1Dx6 => kernel_rfl
     case h2Dx6 => kernel_rfl
     case h3Dx6 => kernel_rfl
     case h4Dx6 => rfl
     case hqDx6 => exact fun _ _ _ h => h
     case hyDx6 => (intro w hSw; (try dsimp only at hSw); go_simp <;> with_reducible rfl)
     (try simp only [Act.put, qd, qe, qf])
     refine wpAnyH_take (i := 7) (oi := ?oiDx7) (v := ?vDx7) ?hoDx7 ?h1Dx7 ?h2Dx7 ?h3Dx7 ?hqDx7 (Or.inl ⟨?h4Dx7, ?hyDx7⟩) (by assumption) ?restDx7
     case hoDx7 => (simp only [qa, qb, qc]; rfl)
     case h1Dx7 => kernel_rfl
     case h2Dx7 => kernel_rfl
     case h3Dx7 => kernel_rfl
     case h4Dx7 => rfl
     case hqDx7 => exact fun _ _ _ h => h
     case hyDx7 => (intro w hSw; (try dsimp only at hSw); go_simp <;> with_reducible rfl)
     (try simp only [Act.put, qd, qe, qf])
     refine wpAnyH_take (i := 8) (oi := ?oiDk8) (v := undef) ?hoDk8 ?h1Dk8 ?h2Dk8 ?h3Dk8 ?hqDk8 (Or.inr ⟨?h4Dk8, rfl⟩) (by assumption) ?restDk8
     case hoDk8 => (simp only [qa, qb, qc]; rfl)
     case h1Dk8 => kernel_rfl
     case h2Dk8 => kernel_rfl
     case h3Dk8 => kernel_rfl
     case h4Dk8 => rfl
     case hqDk8 => exact fun _ _ _ h => h
     (try simp only [Act.put, qd, qe, qf])
     refine wpAnyH_take (i := 9) (oi := ?oiDk9) (v := undef) ?hoDk9 ?h1Dk9 ?h2Dk9 ?h3Dk9 ?hqDk9 (Or.inr ⟨?h4Dk9, rfl⟩) (by assumption) ?restDk9
     case hoDk9 => (simp only [qa, qb, qc]; rfl)
     case h1Dk9 => kernel_rfl
     case h2Dk9 => kernel_rfl
     case h3Dk9 => kernel_rfl
     case h4Dk9 => rfl
     case hqDk9 => exact fun _ _ _ h => h
     (try simp only [Act.put, qd, qe, qf])
     refine wpAnyH_take (i := 10) (oi := ?oiDk10) (v := undef) ?hoDk10 ?h1Dk10 ?h2Dk10 ?h3Dk10 ?hqDk10 (Or.inr ⟨?h4Dk10, rfl⟩) (by assumption) ?restDk10
     case hoDk10 => (simp only [qa, qb, qc]; rfl)
     case h1Dk10 => kernel_rfl
     case h2Dk10 => kernel_rfl
     case h3Dk10 => kernel_rfl
     case h4Dk10 => rfl
     case hqDk10 => exact fun _ _ _ h => h
     (try simp only [Act.put, qd, qe, qf])
     refine wpAnyH_take (i := 11) (oi := ?oiDk11) (v := undef) ?hoDk11 ?h1Dk11 ?h2Dk11 ?h3Dk11 ?hqDk11 (Or.inr ⟨?h4Dk11, rfl⟩) (by assumption) ?restDk11
     case hoDk11 => (simp only [qa, qb, qc]; rfl)
     case h1Dk11 => kernel_rfl
     case h2Dk11 => kernel_rfl
     case h3Dk11 => kernel_rfl
     case h4Dk11 => rfl
     case hqDk11 => exact fun _ _ _ h => h
     (try simp only [Act.put, qd, qe, qf])
     refine wpAnyH_take (i := 12) (oi := ?oiDk12) (v := undef) ?hoDk12 ?h1Dk12 ?h2Dk12 ?h3Dk12 ?hqDk12 (Or.inr ⟨?h4Dk12, rfl⟩) (by assumption) ?restDk12
     case hoDk12 => (simp only [qa, qb, qc]; rfl)
     case h1Dk12 => kernel_rfl
     case h2Dk12 => kernel_rfl
     case h3Dk12 => kernel_rfl
     case h4Dk12 => rfl
     case hqDk12 => exact fun _ _ _ h => h
     (try simp only [Act.put, qd, qe, qf])
     refine wpAnyH_take (i := 13) (oi := ?oiDk13) (v := undef) ?hoDk13 ?h1Dk13 ?h2Dk13 ?h3Dk13 ?hqDk13 (Or.inr ⟨?h4Dk13, rfl⟩) (by assumption) ?restDk13
     case hoDk13 => (simp only [qa, qb, qc]; rfl)
     case h1Dk13 => kernel_rfl
     case h2Dk13 => kernel_rfl
     case h3Dk13 => kernel_rfl
     case h4Dk13 => rfl
     case hqDk13 => exact fun _ _ _ h => h
     (try simp only [Act.put, qd, qe, qf])
     refine wpAnyH_take (i := 14) (oi := ?oiDx14) (v := ?vDx14) ?hoDx14 ?h1Dx14 ?h2Dx14 ?h3Dx14 ?hqDx14 (Or.inl ⟨?h4Dx14, ?hyDx14⟩) (by assumption) ?restDx14
     case hoDx14 => (simp only [qa, qb, qc]; rfl)
     case h1Dx14 => kernel_rfl
     case h2Dx14 => kernel_rfl
     case h3Dx14 => kernel_rfl
     case h4Dx14 => rfl
     case hqDx14 => exact fun _ _ _ h => h
     case hyDx14 => (intro w hSw; (try dsimp only at hSw); go_simp <;> with_reducible rfl)
     (try simp only [Act.put, qd, qe, qf])
     refine wpAnyH_done (by kernel_rfl) ?_ _
     have hbz : Blk (w14.drewN 1) w.heap.size #[.int .u8 0, .int .u64 0, .int .u64 0, .int .i64 0, .int .i64 0, .slice none 0 0] 85 := Hb14.out.drewN 1
     have HBB : Below w.heap.size w (w14.drewN 1) := HB14.out.drewB 1
     obtain ⟨⟨k0, k1, k2, k3, k4, k5⟩, m0, m1, m2, m3, m4, m5⟩ := Hb14.out.six
     have Hbz := hid hbz
     clear hbz hBd G1q
     go_wp2
     refine bodyPost_ret (results_row_tmp (P := Try.prog) rfl _ _ w.heap.size _ _ (0, 0) _ rfl (Blk.six_set Hbz.out (.int .u8 0) (.int .u64 0) (.int .u64 0) (.int .i64 0) (.int .i64 0) (.slice none 0 0)) Try.underlying85 rfl (by kernel_rfl)) rfl ?_
     exact ⟨_, _, rfl, TN.out _ (fun h => by cases h.1), (((((((HBB.setCell (Nat.le_refl _) _).setCell (Nat.le_refl _) _).setCell (Nat.le_refl _) _).setCell (Nat.le_refl _) _).setCell (Nat.le_refl _) _).setCell (Nat.le_refl _) _)), low_zero w⟩
  ·have Hz := hid hz2
   clear hz2 hcell
   go_wp2
   refine bodyPost_ret (results_row_tmp (P := Try.prog) rfl _ _ w.heap.size _ _ (0, 0) _ rfl (Blk.six_set Hb.out (.int .u8 0) (.int .u64 0) (.int .u64 0) (.int .i64 0) (.int .i64 0) (.slice none 0 0)) Try.underlying85 rfl (by kernel_rfl)) rfl ?_
   exact ⟨_, _, rfl, told_last (.inr (by rw [hy]; exact hy90)), (((((((hB.setCell (Nat.le_refl _) _).setCell (Nat.le_refl _) _).setCell (Nat.le_refl _) _).setCell (Nat.le_refl _) _).setCell (Nat.le_refl _) _).setCell (Nat.le_refl _) _)), low_zero w⟩
 ·clear hz2
  go_wp2

  refine bodyPost_ret (results_row_tmp (P := Try.prog) rfl _ _ w.heap.size _ _ (0, 0) _ rfl (Blk.six_set Hb.out (.int .u8 0) (.int .u64 0) (.int .u64 0) (.int .i64 0) (.int .i64 0) (.slice none 0 0)) Try.underlying85 rfl (by kernel_rfl)) rfl ?_
  exact ⟨_, _, rfl, told_last (.inl (by omega)), (((((((hB.setCell (Nat.le_refl _) _).setCell (Nat.le_refl _) _).setCell (Nat.le_refl _) _).setCell (Nat.le_refl _) _).setCell (Nat.le_refl _) _).setCell (Nat.le_refl _) _)), low_zero w⟩
end Go.Proofs.Ytpcbpljdiacbmaa.Sheet
