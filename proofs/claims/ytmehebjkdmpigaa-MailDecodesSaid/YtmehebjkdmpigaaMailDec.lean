import Derived.Test.YtmehebjkdmpigaaMailEnc
set_option linter.unusedVariables false
set_option linter.unusedSimpArgs false
namespace Go.Proofs.Ytmehebjkdmpigaa.Mail
open Go.RowKit Go.Proofs.Ytmehebjkdmpigaa.Kit Go.Proofs.Ytmehebjkdmpigaa.Oct

theorem take_le (x k : Nat) (r : List Int) : (le x k ++ r).take k = le x k := List.take_left' (le_len x k)
theorem drop_le (x k : Nat) (r : List Int) : (le x k ++ r).drop k = r := List.drop_left' (le_len x k)
theorem numSt_le (x k most : Nat) (r : List Int) (hx : x < 256 ^ k) (hm : x ≤ most) : numSt false (le x k ++ r) k most = (x, false, r) := by
  have h : takeSt false (le x k ++ r) k = (le x k, false, r) := by
    unfold takeSt
    rw [if_neg (by rw [List.length_append, le_len]; simp), take_le, drop_le]
  unfold numSt
  rw [h]
  simp only [num_le, Nat.mod_eq_of_lt hx]
  rw [if_neg (by omega)]
theorem numSt_ok {bad : Bool} {xs : List Int} {k most v : Nat} {r : List Int} (h : numSt bad xs k most = (v, false, r)) : bad = false ∧ k ≤ xs.length ∧ v = num (xs.take k) ∧ r = xs.drop k ∧ v ≤ most := by
  unfold numSt at h
  split at h
  · simp at h
  · rename_i hm
    unfold takeSt at h hm
    split at h
    · simp at h
    · rename_i hc
      rw [if_neg hc] at hm
      simp at h
      simp only at hm
      refine ⟨?_, by omega, h.1.symm, h.2.symm, by omega⟩
      cases bad
      · rfl
      · exact absurd (.inl rfl) hc
theorem numSt_most (bad : Bool) (xs : List Int) (k most : Nat) : (numSt bad xs k most).1 ≤ most := by
  unfold numSt
  split
  · exact Nat.zero_le _
  · rename_i h
    exact Nat.le_of_not_lt h

def IsMsg (xs : List Int) : Prop := ∃ k f x, k < 3 ∧ f ≤ 1 ∧ x < 281474976710656 ∧ (k = 1 → x = 0) ∧ xs = msg k f x
def dcode (xs : List Int) : Int := if opN xs = 0 then 3 else opN xs

theorem msg_take (k f x : Nat) : (msg k f x).take 8 = enc k f x := List.take_left' (enc_len k f x)
theorem msg_drop (k f x : Nat) : (msg k f x).drop 8 = le (sum (enc k f x)) 4 := List.drop_left' (enc_len k f x)
theorem chain_msg {k f x : Nat} (hk : k < 3) (hf : f ≤ 1) (hx : x < 281474976710656) :
    numSt false (enc k f x) 1 3 = (k + 1, false, le f 1 ++ le x 6) ∧ numSt false (le f 1 ++ le x 6) 1 1 = (f, false, le x 6) ∧ numSt false (le x 6) 6 281474976710655 = (x, false, []) := by
  refine ⟨?_, numSt_le _ _ _ _ (by omega) (by omega), ?_⟩
  · unfold enc
    rw [List.append_assoc]
    exact numSt_le _ _ _ _ (by omega) (by omega)
  · have := numSt_le x 6 281474976710655 [] (by omega) (by omega)
    rwa [List.append_nil] at this
theorem msg_inj {k f x k' f' x' : Nat} (hk : k < 3) (hf : f ≤ 1) (hx : x < 281474976710656) (hk' : k' < 3) (hf' : f' ≤ 1) (hx' : x' < 281474976710656) (h : msg k f x = msg k' f' x') : k = k' ∧ f = f' ∧ x = x' := by
  have he : enc k f x = enc k' f' x' := by rw [← msg_take, ← msg_take, h]
  obtain ⟨a1, a2, a3⟩ := chain_msg hk hf hx
  obtain ⟨b1, b2, b3⟩ := chain_msg hk' hf' hx'
  rw [he, b1] at a1
  injection a1 with c1 a1
  injection a1 with _ c2
  rw [← c2, b2] at a2
  injection a2 with d1 a2
  injection a2 with _ d2
  rw [← d2, b3] at a3
  injection a3 with e1 _
  exact ⟨by omega, d1.symm, e1.symm⟩
theorem op_msg (k f x : Nat) : opN (msg k f x) = 0 := by
  unfold opN
  have hl := msg_len k f x
  have h4 : ¬ (msg k f x).length < 4 := by omega
  rw [if_neg h4, hl]
  refine if_pos ?_
  show num ((msg k f x).drop 8) = sum ((msg k f x).take 8)
  rw [msg_take, msg_drop, num_le, Nat.mod_eq_of_lt]
  exact sum_lt (enc_isB _ _ _)
/-- What decodes to a message has its bytes. -/
theorem dec_yes {xs : List Int} {m k f x : Nat} {q1 q2 : Bool} {r1 r2 : List Int} (hB : IsB xs) (hl : xs.length = m + 4) (hs : num (xs.drop m) = sum (xs.take m)) (e1 : numSt false (xs.take m) 1 3 = (k + 1, q1, r1)) (e2 : numSt q1 r1 1 1 = (f, q2, r2)) (e3 : numSt q2 r2 6 281474976710655 = (x, false, [])) :
    k < 3 ∧ f ≤ 1 ∧ x < 281474976710656 ∧ xs = msg k f x := by
  obtain ⟨rfl, l3, v3, d3, m3⟩ := numSt_ok e3
  obtain ⟨rfl, l2, v2, d2, m2⟩ := numSt_ok e2
  obtain ⟨_, l1, v1, d1, m1⟩ := numSt_ok e1
  refine ⟨by omega, m2, by omega, ?_⟩
  have hb : IsB (xs.take m) := isB_take hB m
  have hb1 : IsB r1 := by rw [d1]; exact isB_drop hb 1
  have hb2 : IsB r2 := by rw [d2]; exact isB_drop hb1 1
  have c1 : le (k + 1) 1 = (xs.take m).take 1 := by
    rw [v1]
    have := le_num ((xs.take m).take 1) (isB_take hb 1)
    rwa [List.length_take, Nat.min_eq_left l1] at this
  have c2 : le f 1 = r1.take 1 := by
    rw [v2]
    have := le_num (r1.take 1) (isB_take hb1 1)
    rwa [List.length_take, Nat.min_eq_left l2] at this
  have c3 : le x 6 = r2 := by
    have h6 : r2.take 6 = r2 := by
      have := List.take_append_drop 6 r2
      rw [← d3, List.append_nil] at this
      exact this
    rw [v3, h6]
    have := le_num r2 hb2
    have hl2 : r2.length = 6 := by
      have : (r2.drop 6).length = 0 := by rw [← d3]; rfl
      rw [List.length_drop] at this
      omega
    rwa [hl2] at this
  have he : enc k f x = xs.take m := by
    unfold enc
    rw [c1, c2, c3, d2, List.append_assoc, List.take_append_drop, d1, List.take_append_drop]
  have hd : IsB (xs.drop m) := isB_drop hB m
  have c4 : le (sum (xs.take m)) 4 = xs.drop m := by
    rw [← hs]
    have := le_num (xs.drop m) hd
    rwa [List.length_drop, show xs.length - m = 4 by omega] at this
  unfold msg
  rw [he, c4, List.take_append_drop]
/-- What does not decode to a message is none. -/
theorem dec_no {xs : List Int} {m K f x : Nat} {q1 q2 q3 : Bool} {r1 r2 r3 : List Int} (hl : xs.length = m + 4) (e1 : numSt false (xs.take m) 1 3 = (K, q1, r1)) (e2 : numSt q1 r1 1 1 = (f, q2, r2)) (e3 : numSt q2 r2 6 281474976710655 = (x, q3, r3))
    (h : ¬ (q3 = false ∧ r3 = [] ∧ (K = 1 ∨ (K = 2 ∧ x = 0) ∨ K = 3))) : ¬ IsMsg xs := by
  rintro ⟨k, f', x', hk, hf, hx, h1, rfl⟩
  have hm : m = 8 := by have := msg_len k f' x'; omega
  subst hm
  rw [msg_take] at e1
  obtain ⟨a1, a2, a3⟩ := chain_msg hk hf hx
  rw [a1] at e1
  injection e1 with c1 e1
  injection e1 with c2 c3
  subst c2 c3
  rw [a2] at e2
  injection e2 with c4 e2
  injection e2 with c5 c6
  subst c5 c6
  rw [a3] at e3
  injection e3 with c7 e3
  injection e3 with c8 c9
  refine h ⟨c8.symm, c9.symm, ?_⟩
  have : k = 0 ∨ k = 1 ∨ k = 2 := by omega
  rcases this with rfl | rfl | rfl
  · exact .inl (by omega)
  · exact .inr (.inl ⟨by omega, by rw [← c7]; exact h1 rfl⟩)
  · exact .inr (.inr (by omega))

/-- What decoding told. -/
def DTold (xs : List Int) (v : Value) (c : Int) : Prop :=
  (∃ (k f x : Nat) (E : Int), v = mv k (f : Int) E ∧ c = 0 ∧ k < 3 ∧ f ≤ 1 ∧ x < 281474976710656 ∧ ep k E = (x : Int) ∧ (k = 1 → x = 0) ∧ (0 ≤ E ∧ E ≤ 281474976710655) ∧ xs = msg k f x) ∨
  (v = .nilIface ∧ c = dcode xs ∧ ¬ IsMsg xs)

theorem not_op {xs : List Int} (h : opN xs ≠ 0) : ¬ IsMsg xs := by
  rintro ⟨k, f, x, _, _, _, _, rfl⟩
  exact h (op_msg k f x)

set_option maxRecDepth 100000 in
set_option maxHeartbeats 4000000 in
theorem decode_any (A : Option Addr) (n c : Nat) (xs : List Int) (w : World) (hz : Nums w .u8 A n xs) (hnc : n ≤ c) (hl : n ≤ 1000000) :
    Calls Try.prog 14 #[.slice A n c] w fun e w' => ∃ v k, e = .returned (.tuple #[v, .int .i64 k]) ∧ DTold xs v k ∧ Below w.heap.size w w' := by
  have hlen := hz.len
  by_cases h4 : n < 4
  · have ho : opN xs = 3 := by unfold opN; exact if_pos (by omega)
    have hfin : DTold xs .nilIface 3 := .inr ⟨rfl, by unfold dcode; rw [ho]; rfl, not_op (by rw [ho]; decide)⟩
    have Hfin := hid hfin
    clear hfin ho hz hlen
    go_enter Try.func14, Try.ntmps14
    go_wp2_with fail
    refine (open_few A n c w h4).mono ?_
    rintro e w1 ⟨rfl, rfl⟩
    go_wp2
    go_ret2
    exact ⟨_, _, rfl, Hfin.out, Below.refl _ _⟩
  · obtain ⟨m, hm⟩ : ∃ m, n = m + 4 := ⟨n - 4, by omega⟩
    have hlm : xs.length = m + 4 := by omega
    have hxB := isB_of hz
    have Hlm := hid hlm
    have Hm := hid hm
    clear hlm
    go_enter Try.func14, Try.ntmps14
    clear hm
    go_wp2_with fail
    refine (open_any A m n c xs w hz hnc hl Hm.out).mono ?_
    rintro e w1 ⟨hB1, ⟨hs, rfl⟩ | ⟨hs, v1, rfl, ho1⟩⟩
    · have ho : opN xs = 4 := by
        unfold opN
        have := Hlm.out
        rw [if_neg (by omega), this, Nat.add_sub_cancel]
        exact if_neg hs
      have hfin : DTold xs .nilIface 4 := .inr ⟨rfl, by unfold dcode; rw [ho]; rfl, not_op (by rw [ho]; decide)⟩
      have Hfin := hid hfin
      clear hfin ho hs hz hlen
      go_wp2
      go_ret2
      exact ⟨_, _, rfl, Hfin.out, hB1⟩
    · have ho : opN xs = 0 := by
        unfold opN
        have := Hlm.out
        rw [if_neg (by omega), this, Nat.add_sub_cancel]
        exact if_pos hs
      have hd3 : dcode xs = 3 := by unfold dcode; rw [ho]; rfl
      have hlb : (xs.take m).length = m := by rw [List.length_take, Hlm.out]; omega
      obtain ⟨C, d, ev, hcd, hzb⟩ := ho1.reads (isB_take hxB m)
      rw [hlb] at ev hcd hzb
      subst ev
      obtain ⟨bb, hbb⟩ : ∃ bb, bb = xs.take m := ⟨_, rfl⟩
      rw [← hbb] at hzb
      obtain ⟨K, q1, r1, e1⟩ : ∃ K q r, numSt false bb 1 3 = (K, q, r) := ⟨_, _, _, rfl⟩
      obtain ⟨f, q2, r2, e2⟩ : ∃ K q r, numSt q1 r1 1 1 = (K, q, r) := ⟨_, _, _, rfl⟩
      obtain ⟨x, q3, r3, e3⟩ : ∃ K q r, numSt q2 r2 6 281474976710655 = (K, q, r) := ⟨_, _, _, rfl⟩
      have mK : K ≤ 3 := by have := numSt_most false bb 1 3; rw [e1] at this; exact this
      have mf : f ≤ 1 := by have := numSt_most q1 r1 1 1; rw [e2] at this; exact this
      have mx : x ≤ 281474976710655 := by have := numSt_most q2 r2 6 281474976710655; rw [e3] at this; exact this
      have HY : Hid (∀ k, K = k + 1 → q3 = false → r3 = [] → k < 3 ∧ f ≤ 1 ∧ x < 281474976710656 ∧ xs = msg k f x) := hid (fun k hk h1 h2 => by
        subst hk h1 h2
        rw [hbb] at e1
        exact dec_yes hxB Hlm.out hs e1 e2 e3)
      have HN : Hid (¬ (q3 = false ∧ r3 = [] ∧ (K = 1 ∨ (K = 2 ∧ x = 0) ∨ K = 3)) → DTold xs .nilIface 3) := hid (fun h => by
        rw [hbb] at e1
        exact .inr ⟨rfl, hd3.symm, dec_no Hlm.out e1 e2 e3 h⟩)
      obtain ⟨gr, hgr⟩ : ∃ gr, w1.heap.size = gr := ⟨_, rfl⟩
      have N1 : ∀ W, Rd W gr false bb → Calls Try.prog 25 #[.pointer (some ⟨gr, 0, none⟩), .int .i64 1, .int .u64 3] W fun e w' => e = .returned (.int .u64 (K : Int)) ∧ Rd w' gr q1 r1 ∧ W.grownBy w' (some gr) := fun W h => by
        have := num_any gr false bb 1 3 W h (by decide) (by decide); rw [e1] at this; exact this
      have N2 : ∀ W, Rd W gr q1 r1 → Calls Try.prog 25 #[.pointer (some ⟨gr, 0, none⟩), .int .i64 1, .int .u64 1] W fun e w' => e = .returned (.int .u64 (f : Int)) ∧ Rd w' gr q2 r2 ∧ W.grownBy w' (some gr) := fun W h => by
        have := num_any gr q1 r1 1 1 W h (by decide) (by decide); rw [e2] at this; exact this
      have N3 : ∀ W, Rd W gr q2 r2 → Calls Try.prog 25 #[.pointer (some ⟨gr, 0, none⟩), .int .i64 6, .int .u64 281474976710655] W fun e w' => e = .returned (.int .u64 (x : Int)) ∧ Rd w' gr q3 r3 ∧ W.grownBy w' (some gr) := fun W h => by
        have := num_any gr q2 r2 6 281474976710655 W h (by decide) (by decide); rw [e3] at this; exact this
      clear e1 e2 e3 hs ho hd3 hbb hlb ho1 hz hlen
      go_wp2_with fail
      refine (read_any C m d bb w1 hzb hcd).mono ?_
      rintro e w2 ⟨rfl, hr2, hB2⟩
      rw [hgr] at hr2 hB2
      rw [hgr]
      have hgw : w.heap.size ≤ gr := by rw [← hgr]; exact hB1.size
      have hB2' : Below w.heap.size w w2 := hB1.trans (hB2.mono hgw)
      clear hB2 hzb
      go_wp2_with fail
      refine (N1 w2 hr2).mono ?_
      rintro e w3 ⟨rfl, hr3, hg3⟩
      have hB3 : Below w.heap.size w w3 := hB2'.grown hg3 hB2'.size (by intro k e; injection e with e; omega)
      clear hr2 hB2' hg3
      go_wp2_with fail
      refine (N2 w3 hr3).mono ?_
      rintro e w4 ⟨rfl, hr4, hg4⟩
      have hB4 : Below w.heap.size w w4 := hB3.grown hg4 hB3.size (by intro k e; injection e with e; omega)
      clear hr3 hB3 hg4
      go_wp2_with fail
      refine (N3 w4 hr4).mono ?_
      rintro e w5 ⟨rfl, hr5, hg5⟩
      have hB5 : Below w.heap.size w w5 := hB4.grown hg5 hB4.size (by intro k e; injection e with e; omega)
      clear hr4 hB4 hg5 N1 N2 N3
      go_wp2_with fail
      refine (end_any gr q3 r3 w5 hr5).mono ?_
      rintro e w6 ⟨rfl, rfl⟩
      clear hr5 hgr
      by_cases hend : q3 = false ∧ r3 = []
      · obtain ⟨rfl, rfl⟩ := hend
        simp only [List.length_nil, decide_true, Bool.not_false, Bool.and_self]
        have hx0 : (0 : Int) ≤ (x : Int) := by omega
        have : K = 0 ∨ K = 1 ∨ K = 2 ∨ K = 3 := by omega
        rcases this with rfl | rfl | rfl | rfl
        · go_wp2
          go_ret2
          exact ⟨_, _, rfl, HN.out (by rintro ⟨_, _, h | h | h⟩ <;> omega), hB5⟩
        · go_wp2
          go_ret2
          obtain ⟨y1, y2, y3, y4⟩ := HY.out 0 (by first | rfl | trivial) (by first | rfl | trivial) (by first | rfl | trivial)
          exact ⟨_, _, rfl, .inl ⟨0, f, x, (x : Int), rfl, rfl, y1, y2, y3, rfl, (fun h => by cases h), ⟨by omega, by omega⟩, y4⟩, hB5⟩
        · by_cases hxz : x = 0
          · subst hxz
            go_wp2
            go_ret2
            obtain ⟨y1, y2, y3, y4⟩ := HY.out 1 (by first | rfl | trivial) (by first | rfl | trivial) (by first | rfl | trivial)
            exact ⟨_, _, rfl, .inl ⟨1, f, 0, 0, rfl, rfl, y1, y2, y3, rfl, fun _ => rfl, ⟨by decide, by decide⟩, y4⟩, hB5⟩
          · have e0 : ((x : Int) == 0) = false := by simp [hxz]
            have Hx := hid hxz
            clear hxz
            go_wp2
            go_ret2
            exact ⟨_, _, rfl, HN.out (by rintro ⟨_, _, h | h | h⟩; omega; exact Hx.out h.2; omega), hB5⟩
        · go_wp2
          go_ret2
          obtain ⟨y1, y2, y3, y4⟩ := HY.out 2 (by first | rfl | trivial) (by first | rfl | trivial) (by first | rfl | trivial)
          exact ⟨_, _, rfl, .inl ⟨2, f, x, (x : Int), rfl, rfl, y1, y2, y3, rfl, (fun h => by cases h), ⟨by omega, by omega⟩, y4⟩, hB5⟩
      · have hb : (!q3 && decide (r3.length = 0)) = false := by
          cases q3
          · simp only [Bool.not_false, Bool.true_and]
            refine decide_eq_false (fun h => hend ⟨rfl, List.eq_nil_of_length_eq_zero h⟩)
          · rfl
        have hfin := HN.out (fun h => hend ⟨h.1, h.2.1⟩)
        rw [hb]
        have Hfin := hid hfin
        clear hb hend hfin
        go_wp2
        go_ret2
        exact ⟨_, _, rfl, Hfin.out, hB5⟩

set_option maxRecDepth 100000 in
set_option maxHeartbeats 1000000 in
theorem awake_any (w : World) : Calls Try.prog 11 #[] w fun e w' => e = .returned (.bool true) ∧ Below w.heap.size w w' := by
  go_enter Try.func11, Try.ntmps11
  go_wp2_with fail
  refine (encode_none _ w (no_str _)).mono ?_
  rintro e w1 ⟨rfl, rfl⟩
  go_wp2_with fail
  refine (from_any 0 1 5 w1).mono ?_
  rintro e w2 ⟨rfl, hB2⟩
  go_wp2_with fail
  refine (is_none _ w2 (no_int _)).mono ?_
  rintro e w3 ⟨rfl, rfl⟩
  go_wp2_with fail
  have hi := is_any 1 0 0 w3 (by decide)
  rw [decide_eq_true (show right 1 0 0 from ⟨.inl rfl, by decide⟩)] at hi
  refine hi.mono ?_
  rintro e w4 ⟨rfl, hB4⟩
  go_wp2
  go_ret
  exact ⟨rfl, hB2.trans (hB4.mono hB2.size)⟩
end Go.Proofs.Ytmehebjkdmpigaa.Mail
