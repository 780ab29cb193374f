import Derived.Test.YtmehebjkdmpigaaMailDec
import Derived.Test.YtmehebjkdmpigaaMailLawB
import Derived.Laws.ResultCell
import Derived.Deep.DeepCutAuto
import Derived.Deep.RegionHeld3
set_option linter.unusedVariables false
set_option linter.unusedSimpArgs false
namespace Go.Proofs.Ytmehebjkdmpigaa.Mail
open Go.RowKit Go.Proofs.Ytmehebjkdmpigaa.Kit Go.Proofs.Ytmehebjkdmpigaa.Oct

theorem results_row_tmp {P : Program} {fn : Func} {p u : Tmp} {ty : TypeId} (h : fn.results = #[.cell p ty, .tmp u]) (tmps : Array Value) (w : World) (g : Nat) (t : TypeId) (cs : Array Value) (fr : Nat × Nat) (d : TypeDesc)
    (hp : tmps.getD p undef = .pointer (some ⟨g, 0, none⟩)) (hg : w.heap[g]? = some (.cells cs t fr))
    (hu : P.underlying ty = some d) (hd : (match d with | .struct _ | .array _ _ => true | _ => false) = true) (hi : (P.info? ty).map (·.size) = some cs.size) :
    (results fn tmps).run P w = .ok (.tuple #[.agg cs, tmps.getD u undef]) w := by
  rw [results_cell_tmp h, hp]
  show ((loadVar ty ⟨g, 0, none⟩).run P w).andThen _ = _
  rw [run_loadVar_row w g t ty cs fr d hg hu hd hi]
  rfl
theorem _root_.Go.Proofs.Ytmehebjkdmpigaa.Kit.Blk.three {w : World} {g : Nat} {v0 v1 v2 : Value} {T : TypeId} (h : Blk w g #[v0, v1, v2] T) :
    (w.cell? ⟨g, 0, none⟩ = some v0 ∧ w.cell? ⟨g, 1, none⟩ = some v1 ∧ w.cell? ⟨g, 2, none⟩ = some v2) ∧ (w.frozen? ⟨g, 0, none⟩ = false ∧ w.frozen? ⟨g, 1, none⟩ = false ∧ w.frozen? ⟨g, 2, none⟩ = false) :=
  ⟨⟨h.cell 0, h.cell 1, h.cell 2⟩, h.free 0, h.free 1, h.free 2⟩
theorem _root_.Go.Proofs.Ytmehebjkdmpigaa.Kit.Blk.three_set {w : World} {g : Nat} {v0 v1 v2 : Value} {T : TypeId} (h : Blk w g #[v0, v1, v2] T) (u0 u1 u2 : Value) :
    Blk (((w.setCell ⟨g, 0, none⟩ u0).setCell ⟨g, 1, none⟩ u1).setCell ⟨g, 2, none⟩ u2) g #[u0, u1, u2] T := by
  have hb := ((h.set 0 u0).set 1 u1).set 2 u2
  simpa using hb

set_option maxHeartbeats 4000000 in
theorem rencode_any (k f x : Nat) (w : World) (hk : k < 3) (hf : f ≤ 1) (hx : x < 281474976710656) :
    Calls Try.prog 18 #[.agg #[.int .i64 ((k + 1 : Nat) : Int), .int .i64 (f : Int), .int .u64 (x : Int)]] w fun e w' => ∃ v, e = .returned v ∧ OwnB w' w.heap.size v (msg k f x) ∧ Below w.heap.size w w' := by
  have hw1 : IntKind.u8.wrap (f : Int) = (f : Int) := IntWalk.u8_in _ (by omega)
  obtain ⟨k', hk'⟩ : ∃ k', k' = k + 1 := ⟨_, rfl⟩
  rw [← hk']
  have hw2 : IntKind.u8.wrap (k' : Int) = (k' : Int) := IntWalk.u8_in _ (by omega)
  have hk3 : k' ≤ 3 := by omega
  have Hk := hid hk'
  clear hk'
  go_enter Try.func18, Try.ntmps18
  go_upto_region 1 with (fail)
  obtain ⟨w1, hw⟩ : ∃ W, W = w.alloc (.cells #[.int .i64 (k' : Int), .int .i64 (f : Int), .int .u64 (x : Int)] 55) := ⟨_, rfl⟩
  have hb1 : Blk w1 w.heap.size #[.int .i64 (k' : Int), .int .i64 (f : Int), .int .u64 (x : Int)] 55 := by rw [hw]; exact Blk.new _ _ _
  have hB1 : Below w.heap.size w w1 := by rw [hw]; exact (Below.refl _ _).alloc (Nat.le_refl _) _
  rw [← hw]
  clear hw
  obtain ⟨⟨c0, c1, c2⟩, -⟩ := hb1.three
  have hs1 := hB1.size
  go_upto_region 2 with (fail)
  clear hw1 hw2
  have e2 : [(k' : Int), (f : Int)] = le (k + 1) 1 ++ le f 1 := by have := Hk.out; simp [le]; omega
  obtain ⟨w2, hw⟩ : ∃ W, W = w1.alloc (.cells #[.int .u8 (k' : Int), .int .u8 (f : Int)] 5) := ⟨_, rfl⟩
  obtain ⟨g1, hg1⟩ : ∃ g, w1.heap.size = g := ⟨_, rfl⟩
  have ho2 : OwnB w2 w.heap.size (.slice (some ⟨g1, 0, none⟩) 2 2) (le (k + 1) 1 ++ le f 1) := by rw [hw, ← e2, ← hg1]; exact own_two w1 w.heap.size _ _ hs1
  have hb2 : Blk w2 w.heap.size #[.int .i64 (k' : Int), .int .i64 (f : Int), .int .u64 (x : Int)] 55 := by rw [hw]; exact hb1.alloc _
  have hB2 : Below w.heap.size w w2 := by rw [hw]; exact hB1.alloc hs1 _
  rw [← hw, hg1]
  clear hw e2 hb1 hB1 c0 c1 c2 hg1 hs1
  obtain ⟨⟨c0, c1, c2⟩, -⟩ := hb2.three
  have hx64 : (x : Int) ≤ 18446744073709551615 := by omega
  go_wp2_with fail
  refine (rput_any x 6 _ (by omega) (by decide)).mono ?_
  rintro e w3 ⟨v3, rfl, ho3, hB3⟩
  obtain ⟨A2, c2', e3, hc2, hz3⟩ := ho3.reads (le_isB _ _)
  rw [le_len] at e3 hc2 hz3
  subst e3
  have ho2' := ho2.later hB3
  have hB23 := hB2.trans (hB3.mono hB2.size)
  clear ho3 ho2 hB2 hB3 c0 c1 c2 hb2
  go_wp2_with (at_builtin; refine append_nums w.heap.size rfl _ _ 23 5 .u8 1 rfl Try.underlying23 info5 _ _ _ A2 6 c2' (le x 6) (by rfl) (by rfl) ho2' hz3 hB23.size (by simp only [List.length_append, le_len]; omega) (by simp only [List.length_append, le_len]; omega) ?_; intro v4 w4 hown4 hgr4 hat4)
  have ho4 : OwnB w4 w.heap.size v4 (enc k f x) := by
    unfold OwnB enc
    rw [List.length_append, List.map_append, le_len]
    exact hown4
  have hB4 := hB23.grown hgr4 hB23.size (fun k hk => (ho2'.lt k hk).1)
  have hel := enc_len k f x
  have Hm := hid (show msg k f x = enc k f x ++ le (sum (enc k f x)) 4 from rfl)
  obtain ⟨A6, c6, e6, hc6, hz6⟩ := ho4.reads (enc_isB _ _ _)
  rw [hel] at e6 hc6 hz6
  subst e6
  clear ho4 hown4 hgr4 hat4 ho2' hz3 hB23
  generalize enc k f x = ex at *
  refine (rseal_any A6 8 c6 ex w4 hz6 (by decide)).mono ?_
  rintro e w7 ⟨v7, rfl, ho7, hB7⟩
  go_wp2
  go_ret
  exact ⟨_, rfl, by rw [Hm.out]; exact ho7.mono hB4.size, hB4.trans (hB7.mono hB4.size)⟩

/-- What the reference's decoding told. -/
def RTold (xs : List Int) (v : Value) (c : Int) : Prop :=
  (∃ (k f x : Nat), v = .agg #[.int .i64 ((k + 1 : Nat) : Int), .int .i64 (f : Int), .int .u64 (x : Int)] ∧ c = 0 ∧ k < 3 ∧ f ≤ 1 ∧ x < 281474976710656 ∧ (k = 1 → x = 0) ∧ xs = msg k f x) ∨
  (v = .agg #[.int .i64 0, .int .i64 0, .int .u64 0] ∧ c = dcode xs ∧ ¬ IsMsg xs)

theorem nums_seg {w : World} {b o n c : Nat} {xs : List Int} (h : Nums w .u8 (some ⟨b, o, none⟩) n xs) (hnc : n ≤ c) (m j : Nat) (hj : m + j ≤ n) (hm : m < c) : Nums w .u8 (some ⟨b, o + m, none⟩) j ((xs.drop m).take j) := by
  have := (h.drop hnc m (by omega)).take j (by omega)
  have e : (⟨b, o, none⟩ : Addr).add m = ⟨b, o + m, none⟩ := by unfold Addr.add; split <;> simp_all
  rw [if_neg (by omega), Option.map_some, e] at this
  exact this
theorem nums_plain {w : World} {b o n : Nat} {k : IntKind} {xs : List Int} (h : Nums w k (some ⟨b, o, none⟩) n xs) (i : Nat) (hi : i < n) : w.cell? ⟨b, o + i, none⟩ = some (.int k (xs.getD i 0)) := by
  obtain ⟨b', o', e, hc⟩ := h.cell i hi
  injection e with e
  injection e with e1 e2
  rw [e1, e2]
  exact hc i hi

theorem enc_of {bb : List Int} {k f x : Nat} (hB : IsB bb) (hl : bb.length = 8) (hK : ((k + 1 : Nat) : Int) = bb.getD 0 0) (hf : (f : Int) = bb.getD 1 0) (hx : x = num (bb.drop 2)) : enc k f x = bb := by
  have h0 := num_one bb hB 0 (by omega)
  rw [List.drop_zero, ← hK] at h0
  have h1 := num_one bb hB 1 (by omega)
  rw [← hf] at h1
  have e0 : num (bb.take 1) = k + 1 := by omega
  have e1 : num ((bb.drop 1).take 1) = f := by omega
  have c1 := le_num (bb.take 1) (isB_take hB 1)
  have c2 := le_num ((bb.drop 1).take 1) (isB_take (isB_drop hB 1) 1)
  have c3 := le_num (bb.drop 2) (isB_drop hB 2)
  rw [List.length_take, hl, e0] at c1
  rw [List.length_take, List.length_drop, hl, e1] at c2
  rw [List.length_drop, hl, ← hx] at c3
  have c1' : le (k + 1) 1 = bb.take 1 := c1
  have c2' : le f 1 = (bb.drop 1).take 1 := c2
  have c3' : le x 6 = bb.drop 2 := c3
  unfold enc
  rw [c1', c2', c3', List.append_assoc, show bb.drop 2 = (bb.drop 1).drop 1 by rw [List.drop_drop], List.take_append_drop, List.take_append_drop]
theorem rdec_yes {xs : List Int} {K f x : Nat} (hB : IsB xs) (hl : xs.length = 12) (hs : num (xs.drop 8) = sum (xs.take 8)) (hK : (K : Int) = (xs.take 8).getD 0 0) (hf : (f : Int) = (xs.take 8).getD 1 0) (hx : x = num ((xs.take 8).drop 2))
    (h : 1 ≤ K ∧ K ≤ 3 ∧ f ≤ 1 ∧ (K = 2 → x = 0)) : RTold xs (.agg #[.int .i64 (K : Int), .int .i64 (f : Int), .int .u64 (x : Int)]) 0 := by
  obtain ⟨k, rfl⟩ : ∃ k, K = k + 1 := ⟨K - 1, by omega⟩
  have hb := isB_take hB 8
  have hbl : (xs.take 8).length = 8 := by rw [List.length_take, hl]; rfl
  have he := enc_of hb hbl hK hf hx
  have hx48 : x < 281474976710656 := by
    rw [hx]
    have := num_lt ((xs.take 8).drop 2) (isB_drop hb 2)
    rwa [List.length_drop, hbl] at this
  refine .inl ⟨k, f, x, rfl, rfl, by omega, h.2.2.1, hx48, fun h1 => h.2.2.2 (by omega), ?_⟩
  unfold msg
  rw [he, ← hs]
  have := le_num (xs.drop 8) (isB_drop hB 8)
  rw [List.length_drop, hl] at this
  have h4 : le (num (xs.drop 8)) 4 = xs.drop 8 := this
  rw [h4, List.take_append_drop]
theorem rdec_no {xs : List Int} {K f x : Nat} (hl : xs.length = 12) (ho : opN xs = 0) (hK : (K : Int) = (xs.take 8).getD 0 0) (hf : (f : Int) = (xs.take 8).getD 1 0) (hx : x = num ((xs.take 8).drop 2))
    (h : ¬ (1 ≤ K ∧ K ≤ 3 ∧ f ≤ 1 ∧ (K = 2 → x = 0))) : RTold xs (.agg #[.int .i64 0, .int .i64 0, .int .u64 0]) 3 := by
  refine .inr ⟨rfl, by unfold dcode; rw [if_pos ho], ?_⟩
  rintro ⟨k', f', x', hk', hf', hx', h1, rfl⟩
  rw [msg_take] at hK hf hx
  have hB := enc_isB k' f' x'
  have hle := enc_len k' f' x'
  have h0 := num_one (enc k' f' x') hB 0 (by omega)
  have h2 := num_one (enc k' f' x') hB 1 (by omega)
  rw [List.drop_zero, ← hK] at h0
  rw [← hf] at h2
  have d1 : (enc k' f' x').take 1 = le (k' + 1) 1 := by unfold enc; rw [List.append_assoc]; exact take_le _ _ _
  have d2 : (enc k' f' x').drop 1 = le f' 1 ++ le x' 6 := by unfold enc; rw [List.append_assoc]; exact drop_le _ _ _
  have d3 : (enc k' f' x').drop 2 = le x' 6 := by
    rw [show (2 : Nat) = 1 + 1 from rfl, ← List.drop_drop, d2]; exact drop_le _ _ _
  rw [d1, num_le, Nat.mod_eq_of_lt (by omega)] at h0
  rw [d2, take_le, num_le, Nat.mod_eq_of_lt (by omega)] at h2
  rw [d3, num_le, Nat.mod_eq_of_lt (by omega)] at hx
  exact h ⟨by omega, by omega, by omega, fun hk2 => by rw [hx]; exact h1 (by omega)⟩
theorem rtold_op {xs : List Int} {o : Int} (h : opN xs = o) (ho : o ≠ 0) : RTold xs (.agg #[.int .i64 0, .int .i64 0, .int .u64 0]) o := by
  refine .inr ⟨rfl, ?_, not_op (by rw [h]; exact ho)⟩
  unfold dcode
  rw [h, if_neg ho]
theorem rtold_len {xs : List Int} (h : opN xs = 0) (hl : xs.length ≠ 12) : RTold xs (.agg #[.int .i64 0, .int .i64 0, .int .u64 0]) 3 := by
  refine .inr ⟨rfl, ?_, ?_⟩
  · unfold dcode
    rw [if_pos h]
  · rintro ⟨k, f, x, _, _, _, _, rfl⟩
    exact hl (msg_len _ _ _)

set_option maxRecDepth 100000 in
set_option maxHeartbeats 8000000 in
theorem rdecode_any (A : Option Addr) (n c : Nat) (xs : List Int) (w : World) (hz : Nums w .u8 A n xs) (hnc : n ≤ c) (hl : n ≤ 1000000) :
    Calls Try.prog 19 #[.slice A n c] w fun e w' => ∃ v k, e = .returned (.tuple #[v, .int .i64 k]) ∧ RTold xs v k ∧ Below w.heap.size w w' := by
  have hlen := hz.len
  have Hlen := hid hlen
  clear hlen
  go_enter Try.func19, Try.ntmps19
  go_upto_region 1 with (fail)
  obtain ⟨w2, hw⟩ : ∃ W, W = w.alloc (.cells #[.int .i64 0, .int .i64 0, .int .u64 0] 55) := ⟨_, rfl⟩
  have hb2 : Blk w2 w.heap.size #[.int .i64 0, .int .i64 0, .int .u64 0] 55 := by rw [hw]; exact Blk.new _ _ _
  have hB2 : Below w.heap.size w w2 := by rw [hw]; exact (Below.refl _ _).alloc (Nat.le_refl _) _
  rw [← hw]
  clear hw
  have hz2 := hz.below hB2
  have Hb2 := hid hb2
  have HB2 := hid hB2
  have hlt2 := hb2.lt
  have hxB := isB_of hz
  clear hb2 hB2 hz
  by_cases h4 : n < 4
  · have ho : opN xs = 3 := by unfold opN; exact if_pos (by have := Hlen.out; omega)
    obtain ⟨⟨c0, c1, c2⟩, f0, f1, f2⟩ := Hb2.out.three
    have Ho := hid ho
    clear ho hz2
    go_wp2_with fail
    refine (ropen_few A n c w2 h4).mono ?_
    rintro e w3 ⟨rfl, rfl⟩
    go_wp2
    have HBB := HB2.out
    refine bodyPost_ret (results_row_tmp (P := Try.prog) rfl _ _ w.heap.size _ _ (0, 0) _ rfl (Blk.three_set Hb2.out (.int .i64 0) (.int .i64 0) (.int .u64 0)) Try.underlying55 rfl (by kernel_rfl)) rfl ?_
    exact ⟨_, _, rfl, rtold_op Ho.out (by decide), (((HBB.setCell (Nat.le_refl _) _).setCell (Nat.le_refl _) _).setCell (Nat.le_refl _) _)⟩
  · obtain ⟨m, hm⟩ : ∃ m, n = m + 4 := ⟨n - 4, by omega⟩
    have Hm := hid hm
    clear hm
    go_wp2_with fail
    refine (ropen_any A m n c xs w2 hz2 hnc hl Hm.out).mono ?_
    rintro e w3 ⟨hB3, ⟨hs, rfl⟩ | ⟨hs, rfl⟩⟩
    · have ho : opN xs = 4 := by
        unfold opN
        have := Hlen.out
        have := Hm.out
        rw [if_neg (by omega), show xs.length - 4 = m by omega]
        exact if_neg hs
      have hb3 := Hb2.out.later hB3
      have hB3' := HB2.out.trans (hB3.mono (Nat.le_of_lt hlt2))
      obtain ⟨⟨c0, c1, c2⟩, f0, f1, f2⟩ := hb3.three
      have Ho := hid ho
      have Hb3 := hid hb3
      clear ho hz2 hs hb3
      go_wp2
      refine bodyPost_ret (results_row_tmp (P := Try.prog) rfl _ _ w.heap.size _ _ (0, 0) _ rfl (Blk.three_set Hb3.out (.int .i64 0) (.int .i64 0) (.int .u64 0)) Try.underlying55 rfl (by kernel_rfl)) rfl ?_
      exact ⟨_, _, rfl, rtold_op Ho.out (by decide), (((hB3'.setCell (Nat.le_refl _) _).setCell (Nat.le_refl _) _).setCell (Nat.le_refl _) _)⟩
    · have ho : opN xs = 0 := by
        unfold opN
        have := Hlen.out
        have := Hm.out
        rw [if_neg (by omega), show xs.length - 4 = m by omega]
        exact if_pos hs
      have hb3 := Hb2.out.later hB3
      have hB3' := HB2.out.trans (hB3.mono (Nat.le_of_lt hlt2))
      obtain ⟨⟨c0, c1, c2⟩, f0, f1, f2⟩ := hb3.three
      have Ho := hid ho
      have Hb3 := hid hb3
      by_cases hm8 : m = 8
      · subst hm8
        have hl12 : xs.length = 12 := by have := Hlen.out; have := Hm.out; omega
        have hzb := (hz2.take 8 (by have := Hm.out; omega)).below hB3
        obtain ⟨bb, hbb⟩ : ∃ bb, bb = xs.take 8 := ⟨_, rfl⟩
        rw [← hbb] at hzb
        have hbB := isB_of hzb
        have hbl := hzb.len
        have gB : ∀ k, k < 8 → 0 ≤ bb.getD k 0 ∧ bb.getD k 0 ≤ 255 := fun k hk => by
          rw [List.getD_eq_getElem?_getD, List.getElem?_eq_getElem (by omega)]
          exact hbB _ (List.getElem_mem _)
        obtain ⟨K, hK⟩ : ∃ K : Nat, (K : Int) = bb.getD 0 0 := ⟨(bb.getD 0 0).toNat, by have := gB 0 (by decide); omega⟩
        obtain ⟨f, hf⟩ : ∃ K : Nat, (K : Int) = bb.getD 1 0 := ⟨(bb.getD 1 0).toNat, by have := gB 1 (by decide); omega⟩
        obtain ⟨x, hx⟩ : ∃ x, x = num (bb.drop 2) := ⟨_, rfl⟩
        have mK : K ≤ 255 := by have := gB 0 (by decide); omega
        have mf : f ≤ 255 := by have := gB 1 (by decide); omega
        obtain ⟨b, o, rfl, -⟩ := hzb.cell 0 (by decide)
        have q0 : w3.cell? ⟨b, o, none⟩ = some (.int .u8 (bb.getD 0 0)) := nums_plain hzb 0 (by decide)
        have q1 := nums_plain hzb 1 (by decide)
        rw [← hK] at q0
        rw [← hf] at q1
        have hc8 : 8 ≤ c := by have := Hm.out; omega
        have hzx := nums_seg hzb hc8 2 6 (by decide) (by omega)
        have e6 : (bb.drop 2).take 6 = bb.drop 2 := List.take_of_length_le (by rw [List.length_drop]; omega)
        rw [e6] at hzx
        have GX : ∀ W, Below w3.heap.size w3 W → Calls Try.prog 29 #[.slice (some ⟨b, o + 2, none⟩) 6 (c - 2)] W fun e w' => e = .returned (.int .u64 (x : Int)) ∧ w' = W := fun W h => by rw [hx]; exact rget_any _ 6 _ _ W (hzx.below h) (by decide)
        have HY : Hid (1 ≤ K ∧ K ≤ 3 ∧ f ≤ 1 ∧ (K = 2 → x = 0) → RTold xs (.agg #[.int .i64 (K : Int), .int .i64 (f : Int), .int .u64 (x : Int)]) 0) := hid (fun h => rdec_yes hxB hl12 hs (by rw [← hbb]; exact hK) (by rw [← hbb]; exact hf) (by rw [← hbb]; exact hx) h)
        have HN : Hid (¬ (1 ≤ K ∧ K ≤ 3 ∧ f ≤ 1 ∧ (K = 2 → x = 0)) → RTold xs (.agg #[.int .i64 0, .int .i64 0, .int .u64 0]) 3) := hid (fun h => rdec_no hl12 Ho.out (by rw [← hbb]; exact hK) (by rw [← hbb]; exact hf) (by rw [← hbb]; exact hx) h)
        have hX : ∀ W, Below w3.heap.size w3 W → (W.cell? ⟨b, o, none⟩ = some (.int .u8 (K : Int)) ∧ W.cell? ⟨b, o + 1, none⟩ = some (.int .u8 (f : Int))) := fun W h =>
          ⟨by rw [← q0]; exact h.cell (World.block_lt_of_cell? w3 _ q0), by rw [← q1]; exact h.cell (World.block_lt_of_cell? w3 _ q1)⟩
        have HX := hid hX
        have hbd : Below w3.heap.size w3 (w3.drewN 1) := below_drewN (Below.refl _ _) 1
        have hx64 : (x : Int) ≤ 18446744073709551615 := by
          have h1 := num_lt (bb.drop 2) (isB_drop hbB 2)
          rw [List.length_drop, hbl] at h1
          omega
        have HB3 := hid hB3'
        clear hX hzx e6 hbl hbB gB hK hf hx hbb hzb hl12 hs ho hz2 hb3 hB3' hlt2 q0 q1
        go_upto_region 6 with (fail)
        clear c0 c1 c2 f0 f1 f2
        have hw5 : IntKind.i64.wrap (K : Int) = (K : Int) := IntWalk.i64_in _ (by omega)
        have hw6 : IntKind.i64.wrap (f : Int) = (f : Int) := IntWalk.i64_in _ (by omega)
        have n2' : ¬ c = 2 := by omega
        have n8i : (8 : Int) ≤ (c : Int) := by omega
        go_cut [2, 6] (fun x2 p wx => x2 = .pointer (some ⟨w.heap.size, 0, none⟩) ∧ p = .pointer (some ⟨w3.heap.size, 0, none⟩) ∧ Blk wx w3.heap.size #[.int .i64 (K : Int), .int .i64 (f : Int), .int .u64 (x : Int)] 55 ∧ Below w3.heap.size w3 wx)
        case first =>
          go_region_held3 (fun w' => w'.cell? ⟨b, o, none⟩ = some (.int .u8 (K : Int)) ∧ w'.cell? ⟨b, o + 1, none⟩ = some (.int .u8 (f : Int)))
            (first | exact HX.out _ hbd | exact HX.out _ (hbd.alloc (Nat.le_refl _) _))
            (first
             | (((with_reducible refine (GX _ ?hz).mono ?_); (case hz => first | exact hbd | exact hbd.alloc (Nat.le_refl _) _); rintro e w' ⟨rfl, rfl⟩)))
          all_goals
            go_wp2_with fail
            go_meet
            exact ⟨rfl, rfl, (Blk.new w3 _ _).drewN 1, ((Below.refl _ _).alloc (Nat.le_refl _) _).drewB 1⟩
        case rest =>
          obtain ⟨rfl, rfl, hs7, hB7⟩ := hcut
          clear hw5 hw6 n2' n8i GX HX hbd
          have hb7 := Hb3.out.later hB7
          have hB8 := HB3.out.trans (hB7.mono HB3.out.size)
          obtain ⟨g1, hg1⟩ : ∃ g, w3.heap.size = g := ⟨_, rfl⟩
          rw [hg1] at hs7 ⊢
          obtain ⟨⟨c0, c1, c2⟩, -⟩ := hs7.three
          obtain ⟨⟨d0, d1, d2⟩, f0, f1, f2⟩ := hb7.three
          have Hb7 := hid hb7
          clear hs7 hb7 hB7 hg1
          by_cases hc : 1 ≤ K ∧ K ≤ 3 ∧ f ≤ 1 ∧ (K = 2 → x = 0)
          · have hy := HY.out hc
            obtain ⟨h1, h2, h3, h5⟩ := hc
            have hfI : (f : Int) ≤ 1 := by omega
            have : K = 1 ∨ K = 2 ∨ K = 3 := by omega
            have Hy := hid hy
            clear hy HY HN
            rcases this with rfl | rfl | rfl
            · clear h1 h2 h5
              go_wp2
              refine bodyPost_ret (results_row_tmp (P := Try.prog) rfl _ _ w.heap.size _ _ (0, 0) _ rfl (Blk.three_set Hb7.out (.int .i64 1) (.int .i64 (f : Int)) (.int .u64 (x : Int))) Try.underlying55 rfl (by kernel_rfl)) rfl ?_
              exact ⟨_, _, rfl, Hy.out, (((hB8.setCell (Nat.le_refl _) _).setCell (Nat.le_refl _) _).setCell (Nat.le_refl _) _)⟩
            · have hx0 := h5 rfl
              subst hx0
              clear h1 h2 h5
              go_wp2
              refine bodyPost_ret (results_row_tmp (P := Try.prog) rfl _ _ w.heap.size _ _ (0, 0) _ rfl (Blk.three_set Hb7.out (.int .i64 2) (.int .i64 (f : Int)) (.int .u64 0)) Try.underlying55 rfl (by kernel_rfl)) rfl ?_
              exact ⟨_, _, rfl, Hy.out, (((hB8.setCell (Nat.le_refl _) _).setCell (Nat.le_refl _) _).setCell (Nat.le_refl _) _)⟩
            · clear h1 h2 h5
              go_wp2
              refine bodyPost_ret (results_row_tmp (P := Try.prog) rfl _ _ w.heap.size _ _ (0, 0) _ rfl (Blk.three_set Hb7.out (.int .i64 3) (.int .i64 (f : Int)) (.int .u64 (x : Int))) Try.underlying55 rfl (by kernel_rfl)) rfl ?_
              exact ⟨_, _, rfl, Hy.out, (((hB8.setCell (Nat.le_refl _) _).setCell (Nat.le_refl _) _).setCell (Nat.le_refl _) _)⟩
          · have hn := HN.out hc
            have Hn := hid hn
            have hcc : K = 0 ∨ 3 < K ∨ (1 ≤ K ∧ K ≤ 3 ∧ 1 < f) ∨ (K = 2 ∧ f ≤ 1 ∧ x ≠ 0) := by
              by_cases a1 : K = 0
              · exact .inl a1
              · by_cases a2 : 3 < K
                · exact .inr (.inl a2)
                · by_cases a3 : 1 < f
                  · exact .inr (.inr (.inl ⟨by omega, by omega, a3⟩))
                  · refine .inr (.inr (.inr ?_))
                    by_cases a4 : K = 2
                    · refine ⟨a4, by omega, fun hx => hc ⟨by omega, by omega, by omega, fun _ => hx⟩⟩
                    · exact absurd ⟨by omega, by omega, by omega, fun h => absurd h a4⟩ hc
            clear hn HY HN hc
            rcases hcc with rfl | h1 | ⟨h1, h2, h3⟩ | ⟨rfl, h2, h3⟩
            · go_wp2
              refine bodyPost_ret (results_row_tmp (P := Try.prog) rfl _ _ w.heap.size _ _ (0, 0) _ rfl (Blk.three_set Hb7.out (.int .i64 0) (.int .i64 0) (.int .u64 0)) Try.underlying55 rfl (by kernel_rfl)) rfl ?_
              exact ⟨_, _, rfl, Hn.out, (((hB8.setCell (Nat.le_refl _) _).setCell (Nat.le_refl _) _).setCell (Nat.le_refl _) _)⟩
            · have hK1 : (3 : Int) < (K : Int) := by omega
              go_wp2
              refine bodyPost_ret (results_row_tmp (P := Try.prog) rfl _ _ w.heap.size _ _ (0, 0) _ rfl (Blk.three_set Hb7.out (.int .i64 0) (.int .i64 0) (.int .u64 0)) Try.underlying55 rfl (by kernel_rfl)) rfl ?_
              exact ⟨_, _, rfl, Hn.out, (((hB8.setCell (Nat.le_refl _) _).setCell (Nat.le_refl _) _).setCell (Nat.le_refl _) _)⟩
            · have hK1 : (1 : Int) ≤ (K : Int) := by omega
              have hK2 : (K : Int) ≤ 3 := by omega
              have hf1 : (1 : Int) < (f : Int) := by omega
              go_wp2
              refine bodyPost_ret (results_row_tmp (P := Try.prog) rfl _ _ w.heap.size _ _ (0, 0) _ rfl (Blk.three_set Hb7.out (.int .i64 0) (.int .i64 0) (.int .u64 0)) Try.underlying55 rfl (by kernel_rfl)) rfl ?_
              exact ⟨_, _, rfl, Hn.out, (((hB8.setCell (Nat.le_refl _) _).setCell (Nat.le_refl _) _).setCell (Nat.le_refl _) _)⟩
            · have hfI : (f : Int) ≤ 1 := by omega
              have e0 : ((x : Int) != 0) = true := by simp [h3]
              have H3 := hid h3
              clear h3
              go_wp2
              refine bodyPost_ret (results_row_tmp (P := Try.prog) rfl _ _ w.heap.size _ _ (0, 0) _ rfl (Blk.three_set Hb7.out (.int .i64 0) (.int .i64 0) (.int .u64 0)) Try.underlying55 rfl (by kernel_rfl)) rfl ?_
              exact ⟨_, _, rfl, Hn.out, (((hB8.setCell (Nat.le_refl _) _).setCell (Nat.le_refl _) _).setCell (Nat.le_refl _) _)⟩
      · have hr := rtold_len ho (by have := Hlen.out; have := Hm.out; omega)
        have Hr := hid hr
        clear hr ho hz2 hs hb3
        go_wp2
        refine bodyPost_ret (results_row_tmp (P := Try.prog) rfl _ _ w.heap.size _ _ (0, 0) _ rfl (Blk.three_set Hb3.out (.int .i64 0) (.int .i64 0) (.int .u64 0)) Try.underlying55 rfl (by kernel_rfl)) rfl ?_
        exact ⟨_, _, rfl, Hr.out, (((hB3'.setCell (Nat.le_refl _) _).setCell (Nat.le_refl _) _).setCell (Nat.le_refl _) _)⟩
end Go.Proofs.Ytmehebjkdmpigaa.Mail
