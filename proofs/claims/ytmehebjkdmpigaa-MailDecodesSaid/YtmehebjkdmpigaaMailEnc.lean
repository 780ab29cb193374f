import Derived.Test.YtmehebjkdmpigaaMailMsg
import Derived.Test.YtmehebjkdmpigaaOctSeal
import Derived.Test.YtmehebjkdmpigaaOctEnd
set_option linter.unusedVariables false
set_option linter.unusedSimpArgs false
namespace Go.Proofs.Ytmehebjkdmpigaa.Mail
open Go.RowKit Go.Proofs.Ytmehebjkdmpigaa.Kit Go.Proofs.Ytmehebjkdmpigaa.Oct

theorem is_any (k : Nat) (F E : Int) (w : World) (hk : k < 3) :
    Calls Try.prog 12 #[mv k F E] w fun e w' => e = .returned (.bool (decide (right k F E))) ∧ Below w.heap.size w w' :=
  match k, hk with
  | 0, _ => is_b F E w
  | 1, _ => is_w F E w
  | 2, _ => is_g F E w

/-- What is no message. -/
def NoMsg (v : Value) : Prop :=
  (∀ w : World, (Instr.typeAssert v 20 41 true).run Try.prog w = .ok (.tuple #[.agg #[.int .i64 0, .int .u64 0], .bool false]) w) ∧
  (∀ w : World, (Instr.typeAssert v 20 33 true).run Try.prog w = .ok (.tuple #[.agg #[.int .i64 0], .bool false]) w) ∧
  (∀ w : World, (Instr.typeAssert v 20 44 true).run Try.prog w = .ok (.tuple #[.agg #[.int .i64 0, .int .u64 0], .bool false]) w)
theorem no_str (v : Value) : NoMsg (.iface 9 v) := ⟨ta_sb v, ta_sw v, ta_sg v⟩
theorem no_int (v : Value) : NoMsg (.iface 3 v) := ⟨ta_ib v, ta_iw v, ta_ig v⟩
theorem no_ptr (v : Value) : NoMsg (.iface 31 v) := ⟨ta_pb v, ta_pw v, ta_pg v⟩
theorem no_nil : NoMsg .nilIface := ⟨ta_nb, ta_nw, ta_ng⟩

theorem is_none (v : Value) (w : World) (h : NoMsg v) : Calls Try.prog 12 #[v] w fun e w' => e = .returned (.bool false) ∧ w' = w := by
  obtain ⟨h1, h2, h3⟩ := h
  go_enter Try.func12, Try.ntmps12
  go_wp2
  go_ret
  exact ⟨rfl, rfl⟩
theorem encode_none (v : Value) (w : World) (h : NoMsg v) : Calls Try.prog 9 #[v] w fun e w' => e = .returned (.tuple #[.slice none 0 0, .int .i64 1]) ∧ w' = w := by
  go_enter Try.func9, Try.ntmps9
  go_wp2_with fail
  refine (is_none v w h).mono ?_
  rintro e w1 ⟨rfl, rfl⟩
  go_wp2
  go_ret2
  exact ⟨rfl, rfl⟩
theorem encode_not (k : Nat) (F E : Int) (w : World) (hk : k < 3) (h : ¬ right k F E) : Calls Try.prog 9 #[mv k F E] w fun e w' => e = .returned (.tuple #[.slice none 0 0, .int .i64 1]) ∧ Below w.heap.size w w' := by
  have hi := is_any k F E w hk
  rw [decide_eq_false h] at hi
  clear h
  generalize mv k F E = v at *
  go_enter Try.func9, Try.ntmps9
  go_wp2_with fail
  refine hi.mono ?_
  rintro e w1 ⟨rfl, hB⟩
  go_wp2
  go_ret2
  exact ⟨rfl, hB⟩

theorem put_1 (base : Nat) (v : Value) (xs : List Int) (x : Nat) (w : World) (hown : OwnB w base v xs) (hbase : base ≤ w.heap.size) (hx : x ≤ 18446744073709551615) (hl : xs.length ≤ 1000000) :
    Calls Try.prog 20 #[v, .int .u64 (x : Int), .int .i64 1] w fun e w' => ∃ v', e = .returned v' ∧ OwnB w' base v' (xs ++ le x 1) ∧ Grew w w' v v' := put_any base v xs x 1 w hown hbase hx (by decide) hl
theorem put_6 (base : Nat) (v : Value) (xs : List Int) (x : Nat) (w : World) (hown : OwnB w base v xs) (hbase : base ≤ w.heap.size) (hx : x ≤ 18446744073709551615) (hl : xs.length ≤ 1000000) :
    Calls Try.prog 20 #[v, .int .u64 (x : Int), .int .i64 6] w fun e w' => ∃ v', e = .returned v' ∧ OwnB w' base v' (xs ++ le x 6) ∧ Grew w w' v v' := put_any base v xs x 6 w hown hbase hx (by decide) hl

/-- A message's bytes. -/
def enc (k f e : Nat) : List Int := (le (k + 1) 1 ++ le f 1) ++ le e 6
def msg (k f e : Nat) : List Int := enc k f e ++ le (sum (enc k f e)) 4
theorem enc_len (k f e : Nat) : (enc k f e).length = 8 := by simp only [enc, List.length_append, le_len]
theorem msg_len (k f e : Nat) : (msg k f e).length = 12 := by simp only [msg, List.length_append, le_len, enc_len]
theorem enc_isB (k f e : Nat) : IsB (enc k f e) := isB_append (isB_append (le_isB _ _) (le_isB _ _)) (le_isB _ _)
theorem msg_isB (k f e : Nat) : IsB (msg k f e) := isB_append (enc_isB _ _ _) (le_isB _ _)

set_option maxHeartbeats 4000000 in
theorem encode_b (f x : Nat) (E : Int) (w : World) (hf : f ≤ 1) (hx : ep 0 E = (x : Int)) (hl : x < 281474976710656) :
    Calls Try.prog 9 #[mv 0 (f : Int) E] w fun e w' => ∃ v, e = .returned (.tuple #[v, .int .i64 0]) ∧ OwnB w' w.heap.size v (msg 0 f x) ∧ Below w.heap.size w w' := by
  have hr : right 0 (f : Int) E := ⟨by omega, by rw [hx]; omega⟩
  have hi := is_any 0 (f : Int) E w (by decide)
  rw [decide_eq_true hr] at hi
  have F1 := fun W => from_any 0 (f : Int) E W
  have F2 := fun W => epoch_any 0 (f : Int) E W
  rw [hx] at F2
  clear hr hx
  have h2 := ta_bw
  have h3 := ta_bg
  have hfI : (f : Int) ≤ 1 := by omega
  change Calls _ _ #[.iface 41 (.agg #[.int .i64 (f : Int), .int .u64 E])] _ _
  change Calls _ _ #[.iface 41 (.agg #[.int .i64 (f : Int), .int .u64 E])] _ _ at hi
  change ∀ W, Calls _ _ #[.iface 41 (.agg #[.int .i64 (f : Int), .int .u64 E])] W _ at F1
  change ∀ W, Calls _ _ #[.iface 41 (.agg #[.int .i64 (f : Int), .int .u64 E])] W _ at F2
  go_enter Try.func9, Try.ntmps9
  go_wp2_with fail
  refine hi.mono ?_
  rintro e w1 ⟨rfl, hB1⟩
  have hs1 := hB1.size
  go_wp2_with fail
  refine (put_1 w.heap.size (.slice none 0 0) [] 1 w1 (OwnB.nil _ _) hs1 (by decide) (by simp)).mono ?_
  rintro e w2 ⟨v2, rfl, ho2, hg2⟩
  rw [List.nil_append] at ho2
  have hB2 : Below w.heap.size w w2 := hg2.below hB1 hs1 (by intro k hk; simp [Value.ownBlock] at hk)
  clear hg2 hB1 hs1 hi
  go_wp2_with fail
  refine (F1 w2).mono ?_
  rintro e w3 ⟨rfl, hB3'⟩
  have hB3 := hB2.trans (hB3'.mono hB2.size)
  have ho3 := ho2.later hB3'
  clear hB2 ho2 hB3' F1
  have hs3 := hB3.size
  go_wp2_with fail
  refine (put_1 w.heap.size v2 (le 1 1) f w3 ho3 hs3 (by omega) (by rw [le_len]; decide)).mono ?_
  rintro e w4 ⟨v4, rfl, ho4, hg4⟩
  have hB4 : Below w.heap.size w w4 := hg4.below hB3 hs3 (fun k hk => (ho3.lt k hk).1)
  clear hg4 hB3 hs3 ho3
  go_wp2_with fail
  refine (F2 w4).mono ?_
  rintro e w5 ⟨rfl, hB5'⟩
  have hB5 := hB4.trans (hB5'.mono hB4.size)
  have ho5 := ho4.later hB5'
  clear hB4 ho4 hB5' F2
  have hs5 := hB5.size
  go_wp2_with fail
  refine (put_6 w.heap.size v4 (le 1 1 ++ le f 1) x w5 ho5 hs5 (by omega) (by rw [List.length_append, le_len, le_len]; decide)).mono ?_
  rintro e w6 ⟨v6, rfl, ho6, hg6⟩
  have hB6 : Below w.heap.size w w6 := hg6.below hB5 hs5 (fun k hk => (ho5.lt k hk).1)
  clear hg6 hB5 hs5 ho5
  have he : (le 1 1 ++ le f 1) ++ le x 6 = enc 0 f x := rfl
  rw [he] at ho6
  clear he
  have hel := enc_len 0 f x
  have Hm := hid (show msg 0 f x = enc 0 f x ++ le (sum (enc 0 f x)) 4 from rfl)
  obtain ⟨A6, c6, e6, hc6, hz6⟩ := ho6.reads (enc_isB _ _ _)
  rw [hel] at e6 hc6 hz6
  subst e6
  clear ho6
  generalize enc 0 f x = ex at *
  go_wp2_with fail
  refine (seal_any A6 8 c6 ex w6 hz6 (by decide)).mono ?_
  rintro e w7 ⟨v7, rfl, ho7, hB7⟩
  go_wp2
  go_ret2
  exact ⟨_, rfl, by rw [Hm.out]; exact ho7.mono hB6.size, hB6.trans (hB7.mono hB6.size)⟩

set_option maxHeartbeats 4000000 in
theorem encode_w (f x : Nat) (E : Int) (w : World) (hf : f ≤ 1) (hx : ep 1 E = (x : Int)) (hl : x < 281474976710656) :
    Calls Try.prog 9 #[mv 1 (f : Int) E] w fun e w' => ∃ v, e = .returned (.tuple #[v, .int .i64 0]) ∧ OwnB w' w.heap.size v (msg 1 f x) ∧ Below w.heap.size w w' := by
  have hr : right 1 (f : Int) E := ⟨by omega, by rw [hx]; omega⟩
  have hi := is_any 1 (f : Int) E w (by decide)
  rw [decide_eq_true hr] at hi
  have F1 := fun W => from_any 1 (f : Int) E W
  have F2 := fun W => epoch_any 1 (f : Int) E W
  rw [hx] at F2
  clear hr hx
  have h2 := ta_ww
  have h3 := ta_wg
  have hfI : (f : Int) ≤ 1 := by omega
  change Calls _ _ #[.iface 33 (.agg #[.int .i64 (f : Int)])] _ _
  change Calls _ _ #[.iface 33 (.agg #[.int .i64 (f : Int)])] _ _ at hi
  change ∀ W, Calls _ _ #[.iface 33 (.agg #[.int .i64 (f : Int)])] W _ at F1
  change ∀ W, Calls _ _ #[.iface 33 (.agg #[.int .i64 (f : Int)])] W _ at F2
  go_enter Try.func9, Try.ntmps9
  go_wp2_with fail
  refine hi.mono ?_
  rintro e w1 ⟨rfl, hB1⟩
  have hs1 := hB1.size
  go_wp2_with fail
  refine (put_1 w.heap.size (.slice none 0 0) [] 2 w1 (OwnB.nil _ _) hs1 (by decide) (by simp)).mono ?_
  rintro e w2 ⟨v2, rfl, ho2, hg2⟩
  rw [List.nil_append] at ho2
  have hB2 : Below w.heap.size w w2 := hg2.below hB1 hs1 (by intro k hk; simp [Value.ownBlock] at hk)
  clear hg2 hB1 hs1 hi
  go_wp2_with fail
  refine (F1 w2).mono ?_
  rintro e w3 ⟨rfl, hB3'⟩
  have hB3 := hB2.trans (hB3'.mono hB2.size)
  have ho3 := ho2.later hB3'
  clear hB2 ho2 hB3' F1
  have hs3 := hB3.size
  go_wp2_with fail
  refine (put_1 w.heap.size v2 (le 2 1) f w3 ho3 hs3 (by omega) (by rw [le_len]; decide)).mono ?_
  rintro e w4 ⟨v4, rfl, ho4, hg4⟩
  have hB4 : Below w.heap.size w w4 := hg4.below hB3 hs3 (fun k hk => (ho3.lt k hk).1)
  clear hg4 hB3 hs3 ho3
  go_wp2_with fail
  refine (F2 w4).mono ?_
  rintro e w5 ⟨rfl, hB5'⟩
  have hB5 := hB4.trans (hB5'.mono hB4.size)
  have ho5 := ho4.later hB5'
  clear hB4 ho4 hB5' F2
  have hs5 := hB5.size
  go_wp2_with fail
  refine (put_6 w.heap.size v4 (le 2 1 ++ le f 1) x w5 ho5 hs5 (by omega) (by rw [List.length_append, le_len, le_len]; decide)).mono ?_
  rintro e w6 ⟨v6, rfl, ho6, hg6⟩
  have hB6 : Below w.heap.size w w6 := hg6.below hB5 hs5 (fun k hk => (ho5.lt k hk).1)
  clear hg6 hB5 hs5 ho5
  have he : (le 2 1 ++ le f 1) ++ le x 6 = enc 1 f x := rfl
  rw [he] at ho6
  clear he
  have hel := enc_len 1 f x
  have Hm := hid (show msg 1 f x = enc 1 f x ++ le (sum (enc 1 f x)) 4 from rfl)
  obtain ⟨A6, c6, e6, hc6, hz6⟩ := ho6.reads (enc_isB _ _ _)
  rw [hel] at e6 hc6 hz6
  subst e6
  clear ho6
  generalize enc 1 f x = ex at *
  go_wp2_with fail
  refine (seal_any A6 8 c6 ex w6 hz6 (by decide)).mono ?_
  rintro e w7 ⟨v7, rfl, ho7, hB7⟩
  go_wp2
  go_ret2
  exact ⟨_, rfl, by rw [Hm.out]; exact ho7.mono hB6.size, hB6.trans (hB7.mono hB6.size)⟩

set_option maxHeartbeats 4000000 in
theorem encode_g (f x : Nat) (E : Int) (w : World) (hf : f ≤ 1) (hx : ep 2 E = (x : Int)) (hl : x < 281474976710656) :
    Calls Try.prog 9 #[mv 2 (f : Int) E] w fun e w' => ∃ v, e = .returned (.tuple #[v, .int .i64 0]) ∧ OwnB w' w.heap.size v (msg 2 f x) ∧ Below w.heap.size w w' := by
  have hr : right 2 (f : Int) E := ⟨by omega, by rw [hx]; omega⟩
  have hi := is_any 2 (f : Int) E w (by decide)
  rw [decide_eq_true hr] at hi
  have F1 := fun W => from_any 2 (f : Int) E W
  have F2 := fun W => epoch_any 2 (f : Int) E W
  rw [hx] at F2
  clear hr hx
  have h2 := ta_gw
  have h3 := ta_gg
  have hfI : (f : Int) ≤ 1 := by omega
  change Calls _ _ #[.iface 44 (.agg #[.int .i64 (f : Int), .int .u64 E])] _ _
  change Calls _ _ #[.iface 44 (.agg #[.int .i64 (f : Int), .int .u64 E])] _ _ at hi
  change ∀ W, Calls _ _ #[.iface 44 (.agg #[.int .i64 (f : Int), .int .u64 E])] W _ at F1
  change ∀ W, Calls _ _ #[.iface 44 (.agg #[.int .i64 (f : Int), .int .u64 E])] W _ at F2
  go_enter Try.func9, Try.ntmps9
  go_wp2_with fail
  refine hi.mono ?_
  rintro e w1 ⟨rfl, hB1⟩
  have hs1 := hB1.size
  go_wp2_with fail
  refine (put_1 w.heap.size (.slice none 0 0) [] 3 w1 (OwnB.nil _ _) hs1 (by decide) (by simp)).mono ?_
  rintro e w2 ⟨v2, rfl, ho2, hg2⟩
  rw [List.nil_append] at ho2
  have hB2 : Below w.heap.size w w2 := hg2.below hB1 hs1 (by intro k hk; simp [Value.ownBlock] at hk)
  clear hg2 hB1 hs1 hi
  go_wp2_with fail
  refine (F1 w2).mono ?_
  rintro e w3 ⟨rfl, hB3'⟩
  have hB3 := hB2.trans (hB3'.mono hB2.size)
  have ho3 := ho2.later hB3'
  clear hB2 ho2 hB3' F1
  have hs3 := hB3.size
  go_wp2_with fail
  refine (put_1 w.heap.size v2 (le 3 1) f w3 ho3 hs3 (by omega) (by rw [le_len]; decide)).mono ?_
  rintro e w4 ⟨v4, rfl, ho4, hg4⟩
  have hB4 : Below w.heap.size w w4 := hg4.below hB3 hs3 (fun k hk => (ho3.lt k hk).1)
  clear hg4 hB3 hs3 ho3
  go_wp2_with fail
  refine (F2 w4).mono ?_
  rintro e w5 ⟨rfl, hB5'⟩
  have hB5 := hB4.trans (hB5'.mono hB4.size)
  have ho5 := ho4.later hB5'
  clear hB4 ho4 hB5' F2
  have hs5 := hB5.size
  go_wp2_with fail
  refine (put_6 w.heap.size v4 (le 3 1 ++ le f 1) x w5 ho5 hs5 (by omega) (by rw [List.length_append, le_len, le_len]; decide)).mono ?_
  rintro e w6 ⟨v6, rfl, ho6, hg6⟩
  have hB6 : Below w.heap.size w w6 := hg6.below hB5 hs5 (fun k hk => (ho5.lt k hk).1)
  clear hg6 hB5 hs5 ho5
  have he : (le 3 1 ++ le f 1) ++ le x 6 = enc 2 f x := rfl
  rw [he] at ho6
  clear he
  have hel := enc_len 2 f x
  have Hm := hid (show msg 2 f x = enc 2 f x ++ le (sum (enc 2 f x)) 4 from rfl)
  obtain ⟨A6, c6, e6, hc6, hz6⟩ := ho6.reads (enc_isB _ _ _)
  rw [hel] at e6 hc6 hz6
  subst e6
  clear ho6
  generalize enc 2 f x = ex at *
  go_wp2_with fail
  refine (seal_any A6 8 c6 ex w6 hz6 (by decide)).mono ?_
  rintro e w7 ⟨v7, rfl, ho7, hB7⟩
  go_wp2
  go_ret2
  exact ⟨_, rfl, by rw [Hm.out]; exact ho7.mono hB6.size, hB6.trans (hB7.mono hB6.size)⟩

theorem encode_any (k f x : Nat) (E : Int) (w : World) (hk : k < 3) (hf : f ≤ 1) (hx : ep k E = (x : Int)) (hl : x < 281474976710656) :
    Calls Try.prog 9 #[mv k (f : Int) E] w fun e w' => ∃ v, e = .returned (.tuple #[v, .int .i64 0]) ∧ OwnB w' w.heap.size v (msg k f x) ∧ Below w.heap.size w w' :=
  match k, hk, hx with
  | 0, _, hx => encode_b f x E w hf hx hl
  | 1, _, hx => encode_w f x E w hf hx hl
  | 2, _, hx => encode_g f x E w hf hx hl

end Go.Proofs.Ytmehebjkdmpigaa.Mail
