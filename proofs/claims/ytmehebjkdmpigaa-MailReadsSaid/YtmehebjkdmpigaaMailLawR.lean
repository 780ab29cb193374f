import Derived.Test.YtmehebjkdmpigaaMailDec
import Derived.Test.YtmehebjkdmpigaaOctTurn
set_option linter.unusedVariables false
set_option linter.unusedSimpArgs false
namespace Go.Proofs.Ytmehebjkdmpigaa.Mail
open Go.RowKit Go.Proofs.Ytmehebjkdmpigaa.Kit Go.Proofs.Ytmehebjkdmpigaa.Oct

theorem dcode_ne (xs : List Int) : dcode xs ≠ 0 := by
  unfold dcode
  split
  · decide
  · assumption

set_option maxRecDepth 100000 in
set_option maxHeartbeats 8000000 in
theorem law_reads (A : Option Addr) (n c : Nat) (xs : List Int) (sl : Bool) (w : World) (hz : n ≤ c ∧ Nums w .u8 A n xs) :
    Calls Try.prog 6 #[.slice A n c, .bool sl] w fun e w' => e = .returned (.bool true) ∧ Below w.heap.size w w' := by
  obtain ⟨hnc, hz⟩ := hz
  have hn := hz.most
  have hlen := hz.len
  have hxB := isB_of hz
  have Hlen := hid hlen
  clear hlen
  go_enter Try.func6, Try.ntmps6
  go_wp2_with fail
  refine (awake_any w).mono ?_
  rintro e w1 ⟨rfl, hB1⟩
  by_cases h300 : 300 < n
  · go_wp2_with fail
    refine (awake_any w1).mono ?_
    rintro e w2 ⟨rfl, hB2⟩
    go_wp2
    go_ret
    exact ⟨rfl, hB1.trans (hB2.mono hB1.size)⟩
  · have hz1 := hz.below hB1
    clear hz
    cases sl
    · go_wp2_with fail
      refine (decode_any A n c xs _ hz1 hnc (by omega)).mono ?_
      rintro e w6 ⟨v6, k6, rfl, ht, hB6⟩
      have hBq := Below.trans hB1 (hB6.mono (Below.size hB1))
      have hq6 := Nums.below hz1 hB6
      rcases ht with ⟨k, f, x, E, rfl, rfl, hk, hf, hx, hep, h1, hE, he⟩ | ⟨rfl, hk6, hno⟩
      · have hse := str_eq_true he.symm
        have hi := fun W => is_any k (f : Int) E W hk
        rw [decide_eq_true (show right k (f : Int) E from ⟨by omega, by rw [hep]; omega⟩)] at hi
        have he7 := encode_any k f x E w6 hk hf hep hx
        have hmB := msg_isB k f x
        have hml := msg_len k f x
        generalize msg k f x = ms at *
        generalize mv k (f : Int) E = mm at *
        clear hep h1 hE he hk hf hx
        go_wp2_with fail
        refine he7.mono ?_
        rintro e w7 ⟨v7, rfl, ho7, hB7⟩
        obtain ⟨A7, c7, e7, hc7, hz7⟩ := ho7.reads hmB
        rw [hml] at e7 hc7 hz7
        subst e7
        have cv1 := conv_str (c := c7) hz7
        have cv2 := conv_str (c := c) (hq6.below hB7)
        have hB8 := hBq.trans (hB7.mono hBq.size)
        clear ho7 hz7 hq6 hB6 he7
        go_wp2_with fail
        refine (hi _).mono ?_
        rintro e w8 ⟨rfl, hB8'⟩
        have hB9 := hB8.trans (hB8'.mono hB8.size)
        clear cv1 cv2 hse hi
        go_wp2
        go_ret
        exact ⟨rfl, hB9⟩
      · have hro := ropen_q A n c xs w6 hq6 hnc (by omega)
        have hdn := dcode_ne xs
        rw [← hk6] at hdn
        unfold dcode at hk6
        generalize opN xs = o at *
        have hne : (k6 != 0) = true := by simp [hdn]
        have Hk6 := hid hk6
        clear hk6 hdn hno
        by_cases ho : o = 0
        · have hk3 : k6 = 3 := by have := Hk6.out; rw [if_pos ho] at this; exact this
          subst hk3 ho
          clear hne
          go_wp2_with fail
          refine hro.mono ?_
          rintro e w7 ⟨C7, k7, d7, rfl, -, hB7⟩
          have hB8 := hBq.trans (hB7.mono hBq.size)
          clear hro
          go_wp2
          go_ret
          exact ⟨rfl, hB8⟩
        · have hk3 : k6 = o := by have := Hk6.out; rw [if_neg ho] at this; exact this
          subst hk3
          have Ho := hid ho
          clear ho Hk6
          go_wp2_with fail
          refine hro.mono ?_
          rintro e w7 ⟨C7, k7, d7, rfl, -, hB7⟩
          have hB8 := hBq.trans (hB7.mono hBq.size)
          clear hro
          go_wp2
          go_ret
          exact ⟨rfl, hB8⟩
    · go_wp2_with fail
      refine (rseal_any A n c xs w1 hz1 (by omega)).mono ?_
      rintro e w2 ⟨v2, rfl, ho2, hB2⟩
      have hqB : IsB (xs ++ le (sum xs) 4) := isB_append hxB (le_isB _ _)
      have hql : (xs ++ le (sum xs) 4).length = n + 4 := by rw [List.length_append, le_len, Hlen.out]
      generalize xs ++ le (sum xs) 4 = qs at *
      obtain ⟨A2, c2, e2, hc2, hz2⟩ := ho2.reads hqB
      rw [hql] at e2 hc2 hz2
      subst e2
      have hB12 := hB1.trans (hB2.mono hB1.size)
      clear ho2 hB2 hz1
      go_wp2_with fail
      refine (decode_any A2 (n + 4) c2 qs _ hz2 hc2 (by omega)).mono ?_
      rintro e w6 ⟨v6, k6, rfl, ht, hB6⟩
      have hBq := Below.trans hB12 (hB6.mono (Below.size hB12))
      have hq6 := Nums.below hz2 hB6
      rcases ht with ⟨k, f, x, E, rfl, rfl, hk, hf, hx, hep, h1, hE, he⟩ | ⟨rfl, hk6, hno⟩
      · have hse := str_eq_true he.symm
        have hi := fun W => is_any k (f : Int) E W hk
        rw [decide_eq_true (show right k (f : Int) E from ⟨by omega, by rw [hep]; omega⟩)] at hi
        have he7 := encode_any k f x E w6 hk hf hep hx
        have hmB := msg_isB k f x
        have hml := msg_len k f x
        generalize msg k f x = ms at *
        generalize mv k (f : Int) E = mm at *
        clear hep h1 hE he hk hf hx
        go_wp2_with fail
        refine he7.mono ?_
        rintro e w7 ⟨v7, rfl, ho7, hB7⟩
        obtain ⟨A7, c7, e7, hc7, hz7⟩ := ho7.reads hmB
        rw [hml] at e7 hc7 hz7
        subst e7
        have cv1 := conv_str (c := c7) hz7
        have cv2 := conv_str (c := c2) (hq6.below hB7)
        have hB8 := hBq.trans (hB7.mono hBq.size)
        clear ho7 hz7 hq6 hB6 he7
        go_wp2_with fail
        refine (hi _).mono ?_
        rintro e w8 ⟨rfl, hB8'⟩
        have hB9 := hB8.trans (hB8'.mono hB8.size)
        clear cv1 cv2 hse hi
        go_wp2
        go_ret
        exact ⟨rfl, hB9⟩
      · have hro := ropen_q A2 (n + 4) c2 qs w6 hq6 hc2 (by omega)
        have hdn := dcode_ne qs
        rw [← hk6] at hdn
        unfold dcode at hk6
        generalize opN qs = o at *
        have hne : (k6 != 0) = true := by simp [hdn]
        have Hk6 := hid hk6
        clear hk6 hdn hno
        by_cases ho : o = 0
        · have hk3 : k6 = 3 := by have := Hk6.out; rw [if_pos ho] at this; exact this
          subst hk3 ho
          clear hne
          go_wp2_with fail
          refine hro.mono ?_
          rintro e w7 ⟨C7, k7, d7, rfl, -, hB7⟩
          have hB8 := hBq.trans (hB7.mono hBq.size)
          clear hro
          go_wp2
          go_ret
          exact ⟨rfl, hB8⟩
        · have hk3 : k6 = o := by have := Hk6.out; rw [if_neg ho] at this; exact this
          subst hk3
          have Ho := hid ho
          clear ho Hk6
          go_wp2_with fail
          refine hro.mono ?_
          rintro e w7 ⟨C7, k7, d7, rfl, -, hB7⟩
          have hB8 := hBq.trans (hB7.mono hBq.size)
          clear hro
          go_wp2
          go_ret
          exact ⟨rfl, hB8⟩
end Go.Proofs.Ytmehebjkdmpigaa.Mail
