import Derived.Test.YtpncgfdnilmhhaaSheetForm
import Derived.Test.YtpncgfdnilmhhaaSheetPlain
set_option linter.unusedVariables false
set_option linter.unusedSimpArgs false
namespace Go.Proofs.Ytpncgfdnilmhhaa.Sheet
open Go.RowKit Go.Proofs.Ytpncgfdnilmhhaa.Kit Go.Proofs.Ytpncgfdnilmhhaa.Oct

theorem own_one (w : World) (base : Nat) (x : Int) (hb : base ≤ w.heap.size) : OwnB (w.alloc (.cells #[.int .u8 x] 5)) base (.slice (some ⟨w.heap.size, 0, none⟩) 1 1) [x] :=
  ⟨by simp, .inr ⟨w.heap.size, 1, #[.int .u8 x], rfl, hb, heap_alloc_new w _, by simp, by unfold maxLen; omega, by simp, by simp⟩⟩

theorem rbytesP_any (A : Option Addr) (n c : Nat) (xs : List Int) (w : World) (hz : Nums w .u8 A n xs) (hl : n ≤ 100000) :
    Calls Try.prog 30 #[.slice A n c] w fun e w' => ∃ v', e = .returned v' ∧ OwnB w' w.heap.size v' (le n 2 ++ xs) ∧ Below w.heap.size w w' := by
  have hlen := hz.len
  go_enter Try.func30, Try.ntmps30
  go_wp2_with fail
  refine (rput_any n 2 _ (by omega) (by omega)).mono ?_
  rintro e w3 ⟨v3, rfl, ho3, hB3⟩
  have hz3 := hz.below hB3
  have hs3 := hB3.size
  go_wp2_with (at_builtin; refine append_nums w.heap.size rfl _ _ 23 5 .u8 1 rfl Try.underlying23 info5 _ _ _ A n c xs (by rfl) (by rfl) ho3 hz3 hs3 (by rw [le_len]; omega) (by rw [le_len]; omega) ?_; intro v4 w4 hown4 hgr4 hat4)
  have ho4 : OwnB w4 w.heap.size v4 (le n 2 ++ xs) := by
    unfold OwnB
    rw [List.length_append, List.map_append, hlen]
    exact hown4
  have hB4 := hB3.grown hgr4 hB3.size (fun k hk => (ho3.lt k hk).1)
  go_wp2
  go_ret
  exact ⟨_, rfl, ho4, hB4⟩

def lenV : Value → Nat
  | .slice _ n _ => n
  | _ => 0

set_option maxRecDepth 100000 in
set_option maxHeartbeats 4000000 in
theorem rlay_any (K E S a f : Nat) (F : Int) (A : Option Addr) (n c : Nat) (xs : List Int) (w : World) (hz : Nums w .u8 A n xs) (hK : K ≤ 255) (hE : E ≤ 18446744073709551615) (hS : S ≤ 18446744073709551615) (ha : a ≤ 65535) (hf : f ≤ 255) (hF : F = (f : Int) - 1) (hn : n ≤ 64) :
    Calls Try.prog 18 #[.agg #[.int .u8 (K : Int), .int .u64 (E : Int), .int .u64 (S : Int), .int .i64 (a : Int), .int .i64 F, .slice A n c]] w fun e w' => ∃ v, e = .returned v ∧ OwnB w' w.heap.size v (page K E S a f xs) ∧ Below w.heap.size w w' := by
  have hl := hz.len
  have h64 : xs.length ≤ 64 := by omega
  have hx := isB_of hz
  have hw1 : IntKind.i64.wrap (F + 1) = (f : Int) := by
    rw [hF, show (f : Int) - 1 + 1 = (f : Int) by omega]
    exact IntWalk.i64_in _ (by omega)
  have Hw1 := hid hw1
  clear hw1
  go_enter Try.func18, Try.ntmps18
  go_upto_region 1 with (fail)
  rw [← hF]
  clear hF
  obtain ⟨w1, hw1⟩ : ∃ w1, w1 = w.alloc (.cells #[.int .u8 (K : Int), .int .u64 (E : Int), .int .u64 (S : Int), .int .i64 (a : Int), .int .i64 F, .slice A n c] 30) := ⟨_, rfl⟩
  have hb1 : Blk w1 w.heap.size #[.int .u8 (K : Int), .int .u64 (E : Int), .int .u64 (S : Int), .int .i64 (a : Int), .int .i64 F, .slice A n c] 30 := by rw [hw1]; exact Blk.new _ _ _
  have hB1 : Below w.heap.size w w1 := by rw [hw1]; exact (Below.refl _ _).alloc (Nat.le_refl _) _
  rw [← hw1]
  clear hw1
  obtain ⟨⟨c0, c1, c2, c3, c4, c5⟩, -⟩ := hb1.six
  have Hb1 := hid hb1
  have HB1 := hid hB1
  have Hz := hid hz
  clear hb1 hB1 hz
  go_upto_region 2 with (fail)
  generalize hv : Value.slice (some ⟨w1.heap.size, 0, none⟩) 1 1 = v2
  obtain ⟨w2, hw2⟩ : ∃ w2, w2 = w1.alloc (.cells #[.int .u8 (K : Int)] 5) := ⟨_, rfl⟩
  have ek : [(K : Int)] = le K 1 := by simp [le]; omega
  have ho2 : OwnB w2 w.heap.size v2 (le K 1) := by rw [hw2, ← hv, ← ek]; exact own_one w1 w.heap.size (K : Int) HB1.out.size
  have hb2 : Blk w2 w.heap.size #[.int .u8 (K : Int), .int .u64 (E : Int), .int .u64 (S : Int), .int .i64 (a : Int), .int .i64 F, .slice A n c] 30 := by rw [hw2]; exact Hb1.out.alloc _
  have hB2 : Below w.heap.size w w2 := by rw [hw2]; exact HB1.out.alloc HB1.out.size _
  rw [← hw2]
  clear hw2 hv ek c0 c1 c2 c3 c4 c5 HB1 Hb1
  obtain ⟨⟨c0, c1, c2, c3, c4, c5⟩, -⟩ := hb2.six
  go_wp2_with fail
  refine (rput_any E 6 _ hE (by decide)).mono ?_
  rintro e w3 ⟨u3, rfl, hp, hBp⟩
  obtain ⟨Ap, cp, ep, hcp, hzp⟩ := hp.reads (le_isB _ _)
  have hlp : (le E 6).length = 6 := by simp only [List.length_append, le_len]
  rw [hlp] at ep hcp hzp
  subst ep
  have ho3 := ho2.later hBp
  have hb3 := hb2.later hBp
  have hB3 := hB2.trans (hBp.mono hB2.size)
  clear c0 c1 c2 c3 c4 c5 hp hBp ho2 hb2 hB2
  go_upto_region 3 with (at_builtin; refine append_nums w.heap.size rfl _ _ 23 5 .u8 1 rfl Try.underlying23 info5 _ _ _ Ap 6 cp (le E 6) (by rfl) (by rfl) ho3 hzp hB3.size (by simp only [List.length_append, le_len]; omega) (by simp only [List.length_append, le_len]; omega) ?_; intro v4 w4 hown4 hgr4 hat4)
  have ho4 : OwnB w4 w.heap.size v4 (le K 1 ++ le E 6) := by
    unfold OwnB
    rw [List.length_append, List.map_append, hlp]
    exact hown4
  have hb4 := hb3.grown hgr4 (own_ne ho3 hb3 (by decide))
  have hB4 := hB3.grown hgr4 hB3.size (fun k hk => (ho3.lt k hk).1)
  clear ho3 hb3 hB3 hown4 hgr4 hat4 hlp hzp hcp
  obtain ⟨⟨c0, c1, c2, c3, c4, c5⟩, -⟩ := hb4.six
  go_wp2_with fail
  refine (rput_any S 6 _ hS (by decide)).mono ?_
  rintro e w5 ⟨u5, rfl, hp, hBp⟩
  obtain ⟨Ap, cp, ep, hcp, hzp⟩ := hp.reads (le_isB _ _)
  have hlp : (le S 6).length = 6 := by simp only [List.length_append, le_len]
  rw [hlp] at ep hcp hzp
  subst ep
  have ho5 := ho4.later hBp
  have hb5 := hb4.later hBp
  have hB5 := hB4.trans (hBp.mono hB4.size)
  clear c0 c1 c2 c3 c4 c5 hp hBp ho4 hb4 hB4
  go_upto_region 4 with (at_builtin; refine append_nums w.heap.size rfl _ _ 23 5 .u8 1 rfl Try.underlying23 info5 _ _ _ Ap 6 cp (le S 6) (by rfl) (by rfl) ho5 hzp hB5.size (by simp only [List.length_append, le_len]; omega) (by simp only [List.length_append, le_len]; omega) ?_; intro v6 w6 hown6 hgr6 hat6)
  have ho6 : OwnB w6 w.heap.size v6 (le K 1 ++ le E 6 ++ le S 6) := by
    unfold OwnB
    rw [List.length_append, List.map_append, hlp]
    exact hown6
  have hb6 := hb5.grown hgr6 (own_ne ho5 hb5 (by decide))
  have hB6 := hB5.grown hgr6 hB5.size (fun k hk => (ho5.lt k hk).1)
  clear ho5 hb5 hB5 hown6 hgr6 hat6 hlp hzp hcp
  obtain ⟨⟨c0, c1, c2, c3, c4, c5⟩, -⟩ := hb6.six
  have hwa : IntKind.u64.wrap (a : Int) = (a : Int) := IntWalk.u64_in _ (by omega)
  go_wp2_with fail
  clear hwa
  refine (rput_any a 2 _ (by omega) (by decide)).mono ?_
  rintro e w7 ⟨u7, rfl, hp, hBp⟩
  obtain ⟨Ap, cp, ep, hcp, hzp⟩ := hp.reads (le_isB _ _)
  have hlp : (le a 2).length = 2 := by simp only [List.length_append, le_len]
  rw [hlp] at ep hcp hzp
  subst ep
  have ho7 := ho6.later hBp
  have hb7 := hb6.later hBp
  have hB7 := hB6.trans (hBp.mono hB6.size)
  clear c0 c1 c2 c3 c4 c5 hp hBp ho6 hb6 hB6
  go_upto_region 5 with (at_builtin; refine append_nums w.heap.size rfl _ _ 23 5 .u8 1 rfl Try.underlying23 info5 _ _ _ Ap 2 cp (le a 2) (by rfl) (by rfl) ho7 hzp hB7.size (by simp only [List.length_append, le_len]; omega) (by simp only [List.length_append, le_len]; omega) ?_; intro v8 w8 hown8 hgr8 hat8)
  have ho8 : OwnB w8 w.heap.size v8 (le K 1 ++ le E 6 ++ le S 6 ++ le a 2) := by
    unfold OwnB
    rw [List.length_append, List.map_append, hlp]
    exact hown8
  have hb8 := hb7.grown hgr8 (own_ne ho7 hb7 (by decide))
  have hB8 := hB7.grown hgr8 hB7.size (fun k hk => (ho7.lt k hk).1)
  clear ho7 hb7 hB7 hown8 hgr8 hat8 hlp hzp hcp
  obtain ⟨⟨c0, c1, c2, c3, c4, c5⟩, -⟩ := hb8.six
  have hw1 := Hw1.out
  have hw8 : IntKind.u8.wrap (f : Int) = (f : Int) := IntWalk.u8_in _ (by omega)
  go_upto_region 6 with (at_builtin; refine append_one w.heap.size rfl _ _ 23 5 (.int .u8 0) 1 rfl Try.underlying23 info5 rfl _ _ _ (.int .u8 (f : Int)) (by rfl) (by rfl) rfl ho8 hB8.size (by simp only [List.length_append, le_len]; omega) (by simp only [List.length_append, le_len]; omega) ?_; intro v9 w9 hown9 hgr9 hat9)
  clear hw1 hw8
  have ef : [(f : Int)] = le f 1 := by simp [le]; omega
  have ho9 : OwnB w9 w.heap.size v9 (le K 1 ++ le E 6 ++ le S 6 ++ le a 2 ++ le f 1) := by
    rw [← ef]
    exact OwnB.snoc hown9
  have hb9 := hb8.grown hgr9 (own_ne ho8 hb8 (by decide))
  have hB9 := hB8.grown hgr9 hB8.size (fun k hk => (ho8.lt k hk).1)
  clear c0 c1 c2 c3 c4 c5 ef ho8 hb8 hB8 hown9 hgr9 hat9
  obtain ⟨⟨c0, c1, c2, c3, c4, c5⟩, -⟩ := hb9.six
  go_wp2_with fail
  have hzk := Hz.out.below hB9
  refine (rbytesP_any A n c xs _ hzk (by omega)).mono ?_
  rintro e w10 ⟨u10, rfl, hp, hBp⟩
  obtain ⟨Ap, cp, ep, hcp, hzp⟩ := hp.reads (isB_append (le_isB _ _) hx)
  have hlp : ((le n 2 ++ xs)).length = (2 + n) := by simp only [List.length_append, le_len]; try omega
  rw [hlp] at ep hcp hzp
  subst ep
  have ho10 := ho9.later hBp
  have hb10 := hb9.later hBp
  have hB10 := hB9.trans (hBp.mono hB9.size)
  clear c0 c1 c2 c3 c4 c5 hp hBp ho9 hb9 hB9
  go_wp2_with (at_builtin; refine append_nums w.heap.size rfl _ _ 23 5 .u8 1 rfl Try.underlying23 info5 _ _ _ Ap (2 + n) cp (le n 2 ++ xs) (by rfl) (by rfl) ho10 hzp hB10.size (by simp only [List.length_append, le_len]; omega) (by simp only [List.length_append, le_len]; omega) ?_; intro v11 w11 hown11 hgr11 hat11)
  have ho11 : OwnB w11 w.heap.size v11 (le K 1 ++ le E 6 ++ le S 6 ++ le a 2 ++ le f 1 ++ (le n 2 ++ xs)) := by
    unfold OwnB
    rw [List.length_append, List.map_append, hlp]
    exact hown11
  have hb11 := hb10.grown hgr11 (own_ne ho10 hb10 (by decide))
  have hB11 := hB10.grown hgr11 hB10.size (fun k hk => (ho10.lt k hk).1)
  clear ho10 hb10 hB10 hown11 hgr11 hat11 hlp hzp hcp
  have eh : le K 1 ++ le E 6 ++ le S 6 ++ le a 2 ++ le f 1 ++ (le n 2 ++ xs) = head K E S a f xs := by unfold head; rw [hl]
  rw [eh] at ho11
  have hhl := head_len K E S a f xs
  have hhB := head_isB K E S a f hx
  have Hbody := hid (show body K E S a f xs = head K E S a f xs ++ List.replicate (73 - xs.length) 0 from rfl)
  have Hbl := hid (body_len K E S a f xs h64)
  have HbB := hid (body_isB K E S a f hx)
  have Hpage := hid (show page K E S a f xs = (body K E S a f xs ++ le (sum (body K E S a f xs)) 4) ++ [90] from rfl)
  clear eh hb11
  generalize head K E S a f xs = hd at *
  generalize body K E S a f xs = bd at *
  generalize hpg : page K E S a f xs = pg at *
  have Hpg := hid hpg
  clear hpg
  have hrB : ∀ j, IsB (hd ++ List.replicate j (0 : Int)) := fun j => isB_append hhB (fun x hx => by rw [List.eq_of_mem_replicate hx]; omega)
  have hrl : ∀ j, (hd ++ List.replicate j (0 : Int)).length = 18 + n + j := fun j => by rw [List.length_append, List.length_replicate, hhl, hl]
  go_wp2
  go_loopw [3] (fun p w' => ∃ (j : Nat), j ≤ 73 - n ∧ (∃ A5 c5, p = .slice A5 (18 + n + j) c5) ∧ OwnB w' w.heap.size p (hd ++ List.replicate j 0) ∧ Below w.heap.size w w') (fun p _ => 91 - lenV p)
  case atStart =>
    obtain ⟨A5, c5, e5, -, -⟩ := ho11.reads hhB
    rw [hhl, hl] at e5
    exact ⟨0, by omega, ⟨A5, c5, e5⟩, by simpa using ho11, hB11⟩
  case round =>
    obtain ⟨j, hj, ⟨A5, c5, rfl⟩, hw, hB⟩ := hrel
    by_cases hlt : j < 73 - n
    · go_wp2_with (at_builtin; refine append_one w.heap.size rfl _ _ 23 5 (.int .u8 0) 1 rfl Try.underlying23 info5 rfl _ _ _ (.int .u8 0) (by rfl) (by rfl) rfl hw hB.size (by rw [hrl]; omega) (by rw [hrl]; omega) ?_; intro v1 w2 hown2 hgr hat)
      have hw2 : OwnB w2 w.heap.size v1 (hd ++ List.replicate (j + 1) 0) := by
        rw [List.replicate_succ', ← List.append_assoc]
        exact OwnB.snoc hown2
      have hB2 := hB.grown hgr hB.size (fun k hk => (hw.lt k hk).1)
      obtain ⟨A6, c6, e6, -, -⟩ := hw2.reads (hrB _)
      rw [hrl] at e6
      subst e6
      clear hown2 hgr hat hw hB
      go_wp2
      go_roundw
      case rel => exact ⟨j + 1, by omega, ⟨_, _, by rfl⟩, hw2, hB2⟩
      case measure => simp only [lenV]; omega
    · obtain rfl : j = 73 - n := by omega
      have e91 : 18 + n + (73 - n) = 91 := by omega
      rw [← hl, ← Hbody.out, hl, e91] at hw
      rw [e91]
      have hzb := (hw.reads HbB.out)
      rw [Hbl.out] at hzb
      obtain ⟨A7, c7, e7, -, hz7⟩ := hzb
      injection e7 with e7 _ e8
      subst e7 e8
      have hsB := hB.size
      go_wp2_with fail
      refine (rseal_any A5 91 c5 bd _ hz7 (by decide)).mono ?_
      rintro e w8 ⟨v8, rfl, ho8, hB8⟩
      have hB8' := hB.trans (hB8.mono hsB)
      have ho8' := ho8.mono hsB
      have h95 : (bd ++ le (sum bd) 4).length = 95 := by rw [List.length_append, Hbl.out, le_len]
      clear ho8 hB8 hz7 hw
      go_wp2_with (at_builtin; refine append_one w.heap.size rfl _ _ 23 5 (.int .u8 0) 1 rfl Try.underlying23 info5 rfl _ _ _ (.int .u8 90) (by rfl) (by rfl) rfl ho8' hB8'.size (by omega) (by omega) ?_; intro v9 w9 hown9 hgr9 hat9)
      have ho9 : OwnB w9 w.heap.size v9 pg := by
        rw [Hpage.out]
        exact OwnB.snoc hown9
      have hB9 : Below w.heap.size w w9 := hB8'.grown hgr9 hB8'.size (fun k hk => (ho8'.lt k hk).1)
      go_wp2
      go_ret
      exact ⟨_, rfl, by rw [Hpg.out]; exact ho9, hB9⟩
end Go.Proofs.Ytpncgfdnilmhhaa.Sheet
