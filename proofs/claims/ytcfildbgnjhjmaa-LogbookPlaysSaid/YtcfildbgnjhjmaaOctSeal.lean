import Derived.Test.YtcfildbgnjhjmaaOctRef
import Derived.Deep.Cut
set_option linter.unusedVariables false
set_option linter.unusedSimpArgs false
namespace Go.Proofs.Ytcfildbgnjhjmaa.Oct
open Go.RowKit Go.Proofs.Ytcfildbgnjhjmaa.Kit

set_option maxHeartbeats 400000 in
theorem rseal_any (A : Option Addr) (n c : Nat) (xs : List Int) (w : World) (hz : Nums w .u8 A n xs) (hl : n ≤ 100000) :
    Calls Try.prog 78 #[.slice A n c] w fun e w' => ∃ v', e = .returned v' ∧ OwnB w' w.heap.size v' (xs ++ le (sum xs) 4) ∧ Below w.heap.size w w' := by
  have Hx := hid (isB_of hz)
  have hsl := sum_lt (isB_of hz)
  have hlen := hz.len
  go_enter Try.func78, Try.ntmps78
  go_wp2_with (at_builtin; refine append_nums w.heap.size rfl _ _ 39 5 .u8 1 rfl Try.underlying39 info5 _ 0 [] A n c xs (by rfl) (by rfl) (World.ownsRow_nil _ _ _ _) hz (Nat.le_refl _) (by omega) (by omega) ?_; intro v1 w1 hown hgr hat)
  have ho1 : OwnB w1 w.heap.size v1 xs := by
    unfold OwnB
    rw [hlen]
    rw [List.nil_append, Nat.zero_add] at hown
    exact hown
  have hB1 : Below w.heap.size w w1 := (Below.refl _ _).grown hgr (Nat.le_refl _) (by intro k hk; simp [Value.ownBlock] at hk)
  have hz1 := hz.below hB1
  clear hown hgr hat
  go_wp2_with fail
  refine (rsum_any A n c xs w1 hz1).mono ?_
  rintro e w2 ⟨rfl, rfl⟩
  generalize hsx : sum xs = s at *
  have Hsx := hid hsx
  clear hsx
  have hs : (s : Int) ≤ 4294967295 := by omega
  go_wp2_with fail
  refine (rput_any s 4 _ (by omega) (by omega)).mono ?_
  rintro e w3 ⟨v3, rfl, ho3, hB3⟩
  obtain ⟨A3, c3, rfl, hc3, hz3⟩ := ho3.reads (le_isB _ _)
  rw [le_len] at hz3 ⊢
  have ho1' := ho1.later hB3
  have hs3 : w.heap.size ≤ w3.heap.size := Nat.le_trans hB1.size hB3.size
  have hB3' := below_step hB1 hB1.size hB3
  go_wp2_with (at_builtin; refine append_nums w.heap.size rfl _ _ 39 5 .u8 1 rfl Try.underlying39 info5 _ _ _ A3 4 c3 (le s 4) (by rfl) (by rfl) ho1' hz3 hs3 (by omega) (by omega) ?_; intro v4 w4 hown4 hgr4 hat4)
  have ho4 : OwnB w4 w.heap.size v4 (xs ++ le s 4) := by
    unfold OwnB
    rw [List.length_append, le_len, List.map_append]
    exact hown4
  have hB4 := hB3'.grown hgr4 hB3'.size (fun k hk => (ho1.lt k hk).1)
  go_wp2
  go_ret
  exact ⟨_, rfl, by rw [Hsx.out]; exact ho4, hB4⟩

theorem ropen_few (A : Option Addr) (n c : Nat) (w : World) (h4 : n < 4) :
    Calls Try.prog 82 #[.slice A n c] w fun e w' => e = .returned (.tuple #[.slice none 0 0, .int .i64 3]) ∧ w' = w := by
  have h2 : (n : Int) < 4 := by omega
  go_enter Try.func82, Try.ntmps82
  go_wp2
  go_ret2
  exact ⟨rfl, rfl⟩

set_option maxHeartbeats 1000000 in
theorem ropen_any (A : Option Addr) (m n c : Nat) (xs : List Int) (w : World) (hz : Nums w .u8 A n xs) (hnc : n ≤ c) (hl : n ≤ 1000000) (hm : n = m + 4) :
    Calls Try.prog 82 #[.slice A n c] w fun e w' => Below w.heap.size w w' ∧
      ((num (xs.drop m) ≠ sum (xs.take m) ∧ e = .returned (.tuple #[.slice none 0 0, .int .i64 4])) ∨
       (num (xs.drop m) = sum (xs.take m) ∧ e = .returned (.tuple #[.slice A m c, .int .i64 0]))) := by
  have h1 : IntKind.i64.wrap ((n : Int) - 4) = (m : Int) := by rw [show (n : Int) - 4 = (m : Int) by omega]; exact IntWalk.i64_in _ (by omega)
  have h2 : decide ((n : Int) < 4) = false := decide_eq_false (by omega)
  have h3 : (0 : Int) ≤ (m : Int) := by omega
  have h4 : (m : Int) ≤ (n : Int) := by omega
  have h5 : (m : Int) ≤ (c : Int) := by omega
  have h6 : ((m : Int)).toNat = m := by omega
  have h7 : n - m = 4 := by omega
  have h8 := hz.most
  have hn1 := hz.drop hnc m (by omega)
  rw [h7] at hn1
  have hn2 := hz.take m (by omega)
  have Hm := hid hm
  clear hm
  have hdl := hn1.len
  have hds := isB_of hn1
  have hs := sum_lt (isB_of hn2)
  generalize hx : (if c = m then A else Option.map (fun x => x.add m) A) = A2 at *
  have hcv : ∀ W, Below w.heap.size w W → (convert 39 9 (.slice A2 4 (c - m))).run Try.prog W = .ok (.string (strOfNums (xs.drop m))) W := fun W hB => conv_str (hn1.below hB)
  generalize hsx : sum (xs.take m) = s at *
  have G2 : ∀ W, Below w.heap.size w W → Calls Try.prog 94 #[.slice A m c] W fun e w' => e = .returned (.int .u32 (s : Int)) ∧ w' = W := fun W hB => by
    rw [← hsx]; exact rsum_any A m c _ _ (hn2.below hB)
  have heq : num (xs.drop m) = s ↔ le s 4 = xs.drop m := by
    constructor
    · intro h
      rw [← h, ← hdl]
      exact le_num _ hds
    · intro h
      rw [← h, num_le, Nat.mod_eq_of_lt hs]
  have hse := str_eq (le_isB s 4) hds
  have G3 : ∀ W, Calls Try.prog 76 #[.int .u64 (s : Int), .int .i64 4] W fun e w' => ∃ v', e = .returned v' ∧ OwnB w' W.heap.size v' (le s 4) ∧ Below W.heap.size W w' := fun W => rput_any s 4 W (by omega) (by omega)
  have hwu : IntKind.u64.wrap (s : Int) = (s : Int) := IntWalk.u64_in _ (by omega)
  clear hsx hz hn1 hn2 hds hdl
  generalize xs.drop m = ds at *
  go_enter Try.func82, Try.ntmps82
  go_wp2
  have hcv0 := hcv _ (below_drewN (Below.refl _ _) 1)
  have hcv0' : (convert 39 9 (.slice A2 4 (c - m))).run Try.prog w.drew = .ok (.string (strOfNums ds)) w.drew := hcv0
  go_region_with (first
     | (((go_at_call 76); (with_reducible refine (G3 _).mono ?_); rintro e w7 ⟨v7, rfl, ho7, hB7'⟩; have hB7 := below_step (below_drewN (Below.refl w.heap.size w) 1) (Nat.le_refl _) hB7'; obtain ⟨A7, c7, e7, hc7, hz7⟩ := ho7.reads (le_isB _ _); rw [le_len] at e7 hz7; subst e7; have hcv7 := conv_str (c := c7) hz7; have hcv8 := hcv _ hB7))
     | (((go_at_call 94); (with_reducible refine (G2 _ ?hz).mono ?_); (case hz => exact below_drewN (Below.refl _ _) 1); rintro e w6 ⟨rfl, rfl⟩)))
  all_goals
    clear hcv hwu h1 G2 G3 hcv0 hcv0' hcv7 hcv8
    by_cases hd : le s 4 = ds
    · have hdd : decide (le s 4 = ds) = true := decide_eq_true hd
      simp only [hdd]
      have Hd := hid (heq.2 hd)
      clear hd heq hse hdd
      go_wp2
      go_ret2
      exact ⟨hB7, .inr ⟨Hd.out, rfl⟩⟩
    · have hdd : decide (le s 4 = ds) = false := decide_eq_false hd
      simp only [hdd]
      have Hd := hid (fun h => hd (heq.1 h))
      clear hd heq hse hdd
      go_wp2
      go_ret2
      exact ⟨hB7, .inl ⟨Hd.out, rfl⟩⟩

/-- What sealed bytes open to. -/
def opN (xs : List Int) : Int := if xs.length < 4 then 3 else if num (xs.drop (xs.length - 4)) = sum (xs.take (xs.length - 4)) then 0 else 4
def opB (xs : List Int) : List Int := if xs.length < 4 then [] else if num (xs.drop (xs.length - 4)) = sum (xs.take (xs.length - 4)) then xs.take (xs.length - 4) else []

theorem open_q (A : Option Addr) (n c : Nat) (xs : List Int) (w : World) (hz : Nums w .u8 A n xs) (hnc : n ≤ c) (hl : n ≤ 1000000) :
    Calls Try.prog 86 #[.slice A n c] w fun e w' => ∃ C k d, e = .returned (.tuple #[.slice C k d, .int .i64 (opN xs)]) ∧ Nums w' .u8 C k (opB xs) ∧ Below w.heap.size w w' := by
  obtain rfl : n = xs.length := hz.len.symm
  unfold opN opB
  by_cases h4 : xs.length < 4
  · rw [if_pos h4, if_pos h4]
    refine (open_few A xs.length c w h4).mono ?_
    rintro e w' ⟨rfl, rfl⟩
    exact ⟨_, _, _, rfl, Nums.none _ _ _, Below.refl _ _⟩
  · rw [if_neg h4, if_neg h4]
    refine (open_any A (xs.length - 4) xs.length c xs w hz hnc hl (by omega)).mono ?_
    rintro e w' ⟨hB, ⟨h, rfl⟩ | ⟨h, v, rfl, ho⟩⟩
    · rw [if_neg h, if_neg h]
      exact ⟨_, _, _, rfl, Nums.none _ _ _, hB⟩
    · rw [if_pos h, if_pos h]
      obtain ⟨C, d, rfl, _, hz2⟩ := ho.reads (isB_take (isB_of hz) _)
      exact ⟨_, _, _, rfl, hz2, hB⟩

theorem ropen_q (A : Option Addr) (n c : Nat) (xs : List Int) (w : World) (hz : Nums w .u8 A n xs) (hnc : n ≤ c) (hl : n ≤ 1000000) :
    Calls Try.prog 82 #[.slice A n c] w fun e w' => ∃ C k d, e = .returned (.tuple #[.slice C k d, .int .i64 (opN xs)]) ∧ Nums w' .u8 C k (opB xs) ∧ Below w.heap.size w w' := by
  obtain rfl : n = xs.length := hz.len.symm
  unfold opN opB
  by_cases h4 : xs.length < 4
  · rw [if_pos h4, if_pos h4]
    refine (ropen_few A xs.length c w h4).mono ?_
    rintro e w' ⟨rfl, rfl⟩
    exact ⟨_, _, _, rfl, Nums.none _ _ _, Below.refl _ _⟩
  · rw [if_neg h4, if_neg h4]
    refine (ropen_any A (xs.length - 4) xs.length c xs w hz hnc hl (by omega)).mono ?_
    rintro e w' ⟨hB, ⟨h, rfl⟩ | ⟨h, rfl⟩⟩
    · rw [if_neg h, if_neg h]
      exact ⟨_, _, _, rfl, Nums.none _ _ _, hB⟩
    · rw [if_pos h, if_pos h]
      exact ⟨_, _, _, rfl, (hz.take (xs.length - 4) (by omega)).below hB, hB⟩
end Go.Proofs.Ytcfildbgnjhjmaa.Oct
