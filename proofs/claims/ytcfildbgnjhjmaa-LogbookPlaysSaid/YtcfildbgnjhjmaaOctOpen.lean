import Derived.Test.YtcfildbgnjhjmaaOctMore
set_option linter.unusedVariables false
set_option linter.unusedSimpArgs false
namespace Go.Proofs.Ytcfildbgnjhjmaa.Oct
open Go.RowKit Go.Proofs.Ytcfildbgnjhjmaa.Kit

theorem open_few (A : Option Addr) (n c : Nat) (w : World) (h4 : n < 4) :
    Calls Try.prog 86 #[.slice A n c] w fun e w' => e = .returned (.tuple #[.slice none 0 0, .int .i64 3]) ∧ w' = w := by
  have h2 : decide ((n : Int) - 4 < 0) = true := decide_eq_true (by omega)
  go_enter Try.func86, Try.ntmps86
  go_wp2
  go_ret2
  exact ⟨rfl, rfl⟩

set_option maxHeartbeats 400000 in
theorem open_any (A : Option Addr) (m n c : Nat) (xs : List Int) (w : World) (hz : Nums w .u8 A n xs) (hnc : n ≤ c) (hl : n ≤ 1000000) (hm : n = m + 4) :
    Calls Try.prog 86 #[.slice A n c] w fun e w' => Below w.heap.size w w' ∧
      ((num (xs.drop m) ≠ sum (xs.take m) ∧ e = .returned (.tuple #[.slice none 0 0, .int .i64 4])) ∨
       (num (xs.drop m) = sum (xs.take m) ∧ ∃ v', e = .returned (.tuple #[v', .int .i64 0]) ∧ OwnB w' w.heap.size v' (xs.take m))) := by
  have h1 : IntKind.i64.wrap ((n : Int) - 4) = (m : Int) := by rw [show (n : Int) - 4 = (m : Int) by omega]; exact IntWalk.i64_in _ (by omega)
  have h2 : decide ((m : Int) < 0) = false := decide_eq_false (by omega)
  have h3 : (0 : Int) ≤ (m : Int) := by omega
  have h4 : (m : Int) ≤ (n : Int) := by omega
  have h5 : (m : Int) ≤ (c : Int) := by omega
  have h6 : ((m : Int)).toNat = m := by omega
  have h7 : n - m = 4 := by omega
  have h8 := hz.most
  have hn1 := hz.drop hnc m (by omega)
  rw [h7] at hn1
  have hn2 := hz.take m (by omega)
  have Hm := hid hm
  clear hm
  have hs := sum_lt (isB_of hn2)
  generalize hx : (if c = m then A else Option.map (fun x => x.add m) A) = A2 at *
  have hx2 : (if c = m then A else Option.map (fun x => x.add (m * 1)) A) = A2 := by rw [← hx, Nat.mul_one]
  generalize hsx : sum (xs.take m) = s at *
  generalize hnx : num (xs.drop m) = t at *
  have G1 : ∀ q, Calls Try.prog 95 #[.slice A2 4 (c - m)] (w.drewN q) fun e w' => e = .returned (.int .u64 (t : Int)) ∧ w' = w.drewN q := fun q => by
    rw [← hnx]; exact get_any A2 4 (c - m) _ _ (hn1.drewN q) (by omega)
  have G2 : ∀ q, Calls Try.prog 71 #[.slice A m c] (w.drewN q) fun e w' => e = .returned (.int .u32 (s : Int)) ∧ w' = w.drewN q := fun q => by
    rw [← hsx]; exact sum_any A m c _ _ (hn2.drewN q)
  have Hsx := hid hsx
  have Hnx := hid hnx
  clear hsx hnx
  have hs2 : (s : Int) ≤ 18446744073709551615 := by omega
  have hs3 : (0 : Int) ≤ (s : Int) := by omega
  have hwu : IntKind.u64.wrap (s : Int) = (s : Int) := IntWalk.u64_in _ (by omega)
  clear hx2 hs hz hn1
  by_cases hts : t = s
  · subst hts
    have hbb : ((t : Int) != (t : Int)) = false := by simp
    go_enter Try.func86, Try.ntmps86
    go_wp2
    go_quiet ((first | (go_at_call 95; with_reducible exact Calls.quiet_of_same (G1 _)) | (go_at_call 71; with_reducible exact Calls.quiet_of_same (G2 _))))
    clear G1 G2 h1 hwu
    go_wp2_with fail
    refine (clone_any A m c _ _ (hn2.drewN _) (by omega)).mono ?_
    rintro e w1 ⟨v1, rfl, ho1, hB1⟩
    go_wp2
    go_ret2
    exact ⟨below_step (below_drewN (Below.refl _ _) _) (Nat.le_refl _) hB1, .inr ⟨trivial, _, rfl, ho1⟩⟩
  · have hbb : ((t : Int) != (s : Int)) = true := bne_iff_ne.2 fun e => hts (Int.ofNat.inj e)
    go_enter Try.func86, Try.ntmps86
    go_wp2
    go_quiet ((first | (go_at_call 95; with_reducible exact Calls.quiet_of_same (G1 _)) | (go_at_call 71; with_reducible exact Calls.quiet_of_same (G2 _))))
    clear G1 G2 h1 hwu
    go_wp2
    go_ret2
    exact ⟨below_drewN (Below.refl _ _) _, .inl ⟨hts, rfl⟩⟩
end Go.Proofs.Ytcfildbgnjhjmaa.Oct
