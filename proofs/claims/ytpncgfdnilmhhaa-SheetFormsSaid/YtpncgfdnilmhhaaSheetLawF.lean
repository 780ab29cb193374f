import Derived.Test.YtpncgfdnilmhhaaSheetNear
import Derived.Test.YtpncgfdnilmhhaaSheetAwake
import Derived.Test.YtpncgfdnilmhhaaSheetSame
set_option linter.unusedVariables false
set_option linter.unusedSimpArgs false
namespace Go.Proofs.Ytpncgfdnilmhhaa.Sheet
open Go.RowKit Go.Proofs.Ytpncgfdnilmhhaa.Kit Go.Proofs.Ytpncgfdnilmhhaa.Oct

theorem nat_form {K E S a f : Nat} {n : Nat} {ys : List Int} (h : formN K E S a f ys) (hn : ys.length = n) : formP (K : Int) (E : Int) (S : Int) (a : Int) ((f : Int) - 1) n := by
  unfold formN at h
  unfold formP
  omega

set_option maxRecDepth 100000 in
set_option maxHeartbeats 4000000 in
theorem law_forms (K E S a F : Int) (A : Option Addr) (n c : Nat) (xs : List Int) (w : World) (hK : 0 ≤ K ∧ K ≤ 255) (hE : 0 ≤ E ∧ E ≤ 18446744073709551615) (hS : 0 ≤ S ∧ S ≤ 18446744073709551615) (hz : Nums w .u8 A n xs) :
    Calls Try.prog 4 #[.agg #[.int .u8 K, .int .u64 E, .int .u64 S, .int .i64 a, .int .i64 F, .slice A n c]] w fun e w' => e = .returned (.bool true) ∧ Below w.heap.size w w' := by
  have hn := hz.most
  have G1 : ∀ W, Calls Try.prog 15 #[.agg #[.int .u8 K, .int .u64 E, .int .u64 S, .int .i64 a, .int .i64 F, .slice A n c]] W fun e w' => e = .returned (.bool (decide (formP K E S a F n))) ∧ Below W.heap.size W w' := fun W => form_any K E S a F A n c W hn
  have G2 : ∀ W, Calls Try.prog 16 #[.agg #[.int .u8 K, .int .u64 E, .int .u64 S, .int .i64 a, .int .i64 F, .slice A n c]] W fun e w' => e = .returned (.bool (decide (formP K E S a F n))) ∧ Below W.heap.size W w' := fun W => rform_any K E S a F A n c W hn
  have G3 := fun W => of_any K E S a F A n c W
  have G4 := fun W (h : Nums W .u8 A n xs) => near_any K E S a F A n c xs W hK hE hS h
  generalize decide (formP K E S a F n) = bf at G1 G2
  clear hK hE hS
  go_enter Try.func4, Try.ntmps4
  go_upto_region 1 with (fail)
  obtain ⟨w2, hw2⟩ : ∃ w2, w2 = w.alloc (.cells #[.int .u8 K, .int .u64 E, .int .u64 S, .int .i64 a, .int .i64 F, .slice A n c] 25) := ⟨_, rfl⟩
  have hb : Blk w2 w.heap.size #[.int .u8 K, .int .u64 E, .int .u64 S, .int .i64 a, .int .i64 F, .slice A n c] 25 := by rw [hw2]; exact Blk.new _ _ _
  have hB : Below w.heap.size w w2 := by rw [hw2]; exact (Below.refl _ _).alloc (Nat.le_refl _) _
  rw [← hw2]
  clear hw2
  have Hz2 := hid (hz.below hB)
  have hC := fun W (h : Below w2.heap.size w2 W) => (hb.later h).six.1
  have HC := hid hC
  have HB := hid hB
  have hBd : Below w2.heap.size w2 (w2.drewN 1) := below_drewN (Below.refl _ _) 1
  clear hC hB hb hz
  cases bf
  all_goals
    go_region_held3 (fun w' => w'.cell? ⟨w.heap.size, 0, none⟩ = some (.int .u8 K) ∧ w'.cell? ⟨w.heap.size, 1, none⟩ = some (.int .u64 E) ∧ w'.cell? ⟨w.heap.size, 2, none⟩ = some (.int .u64 S) ∧ w'.cell? ⟨w.heap.size, 3, none⟩ = some (.int .i64 a) ∧ w'.cell? ⟨w.heap.size, 4, none⟩ = some (.int .i64 F) ∧ w'.cell? ⟨w.heap.size, 5, none⟩ = some (.slice A n c))
      (first | exact HC.out _ hB8 | exact HC.out _ hB7 | exact HC.out _ hB6 | exact HC.out _ hB5 | exact HC.out _ hB4 | exact HC.out _ hB3 | exact HC.out _ hBd)
      (first
       | (((with_reducible refine (form_any (K1 : Int) (E1 : Int) (S1 : Int) (a1 : Int) ((f1 : Int) - 1) A1 n1 c1 _ hn1).mono ?_); rintro e w8 ⟨rfl, hB8'⟩; rw [hdec]; have hB8 := hB7.trans (hB8'.mono hB7.size)))
       | (((with_reducible refine (G4 _ ?hz).mono ?_); (case hz => exact Hz2.out.below hB6); rintro e w7 ⟨K1, E1, S1, a1, f1, A1, n1, c1, ys1, rfl, hfN, hz7, hB7'⟩; have hB7 := hB6.trans (hB7'.mono hB6.size); have hn1 := hz7.most; have hdec := decide_eq_true (nat_form hfN hz7.len)))
       | (((with_reducible refine (G2 _).mono ?_); rintro e w6 ⟨rfl, hB6'⟩; have hB6 := hB5.trans (hB6'.mono hB5.size)))
       | (((with_reducible refine (G3 _).mono ?_); rintro e w5 ⟨rfl, hB5'⟩; have hB5 := hB4.trans (hB5'.mono hB4.size)))
       | (((with_reducible refine (G1 _).mono ?_); rintro e w4 ⟨rfl, hB4'⟩; have hB4 := hB3.trans (hB4'.mono hB3.size)))
       | (((with_reducible refine (awake_any _).mono ?_); rintro e w3 ⟨rfl, hB3'⟩; have hB3 := hBd.trans hB3')))
    clear G1 G2 G3 G4
    go_wp2
    go_ret
    exact ⟨rfl, HB.out.trans (hB8.mono HB.out.size)⟩
end Go.Proofs.Ytpncgfdnilmhhaa.Sheet
