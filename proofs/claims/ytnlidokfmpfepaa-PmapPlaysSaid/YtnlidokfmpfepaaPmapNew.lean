import Derived.Test.YtnlidokfmpfepaaPmapSet
import Derived.Deep.DeepCutAuto
import Derived.Deep.RegionHeld3
set_option linter.unusedVariables false
set_option linter.unusedSimpArgs false
namespace Go.Proofs.Ytnlidokfmpfepaa.Pmap
open Go.RowKit Go.Proofs.Ytnlidokfmpfepaa.Kit

theorem made_one (v : Value) (n : Nat) : madeCells #[v] n = (List.replicate n v).toArray := by
  apply Array.ext
  · simp [size_madeCells]
  · intro i h1 h2
    simp [madeCells, Nat.mod_one]
theorem flatP_zeros (n : Nat) : flatP (List.replicate n ((0 : Int), (0 : Int))) = List.replicate (n * 2) (.int .i64 0) := by
  induction n with
  | zero => rfl
  | succ n ih =>
    rw [List.replicate_succ, flatP_cons, ih, show (n + 1) * 2 = n * 2 + 1 + 1 by omega, List.replicate_succ, List.replicate_succ]
theorem made_two (n : Nat) : madeCells #[.int .i64 0, .int .i64 0] (n * 2) = (flatP (List.replicate n ((0 : Int), (0 : Int)))).toArray := by
  rw [flatP_zeros]
  apply Array.ext
  · simp [size_madeCells]
  · intro i h1 h2
    have : i % 2 = 0 ∨ i % 2 = 1 := by omega
    rcases this with h | h <;> simp [madeCells, h]

theorem al0 (w : World) (a b c d : Obj) : ((((w.alloc a).alloc b).alloc c).alloc d).heap[w.heap.size]? = some a :=
  (heap_alloc_old _ d (by simp; omega)).trans ((heap_alloc_old _ c (by simp; omega)).trans ((heap_alloc_old _ b (by simp)).trans (heap_alloc_new w a)))
theorem al1 (w : World) (a b c d : Obj) : ((((w.alloc a).alloc b).alloc c).alloc d).heap[w.heap.size + 1]? = some b :=
  (heap_alloc_old _ d (by simp)).trans ((heap_alloc_old _ c (by simp)).trans (by have := heap_alloc_new (w.alloc a) b; simpa using this))
theorem al2 (w : World) (a b c d : Obj) : ((((w.alloc a).alloc b).alloc c).alloc d).heap[w.heap.size + 1 + 1]? = some c :=
  (heap_alloc_old _ d (by simp)).trans (by have := heap_alloc_new ((w.alloc a).alloc b) c; simpa using this)
theorem al3 (w : World) (a b c d : Obj) : ((((w.alloc a).alloc b).alloc c).alloc d).heap[w.heap.size + 1 + 1 + 1]? = some d := by
  have := heap_alloc_new (((w.alloc a).alloc b).alloc c) d
  simpa using this

theorem new_bad (n m : Int) (w : World) (h : ¬ (1 ≤ n ∧ n ≤ 65536 ∧ 1 ≤ m ∧ m ≤ 64)) : Calls Try.prog 12 #[.int .i64 n, .int .i64 m] w fun e w' => e = .returned (.tuple #[.pointer none, .int .i64 1]) ∧ w' = w := by
  have hc : n < 1 ∨ (1 ≤ n ∧ 65536 < n) ∨ (1 ≤ n ∧ n ≤ 65536 ∧ m < 1) ∨ (1 ≤ n ∧ n ≤ 65536 ∧ 1 ≤ m ∧ 64 < m) := by omega
  clear h
  rcases hc with h1 | ⟨h1, h2⟩ | ⟨h1, h2, h3⟩ | ⟨h1, h2, h3, h4⟩
  all_goals
    go_enter Try.func12, Try.ntmps12
    go_wp2
    go_ret2
    exact ⟨rfl, rfl⟩

/-- A new map: nothing is anywhere. -/
def NewM (w w' : World) (N M : Nat) (b ga gh gc : Nat) : Prop :=
  PM w' b ga gh gc N M (List.replicate N (0, 0)) (List.replicate N false) (List.replicate M 0) ∧ Below w.heap.size w w' ∧ w.heap.size ≤ ga ∧ w.heap.size ≤ gh ∧ w.heap.size ≤ gc ∧ w.heap.size ≤ b ∧ ga < w'.heap.size ∧ gh < w'.heap.size ∧ gc < w'.heap.size

theorem newM_of {w : World} {N M ga gh gc : Nat} {o1 o2 o3 : Obj} {z0 z1 z2 : Array Value} (hN : N ≤ 65536) (hM : M ≤ 64) (h0 : (flatP (List.replicate N ((0 : Int), (0 : Int)))).toArray = z0) (h1 : ((List.replicate N false).map Value.bool).toArray = z1) (h2 : ((List.replicate M (0 : Int)).map (Value.int .i64)).toArray = z2)
    (ho : o1 = .cells z0 28 ∨ o1 = .cells z1 4 ∨ o1 = .cells z2 3)
    (ha : ((((w.alloc o1).alloc o2).alloc o3).alloc (.cells #[.slice (some ⟨ga, 0, none⟩) N N, .slice (some ⟨gh, 0, none⟩) N N, .slice (some ⟨gc, 0, none⟩) M M] 69)).heap[ga]? = some (.cells z0 28))
    (hh : ((((w.alloc o1).alloc o2).alloc o3).alloc (.cells #[.slice (some ⟨ga, 0, none⟩) N N, .slice (some ⟨gh, 0, none⟩) N N, .slice (some ⟨gc, 0, none⟩) M M] 69)).heap[gh]? = some (.cells z1 4))
    (hc : ((((w.alloc o1).alloc o2).alloc o3).alloc (.cells #[.slice (some ⟨ga, 0, none⟩) N N, .slice (some ⟨gh, 0, none⟩) N N, .slice (some ⟨gc, 0, none⟩) M M] 69)).heap[gc]? = some (.cells z2 3))
    (r : w.heap.size ≤ ga ∧ w.heap.size ≤ gh ∧ w.heap.size ≤ gc ∧ ga ≤ w.heap.size + 2 ∧ gh ≤ w.heap.size + 2 ∧ gc ≤ w.heap.size + 2 ∧ ga ≠ gh ∧ ga ≠ gc ∧ gh ≠ gc) :
    NewM w ((((w.alloc o1).alloc o2).alloc o3).alloc (.cells #[.slice (some ⟨ga, 0, none⟩) N N, .slice (some ⟨gh, 0, none⟩) N N, .slice (some ⟨gc, 0, none⟩) M M] 69)).drew N M (w.heap.size + 1 + 1 + 1) ga gh gc := by
  obtain ⟨r1, r2, r3, r4, r5, r6, r7, r8, r9⟩ := r
  have hs : ((((w.alloc o1).alloc o2).alloc o3).alloc (.cells #[.slice (some ⟨ga, 0, none⟩) N N, .slice (some ⟨gh, 0, none⟩) N N, .slice (some ⟨gc, 0, none⟩) M M] 69)).drew.heap.size = w.heap.size + 4 := by simp
  have hB : Below w.heap.size w ((((w.alloc o1).alloc o2).alloc o3).alloc (.cells #[.slice (some ⟨ga, 0, none⟩) N N, .slice (some ⟨gh, 0, none⟩) N N, .slice (some ⟨gc, 0, none⟩) M M] 69)).drew :=
    (((((Below.refl _ _).alloc (Nat.le_refl _) _).alloc (by simp) _).alloc (by simp; omega) _).alloc (by simp; omega) _).drewB 1
  refine ⟨⟨al3 w o1 o2 o3 _, by rw [h0]; exact ha, by rw [h1]; exact hh, by rw [h2]; exact hc, by simp, by simp, by simp, ⟨hN, hM⟩, ⟨by omega, by omega, by omega, r7, r8, r9⟩⟩, hB, r1, r2, r3, by omega, by rw [hs]; omega, by rw [hs]; omega, by rw [hs]; omega⟩

set_option maxRecDepth 100000 in
set_option maxHeartbeats 8000000 in
theorem new_any (N M : Nat) (w : World) (hN1 : 1 ≤ N) (hN : N ≤ 65536) (hM1 : 1 ≤ M) (hM : M ≤ 64) :
    Calls Try.prog 12 #[.int .i64 (N : Int), .int .i64 (M : Int)] w fun e w' => ∃ b ga gh gc, e = .returned (.tuple #[.pointer (some ⟨b, 0, none⟩), .int .i64 0]) ∧ NewM w w' N M b ga gh gc := by
  obtain ⟨i0, hi0, hz0⟩ : ∃ i : TypeInfo, Try.prog.info? 28 = some i ∧ i.zero = some (.agg #[.int .i64 0, .int .i64 0]) ∧ i.size = 2 ∧ i.bytes = 16 := ⟨_, rfl, rfl, rfl, rfl⟩
  obtain ⟨i1, hi1, hz1⟩ : ∃ i : TypeInfo, Try.prog.info? 4 = some i ∧ i.zero = some (.bool false) ∧ i.size = 1 ∧ i.bytes = 1 := ⟨_, rfl, rfl, rfl, rfl⟩
  obtain ⟨i2, hi2, hz2⟩ : ∃ i : TypeInfo, Try.prog.info? 3 = some i ∧ i.zero = some (.int .i64 0) ∧ i.size = 1 ∧ i.bytes = 8 := ⟨_, rfl, rfl, rfl, rfl⟩
  have m0 : ∀ W : World, (Instr.makeSlice 52 (.int .i64 (N : Int)) (.int .i64 (N : Int))).run Try.prog W = .ok (.slice (some ⟨W.heap.size, 0, none⟩) N N) (W.alloc (.cells (flatP (List.replicate N ((0 : Int), (0 : Int)))).toArray 28)) := fun W => by
    have := run_make (P := Try.prog) W 52 28 i0 _ Try.underlying52 hi0 hz0.1 .i64 .i64 (N : Int) (N : Int) (by omega) (Int.le_refl _) (by rw [hz0.2.2]; omega) (by omega)
    rw [hz0.2.1, Int.toNat_natCast] at this
    rw [← made_two]
    exact this
  have m1 : ∀ W : World, (Instr.makeSlice 41 (.int .i64 (N : Int)) (.int .i64 (N : Int))).run Try.prog W = .ok (.slice (some ⟨W.heap.size, 0, none⟩) N N) (W.alloc (.cells ((List.replicate N false).map Value.bool).toArray 4)) := fun W => by
    have := run_make (P := Try.prog) W 41 4 i1 _ Try.underlying41 hi1 hz1.1 .i64 .i64 (N : Int) (N : Int) (by omega) (Int.le_refl _) (by rw [hz1.2.2]; omega) (by omega)
    rw [hz1.2.1, Int.toNat_natCast, Nat.mul_one] at this
    rw [List.map_replicate, ← made_one]
    exact this
  have m2 : ∀ W : World, (Instr.makeSlice 32 (.int .i64 (M : Int)) (.int .i64 (M : Int))).run Try.prog W = .ok (.slice (some ⟨W.heap.size, 0, none⟩) M M) (W.alloc (.cells ((List.replicate M (0 : Int)).map (Value.int .i64)).toArray 3)) := fun W => by
    have := run_make (P := Try.prog) W 32 3 i2 _ Try.underlying32 hi2 hz2.1 .i64 .i64 (M : Int) (M : Int) (by omega) (Int.le_refl _) (by rw [hz2.2.2]; omega) (by omega)
    rw [hz2.2.1, Int.toNat_natCast, Nat.mul_one] at this
    rw [List.map_replicate, ← made_one]
    exact this
  clear hi0 hz0 hi1 hz1 hi2 hz2
  have hfin : ∀ (A B C : Obj) (b ga gh gc : Nat) (W : World), True := fun _ _ _ _ _ _ _ _ => trivial
  generalize hx0 : (flatP (List.replicate N ((0 : Int), (0 : Int)))).toArray = z0 at m0
  generalize hx1 : ((List.replicate N false).map Value.bool).toArray = z1 at m1
  generalize hx2 : ((List.replicate M (0 : Int)).map (Value.int .i64)).toArray = z2 at m2
  have Hx0 := hid hx0
  have Hx1 := hid hx1
  have Hx2 := hid hx2
  clear hx0 hx1 hx2 hfin
  have h1 : (1 : Int) ≤ (N : Int) := by omega
  have h2 : (N : Int) ≤ 65536 := by omega
  have h3 : (1 : Int) ≤ (M : Int) := by omega
  have h4 : (M : Int) ≤ 64 := by omega
  go_enter Try.func12, Try.ntmps12
  go_upto_region 3 with (fail)
  go_cut [4, 5] (fun p q wx => q = .int .i64 0 ∧ ∃ b ga gh gc, p = .pointer (some ⟨b, 0, none⟩) ∧ NewM w wx N M b ga gh gc)
  case first =>
    go_region_held3 (fun w' => w'.os = w.os) (rfl) (first | (fail))
    all_goals
      go_wp2_with fail
      go_meet
      exact ⟨rfl, _, _, _, _, rfl, newM_of hN hM Hx0.out Hx1.out Hx2.out (by simp) (by first | exact al0 _ _ _ _ _ | exact al1 _ _ _ _ _ | exact al2 _ _ _ _ _) (by first | exact al0 _ _ _ _ _ | exact al1 _ _ _ _ _ | exact al2 _ _ _ _ _) (by first | exact al0 _ _ _ _ _ | exact al1 _ _ _ _ _ | exact al2 _ _ _ _ _) (by omega)⟩
  case rest =>
    obtain ⟨rfl, b, ga, gh, gc, rfl, hn⟩ := hcut
    go_wp2
    go_ret2
    exact ⟨b, ga, gh, gc, rfl, hn⟩
end Go.Proofs.Ytnlidokfmpfepaa.Pmap
