import Derived.Test.YtlmjngkblmfdmaaProg
import Derived.Handy
import Derived.BigQuiet
import Derived.Deep.QuietTactic
import Derived.KernelRfl
namespace Go.Proofs.Ytlmjngkblmfdmaa.Beat
open Go.RowKit

/-- A watch lies in block b. -/
structure Wt (w : World) (b : Nat) (l q : Int) : Prop where
  c0 : w.cell? ⟨b, 0, none⟩ = some (.int .i64 l)
  c1 : w.cell? ⟨b, 1, none⟩ = some (.int .i64 q)
  f1 : w.frozen? ⟨b, 1, none⟩ = false

theorem Wt.drewN {w : World} {b : Nat} {l q : Int} (h : Wt w b l q) (n : Nat) : Wt (w.drewN n) b l q := ⟨h.c0, h.c1, h.f1⟩
theorem below_drewN {B : Nat} {w W : World} (h : Below B w W) (n : Nat) : Below B w (W.drewN n) := ⟨h.os, h.tape, h.output, h.size, h.block⟩

set_option maxHeartbeats 400000 in
theorem new_ok (l : Int) (w : World) (h1 : 1 ≤ l) (h2 : l ≤ 1000) :
    Calls Try.prog 13 #[.int .i64 l] w fun e w' => ∃ b, e = .returned (.tuple #[.pointer (some ⟨b, 0, none⟩), .int .i64 0]) ∧ w.heap.size ≤ b ∧ Wt w' b l 0 ∧ Below w.heap.size w w' := by
  go_enter Try.func13, Try.ntmps13
  go_wp2
  go_ret2
  exact ⟨_, rfl, Nat.le_refl _, ⟨by go_simp, by go_simp, by go_simp⟩, (Below.refl _ _).alloc (Nat.le_refl _) _⟩

set_option maxHeartbeats 400000 in
theorem new_arg (l : Int) (w : World) (h : l < 1 ∨ 1000 < l) :
    Calls Try.prog 13 #[.int .i64 l] w fun e w' => e = .returned (.tuple #[.pointer none, .int .i64 1]) ∧ w = w' := by
  rcases h with h | h
  · go_enter Try.func13, Try.ntmps13
    go_wp2
    go_ret2
    exact ⟨rfl, rfl⟩
  · have h' : ¬ l < 1 := by omega
    go_enter Try.func13, Try.ntmps13
    go_wp2
    go_ret2
    exact ⟨rfl, rfl⟩

set_option maxHeartbeats 400000 in
theorem tick_lt (b : Nat) (l q : Int) (w : World) (h : Wt w b l q) (h0 : 0 ≤ q) (h1 : q < l) (h2 : l ≤ 1000) :
    Calls Try.prog 14 #[.pointer (some ⟨b, 0, none⟩)] w fun e w' => e = .returned (.tuple #[]) ∧ Wt w' b l (q + 1) ∧ Below b w w' := by
  obtain ⟨c0, c1, f1⟩ := h
  have hd : decide (q < l) = true := decide_eq_true h1
  go_enter Try.func14, Try.ntmps14
  go_wp2
  go_quiet (fail)
  go_wp2
  go_end0
  exact ⟨rfl, ⟨by go_simp, by go_simp, by go_simp⟩, (below_drewN (Below.refl _ _) _).setCell (by simp) _⟩

set_option maxHeartbeats 400000 in
theorem tick_ge (b : Nat) (l q : Int) (w : World) (h : Wt w b l q) (h1 : l ≤ q) :
    Calls Try.prog 14 #[.pointer (some ⟨b, 0, none⟩)] w fun e w' => e = .returned (.tuple #[]) ∧ Wt w' b l q ∧ Below b w w' := by
  obtain ⟨c0, c1, f1⟩ := h
  have hd : decide (q < l) = false := decide_eq_false (by omega)
  go_enter Try.func14, Try.ntmps14
  go_wp2
  go_quiet (fail)
  go_wp2
  go_end0
  exact ⟨rfl, ⟨by go_simp, by go_simp, by go_simp⟩, below_drewN (Below.refl _ _) _⟩

/-- What a tick makes of it. -/
def tk (l q : Int) : Int := if q < l then q + 1 else q

theorem tick_any (b : Nat) (l q : Int) (w : World) (h : Wt w b l q) (h0 : 0 ≤ q) (h2 : l ≤ 1000) :
    Calls Try.prog 14 #[.pointer (some ⟨b, 0, none⟩)] w fun e w' => e = .returned (.tuple #[]) ∧ Wt w' b l (tk l q) ∧ Below b w w' := by
  unfold tk
  by_cases hq : q < l
  · rw [if_pos hq]; exact tick_lt b l q w h h0 hq h2
  · rw [if_neg hq]; exact tick_ge b l q w h (by omega)

set_option maxHeartbeats 400000 in
theorem tick_nil (w : World) :
    Calls Try.prog 14 #[.pointer none] w fun e w' => e = .returned (.tuple #[]) ∧ ∃ n, w' = w.drewN n := by
  go_enter Try.func14, Try.ntmps14
  go_wp2
  go_quiet (fail)
  go_wp2
  go_end0
  exact ⟨rfl, _, rfl⟩

set_option maxHeartbeats 400000 in
theorem due_any (b : Nat) (l q : Int) (w : World) (h : Wt w b l q) :
    Calls Try.prog 15 #[.pointer (some ⟨b, 0, none⟩)] w fun e w' => e = .returned (.bool (decide (l ≤ q))) ∧ ∃ n, w' = w.drewN n := by
  obtain ⟨c0, c1, f1⟩ := h
  go_enter Try.func15, Try.ntmps15
  go_wp2
  go_quiet (fail)
  go_wp2
  go_ret
  exact ⟨rfl, _, rfl⟩

set_option maxHeartbeats 400000 in
theorem due_nil (w : World) :
    Calls Try.prog 15 #[.pointer none] w fun e w' => e = .returned (.bool false) ∧ ∃ n, w' = w.drewN n := by
  go_enter Try.func15, Try.ntmps15
  go_wp2
  go_quiet (fail)
  go_wp2
  go_ret
  exact ⟨rfl, _, rfl⟩

set_option maxHeartbeats 400000 in
theorem heard_any (b : Nat) (l q : Int) (w : World) (h : Wt w b l q) :
    Calls Try.prog 16 #[.pointer (some ⟨b, 0, none⟩)] w fun e w' => e = .returned (.tuple #[]) ∧ Wt w' b l 0 ∧ Below b w w' := by
  obtain ⟨c0, c1, f1⟩ := h
  go_enter Try.func16, Try.ntmps16
  go_wp2
  go_end0
  exact ⟨rfl, ⟨by go_simp, by go_simp, by go_simp⟩, (Below.refl _ _).setCell (by simp) _⟩

set_option maxHeartbeats 400000 in
theorem heard_nil (w : World) :
    Calls Try.prog 16 #[.pointer none] w fun e w' => e = .returned (.tuple #[]) ∧ ∃ n, w' = w.drewN n := by
  go_enter Try.func16, Try.ntmps16
  go_wp2
  go_end0
  exact ⟨rfl, 0, rfl⟩

set_option maxHeartbeats 400000 in
theorem force_any (b : Nat) (l q : Int) (w : World) (h : Wt w b l q) :
    Calls Try.prog 18 #[.pointer (some ⟨b, 0, none⟩)] w fun e w' => e = .returned (.tuple #[]) ∧ Wt w' b l l ∧ Below b w w' := by
  obtain ⟨c0, c1, f1⟩ := h
  go_enter Try.func18, Try.ntmps18
  go_wp2
  go_end0
  exact ⟨rfl, ⟨by go_simp, by go_simp, by go_simp⟩, (Below.refl _ _).setCell (by simp) _⟩

set_option maxHeartbeats 400000 in
theorem force_nil (w : World) :
    Calls Try.prog 18 #[.pointer none] w fun e w' => e = .returned (.tuple #[]) ∧ ∃ n, w' = w.drewN n := by
  go_enter Try.func18, Try.ntmps18
  go_wp2
  go_end0
  exact ⟨rfl, 0, rfl⟩

set_option maxHeartbeats 400000 in
theorem left_any (b : Nat) (l q : Int) (w : World) (h : Wt w b l q) (h0 : 0 ≤ q) (h1 : q ≤ l) (h2 : l ≤ 1000) :
    Calls Try.prog 17 #[.pointer (some ⟨b, 0, none⟩)] w fun e w' => e = .returned (.int .i64 (l - q)) ∧ ∃ n, w' = w.drewN n := by
  obtain ⟨c0, c1, f1⟩ := h
  have hw : IntKind.i64.wrap (l - q) = l - q := IntWalk.i64_in _ (by omega)
  go_enter Try.func17, Try.ntmps17
  go_wp2
  go_quiet (fail)
  go_wp2
  go_ret
  exact ⟨rfl, _, rfl⟩

set_option maxHeartbeats 400000 in
theorem left_nil (w : World) :
    Calls Try.prog 17 #[.pointer none] w fun e w' => e = .returned (.int .i64 0) ∧ ∃ n, w' = w.drewN n := by
  go_enter Try.func17, Try.ntmps17
  go_wp2
  go_ret
  exact ⟨rfl, 0, rfl⟩
end Go.Proofs.Ytlmjngkblmfdmaa.Beat
