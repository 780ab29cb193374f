import Derived.Test.YtmehebjkdmpigaaKit
import Derived.Deep.Cut
set_option linter.unusedVariables false
set_option linter.unusedSimpArgs false
namespace Go.Proofs.Ytmehebjkdmpigaa.Mail
open Go.RowKit Go.Proofs.Ytmehebjkdmpigaa.Kit

/-- A message: of its kind (0, 1, 2), from, epoch. -/
def mv : Nat → Int → Int → Value
  | 0, F, E => .iface 41 (.agg #[.int .i64 F, .int .u64 E])
  | 1, F, _ => .iface 33 (.agg #[.int .i64 F])
  | _, F, E => .iface 44 (.agg #[.int .i64 F, .int .u64 E])
def ep : Nat → Int → Int
  | 1, _ => 0
  | _, E => E

theorem ta_bb (v : Value) (w : World) : (Instr.typeAssert (.iface 41 v) 20 41 true).run Try.prog w = .ok (.tuple #[v, .bool true]) w := by kernel_rfl
theorem ta_bw (v : Value) (w : World) : (Instr.typeAssert (.iface 41 v) 20 33 true).run Try.prog w = .ok (.tuple #[.agg #[.int .i64 0], .bool false]) w := by kernel_rfl
theorem ta_bg (v : Value) (w : World) : (Instr.typeAssert (.iface 41 v) 20 44 true).run Try.prog w = .ok (.tuple #[.agg #[.int .i64 0, .int .u64 0], .bool false]) w := by kernel_rfl
theorem ti_b (v : Value) (w : World) : (Instr.typeAssert (.iface 41 v) 20 61 false).run Try.prog w = .ok (.iface 41 v) w := by kernel_rfl
theorem ta_wb (v : Value) (w : World) : (Instr.typeAssert (.iface 33 v) 20 41 true).run Try.prog w = .ok (.tuple #[.agg #[.int .i64 0, .int .u64 0], .bool false]) w := by kernel_rfl
theorem ta_ww (v : Value) (w : World) : (Instr.typeAssert (.iface 33 v) 20 33 true).run Try.prog w = .ok (.tuple #[v, .bool true]) w := by kernel_rfl
theorem ta_wg (v : Value) (w : World) : (Instr.typeAssert (.iface 33 v) 20 44 true).run Try.prog w = .ok (.tuple #[.agg #[.int .i64 0, .int .u64 0], .bool false]) w := by kernel_rfl
theorem ti_w (v : Value) (w : World) : (Instr.typeAssert (.iface 33 v) 20 61 false).run Try.prog w = .ok (.iface 33 v) w := by kernel_rfl
theorem ta_gb (v : Value) (w : World) : (Instr.typeAssert (.iface 44 v) 20 41 true).run Try.prog w = .ok (.tuple #[.agg #[.int .i64 0, .int .u64 0], .bool false]) w := by kernel_rfl
theorem ta_gw (v : Value) (w : World) : (Instr.typeAssert (.iface 44 v) 20 33 true).run Try.prog w = .ok (.tuple #[.agg #[.int .i64 0], .bool false]) w := by kernel_rfl
theorem ta_gg (v : Value) (w : World) : (Instr.typeAssert (.iface 44 v) 20 44 true).run Try.prog w = .ok (.tuple #[v, .bool true]) w := by kernel_rfl
theorem ti_g (v : Value) (w : World) : (Instr.typeAssert (.iface 44 v) 20 61 false).run Try.prog w = .ok (.iface 44 v) w := by kernel_rfl
theorem ta_sb (v : Value) (w : World) : (Instr.typeAssert (.iface 9 v) 20 41 true).run Try.prog w = .ok (.tuple #[.agg #[.int .i64 0, .int .u64 0], .bool false]) w := by kernel_rfl
theorem ta_sw (v : Value) (w : World) : (Instr.typeAssert (.iface 9 v) 20 33 true).run Try.prog w = .ok (.tuple #[.agg #[.int .i64 0], .bool false]) w := by kernel_rfl
theorem ta_sg (v : Value) (w : World) : (Instr.typeAssert (.iface 9 v) 20 44 true).run Try.prog w = .ok (.tuple #[.agg #[.int .i64 0, .int .u64 0], .bool false]) w := by kernel_rfl
theorem ta_ib (v : Value) (w : World) : (Instr.typeAssert (.iface 3 v) 20 41 true).run Try.prog w = .ok (.tuple #[.agg #[.int .i64 0, .int .u64 0], .bool false]) w := by kernel_rfl
theorem ta_iw (v : Value) (w : World) : (Instr.typeAssert (.iface 3 v) 20 33 true).run Try.prog w = .ok (.tuple #[.agg #[.int .i64 0], .bool false]) w := by kernel_rfl
theorem ta_ig (v : Value) (w : World) : (Instr.typeAssert (.iface 3 v) 20 44 true).run Try.prog w = .ok (.tuple #[.agg #[.int .i64 0, .int .u64 0], .bool false]) w := by kernel_rfl
theorem ta_pb (v : Value) (w : World) : (Instr.typeAssert (.iface 31 v) 20 41 true).run Try.prog w = .ok (.tuple #[.agg #[.int .i64 0, .int .u64 0], .bool false]) w := by kernel_rfl
theorem ta_pw (v : Value) (w : World) : (Instr.typeAssert (.iface 31 v) 20 33 true).run Try.prog w = .ok (.tuple #[.agg #[.int .i64 0], .bool false]) w := by kernel_rfl
theorem ta_pg (v : Value) (w : World) : (Instr.typeAssert (.iface 31 v) 20 44 true).run Try.prog w = .ok (.tuple #[.agg #[.int .i64 0, .int .u64 0], .bool false]) w := by kernel_rfl
theorem ta_nb (w : World) : (Instr.typeAssert .nilIface 20 41 true).run Try.prog w = .ok (.tuple #[.agg #[.int .i64 0, .int .u64 0], .bool false]) w := by kernel_rfl
theorem ta_nw (w : World) : (Instr.typeAssert .nilIface 20 33 true).run Try.prog w = .ok (.tuple #[.agg #[.int .i64 0], .bool false]) w := by kernel_rfl
theorem ta_ng (w : World) : (Instr.typeAssert .nilIface 20 44 true).run Try.prog w = .ok (.tuple #[.agg #[.int .i64 0, .int .u64 0], .bool false]) w := by kernel_rfl

set_option maxHeartbeats 1000000 in
theorem make3_any (q : Nat) (F : Int) (E : Int) (w : World) (hq : q ≤ 255) :
    Calls Try.prog 10 #[.int .u8 (q : Int), .int .i64 F, .int .u64 E] w fun e w' => e = .returned (mv (q % 3) F E) ∧ w' = w := by
  obtain ⟨r, hr⟩ : ∃ r, r = q % 3 := ⟨_, rfl⟩
  have hr3 : r < 3 := by omega
  have em : (q : Int) % 3 = (r : Int) := by omega
  rw [← hr]
  clear hr
  have : r = 0 ∨ r = 1 ∨ r = 2 := by omega
  rcases this with rfl | rfl | rfl
  all_goals
    go_enter Try.func10, Try.ntmps10
    go_wp2
    go_ret
    exact ⟨rfl, rfl⟩

theorem sender_b (F E : Int) (w : World) : Calls Try.prog 50 #[.agg #[.int .i64 F, .int .u64 E]] w fun e w' => e = .returned (.int .i64 F) ∧ Below w.heap.size w w' := by
  go_enter Try.func50, Try.ntmps50
  go_wp2
  go_ret
  exact ⟨rfl, (Below.refl _ _).alloc (Nat.le_refl _) _⟩
theorem from_b (F E : Int) (w : World) :
    Calls Try.prog 13 #[.iface 41 (.agg #[.int .i64 F, .int .u64 E])] w fun e w' => e = .returned (.int .i64 F) ∧ Below w.heap.size w w' := by
  have h1 := ti_b
  go_enter Try.func13, Try.ntmps13
  go_wp2_with fail
  refine (sender_b F E _).mono ?_
  rintro e w1 ⟨rfl, hB⟩
  go_wp2
  go_ret
  exact ⟨rfl, hB⟩
theorem sender_g (F E : Int) (w : World) : Calls Try.prog 51 #[.agg #[.int .i64 F, .int .u64 E]] w fun e w' => e = .returned (.int .i64 F) ∧ Below w.heap.size w w' := by
  go_enter Try.func51, Try.ntmps51
  go_wp2
  go_ret
  exact ⟨rfl, (Below.refl _ _).alloc (Nat.le_refl _) _⟩
theorem from_g (F E : Int) (w : World) :
    Calls Try.prog 13 #[.iface 44 (.agg #[.int .i64 F, .int .u64 E])] w fun e w' => e = .returned (.int .i64 F) ∧ Below w.heap.size w w' := by
  have h1 := ti_g
  go_enter Try.func13, Try.ntmps13
  go_wp2_with fail
  refine (sender_g F E _).mono ?_
  rintro e w1 ⟨rfl, hB⟩
  go_wp2
  go_ret
  exact ⟨rfl, hB⟩
theorem sender_w (F E : Int) (w : World) : Calls Try.prog 49 #[.agg #[.int .i64 F]] w fun e w' => e = .returned (.int .i64 F) ∧ Below w.heap.size w w' := by
  go_enter Try.func49, Try.ntmps49
  go_wp2
  go_ret
  exact ⟨rfl, (Below.refl _ _).alloc (Nat.le_refl _) _⟩
theorem from_w (F E : Int) (w : World) :
    Calls Try.prog 13 #[.iface 33 (.agg #[.int .i64 F])] w fun e w' => e = .returned (.int .i64 F) ∧ Below w.heap.size w w' := by
  have h1 := ti_w
  go_enter Try.func13, Try.ntmps13
  go_wp2_with fail
  refine (sender_w F 0 _).mono ?_
  rintro e w1 ⟨rfl, hB⟩
  go_wp2
  go_ret
  exact ⟨rfl, hB⟩
theorem from_any (k : Nat) (F E : Int) (w : World) :
    Calls Try.prog 13 #[mv k F E] w fun e w' => e = .returned (.int .i64 F) ∧ Below w.heap.size w w' :=
  match k with
  | 0 => from_b F E w
  | 1 => from_w F E w
  | _ + 2 => from_g F E w

set_option maxHeartbeats 1000000 in
theorem epoch_b (F E : Int) (w : World) :
    Calls Try.prog 22 #[.iface 41 (.agg #[.int .i64 F, .int .u64 E])] w fun e w' => e = .returned (.int .u64 E) ∧ Below w.heap.size w w' := by
  have h1 := ta_bb
  have h3 := ta_bg
  go_enter Try.func22, Try.ntmps22
  go_wp2
  go_ret
  exact ⟨rfl, by first | exact (Below.refl _ _).alloc (Nat.le_refl _) _ | exact ((Below.refl _ _).alloc (Nat.le_refl _) _).alloc (by simp) _⟩
set_option maxHeartbeats 1000000 in
theorem epoch_w (F E : Int) (w : World) :
    Calls Try.prog 22 #[.iface 33 (.agg #[.int .i64 F])] w fun e w' => e = .returned (.int .u64 0) ∧ Below w.heap.size w w' := by
  have h1 := ta_wb
  have h3 := ta_wg
  go_enter Try.func22, Try.ntmps22
  go_wp2
  go_ret
  exact ⟨rfl, by first | exact (Below.refl _ _).alloc (Nat.le_refl _) _ | exact ((Below.refl _ _).alloc (Nat.le_refl _) _).alloc (by simp) _⟩
set_option maxHeartbeats 1000000 in
theorem epoch_g (F E : Int) (w : World) :
    Calls Try.prog 22 #[.iface 44 (.agg #[.int .i64 F, .int .u64 E])] w fun e w' => e = .returned (.int .u64 E) ∧ Below w.heap.size w w' := by
  have h1 := ta_gb
  have h3 := ta_gg
  go_enter Try.func22, Try.ntmps22
  go_wp2
  go_ret
  exact ⟨rfl, by first | exact (Below.refl _ _).alloc (Nat.le_refl _) _ | exact ((Below.refl _ _).alloc (Nat.le_refl _) _).alloc (by simp) _⟩
theorem epoch_any (k : Nat) (F E : Int) (w : World) :
    Calls Try.prog 22 #[mv k F E] w fun e w' => e = .returned (.int .u64 (ep k E)) ∧ Below w.heap.size w w' :=
  match k with
  | 0 => epoch_b F E w
  | 1 => epoch_w F E w
  | _ + 2 => epoch_g F E w

/-- Can it be laid? -/
def right (k : Nat) (F E : Int) : Prop := (F = 0 ∨ F = 1) ∧ ep k E < 281474976710656
instance (k : Nat) (F E : Int) : Decidable (right k F E) := by unfold right; exact inferInstance

set_option maxHeartbeats 4000000 in
theorem is_b (F E : Int) (w : World) :
    Calls Try.prog 12 #[mv 0 F E] w fun e w' => e = .returned (.bool (decide (right 0 F E))) ∧ Below w.heap.size w w' := by
  have F1 := fun W => from_any 0 F E W
  have F2 := fun W => epoch_any 0 F E W
  have hr : right 0 F E ↔ ((F = 0 ∨ F = 1) ∧ ep 0 E < 281474976710656) := Iff.rfl
  have Hr := hid hr
  clear hr
  have h1 := ta_bb
  have h2 := ta_bw
  have h3 := ta_bg
  unfold mv at *
  generalize ep 0 E = x at *
  go_enter Try.func12, Try.ntmps12
  go_wp2_with fail
  refine (F1 _).mono ?_
  rintro e w1 ⟨rfl, hB1⟩
  have F1' := F1
  clear F1
  have tl : ∀ (b : Bool), (((F = 0 ∨ F = 1) ∧ x < 281474976710656) ↔ b = true) → decide (right 0 F E) = b := fun b h => by
    cases b
    · exact decide_eq_false (fun h2 => by cases h.1 (Hr.out.1 h2))
    · exact decide_eq_true (Hr.out.2 (h.2 rfl))
  have TL := hid tl
  clear tl
  by_cases hF0 : F = 0
  · have e0 : (F == 0) = true := by simp [hF0]
    have HF := hid hF0
    clear hF0
    go_wp2_with fail
    refine (F2 _).mono ?_
    rintro e w2 ⟨rfl, hB2⟩
    by_cases hx : x < 281474976710656
    · have hd := TL.out true ⟨fun _ => rfl, fun _ => ⟨.inl HF.out, hx⟩⟩
      have Hd := hid hd
      clear hd e0
      go_wp2
      go_ret
      exact ⟨by rw [Hd.out]; first | rfl | exact congrArg (fun b => Ending.returned (Value.bool b)) (decide_eq_true (by omega)) | exact congrArg (fun b => Ending.returned (Value.bool b)) (decide_eq_false (by omega)), hB1.trans (hB2.mono hB1.size)⟩
    · have hd := TL.out false ⟨fun h => absurd h.2 hx, fun h => by cases h⟩
      have Hd := hid hd
      clear hd e0
      go_wp2
      go_ret
      exact ⟨by rw [Hd.out]; first | rfl | exact congrArg (fun b => Ending.returned (Value.bool b)) (decide_eq_true (by omega)) | exact congrArg (fun b => Ending.returned (Value.bool b)) (decide_eq_false (by omega)), hB1.trans (hB2.mono hB1.size)⟩
  · have e0 : (F == 0) = false := by simp [hF0]
    have HF := hid hF0
    clear hF0
    go_wp2_with fail
    refine (F1' _).mono ?_
    rintro e w1b ⟨rfl, hB1b⟩
    have hB1c := hB1.trans (hB1b.mono hB1.size)
    by_cases hF1 : F = 1
    · have e1 : (F == 1) = true := by simp [hF1]
      have HG := hid hF1
      clear hF1
      go_wp2_with fail
      refine (F2 _).mono ?_
      rintro e w2 ⟨rfl, hB2⟩
      by_cases hx : x < 281474976710656
      · have hd := TL.out true ⟨fun _ => rfl, fun _ => ⟨.inr HG.out, hx⟩⟩
        have Hd := hid hd
        clear hd e0
        go_wp2
        go_ret
        exact ⟨by rw [Hd.out]; first | rfl | exact congrArg (fun b => Ending.returned (Value.bool b)) (decide_eq_true (by omega)) | exact congrArg (fun b => Ending.returned (Value.bool b)) (decide_eq_false (by omega)), hB1c.trans (hB2.mono hB1c.size)⟩
      · have hd := TL.out false ⟨fun h => absurd h.2 hx, fun h => by cases h⟩
        have Hd := hid hd
        clear hd e0
        go_wp2
        go_ret
        exact ⟨by rw [Hd.out]; first | rfl | exact congrArg (fun b => Ending.returned (Value.bool b)) (decide_eq_true (by omega)) | exact congrArg (fun b => Ending.returned (Value.bool b)) (decide_eq_false (by omega)), hB1c.trans (hB2.mono hB1c.size)⟩
    · have e1 : (F == 1) = false := by simp [hF1]
      have HG := hid hF1
      clear hF1
      have hd := TL.out false ⟨fun h => h.1.elim (fun h => absurd h HF.out) (fun h => absurd h HG.out), fun h => by cases h⟩
      have Hd := hid hd
      clear hd e0
      go_wp2
      go_ret
      exact ⟨by rw [Hd.out]; first | rfl | exact congrArg (fun b => Ending.returned (Value.bool b)) (decide_eq_true (by omega)) | exact congrArg (fun b => Ending.returned (Value.bool b)) (decide_eq_false (by omega)), hB1c⟩
set_option maxHeartbeats 4000000 in
theorem is_w (F E : Int) (w : World) :
    Calls Try.prog 12 #[mv 1 F E] w fun e w' => e = .returned (.bool (decide (right 1 F E))) ∧ Below w.heap.size w w' := by
  have F1 := fun W => from_any 1 F E W
  have F2 := fun W => epoch_any 1 F E W
  have hr : right 1 F E ↔ ((F = 0 ∨ F = 1) ∧ ep 1 E < 281474976710656) := Iff.rfl
  have Hr := hid hr
  clear hr
  have h1 := ta_wb
  have h2 := ta_ww
  have h3 := ta_wg
  unfold mv at *
  generalize ep 1 E = x at *
  go_enter Try.func12, Try.ntmps12
  go_wp2_with fail
  refine (F1 _).mono ?_
  rintro e w1 ⟨rfl, hB1⟩
  have F1' := F1
  clear F1
  have tl : ∀ (b : Bool), (((F = 0 ∨ F = 1) ∧ x < 281474976710656) ↔ b = true) → decide (right 1 F E) = b := fun b h => by
    cases b
    · exact decide_eq_false (fun h2 => by cases h.1 (Hr.out.1 h2))
    · exact decide_eq_true (Hr.out.2 (h.2 rfl))
  have TL := hid tl
  clear tl
  by_cases hF0 : F = 0
  · have e0 : (F == 0) = true := by simp [hF0]
    have HF := hid hF0
    clear hF0
    go_wp2_with fail
    refine (F2 _).mono ?_
    rintro e w2 ⟨rfl, hB2⟩
    by_cases hx : x < 281474976710656
    · have hd := TL.out true ⟨fun _ => rfl, fun _ => ⟨.inl HF.out, hx⟩⟩
      have Hd := hid hd
      clear hd e0
      go_wp2
      go_ret
      exact ⟨by rw [Hd.out]; first | rfl | exact congrArg (fun b => Ending.returned (Value.bool b)) (decide_eq_true (by omega)) | exact congrArg (fun b => Ending.returned (Value.bool b)) (decide_eq_false (by omega)), hB1.trans (hB2.mono hB1.size)⟩
    · have hd := TL.out false ⟨fun h => absurd h.2 hx, fun h => by cases h⟩
      have Hd := hid hd
      clear hd e0
      go_wp2
      go_ret
      exact ⟨by rw [Hd.out]; first | rfl | exact congrArg (fun b => Ending.returned (Value.bool b)) (decide_eq_true (by omega)) | exact congrArg (fun b => Ending.returned (Value.bool b)) (decide_eq_false (by omega)), hB1.trans (hB2.mono hB1.size)⟩
  · have e0 : (F == 0) = false := by simp [hF0]
    have HF := hid hF0
    clear hF0
    go_wp2_with fail
    refine (F1' _).mono ?_
    rintro e w1b ⟨rfl, hB1b⟩
    have hB1c := hB1.trans (hB1b.mono hB1.size)
    by_cases hF1 : F = 1
    · have e1 : (F == 1) = true := by simp [hF1]
      have HG := hid hF1
      clear hF1
      go_wp2_with fail
      refine (F2 _).mono ?_
      rintro e w2 ⟨rfl, hB2⟩
      by_cases hx : x < 281474976710656
      · have hd := TL.out true ⟨fun _ => rfl, fun _ => ⟨.inr HG.out, hx⟩⟩
        have Hd := hid hd
        clear hd e0
        go_wp2
        go_ret
        exact ⟨by rw [Hd.out]; first | rfl | exact congrArg (fun b => Ending.returned (Value.bool b)) (decide_eq_true (by omega)) | exact congrArg (fun b => Ending.returned (Value.bool b)) (decide_eq_false (by omega)), hB1c.trans (hB2.mono hB1c.size)⟩
      · have hd := TL.out false ⟨fun h => absurd h.2 hx, fun h => by cases h⟩
        have Hd := hid hd
        clear hd e0
        go_wp2
        go_ret
        exact ⟨by rw [Hd.out]; first | rfl | exact congrArg (fun b => Ending.returned (Value.bool b)) (decide_eq_true (by omega)) | exact congrArg (fun b => Ending.returned (Value.bool b)) (decide_eq_false (by omega)), hB1c.trans (hB2.mono hB1c.size)⟩
    · have e1 : (F == 1) = false := by simp [hF1]
      have HG := hid hF1
      clear hF1
      have hd := TL.out false ⟨fun h => h.1.elim (fun h => absurd h HF.out) (fun h => absurd h HG.out), fun h => by cases h⟩
      have Hd := hid hd
      clear hd e0
      go_wp2
      go_ret
      exact ⟨by rw [Hd.out]; first | rfl | exact congrArg (fun b => Ending.returned (Value.bool b)) (decide_eq_true (by omega)) | exact congrArg (fun b => Ending.returned (Value.bool b)) (decide_eq_false (by omega)), hB1c⟩
set_option maxHeartbeats 4000000 in
theorem is_g (F E : Int) (w : World) :
    Calls Try.prog 12 #[mv 2 F E] w fun e w' => e = .returned (.bool (decide (right 2 F E))) ∧ Below w.heap.size w w' := by
  have F1 := fun W => from_any 2 F E W
  have F2 := fun W => epoch_any 2 F E W
  have hr : right 2 F E ↔ ((F = 0 ∨ F = 1) ∧ ep 2 E < 281474976710656) := Iff.rfl
  have Hr := hid hr
  clear hr
  have h1 := ta_gb
  have h2 := ta_gw
  have h3 := ta_gg
  unfold mv at *
  generalize ep 2 E = x at *
  go_enter Try.func12, Try.ntmps12
  go_wp2_with fail
  refine (F1 _).mono ?_
  rintro e w1 ⟨rfl, hB1⟩
  have F1' := F1
  clear F1
  have tl : ∀ (b : Bool), (((F = 0 ∨ F = 1) ∧ x < 281474976710656) ↔ b = true) → decide (right 2 F E) = b := fun b h => by
    cases b
    · exact decide_eq_false (fun h2 => by cases h.1 (Hr.out.1 h2))
    · exact decide_eq_true (Hr.out.2 (h.2 rfl))
  have TL := hid tl
  clear tl
  by_cases hF0 : F = 0
  · have e0 : (F == 0) = true := by simp [hF0]
    have HF := hid hF0
    clear hF0
    go_wp2_with fail
    refine (F2 _).mono ?_
    rintro e w2 ⟨rfl, hB2⟩
    by_cases hx : x < 281474976710656
    · have hd := TL.out true ⟨fun _ => rfl, fun _ => ⟨.inl HF.out, hx⟩⟩
      have Hd := hid hd
      clear hd e0
      go_wp2
      go_ret
      exact ⟨by rw [Hd.out]; first | rfl | exact congrArg (fun b => Ending.returned (Value.bool b)) (decide_eq_true (by omega)) | exact congrArg (fun b => Ending.returned (Value.bool b)) (decide_eq_false (by omega)), hB1.trans (hB2.mono hB1.size)⟩
    · have hd := TL.out false ⟨fun h => absurd h.2 hx, fun h => by cases h⟩
      have Hd := hid hd
      clear hd e0
      go_wp2
      go_ret
      exact ⟨by rw [Hd.out]; first | rfl | exact congrArg (fun b => Ending.returned (Value.bool b)) (decide_eq_true (by omega)) | exact congrArg (fun b => Ending.returned (Value.bool b)) (decide_eq_false (by omega)), hB1.trans (hB2.mono hB1.size)⟩
  · have e0 : (F == 0) = false := by simp [hF0]
    have HF := hid hF0
    clear hF0
    go_wp2_with fail
    refine (F1' _).mono ?_
    rintro e w1b ⟨rfl, hB1b⟩
    have hB1c := hB1.trans (hB1b.mono hB1.size)
    by_cases hF1 : F = 1
    · have e1 : (F == 1) = true := by simp [hF1]
      have HG := hid hF1
      clear hF1
      go_wp2_with fail
      refine (F2 _).mono ?_
      rintro e w2 ⟨rfl, hB2⟩
      by_cases hx : x < 281474976710656
      · have hd := TL.out true ⟨fun _ => rfl, fun _ => ⟨.inr HG.out, hx⟩⟩
        have Hd := hid hd
        clear hd e0
        go_wp2
        go_ret
        exact ⟨by rw [Hd.out]; first | rfl | exact congrArg (fun b => Ending.returned (Value.bool b)) (decide_eq_true (by omega)) | exact congrArg (fun b => Ending.returned (Value.bool b)) (decide_eq_false (by omega)), hB1c.trans (hB2.mono hB1c.size)⟩
      · have hd := TL.out false ⟨fun h => absurd h.2 hx, fun h => by cases h⟩
        have Hd := hid hd
        clear hd e0
        go_wp2
        go_ret
        exact ⟨by rw [Hd.out]; first | rfl | exact congrArg (fun b => Ending.returned (Value.bool b)) (decide_eq_true (by omega)) | exact congrArg (fun b => Ending.returned (Value.bool b)) (decide_eq_false (by omega)), hB1c.trans (hB2.mono hB1c.size)⟩
    · have e1 : (F == 1) = false := by simp [hF1]
      have HG := hid hF1
      clear hF1
      have hd := TL.out false ⟨fun h => h.1.elim (fun h => absurd h HF.out) (fun h => absurd h HG.out), fun h => by cases h⟩
      have Hd := hid hd
      clear hd e0
      go_wp2
      go_ret
      exact ⟨by rw [Hd.out]; first | rfl | exact congrArg (fun b => Ending.returned (Value.bool b)) (decide_eq_true (by omega)) | exact congrArg (fun b => Ending.returned (Value.bool b)) (decide_eq_false (by omega)), hB1c⟩
end Go.Proofs.Ytmehebjkdmpigaa.Mail
