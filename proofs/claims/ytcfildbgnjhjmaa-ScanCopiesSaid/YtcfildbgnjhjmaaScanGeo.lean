import Derived.Test.YtcfildbgnjhjmaaScanPlain
import Derived.Laws.Rows
import Derived.Deep.DeepCutAuto
set_option linter.unusedVariables false
set_option linter.unusedSimpArgs false
namespace Go.Proofs.Ytcfildbgnjhjmaa.Scan
open Go.RowKit Go.Proofs.Ytcfildbgnjhjmaa.Kit Go.Proofs.Ytcfildbgnjhjmaa.Oct Go.Proofs.Ytcfildbgnjhjmaa.Sheet Go.Proofs.Ytcfildbgnjhjmaa.Nand Go.Proofs.Ytcfildbgnjhjmaa.Plan

/-! The geometries of the laws. -/
def gB (n : Nat) : Nat := 5 + n % 5
def gP (n : Nat) : Nat := 2 + n / 8 % 4
def gL (n : Nat) : List Int := if n % 3 = 0 ∧ 5 < gB n then [3] else []
def gS (n : Nat) : Nat := if n % 4 = 0 ∧ 7 < gB n then 1 else 0
theorem geo_all : ∀ n : Fin 256, fm (gB n.val : Int) (gP n.val : Int) (gS n.val : Int) (gL n.val) = true := by decide +kernel
theorem geo_four {w : World} {g : Nat} {v0 v1 v2 v3 : Value} {T : TypeId} (h : Blk w g #[v0, v1, v2, v3] T) : w.cell? ⟨g, 0, none⟩ = some v0 ∧ w.cell? ⟨g, 1, none⟩ = some v1 ∧ w.cell? ⟨g, 2, none⟩ = some v2 ∧ w.cell? ⟨g, 3, none⟩ = some v3 := ⟨h.cell 0, h.cell 1, h.cell 2, h.cell 3⟩
theorem nums_one (w : World) (g : Nat) (x : Int) (h : Blk w g #[.int .i64 x] 3) (hx : kwf x) : Nums w .i64 (some ⟨g, 0, none⟩) 1 [x] :=
  ⟨rfl, by omega, fun j hj => ⟨g, 0, rfl, fun i hi => by
    obtain rfl : i = 0 := by omega
    exact h.cell 0⟩, fun y hy => by rw [List.mem_singleton.1 hy]; exact hx⟩

set_option maxRecDepth 100000 in
set_option maxHeartbeats 4000000 in
theorem geometry_any (n : Nat) (hn : n < 256) (w : World) :
    Calls Try.prog 23 #[.int .u8 (n : Int)] w fun e w' => ∃ A m c, e = .returned (.agg #[.int .i64 (gB n : Int), .int .i64 (gP n : Int), .int .i64 (gS n : Int), .slice A m c]) ∧ Geo w' (gB n) (gP n) (gS n : Int) A m c (gL n) ∧ Below w.heap.size w w' := by
  have hfm := geo_all ⟨n, hn⟩
  have w1 : IntKind.i64.wrap (n : Int) = (n : Int) := IntWalk.i64_in _ (by omega)
  have w2 : IntKind.i64.wrap (5 + (n : Int) % 5) = ((gB n : Nat) : Int) := by unfold gB; rw [IntWalk.i64_in _ (by omega)]; omega
  have w3 : IntKind.i64.wrap ((n : Int) / 8) = (n : Int) / 8 := IntWalk.i64_in _ (by omega)
  have w4 : IntKind.i64.wrap (2 + (n : Int) / 8 % 4) = ((gP n : Nat) : Int) := by unfold gP; rw [IntWalk.i64_in _ (by omega)]; omega
  have hL : gL n = if n % 3 = 0 ∧ 5 < gB n then [3] else [] := rfl
  have hS : gS n = if n % 4 = 0 ∧ 7 < gB n then 1 else 0 := rfl
  have hb : 5 ≤ gB n ∧ gB n ≤ 9 := by unfold gB; omega
  generalize gB n = B at *
  generalize gP n = P at *
  generalize gL n = L at *
  generalize gS n = S at *
  have Hfm := hid hfm
  have HL := hid hL
  have HS := hid hS
  clear hfm hL hS
  go_enter Try.func23, Try.ntmps23
  go_upto_region 2 with (fail)
  generalize hw2 : World.alloc (World.alloc w _) _ = wa
  obtain ⟨g2, hg2⟩ : ∃ g, w.heap.size = g := ⟨_, rfl⟩
  have hb2 : Blk wa g2 #[.int .i64 0, .int .i64 0, .int .i64 0, .slice none 0 0] 50 := by rw [← hw2, ← hg2]; exact (Blk.new w _ _).alloc _
  have hb3 : Blk wa (g2 + 1) #[.int .i64 (B : Int), .int .i64 (P : Int), .int .i64 0, .slice none 0 0] 50 := by
    rw [← hw2, ← hg2]
    have := Blk.new (w.alloc (.cells #[.int .i64 0, .int .i64 0, .int .i64 0, .slice none 0 0] 50)) #[.int .i64 (B : Int), .int .i64 (P : Int), .int .i64 0, .slice none 0 0] 50
    simpa using this
  have hBa : Below g2 w wa := by rw [← hw2, ← hg2]; exact ((Below.refl _ _).alloc (Nat.le_refl _) _).alloc (by simp) _
  obtain ⟨g3, hg3⟩ : ∃ g, g2 + 1 = g := ⟨_, rfl⟩
  rw [hg2, hg3]
  rw [hg3] at hb3
  have hlt3 := hb3.lt
  have hg23 : g2 < g3 := by omega
  obtain ⟨k0, k1, k2, k3⟩ : wa.cell? ⟨g3, 0, none⟩ = some (.int .i64 (B : Int)) ∧ wa.cell? ⟨g3, 1, none⟩ = some (.int .i64 (P : Int)) ∧ wa.cell? ⟨g3, 2, none⟩ = some (.int .i64 0) ∧ wa.cell? ⟨g3, 3, none⟩ = some (.slice none 0 0) := ⟨hb3.cell 0, hb3.cell 1, hb3.cell 2, hb3.cell 3⟩
  have f3 := hb3.free 3
  have Hg2 := hid hg2
  have Hb2 := hid hb2
  have Hb3 := hid hb3
  have HBa := hid hBa
  clear hw2 hb2 hb3 hBa hg2 hg3 w1 w2 w3 w4
  go_cut [21] (fun t wx => ∃ q : Bool, t = .bool q ∧ (q = true ↔ n % 3 = 0 ∧ 5 < B) ∧ wx = wa)
  case first =>
    by_cases h3 : n % 3 = 0
    · have h3b : ((n : Int) % 3 == 0) = true := by rw [beq_iff_eq]; omega
      by_cases hB5 : 5 < B
      · have hB5I : (5 : Int) < (B : Int) := by omega
        have He := hid (show n % 3 = 0 ∧ 5 < B from ⟨h3, hB5⟩)
        clear h3
        go_wp2
        go_meet
        case rel => exact ⟨_, rfl, ⟨fun _ => He.out, fun h => by first | rfl | exact decide_eq_true hB5I⟩, rfl⟩
      · have hB5I : (B : Int) ≤ 5 := by omega
        have He := hid (show ¬ (n % 3 = 0 ∧ 5 < B) from fun h => hB5 h.2)
        clear h3 hB5
        go_wp2
        go_meet
        case rel => exact ⟨_, rfl, ⟨fun h => by first | (cases h; done) | (have := of_decide_eq_true h; omega), fun h => absurd h He.out⟩, rfl⟩
    · have h3b : ((n : Int) % 3 == 0) = false := by rw [beq_eq_false_iff_ne]; omega
      have He := hid (show ¬ (n % 3 = 0 ∧ 5 < B) from fun h => h3 h.1)
      clear h3
      go_wp2
      go_meet
      case rel => exact ⟨_, rfl, ⟨fun h => by first | (cases h; done) | (have := of_decide_eq_true h; omega), fun h => absurd h He.out⟩, rfl⟩
  case rest =>
  obtain ⟨q, rfl, hq, hwx⟩ := hcut
  rw [hwx]
  clear hwx
  have Hq := hid hq
  clear hq
  go_upto_if 21 with (fail)
  go_cut [] (fun wx => ∃ (A : Option Addr) (m c : Nat), Blk wx g3 #[.int .i64 (B : Int), .int .i64 (P : Int), .int .i64 0, .slice A m c] 50 ∧ Nums wx .i64 A m L ∧ m ≤ c ∧ (∀ a, A = some a → g3 < a.block) ∧ Blk wx g2 #[.int .i64 0, .int .i64 0, .int .i64 0, .slice none 0 0] 50 ∧ Below g2 w wx)
  case first =>
    cases q
    · have hLe := HL.out
      rw [if_neg (fun h => by cases Hq.out.mpr h)] at hLe
      have HLe := hid hLe
      clear hLe
      go_wp2
      go_meet
      case rel => exact ⟨none, 0, 0, Hb3.out, by rw [HLe.out]; exact Nums.none _ _ _, Nat.le_refl _, (fun a ha => by cases ha), Hb2.out, HBa.out⟩
    · have hLe := HL.out
      rw [if_pos (Hq.out.mp rfl)] at hLe
      have HLe := hid hLe
      have k3' : (wa.alloc (.cells #[.int .i64 3] 3)).cell? ⟨g3, 3, none⟩ = some (.slice none 0 0) := (Hb3.out.alloc _).cell 3
      have f3' : (wa.alloc (.cells #[.int .i64 3] 3)).frozen? ⟨g3, 3, none⟩ = false := (Hb3.out.alloc _).free 3
      clear hLe
      go_wp2
      go_meet
      case rel =>
        refine ⟨some ⟨wa.heap.size, 0, none⟩, 1, 1, ?_, ?_, Nat.le_refl _, ?_, ?_, ?_⟩
        · have := Hb3.out.set 3 (.slice (some ⟨wa.heap.size, 0, none⟩) 1 1)
          refine Blk.alloc ?_ _
          simpa using this
        · rw [HLe.out]
          have h1 := Blk.new (wa.setCell ⟨g3, 3, none⟩ (.slice (some ⟨wa.heap.size, 0, none⟩) 1 1)) #[.int .i64 3] 3
          rw [size_set] at h1
          exact nums_one _ _ 3 h1 (kwf_of (by omega))
        · intro a ha
          injection ha with ha
          rw [← ha]
          exact hlt3
        · exact (Hb2.out.setOther _ (by show g2 ≠ g3; omega) _).alloc _
        · exact (HBa.out.setCell (by show g2 ≤ g3; omega) _).alloc (by simp; omega) _
  case rest =>
    obtain ⟨A, m, c, hb3, hz, hmc, hAb, hb2, hB⟩ := hcut
    obtain ⟨wb, rfl⟩ : ∃ W, W = wc := ⟨_, rfl⟩
    clear k0 k1 k2 k3 f3 Hb2 Hb3 HBa HL Hq
    obtain ⟨k0, k1, k2, k3⟩ := geo_four hb3
    have f2 := hb3.free 2
    have Hb3 := hid hb3
    have Hz := hid hz
    have HAb := hid hAb
    have Hb2 := hid hb2
    have HB := hid hB
    clear hb3 hz hAb hb2 hB
    go_upto_region 4 with (fail)
    go_cut [31] (fun t wx => ∃ q : Bool, t = .bool q ∧ (q = true ↔ n % 4 = 0 ∧ 7 < B) ∧ wx = wb)
    case first =>
      by_cases h3 : n % 4 = 0
      · have h3b : ((n : Int) % 4 == 0) = true := by rw [beq_iff_eq]; omega
        by_cases hB5 : 7 < B
        · have hB5I : (7 : Int) < (B : Int) := by omega
          have He := hid (show n % 4 = 0 ∧ 7 < B from ⟨h3, hB5⟩)
          clear h3
          go_wp2
          go_meet
          case rel => exact ⟨_, rfl, ⟨fun _ => He.out, fun h => by first | rfl | exact decide_eq_true hB5I⟩, rfl⟩
        · have hB5I : (B : Int) ≤ 7 := by omega
          have He := hid (show ¬ (n % 4 = 0 ∧ 7 < B) from fun h => hB5 h.2)
          clear h3 hB5
          go_wp2
          go_meet
          case rel => exact ⟨_, rfl, ⟨fun h => by first | (cases h; done) | (have := of_decide_eq_true h; omega), fun h => absurd h He.out⟩, rfl⟩
      · have h3b : ((n : Int) % 4 == 0) = false := by rw [beq_eq_false_iff_ne]; omega
        have He := hid (show ¬ (n % 4 = 0 ∧ 7 < B) from fun h => h3 h.1)
        clear h3
        go_wp2
        go_meet
        case rel => exact ⟨_, rfl, ⟨fun h => by first | (cases h; done) | (have := of_decide_eq_true h; omega), fun h => absurd h He.out⟩, rfl⟩
    case rest =>
    obtain ⟨q2, rfl, hq2, hwx⟩ := hcut
    rw [hwx]
    clear hwx
    have Hq2 := hid hq2
    clear hq2
    go_upto_if 31 with (fail)
    go_cut [] (fun wx => Blk wx g3 #[.int .i64 (B : Int), .int .i64 (P : Int), .int .i64 (S : Int), .slice A m c] 50 ∧ Nums wx .i64 A m L ∧ Blk wx g2 #[.int .i64 0, .int .i64 0, .int .i64 0, .slice none 0 0] 50 ∧ Below g2 w wx)
    case first =>
      cases q2
      · have hSe := HS.out
        rw [if_neg (fun h => by cases Hq2.out.mpr h)] at hSe
        have HSe := hid hSe
        clear hSe
        go_wp2
        go_meet
        case rel => exact ⟨by rw [HSe.out]; exact Hb3.out, Hz.out, Hb2.out, HB.out⟩
      · have hSe := HS.out
        rw [if_pos (Hq2.out.mp rfl)] at hSe
        have HSe := hid hSe
        clear hSe
        go_wp2
        go_meet
        case rel =>
          refine ⟨?_, nums_fr Hz.out ((Nand.Fr.refl (fun x => x = g3) wb).set g3 2 _ (.inl rfl)) (fun _ a ha hs => by have := HAb.out a ha; omega), Hb2.out.setOther _ (by show g2 ≠ g3; omega) _, HB.out.setCell (by show g2 ≤ g3; omega) _⟩
          rw [HSe.out]
          have := Hb3.out.set 2 (.int .i64 1)
          simpa using this
    case rest =>
      obtain ⟨hb3, hz, hb2, hB⟩ := hcut
      clear k0 k1 k2 k3 f2 Hb3 Hz Hb2 HB HS Hq2
      obtain ⟨k0, k1, k2, k3⟩ := geo_four hb3
      obtain ⟨y0, y1, y2, y3⟩ := geo_four hb2
      have f0 := hb2.free 0
      have f1 := hb2.free 1
      have f2 := hb2.free 2
      have f3 := hb2.free 3
      have Hz := hid hz
      have Hb2 := hid hb2
      have HB := hid hB
      clear hb3 hz hb2 hB
      go_wp2
      have hw : Blk ((((wc.setCell ⟨g2, 0, none⟩ (.int .i64 (B : Int))).setCell ⟨g2, 1, none⟩ (.int .i64 (P : Int))).setCell ⟨g2, 2, none⟩ (.int .i64 (S : Int))).setCell ⟨g2, 3, none⟩ (.slice A m c)) g2 #[.int .i64 (B : Int), .int .i64 (P : Int), .int .i64 (S : Int), .slice A m c] 50 := by
        have := (((Hb2.out.set 0 (.int .i64 (B : Int))).set 1 (.int .i64 (P : Int))).set 2 (.int .i64 (S : Int))).set 3 (.slice A m c)
        simpa using this
      have hf : Nand.Fr (fun x => x = g2) wc ((((wc.setCell ⟨g2, 0, none⟩ (.int .i64 (B : Int))).setCell ⟨g2, 1, none⟩ (.int .i64 (P : Int))).setCell ⟨g2, 2, none⟩ (.int .i64 (S : Int))).setCell ⟨g2, 3, none⟩ (.slice A m c)) := ((((Nand.Fr.refl (fun x => x = g2) wc).set g2 0 _ (.inl rfl)).set g2 1 _ (.inl rfl)).set g2 2 _ (.inl rfl)).set g2 3 _ (.inl rfl)
      refine bodyPost_ret (results_cell_row (P := Try.prog) rfl _ _ g2 _ _ (0, 0) _ rfl hw Try.underlying50 rfl (by kernel_rfl)) rfl ?_
      exact ⟨A, m, c, rfl, ⟨nums_fr Hz.out hf (fun _ a ha hs => by have := HAb.out a ha; omega), hmc, Hfm.out⟩, by rw [Hg2.out]; exact (((HB.out.setCell (Nat.le_refl _) _).setCell (Nat.le_refl _) _).setCell (Nat.le_refl _) _).setCell (Nat.le_refl _) _⟩
end Go.Proofs.Ytcfildbgnjhjmaa.Scan
