import Derived.Test.YtnlidokfmpfepaaPoolNil
set_option linter.unusedVariables false
set_option linter.unusedSimpArgs false
namespace Go.Proofs.Ytnlidokfmpfepaa.Pool
open Go.RowKit Go.Proofs.Ytnlidokfmpfepaa.Kit Go.Maps

def bOk (ws : List Int) (acc : Option Int) (x : Int) : Bool := match acc with | none => true | some j => decide (ws.getD x.toNat 0 < ws.getD j.toNat 0)
def bstep (hs : List (Option Nat)) (ws : List Int) (v : Nat) (acc : Option Int) (x : Int) : Option Int := if (hAt hs x).getD 0 = v ∧ x < (ws.length : Int) ∧ bOk ws acc x = true then some x else acc
def bestF (hs : List (Option Nat)) (ws : List Int) (v : Nat) (xs : List Int) : Option Int := xs.foldl (bstep hs ws v) none
theorem bestF_snoc (hs : List (Option Nat)) (ws : List Int) (v : Nat) (xs : List Int) (x : Int) : bestF hs ws v (xs ++ [x]) = bstep hs ws v (bestF hs ws v xs) x := by
  unfold bestF
  rw [List.foldl_append]
  rfl
theorem bestF_in (hs : List (Option Nat)) (ws : List Int) (v : Nat) : ∀ (xs : List Int) (acc : Option Int), (∀ j, acc = some j → 0 ≤ j ∧ j < (ws.length : Int)) → (∀ x ∈ xs, 0 ≤ x) → ∀ j, xs.foldl (bstep hs ws v) acc = some j → 0 ≤ j ∧ j < (ws.length : Int) := by
  intro xs
  induction xs with
  | nil => intro acc h _ j hj; exact h j hj
  | cons x xs ih =>
    intro acc h hx j hj
    rw [List.foldl_cons] at hj
    refine ih _ (fun j hj => ?_) (fun y hy => hx y (List.mem_cons_of_mem _ hy)) j hj
    unfold bstep at hj
    split at hj
    · rename_i hc
      injection hj with hj
      subst hj
      exact ⟨hx x List.mem_cons_self, hc.2.1⟩
    · exact h j hj

set_option maxRecDepth 100000 in
set_option maxHeartbeats 4000000 in
theorem least_any (b g n : Nat) (A : Option Addr) (m c : Nat) (xs : List Int) (hs : List (Option Nat)) (v : Nat) (B : Option Addr) (nw cw : Nat) (ws : List Int) (w : World) (h : PS w b g n A m c xs hs) (hv : v < 256) (hw : Nums w .i64 B nw ws) :
    Calls Try.prog 26 #[.pointer (some ⟨b, 0, none⟩), .int .u8 (v : Int), .slice B nw cw] w fun e w' => e = .returned (.tuple #[.int .i64 ((bestF hs ws v xs).getD 0), .bool (bestF hs ws v xs).isSome]) ∧ Below w.heap.size w w' := by
  obtain ⟨c0, c1⟩ := h.cells
  have hm := h.mm
  have hmc := h.mc
  have H := hid h
  have Hl := hid h.nums.len
  have Hw := hid hw
  have Hwl := hid hw.len
  clear h hw
  go_enter Try.func26, Try.ntmps26
  go_wp2
  go_loopw [8, 9, 19] (fun p q i w' => ∃ k : Nat, k ≤ m ∧ i = .int .i64 (k : Int) ∧ p = .int .i64 ((bestF hs ws v (xs.take k)).getD 0) ∧ q = .bool (bestF hs ws v (xs.take k)).isSome ∧ Below w.heap.size w w') (fun _ _ i _ => m - (intOf i).toNat)
  case atStart => exact ⟨0, by omega, rfl, rfl, rfl, Below.refl _ _⟩
  case round =>
    obtain ⟨k, hk, rfl, rfl, rfl, hB⟩ := hrel
    clear c0 c1
    have hP := H.out.later hB
    obtain ⟨c0, c1⟩ := hP.cells
    by_cases hlt : k < m
    · have hkl : k < xs.length := by rw [Hl.out]; exact hlt
      obtain ⟨bz, oz, rfl, hcz⟩ := hP.nums.at_ k hlt
      have hxb := H.out.xb _ (mem_at xs k hkl)
      have hin := bestF_in hs ws v (xs.take k) none (fun j hj => by cases hj) (fun x hx => (H.out.xb x (List.mem_of_mem_take hx)).1)
      have hst := bestF_snoc hs ws v (xs.take k) (xs.getD k 0)
      rw [← take_snoc xs k hkl] at hst
      have hlk := hP.mp.look (xs.getD k 0) (i64wf_of (by omega))
      change ∀ j, bestF hs ws v (xs.take k) = some j → _ at hin
      generalize bestF hs ws v (xs.take k) = acc at *
      generalize xs.getD k 0 = x at *
      obtain ⟨x, rfl⟩ := Int.eq_ofNat_of_zero_le hxb.1
      have hx64 : x < 64 := by omega
      unfold bstep at hst
      rw [Hwl.out] at hst hin
      generalize hu : (hAt hs (x : Int)).getD 0 = u at *
      have HB := hid hB
      clear hu hP hkl hxb hB
      by_cases h1 : u = v
      · by_cases h2 : (x : Int) < (nw : Int)
        · obtain ⟨bw, ow, hA, hcw⟩ := (Hw.out.below HB.out).at_ x (by omega)
          have hAll : ∀ j, acc = some j → wr.cell? ⟨bw, ow + j.toNat, none⟩ = some (.int .i64 (ws.getD j.toNat 0)) := fun j hj => by
            have := hin j hj
            obtain ⟨b', o', hA', hc'⟩ := (Hw.out.below HB.out).at_ j.toNat (by omega)
            rw [hA] at hA'
            injection hA' with hA'
            injection hA' with e1 e2
            subst e1
            subst e2
            exact hc'
          subst hA
          subst h1
          rcases acc with _ | j
          · rw [if_pos ⟨rfl, h2, rfl⟩] at hst
            have Hst := hid hst
            clear hst hAll hin hcw
            simp only [Option.getD_none, Option.isSome_none]
            go_upto_region 8 with (fail)
            go_quiet (fail)
            have hB2 : Below w.heap.size w (wr.drewN nq) := below_drewN HB.out nq
            obtain ⟨wx, hwx⟩ : ∃ W, wr.drewN nq = W := ⟨_, rfl⟩
            rw [hwx] at hB2 ⊢
            clear hwx c0 c1 hcz hlk
            go_wp2
            go_roundw
            case rel => exact ⟨k + 1, by omega, by go_num, by rw [Hst.out]; rfl, by rw [Hst.out]; rfl, hB2⟩
            case measure => simp [intOf]; omega
          · have hj := hin j rfl
            have hcj := hAll j rfl
            obtain ⟨j, rfl⟩ := Int.eq_ofNat_of_zero_le hj.1
            have hjw : (j : Int) < (nw : Int) := hj.2
            have hjn : j < nw := by omega
            have hcj : wr.cell? ⟨bw, ow + j, none⟩ = some (.int .i64 (ws.getD j 0)) := hcj
            have hbo : bOk ws (some (j : Int)) (x : Int) = decide (ws.getD x 0 < ws.getD j 0) := rfl
            rw [hbo] at hst
            clear hbo hin hAll hj
            simp only [Option.getD_some, Option.isSome_some]
            generalize ws.getD x 0 = p at *
            generalize ws.getD j 0 = q at *
            by_cases hpq : p < q
            · rw [if_pos ⟨rfl, h2, by simpa using hpq⟩] at hst
              have Hst := hid hst
              clear hst
              go_upto_region 8 with (fail)
              go_quiet (fail)
              have hB2 : Below w.heap.size w (wr.drewN nq) := below_drewN HB.out nq
              obtain ⟨wx, hwx⟩ : ∃ W, wr.drewN nq = W := ⟨_, rfl⟩
              rw [hwx] at hB2 ⊢
              clear hwx c0 c1 hcz hlk hcw hcj
              go_wp2
              go_roundw
              case rel => exact ⟨k + 1, by omega, by go_num, by rw [Hst.out]; rfl, by rw [Hst.out]; rfl, hB2⟩
              case measure => simp [intOf]; omega
            · rw [if_neg (fun hh => hpq (by simpa using hh.2.2))] at hst
              have Hst := hid hst
              clear hst
              go_upto_region 8 with (fail)
              go_quiet (fail)
              have hB2 : Below w.heap.size w (wr.drewN nq) := below_drewN HB.out nq
              obtain ⟨wx, hwx⟩ : ∃ W, wr.drewN nq = W := ⟨_, rfl⟩
              rw [hwx] at hB2 ⊢
              clear hwx c0 c1 hcz hlk hcw hcj
              go_wp2
              go_roundw
              case rel => exact ⟨k + 1, by omega, by go_num, by rw [Hst.out]; rfl, by rw [Hst.out]; rfl, hB2⟩
              case measure => simp [intOf]; omega
        · rw [if_neg (fun hh => h2 hh.2.1)] at hst
          have Hst := hid hst
          have h2' : (nw : Int) ≤ (x : Int) := by omega
          clear hst hin
          subst h1
          go_wp2
          go_roundw
          case rel => exact ⟨k + 1, by omega, by go_num, by rw [Hst.out], by rw [Hst.out], HB.out⟩
          case measure => simp [intOf]; omega
      · rw [if_neg (fun hh => h1 hh.1)] at hst
        have Hst := hid hst
        have h1' : ((u : Int) == (v : Int)) = false := by rw [beq_eq_false_iff_ne]; omega
        clear hst hin
        go_wp2
        go_roundw
        case rel => exact ⟨k + 1, by omega, by go_num, by rw [Hst.out], by rw [Hst.out], HB.out⟩
        case measure => simp [intOf]; omega
    · obtain rfl : k = m := by omega
      have ht : xs.take k = xs := List.take_of_length_le (by rw [Hl.out]; exact Nat.le_refl _)
      rw [ht]
      clear hP
      go_wp2
      go_ret2
      exact ⟨rfl, hB⟩
end Go.Proofs.Ytnlidokfmpfepaa.Pool
