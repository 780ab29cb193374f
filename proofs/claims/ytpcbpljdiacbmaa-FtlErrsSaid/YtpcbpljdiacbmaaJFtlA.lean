import Derived.Test.YtpcbpljdiacbmaaJFtlW
set_option linter.unusedVariables false
set_option linter.unusedSimpArgs false
namespace Go.Proofs.Ytpcbpljdiacbmaa.Ftl
open Go.RowKit Go.Proofs.Ytpcbpljdiacbmaa.Kit Go.Proofs.Ytpcbpljdiacbmaa.Oct Go.Proofs.Ytpcbpljdiacbmaa.Sheet Go.Proofs.Ytpcbpljdiacbmaa.Nand Go.Proofs.Ytpcbpljdiacbmaa.Plan Go.Proofs.Ytpcbpljdiacbmaa.Scan Go.Proofs.Ytpcbpljdiacbmaa.Pmap Go.Proofs.Ytpcbpljdiacbmaa.Pool
section
variable {c : FC} {o : FId} {w w' : World} {st : FT} {F Q : Nat → Prop} {V w0 w1 w2 : World}
theorem take_one {l : List Int} (k : Nat) (h : k < l.length) : l.take (k + 1) = l.take k ++ [l.getD k 0] := by
 rw [List.take_add_one, List.getElem?_eq_getElem h, List.getD_eq_getElem?_getD, List.getElem?_eq_getElem h]
 rfl

set_option maxRecDepth 100000 in
set_option maxHeartbeats 4000000 in
theorem weights_e (p : Nat) (ws : List Int) (h : FR c o F Q V w0 w st) (hb : c.nb ≤ 64) (hl : ws.length = c.nb)
  (hc : ∀ W, Below w.heap.size w W → ∀ i : Nat, i < c.nb → Calls Try.prog 28 #[.pointer (some ⟨p, 0, none⟩), .int .i64 (i : Int)] W fun e w' => e = .returned (.int .i64 (ws.getD i 0)) ∧ w' = W) :
  Calls Try.prog 89 #[.pointer (some ⟨o.bf, 0, none⟩), .func (.func 28) #[.pointer (some ⟨p, 0, none⟩)] #[]] w fun e w' => ∃ v, e = .returned v ∧ w'.ownsRow w.heap.size 3 1 v c.nb (ws.map (Value.int .i64)) ∧ Below w.heap.size w w' := by
 have HF := hid h.ft
 obtain ⟨k0, k1, k2, k3, k4, k5, k6, k7, k8⟩ := h.ft.cells
 have Hc := hid hc
 have Hl := hid hl
 clear hc hl h
 go_enter Try.func89, Try.ntmps89
 go_wp2
 go_loopw [5, 12] (fun v i w' => ∃ k : Nat, k ≤ c.nb ∧ i = .int .i64 (k : Int) ∧ w'.ownsRow w.heap.size 3 1 v k ((ws.take k).map (Value.int .i64)) ∧ Below w.heap.size w w') (fun _ i _ => 65 - (intOf i).toNat)
 case atStart => exact ⟨0, by omega, rfl, World.ownsRow_nil _ _ _ _, Below.refl _ _⟩
 case round =>
  obtain ⟨k, hk, rfl, hown, hbel⟩ := hrel
  by_cases hlt : k < c.nb
  ·have hltI : (k : Int) < (c.nb : Int) := by omega
   have hcc := Hc.out wr hbel k hlt
   have Htk := hid (take_one (l := ws) k (by rw [Hl.out]; exact hlt))
   go_wp2_with fail
   refine hcc.mono ?_
   rintro e w1 ⟨rfl, rfl⟩
   generalize ws.getD k 0 = x at *
   go_wp2_with (at_builtin; go_loud (refine append_one w.heap.size rfl _ _ 24 3 (.int .i64 0) 8 rfl Try.underlying24 Plan.info3 rfl _ _ _ (.int .i64 x) (by rfl) (by rfl) rfl hown hbel.size (by omega) (by omega) ?_); intro v1 w2 hown2 hgr hat)
   have hbel2 := hbel.grown hgr hbel.size (fun k hk => (hown.lt k hk).1)
   clear hown hbel hcc
   go_wp2
   go_roundw
   case rel => exact ⟨k + 1, by omega, by go_num, by rw [Htk.out, List.map_append]; exact hown2, hbel2⟩
   case measure => simp [intOf]; omega
  ·obtain rfl : k = c.nb := by omega
   have Hown := hid hown
   have Hbel := hid hbel
   clear hown hbel
   go_wp2
   go_ret
   refine ⟨_, rfl, ?_, Hbel.out⟩
   have := Hown.out
   rw [List.take_of_length_le (by rw [Hl.out]; exact Nat.le_refl _)] at this
   exact this

set_option maxRecDepth 100000 in
set_option maxHeartbeats 4000000 in
theorem weights_c (p : Nat) (ws : List Int) (h : FR c o F Q V w0 w st) (hb : c.nb ≤ 64) (hl : ws.length = c.nb)
  (hc : ∀ W, Below w.heap.size w W → ∀ i : Nat, i < c.nb → Calls Try.prog 42 #[.pointer (some ⟨p, 0, none⟩), .int .i64 (i : Int)] W fun e w' => e = .returned (.int .i64 (ws.getD i 0)) ∧ w' = W) :
  Calls Try.prog 89 #[.pointer (some ⟨o.bf, 0, none⟩), .func (.func 42) #[.pointer (some ⟨p, 0, none⟩)] #[]] w fun e w' => ∃ v, e = .returned v ∧ w'.ownsRow w.heap.size 3 1 v c.nb (ws.map (Value.int .i64)) ∧ Below w.heap.size w w' := by
 have HF := hid h.ft
 obtain ⟨k0, k1, k2, k3, k4, k5, k6, k7, k8⟩ := h.ft.cells
 have Hc := hid hc
 have Hl := hid hl
 clear hc hl h
 go_enter Try.func89, Try.ntmps89
 go_wp2
 go_loopw [5, 12] (fun v i w' => ∃ k : Nat, k ≤ c.nb ∧ i = .int .i64 (k : Int) ∧ w'.ownsRow w.heap.size 3 1 v k ((ws.take k).map (Value.int .i64)) ∧ Below w.heap.size w w') (fun _ i _ => 65 - (intOf i).toNat)
 case atStart => exact ⟨0, by omega, rfl, World.ownsRow_nil _ _ _ _, Below.refl _ _⟩
 case round =>
  obtain ⟨k, hk, rfl, hown, hbel⟩ := hrel
  by_cases hlt : k < c.nb
  ·have hltI : (k : Int) < (c.nb : Int) := by omega
   have hcc := Hc.out wr hbel k hlt
   have Htk := hid (take_one (l := ws) k (by rw [Hl.out]; exact hlt))
   go_wp2_with fail
   refine hcc.mono ?_
   rintro e w1 ⟨rfl, rfl⟩
   generalize ws.getD k 0 = x at *
   go_wp2_with (at_builtin; go_loud (refine append_one w.heap.size rfl _ _ 24 3 (.int .i64 0) 8 rfl Try.underlying24 Plan.info3 rfl _ _ _ (.int .i64 x) (by rfl) (by rfl) rfl hown hbel.size (by omega) (by omega) ?_); intro v1 w2 hown2 hgr hat)
   have hbel2 := hbel.grown hgr hbel.size (fun k hk => (hown.lt k hk).1)
   clear hown hbel hcc
   go_wp2
   go_roundw
   case rel => exact ⟨k + 1, by omega, by go_num, by rw [Htk.out, List.map_append]; exact hown2, hbel2⟩
   case measure => simp [intOf]; omega
  ·obtain rfl : k = c.nb := by omega
   have Hown := hid hown
   have Hbel := hid hbel
   clear hown hbel
   go_wp2
   go_ret
   refine ⟨_, rfl, ?_, Hbel.out⟩
   have := Hown.out
   rw [List.take_of_length_le (by rw [Hl.out]; exact Nat.le_refl _)] at this
   exact this
end
end Go.Proofs.Ytpcbpljdiacbmaa.Ftl
