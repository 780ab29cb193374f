import Derived.Test.YtpcbpljdiacbmaaJFtlD
set_option linter.unusedVariables false
set_option linter.unusedSimpArgs false
namespace Go.Proofs.Ytpcbpljdiacbmaa.Ftl
open Go.RowKit Go.Proofs.Ytpcbpljdiacbmaa.Kit Go.Proofs.Ytpcbpljdiacbmaa.Oct Go.Proofs.Ytpcbpljdiacbmaa.Sheet Go.Proofs.Ytpcbpljdiacbmaa.Nand Go.Proofs.Ytpcbpljdiacbmaa.Plan Go.Proofs.Ytpcbpljdiacbmaa.Scan Go.Proofs.Ytpcbpljdiacbmaa.Pmap Go.Proofs.Ytpcbpljdiacbmaa.Pool
section
variable {c : FC} {o : FId} {w w' : World} {st : FT} {F Q : Nat → Prop} {V w0 w1 w2 : World}
/-- How many addresses there are. -/
def FC.ok (c : FC) : Prop := cap (c.nb : Int) (c.np : Int) (c.S : Int) c.bad = (c.M : Int) - 1

set_option maxRecDepth 100000 in
set_option maxHeartbeats 4000000 in
theorem look_run (h : FR c o F Q V w0 w st) (hc : c.ok) (a : Int) :
  Calls Try.prog 45 #[.pointer (some ⟨o.bf, 0, none⟩), .int .i64 a] w fun e w' => e = .returned (.int .i64 (if a < 0 ∨ (c.M : Int) ≤ a then 1 else 0)) ∧ Below w.heap.size w w' := by
 obtain ⟨k0, k1, k2, k3, k4, k5, k6, k7, k8⟩ := h.ft.cells
 have hmt : ∀ W, Below w.heap.size w W → Calls Try.prog 57 #[.agg #[.int .i64 (c.nb : Int), .int .i64 (c.np : Int), .int .i64 (c.S : Int), .slice o.Ab o.nbad o.cbad]] W fun e w' => e = .returned (.int .i64 ((c.M : Int) - 1)) ∧ Below W.heap.size W w' := fun W hW => by
  have := geo_meta (h.later hW).ft.geo
  rw [hc] at this
  exact this
 have hmt := hmt w (Below.refl _ _)
 obtain ⟨m, hm⟩ : ∃ x, (c.M : Int) - 1 = x := ⟨_, rfl⟩
 rw [hm] at hmt
 obtain ⟨r, hr⟩ : ∃ x : Int, (if a < 0 ∨ (c.M : Int) ≤ a then 1 else 0) = x := ⟨_, rfl⟩
 rw [hr]
 have Hr := hid hr
 have Hm := hid hm
 clear h hr hm hc
 by_cases h0 : a < 0
 ·have HR := hid (show r = 1 by rw [← Hr.out, if_pos (.inl h0)])
  clear hmt
  go_enter Try.func45, Try.ntmps45
  go_wp2
  go_ret
  exact ⟨by rw [HR.out]; rfl, Below.refl _ _⟩
 ·have h0' : (0 : Int) ≤ a := by omega
  by_cases h1 : m < a
  ·have HR := hid (show r = 1 by rw [← Hr.out, if_pos (.inr (by have := Hm.out; omega))])
   go_enter Try.func45, Try.ntmps45
   go_wp2_with fail
   refine hmt.mono ?_
   rintro e w1 ⟨rfl, hB⟩
   clear hmt
   go_wp2
   go_ret
   exact ⟨by rw [HR.out]; rfl, hB⟩
  ·have h1' : a ≤ m := by omega
   have HR := hid (show r = 0 by rw [← Hr.out, if_neg (by have := Hm.out; omega)])
   go_enter Try.func45, Try.ntmps45
   go_wp2_with fail
   refine hmt.mono ?_
   rintro e w1 ⟨rfl, hB⟩
   clear hmt
   go_wp2
   go_ret
   exact ⟨by rw [HR.out]; rfl, hB⟩

set_option maxRecDepth 100000 in
set_option maxHeartbeats 4000000 in
theorem read_run (h : FR c o F Q V w0 w st) (hc : c.ok) (a : Nat) (ha : a < c.M) (p : Pg) (hp : st.rd a p) :
  Calls Try.prog 21 #[.pointer (some ⟨o.bf, 0, none⟩), .int .i64 (a : Int)] w fun e w' => ∃ A n cc, e = .returned (.tuple #[.slice A n cc, .int .i64 0]) ∧ Nums w' .u8 A n p.ys ∧ Below w.heap.size w w' ∧ (0 < n → ∀ ad, A = some ad → w.heap.size ≤ ad.block) := by
 have hlk := look_run h hc (a : Int)
 rw [if_neg (by omega)] at hlk
 have hpg : ∀ W, Below w.heap.size w W → _ := fun W hW => page_run (h.later hW) a ha p hp
 clear h
 go_enter Try.func21, Try.ntmps21
 go_wp2_with fail
 refine hlk.mono ?_
 rintro e w1 ⟨rfl, hB1⟩
 have hpg1 := hpg w1 hB1
 clear hlk hpg
 go_wp2_with fail
 refine hpg1.mono ?_
 rintro e w2 ⟨A, n, cc, rfl, hz2, hB2, hlo⟩
 clear hpg1
 have HBe := hid (hB1.trans ((hB2.trans (((Below.refl w2.heap.size w2).alloc (Nat.le_refl _) (.cells #[.int .u8 (p.K : Int), .int .u64 (p.E : Int), .int .u64 (p.S : Int), .int .i64 (p.a : Int), .int .i64 ((p.f : Int) - 1), .slice A n cc] 85)).mono hB2.size)).mono hB1.size))
 have Hz := hid (hz2.below ((Below.refl w2.heap.size w2).alloc (Nat.le_refl _) (.cells #[.int .u8 (p.K : Int), .int .u64 (p.E : Int), .int .u64 (p.S : Int), .int .i64 (p.a : Int), .int .i64 ((p.f : Int) - 1), .slice A n cc] 85)))
 have Hlo := hid (show 0 < n → ∀ ad, A = some ad → w.heap.size ≤ ad.block from fun hn ad had => Nat.le_trans hB1.size (hlo hn ad had))
 clear hB1 hB2 hz2 hlo
 go_wp2
 go_ret2
 exact ⟨A, n, cc, rfl, Hz.out, HBe.out, Hlo.out⟩
end
end Go.Proofs.Ytpcbpljdiacbmaa.Ftl
