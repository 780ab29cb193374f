import Derived.Test.YtpcbpljdiacbmaaJFtlH
set_option linter.unusedVariables false
set_option linter.unusedSimpArgs false
namespace Go.Proofs.Ytpcbpljdiacbmaa.Ftl
open Go.RowKit Go.Proofs.Ytpcbpljdiacbmaa.Kit Go.Proofs.Ytpcbpljdiacbmaa.Oct Go.Proofs.Ytpcbpljdiacbmaa.Sheet Go.Proofs.Ytpcbpljdiacbmaa.Nand Go.Proofs.Ytpcbpljdiacbmaa.Plan Go.Proofs.Ytpcbpljdiacbmaa.Scan Go.Proofs.Ytpcbpljdiacbmaa.Pmap Go.Proofs.Ytpcbpljdiacbmaa.Pool
section
variable {c : FC} {o : FId} {w w' : World} {st : FT} {F Q : Nat → Prop} {V w0 w1 w2 : World}
set_option maxRecDepth 100000 in
theorem epoch_run (h : FR c o F Q V w0 w st) :
  Calls Try.prog 23 #[.pointer (some ⟨o.bf, 0, none⟩)] w fun e w' => e = .returned (.int .u64 (c.ep : Int)) ∧ w' = w := by
 obtain ⟨k0, k1, k2, k3, k4, k5, k6, k7, k8⟩ := h.ft.cells
 clear h
 go_enter Try.func23, Try.ntmps23
 go_wp2
 go_ret
 exact ⟨rfl, rfl⟩
set_option maxRecDepth 100000 in
theorem failed_run (h : FR c o F Q V w0 w st) :
  Calls Try.prog 24 #[.pointer (some ⟨o.bf, 0, none⟩)] w fun e w' => e = .returned (.int .i64 (cntH st.hs 3 : Int)) ∧ Below w.heap.size w w' := by
 obtain ⟨k0, k1, k2, k3, k4, k5, k6, k7, k8⟩ := h.ft.cells
 obtain ⟨nd, hnd⟩ : ∃ x, cntH st.hs 3 = x := ⟨_, rfl⟩
 have hct := dead_run h nd hnd
 rw [hnd]
 clear h
 go_enter Try.func24, Try.ntmps24
 go_wp2_with fail
 refine hct.mono ?_
 rintro e w1 ⟨rfl, hB⟩
 clear hct
 go_wp2
 go_ret
 exact ⟨rfl, hB⟩
set_option maxRecDepth 100000 in
theorem fre_run (h : FR c o F Q V w0 w st) :
  Calls Try.prog 25 #[.pointer (some ⟨o.bf, 0, none⟩)] w fun e w' => e = .returned (.int .i64 (cntH st.hs 0 : Int)) ∧ Below w.heap.size w w' := by
 obtain ⟨k0, k1, k2, k3, k4, k5, k6, k7, k8⟩ := h.ft.cells
 obtain ⟨nd, hnd⟩ : ∃ x, cntH st.hs 0 = x := ⟨_, rfl⟩
 have hct := frees_run h nd hnd
 rw [hnd]
 clear h
 go_enter Try.func25, Try.ntmps25
 go_wp2_with fail
 refine hct.mono ?_
 rintro e w1 ⟨rfl, hB⟩
 clear hct
 go_wp2
 go_ret
 exact ⟨rfl, hB⟩
set_option maxRecDepth 100000 in
theorem flen_run (h : FR c o F Q V w0 w st) (hw : FWf c st) :
  Calls Try.prog 26 #[.pointer (some ⟨o.bf, 0, none⟩)] w fun e w' => e = .returned (.int .i64 (isum st.cnt)) ∧ w' = w := by
 obtain ⟨k0, k1, k2, k3, k4, k5, k6, k7, k8⟩ := h.ft.cells
 have hct := Pmap.len_any o.bm o.ga o.gh o.gc c.M c.nb st.at' st.has st.cnt w h.ft.pm (fun x hx => by
  obtain ⟨k, hk, e⟩ := List.mem_iff_getElem.1 hx
  have h1 := hw.pi.on k (by rw [← hw.pi.lc]; exact hk)
  rw [List.getD_eq_getElem?_getD, List.getElem?_eq_getElem hk, Option.getD_some, e] at h1
  have h2 := cnum_le (onP st.at' st.has k) c.M
  have hM := h.ft.pm.nM.1
  omega)
 obtain ⟨s, hs⟩ : ∃ x, isum st.cnt = x := ⟨_, rfl⟩
 rw [hs] at hct ⊢
 clear h hw hs
 go_enter Try.func26, Try.ntmps26
 go_wp2_with fail
 refine hct.mono ?_
 rintro e w1 ⟨rfl, rfl⟩
 clear hct
 go_wp2
 go_ret
 exact ⟨rfl, rfl⟩

set_option maxRecDepth 100000 in
set_option maxHeartbeats 4000000 in
theorem write_arg (h : FR c o F Q V w0 w st) (hc : c.ok) (a : Int) (A : Option Addr) (n cc : Nat) (ha : a < 0 ∨ (c.M : Int) ≤ a) :
  Calls Try.prog 18 #[.pointer (some ⟨o.bf, 0, none⟩), .int .i64 a, .slice A n cc] w fun e w' => e = .returned (.int .i64 1) ∧ Below w.heap.size w w' := by
 have hlk := look_run h hc a
 rw [if_pos ha] at hlk
 clear h ha
 go_enter Try.func18, Try.ntmps18
 go_wp2_with fail
 refine hlk.mono ?_
 rintro e w1 ⟨rfl, hB⟩
 clear hlk
 go_wp2
 go_ret
 exact ⟨rfl, hB⟩

set_option maxRecDepth 100000 in
set_option maxHeartbeats 4000000 in
theorem write_long (h : FR c o F Q V w0 w st) (hc : c.ok) (a : Nat) (A : Option Addr) (n cc : Nat) (ha : a < c.M) (hn : 64 < n) :
  Calls Try.prog 18 #[.pointer (some ⟨o.bf, 0, none⟩), .int .i64 (a : Int), .slice A n cc] w fun e w' => e = .returned (.int .i64 2) ∧ Below w.heap.size w w' := by
 have hlk := look_run h hc (a : Int)
 rw [if_neg (by omega)] at hlk
 have hn' : (64 : Int) < (n : Int) := by omega
 clear h hn
 go_enter Try.func18, Try.ntmps18
 go_wp2_with fail
 refine hlk.mono ?_
 rintro e w1 ⟨rfl, hB⟩
 clear hlk
 go_wp2
 go_ret
 exact ⟨rfl, hB⟩

set_option maxRecDepth 100000 in
set_option maxHeartbeats 4000000 in
theorem write_run (h : FR c o F Q V w0 w st) (hw : FWf c st) (hc : c.ok) (hep : c.ep < 281474976710656) (m j k a : Nat) (ys : List Int) (A : Option Addr) (n cc : Nat) (hz : Nums V .u8 A n ys) (hA : 0 < n → ∀ ad, A = some ad → Q ad.block) (hy : IsB ys) (ha : a < c.M) (hn : n ≤ 64) (R : FT × Int) (hR : putG c m j k st 1 a ys = some R) :
  Calls Try.prog 18 #[.pointer (some ⟨o.bf, 0, none⟩), .int .i64 (a : Int), .slice A n cc] w fun e w' => e = .returned (.int .i64 R.2) ∧ FR c o F Q V w0 w' R.1 ∧ FWf c R.1 := by
 have hlk := look_run h hc (a : Int)
 rw [if_neg (by omega)] at hlk
 have hM := h.ft.pm.nM.1
 have hform : formN 1 c.ep 0 a 0 ys := ⟨by omega, by omega, hep, by omega, by omega, by omega, by rw [hz.len]; exact hn, .inl rfl, hy⟩
 have Hpt := hid (fun (W : World) (hW : Below w.heap.size w W) => put_run (h.later hW) hw m j k 1 a ys A n cc hz hA hform ha R hR)
 have hn' : (n : Int) ≤ 64 := by omega
 clear h hw hz hA hform hR hn hep hM
 go_enter Try.func18, Try.ntmps18
 go_wp2_with fail
 refine hlk.mono ?_
 rintro e w1 ⟨rfl, hB⟩
 have hpt : Calls Try.prog 46 #[.pointer (some ⟨o.bf, 0, none⟩), .agg #[.int .u8 1, .int .u64 0, .int .u64 0, .int .i64 (a : Int), .int .i64 (-1), .slice A n cc]] w1 fun e w' => e = .returned (.int .i64 R.2) ∧ FR c o F Q V w0 w' R.1 ∧ FWf c R.1 := Hpt.out w1 hB
 clear hlk hB
 obtain ⟨st2, z⟩ := R
 dsimp only at hpt ⊢
 go_wp2_with fail
 refine hpt.mono ?_
 rintro e w2 ⟨rfl, h2, hw2⟩
 have H2 := hid h2
 have Hw2 := hid hw2
 clear hpt h2 hw2
 go_wp2
 go_ret
 exact ⟨rfl, H2.out, Hw2.out⟩

set_option maxRecDepth 100000 in
set_option maxHeartbeats 4000000 in
theorem trim_arg (h : FR c o F Q V w0 w st) (hc : c.ok) (a : Int) (ha : a < 0 ∨ (c.M : Int) ≤ a) :
  Calls Try.prog 20 #[.pointer (some ⟨o.bf, 0, none⟩), .int .i64 a] w fun e w' => e = .returned (.int .i64 1) ∧ Below w.heap.size w w' := by
 have hlk := look_run h hc a
 rw [if_pos ha] at hlk
 clear h ha
 go_enter Try.func20, Try.ntmps20
 go_wp2_with fail
 refine hlk.mono ?_
 rintro e w1 ⟨rfl, hB⟩
 clear hlk
 go_wp2
 go_ret
 exact ⟨rfl, hB⟩

set_option maxRecDepth 100000 in
set_option maxHeartbeats 4000000 in
theorem trim_none (h : FR c o F Q V w0 w st) (hc : c.ok) (a : Nat) (ha : a < c.M) (hh : st.has.getD a false = false) :
  Calls Try.prog 20 #[.pointer (some ⟨o.bf, 0, none⟩), .int .i64 (a : Int)] w fun e w' => e = .returned (.int .i64 0) ∧ Below w.heap.size w w' := by
 have hM := h.ft.pm.nM.1
 obtain ⟨k0, k1, k2, k3, k4, k5, k6, k7, k8⟩ := h.ft.cells
 have hlk := look_run h hc (a : Int)
 rw [if_neg (by omega)] at hlk
 have Hk6 := hid (fun (W : World) (hW : Below w.heap.size w W) => ((h.later hW).ft.f.cell 6 : W.cell? ⟨o.bf, 6, none⟩ = some (.pointer (some ⟨o.bm, 0, none⟩))))
 have hgk : getOk st.has c.M (a : Int) = false := by
  unfold getOk
  rw [decide_eq_true ⟨by omega, by omega⟩, Bool.true_and, Int.toNat_natCast, hh]
 have Hget := hid (fun (W : World) (hW : Below w.heap.size w W) => by
  have := Pmap.get_any o.bm o.ga o.gh o.gc c.M c.nb st.at' st.has st.cnt (a : Int) W (h.later hW).ft.pm
  rw [hgk] at this
  exact this)
 clear h hgk hh k0 k1 k2 k3 k4 k5 k6 k7 k8
 go_enter Try.func20, Try.ntmps20
 go_wp2_with fail
 refine hlk.mono ?_
 rintro e w1 ⟨rfl, hB⟩
 have hget := Hget.out w1 hB
 have k6 : w1.cell? ⟨o.bf, 6, none⟩ = some (.pointer (some ⟨o.bm, 0, none⟩)) := Hk6.out w1 hB
 clear hlk
 go_wp2_with fail
 refine hget.mono ?_
 rintro e w2 ⟨rfl, hB2⟩
 have HBe := hid (hB.trans ((hB2.trans (((Below.refl w2.heap.size w2).alloc (Nat.le_refl _) (.cells #[.int .i64 (getV st.at' st.has c.M (a : Int)).1, .int .i64 (getV st.at' st.has c.M (a : Int)).2] 87)).mono hB2.size)).mono hB.size))
 generalize (getV st.at' st.has c.M (a : Int)).1 = v1 at *
 generalize (getV st.at' st.has c.M (a : Int)).2 = v2 at *
 clear hget hB hB2 k6
 go_wp2
 go_ret
 exact ⟨rfl, HBe.out⟩

set_option maxRecDepth 100000 in
set_option maxHeartbeats 4000000 in
theorem trim_run (h : FR c o F Q V w0 w st) (hw : FWf c st) (hc : c.ok) (hep : c.ep < 281474976710656) (m j k a : Nat) (ha : a < c.M) (hh : st.has.getD a false = true) (R : FT × Int) (hR : putG c m j k st 2 a [] = some R) :
  Calls Try.prog 20 #[.pointer (some ⟨o.bf, 0, none⟩), .int .i64 (a : Int)] w fun e w' => e = .returned (.int .i64 R.2) ∧ FR c o F Q V w0 w' R.1 ∧ FWf c R.1 := by
 have hM := h.ft.pm.nM.1
 obtain ⟨k0, k1, k2, k3, k4, k5, k6, k7, k8⟩ := h.ft.cells
 have hlk := look_run h hc (a : Int)
 rw [if_neg (by omega)] at hlk
 have Hk6 := hid (fun (W : World) (hW : Below w.heap.size w W) => ((h.later hW).ft.f.cell 6 : W.cell? ⟨o.bf, 6, none⟩ = some (.pointer (some ⟨o.bm, 0, none⟩))))
 have hgk : getOk st.has c.M (a : Int) = true := by
  unfold getOk
  rw [decide_eq_true ⟨by omega, by omega⟩, Bool.true_and, Int.toNat_natCast, hh]
 have Hget := hid (fun (W : World) (hW : Below w.heap.size w W) => by
  have := Pmap.get_any o.bm o.ga o.gh o.gc c.M c.nb st.at' st.has st.cnt (a : Int) W (h.later hW).ft.pm
  rw [hgk] at this
  exact this)
 have hform : formN 2 c.ep 0 a 0 [] := ⟨by omega, by omega, hep, by omega, by omega, by omega, by simp, .inr rfl, fun x hx => by cases hx⟩
 have Hpt := hid (fun (W : World) (hW : Below w.heap.size w W) => put_run (h.later hW) hw m j k 2 a [] none 0 0 (Nums.none V .u8 none) (fun h => absurd h (by omega)) hform ha R hR)
 clear h hgk hh k0 k1 k2 k3 k4 k5 k6 k7 k8 hw hR hep hform hM
 go_enter Try.func20, Try.ntmps20
 go_wp2_with fail
 refine hlk.mono ?_
 rintro e w1 ⟨rfl, hB⟩
 have hget := Hget.out w1 hB
 have k6 : w1.cell? ⟨o.bf, 6, none⟩ = some (.pointer (some ⟨o.bm, 0, none⟩)) := Hk6.out w1 hB
 clear hlk
 go_wp2_with fail
 refine hget.mono ?_
 rintro e w2 ⟨rfl, hB2⟩
 have HBe := hid (fun (T : Obj) => hB.trans ((hB2.trans (((Below.refl w2.heap.size w2).alloc (Nat.le_refl _) T).mono hB2.size)).mono hB.size))
 generalize (getV st.at' st.has c.M (a : Int)).1 = v1 at *
 generalize (getV st.at' st.has c.M (a : Int)).2 = v2 at *
 have hpt : Calls Try.prog 46 #[.pointer (some ⟨o.bf, 0, none⟩), .agg #[.int .u8 2, .int .u64 0, .int .u64 0, .int .i64 (a : Int), .int .i64 (-1), .slice none 0 0]] (w2.alloc (.cells #[.int .i64 v1, .int .i64 v2] 87)) fun e w' => e = .returned (.int .i64 R.2) ∧ FR c o F Q V w0 w' R.1 ∧ FWf c R.1 := Hpt.out _ (HBe.out _)
 clear hget hB hB2 k6
 obtain ⟨st2, z⟩ := R
 dsimp only at hpt ⊢
 go_wp2_with fail
 refine hpt.mono ?_
 rintro e w3 ⟨rfl, h3, hw3⟩
 have H3 := hid h3
 have Hw3 := hid hw3
 clear hpt h3 hw3
 go_wp2
 go_ret
 exact ⟨rfl, H3.out, Hw3.out⟩
set_option maxRecDepth 100000 in
theorem look_nil (a : Int) (w : World) : Calls Try.prog 45 #[.pointer none, .int .i64 a] w fun e w' => e = .returned (.int .i64 5) ∧ Below w.heap.size w w' := by
 go_enter Try.func45, Try.ntmps45
 go_wp2
 go_ret
 exact ⟨rfl, Below.refl _ _⟩
set_option maxRecDepth 100000 in
theorem fread_nil (a : Int) (w : World) : Calls Try.prog 21 #[.pointer none, .int .i64 a] w fun e w' => e = .returned (.tuple #[.slice none 0 0, .int .i64 5]) ∧ Below w.heap.size w w' := by
 have hlk := look_nil a w
 go_enter Try.func21, Try.ntmps21
 go_wp2_with fail
 refine hlk.mono ?_
 rintro e w1 ⟨rfl, hB⟩
 clear hlk
 go_wp2
 go_ret2
 exact ⟨rfl, hB⟩
set_option maxRecDepth 100000 in
theorem fwrite_nil (a : Int) (A : Option Addr) (n cc : Nat) (w : World) : Calls Try.prog 18 #[.pointer none, .int .i64 a, .slice A n cc] w fun e w' => e = .returned (.int .i64 5) ∧ Below w.heap.size w w' := by
 have hlk := look_nil a w
 go_enter Try.func18, Try.ntmps18
 go_wp2_with fail
 refine hlk.mono ?_
 rintro e w1 ⟨rfl, hB⟩
 clear hlk
 go_wp2
 go_ret
 exact ⟨rfl, hB⟩
set_option maxRecDepth 100000 in
theorem ftrim_nil (a : Int) (w : World) : Calls Try.prog 20 #[.pointer none, .int .i64 a] w fun e w' => e = .returned (.int .i64 5) ∧ Below w.heap.size w w' := by
 have hlk := look_nil a w
 go_enter Try.func20, Try.ntmps20
 go_wp2_with fail
 refine hlk.mono ?_
 rintro e w1 ⟨rfl, hB⟩
 clear hlk
 go_wp2
 go_ret
 exact ⟨rfl, hB⟩
set_option maxRecDepth 100000 in
theorem fepoch_nil (w : World) : Calls Try.prog 23 #[.pointer none] w fun e w' => e = .returned (.int .u64 0) ∧ Below w.heap.size w w' := by
 go_enter Try.func23, Try.ntmps23
 go_wp2
 go_ret
 exact ⟨rfl, Below.refl _ _⟩
set_option maxRecDepth 100000 in
theorem ffailed_nil (w : World) : Calls Try.prog 24 #[.pointer none] w fun e w' => e = .returned (.int .i64 0) ∧ Below w.heap.size w w' := by
 go_enter Try.func24, Try.ntmps24
 go_wp2
 go_ret
 exact ⟨rfl, Below.refl _ _⟩
set_option maxRecDepth 100000 in
theorem ffree_nil (w : World) : Calls Try.prog 25 #[.pointer none] w fun e w' => e = .returned (.int .i64 0) ∧ Below w.heap.size w w' := by
 go_enter Try.func25, Try.ntmps25
 go_wp2
 go_ret
 exact ⟨rfl, Below.refl _ _⟩
set_option maxRecDepth 100000 in
theorem flen_nil (w : World) : Calls Try.prog 26 #[.pointer none] w fun e w' => e = .returned (.int .i64 0) ∧ Below w.heap.size w w' := by
 go_enter Try.func26, Try.ntmps26
 go_wp2
 go_ret
 exact ⟨rfl, Below.refl _ _⟩
end
end Go.Proofs.Ytpcbpljdiacbmaa.Ftl
