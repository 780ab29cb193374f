import Derived.Test.YtpcbpljdiacbmaaJScanRun
import Derived.Test.YtpcbpljdiacbmaaJPmapAll
import Derived.Lib.SlBytesConst
set_option linter.unusedVariables false
set_option linter.unusedSimpArgs false
namespace Go.Proofs.Ytpcbpljdiacbmaa.Scan
open Go.RowKit Go.Proofs.Ytpcbpljdiacbmaa.Kit Go.Proofs.Ytpcbpljdiacbmaa.Oct Go.Proofs.Ytpcbpljdiacbmaa.Sheet Go.Proofs.Ytpcbpljdiacbmaa.Nand Go.Proofs.Ytpcbpljdiacbmaa.Plan Go.Proofs.Ytpcbpljdiacbmaa.Log Go.Proofs.Ytpcbpljdiacbmaa.Pmap Go.Maps

def zFound : Value := .agg #[.int .i64 0, .int .i64 0, .int .u8 0, .int .u64 0, .int .u64 0, .int .i64 0, .int .i64 0, .slice none 0 0]
section
variable {W : World} {base bm ga gh gc gp np M nb : Nat} {FL : List (Int × Fd)} {spv : Value} {sp : List Int} {at' : List (Int × Int)} {has : List Bool} {cnt : List Int}
theorem AllR.look (h : AllR W base bm ga gh gc gp np M nb FL spv sp at' has cnt) (a : Int) (hk : kwf a) :
  (Instr.lookup 72 (.map (some gp)) (.int .i64 a) false).run Try.prog W = .ok ((pgsF FL a).getD zFound) W := h.pages.look Try.underlying72 (zeroFd W) a hk
theorem AllR.look_ok (h : AllR W base bm ga gh gc gp np M nb FL spv sp at' has cnt) (a : Int) (hk : kwf a) :
  (Instr.lookup 72 (.map (some gp)) (.int .i64 a) true).run Try.prog W = .ok (.tuple #[(pgsF FL a).getD zFound, .bool (pgsF FL a).isSome]) W := h.pages.look_ok Try.underlying72 (zeroFd W) a hk
theorem AllR.later {W' : World} (h : AllR W base bm ga gh gc gp np M nb FL spv sp at' has cnt) (hB : Below W.heap.size W W') : AllR W' base bm ga gh gc gp np M nb FL spv sp at' has cnt :=
 ⟨h.pm.later hB, h.pi, h.pages.later hB, fun y hy => (h.there y hy).later hB, h.tells, own_later h.spo hB, h.low⟩
end

theorem field_S (w : World) (i k K E S a f v : Value) : (Instr.field 89 (.agg #[i, k, K, E, S, a, f, v]) 1).run Try.prog w = .ok (.agg #[K, E, S, a, f, v]) w := by kernel_rfl
theorem Pg.ok.len {p : Pg} (h : p.ok) : p.bytes.length = 96 := page_len _ _ _ _ _ _ h.2.2.2.2.2.2.1
theorem Pg.ok.isB {p : Pg} (h : p.ok) : IsB p.bytes := page_isB _ _ _ _ _ h.2.2.2.2.2.2.2.2
theorem lay_pg (p : Pg) (h : p.ok) (F : Int) (hF : F = (p.f : Int) - 1) (A : Option Addr) (n c : Nat) (w : World) (hz : Nums w .u8 A n p.ys) :
  Calls Try.prog 80 #[.agg #[.int .u8 (p.K : Int), .int .u64 (p.E : Int), .int .u64 (p.S : Int), .int .i64 (p.a : Int), .int .i64 F, .slice A n c]] w fun e w' => ∃ A' c', e = .returned (.slice A' 96 c') ∧ Nums w' .u8 A' 96 p.bytes ∧ Below w.heap.size w w' := by
 obtain ⟨h1, h2, h3, h4, h5, h6, h7, h8, h9⟩ := h
 refine (lay_any p.K p.E p.S p.a p.f F A n c p.ys w hz (by omega) (by omega) (by omega) (by omega) (by omega) hF (by have := hz.len; omega)).mono ?_
 rintro e w' ⟨v, rfl, ho, hB⟩
 obtain ⟨A', c', rfl, hc, hz'⟩ := OwnB.reads ho (page_isB _ _ _ _ _ h9)
 have hl : (page p.K p.E p.S p.a p.f p.ys).length = 96 := page_len _ _ _ _ _ _ h7
 rw [hl] at hz' ⊢
 exact ⟨A', c', rfl, hz', hB⟩
def capN (n : Nat) : Nat := (cap (gB n : Int) (gP n : Int) (gS n : Int) (gL n)).toNat
theorem geo_more : ∀ n : Fin 256, (2 ≤ (us (gB n.val) (gL n.val)).length ∧ (us (gB n.val) (gL n.val)).length ≤ 7) ∧ cap (gB n.val : Int) (gP n.val : Int) (gS n.val : Int) (gL n.val) = (capN n.val : Int) ∧ 1 ≤ capN n.val ∧ capN n.val ≤ 60 := by decide +kernel
theorem geo_bad : ∀ n : Fin 256, ∀ x ∈ gL n.val, 0 ≤ x ∧ x < (gB n.val : Int) := by decide +kernel
theorem us_get {nb : Nat} {bad : List Int} (k : Nat) (hk : k < (us nb bad).length) : ∃ i : Nat, (us nb bad).getD k 0 = (i : Int) ∧ 2 ≤ i ∧ i < nb ∧ (i : Int) ∉ bad ∧ (i : Int) ∈ us nb bad := by
 have hm : (us nb bad).getD k 0 ∈ us nb bad := by
  rw [List.getD_eq_getElem?_getD, List.getElem?_eq_getElem hk]
  exact List.getElem_mem _
 have hb := us_bd hm
 obtain ⟨i, hi⟩ := Int.eq_ofNat_of_zero_le (show 0 ≤ (us nb bad).getD k 0 by omega)
 have hm' := hm
 rw [hi] at hb hm'
 exact ⟨i, hi, by omega, by omega, ((usb_mem nb bad _).1 hm').2.2, hm'⟩
theorem rcap_geo {w : World} {nb np : Nat} {S : Int} {A : Option Addr} {n c : Nat} {bad : List Int} (h : Geo w nb np S A n c bad) :
  Calls Try.prog 17 #[.agg #[.int .i64 (nb : Int), .int .i64 (np : Int), .int .i64 S, .slice A n c]] w fun e w' => e = .returned (.int .i64 (cap nb np S bad)) ∧ Below w.heap.size w w' := by
 have hb := h.bd
 exact rcap_any (nb : Int) (np : Int) S A n c bad w h.nums (by omega) (by omega) (by omega) (by omega) (by omega)
theorem _root_.Go.Proofs.Ytpcbpljdiacbmaa.Nand.Run.nums {F : Nat → Prop} {w w' W : World} {b : Nat} {M : NA} {K : Nat → Prop} {k : IntKind} {A : Option Addr} {n : Nat} {xs : List Int} (h : Run F w w' b M K W) (hz : Nums W k A n xs) (hK : 0 < n → ∀ a, A = some a → K a.block) : Nums w' k A n xs := by
 obtain ⟨F', h1, h2, h3, h4⟩ := h
 refine ⟨hz.len, hz.most, fun j hj => ?_, hz.wf⟩
 obtain ⟨bb, o, e, hc⟩ := hz.cell j hj
 refine ⟨bb, o, e, fun i hi => ?_⟩
 rw [World.cell?_of_block (h4 bb (hK (by omega) _ e)).2.2.2]
 exact hc i hi
theorem _root_.Go.Proofs.Ytpcbpljdiacbmaa.Nand.Run.old {F : Nat → Prop} {w w' W : World} {b g : Nat} {M : NA} {K : Nat → Prop} {cs : Array Value} {T : TypeId} (h : Run F w w' b M K W) (hb : Blk w g cs T) (hg : ¬ F g) : Blk w' g cs T := by
 obtain ⟨F', h1, h2, h3, h4⟩ := h
 exact (h3.block g hb.lt hg).trans hb
theorem page_last (K E S a f : Nat) (ys : List Int) (h : ys.length ≤ 64) : (page K E S a f ys).getD 95 0 = 90 := by
 have hl := page_len K E S a f ys h
 obtain ⟨xs, hx⟩ : ∃ xs, page K E S a f ys = xs ++ [90] := ⟨_, rfl⟩
 rw [hx] at hl ⊢
 rw [List.length_append, List.length_singleton] at hl
 rw [List.getD_eq_getElem?_getD, List.getElem?_append_right (by omega), show 95 - xs.length = 0 by omega]
 rfl
theorem rdP_last {q : List Int} (h : q.getD 95 0 ≠ 90) : rdP q = none := rdP_no (by
 rintro ⟨K, E, S, a, f, ys, hf, e⟩
 exact h (by rw [e]; exact page_last K E S a f ys hf.2.2.2.2.2.2.1))
theorem newA_pages (nb np : Nat) (bad : List Int) (j : Nat) : ((newA nb np bad).blk j).pages = [] := by
 by_cases h : j < nb
 ·exact new_empty nb np bad j h
 ·unfold NA.blk
  rw [List.getD_eq_getElem?_getD, List.getElem?_eq_none (by rw [newA_len]; omega)]
  rfl
theorem _root_.Go.Proofs.Ytpcbpljdiacbmaa.Nand.Run.drew {F : Nat → Prop} {w w' W : World} {b : Nat} {M : NA} {K : Nat → Prop} (h : Run F w w' b M K W) : Run F w w'.drew b M K W := h.later (below_drewN (Below.refl _ _) 1)
end Go.Proofs.Ytpcbpljdiacbmaa.Scan
