import Derived.Test.YtpcbpljdiacbmaaJFtlLaw
import Derived.Lib.ConvBytes
set_option linter.unusedVariables false
set_option linter.unusedSimpArgs false
namespace Go.Proofs.Ytpcbpljdiacbmaa.Ftl
open Go.RowKit Go.Proofs.Ytpcbpljdiacbmaa.Kit Go.Proofs.Ytpcbpljdiacbmaa.Oct Go.Proofs.Ytpcbpljdiacbmaa.Sheet Go.Proofs.Ytpcbpljdiacbmaa.Nand Go.Proofs.Ytpcbpljdiacbmaa.Plan Go.Proofs.Ytpcbpljdiacbmaa.Scan Go.Proofs.Ytpcbpljdiacbmaa.Pmap Go.Proofs.Ytpcbpljdiacbmaa.Pool

/-! Strings as bytes; all addresses are full. -/
theorem str_bytes (W : World) (ys : List Int) (hy : IsB ys) (hl : ys.length ≤ 1000) : ∃ (W' : World) (c' : Nat), (convert 9 22 (.string (strOfNums ys))).run Try.prog W = .ok (.slice (some ⟨W.heap.size, 0, none⟩) ys.length c') W' ∧ Below W.heap.size W W' ∧ Nums W' .u8 (some ⟨W.heap.size, 0, none⟩) ys.length ys ∧ W'.heap.size = W.heap.size + 1 := by
 have h := Lib.run_convert_string_bytes (P := Try.prog) W 9 22 5 (strOfNums ys) Try.underlying9 Try.underlying22 Try.underlying5
 rw [strOfNums_size] at h
 refine ⟨_, _, h, ?_, ?_, Lib.bytesWorld_size _ _ _⟩
 ·refine ⟨rfl, rfl, rfl, by rw [Lib.bytesWorld_size]; omega, fun g hg => Lib.bytesWorld_at_old _ _ _ g hg⟩
 ·refine ⟨rfl, by omega, fun j hj => ⟨_, 0, rfl, fun i hi => ?_⟩, wf_of hy⟩
  have hb := hy _ (List.getElem_mem hi)
  have e : (((strOfNums ys).data.toList.getD i 0).toNat : Int) = ys.getD i 0 := by
   rw [strOfNums_data, List.getD_eq_getElem?_getD, List.getElem?_map, List.getElem?_eq_getElem hi, List.getD_eq_getElem?_getD, List.getElem?_eq_getElem hi]
   simp only [Option.map_some, Option.getD_some]
   have h8 : ∀ n : Nat, (UInt8.ofNat n).toNat = n % 256 := fun n => rfl
   rw [h8]
   omega
  rw [Nat.zero_add, Lib.bytesWorld_cell _ _ _ i (by rw [strOfNums_size]; exact hi), e]
section
variable {c : FC} {o : FId} {A : Option Addr} {n cc s a : Nat} {K K' : Nat → Prop} {V w w1 w2 : World} {st : FT} {D : Nat → Option (List Int)}
theorem LF.cwrite_new (h : LF c o A n cc K V w w1 st) (hk : CK c) (hS : Sound c st D s) (hs : s + 7000 ≤ 281474976710000) (hB : Below w1.heap.size w1 w2) (a : Nat) (ys : List Int) (g m c' : Nat) (hz : Nums w2 .u8 (some ⟨g, 0, none⟩) m ys) (hg : w1.heap.size ≤ g ∧ g < w2.heap.size) (ha : a < c.M) (hn : m ≤ 64) :
  Calls Try.prog 18 #[.pointer (some ⟨o.bf, 0, none⟩), .int .i64 (a : Int), .slice (some ⟨g, 0, none⟩) m c'] w2 fun e w' => e = .returned (.int .i64 0) ∧ ∃ st', LF c o A n cc K V w w' st' ∧ Sound c st' (updV D a ys) (s + 7000) ∧ Ops c.ep st.N st'.N := by
 have hL := h.more (K' := fun x => K x ∨ x = g) hB (fun x hx => by
  rcases hx with hx | hx
  ·exact .inl hx
  ·exact .inr (by rw [hx]; exact hg)) (fun x hx => .inl hx)
 refine (hL.cwrite hk hS hs a ys _ m c' hz (fun _ ad had => by
  injection had with had
  rw [← had]
  exact .inr (.inr rfl)) (fun x hx => wf_u8 (hz.wf x hx)) ha hn).mono ?_
 rintro e w' ⟨he, st', hL', hS', hO⟩
 exact ⟨he, st', hL'.back (fun x hx => ⟨.inl hx, (hB.block x (h.fr.mineQ x (.inr hx)).2.1).trans (h.heap hx)⟩) h.old, hS', hO⟩
/-- How many addresses have a page. -/
theorem LF.clen (h : LF c o A n cc K V w w1 st) (hS : Sound c st D s) :
  Calls Try.prog 26 #[.pointer (some ⟨o.bf, 0, none⟩)] w1 fun e w' => e = .returned (.int .i64 (cnum (fun a => (D a).isSome) c.M : Int)) ∧ w' = w1 := by
 have h1 := flen_run h.fr h.wf
 rw [h.wf.pi.all] at h1
 rw [cnum_congr (fun a => (D a).isSome) (fun a => st.has.getD a false) c.M (fun a ha => by
  rw [hS.rest.cor.cf a, ← hS.data]
  unfold Vof
  cases cF st a <;> rfl)]
 exact h1
end
theorem LF.ops {c : FC} {o : FId} {A : Option Addr} {n cc : Nat} {K : Nat → Prop} {V w w1 : World} {st : FT} (h : LF c o A n cc K V w w1 st) :
  Calls Try.prog 19 #[.pointer (some ⟨o.ba, 0, none⟩)] w1 fun e w' => e = .returned (.int .i64 st.N.ops) ∧ w' = w1 := by
 obtain ⟨F', hA⟩ := h.arr
 exact ops_any F' o.ba st.N w1 hA
theorem cnum_full {p : Nat → Bool} (n : Nat) (h : ∀ i, i < n → p i = true) : cnum p n = n := by
 induction n with
 | zero => rfl
 | succ n ih => rw [cnum_succ, ih (fun i hi => h i (by omega)), h n (by omega)]; rfl
end Go.Proofs.Ytpcbpljdiacbmaa.Ftl
