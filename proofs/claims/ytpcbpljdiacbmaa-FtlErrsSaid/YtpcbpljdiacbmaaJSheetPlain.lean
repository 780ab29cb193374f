import Derived.Test.YtpcbpljdiacbmaaJSheetLay
import Derived.Test.YtpcbpljdiacbmaaJOctAll
set_option linter.unusedVariables false
set_option linter.unusedSimpArgs false
namespace Go.Proofs.Ytpcbpljdiacbmaa.Sheet
open Go.RowKit Go.Proofs.Ytpcbpljdiacbmaa.Kit Go.Proofs.Ytpcbpljdiacbmaa.Oct

theorem _root_.Go.Proofs.Ytpcbpljdiacbmaa.Kit.Blk.six {w : World} {g : Nat} {v0 v1 v2 v3 v4 v5 : Value} {T : TypeId} (h : Blk w g #[v0, v1, v2, v3, v4, v5] T) :
  (w.cell? ⟨g, 0, none⟩ = some v0 ∧ w.cell? ⟨g, 1, none⟩ = some v1 ∧ w.cell? ⟨g, 2, none⟩ = some v2 ∧ w.cell? ⟨g, 3, none⟩ = some v3 ∧ w.cell? ⟨g, 4, none⟩ = some v4 ∧ w.cell? ⟨g, 5, none⟩ = some v5) ∧
  (w.frozen? ⟨g, 0, none⟩ = false ∧ w.frozen? ⟨g, 1, none⟩ = false ∧ w.frozen? ⟨g, 2, none⟩ = false ∧ w.frozen? ⟨g, 3, none⟩ = false ∧ w.frozen? ⟨g, 4, none⟩ = false ∧ w.frozen? ⟨g, 5, none⟩ = false) :=
 ⟨⟨h.cell 0, h.cell 1, h.cell 2, h.cell 3, h.cell 4, h.cell 5⟩, h.free 0, h.free 1, h.free 2, h.free 3, h.free 4, h.free 5⟩
theorem _root_.Go.Proofs.Ytpcbpljdiacbmaa.Kit.Blk.six_set {w : World} {g : Nat} {v0 v1 v2 v3 v4 v5 : Value} {T : TypeId} (h : Blk w g #[v0, v1, v2, v3, v4, v5] T) (u0 u1 u2 u3 u4 u5 : Value) :
  Blk ((((((w.setCell ⟨g, 0, none⟩ u0).setCell ⟨g, 1, none⟩ u1).setCell ⟨g, 2, none⟩ u2).setCell ⟨g, 3, none⟩ u3).setCell ⟨g, 4, none⟩ u4).setCell ⟨g, 5, none⟩ u5) g #[u0, u1, u2, u3, u4, u5] T := by
 have hb := (((((h.set 0 u0).set 1 u1).set 2 u2).set 3 u3).set 4 u4).set 5 u5
 simpa using hb


def formN (K E S a f : Nat) (xs : List Int) : Prop := 1 ≤ K ∧ K ≤ 3 ∧ E < 281474976710656 ∧ S < 281474976710656 ∧ a < 65536 ∧ f ≤ 64 ∧ xs.length ≤ 64 ∧ (K = 1 ∨ xs.length = 0) ∧ IsB xs
def IsPage (xs : List Int) : Prop := ∃ K E S a f ys, formN K E S a f ys ∧ xs = page K E S a f ys
def code (xs : List Int) : Int := if xs.length = 96 ∧ xs.getD 95 0 = 90 ∧ opN (xs.take 95) ≠ 0 then 4 else 3

theorem take_le (x k : Nat) (r : List Int) : (le x k ++ r).take k = le x k := List.take_left' (le_len x k)
theorem drop_le (x k : Nat) (r : List Int) : (le x k ++ r).drop k = r := List.drop_left' (le_len x k)
theorem takeSt_le (x k : Nat) (r : List Int) : takeSt false (le x k ++ r) k = (le x k, false, r) := by
 unfold takeSt
 rw [if_neg (by rw [List.length_append, le_len]; simp), take_le, drop_le]
theorem numSt_le (x k most : Nat) (r : List Int) (hx : x < 256 ^ k) (hm : x ≤ most) : numSt false (le x k ++ r) k most = (x, false, r) := by
 unfold numSt
 rw [takeSt_le]
 simp only [num_le, Nat.mod_eq_of_lt hx]
 rw [if_neg (by omega)]
theorem bytesSt_le (ys r : List Int) (most : Nat) (hl : ys.length < 65536) (hm : ys.length ≤ most) : bytesSt false (le ys.length 2 ++ (ys ++ r)) most = (ys, false, r) := by
 unfold bytesSt
 rw [numSt_le _ _ _ _ (by simpa using hl) hm]
 unfold takeSt
 rw [if_neg (by simp)]
 simp

theorem body_assoc (K E S a f : Nat) (ys : List Int) : body K E S a f ys = le K 1 ++ (le E 6 ++ (le S 6 ++ (le a 2 ++ (le f 1 ++ (le ys.length 2 ++ (ys ++ List.replicate (73 - ys.length) 0)))))) := by
 unfold body head
 simp only [List.append_assoc]

def st1 (b : List Int) := numSt false b 1 3
def st2 (b : List Int) := numSt (st1 b).2.1 (st1 b).2.2 6 281474976710656
def st3 (b : List Int) := numSt (st2 b).2.1 (st2 b).2.2 6 281474976710656
def st4 (b : List Int) := numSt (st3 b).2.1 (st3 b).2.2 2 65536
def st5 (b : List Int) := numSt (st4 b).2.1 (st4 b).2.2 1 64
def st6 (b : List Int) := bytesSt (st5 b).2.1 (st5 b).2.2 64

theorem st_body {K E S a f : Nat} {ys : List Int} (h : formN K E S a f ys) :
  (st1 (body K E S a f ys)).1 = K ∧ (st2 (body K E S a f ys)).1 = E ∧ (st3 (body K E S a f ys)).1 = S ∧ (st4 (body K E S a f ys)).1 = a ∧ (st5 (body K E S a f ys)).1 = f ∧ (st6 (body K E S a f ys)).1 = ys ∧ (st6 (body K E S a f ys)).2.1 = false := by
 obtain ⟨h1, h2, h3, h4, h5, h6, h7, h8, h9⟩ := h
 rw [body_assoc]
 have e1 : st1 (le K 1 ++ (le E 6 ++ (le S 6 ++ (le a 2 ++ (le f 1 ++ (le ys.length 2 ++ (ys ++ List.replicate (73 - ys.length) 0))))))) = (K, false, le E 6 ++ (le S 6 ++ (le a 2 ++ (le f 1 ++ (le ys.length 2 ++ (ys ++ List.replicate (73 - ys.length) 0)))))) := numSt_le _ _ _ _ (by omega) (by omega)
 generalize le K 1 ++ (le E 6 ++ (le S 6 ++ (le a 2 ++ (le f 1 ++ (le ys.length 2 ++ (ys ++ List.replicate (73 - ys.length) 0)))))) = b at *
 have e2 : st2 b = (E, false, le S 6 ++ (le a 2 ++ (le f 1 ++ (le ys.length 2 ++ (ys ++ List.replicate (73 - ys.length) 0))))) := by unfold st2; rw [e1]; exact numSt_le _ _ _ _ (by omega) (by omega)
 have e3 : st3 b = (S, false, le a 2 ++ (le f 1 ++ (le ys.length 2 ++ (ys ++ List.replicate (73 - ys.length) 0)))) := by unfold st3; rw [e2]; exact numSt_le _ _ _ _ (by omega) (by omega)
 have e4 : st4 b = (a, false, le f 1 ++ (le ys.length 2 ++ (ys ++ List.replicate (73 - ys.length) 0))) := by unfold st4; rw [e3]; exact numSt_le _ _ _ _ (by omega) (by omega)
 have e5 : st5 b = (f, false, le ys.length 2 ++ (ys ++ List.replicate (73 - ys.length) 0)) := by unfold st5; rw [e4]; exact numSt_le _ _ _ _ (by omega) (by omega)
 have e6 : st6 b = (ys, false, List.replicate (73 - ys.length) 0) := by unfold st6; rw [e5]; exact bytesSt_le _ _ _ (by omega) (by omega)
 rw [e1, e2, e3, e4, e5, e6]
 exact ⟨rfl, rfl, rfl, rfl, rfl, rfl, rfl⟩

theorem page_take (K E S a f : Nat) (ys : List Int) (h : ys.length ≤ 64) : (page K E S a f ys).take 95 = body K E S a f ys ++ le (sum (body K E S a f ys)) 4 := by
 unfold page
 exact List.take_left' (by rw [List.length_append, body_len _ _ _ _ _ _ h, le_len])
theorem page_last (K E S a f : Nat) (ys : List Int) (h : ys.length ≤ 64) : (page K E S a f ys).getD 95 0 = 90 := by
 have hl : (body K E S a f ys ++ le (sum (body K E S a f ys)) 4).length = 95 := by rw [List.length_append, body_len _ _ _ _ _ _ h, le_len]
 unfold page
 rw [List.getD_eq_getElem?_getD, List.getElem?_append_right (by omega), hl]
 rfl
theorem good_body (K E S a f : Nat) (ys : List Int) (h : ys.length ≤ 64) (hB : IsB ys) : good 91 (body K E S a f ys ++ le (sum (body K E S a f ys)) 4) := by
 have := good_seal (body K E S a f ys) (body_isB K E S a f hB)
 rwa [body_len _ _ _ _ _ _ h] at this
theorem op_good {b : List Int} (hl : b.length = 95) (hg : good 91 b) : opN b = 0 ∧ opB b = b.take 91 := by
 unfold opN opB
 have h4 : ¬ b.length < 4 := by omega
 simp only [if_neg h4, hl]
 exact ⟨if_pos hg, if_pos hg⟩
theorem op_bad {b : List Int} (hl : b.length = 95) (hg : ¬ good 91 b) : opN b = 4 := by
 unfold opN
 rw [if_neg (by omega), hl]
 exact if_neg hg
theorem op_page (K E S a f : Nat) (ys : List Int) (h : ys.length ≤ 64) (hB : IsB ys) : opN ((page K E S a f ys).take 95) = 0 ∧ opB ((page K E S a f ys).take 95) = body K E S a f ys := by
 rw [page_take _ _ _ _ _ _ h]
 have := op_good (by rw [List.length_append, body_len _ _ _ _ _ _ h, le_len]) (good_body K E S a f ys h hB)
 refine ⟨this.1, this.2.trans ?_⟩
 exact List.take_left' (body_len _ _ _ _ _ _ h)

/-- What is read off a page is what was laid. -/
theorem page_read {K E S a f : Nat} {ys xs : List Int} (h : formN K E S a f ys) (he : xs = page K E S a f ys) :
  xs.length = 96 ∧ xs.getD 95 0 = 90 ∧ opN (xs.take 95) = 0 ∧ opB (xs.take 95) = body K E S a f ys := by
 subst he
 have h7 := h.2.2.2.2.2.2.1
 have h9 := h.2.2.2.2.2.2.2.2
 exact ⟨page_len _ _ _ _ _ _ h7, page_last _ _ _ _ _ _ h7, op_page _ _ _ _ _ _ h7 h9⟩
theorem page_inj {K E S a f K' E' S' a' f' : Nat} {ys zs : List Int} (h : formN K E S a f ys) (h' : formN K' E' S' a' f' zs) (he : page K E S a f ys = page K' E' S' a' f' zs) : K = K' ∧ E = E' ∧ S = S' ∧ a = a' ∧ f = f' ∧ ys = zs := by
 have p1 := (page_read h rfl).2.2.2
 have p2 := (page_read h' he).2.2.2
 have e : body K E S a f ys = body K' E' S' a' f' zs := p1.symm.trans p2
 have s1 := st_body h
 have s2 := st_body h'
 rw [e] at s1
 obtain ⟨a1, a2, a3, a4, a5, a6, _⟩ := s1
 obtain ⟨b1, b2, b3, b4, b5, b6, _⟩ := s2
 exact ⟨a1.symm.trans b1, a2.symm.trans b2, a3.symm.trans b3, a4.symm.trans b4, a5.symm.trans b5, a6.symm.trans b6⟩

theorem code_ne (xs : List Int) : code xs ≠ 0 := by
 unfold code
 split <;> decide
/-- A page with a wrong sum, or without its last byte, is none. -/
theorem not_page_last {xs : List Int} (h : xs.length ≠ 96 ∨ xs.getD 95 0 ≠ 90) : ¬ IsPage xs := by
 rintro ⟨K, E, S, a, f, ys, hf, he⟩
 have := page_read hf he
 rcases h with h | h
 ·exact h this.1
 ·exact h this.2.1
theorem not_page_sum {xs : List Int} (h : opN (xs.take 95) ≠ 0) : ¬ IsPage xs := by
 rintro ⟨K, E, S, a, f, ys, hf, he⟩
 exact h (page_read hf he).2.2.1
end Go.Proofs.Ytpcbpljdiacbmaa.Sheet
