import Derived.Test.YtcfildbgnjhjmaaPlanAll
import Derived.Test.YtcfildbgnjhjmaaSheetRead
import Derived.Test.YtcfildbgnjhjmaaNandZ
import Derived.Test.YtcfildbgnjhjmaaMapx
set_option linter.unusedVariables false
set_option linter.unusedSimpArgs false
namespace Go.Proofs.Ytcfildbgnjhjmaa.Scan
open Go.RowKit Go.Proofs.Ytcfildbgnjhjmaa.Kit Go.Proofs.Ytcfildbgnjhjmaa.Oct Go.Proofs.Ytcfildbgnjhjmaa.Sheet Go.Proofs.Ytcfildbgnjhjmaa.Nand Go.Proofs.Ytcfildbgnjhjmaa.Plan

/-! A geometry with the form, as an argument. -/
structure Geo (w : World) (nb np : Nat) (S : Int) (A : Option Addr) (n c : Nat) (bad : List Int) : Prop where
  nums : Nums w .i64 A n bad
  nc : n ≤ c
  form : fm (nb : Int) (np : Int) S bad = true
theorem Geo.later {w w' : World} {nb np : Nat} {S : Int} {A : Option Addr} {n c : Nat} {bad : List Int} (h : Geo w nb np S A n c bad) (hB : Below w.heap.size w w') : Geo w' nb np S A n c bad := ⟨h.nums.below hB, h.nc, h.form⟩
theorem Geo.bd {w : World} {nb np : Nat} {S : Int} {A : Option Addr} {n c : Nat} {bad : List Int} (h : Geo w nb np S A n c bad) : 4 ≤ nb ∧ nb ≤ 64 ∧ 2 ≤ np ∧ np ≤ 32 ∧ 0 ≤ S ∧ S ≤ 8 ∧ 0 < cap nb np S bad := by
  obtain ⟨h1, h2, h3, h4, h5, h6, h7, h8⟩ := fm_yes h.form
  exact ⟨by omega, by omega, by omega, by omega, h5, h6, h8⟩
/-- The blocks that data may be on. -/
def us (nb : Nat) (bad : List Int) : List Int := usb nb bad
theorem us_bd {nb : Nat} {bad : List Int} {x : Int} (h : x ∈ us nb bad) : 2 ≤ x ∧ x < nb := by
  have := (usb_mem nb bad x).1 h
  exact ⟨this.1, this.2.1⟩
theorem us_wf {nb : Nat} {bad : List Int} (hb : nb ≤ 64) : ∀ x ∈ us nb bad, (Lit.int .i64 x).wf = true := fun x hx => by
  have := us_bd hx
  exact kwf_of (by omega)
theorem us_len {nb : Nat} (bad : List Int) : (us nb bad).length ≤ nb := usb_len nb bad
theorem geo_form {w : World} {nb np : Nat} {S : Int} {A : Option Addr} {n c : Nat} {bad : List Int} (h : Geo w nb np S A n c bad) :
    Calls Try.prog 48 #[.agg #[.int .i64 (nb : Int), .int .i64 (np : Int), .int .i64 S, .slice A n c]] w fun e w' => e = .returned (.bool true) ∧ Below w.heap.size w w' := by
  have := form_any (nb : Int) (np : Int) S A n c bad w h.nums h.nc
  rw [h.form] at this
  exact this
theorem geo_meta {w : World} {nb np : Nat} {S : Int} {A : Option Addr} {n c : Nat} {bad : List Int} (h : Geo w nb np S A n c bad) :
    Calls Try.prog 50 #[.agg #[.int .i64 (nb : Int), .int .i64 (np : Int), .int .i64 S, .slice A n c]] w fun e w' => e = .returned (.int .i64 (cap nb np S bad)) ∧ Below w.heap.size w w' := by
  have hb := h.bd
  exact meta_any (nb : Int) (np : Int) S A n c bad w h.nums (by omega) (by omega) (by omega) (by omega) (by omega)
theorem geo_usable {w : World} {nb np : Nat} {S : Int} {A : Option Addr} {n c : Nat} {bad : List Int} (h : Geo w nb np S A n c bad) :
    Calls Try.prog 51 #[.agg #[.int .i64 (nb : Int), .int .i64 (np : Int), .int .i64 S, .slice A n c]] w fun e w' => ∃ U d, e = .returned (.slice U (us nb bad).length d) ∧ Nums w' .i64 U (us nb bad).length (us nb bad) ∧ (∀ a, U = some a → w.heap.size ≤ a.block) ∧ Below w.heap.size w w' := by
  have hb := h.bd
  refine (usable_any (nb : Int) (np : Int) S A n c bad w h.nums (by omega)).mono ?_
  rintro e w' ⟨v, rfl, ho, hB⟩
  rw [Int.toNat_natCast] at ho
  obtain ⟨U, d, rfl, -, hz⟩ := own_nums ho (us_wf (bad := bad) hb.2.1)
  exact ⟨U, d, rfl, hz, fun a ha => own_low ho a.block (by rw [ha]; rfl), hB⟩
theorem cap_bd {nb np : Nat} {S : Int} {bad : List Int} (hb : nb ≤ 64) (hp : np ≤ 32) (hS : 0 ≤ S) : cap nb np S bad ≤ 2048 := by
  unfold cap
  rw [Int.toNat_natCast]
  have := usb_len nb bad
  have h2 : (np : Int) * (((usb nb bad).length : Int) - S - 1) ≤ 32 * 64 := by
    by_cases h0 : 0 ≤ ((usb nb bad).length : Int) - S - 1
    · exact Int.mul_le_mul (by omega) (by omega) h0 (by omega)
    · have : (np : Int) * (((usb nb bad).length : Int) - S - 1) ≤ 0 := Int.mul_nonpos_of_nonneg_of_nonpos (by omega) (by omega)
      omega
  omega

/-! What stands on a page. -/
structure Pg where
  K : Nat
  E : Nat
  S : Nat
  a : Nat
  f : Nat
  ys : List Int
def Pg.ok (p : Pg) : Prop := formN p.K p.E p.S p.a p.f p.ys
def Pg.bytes (p : Pg) : List Int := page p.K p.E p.S p.a p.f p.ys
open Classical in
noncomputable def rdP (q : List Int) : Option Pg := if h : ∃ p : Pg, p.ok ∧ q = p.bytes then some h.choose else none
theorem rdP_yes {q : List Int} {p : Pg} (h : p.ok) (hq : q = p.bytes) : rdP q = some p := by
  have hx : ∃ p : Pg, p.ok ∧ q = p.bytes := ⟨p, h, hq⟩
  unfold rdP
  rw [dif_pos hx]
  obtain ⟨h1, h2⟩ := hx.choose_spec
  obtain ⟨e1, e2, e3, e4, e5, e6⟩ := page_inj h1 h (h2.symm.trans hq)
  congr 1
  generalize hx.choose = x at *
  cases x
  cases p
  simp only at e1 e2 e3 e4 e5 e6
  subst e1; subst e2; subst e3; subst e4; subst e5; subst e6
  rfl
theorem rdP_no {q : List Int} (h : ¬ IsPage q) : rdP q = none := by
  unfold rdP
  rw [dif_neg]
  rintro ⟨p, h1, h2⟩
  exact h ⟨_, _, _, _, _, _, h1, h2⟩
theorem rdP_some {q : List Int} {p : Pg} (h : rdP q = some p) : p.ok ∧ q = p.bytes := by
  unfold rdP at h
  split at h
  · rename_i hx
    injection h with h
    rw [← h]
    exact hx.choose_spec
  · cases h
/-- Is it of an address? -/
def Pg.of (lim : Int) (p : Pg) : Bool := decide (p.K ≠ 3 ∧ (p.a : Int) ≤ lim)
/-- A page's place in its block, and what stands there. -/
noncomputable def found1 (lim : Int) (k : Nat) (q : List Int) : List (Nat × Pg) := match rdP q with
  | some p => if p.of lim then [(k, p)] else []
  | none => []
noncomputable def found (lim : Int) (qs : List (List Int)) : List (Nat × Pg) := (List.range qs.length).flatMap fun k => found1 lim k (qs.getD k [])
theorem flat_ext {α β : Type} {f g : α → List β} : ∀ (l : List α), (∀ x ∈ l, f x = g x) → l.flatMap f = l.flatMap g
  | [], _ => rfl
  | x :: l, h => by rw [List.flatMap_cons, List.flatMap_cons, h x List.mem_cons_self, flat_ext l (fun y hy => h y (List.mem_cons_of_mem _ hy))]
theorem found_take (lim : Int) (qs : List (List Int)) (k : Nat) (hk : k < qs.length) : found lim (qs.take (k + 1)) = found lim (qs.take k) ++ found1 lim k (qs.getD k []) := by
  have e1 : (qs.take (k + 1)).length = k + 1 := by rw [List.length_take]; omega
  have e2 : (qs.take k).length = k := by rw [List.length_take]; omega
  unfold found
  rw [e1, e2, List.range_succ, List.flatMap_append, List.flatMap_singleton]
  congr 1
  · refine flat_ext _ fun j hj => ?_
    have hj : j < k := List.mem_range.1 hj
    congr 1
    rw [List.getD_eq_getElem?_getD, List.getD_eq_getElem?_getD, List.getElem?_take_of_lt (by omega), List.getElem?_take_of_lt hj]
  · congr 1
    rw [List.getD_eq_getElem?_getD, List.getD_eq_getElem?_getD, List.getElem?_take_of_lt (by omega)]
theorem found_len (lim : Int) (qs : List (List Int)) : (found lim qs).length ≤ qs.length := by
  have h : ∀ (l : List Nat), (l.flatMap fun k => found1 lim k (qs.getD k [])).length ≤ l.length := by
    intro l
    induction l with
    | nil => simp
    | cons x l ih =>
      rw [List.flatMap_cons, List.length_append, List.length_cons]
      have : (found1 lim x (qs.getD x [])).length ≤ 1 := by
        unfold found1
        split
        · split <;> simp
        · simp
      omega
  have := h (List.range qs.length)
  rw [List.length_range] at this
  exact this

/-! What was found, in a slice. -/
/-- A page found: its place there, what stands on it, and the header of its data. -/
structure Fd where
  k : Nat
  p : Pg
  A : Option Addr
  n : Nat
  c : Nat
def Fd.cells (i : Int) (x : Fd) : List Value := [.int .i64 i, .int .i64 (x.k : Int), .int .u8 (x.p.K : Int), .int .u64 (x.p.E : Int), .int .u64 (x.p.S : Int), .int .i64 (x.p.a : Int), .int .i64 ((x.p.f : Int) - 1), .slice x.A x.n x.c]
def Fd.val (i : Int) (x : Fd) : Value := .agg (x.cells i).toArray
def Fd.there (w : World) (x : Fd) : Prop := x.p.ok ∧ Nums w .u8 x.A x.n x.p.ys
theorem Fd.there.later {w w' : World} {x : Fd} (h : x.there w) (hB : Below w.heap.size w w') : x.there w' := ⟨h.1, h.2.below hB⟩
/-- v is a slice of a row of its own, of what was found on block i. -/
def Fnds (w : World) (base : Nat) (v : Value) (i : Int) (l : List Fd) : Prop :=
  w.ownsRow base 67 8 v l.length (l.flatMap (Fd.cells i)) ∧ ∀ x ∈ l, x.there w ∧ (0 < x.n → ∀ a, x.A = some a → v.ownBlock ≠ some a.block ∧ base ≤ a.block)
theorem Fnds.later {w w' : World} {base : Nat} {v : Value} {i : Int} {l : List Fd} (h : Fnds w base v i l) (hB : Below w.heap.size w w') : Fnds w' base v i l := ⟨own_later h.1 hB, fun x hx => ⟨(h.2 x hx).1.later hB, (h.2 x hx).2⟩⟩
theorem Fnds.nil (w : World) (base : Nat) (i : Int) : Fnds w base (.slice none 0 0) i [] := ⟨World.ownsRow_nil _ _ _ _, fun x hx => by cases hx⟩
theorem Fd.cells_len (i : Int) (x : Fd) : (x.cells i).length = 8 := rfl
theorem Fd.lt {w : World} {x : Fd} (h : x.there w) (hn : 0 < x.n) {a : Addr} (ha : x.A = some a) : a.block < w.heap.size := by
  obtain ⟨b, o, e, hc⟩ := h.2.at_ 0 hn
  rw [ha] at e
  injection e with e
  subst e
  exact World.block_lt_of_cell? w _ hc
theorem Fnds.push {W w1 : World} {base : Nat} {v v1 : Value} {i : Int} {l : List Fd} (h : Fnds W base v i l) (x : Fd) (hx : x.there W) (hd : 0 < x.n → ∀ a, x.A = some a → v.ownBlock ≠ some a.block ∧ base ≤ a.block)
    (ho : w1.ownsRow base 67 8 v1 (l.length + 1) (l.flatMap (Fd.cells i) ++ x.cells i)) (hg : W.grownBy w1 v.ownBlock) (hat : v1.ownBlock = v.ownBlock ∨ ∃ b, v1.ownBlock = some b ∧ W.heap.size ≤ b) : Fnds w1 base v1 i (l ++ [x]) := by
  refine ⟨?_, fun y hy => ?_⟩
  · rw [List.length_append, List.length_singleton, List.flatMap_append, List.flatMap_singleton]
    exact ho
  · have hy' : y.there W ∧ (0 < y.n → ∀ a, y.A = some a → v.ownBlock ≠ some a.block ∧ base ≤ a.block) := by
      rcases List.mem_append.1 hy with hy | hy
      · exact h.2 y hy
      · rw [List.mem_singleton.1 hy]
        exact ⟨hx, hd⟩
    refine ⟨⟨hy'.1.1, hy'.1.2.grown hg (fun hn a ha e => (hy'.2 hn a ha).1 e.symm)⟩, fun hn a ha => ⟨fun e => ?_, (hy'.2 hn a ha).2⟩⟩
    have hlt := Fd.lt hy'.1 hn ha
    rcases hat with h1 | ⟨b, h1, h2⟩
    · exact (hy'.2 hn a ha).1 (h1.symm.trans e)
    · rw [h1] at e
      injection e with e
      omega
theorem flat_get {α β : Type} (f : α → List β) (m : Nat) (hf : ∀ x, (f x).length = m) : ∀ (l : List α) (j k : Nat) (d : α), j < l.length → k < m → (l.flatMap f)[j * m + k]? = (f (l.getD j d))[k]?
  | [], j, k, d, hj, hk => absurd hj (by simp)
  | x :: l, 0, k, d, hj, hk => by
    rw [List.flatMap_cons, List.getElem?_append_left (by rw [hf]; omega), Nat.zero_mul, Nat.zero_add]
    rfl
  | x :: l, j + 1, k, d, hj, hk => by
    have e : (j + 1) * m + k = m + (j * m + k) := by rw [Nat.succ_mul]; omega
    rw [List.flatMap_cons, List.getElem?_append_right (by rw [hf, e]; omega), hf, e, show m + (j * m + k) - m = j * m + k by omega]
    exact flat_get f m hf l j k d (by simpa using hj) hk
instance : Inhabited Fd := ⟨⟨0, ⟨0, 0, 0, 0, 0, []⟩, none, 0, 0⟩⟩
/-- A slice of what was found, as it reads. -/
theorem Fnds.read {w : World} {base : Nat} {v : Value} {i : Int} {l : List Fd} (h : Fnds w base v i l) : ∃ A c, v = .slice A l.length c ∧ ∀ j, j < l.length → ∃ g, A = some ⟨g, 0, none⟩ ∧ ∀ k u, ((l.getD j default).cells i)[k]? = some u → w.cell? ⟨g, j * 8 + k, none⟩ = some u := by
  have ho := h.1
  rcases ho.2 with ⟨rfl, h0⟩ | ⟨g, cap, cur, rfl, hg, hh, h1⟩
  · have hl : l.length = 0 := h0
    exact ⟨none, 0, by rw [hl], fun j hj => by omega⟩
  · refine ⟨_, _, rfl, fun j hj => ⟨g, rfl, fun k u hk => ?_⟩⟩
    have hk8 : k < 8 := by
      have := (List.getElem?_eq_some_iff.1 hk).1
      rwa [Fd.cells_len] at this
    rw [← flat_get (Fd.cells i) 8 (Fd.cells_len i) l j k default hj hk8] at hk
    have := ho.cells rfl _ u hk
    rw [show (⟨g, 0, none⟩ : Addr).add (j * 8 + k) = ⟨g, j * 8 + k, none⟩ by unfold Addr.add; split <;> simp_all] at this
    exact this
theorem nums_fr {w w' : World} {S : Nat → Prop} {k : IntKind} {A : Option Addr} {n : Nat} {xs : List Int} (h : Nums w k A n xs) (hf : Fr S w w') (hS : 0 < n → ∀ a, A = some a → ¬ S a.block) : Nums w' k A n xs :=
  ⟨h.len, h.most, fun j hj => by
    obtain ⟨b, o, e, hc⟩ := h.cell j hj
    refine ⟨b, o, e, fun i hi => ?_⟩
    have := hc i hi
    rw [World.cell?_of_block (hf.block b (World.block_lt_of_cell? w _ this) (hS (by omega) _ e))]
    exact this, h.wf⟩
theorem Fnds.fr {w w' : World} {S : Nat → Prop} {base : Nat} {v : Value} {i : Int} {l : List Fd} (h : Fnds w base v i l) (hf : Fr S w w') (hS : ∀ g, S g → g < base) : Fnds w' base v i l := by
  refine ⟨own_keep h.1 (fun g hg => ?_), fun x hx => ⟨⟨(h.2 x hx).1.1, nums_fr (h.2 x hx).1.2 hf (fun hn a ha hs => ?_)⟩, (h.2 x hx).2⟩⟩
  · obtain ⟨h1, h2⟩ := h.1.lt g hg
    exact hf.block g h2 (fun hs => by have := hS g hs; omega)
  · have := ((h.2 x hx).2 hn a ha).2
    have := hS _ hs
    omega
theorem Fnds.mono {w : World} {base base' : Nat} {v : Value} {i : Int} {l : List Fd} (h : Fnds w base v i l) (hb : base' ≤ base) : Fnds w base' v i l :=
  ⟨own_mono h.1 hb, fun x hx => ⟨(h.2 x hx).1, fun hn a ha => ⟨((h.2 x hx).2 hn a ha).1, Nat.le_trans hb ((h.2 x hx).2 hn a ha).2⟩⟩⟩
end Go.Proofs.Ytcfildbgnjhjmaa.Scan
