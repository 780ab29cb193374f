import Derived.Test.YtcfildbgnjhjmaaNandModel
set_option linter.unusedVariables false
set_option linter.unusedSimpArgs false
namespace Go.Proofs.Ytcfildbgnjhjmaa.Nand
open Go.RowKit Go.Proofs.Ytcfildbgnjhjmaa.Kit

/-- Nothing but blocks of F, and new ones, has changed. -/
structure Fr (F : Nat → Prop) (w w' : World) : Prop where
  os : w'.os = w.os
  tape : w'.tape = w.tape
  output : w'.output = w.output
  size : w.heap.size ≤ w'.heap.size
  block : ∀ g, g < w.heap.size → ¬ F g → w'.heap[g]? = w.heap[g]?
theorem Fr.refl (F : Nat → Prop) (w : World) : Fr F w w := ⟨rfl, rfl, rfl, Nat.le_refl _, fun _ _ _ => rfl⟩
theorem Fr.trans {F G : Nat → Prop} {w w1 w2 : World} (h : Fr F w w1) (k : Fr G w1 w2) (hG : ∀ g, g < w.heap.size → G g → F g) : Fr F w w2 :=
  ⟨k.os.trans h.os, k.tape.trans h.tape, k.output.trans h.output, Nat.le_trans h.size k.size, fun g hg hn => (k.block g (Nat.lt_of_lt_of_le hg h.size) (fun x => hn (hG g hg x))).trans (h.block g hg hn)⟩
theorem Fr.mono {F G : Nat → Prop} {w w1 : World} (h : Fr F w w1) (hG : ∀ g, g < w.heap.size → F g → G g) : Fr G w w1 :=
  ⟨h.os, h.tape, h.output, h.size, fun g hg hn => h.block g hg (fun x => hn (hG g hg x))⟩
theorem Fr.of_below {F : Nat → Prop} {w w1 : World} (h : Below w.heap.size w w1) : Fr F w w1 := ⟨h.os, h.tape, h.output, h.size, fun g hg _ => h.block g hg⟩
theorem Fr.of_grown {F : Nat → Prop} {w w1 : World} {row : Option Nat} (h : w.grownBy w1 row) (hr : ∀ g, row = some g → F g) : Fr F w w1 :=
  ⟨h.os, h.tape, h.output, h.size, fun g hg hn => h.block g hg (fun x => hn (hr g x.symm))⟩
theorem Fr.set {F : Nat → Prop} {w w1 : World} (h : Fr F w w1) (g i : Nat) (v : Value) (hg : F g ∨ w.heap.size ≤ g) : Fr F w (w1.setCell ⟨g, i, none⟩ v) :=
  ⟨h.os, h.tape, h.output, by simpa [World.setCell] using h.size, fun j hj hn => (Below.heap_setCell w1 ⟨g, i, none⟩ v j (by rintro rfl; rcases hg with hg | hg; exact hn hg; exact absurd hj (Nat.not_lt.2 hg))).trans (h.block j hj hn)⟩
theorem Fr.alloc {F : Nat → Prop} {w w1 : World} (h : Fr F w w1) (o : Obj) : Fr F w (w1.alloc o) :=
  h.trans (G := fun _ => False) (Fr.of_below ((Below.refl _ _).alloc (Nat.le_refl _) o)) (fun _ _ x => x.elim)
theorem Fr.drewN {F : Nat → Prop} {w w1 : World} (h : Fr F w w1) (n : Nat) : Fr F w (w1.drewN n) := ⟨h.os, h.tape, h.output, h.size, h.block⟩
theorem Fr.below {F : Nat → Prop} {w w1 : World} {B : Nat} (h : Fr F w w1) (hB : B ≤ w.heap.size) (hF : ∀ g, F g → B ≤ g) : Below B w w1 :=
  ⟨h.os, h.tape, h.output, h.size, fun g hg => h.block g (by omega) (fun x => by have := hF g x; omega)⟩
/-- The blocks of F and those that are new. -/
def grow (F : Nat → Prop) (w w' : World) : Nat → Prop := fun g => F g ∨ (w.heap.size ≤ g ∧ g < w'.heap.size)

theorem own_keep {w w' : World} {base n size : Nat} {e : TypeId} {v : Value} {xs : List Value} (h : w.ownsRow base e size v n xs) (hk : ∀ g, v.ownBlock = some g → w'.heap[g]? = w.heap[g]?) : w'.ownsRow base e size v n xs := by
  obtain ⟨h1, h2⟩ := h
  refine ⟨h1, ?_⟩
  rcases h2 with h2 | ⟨g, cap, cur, hv, hg, hh, r⟩
  · exact .inl h2
  · exact .inr ⟨g, cap, cur, hv, hg, by rw [hk g (by rw [hv]; rfl)]; exact hh, r⟩
theorem own_block {w : World} {base n size : Nat} {e : TypeId} {v : Value} {xs : List Value} (h : w.ownsRow base e size v n xs) (g : Nat) (hg : v.ownBlock = some g) : ∃ cur, w.heap[g]? = some (.cells cur e (0, 0)) ∧ g < w.heap.size := by
  rcases h.2 with ⟨rfl, _⟩ | ⟨k, cap, cur, rfl, _, hk, _⟩
  · cases hg
  · have : k = g := by simpa [Value.ownBlock] using hg
    subst this
    exact ⟨cur, hk, (Array.getElem?_eq_some_iff.1 hk).1⟩
theorem own_base {w : World} {base base' n size : Nat} {e : TypeId} {v : Value} {xs : List Value} (h : w.ownsRow base e size v n xs) (hb : ∀ g, v.ownBlock = some g → base' ≤ g) : w.ownsRow base' e size v n xs := by
  obtain ⟨h1, h2⟩ := h
  refine ⟨h1, ?_⟩
  rcases h2 with h2 | ⟨g, cap, cur, hv, hg, r⟩
  · exact .inl h2
  · exact .inr ⟨g, cap, cur, hv, hb g (by rw [hv]; rfl), r⟩
theorem own_low {w : World} {base n size : Nat} {e : TypeId} {v : Value} {xs : List Value} (h : w.ownsRow base e size v n xs) (g : Nat) (hg : v.ownBlock = some g) : base ≤ g := by
  rcases h.2 with ⟨rfl, _⟩ | ⟨k, cap, cur, rfl, hb, hk, _⟩
  · cases hg
  · have : k = g := by simpa [Value.ownBlock] using hg
    omega

/-- A page's bytes, in a row of their own. -/
def ByteR (w : World) (F : Nat → Prop) (u : Value) (q : List Int) : Prop :=
  w.ownsRow 0 5 1 u q.length (q.map (Value.int .u8)) ∧ (∀ x ∈ q, (Lit.int .u8 x).wf = true) ∧ ∀ g, u.ownBlock = some g → F g
theorem ByteR.keep {w w' : World} {F F' : Nat → Prop} {u : Value} {q : List Int} (h : ByteR w F u q) (hk : ∀ g, u.ownBlock = some g → F g → w'.heap[g]? = w.heap[g]?) (hF : ∀ g, u.ownBlock = some g → F g → F' g) : ByteR w' F' u q :=
  ⟨own_keep h.1 (fun g hg => hk g hg (h.2.2 g hg)), h.2.1, fun g hg => hF g hg (h.2.2 g hg)⟩
/-- The pages of a block. -/
def PagesR (w : World) (F : Nat → Prop) (v : Value) (pgs : List (List Int)) : Prop :=
  ∃ xs : List Value, w.ownsRow 0 39 1 v pgs.length xs ∧ (∀ g, v.ownBlock = some g → F g) ∧ ∀ j, j < pgs.length → ∃ u, xs[j]? = some u ∧ (pgs.getD j []).length = 96 ∧ ByteR w F u (pgs.getD j [])
theorem PagesR.keep {w w' : World} {F F' : Nat → Prop} {v : Value} {pgs : List (List Int)} (h : PagesR w F v pgs) (hk : ∀ g cur, w.heap[g]? = some (.cells cur 39 (0, 0)) ∧ v.ownBlock = some g ∨ w.heap[g]? = some (.cells cur 5 (0, 0)) → F g → w'.heap[g]? = w.heap[g]?) (hF : ∀ g, g < w.heap.size → F g → F' g) : PagesR w' F' v pgs := by
  obtain ⟨xs, ho, hf, hp⟩ := h
  refine ⟨xs, own_keep ho (fun g hg => ?_), fun g hg => hF g (own_block ho g hg).choose_spec.2 (hf g hg), fun j hj => ?_⟩
  · obtain ⟨cur, hc, _⟩ := own_block ho g hg
    exact hk g cur (.inl ⟨hc, hg⟩) (hf g hg)
  · obtain ⟨u, hu, hl, hb⟩ := hp j hj
    refine ⟨u, hu, hl, hb.keep (fun g hg hFg => ?_) (fun g hg hFg => hF g (own_block hb.1 g hg).choose_spec.2 hFg)⟩
    obtain ⟨cur, hc, _⟩ := own_block hb.1 g hg
    exact hk g cur (.inr hc) hFg
def recOf (v : Value) (x : NB) : List Value := [v, .int .i64 x.erases, .bool x.half, .bool x.dead, .bool x.failed, .int .i64 (x.doom : Int)]
/-- The row of blocks. -/
def RowB (w : World) (gb : Nat) (pv : Nat → Value) (bs : List NB) : Prop :=
  ∃ cs : Array Value, Blk w gb cs 99 ∧ cs.size = bs.length * 6 ∧ ∀ i, i < bs.length → ∀ k v, (recOf (pv i) (bs.getD i default))[k]? = some v → cs[i * 6 + k]? = some v
theorem recOf_lt {v u : Value} {x : NB} {k : Nat} (h : (recOf v x)[k]? = some u) : k < 6 := (List.getElem?_eq_some_iff.1 h).1
theorem RowB.keep {w w' : World} {gb : Nat} {pv : Nat → Value} {bs : List NB} (h : RowB w gb pv bs) (hk : w'.heap[gb]? = w.heap[gb]?) : RowB w' gb pv bs := by
  obtain ⟨cs, hb, r⟩ := h
  exact ⟨cs, by unfold Blk at *; rw [hk]; exact hb, r⟩
theorem RowB.cell {w : World} {gb : Nat} {pv : Nat → Value} {bs : List NB} (h : RowB w gb pv bs) (i : Nat) (hi : i < bs.length) (k : Nat) (v : Value) (hv : (recOf (pv i) (bs.getD i default))[k]? = some v) : w.cell? ⟨gb, i * 6 + k, none⟩ = some v := by
  obtain ⟨cs, hb, hs, hc⟩ := h
  rw [hb.cell]
  exact hc i hi k v hv
theorem RowB.free {w : World} {gb : Nat} {pv : Nat → Value} {bs : List NB} (h : RowB w gb pv bs) (o : Nat) : w.frozen? ⟨gb, o, none⟩ = false := by
  obtain ⟨cs, hb, _⟩ := h
  exact hb.free o
theorem RowB.block {w : World} {gb : Nat} {pv : Nat → Value} {bs : List NB} (h : RowB w gb pv bs) : ∃ cs, w.heap[gb]? = some (.cells cs 99 (0, 0)) := by
  obtain ⟨cs, hb, _⟩ := h
  exact ⟨cs, hb⟩
/-- One field of one block is stored. -/
theorem RowB.set {w : World} {gb : Nat} {pv : Nat → Value} {bs : List NB} (h : RowB w gb pv bs) (i k : Nat) (hi : i < bs.length) (hk : k < 6) (u : Value) (pv' : Nat → Value) (x : NB) (hx : recOf (pv' i) x = (recOf (pv i) (bs.getD i default)).set k u) (hp : ∀ j, j ≠ i → pv' j = pv j) :
    RowB (w.setCell ⟨gb, i * 6 + k, none⟩ u) gb pv' (bs.set i x) := by
  obtain ⟨cs, hb, hs, hc⟩ := h
  refine ⟨cs.setIfInBounds (i * 6 + k) u, hb.set (i * 6 + k) u, by simpa using hs, fun j hj l v hv => ?_⟩
  rw [List.length_set] at hj
  have hl := recOf_lt hv
  rw [Array.getElem?_setIfInBounds]
  have hgd : (bs.set i x).getD j default = if j = i then x else bs.getD j default := by
    rw [List.getD_eq_getElem?_getD, List.getElem?_set, List.getD_eq_getElem?_getD]
    by_cases e : i = j
    · subst e
      rw [if_pos rfl, if_pos hi, if_pos rfl]
      rfl
    · rw [if_neg e, if_neg (fun x => e x.symm)]
  rw [hgd] at hv
  by_cases e : j = i
  · subst e
    rw [if_pos rfl, hx, List.getElem?_set] at hv
    by_cases e2 : k = l
    · subst e2
      rw [if_pos rfl, if_pos (by simp [recOf]; exact hk)] at hv
      rw [if_pos rfl, if_pos (by omega)]
      exact hv
    · rw [if_neg e2] at hv
      rw [if_neg (by omega)]
      exact hc j hj l v hv
  · rw [if_neg e, hp j e] at hv
    rw [if_neg (by omega)]
    exact hc j hj l v hv
/-- What lies in the field way. -/
def WayR (w : World) (F : Nat → Prop) (gb : Nat) (way : Option Way) (v : Value) : Prop :=
  match way with
  | none => v = .nilFunc
  | some y =>
    match y.q with
    | some q => ∃ c1 c2 u, v = .func (.func 43) #[] #[.pointer (some ⟨c1, 0, none⟩), .pointer (some ⟨c2, 0, none⟩)] ∧ Blk w c1 #[.pointer (some ⟨gb, y.i * 6, none⟩)] 103 ∧ Blk w c2 #[u] 39 ∧ F c1 ∧ F c2 ∧ q.length = 96 ∧ ByteR w F u q
    | none => ∃ c1 c2 c3, v = .func (.func 55) #[] #[.pointer (some ⟨c2, 0, none⟩), .pointer (some ⟨c3, 0, none⟩), .pointer (some ⟨c1, 0, none⟩)] ∧ Blk w c1 #[.pointer (some ⟨gb, y.i * 6, none⟩)] 103 ∧ Blk w c2 #[.bool y.dead] 4 ∧ Blk w c3 #[.func (.func 54) #[] #[.pointer (some ⟨c1, 0, none⟩)]] 1 ∧ F c1 ∧ F c2 ∧ F c3
theorem WayR.keep {w w' : World} {F F' : Nat → Prop} {gb : Nat} {way : Option Way} {v : Value} (h : WayR w F gb way v) (hk : ∀ g, F g → (∀ cs, w.heap[g]? ≠ some (.cells cs 96 (0, 0))) → (∀ cs, w.heap[g]? ≠ some (.cells cs 99 (0, 0))) → w'.heap[g]? = w.heap[g]?) (hF : ∀ g, g < w.heap.size → F g → F' g) : WayR w' F' gb way v := by
  unfold WayR at *
  have hkb : ∀ g cs T, Blk w g cs T → F g → T ≠ 96 → T ≠ 99 → Blk w' g cs T := by
    intro g cs T hb hg h1 h2
    unfold Blk at *
    rw [hk g hg (fun cs' e => by rw [hb] at e; injection e with e; injection e with _ e; exact h1 e) (fun cs' e => by rw [hb] at e; injection e with e; injection e with _ e; exact h2 e)]
    exact hb
  cases way with
  | none => exact h
  | some y =>
    simp only at h ⊢
    cases hq : y.q with
    | some q =>
      rw [hq] at h
      obtain ⟨c1, c2, u, hv, b1, b2, f1, f2, hl, hb⟩ := h
      refine ⟨c1, c2, u, hv, hkb _ _ _ b1 f1 (by decide) (by decide), hkb _ _ _ b2 f2 (by decide) (by decide), hF _ b1.lt f1, hF _ b2.lt f2, hl, hb.keep (fun g hg hFg => ?_) (fun g hg hFg => hF g (own_block hb.1 g hg).choose_spec.2 hFg)⟩
      obtain ⟨cur, hc, _⟩ := own_block hb.1 g hg
      exact hk g hFg (fun cs' e => by rw [hc] at e; injection e with e; injection e with _ e; revert e; decide) (fun cs' e => by rw [hc] at e; injection e with e; injection e with _ e; revert e; decide)
    | none =>
      rw [hq] at h
      obtain ⟨c1, c2, c3, hv, b1, b2, b3, f1, f2, f3⟩ := h
      exact ⟨c1, c2, c3, hv, hkb _ _ _ b1 f1 (by decide) (by decide), hkb _ _ _ b2 f2 (by decide) (by decide), hkb _ _ _ b3 f3 (by decide) (by decide), hF _ b1.lt f1, hF _ b2.lt f2, hF _ b3.lt f3⟩
def hdOf (gb : Nat) (N : NA) (wv : Value) : Array Value := #[.slice (some ⟨gb, 0, none⟩) N.bs.length N.bs.length, .int .i64 (N.pages : Int), .int .u64 N.fence, .int .i64 N.boots, .int .i64 (N.armed : Int), .bool N.off, .int .i64 N.ops, wv]
/-- An array in memory. -/
structure AR (w : World) (F : Nat → Prop) (b gb : Nat) (pv : Nat → Value) (wv : Value) (N : NA) : Prop where
  hd : Blk w b (hdOf gb N wv) 96
  row : RowB w gb pv N.bs
  pgs : ∀ i, i < N.bs.length → PagesR w F (pv i) (N.blk i).pages
  apart : ∀ i j, i < N.bs.length → j < N.bs.length → i ≠ j → ∀ g, (pv i).ownBlock = some g → (pv j).ownBlock ≠ some g
  way : WayR w F gb N.way wv
  inb : F b
  ing : F gb
  low : ∀ g, F g → g < w.heap.size
  wf : N.Wf
theorem AR.keep {w w' : World} {F : Nat → Prop} {b gb : Nat} {pv : Nat → Value} {wv : Value} {N : NA} (h : AR w F b gb pv wv N) (hk : ∀ g, F g → w'.heap[g]? = w.heap[g]?) (hs : w.heap.size ≤ w'.heap.size) : AR w' F b gb pv wv N :=
  ⟨by have := h.hd; unfold Blk at *; rw [hk b h.inb]; exact this, h.row.keep (hk gb h.ing), fun i hi => (h.pgs i hi).keep (fun g _ _ hg => hk g hg) (fun _ _ hg => hg), h.apart, h.way.keep (fun g hg _ _ => hk g hg) (fun _ _ hg => hg), h.inb, h.ing, fun g hg => Nat.lt_of_lt_of_le (h.low g hg) hs, h.wf⟩
def Arr (w : World) (F : Nat → Prop) (b : Nat) (N : NA) : Prop := ∃ gb pv wv, AR w F b gb pv wv N
theorem Arr.keep {w w' : World} {F : Nat → Prop} {b : Nat} {N : NA} (h : Arr w F b N) (hk : ∀ g, F g → w'.heap[g]? = w.heap[g]?) (hs : w.heap.size ≤ w'.heap.size) : Arr w' F b N := by
  obtain ⟨gb, pv, wv, h⟩ := h
  exact ⟨gb, pv, wv, h.keep hk hs⟩
theorem Arr.low {w : World} {F : Nat → Prop} {b : Nat} {N : NA} (h : Arr w F b N) : ∀ g, F g → g < w.heap.size := by
  obtain ⟨gb, pv, wv, h⟩ := h
  exact h.low
theorem Arr.wf {w : World} {F : Nat → Prop} {b : Nat} {N : NA} (h : Arr w F b N) : N.Wf := by
  obtain ⟨gb, pv, wv, h⟩ := h
  exact h.wf
theorem Arr.later {w w' : World} {F : Nat → Prop} {b : Nat} {N : NA} (h : Arr w F b N) (hB : Below w.heap.size w w') : Arr w' F b N := h.keep (fun g hg => hB.block g (h.low g hg)) hB.size
theorem Arr.fr {w w' : World} {F G : Nat → Prop} {b : Nat} {N : NA} (h : Arr w F b N) (hf : Fr G w w') (hd : ∀ g, F g → ¬ G g) : Arr w' F b N := h.keep (fun g hg => hf.block g (h.low g hg) (hd g hg)) hf.size
theorem AR.mono {w : World} {F F' : Nat → Prop} {b gb : Nat} {pv : Nat → Value} {wv : Value} {N : NA} (h : AR w F b gb pv wv N) (hF : ∀ g, F g → F' g) (hl : ∀ g, F' g → g < w.heap.size) : AR w F' b gb pv wv N :=
  ⟨h.hd, h.row, fun i hi => (h.pgs i hi).keep (fun _ _ _ _ => rfl) (fun g _ hg => hF g hg), h.apart, h.way.keep (fun _ _ _ _ => rfl) (fun g _ hg => hF g hg), hF _ h.inb, hF _ h.ing, hl, h.wf⟩
/-- Only the head and the row of blocks have changed, and no pages. -/
theorem AR.upd {w w' : World} {F S : Nat → Prop} {b gb : Nat} {pv : Nat → Value} {wv : Value} {N : NA} (h : AR w F b gb pv wv N) (hf : Fr S w w') (hS : ∀ g, S g → g = b ∨ g = gb) (N' : NA) (wv' : Value) (hb : Blk w' b (hdOf gb N' wv') 96) (hr : RowB w' gb pv N'.bs)
    (hl : N'.bs.length = N.bs.length) (hp : ∀ i, i < N.bs.length → (N'.blk i).pages = (N.blk i).pages) (hw : WayR w' F gb N'.way wv') (wf : N'.Wf) : AR w' F b gb pv wv' N' := by
  have hbt := h.hd
  obtain ⟨cs, hrt⟩ := h.row.block
  refine ⟨hb, hr, fun i hi => ?_, fun i j hi hj => h.apart i j (by omega) (by omega), hw, h.inb, h.ing, fun g hg => Nat.lt_of_lt_of_le (h.low g hg) hf.size, wf⟩
  rw [hp i (by omega)]
  refine (h.pgs i (by omega)).keep (fun g cur ht hg => hf.block g (h.low g hg) (fun hs => ?_)) (fun _ _ hg => hg)
  unfold Blk at hbt
  rcases hS g hs with rfl | rfl
  · rw [hbt] at ht
    rcases ht with ⟨e, _⟩ | e <;> (injection e with e; injection e with _ e; revert e; decide)
  · rw [hrt] at ht
    rcases ht with ⟨e, _⟩ | e <;> (injection e with e; injection e with _ e; revert e; decide)
theorem AR.ne {w : World} {F : Nat → Prop} {b gb : Nat} {pv : Nat → Value} {wv : Value} {N : NA} (h : AR w F b gb pv wv N) : b ≠ gb := by
  rintro rfl
  obtain ⟨cs, hr⟩ := h.row.block
  have := h.hd
  unfold Blk at this
  rw [this] at hr
  injection hr with hr
  injection hr with _ hr
  revert hr
  decide
/-- The same way, where only the head and the row have changed. -/
theorem AR.wayKeep {w w' : World} {F S : Nat → Prop} {b gb : Nat} {pv : Nat → Value} {wv : Value} {N : NA} (h : AR w F b gb pv wv N) (hf : Fr S w w') (hS : ∀ g, S g → g = b ∨ g = gb) : WayR w' F gb N.way wv := by
  have hbt := h.hd
  obtain ⟨cs, hrt⟩ := h.row.block
  refine h.way.keep (fun g hg h1 h2 => hf.block g (h.low g hg) (fun hs => ?_)) (fun _ _ hg => hg)
  rcases hS g hs with rfl | rfl
  · exact h1 _ hbt
  · exact h2 _ hrt
end Go.Proofs.Ytcfildbgnjhjmaa.Nand
