import Derived.Test.YtcfildbgnjhjmaaNandProg
set_option linter.unusedVariables false
set_option linter.unusedSimpArgs false
namespace Go.Proofs.Ytcfildbgnjhjmaa.Nand
open Go.RowKit Go.Proofs.Ytcfildbgnjhjmaa.Kit

/-- An array in memory, but for what lies in its field way. -/
structure AQ (w : World) (F : Nat → Prop) (b gb : Nat) (pv : Nat → Value) (wv : Value) (N : NA) : Prop where
  hd : Blk w b (hdOf gb N wv) 96
  row : RowB w gb pv N.bs
  pgs : ∀ i, i < N.bs.length → PagesR w F (pv i) (N.blk i).pages
  apart : ∀ i j, i < N.bs.length → j < N.bs.length → i ≠ j → ∀ g, (pv i).ownBlock = some g → (pv j).ownBlock ≠ some g
  inb : F b
  ing : F gb
  low : ∀ g, F g → g < w.heap.size
  wf : N.Wf
theorem AR.toAQ {w : World} {F : Nat → Prop} {b gb : Nat} {pv : Nat → Value} {wv : Value} {N : NA} (h : AR w F b gb pv wv N) : AQ w F b gb pv wv N := ⟨h.hd, h.row, h.pgs, h.apart, h.inb, h.ing, h.low, h.wf⟩
theorem AQ.toAR {w : World} {F : Nat → Prop} {b gb : Nat} {pv : Nat → Value} {wv : Value} {N : NA} (h : AQ w F b gb pv wv N) (hw : WayR w F gb N.way wv) : AR w F b gb pv wv N := ⟨h.hd, h.row, h.pgs, h.apart, hw, h.inb, h.ing, h.low, h.wf⟩
theorem AQ.keep {w w' : World} {F : Nat → Prop} {b gb : Nat} {pv : Nat → Value} {wv : Value} {N : NA} (h : AQ w F b gb pv wv N) (hk : ∀ g, F g → w'.heap[g]? = w.heap[g]?) (hs : w.heap.size ≤ w'.heap.size) : AQ w' F b gb pv wv N :=
  ⟨by have := h.hd; unfold Blk at *; rw [hk b h.inb]; exact this, h.row.keep (hk gb h.ing), fun i hi => (h.pgs i hi).keep (fun g _ _ hg => hk g hg) (fun _ _ hg => hg), h.apart, h.inb, h.ing, fun g hg => Nat.lt_of_lt_of_le (h.low g hg) hs, h.wf⟩
theorem AQ.mono {w : World} {F F' : Nat → Prop} {b gb : Nat} {pv : Nat → Value} {wv : Value} {N : NA} (h : AQ w F b gb pv wv N) (hF : ∀ g, F g → F' g) (hl : ∀ g, F' g → g < w.heap.size) : AQ w F' b gb pv wv N :=
  ⟨h.hd, h.row, fun i hi => (h.pgs i hi).keep (fun _ _ _ _ => rfl) (fun g _ hg => hF g hg), h.apart, hF _ h.inb, hF _ h.ing, hl, h.wf⟩
/-- The way struck from the data. -/
theorem AQ.unway {w : World} {F : Nat → Prop} {b gb : Nat} {pv : Nat → Value} {wv : Value} {N : NA} (h : AQ w F b gb pv wv N) : AQ w F b gb pv wv { N with way := none } :=
  ⟨h.hd, h.row, h.pgs, h.apart, h.inb, h.ing, h.low, ⟨h.wf.nb, h.wf.np, h.wf.len, (fun u hu => nomatch hu), h.wf.armed, h.wf.doom⟩⟩
/-- Only the head and the row of blocks have changed, and no pages. -/
theorem AQ.upd {w w' : World} {F S : Nat → Prop} {b gb : Nat} {pv : Nat → Value} {wv : Value} {N : NA} (h : AQ w F b gb pv wv N) (hf : Fr S w w') (hS : ∀ g, S g → g = b ∨ g = gb) (N' : NA) (wv' : Value) (hb : Blk w' b (hdOf gb N' wv') 96) (hr : RowB w' gb pv N'.bs)
    (hl : N'.bs.length = N.bs.length) (hp : ∀ i, i < N.bs.length → (N'.blk i).pages = (N.blk i).pages) (wf : N'.Wf) : AQ w' F b gb pv wv' N' := by
  have hbt := h.hd
  obtain ⟨cs, hrt⟩ := h.row.block
  refine ⟨hb, hr, fun i hi => ?_, fun i j hi hj => h.apart i j (by omega) (by omega), h.inb, h.ing, fun g hg => Nat.lt_of_lt_of_le (h.low g hg) hf.size, wf⟩
  rw [hp i (by omega)]
  refine (h.pgs i (by omega)).keep (fun g cur ht hg => hf.block g (h.low g hg) (fun hs => ?_)) (fun _ _ hg => hg)
  unfold Blk at hbt
  rcases hS g hs with rfl | rfl
  · rw [hbt] at ht
    rcases ht with ⟨e, _⟩ | e <;> (injection e with e; injection e with _ e; revert e; decide)
  · rw [hrt] at ht
    rcases ht with ⟨e, _⟩ | e <;> (injection e with e; injection e with _ e; revert e; decide)
theorem AQ.ne {w : World} {F : Nat → Prop} {b gb : Nat} {pv : Nat → Value} {wv : Value} {N : NA} (h : AQ w F b gb pv wv N) : b ≠ gb := by
  rintro rfl
  obtain ⟨cs, hr⟩ := h.row.block
  have := h.hd
  unfold Blk at this
  rw [this] at hr
  injection hr with hr
  injection hr with _ hr
  revert hr
  decide
/-- A field of the head is stored. -/
theorem AQ.setHd {w : World} {F : Nat → Prop} {b gb : Nat} {pv : Nat → Value} {wv : Value} {N : NA} (h : AQ w F b gb pv wv N) (k : Nat) (v : Value) (N' : NA) (wv' : Value) (he : (hdOf gb N wv).setIfInBounds k v = hdOf gb N' wv') (hbs : N'.bs = N.bs) (wf : N'.Wf) :
    AQ (w.setCell ⟨b, k, none⟩ v) F b gb pv wv' N' := by
  have hf : Fr (fun g => g = b) w (w.setCell ⟨b, k, none⟩ v) := fr_set w b k v rfl
  refine h.upd hf (fun g hg => .inl hg) N' wv' ?_ ?_ (by rw [hbs]) (fun i _ => by unfold NA.blk; rw [hbs]) wf
  · rw [← he]
    exact h.hd.set k v
  · rw [hbs]
    exact h.row.keep (Below.heap_setCell w ⟨b, k, none⟩ v gb (fun e => h.ne e.symm))
/-- A field of a block, but its pages, is stored. -/
theorem AQ.setRec {w : World} {F : Nat → Prop} {b gb : Nat} {pv : Nat → Value} {wv : Value} {N : NA} (h : AQ w F b gb pv wv N) (i k : Nat) (v : Value) (x : NB) (hi : i < N.bs.length) (hk : k < 6) (hx : recOf (pv i) x = (recOf (pv i) (N.blk i)).set k v) (hp : x.pages = (N.blk i).pages) (wf : (N.setB i x).Wf) :
    AQ (w.setCell ⟨gb, i * 6 + k, none⟩ v) F b gb pv wv (N.setB i x) := by
  have hf : Fr (fun g => g = gb) w (w.setCell ⟨gb, i * 6 + k, none⟩ v) := fr_set w gb _ v rfl
  refine h.upd hf (fun g hg => .inr hg) _ wv ?_ ?_ (len_set ..) (fun j hj => ?_) wf
  · have := h.hd.setOther (⟨gb, i * 6 + k, none⟩ : Addr) h.ne v
    unfold hdOf at *
    rw [len_set]
    exact this
  · exact h.row.set i k hi hk v pv x hx (fun _ _ => rfl)
  · rw [blk_set i j x hi]
    split
    · rename_i e
      rw [e, hp]
    · rfl

theorem AQ.bne {w : World} {F : Nat → Prop} {b gb g : Nat} {pv : Nat → Value} {wv : Value} {N : NA} {cs : Array Value} {T : TypeId} (h : AQ w F b gb pv wv N) (hb : Blk w g cs T) (h1 : T ≠ 96) (h2 : T ≠ 99) : ¬ (g = b ∨ g = gb) := by
  have hh := h.hd
  obtain ⟨cs', hr⟩ := h.row.block
  unfold Blk at hb hh
  rintro (rfl | rfl)
  · rw [hh] at hb
    injection hb with hb
    injection hb with _ hb
    exact h1 hb.symm
  · rw [hr] at hb
    injection hb with hb
    injection hb with _ hb
    exact h2 hb.symm
/-- The cells of one block. -/
theorem AQ.recs {w : World} {F : Nat → Prop} {b gb : Nat} {pv : Nat → Value} {wv : Value} {N : NA} (h : AQ w F b gb pv wv N) (i : Nat) (hi : i < N.bs.length) :
    (∃ A c, pv i = .slice A (N.blk i).pages.length c ∧ w.cell? ⟨gb, i * 6, none⟩ = some (.slice A (N.blk i).pages.length c)) ∧ w.cell? ⟨gb, i * 6 + 1, none⟩ = some (.int .i64 (N.blk i).erases) ∧ w.cell? ⟨gb, i * 6 + 2, none⟩ = some (.bool (N.blk i).half) ∧
    w.cell? ⟨gb, i * 6 + 3, none⟩ = some (.bool (N.blk i).dead) ∧ w.cell? ⟨gb, i * 6 + 4, none⟩ = some (.bool (N.blk i).failed) ∧ w.cell? ⟨gb, i * 6 + 5, none⟩ = some (.int .i64 ((N.blk i).doom : Int)) := by
  refine ⟨?_, h.row.cell i hi 1 _ rfl, h.row.cell i hi 2 _ rfl, h.row.cell i hi 3 _ rfl, h.row.cell i hi 4 _ rfl, h.row.cell i hi 5 _ rfl⟩
  obtain ⟨xs, ho, _⟩ := h.pgs i hi
  obtain ⟨A, c, e⟩ := own_slice ho
  refine ⟨A, c, e, ?_⟩
  rw [← e]
  exact h.row.cell i hi 0 _ rfl
theorem AQ.push {w w5 : World} {F F' : Nat → Prop} {b gb : Nat} {pv : Nat → Value} {wv v5 : Value} {M : NA} (h : AQ w F b gb pv wv M) (i : Nat) (hi : i < M.bs.length) (x : NB) (hx : recOf v5 x = (recOf (pv i) (M.blk i)).set 0 v5) (hW : Fr (fun g => (pv i).ownBlock = some g) w w5) (hF : ∀ g, F g → F' g) (hl : ∀ g, F' g → g < w5.heap.size)
    (hP : PagesR w5 F' v5 x.pages) (hat : ∀ g, v5.ownBlock = some g → (pv i).ownBlock = some g ∨ w.heap.size ≤ g) (wf : (M.setB i x).Wf) :
    AQ (w5.setCell ⟨gb, i * 6, none⟩ v5) F' b gb (updV pv i v5) wv (M.setB i x) := by
  obtain ⟨xs, ho, hf, hp⟩ := h.pgs i hi
  have hnb : (pv i).ownBlock ≠ some b := fun e => by
    obtain ⟨cur, hc, _⟩ := own_block ho b e
    exact AQ.bne h (show Blk w b cur 39 from hc) (by decide) (by decide) (.inl rfl)
  have hng : (pv i).ownBlock ≠ some gb := fun e => by
    obtain ⟨cur, hc, _⟩ := own_block ho gb e
    exact AQ.bne h (show Blk w gb cur 39 from hc) (by decide) (by decide) (.inr rfl)
  have hh5 : w5.heap[b]? = w.heap[b]? := hW.block b (h.low b h.inb) hnb
  have hg5 : w5.heap[gb]? = w.heap[gb]? := hW.block gb (h.low gb h.ing) hng
  have hrow5 := h.row.keep hg5
  obtain ⟨cs5, hcs5⟩ := hrow5.block
  have hsame : ∀ g, g ≠ gb → (w5.setCell ⟨gb, i * 6, none⟩ v5).heap[g]? = w5.heap[g]? := fun g hg => Below.heap_setCell w5 ⟨gb, i * 6, none⟩ v5 g hg
  refine ⟨?_, ?_, fun j hj => ?_, fun j k hj hk hjk => ?_, hF _ h.inb, hF _ h.ing, fun g hg => by rw [size_set]; exact hl g hg, wf⟩
  · have := h.hd
    unfold Blk hdOf at *
    rw [len_set, hsame b h.ne, hh5]
    exact this
  · exact hrow5.set i 0 hi (by decide) v5 (updV pv i v5) x (by unfold updV; rw [if_pos rfl]; exact hx) (fun j hj => by unfold updV; rw [if_neg hj])
  · rw [len_set] at hj
    rw [blk_set i j x hi]
    unfold updV
    by_cases e : j = i
    · rw [if_pos e, if_pos e]
      refine hP.keep (fun g cur ht _ => hsame g (fun e => ?_)) (fun _ _ hg => hg)
      subst e
      rw [hcs5] at ht
      rcases ht with ⟨e, _⟩ | e <;> (injection e with e; injection e with _ e; revert e; decide)
    · rw [if_neg e, if_neg e]
      refine (h.pgs j hj).keep (fun g cur ht hg => ?_) (fun g _ hg => hF g hg)
      have hlt := h.low g hg
      have hgg : g ≠ gb := by
        rintro rfl
        obtain ⟨cs, hcs⟩ := h.row.block
        rw [hcs] at ht
        rcases ht with ⟨e, _⟩ | e <;> (injection e with e; injection e with _ e; revert e; decide)
      rw [hsame g hgg]
      refine hW.block g hlt (fun hv => ?_)
      rcases ht with ⟨_, hv2⟩ | ht
      · exact h.apart i j hi hj (fun x => e x.symm) g hv hv2
      · obtain ⟨cur', hc', _⟩ := own_block ho g hv
        rw [ht] at hc'
        injection hc' with hc'
        injection hc' with _ hc'
        revert hc'
        decide
  · rw [len_set] at hj hk
    have key : ∀ j, j < M.bs.length → j ≠ i → ∀ g, v5.ownBlock = some g → (pv j).ownBlock ≠ some g := by
      intro j hj hne g hg hv
      obtain ⟨xj, hoj, _⟩ := h.pgs j hj
      have hlt := (own_block hoj g hv).choose_spec.2
      rcases hat g hg with e | e
      · exact h.apart i j hi hj (fun x => hne x.symm) g e hv
      · omega
    unfold updV
    intro g hg
    by_cases ej : j = i
    · rw [if_pos ej] at hg
      rw [if_neg (fun x => hjk (by omega))]
      exact key k hk (fun x => hjk (by omega)) g hg
    · rw [if_neg ej] at hg
      by_cases ek : k = i
      · rw [if_pos ek]
        intro hv
        exact key j hj ej g hv hg
      · rw [if_neg ek]
        exact h.apart j k hj hk hjk g hg

end Go.Proofs.Ytcfildbgnjhjmaa.Nand
