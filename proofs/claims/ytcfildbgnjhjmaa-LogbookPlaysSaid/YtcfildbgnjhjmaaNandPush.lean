import Derived.Test.YtcfildbgnjhjmaaNandProgNo
import Derived.Laws.EntriesVeiled
import Derived.Deep.AppendLies
set_option linter.unusedVariables false
set_option linter.unusedSimpArgs false
namespace Go.Proofs.Ytcfildbgnjhjmaa.Nand
open Go.RowKit Go.Proofs.Ytcfildbgnjhjmaa.Kit

theorem blk_ne2 {w : World} {F : Nat → Prop} {b gb g : Nat} {pv : Nat → Value} {wv : Value} {N : NA} {cs : Array Value} {T : TypeId} (h : AR w F b gb pv wv N) (hb : Blk w g cs T) (h1 : T ≠ 96) (h2 : T ≠ 99) : ¬ (g = b ∨ g = gb) := by
  have hh := h.hd
  obtain ⟨cs', hr⟩ := h.row.block
  unfold Blk at hb hh
  rintro (rfl | rfl)
  · rw [hh] at hb
    injection hb with hb
    injection hb with _ hb
    exact h1 hb.symm
  · rw [hr] at hb
    injection hb with hb
    injection hb with _ hb
    exact h2 hb.symm
theorem AR.grown {w' : World} {F : Nat → Prop} {b gb : Nat} {pv : Nat → Value} {wv : Value} {N : NA} (h : AR w' F b gb pv wv N) (w : World) : AR w' (grow F w w') b gb pv wv N :=
  h.mono (fun g hg => .inl hg) (fun g hg => by rcases hg with hg | hg; exact h.low g hg; exact hg.2)
theorem grow_size {F : Nat → Prop} {w w1 w2 : World} (h : w2.heap.size = w1.heap.size) : grow F w w2 = grow F w w1 := by unfold grow; rw [h]
theorem size_set (w : World) (a : Addr) (v : Value) : (w.setCell a v).heap.size = w.heap.size := by simp [World.setCell]
/-- Bytes in a row that is new. -/
theorem byteR_new {F : Nat → Prop} {w w4 : World} {base n : Nat} {u : Value} {q : List Int} (h : w4.ownsRow base 5 1 u n (q.map (Value.int .u8))) (hn : q.length = n) (hw : ∀ x ∈ q, (Lit.int .u8 x).wf = true) (hb : w.heap.size ≤ base) : ByteR w4 (grow F w w4) u q :=
  ⟨by rw [hn]; exact own_base h (fun _ _ => Nat.zero_le _), hw, fun g hg => .inr ⟨Nat.le_trans hb (own_low h g hg), (own_block h g hg).choose_spec.2⟩⟩
theorem PagesR.push {w w5 : World} {F F' : Nat → Prop} {v v5 y : Value} {pgs : List (List Int)} {xs : List Value} {q : List Int} {S : Nat → Prop} (ho : w.ownsRow 0 39 1 v pgs.length xs) (hp : ∀ j, j < pgs.length → ∃ u, xs[j]? = some u ∧ (pgs.getD j []).length = 96 ∧ ByteR w F u (pgs.getD j []))
    (hW : Fr (fun g => v.ownBlock = some g) w w5) (hF : ∀ g, F g → F' g) (ho5 : w5.ownsRow 0 39 1 v5 (pgs.length + 1) (xs ++ [y])) (hv5 : ∀ g, v5.ownBlock = some g → F' g) (hq : q.length = 96) (hy : ByteR w5 F' y q) : PagesR w5 F' v5 (pgs ++ [q]) := by
  have hxl : xs.length = pgs.length := by have := ho.1; omega
  refine ⟨xs ++ [y], by rw [List.length_append]; exact ho5, hv5, fun j hj => ?_⟩
  rw [List.length_append] at hj
  by_cases e : j < pgs.length
  · obtain ⟨u, hu, hl, hb⟩ := hp j e
    have eg : (pgs ++ [q]).getD j [] = pgs.getD j [] := by rw [List.getD_eq_getElem?_getD, List.getElem?_append_left e, List.getD_eq_getElem?_getD]
    rw [eg]
    refine ⟨u, by rw [List.getElem?_append_left (by omega)]; exact hu, hl, hb.keep (fun g hg hFg => ?_) (fun g _ hFg => hF g hFg)⟩
    obtain ⟨cur, hc, hlt⟩ := own_block hb.1 g hg
    refine hW.block g hlt (fun hv => ?_)
    obtain ⟨cur', hc', _⟩ := own_block ho g hv
    rw [hc] at hc'
    injection hc' with hc'
    injection hc' with _ hc'
    revert hc'
    decide
  · obtain rfl : j = pgs.length := by simp at hj; omega
    have eg : (pgs ++ [q]).getD pgs.length [] = q := by rw [List.getD_eq_getElem?_getD, List.getElem?_append_right (Nat.le_refl _)]; simp
    rw [eg]
    exact ⟨y, by rw [List.getElem?_append_right (by omega), hxl]; simp, hq, hy⟩
def updV (pv : Nat → Value) (i : Nat) (v : Value) : Nat → Value := fun j => if j = i then v else pv j
theorem AR.push {w w5 : World} {F F' : Nat → Prop} {b gb : Nat} {pv : Nat → Value} {wv v5 : Value} {M : NA} (h : AR w F b gb pv wv M) (i : Nat) (hi : i < M.bs.length) (x : NB) (hx : recOf v5 x = (recOf (pv i) (M.blk i)).set 0 v5) (hW : Fr (fun g => (pv i).ownBlock = some g) w w5) (hF : ∀ g, F g → F' g) (hl : ∀ g, F' g → g < w5.heap.size)
    (hP : PagesR w5 F' v5 x.pages) (hat : ∀ g, v5.ownBlock = some g → (pv i).ownBlock = some g ∨ w.heap.size ≤ g) (hway : M.way = none) (wf : (M.setB i x).Wf) :
    AR (w5.setCell ⟨gb, i * 6, none⟩ v5) F' b gb (updV pv i v5) wv (M.setB i x) := by
  obtain ⟨xs, ho, hf, hp⟩ := h.pgs i hi
  have hnb : (pv i).ownBlock ≠ some b := fun e => by
    obtain ⟨cur, hc, _⟩ := own_block ho b e
    exact blk_ne2 h (show Blk w b cur 39 from hc) (by decide) (by decide) (.inl rfl)
  have hng : (pv i).ownBlock ≠ some gb := fun e => by
    obtain ⟨cur, hc, _⟩ := own_block ho gb e
    exact blk_ne2 h (show Blk w gb cur 39 from hc) (by decide) (by decide) (.inr rfl)
  have hh5 : w5.heap[b]? = w.heap[b]? := hW.block b (h.low b h.inb) hnb
  have hg5 : w5.heap[gb]? = w.heap[gb]? := hW.block gb (h.low gb h.ing) hng
  have hrow5 := h.row.keep hg5
  obtain ⟨cs5, hcs5⟩ := hrow5.block
  have hsame : ∀ g, g ≠ gb → (w5.setCell ⟨gb, i * 6, none⟩ v5).heap[g]? = w5.heap[g]? := fun g hg => Below.heap_setCell w5 ⟨gb, i * 6, none⟩ v5 g hg
  refine ⟨?_, ?_, fun j hj => ?_, fun j k hj hk hjk => ?_, ?_, hF _ h.inb, hF _ h.ing, fun g hg => by rw [size_set]; exact hl g hg, wf⟩
  · have := h.hd
    unfold Blk hdOf at *
    rw [len_set, hsame b h.ne, hh5]
    exact this
  · exact hrow5.set i 0 hi (by decide) v5 (updV pv i v5) x (by unfold updV; rw [if_pos rfl]; exact hx) (fun j hj => by unfold updV; rw [if_neg hj])
  · rw [len_set] at hj
    rw [blk_set i j x hi]
    unfold updV
    by_cases e : j = i
    · rw [if_pos e, if_pos e]
      refine hP.keep (fun g cur ht _ => hsame g (fun e => ?_)) (fun _ _ hg => hg)
      subst e
      rw [hcs5] at ht
      rcases ht with ⟨e, _⟩ | e <;> (injection e with e; injection e with _ e; revert e; decide)
    · rw [if_neg e, if_neg e]
      refine (h.pgs j hj).keep (fun g cur ht hg => ?_) (fun g _ hg => hF g hg)
      have hlt := h.low g hg
      have hgg : g ≠ gb := by
        rintro rfl
        obtain ⟨cs, hcs⟩ := h.row.block
        rw [hcs] at ht
        rcases ht with ⟨e, _⟩ | e <;> (injection e with e; injection e with _ e; revert e; decide)
      rw [hsame g hgg]
      refine hW.block g hlt (fun hv => ?_)
      rcases ht with ⟨_, hv2⟩ | ht
      · exact h.apart i j hi hj (fun x => e x.symm) g hv hv2
      · obtain ⟨cur', hc', _⟩ := own_block ho g hv
        rw [ht] at hc'
        injection hc' with hc'
        injection hc' with _ hc'
        revert hc'
        decide
  · rw [len_set] at hj hk
    have key : ∀ j, j < M.bs.length → j ≠ i → ∀ g, v5.ownBlock = some g → (pv j).ownBlock ≠ some g := by
      intro j hj hne g hg hv
      obtain ⟨xj, hoj, _⟩ := h.pgs j hj
      have hlt := (own_block hoj g hv).choose_spec.2
      rcases hat g hg with e | e
      · exact h.apart i j hi hj (fun x => hne x.symm) g e hv
      · omega
    unfold updV
    intro g hg
    by_cases ej : j = i
    · rw [if_pos ej] at hg
      rw [if_neg (fun x => hjk (by omega))]
      exact key k hk (fun x => hjk (by omega)) g hg
    · rw [if_neg ej] at hg
      by_cases ek : k = i
      · rw [if_pos ek]
        intro hv
        exact key j hj ej g hv hg
      · rw [if_neg ek]
        exact h.apart j k hj hk hjk g hg
  · have hwv := h.way
    show WayR _ F' gb M.way wv
    rw [hway] at hwv ⊢
    exact hwv
theorem wf_push {M : NA} (h : M.Wf) (i : Nat) (x : NB) (hi : i < M.bs.length) (hway : M.way = none) (hp : x.pages.length ≤ M.pages) (hd : x.doom = (M.blk i).doom) : (M.setB i x).Wf := by
  refine ⟨by rw [len_set]; exact h.nb, h.np, fun j hj => ?_, fun u hu => ?_, h.armed, fun j hj => ?_⟩
  · rw [len_set] at hj
    rw [blk_set i j x hi]
    split
    · exact hp
    · exact h.len j hj
  · have : M.way = some u := hu
    rw [hway] at this
    cases this
  · rw [len_set] at hj
    rw [blk_set i j x hi]
    split
    · rw [hd]
      exact h.doom i hi
    · exact h.doom j hj
/-- append(b.pages, p) at a step of a region that draws. -/
theorem step_append_page {ops : Array Oper} {o : Oper} {a : Act} {K : Act → World → Prop} {Q : Exit → Act → World → Prop} {E : Prop} {W : World} (hgd : o.guard = none) (s x : Operand)
    (ho : o.op = .call { callee := .builtin .append, args := #[s, x], argTypes := #[97, 97] }) (v : Value) (n : Nat) (xs : List Value) (y : Value) (gy : Nat) (hs : a.eval s = v) (hx : a.eval x = .slice (some ⟨gy, 0, none⟩) 1 1)
    (HO : W.ownsRow 0 39 1 v n xs) (hy : Blk W gy #[y] 39) (h1 : y.oneCell' = true) (hn : n ≤ 1000)
    (h : ∀ g cap w', w'.ownsRow 0 39 1 (.slice (some ⟨g, 0, none⟩) (n + 1) cap) (n + 1) (xs ++ [y]) → W.grownBy w' v.ownBlock → (v.ownBlock = some g ∨ g = W.heap.size) → K (a.put o.dst (.slice (some ⟨g, 0, none⟩) (n + 1) cap)) w') :
    if Region.wanted o (yielded ops a.tmps) = true then Oper.wp Try.prog o a W K Q else E := by
  obtain ⟨i0, hi, hz0, hz1, hz2⟩ := info_parts infoP
  exact step_append_lies W hgd s x 97 ho 0 39 i0 _ 1 24 Try.underlying97 hi hz0 hz1 hz2 rfl (by omega) v n xs hs HO ⟨gy, 0, none⟩ 1 1 [y] hx rfl (World.news_of_block hy) (by simpa using h1) (by omega) (by unfold maxLen; omega) (by omega) (Nat.zero_le _) W.heap.size rfl (fun g cap w' h2 h3 h4 _ => h g cap w' h2 h3 h4)
end Go.Proofs.Ytcfildbgnjhjmaa.Nand
