import Derived.Test.YtcfildbgnjhjmaaNandGet
set_option linter.unusedVariables false
set_option linter.unusedSimpArgs false
namespace Go.Proofs.Ytcfildbgnjhjmaa.Nand
open Go.RowKit Go.Proofs.Ytcfildbgnjhjmaa.Kit

theorem fr_set {F : Nat → Prop} (w : World) (g i : Nat) (v : Value) (hg : F g) : Fr F w (w.setCell ⟨g, i, none⟩ v) := (Fr.refl F w).set g i v (.inl hg)
/-- A field of the head is stored. -/
theorem AR.setHd {w : World} {F : Nat → Prop} {b gb : Nat} {pv : Nat → Value} {wv : Value} {N : NA} (h : AR w F b gb pv wv N) (k : Nat) (v : Value) (N' : NA) (he : (hdOf gb N wv).setIfInBounds k v = hdOf gb N' wv) (hbs : N'.bs = N.bs) (hway : N'.way = N.way) (wf : N'.Wf) :
    AR (w.setCell ⟨b, k, none⟩ v) F b gb pv wv N' := by
  have hf : Fr (fun g => g = b) w (w.setCell ⟨b, k, none⟩ v) := fr_set w b k v rfl
  refine h.upd hf (fun g hg => .inl hg) N' wv ?_ ?_ (by rw [hbs]) (fun i _ => by unfold NA.blk; rw [hbs]) ?_ wf
  · rw [← he]
    exact h.hd.set k v
  · rw [hbs]
    exact h.row.keep (Below.heap_setCell w ⟨b, k, none⟩ v gb (fun e => h.ne e.symm))
  · rw [hway]
    exact h.wayKeep hf (fun g hg => .inl hg)
/-- A field of a block, but its pages, is stored. -/
theorem AR.setRec {w : World} {F : Nat → Prop} {b gb : Nat} {pv : Nat → Value} {wv : Value} {N : NA} (h : AR w F b gb pv wv N) (i k : Nat) (v : Value) (x : NB) (hi : i < N.bs.length) (hk : k < 6) (hx : recOf (pv i) x = (recOf (pv i) (N.blk i)).set k v) (hp : x.pages = (N.blk i).pages) (wf : (N.setB i x).Wf) :
    AR (w.setCell ⟨gb, i * 6 + k, none⟩ v) F b gb pv wv (N.setB i x) := by
  have hf : Fr (fun g => g = gb) w (w.setCell ⟨gb, i * 6 + k, none⟩ v) := fr_set w gb _ v rfl
  refine h.upd hf (fun g hg => .inr hg) _ wv ?_ ?_ (len_set ..) (fun j hj => ?_) ?_ wf
  · have := h.hd.setOther (⟨gb, i * 6 + k, none⟩ : Addr) h.ne v
    unfold hdOf at *
    rw [len_set]
    exact this
  · exact h.row.set i k hi hk v pv x hx (fun _ _ => rfl)
  · rw [blk_set i j x hi]
    split
    · rename_i e
      rw [e, hp]
    · rfl
  · exact h.wayKeep hf (fun g hg => .inr hg)

theorem raise_any (F : Nat → Prop) (b : Nat) (N : NA) (ep : Int) (w : World) (h : Arr w F b N) :
    Calls Try.prog 19 #[.pointer (some ⟨b, 0, none⟩), .int .u64 ep] w fun e w' => e = .returned (.int .i64 (N.raise ep).2) ∧ Arr w' F b (N.raise ep).1 ∧ Fr F w w' := by
  obtain ⟨gb, pv, wv, h⟩ := h
  obtain ⟨-, -, c2, -, -, c5, -, -⟩ := h.cells
  have f2 := h.hd.free 2
  unfold NA.raise
  by_cases ho : N.off = true
  case neg =>
    rw [Bool.not_eq_true] at ho
    rw [ho] at c5
    by_cases he : ep ≤ N.fence
    · rw [if_neg (by rw [ho]; simp), if_pos he]
      have H := hid h
      have hd : decide (ep ≤ N.fence) = true := decide_eq_true he
      clear h ho
      generalize N.fence = fe at *
      go_enter Try.func19, Try.ntmps19
      go_wp2
      go_ret
      exact ⟨rfl, ⟨gb, pv, wv, H.out⟩, Fr.refl _ _⟩
    · rw [if_neg (by rw [ho]; simp), if_neg he]
      have H1 := hid (h.setHd 2 (.int .u64 ep) { N with fence := ep } rfl rfl rfl ⟨h.wf.nb, h.wf.np, h.wf.len, h.wf.way, h.wf.armed, h.wf.doom⟩)
      have H2 := hid (fr_set w b 2 (.int .u64 ep) h.inb)
      have hd : decide (ep ≤ N.fence) = false := decide_eq_false he
      clear h ho
      generalize N.fence = fe at *
      go_enter Try.func19, Try.ntmps19
      go_wp2
      go_ret
      exact ⟨rfl, ⟨gb, pv, wv, H1.out⟩, H2.out⟩
  case pos =>
    rw [ho] at c5
    have H := hid h
    rw [if_pos ho]
    clear h ho
    go_enter Try.func19, Try.ntmps19
    go_wp2
    go_ret
    exact ⟨rfl, ⟨gb, pv, wv, H.out⟩, Fr.refl _ _⟩
theorem arm_any (F : Nat → Prop) (b : Nat) (N : NA) (n : Int) (w : World) (h : Arr w F b N) (hn : n ≤ 9223372036854775807) :
    Calls Try.prog 60 #[.pointer (some ⟨b, 0, none⟩), .int .i64 n] w fun e w' => e = .returned (.int .i64 (N.arm n).2) ∧ Arr w' F b (N.arm n).1 ∧ Fr F w w' := by
  obtain ⟨gb, pv, wv, h⟩ := h
  obtain ⟨-, -, -, -, c4, -, -, -⟩ := h.cells
  have f4 := h.hd.free 4
  unfold NA.arm
  by_cases h0 : n < 0
  · simp only [if_pos h0]
    have H := hid h
    clear h
    go_enter Try.func60, Try.ntmps60
    go_wp2
    go_ret
    exact ⟨rfl, ⟨gb, pv, wv, H.out⟩, Fr.refl _ _⟩
  · simp only [if_neg h0]
    obtain ⟨n, rfl⟩ := Int.eq_ofNat_of_zero_le (show 0 ≤ n by omega)
    rw [show ((n : Int)).toNat = n by omega]
    have H1 := hid (h.setHd 4 (.int .i64 (n : Int)) { N with armed := n } rfl rfl rfl ⟨h.wf.nb, h.wf.np, h.wf.len, h.wf.way, by show n ≤ _; omega, h.wf.doom⟩)
    have H2 := hid (fr_set w b 4 (.int .i64 (n : Int)) h.inb)
    clear h
    go_enter Try.func60, Try.ntmps60
    go_wp2
    go_ret
    exact ⟨rfl, ⟨gb, pv, wv, H1.out⟩, H2.out⟩
theorem doom_any (F : Nat → Prop) (b : Nat) (N : NA) (i n : Int) (w : World) (h : Arr w F b N) (hn : n ≤ 9223372036854775807) :
    Calls Try.prog 20 #[.pointer (some ⟨b, 0, none⟩), .int .i64 i, .int .i64 n] w fun e w' => e = .returned (.int .i64 (N.doomed i n).2) ∧ Arr w' F b (N.doomed i n).1 ∧ Fr F w w' := by
  obtain ⟨gb, pv, wv, h⟩ := h
  obtain ⟨c0, -, -, -, -, -, -, -⟩ := h.cells
  have hb := h.wf.nb
  unfold NA.doomed
  by_cases hc : i < 0 ∨ N.bs.length ≤ i ∨ n < 0
  · simp only [if_pos hc]
    have H := hid h
    clear h
    have hc' : i < 0 ∨ (¬ i < 0 ∧ (N.bs.length : Int) ≤ i) ∨ (¬ i < 0 ∧ ¬ (N.bs.length : Int) ≤ i ∧ n < 0) := by omega
    clear hc
    generalize N.bs.length = m at *
    rcases hc' with h1 | ⟨h1, h2⟩ | ⟨h1, h2, h3⟩
    all_goals
      go_enter Try.func20, Try.ntmps20
      go_wp2
      go_ret
      exact ⟨rfl, ⟨gb, pv, wv, H.out⟩, Fr.refl _ _⟩
  · simp only [if_neg hc]
    obtain ⟨n, rfl⟩ := Int.eq_ofNat_of_zero_le (show 0 ≤ n by omega)
    obtain ⟨i, rfl⟩ := Int.eq_ofNat_of_zero_le (show 0 ≤ i by omega)
    rw [show ((n : Int)).toNat = n by omega, show ((i : Int)).toNat = i by omega]
    have hi : i < N.bs.length := by omega
    have d5 := (h.recs i hi).2.2.2.2.2
    have f5 := h.row.free (i * 6 + 5)
    have H1 := hid (h.setRec i 5 (.int .i64 (n : Int)) { N.blk i with doom := n } hi (by decide) rfl rfl (h.wf.setB i _ hi rfl (by show n ≤ _; omega)))
    have H2 := hid (fr_set w gb (i * 6 + 5) (.int .i64 (n : Int)) h.ing)
    have hiI : (i : Int) < (N.bs.length : Int) := by omega
    clear h hc
    generalize (N.blk i).doom = dd at *
    have hb1 := hb.2
    have H1 : Hid (Arr (w.setCell ⟨gb, i * 6 + 5, none⟩ (.int .i64 (n : Int))) F b (N.setB i { N.blk i with doom := n })) := hid ⟨gb, pv, wv, H1.out⟩
    generalize N.setB i { N.blk i with doom := n } = N' at *
    generalize N.bs.length = m at *
    go_enter Try.func20, Try.ntmps20
    go_wp2
    go_ret
    exact ⟨rfl, H1.out, H2.out⟩
end Go.Proofs.Ytcfildbgnjhjmaa.Nand
