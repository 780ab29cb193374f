import Derived.Test.YtpcbpljdiacbmaaJFtlM
set_option linter.unusedVariables false
set_option linter.unusedSimpArgs false
namespace Go.Proofs.Ytpcbpljdiacbmaa.Ftl
open Go.RowKit Go.Proofs.Ytpcbpljdiacbmaa.Kit Go.Proofs.Ytpcbpljdiacbmaa.Oct Go.Proofs.Ytpcbpljdiacbmaa.Sheet Go.Proofs.Ytpcbpljdiacbmaa.Nand Go.Proofs.Ytpcbpljdiacbmaa.Plan Go.Proofs.Ytpcbpljdiacbmaa.Scan Go.Proofs.Ytpcbpljdiacbmaa.Pmap Go.Proofs.Ytpcbpljdiacbmaa.Pool

/-! An FTL in memory. -/
structure FId where
 bf : Nat
 ba : Nat
 bm : Nat
 ga : Nat
 gh : Nat
 gc : Nat
 bp : Nat
 gp : Nat
 Ab : Option Addr
 nbad : Nat
 cbad : Nat
 Ax : Option Addr
 nx : Nat
 cx : Nat
/-- The blocks that change. -/
def FId.mut (o : FId) (g : Nat) : Prop := g = o.bf ∨ g = o.ga ∨ g = o.gh ∨ g = o.gc ∨ g = o.gp
/-- All blocks. -/
def FId.K (o : FId) (g : Nat) : Prop := o.mut g ∨ g = o.bm ∨ g = o.bp ∨ (∃ a, o.Ab = some a ∧ g = a.block) ∨ ∃ a, o.Ax = some a ∧ g = a.block
structure FId.Apart (o : FId) : Prop where
 fg : o.bf ≠ o.ga ∧ o.bf ≠ o.gh ∧ o.bf ≠ o.gc ∧ o.bf ≠ o.gp
 pg : o.gp ≠ o.ga ∧ o.gp ≠ o.gh ∧ o.gp ≠ o.gc
 bm : ¬ o.mut o.bm
 bp : ¬ o.mut o.bp
 ab : ∀ a, o.Ab = some a → ¬ o.mut a.block
 ax : ∀ a, o.Ax = some a → ¬ o.mut a.block
def FtC (c : FC) (o : FId) (st : FT) : Array Value := #[.pointer (some ⟨o.ba, 0, none⟩), .int .i64 (c.nb : Int), .int .i64 (c.np : Int), .int .i64 (c.S : Int), .slice o.Ab o.nbad o.cbad, .int .u64 (c.ep : Int), .pointer (some ⟨o.bm, 0, none⟩), .pointer (some ⟨o.bp, 0, none⟩), .int .u64 (st.seq : Int)]
structure FtW (c : FC) (o : FId) (w : World) (st : FT) : Prop where
 f : Blk w o.bf (FtC c o st) 81
 pm : PM w o.bm o.ga o.gh o.gc c.M c.nb st.at' st.has st.cnt
 ps : PS w o.bp o.gp 64 o.Ax o.nx o.cx c.xs st.hs
 geo : Geo w c.nb c.np (c.S : Int) o.Ab o.nbad o.cbad c.bad
 ap : o.Apart
section
variable {c : FC} {o : FId} {w w' : World} {st : FT}
theorem ps_fr {w w' : World} {S : Nat → Prop} {b g n : Nat} {A : Option Addr} {m cc : Nat} {xs : List Int} {hs : List (Option Nat)} (h : PS w b g n A m cc xs hs) (hf : Nand.Fr S w w') (hb : ¬ S b) (hg : ¬ S g) (hA : ∀ a, A = some a → ¬ S a.block) : PS w' b g n A m cc xs hs := by
 refine ⟨blk_fr h.blk hf hb, nums_fr h.nums hf (fun _ a ha => hA a ha), ?_, h.len, h.xb, h.mc, h.mm⟩
 obtain ⟨D, ⟨es, clock, hb, r⟩, r2⟩ := h.mp
 exact ⟨D, ⟨es, clock, (hf.block g (heap_lt hb) hg).trans hb, r⟩, r2⟩
theorem geo_fr {w w' : World} {S : Nat → Prop} {nb np : Nat} {Sp : Int} {A : Option Addr} {n cc : Nat} {bad : List Int} (h : Geo w nb np Sp A n cc bad) (hf : Nand.Fr S w w') (hA : ∀ a, A = some a → ¬ S a.block) : Geo w' nb np Sp A n cc bad := ⟨nums_fr h.nums hf (fun _ a ha => hA a ha), h.nc, h.form⟩
theorem FtW.fr {S : Nat → Prop} (h : FtW c o w st) (hf : Nand.Fr S w w') (hS : ∀ g, o.K g → ¬ S g) : FtW c o w' st :=
 ⟨blk_fr h.f hf (hS _ (.inl (.inl rfl))), pm_fr h.pm hf (hS _ (.inr (.inl rfl))) (hS _ (.inl (.inr (.inl rfl)))) (hS _ (.inl (.inr (.inr (.inl rfl))))) (hS _ (.inl (.inr (.inr (.inr (.inl rfl)))))),
  ps_fr h.ps hf (hS _ (.inr (.inr (.inl rfl)))) (hS _ (.inl (.inr (.inr (.inr (.inr rfl)))))) (fun a ha => hS _ (.inr (.inr (.inr (.inr ⟨a, ha, rfl⟩))))),
  geo_fr h.geo hf (fun a ha => hS _ (.inr (.inr (.inr (.inl ⟨a, ha, rfl⟩))))), h.ap⟩
theorem FtW.later (h : FtW c o w st) (hB : Below w.heap.size w w') : FtW c o w' st := ⟨h.f.later hB, h.pm.later hB, h.ps.later hB, h.geo.later hB, h.ap⟩
/-- The pool has changed. -/
theorem FtW.pool {hs : List (Option Nat)} (h : FtW c o w st) (hg : w.grownBy w' (some o.gp)) (hp : PS w' o.bp o.gp 64 o.Ax o.nx o.cx c.xs hs) : FtW c o w' { st with hs := hs } := by
 have hf := fr_grown hg
 obtain ⟨a1, a2, a3, a4⟩ := h.ap.fg
 obtain ⟨b1, b2, b3⟩ := h.ap.pg
 exact ⟨blk_fr h.f hf a4, pm_fr h.pm hf (fun e => h.ap.bm (.inr (.inr (.inr (.inr e))))) (fun e => b1 e.symm) (fun e => b2 e.symm) (fun e => b3 e.symm), hp, geo_fr h.geo hf (fun a ha e => h.ap.ab a ha (.inr (.inr (.inr (.inr e))))), h.ap⟩
/-- The map of places has changed. -/
theorem FtW.pmap {at2 : List (Int × Int)} {has2 : List Bool} {cnt2 : List Int} (h : FtW c o w st) (hg : Pmap.Fr w w' o.ga o.gh o.gc) (hp : PM w' o.bm o.ga o.gh o.gc c.M c.nb at2 has2 cnt2) : FtW c o w' { st with at' := at2, has := has2, cnt := cnt2 } := by
 have hf := fr_pm hg
 obtain ⟨a1, a2, a3, a4⟩ := h.ap.fg
 obtain ⟨b1, b2, b3⟩ := h.ap.pg
 have hm : ∀ g, (g = o.ga ∨ g = o.gh ∨ g = o.gc) → o.mut g := fun g e => .inr (by rcases e with e | e | e; exact .inl e; exact .inr (.inl e); exact .inr (.inr (.inl e)))
 exact ⟨blk_fr h.f hf (by omega), hp, ps_fr h.ps hf (fun e => h.ap.bp (hm _ e)) (by omega) (fun a ha e => h.ap.ax a ha (hm _ e)), geo_fr h.geo hf (fun a ha e => h.ap.ab a ha (hm _ e)), h.ap⟩
/-- The number has changed. -/
theorem FtW.num (h : FtW c o w st) (n : Nat) : FtW c o (w.setCell ⟨o.bf, 8, none⟩ (.int .u64 (n : Int))) { st with seq := n } := by
 have hf := Scan.fr_set w o.bf 8 (.int .u64 (n : Int))
 obtain ⟨a1, a2, a3, a4⟩ := h.ap.fg
 refine ⟨?_, pm_fr h.pm hf (fun e => h.ap.bm (.inl e)) (fun e => a1 e.symm) (fun e => a2 e.symm) (fun e => a3 e.symm), ps_fr h.ps hf (fun e => h.ap.bp (.inl e)) (fun e => a4 e.symm) (fun a ha e => h.ap.ax a ha (.inl e)), geo_fr h.geo hf (fun a ha e => h.ap.ab a ha (.inl e)), h.ap⟩
 have := h.f.set 8 (.int .u64 (n : Int))
 unfold FtC at this ⊢
 simpa using this
theorem FtW.cells (h : FtW c o w st) : w.cell? ⟨o.bf, 0, none⟩ = some (.pointer (some ⟨o.ba, 0, none⟩)) ∧ w.cell? ⟨o.bf, 1, none⟩ = some (.int .i64 (c.nb : Int)) ∧ w.cell? ⟨o.bf, 2, none⟩ = some (.int .i64 (c.np : Int)) ∧ w.cell? ⟨o.bf, 3, none⟩ = some (.int .i64 (c.S : Int)) ∧ w.cell? ⟨o.bf, 4, none⟩ = some (.slice o.Ab o.nbad o.cbad) ∧ w.cell? ⟨o.bf, 5, none⟩ = some (.int .u64 (c.ep : Int)) ∧ w.cell? ⟨o.bf, 6, none⟩ = some (.pointer (some ⟨o.bm, 0, none⟩)) ∧ w.cell? ⟨o.bf, 7, none⟩ = some (.pointer (some ⟨o.bp, 0, none⟩)) ∧ w.cell? ⟨o.bf, 8, none⟩ = some (.int .u64 (st.seq : Int)) :=
 ⟨h.f.cell 0, h.f.cell 1, h.f.cell 2, h.f.cell 3, h.f.cell 4, h.f.cell 5, h.f.cell 6, h.f.cell 7, h.f.cell 8⟩

/-- Since w0 (of which but F, what is the FTL's, and Q may have changed) the array and the FTL stand as st; the blocks Q, which are the caller's own, are as they are in V. -/
def FR (c : FC) (o : FId) (F Q : Nat → Prop) (V w0 w : World) (st : FT) : Prop :=
 ∃ F', Arr w F' o.ba st.N ∧ FtW c o w st ∧ (∀ g, F' g → F g ∨ w0.heap.size ≤ g) ∧ (∀ g, F' g → ¬ o.K g) ∧ Nand.Fr (fun g => F g ∨ o.mut g ∨ Q g) w0 w ∧ (∀ g, o.K g → g < w.heap.size) ∧ ∀ g, Q g → (¬ F' g ∧ ¬ o.K g) ∧ g < w.heap.size ∧ w.heap[g]? = V.heap[g]?
variable {F Q Q' : Nat → Prop} {V V' w0 w1 w2 : World}
theorem FR.arr (h : FR c o F Q V w0 w st) : ∃ F', Arr w F' o.ba st.N := by
 obtain ⟨F', h1, -⟩ := h
 exact ⟨F', h1⟩
theorem FR.wf (h : FR c o F Q V w0 w st) : st.N.Wf := by
 obtain ⟨F', h1, -⟩ := h
 exact h1.wf
theorem FR.ft (h : FR c o F Q V w0 w st) : FtW c o w st := by
 obtain ⟨F', -, h1, -⟩ := h
 exact h1
theorem FR.fr (h : FR c o F Q V w0 w st) : Nand.Fr (fun g => F g ∨ o.mut g ∨ Q g) w0 w := by
 obtain ⟨F', -, -, -, -, h1, -⟩ := h
 exact h1
theorem FR.size (h : FR c o F Q V w0 w st) : w0.heap.size ≤ w.heap.size := h.fr.size
theorem FR.low (h : FR c o F Q V w0 w st) : ∀ g, o.K g → g < w.heap.size := by
 obtain ⟨F', -, -, -, -, -, h1, -⟩ := h
 exact h1
theorem FR.mineQ (h : FR c o F Q V w0 w st) : ∀ g, Q g → ¬ o.K g ∧ g < w.heap.size ∧ w.heap[g]? = V.heap[g]? := by
 obtain ⟨F', -, -, -, -, -, -, h1⟩ := h
 exact fun g hg => ⟨(h1 g hg).1.2, (h1 g hg).2⟩
theorem FR.blk (h : FR c o F Q V w0 w st) {g : Nat} {cs : Array Value} {T : TypeId} (hg : Q g) (hb : Blk V g cs T) : Blk w g cs T := by
 have := (h.mineQ g hg).2.2
 unfold Blk at *
 rw [this]
 exact hb
theorem FR.later (h : FR c o F Q V w0 w1 st) (hB : Below w1.heap.size w1 w2) : FR c o F Q V w0 w2 st := by
 obtain ⟨F', h1, h2, h3, h4, h5, h6, h7⟩ := h
 exact ⟨F', h1.later hB, h2.later hB, h3, h4, h5.trans (Nand.Fr.of_below (F := fun _ => False) hB) (fun _ _ x => x.elim), fun g hg => Nat.lt_of_lt_of_le (h6 g hg) hB.size,
  fun g hg => ⟨(h7 g hg).1, Nat.lt_of_lt_of_le (h7 g hg).2.1 hB.size, (hB.block g (h7 g hg).2.1).trans (h7 g hg).2.2⟩⟩
theorem FR.drew (h : FR c o F Q V w0 w st) : FR c o F Q V w0 w.drew st := h.later (below_drewN (Below.refl _ _) 1)
theorem FR.now (h : FR c o F Q V w0 w st) : FR c o F Q w w0 w st := by
 obtain ⟨F', h1, h2, h3, h4, h5, h6, h7⟩ := h
 exact ⟨F', h1, h2, h3, h4, h5, h6, fun g hg => ⟨(h7 g hg).1, (h7 g hg).2.1, rfl⟩⟩
/-- What is the FTL's own has changed. -/
theorem FR.own {st' : FT} (h : FR c o F Q V w0 w1 st) (hf : Nand.Fr o.mut w1 w2) (hw : FtW c o w2 st') (hN : st'.N = st.N) : FR c o F Q V w0 w2 st' := by
 obtain ⟨F', h1, h2, h3, h4, h5, h6, h7⟩ := h
 exact ⟨F', by rw [hN]; exact h1.fr hf (fun g hg hm => h4 g hg (.inl hm)), hw, h3, h4, h5.trans hf (fun g _ hm => .inr (.inl hm)), fun g hg => Nat.lt_of_lt_of_le (h6 g hg) hf.size,
  fun g hg => ⟨(h7 g hg).1, Nat.lt_of_lt_of_le (h7 g hg).2.1 hf.size, (hf.block g (h7 g hg).2.1 (fun hm => (h7 g hg).1.2 (.inl hm))).trans (h7 g hg).2.2⟩⟩
/-- An operation with the array. -/
theorem FR.calls {P : Program} {fn : FuncId} {args : Array Value} {N' : NA} {R : Ending → Prop} (h : FR c o F Q V w0 w1 st)
  (hc : ∀ F', Arr w1 F' o.ba st.N → Calls P fn args w1 fun e w' => R e ∧ Arr w' (grow F' w1 w') o.ba N' ∧ Nand.Fr F' w1 w') : Calls P fn args w1 fun e w' => R e ∧ FR c o F Q V w0 w' { st with N := N' } := by
 obtain ⟨F', h1, h2, h3, h4, h5, h6, h7⟩ := h
 refine (hc F' h1).mono ?_
 rintro e w' ⟨he, hA, hf⟩
 have h2' := h2.fr hf (fun g hg hF => h4 g hF hg)
 refine ⟨he, _, hA, ⟨h2'.f, h2'.pm, h2'.ps, h2'.geo, h2'.ap⟩, fun g hg => ?_, fun g hg hK => ?_, h5.trans hf (fun g hg hF => ?_), fun g hg => Nat.lt_of_lt_of_le (h6 g hg) hf.size, fun g hg => ⟨⟨fun x => ?_, (h7 g hg).1.2⟩, Nat.lt_of_lt_of_le (h7 g hg).2.1 hf.size, (hf.block g (h7 g hg).2.1 (h7 g hg).1.1).trans (h7 g hg).2.2⟩⟩
 ·rcases hg with hg | hg
  ·exact h3 g hg
  ·exact .inr (Nat.le_trans h5.size hg.1)
 ·rcases hg with hg | hg
  ·exact h4 g hg hK
  ·have := h6 g hK; omega
 ·rcases h3 g hF with h | h
  ·exact .inl h
  ·omega
 ·rcases x with x | x
  ·exact (h7 g hg).1.1 x
  ·have := (h7 g hg).2.1; omega
/-- The caller stores to blocks of his own. -/
theorem FR.mine (h : FR c o F Q V w0 w1 st) (hf : Nand.Fr Q w1 w2) : FR c o F Q w2 w0 w2 st := by
 obtain ⟨F', h1, h2, h3, h4, h5, h6, h7⟩ := h
 exact ⟨F', h1.fr hf (fun g hg hq => (h7 g hq).1.1 hg), h2.fr hf (fun g hg hq => (h7 g hq).1.2 hg), h3, h4, h5.trans hf (fun g _ hq => .inr (.inr hq)), fun g hg => Nat.lt_of_lt_of_le (h6 g hg) hf.size,
  fun g hg => ⟨(h7 g hg).1, Nat.lt_of_lt_of_le (h7 g hg).2.1 hf.size, rfl⟩⟩
/-- What was made since is the caller's own as well. -/
theorem FR.more (h : FR c o F Q V w0 w1 st) (hB : Below w1.heap.size w1 w2) (hQ : ∀ g, Q' g → Q g ∨ (w1.heap.size ≤ g ∧ g < w2.heap.size)) (hQ2 : ∀ g, Q g → Q' g) : FR c o F Q' w2 w0 w2 st := by
 obtain ⟨F', h1, h2, h3, h4, h5, h6, h7⟩ := h.later hB
 have hlow : ∀ g, o.K g → g < w1.heap.size := h.low
 obtain ⟨F1, k1, k2, k3, k4, k5, k6, k7⟩ := h
 refine ⟨F1, k1.later hB, h2, k3, k4, (h5.mono (fun g _ hg => hg.imp id (Or.imp id (hQ2 g)))), h6, fun g hg => ?_⟩
 rcases hQ g hg with hg | hg
 ·exact ⟨(k7 g hg).1, Nat.lt_of_lt_of_le (k7 g hg).2.1 hB.size, rfl⟩
 ·exact ⟨⟨fun x => by have := k1.low g x; omega, fun x => by have := hlow g x; omega⟩, hg.2, rfl⟩
/-- Back to fewer blocks of the caller's own. -/
theorem FR.back {st' : FT} (h2 : FR c o F Q' V' w0 w2 st') (hQ : ∀ g, Q g → Q' g ∧ V'.heap[g]? = V.heap[g]?) (hn : ∀ g, Q' g → Q g ∨ w0.heap.size ≤ g) : FR c o F Q V w0 w2 st' := by
 obtain ⟨F', k1, k2, k3, k4, k5, k6, k7⟩ := h2
 exact ⟨F', k1, k2, k3, k4, k5.mono (fun g hg hh => by
  rcases hh with hh | hh | hh
  ·exact .inl hh
  ·exact .inr (.inl hh)
  ·rcases hn g hh with h | h
   ·exact .inr (.inr h)
   ·omega), k6, fun g hg => ⟨(k7 g (hQ g hg).1).1, (k7 g (hQ g hg).1).2.1, (k7 g (hQ g hg).1).2.2.trans (hQ g hg).2⟩⟩

/-! The calls of the functions below. -/
theorem how_run (h : FR c o F Q V w0 w st) (b v : Nat) (hb : b < 64) (hv : v ≤ 3) :
  Calls Try.prog 40 #[.pointer (some ⟨o.bp, 0, none⟩), .int .i64 (b : Int), .int .u8 (v : Int)] w fun e w' => (∃ r, e = .returned (.int .i64 r)) ∧ FR c o F Q V w0 w' (st.how c b v) := by
 refine (pset_any o.bp o.gp o.Ax o.nx o.cx c.xs st.hs b v w h.ft.ps hb hv).mono ?_
 rintro e w' ⟨he, hp, hg⟩
 exact ⟨he, h.own ((fr_grown hg).mono (fun g _ e => .inr (.inr (.inr (.inr e))))) (h.ft.pool hg hp) rfl⟩
theorem next_run (h : FR c o F Q V w0 w st) (b : Nat) (hb : b < st.N.bs.length) :
  Calls Try.prog 41 #[.pointer (some ⟨o.ba, 0, none⟩), .int .i64 (b : Int)] w fun e w' => e = .returned (.int .i64 ((st.N.blk b).pages.length : Int)) ∧ w' = w := by
 obtain ⟨F', hA⟩ := h.arr
 have := next_any F' o.ba st.N (b : Int) w hA
 rw [show st.N.inI (b : Int) = true by unfold NA.inI; simp; omega, if_pos rfl, Int.toNat_natCast] at this
 exact this
theorem count_run (h : FR c o F Q V w0 w st) (b : Nat) (hb : b < c.nb) :
  Calls Try.prog 42 #[.pointer (some ⟨o.bm, 0, none⟩), .int .i64 (b : Int)] w fun e w' => e = .returned (.int .i64 (st.cn b)) ∧ w' = w := by
 have := Pmap.count_any o.bm o.ga o.gh o.gc c.M c.nb st.at' st.has st.cnt (b : Int) w h.ft.pm
 rw [if_pos ⟨by omega, by omega⟩, Int.toNat_natCast] at this
 exact this
end
end Go.Proofs.Ytpcbpljdiacbmaa.Ftl
