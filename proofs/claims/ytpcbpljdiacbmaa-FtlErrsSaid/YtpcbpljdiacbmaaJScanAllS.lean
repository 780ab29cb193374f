import Derived.Test.YtpcbpljdiacbmaaJScanAllP
set_option linter.unusedVariables false
set_option linter.unusedSimpArgs false
namespace Go.Proofs.Ytpcbpljdiacbmaa.Scan
open Go.RowKit Go.Proofs.Ytpcbpljdiacbmaa.Kit Go.Proofs.Ytpcbpljdiacbmaa.Oct Go.Proofs.Ytpcbpljdiacbmaa.Sheet Go.Proofs.Ytpcbpljdiacbmaa.Nand Go.Proofs.Ytpcbpljdiacbmaa.Plan Go.Proofs.Ytpcbpljdiacbmaa.Log Go.Proofs.Ytpcbpljdiacbmaa.Pmap

theorem blk_fr {w w' : World} {S : Nat → Prop} {g : Nat} {cs : Array Value} {T : TypeId} (h : Blk w g cs T) (hf : Nand.Fr S w w') (hn : ¬ S g) : Blk w' g cs T := (hf.block g h.lt hn).trans h
theorem pm_fr {w w' : World} {S : Nat → Prop} {b ga gh gc N M : Nat} {at' : List (Int × Int)} {has : List Bool} {cnt : List Int} (h : PM w b ga gh gc N M at' has cnt) (hf : Nand.Fr S w w') (h1 : ¬ S b) (h2 : ¬ S ga) (h3 : ¬ S gh) (h4 : ¬ S gc) : PM w' b ga gh gc N M at' has cnt :=
 ⟨blk_fr h.blk hf h1, blk_fr h.ats hf h2, blk_fr h.hass hf h3, blk_fr h.cnts hf h4, h.la, h.lh, h.lc, h.nM, h.ne⟩
theorem mx_fr {w w' : World} {S : Nat → Prop} {g n s : Nat} {f : Int → Option Value} (h : Mx w g n f s) (hf : Nand.Fr S w w') (hn : ¬ S g) : Mx w' g n f s := by
 obtain ⟨D, ⟨es, clock, hb, r⟩, r2⟩ := h
 exact ⟨D, ⟨es, clock, (hf.block g (heap_lt hb) hn).trans hb, r⟩, r2⟩
theorem by_fr {w w' : World} {S : Nat → Prop} {gm n s base : Nat} {f : Int → Option Value} {L : Int → List Fd} (h : By w gm n f s base L) (hf : Nand.Fr S w w') (hn : ¬ S gm) (hS : ∀ g, S g → g < base) : By w' gm n f s base L :=
 ⟨mx_fr h.mx hf hn, fun k hk => (h.at_ k hk).fr hf hS, h.len⟩
theorem fr_grown {w w' : World} {g : Nat} (h : w.grownBy w' (some g)) : Nand.Fr (fun x => x = g) w w' := Nand.Fr.of_grown h (fun k hk => by injection hk with hk; exact hk.symm)
theorem fr_set (w : World) (g i : Nat) (v : Value) : Nand.Fr (fun x => x = g) w (w.setCell ⟨g, i, none⟩ v) := (Nand.Fr.refl _ w).set g i v (.inl rfl)
theorem fr_pm {w w' : World} {ga gh gc : Nat} (h : Pmap.Fr w w' ga gh gc) : Nand.Fr (fun x => x = ga ∨ x = gh ∨ x = gc) w w' :=
 ⟨h.os, h.tape, h.output, h.size, fun g hg hn => h.block g hg (fun e => hn (.inl e)) (fun e => hn (.inr (.inl e))) (fun e => hn (.inr (.inr e)))⟩
theorem by_put {w w' : World} {gm n s s' base : Nat} {f : Int → Option Value} {L : Int → List Fd} (h : By w gm n f s base L) (i : Int) (v : Value) (l : List Fd) (hF : Fnds w base v i l) (hl : l.length ≤ 1000) (hg : w.grownBy w' (some gm)) (hb : gm < base) (hm : Mx w' gm (n + 1) (putF f i v) s') : By w' gm (n + 1) (putF f i v) s' base (fun j => if j = i then l else L j) := by
 refine ⟨hm, fun k hk => ?_, fun k => ?_⟩
 ·unfold putF
  by_cases e : k = i
  ·subst e
   rw [if_pos rfl, if_pos rfl]
   exact hF.fr (fr_grown hg) (fun g hg => by omega)
  ·rw [if_neg e, if_neg e]
   exact (h.at_ k hk).fr (fr_grown hg) (fun g hg => by omega)
 ·show (if k = i then l else L k).length ≤ 1000
  split
  ·exact hl
  ·exact h.len k
theorem by_del {w w' : World} {gm n s s' base : Nat} {f : Int → Option Value} {L : Int → List Fd} (h : By w gm n f s base L) (i : Int) (hg : w.grownBy w' (some gm)) (hb : gm < base) (hm : Mx w' gm n (delF f i) s') : By w' gm n (delF f i) s' base (strikeL L i) := by
 refine ⟨hm, fun k hk => ?_, fun k => ?_⟩
 ·unfold delF strikeL
  by_cases e : k = i
  ·subst e
   rw [if_pos rfl, if_pos rfl]
   exact Fnds.nil _ _ _
  ·rw [if_neg e, if_neg e]
   exact (h.at_ k hk).fr (fr_grown hg) (fun g hg => by omega)
 ·show (if k = i then [] else L k).length ≤ 1000
  split
  ·exact Nat.zero_le _
  ·exact h.len k

def zState : Array Value := #[.pointer none, .map none, .int .u64 0, .slice none 0 0]
/-- All that All keeps, at a world of its walk. -/
structure AllS (w : World) (g3 g4 bm ga gh gc gp g8 gm B0 B1 N M : Nat) (C : Array Value) (W : World) (at' : List (Int × Int)) (has : List Bool) (cnt : List Int) (np sp sq nm s : Nat) (fp f : Int → Option Value) (spv : Value) (spl : List Int) (L : Int → List Fd) : Prop where
 ord : (w.heap.size ≤ g3 ∧ g3 < g4 ∧ g4 < bm ∧ g4 < ga ∧ g4 < gh ∧ g4 < gc) ∧ (bm < gp ∧ ga < gp ∧ gh < gp ∧ gc < gp) ∧ gp < g8 ∧ g8 < gm ∧ gm < B0 ∧ B0 ≤ B1
 b3 : Blk W g3 C 26
 b4 : Blk W g4 zState 74
 pm : PM W bm ga gh gc N M at' has cnt
 mx : Mx W gp np fp sp
 b8 : Blk W g8 #[.pointer (some ⟨bm, 0, none⟩), .map (some gp), .int .u64 (sq : Int), spv] 74
 by_ : By W gm nm f s B0 L
 spo : W.ownsRow B1 3 1 spv spl.length (spl.map (Value.int .i64))
 bel : Below w.heap.size w W
 base : B1 ≤ W.heap.size
section
variable {w : World} {g3 g4 bm ga gh gc gp g8 gm B0 B1 N M : Nat} {C : Array Value} {W : World} {at' : List (Int × Int)} {has : List Bool} {cnt : List Int} {np sp sq nm s : Nat} {fp f : Int → Option Value} {spv : Value} {spl : List Int} {L : Int → List Fd}
theorem AllS.later {W' : World} (h : AllS w g3 g4 bm ga gh gc gp g8 gm B0 B1 N M C W at' has cnt np sp sq nm s fp f spv spl L) (hB : Below W.heap.size W W') : AllS w g3 g4 bm ga gh gc gp g8 gm B0 B1 N M C W' at' has cnt np sp sq nm s fp f spv spl L :=
 ⟨h.ord, h.b3.later hB, h.b4.later hB, h.pm.later hB, h.mx.later hB, h.b8.later hB, h.by_.later hB, own_later h.spo hB, h.bel.trans (hB.mono h.bel.size), Nat.le_trans h.base hB.size⟩
theorem AllS.keep {W' : World} {S : Nat → Prop} (h : AllS w g3 g4 bm ga gh gc gp g8 gm B0 B1 N M C W at' has cnt np sp sq nm s fp f spv spl L) (hf : Nand.Fr S W W') (hS : ∀ g, S g → w.heap.size ≤ g) : Below w.heap.size w W' :=
 h.bel.trans (hf.below h.bel.size (fun g hg => hS g hg))
theorem AllS.seq (h : AllS w g3 g4 bm ga gh gc gp g8 gm B0 B1 N M C W at' has cnt np sp sq nm s fp f spv spl L) (sq' : Nat) : AllS w g3 g4 bm ga gh gc gp g8 gm B0 B1 N M C (W.setCell ⟨g8, 2, none⟩ (.int .u64 (sq' : Int))) at' has cnt np sp sq' nm s fp f spv spl L := by
 have hf := fr_set W g8 2 (.int .u64 (sq' : Int))
 obtain ⟨⟨o1, o2, o3, o4, o5, o6⟩, ⟨o7, o8, o9, o10⟩, o11, o12, o13, o14⟩ := h.ord
 refine ⟨h.ord, blk_fr h.b3 hf (by omega), blk_fr h.b4 hf (by omega), pm_fr h.pm hf (by omega) (by omega) (by omega) (by omega), mx_fr h.mx hf (by omega), ?_, by_fr h.by_ hf (by omega) (fun g hg => by omega), own_keep h.spo (fun g hg => hf.block g (h.spo.lt g hg).2 (by have := (h.spo.lt g hg).1; omega)), h.keep hf (fun g hg => by omega), Nat.le_trans h.base hf.size⟩
 have := h.b8.set 2 (.int .u64 (sq' : Int))
 simpa using this
theorem AllS.byp {W' : World} {nm' s' : Nat} {f' : Int → Option Value} {L' : Int → List Fd} (h : AllS w g3 g4 bm ga gh gc gp g8 gm B0 B1 N M C W at' has cnt np sp sq nm s fp f spv spl L) (hg : W.grownBy W' (some gm)) (hb : By W' gm nm' f' s' B0 L') : AllS w g3 g4 bm ga gh gc gp g8 gm B0 B1 N M C W' at' has cnt np sp sq nm' s' fp f' spv spl L' := by
 have hf := fr_grown hg
 obtain ⟨⟨o1, o2, o3, o4, o5, o6⟩, ⟨o7, o8, o9, o10⟩, o11, o12, o13, o14⟩ := h.ord
 exact ⟨h.ord, blk_fr h.b3 hf (by omega), blk_fr h.b4 hf (by omega), pm_fr h.pm hf (by omega) (by omega) (by omega) (by omega), mx_fr h.mx hf (by omega), blk_fr h.b8 hf (by omega), hb, own_keep h.spo (fun g hg => hf.block g (h.spo.lt g hg).2 (by have := (h.spo.lt g hg).1; omega)), h.keep hf (fun g hg => by omega), Nat.le_trans h.base hf.size⟩
theorem AllS.page {W' : World} {np' sp' : Nat} {fp' : Int → Option Value} (h : AllS w g3 g4 bm ga gh gc gp g8 gm B0 B1 N M C W at' has cnt np sp sq nm s fp f spv spl L) (hg : W.grownBy W' (some gp)) (hm : Mx W' gp np' fp' sp') : AllS w g3 g4 bm ga gh gc gp g8 gm B0 B1 N M C W' at' has cnt np' sp' sq nm s fp' f spv spl L := by
 have hf := fr_grown hg
 obtain ⟨⟨o1, o2, o3, o4, o5, o6⟩, ⟨o7, o8, o9, o10⟩, o11, o12, o13, o14⟩ := h.ord
 exact ⟨h.ord, blk_fr h.b3 hf (by omega), blk_fr h.b4 hf (by omega), pm_fr h.pm hf (by omega) (by omega) (by omega) (by omega), hm, blk_fr h.b8 hf (by omega), by_fr h.by_ hf (by omega) (fun g hg => by omega), own_keep h.spo (fun g hg => hf.block g (h.spo.lt g hg).2 (by have := (h.spo.lt g hg).1; omega)), h.keep hf (fun g hg => by omega), Nat.le_trans h.base hf.size⟩
theorem AllS.set {W' : World} {at2 : List (Int × Int)} {has2 : List Bool} {cnt2 : List Int} (h : AllS w g3 g4 bm ga gh gc gp g8 gm B0 B1 N M C W at' has cnt np sp sq nm s fp f spv spl L) (hp : Pmap.Fr W W' ga gh gc) (hm : PM W' bm ga gh gc N M at2 has2 cnt2) : AllS w g3 g4 bm ga gh gc gp g8 gm B0 B1 N M C W' at2 has2 cnt2 np sp sq nm s fp f spv spl L := by
 have hf := fr_pm hp
 obtain ⟨⟨o1, o2, o3, o4, o5, o6⟩, ⟨o7, o8, o9, o10⟩, o11, o12, o13, o14⟩ := h.ord
 exact ⟨h.ord, blk_fr h.b3 hf (by omega), blk_fr h.b4 hf (by omega), hm, mx_fr h.mx hf (by omega), blk_fr h.b8 hf (by omega), by_fr h.by_ hf (by omega) (fun g hg => by omega), own_keep h.spo (fun g hg => hf.block g (h.spo.lt g hg).2 (by have := (h.spo.lt g hg).1; omega)), h.keep hf (fun g hg => by omega), Nat.le_trans h.base hf.size⟩
theorem AllS.npm {np' : Nat} (h : AllS w g3 g4 bm ga gh gc gp g8 gm B0 B1 N M C W at' has cnt np sp sq nm s fp f spv spl L) (hn : np ≤ np') : AllS w g3 g4 bm ga gh gc gp g8 gm B0 B1 N M C W at' has cnt np' sp sq nm s fp f spv spl L := ⟨h.ord, h.b3, h.b4, h.pm, h.mx.mono hn, h.b8, h.by_, h.spo, h.bel, h.base⟩
/-- All that was found lies below B. -/
def LowF (B : Nat) (f : Int → Option Value) (L : Int → List Fd) : Prop := ∀ k, kwf k → (∀ g, ((f k).getD (.slice none 0 0)).ownBlock = some g → g < B) ∧ ∀ x ∈ L k, 0 < x.n → ∀ a, x.A = some a → a.block < B
theorem By.low {w : World} {gm n s base : Nat} {f : Int → Option Value} {L : Int → List Fd} (h : By w gm n f s base L) : LowF w.heap.size f L :=
 fun k hk => ⟨fun g hg => ((h.at_ k hk).1.lt g hg).2, fun x hx hn a ha => Fd.lt ((h.at_ k hk).2 x hx).1 hn ha⟩
theorem LowF.del {B : Nat} {f : Int → Option Value} {L : Int → List Fd} (h : LowF B f L) (i : Int) : LowF B (delF f i) (strikeL L i) := by
 intro k hk
 unfold delF strikeL
 by_cases e : k = i
 ·rw [if_pos e, if_pos e]
  exact ⟨(fun g hg => by cases hg), fun x hx => by cases hx⟩
 ·rw [if_neg e, if_neg e]
  exact h k hk
theorem AllS.rebase (h : AllS w g3 g4 bm ga gh gc gp g8 gm B0 B0 N M C W at' has cnt np sp sq nm s fp f (.slice none 0 0) [] L) : AllS w g3 g4 bm ga gh gc gp g8 gm B0 W.heap.size N M C W at' has cnt np sp sq nm s fp f (.slice none 0 0) [] L :=
 ⟨⟨h.ord.1, h.ord.2.1, h.ord.2.2.1, h.ord.2.2.2.1, h.ord.2.2.2.2.1, h.base⟩, h.b3, h.b4, h.pm, h.mx, h.b8, h.by_, World.ownsRow_nil _ _ _ _, h.bel, Nat.le_refl _⟩
/-- One more block is spoilt. -/
theorem AllS.spoilt {W' : World} {spv' : Value} {i : Int} (h : AllS w g3 g4 bm ga gh gc gp g8 gm B0 B1 N M C W at' has cnt np sp sq nm s fp f spv spl L) (hlow : LowF B1 f L) (hg : W.grownBy W' spv.ownBlock) (hr : W'.ownsRow B1 3 1 spv' (spl.length + 1) (spl.map (Value.int .i64) ++ [.int .i64 i])) : AllS w g3 g4 bm ga gh gc gp g8 gm B0 B1 N M C (W'.setCell ⟨g8, 3, none⟩ spv') at' has cnt np sp sq nm s fp f spv' (spl ++ [i]) L := by
 have hf1 : Nand.Fr (fun x => B1 ≤ x) W W' := Nand.Fr.of_grown hg (fun k hk => (h.spo.lt k hk).1)
 have hf2 := fr_set W' g8 3 spv'
 obtain ⟨⟨o1, o2, o3, o4, o5, o6⟩, ⟨o7, o8, o9, o10⟩, o11, o12, o13, o14⟩ := h.ord
 have hby : By W' gm nm f s B0 L := ⟨mx_fr h.by_.mx hf1 (by omega), fun k hk => by
  obtain ⟨l1, l2⟩ := hlow k hk
  have hk' := h.by_.at_ k hk
  refine ⟨own_keep hk'.1 (fun g hg => hf1.block g (hk'.1.lt g hg).2 (by have := l1 g hg; omega)), fun x hx => ⟨⟨(hk'.2 x hx).1.1, nums_fr (hk'.2 x hx).1.2 hf1 (fun hn a ha => by have := l2 x hx hn a ha; omega)⟩, (hk'.2 x hx).2⟩⟩, h.by_.len⟩
 refine ⟨h.ord, blk_fr (blk_fr h.b3 hf1 (by omega)) hf2 (by omega), blk_fr (blk_fr h.b4 hf1 (by omega)) hf2 (by omega), pm_fr (pm_fr h.pm hf1 (by omega) (by omega) (by omega) (by omega)) hf2 (by omega) (by omega) (by omega) (by omega), mx_fr (mx_fr h.mx hf1 (by omega)) hf2 (by omega), ?_, by_fr hby hf2 (by omega) (fun g hg => by omega), own_keep ?_ (fun g hg => hf2.block g (hr.lt g hg).2 (by have := (hr.lt g hg).1; omega)), ?_, Nat.le_trans (Nat.le_trans h.base hf1.size) hf2.size⟩
 ·have := (blk_fr h.b8 hf1 (by omega)).set 3 spv'
  simpa using this
 ·rw [List.length_append, List.length_singleton, List.map_append]
  exact hr
 ·exact (h.keep hf1 (fun g hg => by omega)).trans ((hf2.below (B := w.heap.size) (by have := h.bel.size; have := hf1.size; omega) (fun g hg => by omega)))
end
end Go.Proofs.Ytpcbpljdiacbmaa.Scan
