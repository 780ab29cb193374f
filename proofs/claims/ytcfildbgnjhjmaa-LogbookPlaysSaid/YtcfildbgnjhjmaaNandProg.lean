import Derived.Test.YtcfildbgnjhjmaaNandPush
import Derived.Deep.RegionHeld3
set_option linter.unusedVariables false
set_option linter.unusedSimpArgs false
namespace Go.Proofs.Ytcfildbgnjhjmaa.Nand
open Go.RowKit Go.Proofs.Ytcfildbgnjhjmaa.Kit

set_option maxRecDepth 100000 in
set_option maxHeartbeats 8000000 in
theorem prog_off (F : Nat → Prop) (b gb : Nat) (pv : Nat → Value) (wv : Value) (N : NA) (i p : Nat) (A : Option Addr) (c : Nat) (q : List Int) (ep : Int) (w : World) (h : AR w F b gb pv wv N) (hz : Nums w .u8 A 96 q)
    (he : N.atE i = 0 ∧ (p = (N.blk i).pages.length ∧ p < N.pages) ∧ (N.blk i).half = false ∧ N.fence ≤ ep) (hoff : (N.begun i).off = true) :
    Calls Try.prog 25 #[.pointer (some ⟨b, 0, none⟩), .int .i64 (i : Int), .int .i64 (p : Int), .slice A 96 c, .int .u64 ep] w fun e w' => e = .returned (.int .i64 9) ∧ Arr w' (grow F w w') b { N.begun i with way := some ⟨i, some q, ((N.begun i).blk i).dead⟩ } ∧ Fr F w w' := by
  obtain ⟨hi0, hi1, ho⟩ := atE_zero (N := N) (i := (i : Int)) he.1
  have hi : i < N.bs.length := by omega
  have hat := at_ok F b gb pv wv N i w h hi ho
  have Hwf := hid h.wf
  have hnp := h.wf.np
  have hlen := h.wf.len i hi
  have hnb := h.wf.nb
  have Hpl := hid he.2.1
  have HB := hid ((Below.refl w.heap.size w).alloc (Nat.le_refl _) (.cells #[.pointer (some ⟨gb, i * 6, none⟩)] 103))
  have H0 := hid h
  have Hhh := hid he.2.2.1
  have Hff := hid he.2.2.2
  have Hinb := hid h.inb
  have Hing := hid h.ing
  have Hlow := hid h.low
  have Hz := hid hz
  clear hi0 hi1 h hz he
  go_enter Try.func25, Try.ntmps25
  go_wp2_with fail
  refine hat.mono ?_
  rintro e w ⟨rfl, rfl⟩
  clear hat
  go_upto_region 2 with (fail)
  obtain ⟨w1, hw1⟩ : ∃ W, W = w.alloc (.cells #[.pointer (some ⟨gb, i * 6, none⟩)] 103) := ⟨_, rfl⟩
  have hb1 : Blk w1 w.heap.size #[.pointer (some ⟨gb, i * 6, none⟩)] 103 := by rw [hw1]; exact Blk.new _ _ _
  rw [← hw1] at HB ⊢
  clear hw1
  obtain ⟨g1, hg1⟩ : ∃ g, w.heap.size = g := ⟨_, rfl⟩
  rw [hg1] at hb1 ⊢
  have Hg1 := hid hg1
  have H1 := hid (H0.out.later HB.out)
  have Hz1 := hid (Hz.out.below HB.out)
  have Hb1 := hid hb1
  clear hg1 H0
  obtain ⟨c0, c1, c2, -, -, -, -, -⟩ := H1.out.cells
  obtain ⟨⟨A', c', -, d0⟩, d1, d2, -, -, -⟩ := H1.out.recs i hi
  have k0 : w1.cell? ⟨g1, 0, none⟩ = some (.pointer (some ⟨gb, i * 6, none⟩)) := hb1.cell 0
  have hl96 : ((96 : Int) != 96) = false := by decide
  have hp1' : ¬ (N.pages : Int) ≤ (p : Int) := by have := Hpl.out; omega
  have hpl : ((p : Int) != ((N.blk i).pages.length : Int)) = false := by rw [bne_eq_false_iff_eq]; have := Hpl.out; omega
  rw [Hhh.out] at d2
  have hfd : decide (ep < N.fence) = false := decide_eq_false (Int.not_lt.2 Hff.out)
  have hff := Int.not_lt.2 Hff.out
  clear hb1
  go_upto_region 12 with (fail)
  clear hfd hff hpl hp1' hl96 c0 c1 c2 d0 d1 d2 k0
  go_wp2_with fail
  refine (clone_own A 96 c q w1 Hz1.out (by decide) (by decide)).mono ?_
  rintro e w2 ⟨Au, cu, rfl, hu2, hB2⟩
  go_upto_region 13 with (fail)
  obtain ⟨w3, hw3⟩ : ∃ W, W = w2.alloc (.cells #[.slice Au 96 cu] 39) := ⟨_, rfl⟩
  have hb3 : Blk w3 w2.heap.size #[.slice Au 96 cu] 39 := by rw [hw3]; exact Blk.new _ _ _
  have hB3 : Below w1.heap.size w1 w3 := by rw [hw3]; exact hB2.alloc hB2.size _
  have hu3 : w3.ownsRow w1.heap.size 5 1 (.slice Au 96 cu) 96 (q.map (Value.int .u8)) := by rw [hw3]; exact hu2.alloc _
  rw [← hw3]
  clear hw3 hu2
  obtain ⟨g3, hg3⟩ : ∃ g, w2.heap.size = g := ⟨_, rfl⟩
  rw [hg3] at hb3 ⊢
  have Hg3 := hid (show w1.heap.size ≤ g3 from by rw [← hg3]; exact hB2.size)
  have H3 := hid (H1.out.later hB3)
  have Hu3 := hid hu3
  have Hb3 := hid hb3
  have Hb13 := hid (Hb1.out.later hB3)
  have HB3 := hid (HB.out.trans (hB3.mono HB.out.size))
  have HB13 := hid hB3
  clear hg3 hb3 hu3 hB3 hB2 H1 Hb1 Hz1
  have k1 : w3.cell? ⟨g1, 0, none⟩ = some (.pointer (some ⟨gb, i * 6, none⟩)) := Hb13.out.cell 0
  have hbeg := begin_any F b gb pv wv N i w3 H3.out hi ho
  go_wp2_with fail
  refine hbeg.mono ?_
  rintro e w4 ⟨rfl, h4, hF4⟩
  clear hbeg k1
  have Hne := hid h4.ne
  have Hb14 := hid (show Blk w4 g1 #[.pointer (some ⟨gb, i * 6, none⟩)] 103 from (hF4.block g1 Hb13.out.lt (fun e => blk_ne2 H3.out Hb13.out (by decide) (by decide) e)).trans Hb13.out)
  have Hb34 := hid (show Blk w4 g3 #[.slice Au 96 cu] 39 from (hF4.block g3 Hb3.out.lt (fun e => blk_ne2 H3.out Hb3.out (by decide) (by decide) e)).trans Hb3.out)
  have Hu4 := hid (own_keep Hu3.out (fun g hg => hF4.block g (own_block Hu3.out g hg).choose_spec.2 (fun e => by
    obtain ⟨cur, hcur, _⟩ := own_block Hu3.out g hg
    exact blk_ne2 H3.out (show Blk w3 g cur 5 from hcur) (by decide) (by decide) e)))
  have HF4 := hid (show Fr F w w4 from (Fr.of_below HB3.out).trans (hF4.mono (fun g _ hg => (show F g from by rcases hg with rfl | rfl; exact Hinb.out; exact Hing.out))) (fun g _ hg => hg))
  have H4 := hid h4
  have Hs4 := hid (show g1 < w4.heap.size ∧ g3 < w4.heap.size from ⟨Hb14.out.lt, Hb34.out.lt⟩)
  have Hsz := hid (show w.heap.size ≤ w1.heap.size from HB.out.size)
  clear hF4 H3 Hb13 Hb3 Hu3 h4
  have Hoff := hid hoff
  have hfr : (!(N.begun i).off) = false := by rw [hoff]; rfl
  rw [hfr]
  clear hfr hoff
  have e7 : w4.cell? ⟨b, 7, none⟩ = some wv := H4.out.hd.cell 7
  have f7 := H4.out.hd.free 7
  go_upto_region 16 with (fail)
  generalize hfv : Value.func _ _ _ = fv
  have Hbu := hid (byteR_new (F := F) Hu4.out Hz.out.len Hz.out.wf Hsz.out)
  have Hfin := hid (show AR (w4.setCell ⟨b, 7, none⟩ fv) (grow F w (w4.setCell ⟨b, 7, none⟩ fv)) b gb pv fv { N.begun i with way := some ⟨i, some q, ((N.begun i).blk i).dead⟩ } from by
    rw [grow_size (size_set ..)]
    have hg := H4.out.grown w
    have hf : Fr (fun g => g = b) w4 (w4.setCell ⟨b, 7, none⟩ fv) := fr_set w4 b 7 fv rfl
    have hother : ∀ g cs T, Blk w4 g cs T → T ≠ 96 → T ≠ 99 → (w4.setCell ⟨b, 7, none⟩ fv).heap[g]? = w4.heap[g]? := fun g cs T hb h1 h2 => Below.heap_setCell w4 ⟨b, 7, none⟩ fv g (fun e => blk_ne2 H4.out hb h1 h2 (.inl e))
    refine hg.upd hf (fun g hg => .inl hg) _ fv (by have := H4.out.hd.set 7 fv; exact this) (H4.out.row.keep (Below.heap_setCell w4 ⟨b, 7, none⟩ fv gb (fun e => H4.out.ne e.symm))) rfl (fun _ _ => rfl) ?_ ?_
    · refine ⟨g1, g3, .slice Au 96 cu, hfv.symm, ?_, ?_, .inr ⟨by have := Hg1.out; omega, Hs4.out.1⟩, .inr ⟨by have := Hg3.out; have := Hsz.out; omega, Hs4.out.2⟩, Hz.out.len, ?_⟩
      · unfold Blk
        rw [hother g1 _ _ Hb14.out (by decide) (by decide)]
        exact Hb14.out
      · unfold Blk
        rw [hother g3 _ _ Hb34.out (by decide) (by decide)]
        exact Hb34.out
      · refine Hbu.out.keep (fun g hg _ => ?_) (fun _ _ h => h)
        obtain ⟨cur, hc, _⟩ := own_block Hbu.out.1 g hg
        exact hother g cur _ hc (by decide) (by decide)
    · refine ⟨H4.out.wf.nb, H4.out.wf.np, H4.out.wf.len, fun u hu => ?_, H4.out.wf.armed, H4.out.wf.doom⟩
      injection hu with hu
      subst hu
      refine ⟨Hoff.out, by show i < (N.begun i).bs.length; rw [len_begun]; exact hi, fun q' _ => ?_⟩
      show ((N.begun i).blk i).pages.length < N.pages
      rw [blk_begun i i hi, if_pos rfl]
      show (N.blk i).pages.length < N.pages
      have := Hpl.out
      omega)
  have HFin := hid (HF4.out.set b 7 fv (.inl Hinb.out))
  clear e7 f7 hfv Hbu
  go_wp2
  go_ret
  exact ⟨rfl, ⟨gb, pv, fv, Hfin.out⟩, HFin.out⟩
set_option maxRecDepth 100000 in
set_option maxHeartbeats 8000000 in
theorem prog_on (F : Nat → Prop) (b gb : Nat) (pv : Nat → Value) (wv : Value) (N : NA) (i p : Nat) (A : Option Addr) (c : Nat) (q : List Int) (ep : Int) (w : World) (h : AR w F b gb pv wv N) (hz : Nums w .u8 A 96 q)
    (he : N.atE i = 0 ∧ (p = (N.blk i).pages.length ∧ p < N.pages) ∧ (N.blk i).half = false ∧ N.fence ≤ ep) (hoff : (N.begun i).off = false) (hdd : ((N.begun i).blk i).dead = false) :
    Calls Try.prog 25 #[.pointer (some ⟨b, 0, none⟩), .int .i64 (i : Int), .int .i64 (p : Int), .slice A 96 c, .int .u64 ep] w fun e w' => e = .returned (.int .i64 0) ∧ Arr w' (grow F w w') b ((N.begun i).setB i (((N.begun i).blk i).add q)) ∧ Fr F w w' := by
  obtain ⟨hi0, hi1, ho⟩ := atE_zero (N := N) (i := (i : Int)) he.1
  have hi : i < N.bs.length := by omega
  have hat := at_ok F b gb pv wv N i w h hi ho
  have Hwf := hid h.wf
  have hnp := h.wf.np
  have hlen := h.wf.len i hi
  have hnb := h.wf.nb
  have Hpl := hid he.2.1
  have HB := hid ((Below.refl w.heap.size w).alloc (Nat.le_refl _) (.cells #[.pointer (some ⟨gb, i * 6, none⟩)] 103))
  have H0 := hid h
  have Hhh := hid he.2.2.1
  have Hff := hid he.2.2.2
  have Hinb := hid h.inb
  have Hing := hid h.ing
  have Hlow := hid h.low
  have Hz := hid hz
  clear hi0 hi1 h hz he
  go_enter Try.func25, Try.ntmps25
  go_wp2_with fail
  refine hat.mono ?_
  rintro e w ⟨rfl, rfl⟩
  clear hat
  go_upto_region 2 with (fail)
  obtain ⟨w1, hw1⟩ : ∃ W, W = w.alloc (.cells #[.pointer (some ⟨gb, i * 6, none⟩)] 103) := ⟨_, rfl⟩
  have hb1 : Blk w1 w.heap.size #[.pointer (some ⟨gb, i * 6, none⟩)] 103 := by rw [hw1]; exact Blk.new _ _ _
  rw [← hw1] at HB ⊢
  clear hw1
  obtain ⟨g1, hg1⟩ : ∃ g, w.heap.size = g := ⟨_, rfl⟩
  rw [hg1] at hb1 ⊢
  have Hg1 := hid hg1
  have H1 := hid (H0.out.later HB.out)
  have Hz1 := hid (Hz.out.below HB.out)
  have Hb1 := hid hb1
  clear hg1 H0
  obtain ⟨c0, c1, c2, -, -, -, -, -⟩ := H1.out.cells
  obtain ⟨⟨A', c', -, d0⟩, d1, d2, -, -, -⟩ := H1.out.recs i hi
  have k0 : w1.cell? ⟨g1, 0, none⟩ = some (.pointer (some ⟨gb, i * 6, none⟩)) := hb1.cell 0
  have hl96 : ((96 : Int) != 96) = false := by decide
  have hp1' : ¬ (N.pages : Int) ≤ (p : Int) := by have := Hpl.out; omega
  have hpl : ((p : Int) != ((N.blk i).pages.length : Int)) = false := by rw [bne_eq_false_iff_eq]; have := Hpl.out; omega
  rw [Hhh.out] at d2
  have hfd : decide (ep < N.fence) = false := decide_eq_false (Int.not_lt.2 Hff.out)
  have hff := Int.not_lt.2 Hff.out
  clear hb1
  go_upto_region 12 with (fail)
  clear hfd hff hpl hp1' hl96 c0 c1 c2 d0 d1 d2 k0
  go_wp2_with fail
  refine (clone_own A 96 c q w1 Hz1.out (by decide) (by decide)).mono ?_
  rintro e w2 ⟨Au, cu, rfl, hu2, hB2⟩
  go_upto_region 13 with (fail)
  obtain ⟨w3, hw3⟩ : ∃ W, W = w2.alloc (.cells #[.slice Au 96 cu] 39) := ⟨_, rfl⟩
  have hb3 : Blk w3 w2.heap.size #[.slice Au 96 cu] 39 := by rw [hw3]; exact Blk.new _ _ _
  have hB3 : Below w1.heap.size w1 w3 := by rw [hw3]; exact hB2.alloc hB2.size _
  have hu3 : w3.ownsRow w1.heap.size 5 1 (.slice Au 96 cu) 96 (q.map (Value.int .u8)) := by rw [hw3]; exact hu2.alloc _
  rw [← hw3]
  clear hw3 hu2
  obtain ⟨g3, hg3⟩ : ∃ g, w2.heap.size = g := ⟨_, rfl⟩
  rw [hg3] at hb3 ⊢
  have Hg3 := hid (show w1.heap.size ≤ g3 from by rw [← hg3]; exact hB2.size)
  have H3 := hid (H1.out.later hB3)
  have Hu3 := hid hu3
  have Hb3 := hid hb3
  have Hb13 := hid (Hb1.out.later hB3)
  have HB3 := hid (HB.out.trans (hB3.mono HB.out.size))
  have HB13 := hid hB3
  clear hg3 hb3 hu3 hB3 hB2 H1 Hb1 Hz1
  have k1 : w3.cell? ⟨g1, 0, none⟩ = some (.pointer (some ⟨gb, i * 6, none⟩)) := Hb13.out.cell 0
  have hbeg := begin_any F b gb pv wv N i w3 H3.out hi ho
  go_wp2_with fail
  refine hbeg.mono ?_
  rintro e w4 ⟨rfl, h4, hF4⟩
  clear hbeg k1
  have Hne := hid h4.ne
  have Hb14 := hid (show Blk w4 g1 #[.pointer (some ⟨gb, i * 6, none⟩)] 103 from (hF4.block g1 Hb13.out.lt (fun e => blk_ne2 H3.out Hb13.out (by decide) (by decide) e)).trans Hb13.out)
  have Hb34 := hid (show Blk w4 g3 #[.slice Au 96 cu] 39 from (hF4.block g3 Hb3.out.lt (fun e => blk_ne2 H3.out Hb3.out (by decide) (by decide) e)).trans Hb3.out)
  have Hu4 := hid (own_keep Hu3.out (fun g hg => hF4.block g (own_block Hu3.out g hg).choose_spec.2 (fun e => by
    obtain ⟨cur, hcur, _⟩ := own_block Hu3.out g hg
    exact blk_ne2 H3.out (show Blk w3 g cur 5 from hcur) (by decide) (by decide) e)))
  have HF4 := hid (show Fr F w w4 from (Fr.of_below HB3.out).trans (hF4.mono (fun g _ hg => (show F g from by rcases hg with rfl | rfl; exact Hinb.out; exact Hing.out))) (fun g _ hg => hg))
  have H4 := hid h4
  have Hs4 := hid (show g1 < w4.heap.size ∧ g3 < w4.heap.size from ⟨Hb14.out.lt, Hb34.out.lt⟩)
  have Hsz := hid (show w.heap.size ≤ w1.heap.size from HB.out.size)
  clear hF4 H3 Hb13 Hb3 Hu3 h4
  have Hoff := hid hoff
  have Hdd := hid hdd
  rw [hoff, hdd]
  clear hoff hdd
  obtain ⟨⟨Ap, cp, hpe, hcp⟩, -, -, -, -, -⟩ := H4.out.recs i (by rw [len_begun]; exact hi)
  have hpgs : ((N.begun i).blk i).pages = (N.blk i).pages := by rw [blk_begun i i hi, if_pos rfl]; rfl
  rw [hpgs] at hpe hcp
  obtain ⟨xs, ho1, hf1, hp1⟩ := H4.out.pgs i (by rw [len_begun]; exact hi)
  rw [hpgs] at ho1 hp1
  obtain ⟨np, hnpl⟩ : ∃ n, (N.blk i).pages.length = n := ⟨_, rfl⟩
  rw [hnpl] at hpe hcp ho1
  have hnp1 : np ≤ 1000 := by omega
  rw [hpe] at ho1 hf1
  have Ho := hid ho1
  have Hbu := hid (byteR_new (F := F) Hu4.out Hz.out.len Hz.out.wf Hsz.out)
  have hrowlt : ∀ g, (Value.slice Ap np cp).ownBlock = some g → g < w4.heap.size ∧ g ≠ g1 ∧ g ≠ g3 ∧ g ≠ gb := by
    intro g hg
    obtain ⟨cur, hc, hlt⟩ := own_block ho1 g hg
    have hFg := Hlow.out g (hf1 g hg)
    have e1 := Hg1.out
    have e3 := Hg3.out
    have es := Hsz.out
    refine ⟨hlt, by omega, by omega, fun e => ?_⟩
    subst e
    exact blk_ne2 H4.out (show Blk w4 g cur 39 from hc) (by decide) (by decide) (.inr rfl)
  have HC := hid (fun (W : World) (hW : Fr (fun g => (Value.slice Ap np cp).ownBlock = some g) w4 W) => (by
    have hg := hW.block gb (H4.out.low gb Hing.out) (fun e => (hrowlt gb e).2.2.2 rfl)
    have hr := H4.out.row.keep hg
    refine ⟨?_, hr.free _⟩
    simp only [World.cell?, hg]
    exact hcp : W.cell? ⟨gb, i * 6, none⟩ = some (.slice Ap np cp) ∧ W.frozen? ⟨gb, i * 6, none⟩ = false))
  have HS := hid (fun (W : World) (hW : Fr (fun g => (Value.slice Ap np cp).ownBlock = some g) w4 W) => (by
    have h1 : Blk W g1 _ _ := (hW.block g1 Hs4.out.1 (fun e => (hrowlt g1 e).2.1 rfl)).trans Hb14.out
    have h3 : Blk W g3 _ _ := (hW.block g3 Hs4.out.2 (fun e => (hrowlt g3 e).2.2.1 rfl)).trans Hb34.out
    exact ⟨h1.cell 0, h3.cell 0⟩ : W.cell? ⟨g1, 0, none⟩ = some (.pointer (some ⟨gb, i * 6, none⟩)) ∧ W.cell? ⟨g3, 0, none⟩ = some (.slice Au 96 cu)))
  have hgne := (fun e => blk_ne2 H4.out Hb14.out (by decide) (by decide) (.inr e) : g1 ≠ gb)
  have hgne3 := (fun e => blk_ne2 H4.out Hb34.out (by decide) (by decide) (.inr e) : g3 ≠ gb)
  have HS2 := hid (fun (W : World) (v : Value) (hW : Fr (fun g => (Value.slice Ap np cp).ownBlock = some g) w4 W) => (by
    obtain ⟨h1, h3⟩ := HS.out W hW
    have e1 := Below.heap_setCell W ⟨gb, i * 6, none⟩ v g1 hgne
    have e3 := Below.heap_setCell W ⟨gb, i * 6, none⟩ v g3 hgne3
    simp only [World.cell?] at h1 h3 ⊢
    rw [e1, e3]
    exact ⟨h1, h3⟩ : (W.setCell ⟨gb, i * 6, none⟩ v).cell? ⟨g1, 0, none⟩ = some (.pointer (some ⟨gb, i * 6, none⟩)) ∧ (W.setCell ⟨gb, i * 6, none⟩ v).cell? ⟨g3, 0, none⟩ = some (.slice Au 96 cu)))
  have hd0 : Fr (fun g => (Value.slice Ap np cp).ownBlock = some g) w4 w4.drew := ⟨rfl, rfl, rfl, Nat.le_refl _, fun _ _ _ => rfl⟩
  have hd1 : Fr (fun g => (Value.slice Ap np cp).ownBlock = some g) w4 (w4.alloc (.cells #[.slice Au 96 cu] 39)).drew := (Fr.of_below ((Below.refl _ _).alloc (Nat.le_refl _) _)).drewN 1
  have hcpa := (HC.out _ (Fr.of_below ((Below.refl w4.heap.size w4).alloc (Nat.le_refl _) (.cells #[.slice Au 96 cu] 39)))).1
  have HQ := hid (show ∀ (g6 cap6 : Nat) (w6 : World), w6.ownsRow 0 39 1 (.slice (some ⟨g6, 0, none⟩) (np + 1) cap6) (np + 1) (xs ++ [.slice Au 96 cu]) → (w4.alloc (.cells #[.slice Au 96 cu] 39)).grownBy w6 (Value.slice Ap np cp).ownBlock → ((Value.slice Ap np cp).ownBlock = some g6 ∨ g6 = (w4.alloc (.cells #[.slice Au 96 cu] 39)).heap.size) →
      Arr (w6.setCell ⟨gb, i * 6, none⟩ (.slice (some ⟨g6, 0, none⟩) (np + 1) cap6)) (grow F w (w6.setCell ⟨gb, i * 6, none⟩ (.slice (some ⟨g6, 0, none⟩) (np + 1) cap6))) b ((N.begun i).setB i (((N.begun i).blk i).add q)) ∧ Fr F w (w6.setCell ⟨gb, i * 6, none⟩ (.slice (some ⟨g6, 0, none⟩) (np + 1) cap6)) from by
    intro g6 cap6 w6 hown hgr hat
    have hFa : Fr (fun g => (Value.slice Ap np cp).ownBlock = some g) w4 w6 := (Fr.of_below ((Below.refl _ _).alloc (Nat.le_refl _) (.cells #[.slice Au 96 cu] 39))).trans (Fr.of_grown hgr (fun g hg => hg)) (fun _ _ h => h)
    have hib : i < (N.begun i).bs.length := by rw [len_begun]; exact hi
    have hg6 : g6 < w6.heap.size := (own_block hown g6 rfl).choose_spec.2
    have hgrowF : ∀ g, grow F w w4 g → grow F w w6 g := fun g hg => by
      rcases hg with hg | hg
      · exact .inl hg
      · exact .inr ⟨hg.1, Nat.lt_of_lt_of_le hg.2 hFa.size⟩
    have hsz : w.heap.size ≤ w4.heap.size := HF4.out.size
    rw [grow_size (size_set ..)]
    have hP : PagesR w6 (grow F w w6) (.slice (some ⟨g6, 0, none⟩) (np + 1) cap6) (((N.begun i).blk i).add q).pages := by
      show PagesR _ _ _ (((N.begun i).blk i).pages ++ [q])
      rw [hpgs]
      refine PagesR.push (S := fun _ => True) (by rw [hnpl]; exact ho1) hp1 hFa (fun g hg => .inl hg) (by rw [hnpl]; exact hown) (fun g hg => ?_) Hz.out.len ?_
      · have e : g6 = g := by simpa [Value.ownBlock] using hg
        subst e
        rcases hat with hat | hat
        · exact .inl (hf1 g6 hat)
        · exact .inr ⟨by rw [hat]; exact Nat.le_trans hsz (by simp), hg6⟩
      · refine Hbu.out.keep (fun g hg _ => hFa.block g (own_block Hbu.out.1 g hg).choose_spec.2 (fun e => ?_)) (fun g _ hg => hgrowF g hg)
        obtain ⟨cur, hc, _⟩ := own_block Hbu.out.1 g hg
        obtain ⟨cur', hc', _⟩ := own_block ho1 g e
        rw [hc] at hc'
        injection hc' with hc'
        injection hc' with _ hc'
        revert hc'
        decide
    have hwy : (N.begun i).way = none := by
      have := wf_tick Hwf.out ho
      exact this
    refine ⟨⟨gb, _, wv, (H4.out.push i hib (((N.begun i).blk i).add q) (by rw [hpe]; rfl) (by rw [hpe]; exact hFa) (fun g hg => .inl hg) (fun g hg => by rcases hg with hg | hg; exact Nat.lt_of_lt_of_le (H4.out.low g hg) hFa.size; exact hg.2) hP (fun g hg => ?_) hwy (wf_push H4.out.wf i _ hib hwy ?_ rfl))⟩, ?_⟩
    · have e : g6 = g := by simpa [Value.ownBlock] using hg
      subst e
      rw [hpe]
      rcases hat with hat | hat
      · exact .inl hat
      · exact .inr (by rw [hat]; simp)
    · show (((N.begun i).blk i).pages ++ [q]).length ≤ N.pages
      rw [hpgs, List.length_append]
      have := Hpl.out
      simp
      omega
    · exact (HF4.out.trans (hFa.mono (fun g _ hg => (show F g from hf1 g hg))) (fun g _ hg => hg)).set gb _ _ (.inl Hing.out))
  replace Hp1 := hid hp1
  have hinb := hid hrowlt
  clear ho1 hf1 hp1 hrowlt Hu4 Hbu
  go_upto_region 20 with (fail)
  refine wp_region_held_drew (S := (fun w' => w'.cell? ⟨g1, 0, none⟩ = some (.pointer (some ⟨gb, i * 6, none⟩)) ∧ w'.cell? ⟨g3, 0, none⟩ = some (.slice Au 96 cu))) (by kernel_rfl) ?hSnewOz (fun hHeld => ?restOz)
  case hSnewOz => ((try dsimp only); exact HS.out _ hd0)
  refine wpAnyH_take (i := 0) (oi := ?oiOt2x0) (v := ?vOt2x0) ?hoOt2x0 ?h1Ot2x0 ?h2Ot2x0 ?h3Ot2x0 ?hqOt2x0 (Or.inl ⟨?h4Ot2x0, ?hyOt2x0⟩) (by assumption) ?restOt2x0
  case hoOt2x0 => (simp only [List.getElem?_toArray, List.getElem?_cons_zero, List.getElem?_cons_succ]; rfl)
  case h1Ot2x0 => kernel_rfl
  case h2Ot2x0 => kernel_rfl
  case h3Ot2x0 => kernel_rfl
  case h4Ot2x0 => rfl
  case hqOt2x0 => exact fun _ _ _ h => h
  case hyOt2x0 => (intro w hSw; (try dsimp only at hSw); go_simp <;> with_reducible rfl)
  (try simp only [Act.put, List.setIfInBounds_toArray, List.set_cons_zero, List.set_cons_succ])
  refine wpAnyH_take (i := 1) (oi := ?oiOt4x1) (v := ?vOt4x1) ?hoOt4x1 ?h1Ot4x1 ?h2Ot4x1 ?h3Ot4x1 ?hqOt4x1 (Or.inl ⟨?h4Ot4x1, ?hyOt4x1⟩) (by assumption) ?restOt4x1
  case hoOt4x1 => (simp only [List.getElem?_toArray, List.getElem?_cons_zero, List.getElem?_cons_succ]; rfl)
  case h1Ot4x1 => kernel_rfl
  case h2Ot4x1 => kernel_rfl
  case h3Ot4x1 => kernel_rfl
  case h4Ot4x1 => rfl
  case hqOt4x1 => exact fun _ _ _ h => h
  case hyOt4x1 => (intro w hSw; (try dsimp only at hSw); go_simp <;> with_reducible rfl)
  (try simp only [Act.put, List.setIfInBounds_toArray, List.set_cons_zero, List.set_cons_succ])
  refine wpAnyH_take (i := 2) (oi := ?oiOt6x2) (v := ?vOt6x2) ?hoOt6x2 ?h1Ot6x2 ?h2Ot6x2 ?h3Ot6x2 ?hqOt6x2 (Or.inl ⟨?h4Ot6x2, ?hyOt6x2⟩) (by assumption) ?restOt6x2
  case hoOt6x2 => (simp only [List.getElem?_toArray, List.getElem?_cons_zero, List.getElem?_cons_succ]; rfl)
  case h1Ot6x2 => kernel_rfl
  case h2Ot6x2 => kernel_rfl
  case h3Ot6x2 => kernel_rfl
  case h4Ot6x2 => rfl
  case hqOt6x2 => exact fun _ _ _ h => h
  case hyOt6x2 => (intro w hSw; (try dsimp only at hSw); go_simp <;> with_reducible rfl)
  (try simp only [Act.put, List.setIfInBounds_toArray, List.set_cons_zero, List.set_cons_succ])
  refine wpAnyH_take (i := 3) (oi := ?oiOt8x3) (v := ?vOt8x3) ?hoOt8x3 ?h1Ot8x3 ?h2Ot8x3 ?h3Ot8x3 ?hqOt8x3 (Or.inl ⟨?h4Ot8x3, ?hyOt8x3⟩) (by assumption) ?restOt8x3
  case hoOt8x3 => (simp only [List.getElem?_toArray, List.getElem?_cons_zero, List.getElem?_cons_succ]; rfl)
  case h1Ot8x3 => kernel_rfl
  case h2Ot8x3 => kernel_rfl
  case h3Ot8x3 => kernel_rfl
  case h4Ot8x3 => rfl
  case hqOt8x3 => exact fun _ _ _ h => h
  case hyOt8x3 => (intro w hSw; (try dsimp only at hSw); go_simp <;> with_reducible rfl)
  (try simp only [Act.put, List.setIfInBounds_toArray, List.set_cons_zero, List.set_cons_succ])
  refine wpAnyH_take (i := 5) (oi := ?oiOt10x5) (v := ?vOt10x5) ?hoOt10x5 ?h1Ot10x5 ?h2Ot10x5 ?h3Ot10x5 ?hqOt10x5 (Or.inl ⟨?h4Ot10x5, ?hyOt10x5⟩) (by assumption) ?restOt10x5
  case hoOt10x5 => (simp only [List.getElem?_toArray, List.getElem?_cons_zero, List.getElem?_cons_succ]; rfl)
  case h1Ot10x5 => kernel_rfl
  case h2Ot10x5 => kernel_rfl
  case h3Ot10x5 => kernel_rfl
  case h4Ot10x5 => rfl
  case hqOt10x5 => exact fun _ _ _ h => h
  case hyOt10x5 => (intro w hSw; (try dsimp only at hSw); go_simp <;> with_reducible rfl)
  (try simp only [Act.put, List.setIfInBounds_toArray, List.set_cons_zero, List.set_cons_succ])
  refine wpAnyH_ready (rs := [4, 6]) (by kernel_rfl) (by simp) ?_
  refine (AllReadyH.cons (o := ?oiOf110) ?hoOf110 (fun K hK => ?riOf110) (AllReadyH.cons (o := ?oiOf111) ?hoOf111 (fun K hK => ?riOf111) AllReadyH.nil))
  case hoOf110 => (simp only [List.getElem?_toArray, List.getElem?_cons_zero, List.getElem?_cons_succ]; rfl)
  case hoOf111 => (simp only [List.getElem?_toArray, List.getElem?_cons_zero, List.getElem?_cons_succ]; rfl)
  case riOf110 =>
    go_simp
    refine hK.out _ _ ?hSnewOg12 (fun hHeld => ?restOg12)
    case hSnewOg12 => ((try dsimp only); exact HS.out _ hd0)
    clear hK K
    (try simp only [Act.put, List.setIfInBounds_toArray, List.set_cons_zero, List.set_cons_succ])
    refine wpAnyH_ready (rs := [6]) (by kernel_rfl) (by simp) ?_
    refine AllReadyH.cons (o := ?oiOq13) ?hoOq13 (fun K hK => ?restOq13) ?moreOq13
    case moreOq13 => exact AllReadyH.nil
    case hoOq13 => (simp only [List.getElem?_toArray, List.getElem?_cons_zero, List.getElem?_cons_succ]; rfl)
    go_simp
    refine hK.out _ _ ?hSnewOhq13 (fun hHeld => ?restOhq13)
    case hSnewOhq13 => ((try dsimp only); exact HS.out _ hd1)
    clear hK K
    (try simp only [Act.put, List.setIfInBounds_toArray, List.set_cons_zero, List.set_cons_succ])
    refine wpAnyH_ready (rs := [7]) (by kernel_rfl) (by simp) ?_
    refine AllReadyH.cons (o := ?oiOq14) ?hoOq14 (fun K hK => ?restOq14) ?moreOq14
    case moreOq14 => exact AllReadyH.nil
    case hoOq14 => (simp only [List.getElem?_toArray, List.getElem?_cons_zero, List.getElem?_cons_succ]; rfl)
    refine step_append_page (by rfl) (.tmp 97) (.tmp 99) (by rfl) _ np xs (.slice Au 96 cu) _ (by rfl) (by rfl) ?c11 ?c21 rfl hnp1 ?_
    case c11 => exact (Ho.out.alloc _).drew
    case c21 => exact heap_alloc_new w4 _
    intro g6 cap6 w6 hown hgrow hat
    replace hgrow : (w4.alloc (.cells #[.slice Au 96 cu] 39)).grownBy w6 (Value.slice Ap np cp).ownBlock := grown_from (n := 1) hgrow
    replace hat : (Value.slice Ap np cp).ownBlock = some g6 ∨ g6 = (w4.alloc (.cells #[.slice Au 96 cu] 39)).heap.size := hat
    have hFa : Fr (fun g => (Value.slice Ap np cp).ownBlock = some g) w4 w6 := (Fr.of_below ((Below.refl _ _).alloc (Nat.le_refl _) (.cells #[.slice Au 96 cu] 39))).trans (Fr.of_grown hgrow (fun g hg => hg)) (fun _ _ h => h)
    obtain ⟨hca, hfa⟩ := HC.out _ hFa
    refine hK.out _ _ ?hSnewOhq14 (fun hHeld => ?restOhq14)
    case hSnewOhq14 => ((try dsimp only); exact HS.out _ hFa)
    clear hK K
    (try simp only [Act.put, List.setIfInBounds_toArray, List.set_cons_zero, List.set_cons_succ])
    refine wpAnyH_take (i := 8) (oi := ?oiOt16x8) (v := ?vOt16x8) ?hoOt16x8 ?h1Ot16x8 ?h2Ot16x8 ?h3Ot16x8 ?hqOt16x8 (Or.inl ⟨?h4Ot16x8, ?hyOt16x8⟩) (by assumption) ?restOt16x8
    case hoOt16x8 => (simp only [List.getElem?_toArray, List.getElem?_cons_zero, List.getElem?_cons_succ]; rfl)
    case h1Ot16x8 => kernel_rfl
    case h2Ot16x8 => kernel_rfl
    case h3Ot16x8 => kernel_rfl
    case h4Ot16x8 => rfl
    case hqOt16x8 => exact fun _ _ _ h => h
    case hyOt16x8 => (intro w hSw; (try dsimp only at hSw); go_simp <;> with_reducible rfl)
    (try simp only [Act.put, List.setIfInBounds_toArray, List.set_cons_zero, List.set_cons_succ])
    refine wpAnyH_take (i := 9) (oi := ?oiOt18x9) (v := ?vOt18x9) ?hoOt18x9 ?h1Ot18x9 ?h2Ot18x9 ?h3Ot18x9 ?hqOt18x9 (Or.inl ⟨?h4Ot18x9, ?hyOt18x9⟩) (by assumption) ?restOt18x9
    case hoOt18x9 => (simp only [List.getElem?_toArray, List.getElem?_cons_zero, List.getElem?_cons_succ]; rfl)
    case h1Ot18x9 => kernel_rfl
    case h2Ot18x9 => kernel_rfl
    case h3Ot18x9 => kernel_rfl
    case h4Ot18x9 => rfl
    case hqOt18x9 => exact fun _ _ _ h => h
    case hyOt18x9 => (intro w hSw; (try dsimp only at hSw); go_simp <;> with_reducible rfl)
    (try simp only [Act.put, List.setIfInBounds_toArray, List.set_cons_zero, List.set_cons_succ])
    refine wpAnyH_ready (rs := [10]) (by kernel_rfl) (by simp) ?_
    refine AllReadyH.cons (o := ?oiOq19) ?hoOq19 (fun K hK => ?restOq19) ?moreOq19
    case moreOq19 => exact AllReadyH.nil
    case hoOq19 => (simp only [List.getElem?_toArray, List.getElem?_cons_zero, List.getElem?_cons_succ]; rfl)
    go_simp
    refine hK.out _ _ ?hSnewOhq19 (fun hHeld => ?restOhq19)
    case hSnewOhq19 => ((try dsimp only); exact HS2.out _ _ hFa)
    clear hK K
    (try simp only [Act.put, List.setIfInBounds_toArray, List.set_cons_zero, List.set_cons_succ])
    refine wpAnyH_done (by kernel_rfl) ?_ _
    have HW := HQ.out _ _ _ hown hgrow hat
    clear hown hgrow hat hfa
    rw [show (World.setCell w6 ⟨gb, i * 6, none⟩ (.slice (some ⟨g6, 0, none⟩) (np + 1) cap6)) = w6.setCell ⟨gb, i * 6, none⟩ (.slice (some ⟨g6, 0, none⟩) (np + 1) cap6) from rfl]
    generalize w6.setCell ⟨gb, i * 6, none⟩ (.slice (some ⟨g6, 0, none⟩) (np + 1) cap6) = w7 at *
    go_wp2
    go_ret
    exact ⟨rfl, HW.1, HW.2⟩
  case riOf111 =>
    go_simp
    refine hK.out _ _ ?hSnewOg20 (fun hHeld => ?restOg20)
    case hSnewOg20 => ((try dsimp only); exact HS.out _ hd1)
    clear hK K
    (try simp only [Act.put, List.setIfInBounds_toArray, List.set_cons_zero, List.set_cons_succ])
    refine wpAnyH_ready (rs := [4]) (by kernel_rfl) (by simp) ?_
    refine AllReadyH.cons (o := ?oiOq21) ?hoOq21 (fun K hK => ?restOq21) ?moreOq21
    case moreOq21 => exact AllReadyH.nil
    case hoOq21 => (simp only [List.getElem?_toArray, List.getElem?_cons_zero, List.getElem?_cons_succ]; rfl)
    go_simp
    refine hK.out _ _ ?hSnewOhq21 (fun hHeld => ?restOhq21)
    case hSnewOhq21 => ((try dsimp only); exact HS.out _ hd1)
    clear hK K
    (try simp only [Act.put, List.setIfInBounds_toArray, List.set_cons_zero, List.set_cons_succ])
    refine wpAnyH_ready (rs := [7]) (by kernel_rfl) (by simp) ?_
    refine AllReadyH.cons (o := ?oiOq22) ?hoOq22 (fun K hK => ?restOq22) ?moreOq22
    case moreOq22 => exact AllReadyH.nil
    case hoOq22 => (simp only [List.getElem?_toArray, List.getElem?_cons_zero, List.getElem?_cons_succ]; rfl)
    refine step_append_page (by rfl) (.tmp 97) (.tmp 99) (by rfl) _ np xs (.slice Au 96 cu) _ (by rfl) (by rfl) ?c12 ?c22 rfl hnp1 ?_
    case c12 => exact (Ho.out.alloc _).drew
    case c22 => exact heap_alloc_new w4 _
    intro g6 cap6 w6 hown hgrow hat
    replace hgrow : (w4.alloc (.cells #[.slice Au 96 cu] 39)).grownBy w6 (Value.slice Ap np cp).ownBlock := grown_from (n := 1) hgrow
    replace hat : (Value.slice Ap np cp).ownBlock = some g6 ∨ g6 = (w4.alloc (.cells #[.slice Au 96 cu] 39)).heap.size := hat
    have hFa : Fr (fun g => (Value.slice Ap np cp).ownBlock = some g) w4 w6 := (Fr.of_below ((Below.refl _ _).alloc (Nat.le_refl _) (.cells #[.slice Au 96 cu] 39))).trans (Fr.of_grown hgrow (fun g hg => hg)) (fun _ _ h => h)
    obtain ⟨hca, hfa⟩ := HC.out _ hFa
    refine hK.out _ _ ?hSnewOhq22 (fun hHeld => ?restOhq22)
    case hSnewOhq22 => ((try dsimp only); exact HS.out _ hFa)
    clear hK K
    (try simp only [Act.put, List.setIfInBounds_toArray, List.set_cons_zero, List.set_cons_succ])
    refine wpAnyH_take (i := 8) (oi := ?oiOt24x8) (v := ?vOt24x8) ?hoOt24x8 ?h1Ot24x8 ?h2Ot24x8 ?h3Ot24x8 ?hqOt24x8 (Or.inl ⟨?h4Ot24x8, ?hyOt24x8⟩) (by assumption) ?restOt24x8
    case hoOt24x8 => (simp only [List.getElem?_toArray, List.getElem?_cons_zero, List.getElem?_cons_succ]; rfl)
    case h1Ot24x8 => kernel_rfl
    case h2Ot24x8 => kernel_rfl
    case h3Ot24x8 => kernel_rfl
    case h4Ot24x8 => rfl
    case hqOt24x8 => exact fun _ _ _ h => h
    case hyOt24x8 => (intro w hSw; (try dsimp only at hSw); go_simp <;> with_reducible rfl)
    (try simp only [Act.put, List.setIfInBounds_toArray, List.set_cons_zero, List.set_cons_succ])
    refine wpAnyH_take (i := 9) (oi := ?oiOt26x9) (v := ?vOt26x9) ?hoOt26x9 ?h1Ot26x9 ?h2Ot26x9 ?h3Ot26x9 ?hqOt26x9 (Or.inl ⟨?h4Ot26x9, ?hyOt26x9⟩) (by assumption) ?restOt26x9
    case hoOt26x9 => (simp only [List.getElem?_toArray, List.getElem?_cons_zero, List.getElem?_cons_succ]; rfl)
    case h1Ot26x9 => kernel_rfl
    case h2Ot26x9 => kernel_rfl
    case h3Ot26x9 => kernel_rfl
    case h4Ot26x9 => rfl
    case hqOt26x9 => exact fun _ _ _ h => h
    case hyOt26x9 => (intro w hSw; (try dsimp only at hSw); go_simp <;> with_reducible rfl)
    (try simp only [Act.put, List.setIfInBounds_toArray, List.set_cons_zero, List.set_cons_succ])
    refine wpAnyH_ready (rs := [10]) (by kernel_rfl) (by simp) ?_
    refine AllReadyH.cons (o := ?oiOq27) ?hoOq27 (fun K hK => ?restOq27) ?moreOq27
    case moreOq27 => exact AllReadyH.nil
    case hoOq27 => (simp only [List.getElem?_toArray, List.getElem?_cons_zero, List.getElem?_cons_succ]; rfl)
    go_simp
    refine hK.out _ _ ?hSnewOhq27 (fun hHeld => ?restOhq27)
    case hSnewOhq27 => ((try dsimp only); exact HS2.out _ _ hFa)
    clear hK K
    (try simp only [Act.put, List.setIfInBounds_toArray, List.set_cons_zero, List.set_cons_succ])
    refine wpAnyH_done (by kernel_rfl) ?_ _
    have HW := HQ.out _ _ _ hown hgrow hat
    clear hown hgrow hat hfa
    rw [show (World.setCell w6 ⟨gb, i * 6, none⟩ (.slice (some ⟨g6, 0, none⟩) (np + 1) cap6)) = w6.setCell ⟨gb, i * 6, none⟩ (.slice (some ⟨g6, 0, none⟩) (np + 1) cap6) from rfl]
    generalize w6.setCell ⟨gb, i * 6, none⟩ (.slice (some ⟨g6, 0, none⟩) (np + 1) cap6) = w7 at *
    go_wp2
    go_ret
    exact ⟨rfl, HW.1, HW.2⟩
set_option maxRecDepth 100000 in
set_option maxHeartbeats 8000000 in
theorem prog_dead (F : Nat → Prop) (b gb : Nat) (pv : Nat → Value) (wv : Value) (N : NA) (i p : Nat) (A : Option Addr) (c : Nat) (q : List Int) (ep : Int) (w : World) (h : AR w F b gb pv wv N) (hz : Nums w .u8 A 96 q)
    (he : N.atE i = 0 ∧ (p = (N.blk i).pages.length ∧ p < N.pages) ∧ (N.blk i).half = false ∧ N.fence ≤ ep) (hoff : (N.begun i).off = false) (hdd : ((N.begun i).blk i).dead = true) :
    Calls Try.prog 25 #[.pointer (some ⟨b, 0, none⟩), .int .i64 (i : Int), .int .i64 (p : Int), .slice A 96 c, .int .u64 ep] w fun e w' => e = .returned (.int .i64 8) ∧ Arr w' (grow F w w') b ((N.begun i).setB i { ((N.begun i).blk i).add (tornL q 0) with failed := true }) ∧ Fr F w w' := by
  obtain ⟨hi0, hi1, ho⟩ := atE_zero (N := N) (i := (i : Int)) he.1
  have hi : i < N.bs.length := by omega
  have hat := at_ok F b gb pv wv N i w h hi ho
  have Hwf := hid h.wf
  have hnp := h.wf.np
  have hlen := h.wf.len i hi
  have hnb := h.wf.nb
  have Hpl := hid he.2.1
  have HB := hid ((Below.refl w.heap.size w).alloc (Nat.le_refl _) (.cells #[.pointer (some ⟨gb, i * 6, none⟩)] 103))
  have H0 := hid h
  have Hhh := hid he.2.2.1
  have Hff := hid he.2.2.2
  have Hinb := hid h.inb
  have Hing := hid h.ing
  have Hlow := hid h.low
  have Hz := hid hz
  clear hi0 hi1 h hz he
  go_enter Try.func25, Try.ntmps25
  go_wp2_with fail
  refine hat.mono ?_
  rintro e w ⟨rfl, rfl⟩
  clear hat
  go_upto_region 2 with (fail)
  obtain ⟨w1, hw1⟩ : ∃ W, W = w.alloc (.cells #[.pointer (some ⟨gb, i * 6, none⟩)] 103) := ⟨_, rfl⟩
  have hb1 : Blk w1 w.heap.size #[.pointer (some ⟨gb, i * 6, none⟩)] 103 := by rw [hw1]; exact Blk.new _ _ _
  rw [← hw1] at HB ⊢
  clear hw1
  obtain ⟨g1, hg1⟩ : ∃ g, w.heap.size = g := ⟨_, rfl⟩
  rw [hg1] at hb1 ⊢
  have Hg1 := hid hg1
  have H1 := hid (H0.out.later HB.out)
  have Hz1 := hid (Hz.out.below HB.out)
  have Hb1 := hid hb1
  clear hg1 H0
  obtain ⟨c0, c1, c2, -, -, -, -, -⟩ := H1.out.cells
  obtain ⟨⟨A', c', -, d0⟩, d1, d2, -, -, -⟩ := H1.out.recs i hi
  have k0 : w1.cell? ⟨g1, 0, none⟩ = some (.pointer (some ⟨gb, i * 6, none⟩)) := hb1.cell 0
  have hl96 : ((96 : Int) != 96) = false := by decide
  have hp1' : ¬ (N.pages : Int) ≤ (p : Int) := by have := Hpl.out; omega
  have hpl : ((p : Int) != ((N.blk i).pages.length : Int)) = false := by rw [bne_eq_false_iff_eq]; have := Hpl.out; omega
  rw [Hhh.out] at d2
  have hfd : decide (ep < N.fence) = false := decide_eq_false (Int.not_lt.2 Hff.out)
  have hff := Int.not_lt.2 Hff.out
  clear hb1
  go_upto_region 12 with (fail)
  clear hfd hff hpl hp1' hl96 c0 c1 c2 d0 d1 d2 k0
  go_wp2_with fail
  refine (clone_own A 96 c q w1 Hz1.out (by decide) (by decide)).mono ?_
  rintro e w2 ⟨Au, cu, rfl, hu2, hB2⟩
  go_upto_region 13 with (fail)
  obtain ⟨w3, hw3⟩ : ∃ W, W = w2.alloc (.cells #[.slice Au 96 cu] 39) := ⟨_, rfl⟩
  have hb3 : Blk w3 w2.heap.size #[.slice Au 96 cu] 39 := by rw [hw3]; exact Blk.new _ _ _
  have hB3 : Below w1.heap.size w1 w3 := by rw [hw3]; exact hB2.alloc hB2.size _
  have hu3 : w3.ownsRow w1.heap.size 5 1 (.slice Au 96 cu) 96 (q.map (Value.int .u8)) := by rw [hw3]; exact hu2.alloc _
  rw [← hw3]
  clear hw3 hu2
  obtain ⟨g3, hg3⟩ : ∃ g, w2.heap.size = g := ⟨_, rfl⟩
  rw [hg3] at hb3 ⊢
  have Hg3 := hid (show w1.heap.size ≤ g3 from by rw [← hg3]; exact hB2.size)
  have H3 := hid (H1.out.later hB3)
  have Hu3 := hid hu3
  have Hb3 := hid hb3
  have Hb13 := hid (Hb1.out.later hB3)
  have HB3 := hid (HB.out.trans (hB3.mono HB.out.size))
  have HB13 := hid hB3
  clear hg3 hb3 hu3 hB3 hB2 H1 Hb1 Hz1
  have k1 : w3.cell? ⟨g1, 0, none⟩ = some (.pointer (some ⟨gb, i * 6, none⟩)) := Hb13.out.cell 0
  have hbeg := begin_any F b gb pv wv N i w3 H3.out hi ho
  go_wp2_with fail
  refine hbeg.mono ?_
  rintro e w4 ⟨rfl, h4, hF4⟩
  clear hbeg k1
  have Hne := hid h4.ne
  have Hb14 := hid (show Blk w4 g1 #[.pointer (some ⟨gb, i * 6, none⟩)] 103 from (hF4.block g1 Hb13.out.lt (fun e => blk_ne2 H3.out Hb13.out (by decide) (by decide) e)).trans Hb13.out)
  have Hb34 := hid (show Blk w4 g3 #[.slice Au 96 cu] 39 from (hF4.block g3 Hb3.out.lt (fun e => blk_ne2 H3.out Hb3.out (by decide) (by decide) e)).trans Hb3.out)
  have Hu4 := hid (own_keep Hu3.out (fun g hg => hF4.block g (own_block Hu3.out g hg).choose_spec.2 (fun e => by
    obtain ⟨cur, hcur, _⟩ := own_block Hu3.out g hg
    exact blk_ne2 H3.out (show Blk w3 g cur 5 from hcur) (by decide) (by decide) e)))
  have HF4 := hid (show Fr F w w4 from (Fr.of_below HB3.out).trans (hF4.mono (fun g _ hg => (show F g from by rcases hg with rfl | rfl; exact Hinb.out; exact Hing.out))) (fun g _ hg => hg))
  have H4 := hid h4
  have Hs4 := hid (show g1 < w4.heap.size ∧ g3 < w4.heap.size from ⟨Hb14.out.lt, Hb34.out.lt⟩)
  have Hsz := hid (show w.heap.size ≤ w1.heap.size from HB.out.size)
  clear hF4 H3 Hb13 Hb3 Hu3 h4
  have Hoff := hid hoff
  have Hdd := hid hdd
  rw [hoff, hdd]
  clear hoff hdd
  obtain ⟨⟨Ap, cp, hpe, hcp⟩, -, -, -, hcf, -⟩ := H4.out.recs i (by rw [len_begun]; exact hi)
  have hpgs : ((N.begun i).blk i).pages = (N.blk i).pages := by rw [blk_begun i i hi, if_pos rfl]; rfl
  rw [hpgs] at hpe hcp
  obtain ⟨xs, ho1, hf1, hp1⟩ := H4.out.pgs i (by rw [len_begun]; exact hi)
  rw [hpgs] at ho1 hp1
  obtain ⟨np, hnpl⟩ : ∃ n, (N.blk i).pages.length = n := ⟨_, rfl⟩
  rw [hnpl] at hpe hcp ho1
  have hnp1 : np ≤ 1000 := by omega
  rw [hpe] at ho1 hf1
  have Ho := hid ho1
  have Hz4 := hid ((own_reads (k := .u8) Hu4.out Hz.out.wf))
  have hrowlt : ∀ g, (Value.slice Ap np cp).ownBlock = some g → g < w4.heap.size ∧ g ≠ g1 ∧ g ≠ g3 ∧ g ≠ gb := by
    intro g hg
    obtain ⟨cur, hc, hlt⟩ := own_block ho1 g hg
    have hFg := Hlow.out g (hf1 g hg)
    have e1 := Hg1.out
    have e3 := Hg3.out
    have es := Hsz.out
    refine ⟨hlt, by omega, by omega, fun e => ?_⟩
    subst e
    exact blk_ne2 H4.out (show Blk w4 g cur 39 from hc) (by decide) (by decide) (.inr rfl)
  have HC := hid (fun (W : World) (hW : Fr (fun g => (Value.slice Ap np cp).ownBlock = some g) w4 W) => (by
    have hg := hW.block gb (H4.out.low gb Hing.out) (fun e => (hrowlt gb e).2.2.2 rfl)
    have hr := H4.out.row.keep hg
    refine ⟨?_, hr.free _, ?_, hr.free _⟩
    · simp only [World.cell?, hg]
      exact hcp
    · simp only [World.cell?, hg]
      exact hcf : W.cell? ⟨gb, i * 6, none⟩ = some (.slice Ap np cp) ∧ W.frozen? ⟨gb, i * 6, none⟩ = false ∧ W.cell? ⟨gb, i * 6 + 4, none⟩ = some (.bool ((N.begun i).blk i).failed) ∧ W.frozen? ⟨gb, i * 6 + 4, none⟩ = false))
  have HS := hid (fun (W : World) (hW : Fr (fun g => (Value.slice Ap np cp).ownBlock = some g) w4 W) => (by
    have h1 : Blk W g1 _ _ := (hW.block g1 Hs4.out.1 (fun e => (hrowlt g1 e).2.1 rfl)).trans Hb14.out
    have h3 : Blk W g3 _ _ := (hW.block g3 Hs4.out.2 (fun e => (hrowlt g3 e).2.2.1 rfl)).trans Hb34.out
    exact ⟨h1.cell 0, h3.cell 0⟩ : W.cell? ⟨g1, 0, none⟩ = some (.pointer (some ⟨gb, i * 6, none⟩)) ∧ W.cell? ⟨g3, 0, none⟩ = some (.slice Au 96 cu)))
  have hgne := (fun e => blk_ne2 H4.out Hb14.out (by decide) (by decide) (.inr e) : g1 ≠ gb)
  have hgne3 := (fun e => blk_ne2 H4.out Hb34.out (by decide) (by decide) (.inr e) : g3 ≠ gb)
  have HS2 := hid (fun (W : World) (v : Value) (o : Nat) (hW : W.cell? ⟨g1, 0, none⟩ = some (.pointer (some ⟨gb, i * 6, none⟩)) ∧ W.cell? ⟨g3, 0, none⟩ = some (.slice Au 96 cu)) => (by
    obtain ⟨h1, h3⟩ := hW
    have e1 := Below.heap_setCell W ⟨gb, o, none⟩ v g1 hgne
    have e3 := Below.heap_setCell W ⟨gb, o, none⟩ v g3 hgne3
    simp only [World.cell?] at h1 h3 ⊢
    rw [e1, e3]
    exact ⟨h1, h3⟩ : (W.setCell ⟨gb, o, none⟩ v).cell? ⟨g1, 0, none⟩ = some (.pointer (some ⟨gb, i * 6, none⟩)) ∧ (W.setCell ⟨gb, o, none⟩ v).cell? ⟨g3, 0, none⟩ = some (.slice Au 96 cu)))
  have hd0 : Fr (fun g => (Value.slice Ap np cp).ownBlock = some g) w4 w4.drew := ⟨rfl, rfl, rfl, Nat.le_refl _, fun _ _ _ => rfl⟩
  have HQ := hid (show ∀ (At : Option Addr) (ct : Nat) (W1 : World), Below w4.heap.size w4 W1 → W1.ownsRow w4.heap.size 5 1 (.slice At 96 ct) 96 ((tornL q 0).map (Value.int .u8)) → ∀ (g6 cap6 : Nat) (w6 : World), w6.ownsRow 0 39 1 (.slice (some ⟨g6, 0, none⟩) (np + 1) cap6) (np + 1) (xs ++ [.slice At 96 ct]) → (W1.alloc (.cells #[.slice At 96 ct] 39)).grownBy w6 (Value.slice Ap np cp).ownBlock → ((Value.slice Ap np cp).ownBlock = some g6 ∨ g6 = (W1.alloc (.cells #[.slice At 96 ct] 39)).heap.size) →
      Arr ((w6.setCell ⟨gb, i * 6, none⟩ (.slice (some ⟨g6, 0, none⟩) (np + 1) cap6)).setCell ⟨gb, i * 6 + 4, none⟩ (.bool true)) (grow F w ((w6.setCell ⟨gb, i * 6, none⟩ (.slice (some ⟨g6, 0, none⟩) (np + 1) cap6)).setCell ⟨gb, i * 6 + 4, none⟩ (.bool true))) b ((N.begun i).setB i { ((N.begun i).blk i).add (tornL q 0) with failed := true }) ∧ Fr F w ((w6.setCell ⟨gb, i * 6, none⟩ (.slice (some ⟨g6, 0, none⟩) (np + 1) cap6)).setCell ⟨gb, i * 6 + 4, none⟩ (.bool true)) from by
    intro At ct W1 hB1 hoT g6 cap6 w6 hown hgr hat
    have hFa : Fr (fun g => (Value.slice Ap np cp).ownBlock = some g) w4 w6 := (Fr.of_below (hB1.alloc hB1.size (.cells #[.slice At 96 ct] 39))).trans (Fr.of_grown hgr (fun g hg => hg)) (fun _ _ h => h)
    have hib : i < (N.begun i).bs.length := by rw [len_begun]; exact hi
    have hg6 : g6 < w6.heap.size := (own_block hown g6 rfl).choose_spec.2
    have hsz : w.heap.size ≤ w4.heap.size := HF4.out.size
    have hs1 := hB1.size
    rw [grow_size (size_set ..), grow_size (size_set ..)]
    have htl : (tornL q 0).length = 96 := by rw [tornL_len]; exact Hz.out.len
    have hP : PagesR w6 (grow F w w6) (.slice (some ⟨g6, 0, none⟩) (np + 1) cap6) (((N.begun i).blk i).add (tornL q 0)).pages := by
      show PagesR _ _ _ (((N.begun i).blk i).pages ++ [tornL q 0])
      rw [hpgs]
      refine PagesR.push (S := fun _ => True) (by rw [hnpl]; exact ho1) hp1 hFa (fun g hg => .inl hg) (by rw [hnpl]; exact hown) (fun g hg => ?_) htl ?_
      · have e : g6 = g := by simpa [Value.ownBlock] using hg
        subst e
        rcases hat with hat | hat
        · exact .inl (hf1 g6 hat)
        · exact .inr ⟨by rw [hat]; exact Nat.le_trans hsz (Nat.le_trans hs1 (by simp)), hg6⟩
      · have hbt := byteR_new (F := F) (w := w) hoT htl (tornL_wf q 0 Hz.out.wf) hsz
        refine hbt.keep (fun g hg _ => ?_) (fun g hg hFg => ?_)
        · obtain ⟨cur, hc, hlt⟩ := own_block hbt.1 g hg
          have hge := own_low hoT g hg
          refine (hgr.block g (by simp; omega) (fun e => ?_)).trans (heap_alloc_old W1 _ hlt)
          have := (own_block ho1 g e.symm).choose_spec.2
          omega
        · rcases hFg with hFg | hFg
          · exact .inl hFg
          · refine .inr ⟨hFg.1, Nat.lt_of_lt_of_le hFg.2 (Nat.le_trans ?_ hgr.size)⟩
            simp
    have hwy : (N.begun i).way = none := by
      have := wf_tick Hwf.out ho
      exact this
    have hAR := H4.out.push i hib (((N.begun i).blk i).add (tornL q 0)) (by rw [hpe]; rfl) (by rw [hpe]; exact hFa) (fun g hg => .inl hg) (fun g hg => by rcases hg with hg | hg; exact Nat.lt_of_lt_of_le (H4.out.low g hg) hFa.size; exact hg.2) hP (fun g hg => by
      have e : g6 = g := by simpa [Value.ownBlock] using hg
      subst e
      rw [hpe]
      rcases hat with hat | hat
      · exact .inl hat
      · exact .inr (by rw [hat]; exact Nat.le_trans hs1 (by simp))) hwy (wf_push H4.out.wf i _ hib hwy (by
      show (((N.begun i).blk i).pages ++ [tornL q 0]).length ≤ N.pages
      rw [hpgs, List.length_append]
      have := Hpl.out
      simp
      omega) rfl)
    have hib2 : i < ((N.begun i).setB i (((N.begun i).blk i).add (tornL q 0))).bs.length := by rw [len_set]; exact hib
    have hAR2 := hAR.setRec i 4 (.bool true) { ((N.begun i).blk i).add (tornL q 0) with failed := true } hib2 (by decide) (by rw [blk_set _ _ _ hib, if_pos rfl]; rfl) (by rw [blk_set _ _ _ hib, if_pos rfl]) (by
      rw [setB_setB]
      refine wf_push H4.out.wf i _ hib hwy ?_ rfl
      show (((N.begun i).blk i).pages ++ [tornL q 0]).length ≤ N.pages
      rw [hpgs, List.length_append]
      have := Hpl.out
      simp
      omega)
    rw [setB_setB] at hAR2
    exact ⟨⟨gb, _, wv, hAR2⟩, ((HF4.out.trans (hFa.mono (fun g _ hg => (show F g from hf1 g hg))) (fun g _ hg => hg)).set gb _ _ (.inl Hing.out)).set gb _ _ (.inl Hing.out)⟩)
  have HC1 := hid (fun (W : World) (hW : Below w4.heap.size w4 W) => (HC.out W (Fr.of_below hW)).1)
  have hB40 : Below w4.heap.size w4 w4.drew := below_drewN (Below.refl _ _) 1
  replace Hp1 := hid hp1
  replace Hrow := hid hrowlt
  clear ho1 hf1 hp1 hrowlt Hu4
  go_upto_region 18 with (fail)
  refine wp_region_held_drew (S := (fun w' => w'.cell? ⟨g1, 0, none⟩ = some (.pointer (some ⟨gb, i * 6, none⟩)) ∧ w'.cell? ⟨g3, 0, none⟩ = some (.slice Au 96 cu))) (by kernel_rfl) ?hSnewDz (fun hHeld => ?restDz)
  case hSnewDz => ((try dsimp only); exact HS.out _ hd0)
  refine wpAnyH_take (i := 0) (oi := ?oiDt29x0) (v := ?vDt29x0) ?hoDt29x0 ?h1Dt29x0 ?h2Dt29x0 ?h3Dt29x0 ?hqDt29x0 (Or.inl ⟨?h4Dt29x0, ?hyDt29x0⟩) (by assumption) ?restDt29x0
  case hoDt29x0 => (simp only [List.getElem?_toArray, List.getElem?_cons_zero, List.getElem?_cons_succ]; rfl)
  case h1Dt29x0 => kernel_rfl
  case h2Dt29x0 => kernel_rfl
  case h3Dt29x0 => kernel_rfl
  case h4Dt29x0 => rfl
  case hqDt29x0 => exact fun _ _ _ h => h
  case hyDt29x0 => (intro w hSw; (try dsimp only at hSw); go_simp <;> with_reducible rfl)
  (try simp only [Act.put, List.setIfInBounds_toArray, List.set_cons_zero, List.set_cons_succ])
  refine wpAnyH_take (i := 1) (oi := ?oiDt31x1) (v := ?vDt31x1) ?hoDt31x1 ?h1Dt31x1 ?h2Dt31x1 ?h3Dt31x1 ?hqDt31x1 (Or.inl ⟨?h4Dt31x1, ?hyDt31x1⟩) (by assumption) ?restDt31x1
  case hoDt31x1 => (simp only [List.getElem?_toArray, List.getElem?_cons_zero, List.getElem?_cons_succ]; rfl)
  case h1Dt31x1 => kernel_rfl
  case h2Dt31x1 => kernel_rfl
  case h3Dt31x1 => kernel_rfl
  case h4Dt31x1 => rfl
  case hqDt31x1 => exact fun _ _ _ h => h
  case hyDt31x1 => (intro w hSw; (try dsimp only at hSw); go_simp <;> with_reducible rfl)
  (try simp only [Act.put, List.setIfInBounds_toArray, List.set_cons_zero, List.set_cons_succ])
  refine wpAnyH_take (i := 2) (oi := ?oiDt33x2) (v := ?vDt33x2) ?hoDt33x2 ?h1Dt33x2 ?h2Dt33x2 ?h3Dt33x2 ?hqDt33x2 (Or.inl ⟨?h4Dt33x2, ?hyDt33x2⟩) (by assumption) ?restDt33x2
  case hoDt33x2 => (simp only [List.getElem?_toArray, List.getElem?_cons_zero, List.getElem?_cons_succ]; rfl)
  case h1Dt33x2 => kernel_rfl
  case h2Dt33x2 => kernel_rfl
  case h3Dt33x2 => kernel_rfl
  case h4Dt33x2 => rfl
  case hqDt33x2 => exact fun _ _ _ h => h
  case hyDt33x2 => (intro w hSw; (try dsimp only at hSw); go_simp <;> with_reducible rfl)
  (try simp only [Act.put, List.setIfInBounds_toArray, List.set_cons_zero, List.set_cons_succ])
  refine wpAnyH_take (i := 3) (oi := ?oiDt35x3) (v := ?vDt35x3) ?hoDt35x3 ?h1Dt35x3 ?h2Dt35x3 ?h3Dt35x3 ?hqDt35x3 (Or.inl ⟨?h4Dt35x3, ?hyDt35x3⟩) (by assumption) ?restDt35x3
  case hoDt35x3 => (simp only [List.getElem?_toArray, List.getElem?_cons_zero, List.getElem?_cons_succ]; rfl)
  case h1Dt35x3 => kernel_rfl
  case h2Dt35x3 => kernel_rfl
  case h3Dt35x3 => kernel_rfl
  case h4Dt35x3 => rfl
  case hqDt35x3 => exact fun _ _ _ h => h
  case hyDt35x3 => (intro w hSw; (try dsimp only at hSw); go_simp <;> with_reducible rfl)
  (try simp only [Act.put, List.setIfInBounds_toArray, List.set_cons_zero, List.set_cons_succ])
  refine wpAnyH_take (i := 4) (oi := ?oiDt37x4) (v := ?vDt37x4) ?hoDt37x4 ?h1Dt37x4 ?h2Dt37x4 ?h3Dt37x4 ?hqDt37x4 (Or.inl ⟨?h4Dt37x4, ?hyDt37x4⟩) (by assumption) ?restDt37x4
  case hoDt37x4 => (simp only [List.getElem?_toArray, List.getElem?_cons_zero, List.getElem?_cons_succ]; rfl)
  case h1Dt37x4 => kernel_rfl
  case h2Dt37x4 => kernel_rfl
  case h3Dt37x4 => kernel_rfl
  case h4Dt37x4 => rfl
  case hqDt37x4 => exact fun _ _ _ h => h
  case hyDt37x4 => (intro w hSw; (try dsimp only at hSw); go_simp <;> with_reducible rfl)
  (try simp only [Act.put, List.setIfInBounds_toArray, List.set_cons_zero, List.set_cons_succ])
  refine wpAnyH_take (i := 6) (oi := ?oiDt39x6) (v := ?vDt39x6) ?hoDt39x6 ?h1Dt39x6 ?h2Dt39x6 ?h3Dt39x6 ?hqDt39x6 (Or.inl ⟨?h4Dt39x6, ?hyDt39x6⟩) (by assumption) ?restDt39x6
  case hoDt39x6 => (simp only [List.getElem?_toArray, List.getElem?_cons_zero, List.getElem?_cons_succ]; rfl)
  case h1Dt39x6 => kernel_rfl
  case h2Dt39x6 => kernel_rfl
  case h3Dt39x6 => kernel_rfl
  case h4Dt39x6 => rfl
  case hqDt39x6 => exact fun _ _ _ h => h
  case hyDt39x6 => (intro w hSw; (try dsimp only at hSw); go_simp <;> with_reducible rfl)
  (try simp only [Act.put, List.setIfInBounds_toArray, List.set_cons_zero, List.set_cons_succ])
  refine wpAnyH_ready (rs := [5, 7]) (by kernel_rfl) (by simp) ?_
  refine (AllReadyH.cons (o := ?oiDf400) ?hoDf400 (fun K hK => ?riDf400) (AllReadyH.cons (o := ?oiDf401) ?hoDf401 (fun K hK => ?riDf401) AllReadyH.nil))
  case hoDf400 => (simp only [List.getElem?_toArray, List.getElem?_cons_zero, List.getElem?_cons_succ]; rfl)
  case hoDf401 => (simp only [List.getElem?_toArray, List.getElem?_cons_zero, List.getElem?_cons_succ]; rfl)
  case riDf400 =>
    go_simp
    refine hK.out _ _ ?hSnewDg41 (fun hHeld => ?restDg41)
    case hSnewDg41 => ((try dsimp only); exact HS.out _ hd0)
    clear hK K
    (try simp only [Act.put, List.setIfInBounds_toArray, List.set_cons_zero, List.set_cons_succ])
    refine wpAnyH_ready (rs := [7]) (by kernel_rfl) (by simp) ?_
    refine AllReadyH.cons (o := ?oiDq42) ?hoDq42 (fun K hK => ?restDq42) ?moreDq42
    case moreDq42 => exact AllReadyH.nil
    case hoDq42 => (simp only [List.getElem?_toArray, List.getElem?_cons_zero, List.getElem?_cons_succ]; rfl)
    go_simp
    refine (torn_any Au cu q 0 _ (Hz4.out.2.drewN 1) Hz4.out.1).mono ?_
    rintro e wt ⟨At, ct, rfl, hoT, hBT⟩
    have hBt : Below w4.heap.size w4 wt := hB40.trans hBT
    have hBta := hBt.alloc hBt.size (.cells #[.slice At 96 ct] 39)
    have hct := HC1.out _ hBt
    have hcta := HC1.out _ hBta
    try go_wp2_with fail
    refine hK.out _ _ ?hSnewDhq42 (fun hHeld => ?restDhq42)
    case hSnewDhq42 => ((try dsimp only); exact HS.out _ (Fr.of_below hBt))
    clear hK K
    (try simp only [Act.put, List.setIfInBounds_toArray, List.set_cons_zero, List.set_cons_succ])
    refine wpAnyH_ready (rs := [8]) (by kernel_rfl) (by simp) ?_
    refine AllReadyH.cons (o := ?oiDq43) ?hoDq43 (fun K hK => ?restDq43) ?moreDq43
    case moreDq43 => exact AllReadyH.nil
    case hoDq43 => (simp only [List.getElem?_toArray, List.getElem?_cons_zero, List.getElem?_cons_succ]; rfl)
    go_simp
    refine hK.out _ _ ?hSnewDhq43 (fun hHeld => ?restDhq43)
    case hSnewDhq43 => ((try dsimp only); exact HS.out _ (Fr.of_below hBta))
    clear hK K
    (try simp only [Act.put, List.setIfInBounds_toArray, List.set_cons_zero, List.set_cons_succ])
    refine wpAnyH_ready (rs := [9]) (by kernel_rfl) (by simp) ?_
    refine AllReadyH.cons (o := ?oiDq44) ?hoDq44 (fun K hK => ?restDq44) ?moreDq44
    case moreDq44 => exact AllReadyH.nil
    case hoDq44 => (simp only [List.getElem?_toArray, List.getElem?_cons_zero, List.getElem?_cons_succ]; rfl)
    refine step_append_page (by rfl) (.tmp 84) (.tmp 87) (by rfl) _ np xs (.slice At 96 ct) _ (by rfl) (by rfl) ?c1d1 ?c2d1 rfl hnp1 ?_
    case c1d1 => exact own_keep Ho.out (fun g hg => hBta.block g (Hrow.out g hg).1)
    case c2d1 => exact heap_alloc_new wt _
    intro g6 cap6 w6 hown hgrow hat
    replace hgrow : (wt.alloc (.cells #[.slice At 96 ct] 39)).grownBy w6 (Value.slice Ap np cp).ownBlock := hgrow
    replace hat : (Value.slice Ap np cp).ownBlock = some g6 ∨ g6 = (wt.alloc (.cells #[.slice At 96 ct] 39)).heap.size := hat
    have hFa : Fr (fun g => (Value.slice Ap np cp).ownBlock = some g) w4 w6 := (Fr.of_below hBta).trans (Fr.of_grown hgrow (fun g hg => hg)) (fun _ _ h => h)
    obtain ⟨hca, hfa, hcb, hfb⟩ := HC.out _ hFa
    refine hK.out _ _ ?hSnewDhq44 (fun hHeld => ?restDhq44)
    case hSnewDhq44 => ((try dsimp only); exact HS.out _ hFa)
    clear hK K
    (try simp only [Act.put, List.setIfInBounds_toArray, List.set_cons_zero, List.set_cons_succ])
    refine wpAnyH_take (i := 10) (oi := ?oiDt46x10) (v := ?vDt46x10) ?hoDt46x10 ?h1Dt46x10 ?h2Dt46x10 ?h3Dt46x10 ?hqDt46x10 (Or.inl ⟨?h4Dt46x10, ?hyDt46x10⟩) (by assumption) ?restDt46x10
    case hoDt46x10 => (simp only [List.getElem?_toArray, List.getElem?_cons_zero, List.getElem?_cons_succ]; rfl)
    case h1Dt46x10 => kernel_rfl
    case h2Dt46x10 => kernel_rfl
    case h3Dt46x10 => kernel_rfl
    case h4Dt46x10 => rfl
    case hqDt46x10 => exact fun _ _ _ h => h
    case hyDt46x10 => (intro w hSw; (try dsimp only at hSw); go_simp <;> with_reducible rfl)
    (try simp only [Act.put, List.setIfInBounds_toArray, List.set_cons_zero, List.set_cons_succ])
    refine wpAnyH_take (i := 11) (oi := ?oiDt48x11) (v := ?vDt48x11) ?hoDt48x11 ?h1Dt48x11 ?h2Dt48x11 ?h3Dt48x11 ?hqDt48x11 (Or.inl ⟨?h4Dt48x11, ?hyDt48x11⟩) (by assumption) ?restDt48x11
    case hoDt48x11 => (simp only [List.getElem?_toArray, List.getElem?_cons_zero, List.getElem?_cons_succ]; rfl)
    case h1Dt48x11 => kernel_rfl
    case h2Dt48x11 => kernel_rfl
    case h3Dt48x11 => kernel_rfl
    case h4Dt48x11 => rfl
    case hqDt48x11 => exact fun _ _ _ h => h
    case hyDt48x11 => (intro w hSw; (try dsimp only at hSw); go_simp <;> with_reducible rfl)
    (try simp only [Act.put, List.setIfInBounds_toArray, List.set_cons_zero, List.set_cons_succ])
    refine wpAnyH_ready (rs := [12]) (by kernel_rfl) (by simp) ?_
    refine AllReadyH.cons (o := ?oiDq49) ?hoDq49 (fun K hK => ?restDq49) ?moreDq49
    case moreDq49 => exact AllReadyH.nil
    case hoDq49 => (simp only [List.getElem?_toArray, List.getElem?_cons_zero, List.getElem?_cons_succ]; rfl)
    go_simp
    refine hK.out _ _ ?hSnewDhq49 (fun hHeld => ?restDhq49)
    case hSnewDhq49 => ((try dsimp only); exact HS2.out _ _ _ (HS.out _ hFa))
    clear hK K
    (try simp only [Act.put, List.setIfInBounds_toArray, List.set_cons_zero, List.set_cons_succ])
    refine wpAnyH_take (i := 13) (oi := ?oiDt51x13) (v := ?vDt51x13) ?hoDt51x13 ?h1Dt51x13 ?h2Dt51x13 ?h3Dt51x13 ?hqDt51x13 (Or.inl ⟨?h4Dt51x13, ?hyDt51x13⟩) (by assumption) ?restDt51x13
    case hoDt51x13 => (simp only [List.getElem?_toArray, List.getElem?_cons_zero, List.getElem?_cons_succ]; rfl)
    case h1Dt51x13 => kernel_rfl
    case h2Dt51x13 => kernel_rfl
    case h3Dt51x13 => kernel_rfl
    case h4Dt51x13 => rfl
    case hqDt51x13 => exact fun _ _ _ h => h
    case hyDt51x13 => (intro w hSw; (try dsimp only at hSw); go_simp <;> with_reducible rfl)
    (try simp only [Act.put, List.setIfInBounds_toArray, List.set_cons_zero, List.set_cons_succ])
    refine wpAnyH_take (i := 14) (oi := ?oiDt53x14) (v := ?vDt53x14) ?hoDt53x14 ?h1Dt53x14 ?h2Dt53x14 ?h3Dt53x14 ?hqDt53x14 (Or.inl ⟨?h4Dt53x14, ?hyDt53x14⟩) (by assumption) ?restDt53x14
    case hoDt53x14 => (simp only [List.getElem?_toArray, List.getElem?_cons_zero, List.getElem?_cons_succ]; rfl)
    case h1Dt53x14 => kernel_rfl
    case h2Dt53x14 => kernel_rfl
    case h3Dt53x14 => kernel_rfl
    case h4Dt53x14 => rfl
    case hqDt53x14 => exact fun _ _ _ h => h
    case hyDt53x14 => (intro w hSw; (try dsimp only at hSw); go_simp <;> with_reducible rfl)
    (try simp only [Act.put, List.setIfInBounds_toArray, List.set_cons_zero, List.set_cons_succ])
    refine wpAnyH_ready (rs := [15]) (by kernel_rfl) (by simp) ?_
    refine AllReadyH.cons (o := ?oiDq54) ?hoDq54 (fun K hK => ?restDq54) ?moreDq54
    case moreDq54 => exact AllReadyH.nil
    case hoDq54 => (simp only [List.getElem?_toArray, List.getElem?_cons_zero, List.getElem?_cons_succ]; rfl)
    go_simp
    refine hK.out _ _ ?hSnewDhq54 (fun hHeld => ?restDhq54)
    case hSnewDhq54 => ((try dsimp only); exact HS2.out _ _ _ (HS2.out _ _ _ (HS.out _ hFa)))
    clear hK K
    (try simp only [Act.put, List.setIfInBounds_toArray, List.set_cons_zero, List.set_cons_succ])
    refine wpAnyH_done (by kernel_rfl) ?_ _
    have HW := HQ.out _ _ _ hBt hoT _ _ _ hown hgrow hat
    clear hown hgrow hat hca hfa hcb hfb
    rw [show ((w6.setCell ⟨gb, i * 6, none⟩ (.slice (some ⟨g6, 0, none⟩) (np + 1) cap6)).setCell ⟨gb, i * 6 + 4, none⟩ (.bool true)) = (w6.setCell ⟨gb, i * 6, none⟩ (.slice (some ⟨g6, 0, none⟩) (np + 1) cap6)).setCell ⟨gb, i * 6 + 4, none⟩ (.bool true) from rfl]
    generalize (w6.setCell ⟨gb, i * 6, none⟩ (.slice (some ⟨g6, 0, none⟩) (np + 1) cap6)).setCell ⟨gb, i * 6 + 4, none⟩ (.bool true) = w7 at *
    go_wp2
    go_ret
    exact ⟨rfl, HW.1, HW.2⟩
  case riDf401 =>
    go_simp
    refine (torn_any Au cu q 0 _ (Hz4.out.2.drewN 1) Hz4.out.1).mono ?_
    rintro e wt ⟨At, ct, rfl, hoT, hBT⟩
    have hBt : Below w4.heap.size w4 wt := hB40.trans hBT
    have hBta := hBt.alloc hBt.size (.cells #[.slice At 96 ct] 39)
    have hct := HC1.out _ hBt
    have hcta := HC1.out _ hBta
    try go_wp2_with fail
    refine hK.out _ _ ?hSnewDg55 (fun hHeld => ?restDg55)
    case hSnewDg55 => ((try dsimp only); exact HS.out _ (Fr.of_below hBt))
    clear hK K
    (try simp only [Act.put, List.setIfInBounds_toArray, List.set_cons_zero, List.set_cons_succ])
    refine wpAnyH_ready (rs := [5, 8]) (by kernel_rfl) (by simp) ?_
    refine (AllReadyH.cons (o := ?oiDf560) ?hoDf560 (fun K hK => ?riDf560) (AllReadyH.cons (o := ?oiDf561) ?hoDf561 (fun K hK => ?riDf561) AllReadyH.nil))
    case hoDf560 => (simp only [List.getElem?_toArray, List.getElem?_cons_zero, List.getElem?_cons_succ]; rfl)
    case hoDf561 => (simp only [List.getElem?_toArray, List.getElem?_cons_zero, List.getElem?_cons_succ]; rfl)
    case riDf560 =>
      go_simp
      refine hK.out _ _ ?hSnewDg57 (fun hHeld => ?restDg57)
      case hSnewDg57 => ((try dsimp only); exact HS.out _ (Fr.of_below hBt))
      clear hK K
      (try simp only [Act.put, List.setIfInBounds_toArray, List.set_cons_zero, List.set_cons_succ])
      refine wpAnyH_ready (rs := [8]) (by kernel_rfl) (by simp) ?_
      refine AllReadyH.cons (o := ?oiDq58) ?hoDq58 (fun K hK => ?restDq58) ?moreDq58
      case moreDq58 => exact AllReadyH.nil
      case hoDq58 => (simp only [List.getElem?_toArray, List.getElem?_cons_zero, List.getElem?_cons_succ]; rfl)
      go_simp
      refine hK.out _ _ ?hSnewDhq58 (fun hHeld => ?restDhq58)
      case hSnewDhq58 => ((try dsimp only); exact HS.out _ (Fr.of_below hBta))
      clear hK K
      (try simp only [Act.put, List.setIfInBounds_toArray, List.set_cons_zero, List.set_cons_succ])
      refine wpAnyH_ready (rs := [9]) (by kernel_rfl) (by simp) ?_
      refine AllReadyH.cons (o := ?oiDq59) ?hoDq59 (fun K hK => ?restDq59) ?moreDq59
      case moreDq59 => exact AllReadyH.nil
      case hoDq59 => (simp only [List.getElem?_toArray, List.getElem?_cons_zero, List.getElem?_cons_succ]; rfl)
      refine step_append_page (by rfl) (.tmp 84) (.tmp 87) (by rfl) _ np xs (.slice At 96 ct) _ (by rfl) (by rfl) ?c1d2 ?c2d2 rfl hnp1 ?_
      case c1d2 => exact own_keep Ho.out (fun g hg => hBta.block g (Hrow.out g hg).1)
      case c2d2 => exact heap_alloc_new wt _
      intro g6 cap6 w6 hown hgrow hat
      replace hgrow : (wt.alloc (.cells #[.slice At 96 ct] 39)).grownBy w6 (Value.slice Ap np cp).ownBlock := hgrow
      replace hat : (Value.slice Ap np cp).ownBlock = some g6 ∨ g6 = (wt.alloc (.cells #[.slice At 96 ct] 39)).heap.size := hat
      have hFa : Fr (fun g => (Value.slice Ap np cp).ownBlock = some g) w4 w6 := (Fr.of_below hBta).trans (Fr.of_grown hgrow (fun g hg => hg)) (fun _ _ h => h)
      obtain ⟨hca, hfa, hcb, hfb⟩ := HC.out _ hFa
      refine hK.out _ _ ?hSnewDhq59 (fun hHeld => ?restDhq59)
      case hSnewDhq59 => ((try dsimp only); exact HS.out _ hFa)
      clear hK K
      (try simp only [Act.put, List.setIfInBounds_toArray, List.set_cons_zero, List.set_cons_succ])
      refine wpAnyH_take (i := 10) (oi := ?oiDt61x10) (v := ?vDt61x10) ?hoDt61x10 ?h1Dt61x10 ?h2Dt61x10 ?h3Dt61x10 ?hqDt61x10 (Or.inl ⟨?h4Dt61x10, ?hyDt61x10⟩) (by assumption) ?restDt61x10
      case hoDt61x10 => (simp only [List.getElem?_toArray, List.getElem?_cons_zero, List.getElem?_cons_succ]; rfl)
      case h1Dt61x10 => kernel_rfl
      case h2Dt61x10 => kernel_rfl
      case h3Dt61x10 => kernel_rfl
      case h4Dt61x10 => rfl
      case hqDt61x10 => exact fun _ _ _ h => h
      case hyDt61x10 => (intro w hSw; (try dsimp only at hSw); go_simp <;> with_reducible rfl)
      (try simp only [Act.put, List.setIfInBounds_toArray, List.set_cons_zero, List.set_cons_succ])
      refine wpAnyH_take (i := 11) (oi := ?oiDt63x11) (v := ?vDt63x11) ?hoDt63x11 ?h1Dt63x11 ?h2Dt63x11 ?h3Dt63x11 ?hqDt63x11 (Or.inl ⟨?h4Dt63x11, ?hyDt63x11⟩) (by assumption) ?restDt63x11
      case hoDt63x11 => (simp only [List.getElem?_toArray, List.getElem?_cons_zero, List.getElem?_cons_succ]; rfl)
      case h1Dt63x11 => kernel_rfl
      case h2Dt63x11 => kernel_rfl
      case h3Dt63x11 => kernel_rfl
      case h4Dt63x11 => rfl
      case hqDt63x11 => exact fun _ _ _ h => h
      case hyDt63x11 => (intro w hSw; (try dsimp only at hSw); go_simp <;> with_reducible rfl)
      (try simp only [Act.put, List.setIfInBounds_toArray, List.set_cons_zero, List.set_cons_succ])
      refine wpAnyH_ready (rs := [12]) (by kernel_rfl) (by simp) ?_
      refine AllReadyH.cons (o := ?oiDq64) ?hoDq64 (fun K hK => ?restDq64) ?moreDq64
      case moreDq64 => exact AllReadyH.nil
      case hoDq64 => (simp only [List.getElem?_toArray, List.getElem?_cons_zero, List.getElem?_cons_succ]; rfl)
      go_simp
      refine hK.out _ _ ?hSnewDhq64 (fun hHeld => ?restDhq64)
      case hSnewDhq64 => ((try dsimp only); exact HS2.out _ _ _ (HS.out _ hFa))
      clear hK K
      (try simp only [Act.put, List.setIfInBounds_toArray, List.set_cons_zero, List.set_cons_succ])
      refine wpAnyH_take (i := 13) (oi := ?oiDt66x13) (v := ?vDt66x13) ?hoDt66x13 ?h1Dt66x13 ?h2Dt66x13 ?h3Dt66x13 ?hqDt66x13 (Or.inl ⟨?h4Dt66x13, ?hyDt66x13⟩) (by assumption) ?restDt66x13
      case hoDt66x13 => (simp only [List.getElem?_toArray, List.getElem?_cons_zero, List.getElem?_cons_succ]; rfl)
      case h1Dt66x13 => kernel_rfl
      case h2Dt66x13 => kernel_rfl
      case h3Dt66x13 => kernel_rfl
      case h4Dt66x13 => rfl
      case hqDt66x13 => exact fun _ _ _ h => h
      case hyDt66x13 => (intro w hSw; (try dsimp only at hSw); go_simp <;> with_reducible rfl)
      (try simp only [Act.put, List.setIfInBounds_toArray, List.set_cons_zero, List.set_cons_succ])
      refine wpAnyH_take (i := 14) (oi := ?oiDt68x14) (v := ?vDt68x14) ?hoDt68x14 ?h1Dt68x14 ?h2Dt68x14 ?h3Dt68x14 ?hqDt68x14 (Or.inl ⟨?h4Dt68x14, ?hyDt68x14⟩) (by assumption) ?restDt68x14
      case hoDt68x14 => (simp only [List.getElem?_toArray, List.getElem?_cons_zero, List.getElem?_cons_succ]; rfl)
      case h1Dt68x14 => kernel_rfl
      case h2Dt68x14 => kernel_rfl
      case h3Dt68x14 => kernel_rfl
      case h4Dt68x14 => rfl
      case hqDt68x14 => exact fun _ _ _ h => h
      case hyDt68x14 => (intro w hSw; (try dsimp only at hSw); go_simp <;> with_reducible rfl)
      (try simp only [Act.put, List.setIfInBounds_toArray, List.set_cons_zero, List.set_cons_succ])
      refine wpAnyH_ready (rs := [15]) (by kernel_rfl) (by simp) ?_
      refine AllReadyH.cons (o := ?oiDq69) ?hoDq69 (fun K hK => ?restDq69) ?moreDq69
      case moreDq69 => exact AllReadyH.nil
      case hoDq69 => (simp only [List.getElem?_toArray, List.getElem?_cons_zero, List.getElem?_cons_succ]; rfl)
      go_simp
      refine hK.out _ _ ?hSnewDhq69 (fun hHeld => ?restDhq69)
      case hSnewDhq69 => ((try dsimp only); exact HS2.out _ _ _ (HS2.out _ _ _ (HS.out _ hFa)))
      clear hK K
      (try simp only [Act.put, List.setIfInBounds_toArray, List.set_cons_zero, List.set_cons_succ])
      refine wpAnyH_done (by kernel_rfl) ?_ _
      have HW := HQ.out _ _ _ hBt hoT _ _ _ hown hgrow hat
      clear hown hgrow hat hca hfa hcb hfb
      rw [show ((w6.setCell ⟨gb, i * 6, none⟩ (.slice (some ⟨g6, 0, none⟩) (np + 1) cap6)).setCell ⟨gb, i * 6 + 4, none⟩ (.bool true)) = (w6.setCell ⟨gb, i * 6, none⟩ (.slice (some ⟨g6, 0, none⟩) (np + 1) cap6)).setCell ⟨gb, i * 6 + 4, none⟩ (.bool true) from rfl]
      generalize (w6.setCell ⟨gb, i * 6, none⟩ (.slice (some ⟨g6, 0, none⟩) (np + 1) cap6)).setCell ⟨gb, i * 6 + 4, none⟩ (.bool true) = w7 at *
      go_wp2
      go_ret
      exact ⟨rfl, HW.1, HW.2⟩
    case riDf561 =>
      go_simp
      refine hK.out _ _ ?hSnewDg70 (fun hHeld => ?restDg70)
      case hSnewDg70 => ((try dsimp only); exact HS.out _ (Fr.of_below hBta))
      clear hK K
      (try simp only [Act.put, List.setIfInBounds_toArray, List.set_cons_zero, List.set_cons_succ])
      refine wpAnyH_ready (rs := [5]) (by kernel_rfl) (by simp) ?_
      refine AllReadyH.cons (o := ?oiDq71) ?hoDq71 (fun K hK => ?restDq71) ?moreDq71
      case moreDq71 => exact AllReadyH.nil
      case hoDq71 => (simp only [List.getElem?_toArray, List.getElem?_cons_zero, List.getElem?_cons_succ]; rfl)
      go_simp
      refine hK.out _ _ ?hSnewDhq71 (fun hHeld => ?restDhq71)
      case hSnewDhq71 => ((try dsimp only); exact HS.out _ (Fr.of_below hBta))
      clear hK K
      (try simp only [Act.put, List.setIfInBounds_toArray, List.set_cons_zero, List.set_cons_succ])
      refine wpAnyH_ready (rs := [9]) (by kernel_rfl) (by simp) ?_
      refine AllReadyH.cons (o := ?oiDq72) ?hoDq72 (fun K hK => ?restDq72) ?moreDq72
      case moreDq72 => exact AllReadyH.nil
      case hoDq72 => (simp only [List.getElem?_toArray, List.getElem?_cons_zero, List.getElem?_cons_succ]; rfl)
      refine step_append_page (by rfl) (.tmp 84) (.tmp 87) (by rfl) _ np xs (.slice At 96 ct) _ (by rfl) (by rfl) ?c1d3 ?c2d3 rfl hnp1 ?_
      case c1d3 => exact own_keep Ho.out (fun g hg => hBta.block g (Hrow.out g hg).1)
      case c2d3 => exact heap_alloc_new wt _
      intro g6 cap6 w6 hown hgrow hat
      replace hgrow : (wt.alloc (.cells #[.slice At 96 ct] 39)).grownBy w6 (Value.slice Ap np cp).ownBlock := hgrow
      replace hat : (Value.slice Ap np cp).ownBlock = some g6 ∨ g6 = (wt.alloc (.cells #[.slice At 96 ct] 39)).heap.size := hat
      have hFa : Fr (fun g => (Value.slice Ap np cp).ownBlock = some g) w4 w6 := (Fr.of_below hBta).trans (Fr.of_grown hgrow (fun g hg => hg)) (fun _ _ h => h)
      obtain ⟨hca, hfa, hcb, hfb⟩ := HC.out _ hFa
      refine hK.out _ _ ?hSnewDhq72 (fun hHeld => ?restDhq72)
      case hSnewDhq72 => ((try dsimp only); exact HS.out _ hFa)
      clear hK K
      (try simp only [Act.put, List.setIfInBounds_toArray, List.set_cons_zero, List.set_cons_succ])
      refine wpAnyH_take (i := 10) (oi := ?oiDt74x10) (v := ?vDt74x10) ?hoDt74x10 ?h1Dt74x10 ?h2Dt74x10 ?h3Dt74x10 ?hqDt74x10 (Or.inl ⟨?h4Dt74x10, ?hyDt74x10⟩) (by assumption) ?restDt74x10
      case hoDt74x10 => (simp only [List.getElem?_toArray, List.getElem?_cons_zero, List.getElem?_cons_succ]; rfl)
      case h1Dt74x10 => kernel_rfl
      case h2Dt74x10 => kernel_rfl
      case h3Dt74x10 => kernel_rfl
      case h4Dt74x10 => rfl
      case hqDt74x10 => exact fun _ _ _ h => h
      case hyDt74x10 => (intro w hSw; (try dsimp only at hSw); go_simp <;> with_reducible rfl)
      (try simp only [Act.put, List.setIfInBounds_toArray, List.set_cons_zero, List.set_cons_succ])
      refine wpAnyH_take (i := 11) (oi := ?oiDt76x11) (v := ?vDt76x11) ?hoDt76x11 ?h1Dt76x11 ?h2Dt76x11 ?h3Dt76x11 ?hqDt76x11 (Or.inl ⟨?h4Dt76x11, ?hyDt76x11⟩) (by assumption) ?restDt76x11
      case hoDt76x11 => (simp only [List.getElem?_toArray, List.getElem?_cons_zero, List.getElem?_cons_succ]; rfl)
      case h1Dt76x11 => kernel_rfl
      case h2Dt76x11 => kernel_rfl
      case h3Dt76x11 => kernel_rfl
      case h4Dt76x11 => rfl
      case hqDt76x11 => exact fun _ _ _ h => h
      case hyDt76x11 => (intro w hSw; (try dsimp only at hSw); go_simp <;> with_reducible rfl)
      (try simp only [Act.put, List.setIfInBounds_toArray, List.set_cons_zero, List.set_cons_succ])
      refine wpAnyH_ready (rs := [12]) (by kernel_rfl) (by simp) ?_
      refine AllReadyH.cons (o := ?oiDq77) ?hoDq77 (fun K hK => ?restDq77) ?moreDq77
      case moreDq77 => exact AllReadyH.nil
      case hoDq77 => (simp only [List.getElem?_toArray, List.getElem?_cons_zero, List.getElem?_cons_succ]; rfl)
      go_simp
      refine hK.out _ _ ?hSnewDhq77 (fun hHeld => ?restDhq77)
      case hSnewDhq77 => ((try dsimp only); exact HS2.out _ _ _ (HS.out _ hFa))
      clear hK K
      (try simp only [Act.put, List.setIfInBounds_toArray, List.set_cons_zero, List.set_cons_succ])
      refine wpAnyH_take (i := 13) (oi := ?oiDt79x13) (v := ?vDt79x13) ?hoDt79x13 ?h1Dt79x13 ?h2Dt79x13 ?h3Dt79x13 ?hqDt79x13 (Or.inl ⟨?h4Dt79x13, ?hyDt79x13⟩) (by assumption) ?restDt79x13
      case hoDt79x13 => (simp only [List.getElem?_toArray, List.getElem?_cons_zero, List.getElem?_cons_succ]; rfl)
      case h1Dt79x13 => kernel_rfl
      case h2Dt79x13 => kernel_rfl
      case h3Dt79x13 => kernel_rfl
      case h4Dt79x13 => rfl
      case hqDt79x13 => exact fun _ _ _ h => h
      case hyDt79x13 => (intro w hSw; (try dsimp only at hSw); go_simp <;> with_reducible rfl)
      (try simp only [Act.put, List.setIfInBounds_toArray, List.set_cons_zero, List.set_cons_succ])
      refine wpAnyH_take (i := 14) (oi := ?oiDt81x14) (v := ?vDt81x14) ?hoDt81x14 ?h1Dt81x14 ?h2Dt81x14 ?h3Dt81x14 ?hqDt81x14 (Or.inl ⟨?h4Dt81x14, ?hyDt81x14⟩) (by assumption) ?restDt81x14
      case hoDt81x14 => (simp only [List.getElem?_toArray, List.getElem?_cons_zero, List.getElem?_cons_succ]; rfl)
      case h1Dt81x14 => kernel_rfl
      case h2Dt81x14 => kernel_rfl
      case h3Dt81x14 => kernel_rfl
      case h4Dt81x14 => rfl
      case hqDt81x14 => exact fun _ _ _ h => h
      case hyDt81x14 => (intro w hSw; (try dsimp only at hSw); go_simp <;> with_reducible rfl)
      (try simp only [Act.put, List.setIfInBounds_toArray, List.set_cons_zero, List.set_cons_succ])
      refine wpAnyH_ready (rs := [15]) (by kernel_rfl) (by simp) ?_
      refine AllReadyH.cons (o := ?oiDq82) ?hoDq82 (fun K hK => ?restDq82) ?moreDq82
      case moreDq82 => exact AllReadyH.nil
      case hoDq82 => (simp only [List.getElem?_toArray, List.getElem?_cons_zero, List.getElem?_cons_succ]; rfl)
      go_simp
      refine hK.out _ _ ?hSnewDhq82 (fun hHeld => ?restDhq82)
      case hSnewDhq82 => ((try dsimp only); exact HS2.out _ _ _ (HS2.out _ _ _ (HS.out _ hFa)))
      clear hK K
      (try simp only [Act.put, List.setIfInBounds_toArray, List.set_cons_zero, List.set_cons_succ])
      refine wpAnyH_done (by kernel_rfl) ?_ _
      have HW := HQ.out _ _ _ hBt hoT _ _ _ hown hgrow hat
      clear hown hgrow hat hca hfa hcb hfb
      rw [show ((w6.setCell ⟨gb, i * 6, none⟩ (.slice (some ⟨g6, 0, none⟩) (np + 1) cap6)).setCell ⟨gb, i * 6 + 4, none⟩ (.bool true)) = (w6.setCell ⟨gb, i * 6, none⟩ (.slice (some ⟨g6, 0, none⟩) (np + 1) cap6)).setCell ⟨gb, i * 6 + 4, none⟩ (.bool true) from rfl]
      generalize (w6.setCell ⟨gb, i * 6, none⟩ (.slice (some ⟨g6, 0, none⟩) (np + 1) cap6)).setCell ⟨gb, i * 6 + 4, none⟩ (.bool true) = w7 at *
      go_wp2
      go_ret
      exact ⟨rfl, HW.1, HW.2⟩
end Go.Proofs.Ytcfildbgnjhjmaa.Nand
