import Derived.Test.YtineicehipgnjaaNandLawC
set_option linter.unusedVariables false
set_option linter.unusedSimpArgs false
namespace Go.Proofs.Ytineicehipgnjaa.Nand
open Go.RowKit Go.Proofs.Ytineicehipgnjaa.Kit

structure NAct where
  kind : Int
  i : Int
  p : Int
  near : Bool
  b : Int
  size : Int
  epoch : Int
  n : Int
instance : Inhabited NAct := ⟨⟨0, 0, 0, false, 0, 0, 0, 0⟩⟩
def NAct.enc (a : NAct) : List Value := [.int .u8 a.kind, .int .i64 a.i, .int .i64 a.p, .bool a.near, .int .u8 a.b, .int .u8 a.size, .int .u64 a.epoch, .int .i64 a.n]
def NAct.ok (_ : World) (a : NAct) : Prop := (0 ≤ a.kind ∧ a.kind ≤ 255) ∧ (0 ≤ a.b ∧ a.b ≤ 255) ∧ (0 ≤ a.epoch ∧ a.epoch ≤ 18446744073709551615)
theorem NAct.cells {w : World} {bs o : Nat} {a : NAct} (h : ∀ k v, (NAct.enc a)[k]? = some v → w.cell? ⟨bs, o + k, none⟩ = some v) :
    w.cell? ⟨bs, o, none⟩ = some (.int .u8 a.kind) ∧ w.cell? ⟨bs, o + 1, none⟩ = some (.int .i64 a.i) ∧ w.cell? ⟨bs, o + 2, none⟩ = some (.int .i64 a.p) ∧ w.cell? ⟨bs, o + 3, none⟩ = some (.bool a.near) ∧ w.cell? ⟨bs, o + 4, none⟩ = some (.int .u8 a.b) ∧ w.cell? ⟨bs, o + 5, none⟩ = some (.int .u8 a.size) ∧ w.cell? ⟨bs, o + 6, none⟩ = some (.int .u64 a.epoch) ∧ w.cell? ⟨bs, o + 7, none⟩ = some (.int .i64 a.n) :=
  ⟨h 0 _ rfl, h 1 _ rfl, h 2 _ rfl, h 3 _ rfl, h 4 _ rfl, h 5 _ rfl, h 6 _ rfl, h 7 _ rfl⟩
theorem program_no_b {w0 w : World} {b : Nat} {N : NA} (h : ArrB w0 w b N) (i p : Int) (A : Option Addr) (n c : Nat) (ep : Int) (hn : n ≤ 140737488355328) (he : N.progE i p n ep ≠ 0) :
    Calls Try.prog 14 #[.pointer (some ⟨b, 0, none⟩), .int .i64 i, .int .i64 p, .slice A n c, .int .u64 ep] w fun e w' => e = .returned (.int .i64 (N.progE i p n ep)) ∧ Below w.heap.size w w' := by
  obtain ⟨F, ⟨gb, pv, wv, h1⟩, h2, h3⟩ := h
  exact prog_no F b gb pv wv N i p A n c ep w h1 hn he
theorem erase_no_b {w0 w : World} {b : Nat} {N : NA} (h : ArrB w0 w b N) (i ep : Int) (he : N.eraseE i ep ≠ 0) :
    Calls Try.prog 16 #[.pointer (some ⟨b, 0, none⟩), .int .i64 i, .int .u64 ep] w fun e w' => e = .returned (.int .i64 (N.eraseE i ep)) ∧ Below w.heap.size w w' := by
  obtain ⟨F, ⟨gb, pv, wv, h1⟩, h2, h3⟩ := h
  exact erase_no F b gb pv wv N i ep w h1 he
theorem raise_no_b {w0 w : World} {b : Nat} {N : NA} (h : ArrB w0 w b N) (ep : Int) (ho : N.off = false) (he : ep ≤ N.fence) :
    Calls Try.prog 23 #[.pointer (some ⟨b, 0, none⟩), .int .u64 ep] w fun e w' => e = .returned (.int .i64 7) ∧ w' = w := by
  obtain ⟨F, ⟨gb, pv, wv, h1⟩, h2, h3⟩ := h
  obtain ⟨-, -, c2, -, -, c5, -, -⟩ := h1.cells
  rw [ho] at c5
  have hd : decide (ep ≤ N.fence) = true := decide_eq_true he
  clear h1 ho h2 h3
  generalize N.fence = fe at *
  go_enter Try.func23, Try.ntmps23
  go_wp2
  go_ret
  exact ⟨rfl, rfl⟩
theorem ops_b {w0 w : World} {b : Nat} {N : NA} (h : ArrB w0 w b N) : Calls Try.prog 24 #[.pointer (some ⟨b, 0, none⟩)] w fun e w' => e = .returned (.int .i64 N.ops) ∧ w' = w := by
  obtain ⟨F, h1, h2, h3⟩ := h
  exact ops_any F b N w h1
theorem fence_b {w0 w : World} {b : Nat} {N : NA} (h : ArrB w0 w b N) : Calls Try.prog 25 #[.pointer (some ⟨b, 0, none⟩)] w fun e w' => e = .returned (.int .u64 N.fence) ∧ w' = w := by
  obtain ⟨F, h1, h2, h3⟩ := h
  exact fence_any F b N w h1

def fN1 : NA := ⟨[gB [pgL 9], gB [], gB [], gB []], 4, 0, 0, 0, false, 1, none⟩
def fN2 (f : Int) : NA := ⟨[gB [pgL 9], gB [], gB [], gB []], 4, f, 0, 0, false, 1, none⟩
theorem fen1 : (newA 4 4 []).prog 0 0 (pgL 9) 0 = (fN1, 0) := by
  have e := prog_calm (N := newA 4 4 []) 0 0 (pgL 9) 0 (by decide) rfl rfl rfl rfl rfl (by decide) (pgL_len 9) rfl (by decide)
  exact e.trans (by kernel_rfl)
theorem fen2 (f : Int) (h : 0 < f) : fN1.raise f = (fN2 f, 0) := by
  unfold NA.raise
  rw [if_neg (show ¬ fN1.off = true by decide), if_neg (show ¬ f ≤ fN1.fence by show ¬ f ≤ 0; omega)]
  rfl
theorem fen_len (f : Int) (j : Nat) (h : j < 4) : ((fN2 f).blk j).pages.length = (if j = 0 then 1 else 0) ∧ ((fN2 f).blk j).half = false := by
  have : j = 0 ∨ j = 1 ∨ j = 2 ∨ j = 3 := by omega
  rcases this with rfl | rfl | rfl | rfl <;> exact ⟨rfl, rfl⟩
theorem fen_prog (f : Int) (j m : Nat) (h : j < 4) (hm : (m : Int) < f) : (fN2 f).progE (j : Int) (((if j = 0 then 1 else 0 : Nat)) : Int) 96 (m : Int) = 7 := by
  obtain ⟨h1, h2⟩ := fen_len f j h
  unfold NA.progE
  rw [if_neg (by rw [atE_in (N := fN2 f) j h rfl]; simp), if_neg (by show ¬ (_ ∨ ((4 : Nat) : Int) ≤ _); split <;> omega), if_neg (by simp), if_neg (by rw [show ((j : Int)).toNat = j by omega, h1, h2]; simp), if_pos (show (m : Int) < (fN2 f).fence from hm)]
theorem fen_erase (f : Int) (j m : Nat) (h : j < 4) (hm : (m : Int) < f) : (fN2 f).eraseE (j : Int) (m : Int) = 7 := by
  unfold NA.eraseE
  rw [if_neg (by rw [atE_in (N := fN2 f) j h rfl]; simp), if_pos (show (m : Int) < (fN2 f).fence from hm)]

set_option maxRecDepth 100000 in
set_option maxHeartbeats 16000000 in
theorem law_fences (f : Int) (hf : 0 ≤ f ∧ f ≤ 18446744073709551615) (C : Option Addr) (mm d : Nat) (ys : Nat → NAct) (w : World) (hy : Recs w C mm 8 NAct.enc NAct.ok ys) :
    Calls Try.prog 6 #[.int .u64 f, .slice C mm d] w fun e w' => e = .returned (.bool true) ∧ Below w.heap.size w w' := by
  have hm := hy.most
  have Hy := hid hy
  clear hy
  by_cases hf0 : f = 0
  · subst hf0
    go_enter Try.func6, Try.ntmps6
    go_wp2_with fail
    refine (awake_any w).mono ?_
    rintro e w1 ⟨rfl, hB1⟩
    go_wp2_with fail
    refine (awake_any w1).mono ?_
    rintro e w2 ⟨rfl, hB2⟩
    go_wp2
    go_ret
    exact ⟨rfl, hB1.trans (hB2.mono hB1.size)⟩
  · have hfb : (f == 0) = false := by rw [beq_eq_false_iff_ne]; exact hf0
    have hf1 : 0 < f := by omega
    go_enter Try.func6, Try.ntmps6
    go_wp2_with fail
    refine (awake_any w).mono ?_
    rintro e w1 ⟨rfl, hB1⟩
    go_wp2_with fail
    refine (new_b w 4 4 none 0 0 [] w1 hB1 (by omega) (by omega) (Nums.none _ _ _) (by simp)).mono ?_
    rintro e w2 ⟨b, rfl, h2⟩
    replace h2 := hid h2
    clear hB1
    go_wp2_with fail
    refine (page_b h2.out 9 (by omega)).mono ?_
    rintro e w3 ⟨g3, rfl, hz3, h3, -, -, -⟩
    have hp := program_b h3 0 0 _ 96 96 _ 0 hz3 (by decide)
    rw [fen1] at hp
    clear h2 h3 hz3
    go_wp2_with fail
    refine hp.mono ?_
    rintro e w4 ⟨rfl, h4⟩
    have ha := raise_b h4 f
    rw [show ((fN1, (0 : Int)).1.raise f) = (fN2 f, 0) from fen2 f hf1] at ha
    clear hp h4
    go_wp2_with fail
    refine ha.mono ?_
    rintro e w5 ⟨rfl, h5⟩
    clear ha
    replace h5 : ArrB w w5 b (fN2 f) := h5
    have hrn := raise_no_b h5 f rfl (Int.le_refl _)
    have hop := ops_b h5
    replace h5 := hid h5
    go_wp2_with fail
    refine hrn.mono ?_
    rintro e w5 ⟨rfl, rfl⟩
    clear hrn
    go_wp2_with fail
    refine hop.mono ?_
    rintro e w5 ⟨rfl, rfl⟩
    clear hop
    go_wp2
    go_loopw [8] (fun i w' => ∃ k : Nat, k ≤ mm ∧ k ≤ 60 ∧ i = .int .i64 (k : Int) ∧ ArrB w w' b (fN2 f)) (fun i _ => 60 - (intOf i).toNat)
    case atStart => exact ⟨0, by omega, by omega, rfl, h5.out⟩
    case round =>
      clear h5
      obtain ⟨k, hk, hk60, rfl, hA⟩ := hrel
      by_cases hlt : k < mm ∧ k < 60
      · obtain ⟨hlt, hlt60⟩ := hlt
        obtain ⟨bs, os, rfl, hcs⟩ := (Hy.out.below hA.bel (fun _ h => h)).at_ k hlt
        obtain ⟨x0, x1, x2, x3, x4, x5, x6, x7⟩ := NAct.cells hcs
        obtain ⟨-, hbb, he0, he1⟩ := Hy.out.ok k hlt
        replace hA := hid hA
        clear hcs
        trace "A"
        go_upto_region 12 with (fail)
        trace "B"
        generalize hw5 : World.alloc wr _ = w5
        obtain ⟨ga, hga⟩ : ∃ g, wr.heap.size = g := ⟨_, rfl⟩
        have hba : Blk w5 wr.heap.size (NAct.enc (ys k)).toArray 43 := by rw [← hw5]; exact Blk.new _ _ _
        have hB5 : Below wr.heap.size wr w5 := by rw [← hw5]; exact (Below.refl _ _).alloc (Nat.le_refl _) _
        have hA5 := hid (hA.out.later hB5)
        rw [hga] at hba ⊢
        have z1 : w5.cell? ⟨ga, 1, none⟩ = some (.int .i64 (ys k).i) := hba.cell 1
        have z4 : w5.cell? ⟨ga, 4, none⟩ = some (.int .u8 (ys k).b) := hba.cell 4
        have z6 : w5.cell? ⟨ga, 6, none⟩ = some (.int .u64 (ys k).epoch) := hba.cell 6
        have HS := hid (fun (W : World) (hW : Below w5.heap.size w5 W) => ((hba.later hW).cell 4 : W.cell? ⟨ga, 4, none⟩ = some (.int .u8 (ys k).b)))
        clear hw5 hga hA hB5 hba x0 x1 x2 x3 x4 x5 x6 x7
        obtain ⟨j, hj, hjq⟩ := umod_nat (ys k).i 4 (by omega)
        replace hjq : (IntKind.u64.wrap (ys k).i).tmod 4 = (j : Int) := hjq
        have hjw : IntKind.i64.wrap (j : Int) = (j : Int) := IntWalk.i64_in _ (by omega)
        obtain ⟨m, hmq⟩ : ∃ m : Nat, (ys k).epoch.tmod f = (m : Int) := ⟨((ys k).epoch.tmod f).toNat, by have := Int.tmod_nonneg f he0; omega⟩
        have hmf : (m : Int) < f := by
          rw [← hmq]
          exact Int.tmod_lt_of_pos _ hf1
        have hmq2 : (ys k).epoch % f = (m : Int) := by rw [← hmq, Int.tmod_eq_emod_of_nonneg he0]
        obtain ⟨pn, hpn0⟩ : ∃ pn, pn = (if j = 0 then 1 else 0 : Nat) := ⟨_, rfl⟩
        have Hpe := hid (show (fN2 f).progE (j : Int) (pn : Int) 96 (m : Int) = 7 from by rw [hpn0]; exact fen_prog f j m hj hmf)
        have Hee := hid (fen_erase f j m hj hmf)
        have Hmf := hid (show (m : Int) ≤ (fN2 f).fence from Int.le_of_lt hmf)
        have hnx : (if (fN2 f).inI (j : Int) then (((fN2 f).blk ((j : Int)).toNat).pages.length : Int) else 0) = (pn : Int) := by
          rw [if_pos (NA.inI_nat (fN2 f) j hj), show ((j : Int)).toNat = j by omega, (fen_len f j hj).1, hpn0]
        have hjI : (j : Int) < 4 := by omega
        have hBd : Below w5.heap.size w5 w5.drew := below_drewN (Below.refl _ _) 1
        have hnxt := next_b (hA5.out.later hBd) (j : Int)
        rw [hnx] at hnxt
        generalize (ys k).i = yi at *
        clear hpn0 hnx hmf
        trace "C"
        go_upto_region 14 with (fail)
        trace "D"
        refine wp_region_held_drew (S := (fun w' => w'.cell? ⟨ga, 4, none⟩ = some (.int .u8 (ys k).b))) (by kernel_rfl) ?hSnewLz (fun hHeld => ?restLz)
        case hSnewLz => ((try dsimp only); exact HS.out _ hBd)
        refine wpAnyH_take (i := 0) (oi := ?oiLt2x0) (v := ?vLt2x0) ?hoLt2x0 ?h1Lt2x0 ?h2Lt2x0 ?h3Lt2x0 ?hqLt2x0 (Or.inl ⟨?h4Lt2x0, ?hyLt2x0⟩) (by assumption) ?restLt2x0
        case hoLt2x0 => (simp only [List.getElem?_toArray, List.getElem?_cons_zero, List.getElem?_cons_succ]; rfl)
        case h1Lt2x0 => kernel_rfl
        case h2Lt2x0 => kernel_rfl
        case h3Lt2x0 => kernel_rfl
        case h4Lt2x0 => rfl
        case hqLt2x0 => exact fun _ _ _ h => h
        case hyLt2x0 => (intro w hSw; (try dsimp only at hSw); go_simp <;> with_reducible rfl)
        (try simp only [Act.put, List.setIfInBounds_toArray, List.set_cons_zero, List.set_cons_succ])
        refine wpAnyH_take (i := 1) (oi := ?oiLt4x1) (v := ?vLt4x1) ?hoLt4x1 ?h1Lt4x1 ?h2Lt4x1 ?h3Lt4x1 ?hqLt4x1 (Or.inl ⟨?h4Lt4x1, ?hyLt4x1⟩) (by assumption) ?restLt4x1
        case hoLt4x1 => (simp only [List.getElem?_toArray, List.getElem?_cons_zero, List.getElem?_cons_succ]; rfl)
        case h1Lt4x1 => kernel_rfl
        case h2Lt4x1 => kernel_rfl
        case h3Lt4x1 => kernel_rfl
        case h4Lt4x1 => rfl
        case hqLt4x1 => exact fun _ _ _ h => h
        case hyLt4x1 => (intro w hSw; (try dsimp only at hSw); go_simp <;> with_reducible rfl)
        (try simp only [Act.put, List.setIfInBounds_toArray, List.set_cons_zero, List.set_cons_succ])
        refine wpAnyH_take (i := 2) (oi := ?oiLt6x2) (v := ?vLt6x2) ?hoLt6x2 ?h1Lt6x2 ?h2Lt6x2 ?h3Lt6x2 ?hqLt6x2 (Or.inl ⟨?h4Lt6x2, ?hyLt6x2⟩) (by assumption) ?restLt6x2
        case hoLt6x2 => (simp only [List.getElem?_toArray, List.getElem?_cons_zero, List.getElem?_cons_succ]; rfl)
        case h1Lt6x2 => kernel_rfl
        case h2Lt6x2 => kernel_rfl
        case h3Lt6x2 => kernel_rfl
        case h4Lt6x2 => rfl
        case hqLt6x2 => exact fun _ _ _ h => h
        case hyLt6x2 => (intro w hSw; (try dsimp only at hSw); go_simp <;> with_reducible rfl)
        (try simp only [Act.put, List.setIfInBounds_toArray, List.set_cons_zero, List.set_cons_succ])
        refine wpAnyH_take (i := 3) (oi := ?oiLt8x3) (v := ?vLt8x3) ?hoLt8x3 ?h1Lt8x3 ?h2Lt8x3 ?h3Lt8x3 ?hqLt8x3 (Or.inl ⟨?h4Lt8x3, ?hyLt8x3⟩) (by assumption) ?restLt8x3
        case hoLt8x3 => (simp only [List.getElem?_toArray, List.getElem?_cons_zero, List.getElem?_cons_succ]; rfl)
        case h1Lt8x3 => kernel_rfl
        case h2Lt8x3 => kernel_rfl
        case h3Lt8x3 => kernel_rfl
        case h4Lt8x3 => rfl
        case hqLt8x3 => exact fun _ _ _ h => h
        case hyLt8x3 => (intro w hSw; (try dsimp only at hSw); go_simp <;> with_reducible rfl)
        (try simp only [Act.put, List.setIfInBounds_toArray, List.set_cons_zero, List.set_cons_succ])
        refine wpAnyH_take (i := 5) (oi := ?oiLt10x5) (v := ?vLt10x5) ?hoLt10x5 ?h1Lt10x5 ?h2Lt10x5 ?h3Lt10x5 ?hqLt10x5 (Or.inl ⟨?h4Lt10x5, ?hyLt10x5⟩) (by assumption) ?restLt10x5
        case hoLt10x5 => (simp only [List.getElem?_toArray, List.getElem?_cons_zero, List.getElem?_cons_succ]; rfl)
        case h1Lt10x5 => kernel_rfl
        case h2Lt10x5 => kernel_rfl
        case h3Lt10x5 => kernel_rfl
        case h4Lt10x5 => rfl
        case hqLt10x5 => exact fun _ _ _ h => h
        case hyLt10x5 => (intro w hSw; (try dsimp only at hSw); go_simp <;> with_reducible rfl)
        (try simp only [Act.put, List.setIfInBounds_toArray, List.set_cons_zero, List.set_cons_succ])
        refine wpAnyH_take (i := 6) (oi := ?oiLt12x6) (v := ?vLt12x6) ?hoLt12x6 ?h1Lt12x6 ?h2Lt12x6 ?h3Lt12x6 ?hqLt12x6 (Or.inl ⟨?h4Lt12x6, ?hyLt12x6⟩) (by assumption) ?restLt12x6
        case hoLt12x6 => (simp only [List.getElem?_toArray, List.getElem?_cons_zero, List.getElem?_cons_succ]; rfl)
        case h1Lt12x6 => kernel_rfl
        case h2Lt12x6 => kernel_rfl
        case h3Lt12x6 => kernel_rfl
        case h4Lt12x6 => rfl
        case hqLt12x6 => exact fun _ _ _ h => h
        case hyLt12x6 => (intro w hSw; (try dsimp only at hSw); go_simp <;> with_reducible rfl)
        (try simp only [Act.put, List.setIfInBounds_toArray, List.set_cons_zero, List.set_cons_succ])
        refine wpAnyH_take (i := 8) (oi := ?oiLt14x8) (v := ?vLt14x8) ?hoLt14x8 ?h1Lt14x8 ?h2Lt14x8 ?h3Lt14x8 ?hqLt14x8 (Or.inl ⟨?h4Lt14x8, ?hyLt14x8⟩) (by assumption) ?restLt14x8
        case hoLt14x8 => (simp only [List.getElem?_toArray, List.getElem?_cons_zero, List.getElem?_cons_succ]; rfl)
        case h1Lt14x8 => kernel_rfl
        case h2Lt14x8 => kernel_rfl
        case h3Lt14x8 => kernel_rfl
        case h4Lt14x8 => rfl
        case hqLt14x8 => exact fun _ _ _ h => h
        case hyLt14x8 => (intro w hSw; (try dsimp only at hSw); go_simp <;> with_reducible rfl)
        (try simp only [Act.put, List.setIfInBounds_toArray, List.set_cons_zero, List.set_cons_succ])
        refine wpAnyH_ready (rs := [4]) (by kernel_rfl) (by simp) ?_
        refine AllReadyH.cons (o := ?oiLq15) ?hoLq15 (fun K hK => ?restLq15) ?moreLq15
        case moreLq15 => exact AllReadyH.nil
        case hoLq15 => (simp only [List.getElem?_toArray, List.getElem?_cons_zero, List.getElem?_cons_succ]; rfl)
        go_simp
        refine hnxt.mono ?_
        rintro e wn ⟨rfl, rfl⟩
        try go_wp2_with fail
        refine hK.out _ _ ?hSnewLhq15 (fun hHeld => ?restLhq15)
        case hSnewLhq15 => ((try dsimp only); exact HS.out _ hBd)
        clear hK K
        (try simp only [Act.put, List.setIfInBounds_toArray, List.set_cons_zero, List.set_cons_succ])
        refine wpAnyH_ready (rs := [7]) (by kernel_rfl) (by simp) ?_
        refine AllReadyH.cons (o := ?oiLq16) ?hoLq16 (fun K hK => ?restLq16) ?moreLq16
        case moreLq16 => exact AllReadyH.nil
        case hoLq16 => (simp only [List.getElem?_toArray, List.getElem?_cons_zero, List.getElem?_cons_succ]; rfl)
        go_simp
        refine (page_any (ys k).b _ hbb).mono ?_
        rintro e w6 ⟨g6, rfl, hb6, hg6, hB6⟩
        have hB56 : Below w5.heap.size w5 w6 := hBd.trans hB6
        have hA6 := hA5.out.later hB56
        have hz6 := nums_lit hb6 (pgL_len _) (pgL_wf (ys k).b)
        have hpn := program_no_b hA6 (j : Int) (pn : Int) (some ⟨g6, 0, none⟩) 96 96 (m : Int) (by decide) (by rw [Hpe.out]; decide)
        rw [Hpe.out] at hpn
        try go_wp2_with fail
        refine hK.out _ _ ?hSnewLhq16 (fun hHeld => ?restLhq16)
        case hSnewLhq16 => ((try dsimp only); exact HS.out _ hB56)
        clear hK K
        (try simp only [Act.put, List.setIfInBounds_toArray, List.set_cons_zero, List.set_cons_succ])
        refine wpAnyH_ready (rs := [9]) (by kernel_rfl) (by simp) ?_
        refine AllReadyH.cons (o := ?oiLq17) ?hoLq17 (fun K hK => ?restLq17) ?moreLq17
        case moreLq17 => exact AllReadyH.nil
        case hoLq17 => (simp only [List.getElem?_toArray, List.getElem?_cons_zero, List.getElem?_cons_succ]; rfl)
        go_simp
        refine hpn.mono ?_
        rintro e w7 ⟨rfl, hB7⟩
        have hB57 : Below w5.heap.size w5 w7 := hB56.trans (hB7.mono hB56.size)
        have hA7 := hA6.later hB7
        have hen := erase_no_b hA7 (j : Int) (m : Int) (by rw [Hee.out]; decide)
        rw [Hee.out] at hen
        try go_wp2_with fail
        refine hK.out _ _ ?hSnewLhq17 (fun hHeld => ?restLhq17)
        case hSnewLhq17 => ((try dsimp only); exact HS.out _ hB57)
        clear hK K
        (try simp only [Act.put, List.setIfInBounds_toArray, List.set_cons_zero, List.set_cons_succ])
        refine wpAnyH_take (i := 10) (oi := ?oiLt19x10) (v := ?vLt19x10) ?hoLt19x10 ?h1Lt19x10 ?h2Lt19x10 ?h3Lt19x10 ?hqLt19x10 (Or.inl ⟨?h4Lt19x10, ?hyLt19x10⟩) (by assumption) ?restLt19x10
        case hoLt19x10 => (simp only [List.getElem?_toArray, List.getElem?_cons_zero, List.getElem?_cons_succ]; rfl)
        case h1Lt19x10 => kernel_rfl
        case h2Lt19x10 => kernel_rfl
        case h3Lt19x10 => kernel_rfl
        case h4Lt19x10 => rfl
        case hqLt19x10 => exact fun _ _ _ h => h
        case hyLt19x10 => (intro w hSw; (try dsimp only at hSw); go_simp <;> with_reducible rfl)
        (try simp only [Act.put, List.setIfInBounds_toArray, List.set_cons_zero, List.set_cons_succ])
        refine wpAnyH_take (i := 11) (oi := ?oiLt21x11) (v := ?vLt21x11) ?hoLt21x11 ?h1Lt21x11 ?h2Lt21x11 ?h3Lt21x11 ?hqLt21x11 (Or.inl ⟨?h4Lt21x11, ?hyLt21x11⟩) (by assumption) ?restLt21x11
        case hoLt21x11 => (simp only [List.getElem?_toArray, List.getElem?_cons_zero, List.getElem?_cons_succ]; rfl)
        case h1Lt21x11 => kernel_rfl
        case h2Lt21x11 => kernel_rfl
        case h3Lt21x11 => kernel_rfl
        case h4Lt21x11 => rfl
        case hqLt21x11 => exact fun _ _ _ h => h
        case hyLt21x11 => (intro w hSw; (try dsimp only at hSw); go_simp <;> with_reducible rfl)
        (try simp only [Act.put, List.setIfInBounds_toArray, List.set_cons_zero, List.set_cons_succ])
        refine wpAnyH_take (i := 12) (oi := ?oiLt23x12) (v := ?vLt23x12) ?hoLt23x12 ?h1Lt23x12 ?h2Lt23x12 ?h3Lt23x12 ?hqLt23x12 (Or.inl ⟨?h4Lt23x12, ?hyLt23x12⟩) (by assumption) ?restLt23x12
        case hoLt23x12 => (simp only [List.getElem?_toArray, List.getElem?_cons_zero, List.getElem?_cons_succ]; rfl)
        case h1Lt23x12 => kernel_rfl
        case h2Lt23x12 => kernel_rfl
        case h3Lt23x12 => kernel_rfl
        case h4Lt23x12 => rfl
        case hqLt23x12 => exact fun _ _ _ h => h
        case hyLt23x12 => (intro w hSw; (try dsimp only at hSw); go_simp <;> with_reducible rfl)
        (try simp only [Act.put, List.setIfInBounds_toArray, List.set_cons_zero, List.set_cons_succ])
        refine wpAnyH_take (i := 13) (oi := ?oiLt25x13) (v := ?vLt25x13) ?hoLt25x13 ?h1Lt25x13 ?h2Lt25x13 ?h3Lt25x13 ?hqLt25x13 (Or.inl ⟨?h4Lt25x13, ?hyLt25x13⟩) (by assumption) ?restLt25x13
        case hoLt25x13 => (simp only [List.getElem?_toArray, List.getElem?_cons_zero, List.getElem?_cons_succ]; rfl)
        case h1Lt25x13 => kernel_rfl
        case h2Lt25x13 => kernel_rfl
        case h3Lt25x13 => kernel_rfl
        case h4Lt25x13 => rfl
        case hqLt25x13 => exact fun _ _ _ h => h
        case hyLt25x13 => (intro w hSw; (try dsimp only at hSw); go_simp <;> with_reducible rfl)
        (try simp only [Act.put, List.setIfInBounds_toArray, List.set_cons_zero, List.set_cons_succ])
        refine wpAnyH_take (i := 14) (oi := ?oiLt27x14) (v := ?vLt27x14) ?hoLt27x14 ?h1Lt27x14 ?h2Lt27x14 ?h3Lt27x14 ?hqLt27x14 (Or.inl ⟨?h4Lt27x14, ?hyLt27x14⟩) (by assumption) ?restLt27x14
        case hoLt27x14 => (simp only [List.getElem?_toArray, List.getElem?_cons_zero, List.getElem?_cons_succ]; rfl)
        case h1Lt27x14 => kernel_rfl
        case h2Lt27x14 => kernel_rfl
        case h3Lt27x14 => kernel_rfl
        case h4Lt27x14 => rfl
        case hqLt27x14 => exact fun _ _ _ h => h
        case hyLt27x14 => (intro w hSw; (try dsimp only at hSw); go_simp <;> with_reducible rfl)
        (try simp only [Act.put, List.setIfInBounds_toArray, List.set_cons_zero, List.set_cons_succ])
        refine wpAnyH_ready (rs := [15]) (by kernel_rfl) (by simp) ?_
        refine AllReadyH.cons (o := ?oiLq28) ?hoLq28 (fun K hK => ?restLq28) ?moreLq28
        case moreLq28 => exact AllReadyH.nil
        case hoLq28 => (simp only [List.getElem?_toArray, List.getElem?_cons_zero, List.getElem?_cons_succ]; rfl)
        go_simp
        refine hen.mono ?_
        rintro e w8 ⟨rfl, hB8⟩
        have hB58 : Below w5.heap.size w5 w8 := hB57.trans (hB8.mono hB57.size)
        have hA8 := hA7.later hB8
        have hrn := raise_no_b hA8 (m : Int) rfl Hmf.out
        try go_wp2_with fail
        refine hK.out _ _ ?hSnewLhq28 (fun hHeld => ?restLhq28)
        case hSnewLhq28 => ((try dsimp only); exact HS.out _ hB58)
        clear hK K
        (try simp only [Act.put, List.setIfInBounds_toArray, List.set_cons_zero, List.set_cons_succ])
        refine wpAnyH_take (i := 16) (oi := ?oiLt30x16) (v := ?vLt30x16) ?hoLt30x16 ?h1Lt30x16 ?h2Lt30x16 ?h3Lt30x16 ?hqLt30x16 (Or.inl ⟨?h4Lt30x16, ?hyLt30x16⟩) (by assumption) ?restLt30x16
        case hoLt30x16 => (simp only [List.getElem?_toArray, List.getElem?_cons_zero, List.getElem?_cons_succ]; rfl)
        case h1Lt30x16 => kernel_rfl
        case h2Lt30x16 => kernel_rfl
        case h3Lt30x16 => kernel_rfl
        case h4Lt30x16 => rfl
        case hqLt30x16 => exact fun _ _ _ h => h
        case hyLt30x16 => (intro w hSw; (try dsimp only at hSw); go_simp <;> with_reducible rfl)
        (try simp only [Act.put, List.setIfInBounds_toArray, List.set_cons_zero, List.set_cons_succ])
        refine wpAnyH_take (i := 17) (oi := ?oiLt32x17) (v := ?vLt32x17) ?hoLt32x17 ?h1Lt32x17 ?h2Lt32x17 ?h3Lt32x17 ?hqLt32x17 (Or.inl ⟨?h4Lt32x17, ?hyLt32x17⟩) (by assumption) ?restLt32x17
        case hoLt32x17 => (simp only [List.getElem?_toArray, List.getElem?_cons_zero, List.getElem?_cons_succ]; rfl)
        case h1Lt32x17 => kernel_rfl
        case h2Lt32x17 => kernel_rfl
        case h3Lt32x17 => kernel_rfl
        case h4Lt32x17 => rfl
        case hqLt32x17 => exact fun _ _ _ h => h
        case hyLt32x17 => (intro w hSw; (try dsimp only at hSw); go_simp <;> with_reducible rfl)
        (try simp only [Act.put, List.setIfInBounds_toArray, List.set_cons_zero, List.set_cons_succ])
        refine wpAnyH_take (i := 18) (oi := ?oiLt34x18) (v := ?vLt34x18) ?hoLt34x18 ?h1Lt34x18 ?h2Lt34x18 ?h3Lt34x18 ?hqLt34x18 (Or.inl ⟨?h4Lt34x18, ?hyLt34x18⟩) (by assumption) ?restLt34x18
        case hoLt34x18 => (simp only [List.getElem?_toArray, List.getElem?_cons_zero, List.getElem?_cons_succ]; rfl)
        case h1Lt34x18 => kernel_rfl
        case h2Lt34x18 => kernel_rfl
        case h3Lt34x18 => kernel_rfl
        case h4Lt34x18 => rfl
        case hqLt34x18 => exact fun _ _ _ h => h
        case hyLt34x18 => (intro w hSw; (try dsimp only at hSw); go_simp <;> with_reducible rfl)
        (try simp only [Act.put, List.setIfInBounds_toArray, List.set_cons_zero, List.set_cons_succ])
        refine wpAnyH_take (i := 19) (oi := ?oiLt36x19) (v := ?vLt36x19) ?hoLt36x19 ?h1Lt36x19 ?h2Lt36x19 ?h3Lt36x19 ?hqLt36x19 (Or.inl ⟨?h4Lt36x19, ?hyLt36x19⟩) (by assumption) ?restLt36x19
        case hoLt36x19 => (simp only [List.getElem?_toArray, List.getElem?_cons_zero, List.getElem?_cons_succ]; rfl)
        case h1Lt36x19 => kernel_rfl
        case h2Lt36x19 => kernel_rfl
        case h3Lt36x19 => kernel_rfl
        case h4Lt36x19 => rfl
        case hqLt36x19 => exact fun _ _ _ h => h
        case hyLt36x19 => (intro w hSw; (try dsimp only at hSw); go_simp <;> with_reducible rfl)
        (try simp only [Act.put, List.setIfInBounds_toArray, List.set_cons_zero, List.set_cons_succ])
        refine wpAnyH_take (i := 20) (oi := ?oiLt38x20) (v := ?vLt38x20) ?hoLt38x20 ?h1Lt38x20 ?h2Lt38x20 ?h3Lt38x20 ?hqLt38x20 (Or.inl ⟨?h4Lt38x20, ?hyLt38x20⟩) (by assumption) ?restLt38x20
        case hoLt38x20 => (simp only [List.getElem?_toArray, List.getElem?_cons_zero, List.getElem?_cons_succ]; rfl)
        case h1Lt38x20 => kernel_rfl
        case h2Lt38x20 => kernel_rfl
        case h3Lt38x20 => kernel_rfl
        case h4Lt38x20 => rfl
        case hqLt38x20 => exact fun _ _ _ h => h
        case hyLt38x20 => (intro w hSw; (try dsimp only at hSw); go_simp <;> with_reducible rfl)
        (try simp only [Act.put, List.setIfInBounds_toArray, List.set_cons_zero, List.set_cons_succ])
        refine wpAnyH_ready (rs := [21]) (by kernel_rfl) (by simp) ?_
        refine AllReadyH.cons (o := ?oiLq39) ?hoLq39 (fun K hK => ?restLq39) ?moreLq39
        case moreLq39 => exact AllReadyH.nil
        case hoLq39 => (simp only [List.getElem?_toArray, List.getElem?_cons_zero, List.getElem?_cons_succ]; rfl)
        go_simp
        refine hrn.mono ?_
        rintro e w9 ⟨rfl, rfl⟩
        try go_wp2_with fail
        refine hK.out _ _ ?hSnewLhq39 (fun hHeld => ?restLhq39)
        case hSnewLhq39 => ((try dsimp only); exact HS.out _ hB58)
        clear hK K
        (try simp only [Act.put, List.setIfInBounds_toArray, List.set_cons_zero, List.set_cons_succ])
        refine wpAnyH_take (i := 22) (oi := ?oiLt41x22) (v := ?vLt41x22) ?hoLt41x22 ?h1Lt41x22 ?h2Lt41x22 ?h3Lt41x22 ?hqLt41x22 (Or.inl ⟨?h4Lt41x22, ?hyLt41x22⟩) (by assumption) ?restLt41x22
        case hoLt41x22 => (simp only [List.getElem?_toArray, List.getElem?_cons_zero, List.getElem?_cons_succ]; rfl)
        case h1Lt41x22 => kernel_rfl
        case h2Lt41x22 => kernel_rfl
        case h3Lt41x22 => kernel_rfl
        case h4Lt41x22 => rfl
        case hqLt41x22 => exact fun _ _ _ h => h
        case hyLt41x22 => (intro w hSw; (try dsimp only at hSw); go_simp <;> with_reducible rfl)
        (try simp only [Act.put, List.setIfInBounds_toArray, List.set_cons_zero, List.set_cons_succ])
        refine wpAnyH_take (i := 23) (oi := ?oiLt43x23) (v := ?vLt43x23) ?hoLt43x23 ?h1Lt43x23 ?h2Lt43x23 ?h3Lt43x23 ?hqLt43x23 (Or.inl ⟨?h4Lt43x23, ?hyLt43x23⟩) (by assumption) ?restLt43x23
        case hoLt43x23 => (simp only [List.getElem?_toArray, List.getElem?_cons_zero, List.getElem?_cons_succ]; rfl)
        case h1Lt43x23 => kernel_rfl
        case h2Lt43x23 => kernel_rfl
        case h3Lt43x23 => kernel_rfl
        case h4Lt43x23 => rfl
        case hqLt43x23 => exact fun _ _ _ h => h
        case hyLt43x23 => (intro w hSw; (try dsimp only at hSw); go_simp <;> with_reducible rfl)
        (try simp only [Act.put, List.setIfInBounds_toArray, List.set_cons_zero, List.set_cons_succ])
        refine wpAnyH_done (by kernel_rfl) ?_ _
        have hfin := hid hA8
        clear hA5 hA6 hA7 hA8 hB6 hB7 hB8 hB56 hB57 hB58 hBd HS z1 z4 z6 Hpe Hee Hmf
        go_wp2
        go_roundw
        case rel => exact ⟨k + 1, by omega, by omega, by go_num, hfin.out⟩
        case measure => simp [intOf]; omega
      · replace hA := hid hA
        by_cases hk1 : k < mm
        · have hk60 : ¬ k < 60 := fun h => hlt ⟨hk1, h⟩
          clear hlt
          have hrd := read_yes_b hA.out 0 0 (by kernel_rfl)
          rw [show (fN2 f).page 0 0 = pgL 9 from rfl] at hrd
          have hx0 : (if (fN2 f).inI 0 then (((fN2 f).blk (0 : Int).toNat).pages.length : Int) else 0) = 1 := rfl
          have hx1 : (if (fN2 f).inI 1 then (((fN2 f).blk (1 : Int).toNat).pages.length : Int) else 0) = 0 := rfl
          have Hff := hid (show (fN2 f).fence = f from rfl)
          go_wp2_with fail
          refine hrd.mono ?_
          rintro e w6 ⟨A6, c6, rfl, ho6, h6, hB6⟩
          have hz6 := (own_reads ho6 (pgL_wf 9)).2
          have HA := hid h6
          have HC6 := hid (fun (W : World) (hW : Below w6.heap.size w6 W) => conv_str (c := c6) (hz6.below hW))
          have hBd : Below w6.heap.size w6 w6.drew := below_drewN (Below.refl _ _) 1
          have hse := str_eq_true (show pgL 9 = pgL 9 from rfl)
          clear ho6 hB6 hA h6 hz6 hrd
          go_upto_region 17 with (fail)
          refine wp_region_held_drew (S := (fun w' => (convert 27 9 (.slice A6 96 c6)).run Try.prog w' = .ok (.string (strOfNums (pgL 9))) w')) (by kernel_rfl) ?hSnewMz (fun hHeld => ?restMz)
          case hSnewMz => ((try dsimp only); exact HC6.out _ hBd)
          refine wpAnyH_take (i := 0) (oi := ?oiMt45x0) (v := ?vMt45x0) ?hoMt45x0 ?h1Mt45x0 ?h2Mt45x0 ?h3Mt45x0 ?hqMt45x0 (Or.inl ⟨?h4Mt45x0, ?hyMt45x0⟩) (by assumption) ?restMt45x0
          case hoMt45x0 => (simp only [List.getElem?_toArray, List.getElem?_cons_zero, List.getElem?_cons_succ]; rfl)
          case h1Mt45x0 => kernel_rfl
          case h2Mt45x0 => kernel_rfl
          case h3Mt45x0 => kernel_rfl
          case h4Mt45x0 => rfl
          case hqMt45x0 => exact fun _ _ _ h => h
          case hyMt45x0 => (intro w hSw; (try dsimp only at hSw); go_simp <;> with_reducible rfl)
          (try simp only [Act.put, List.setIfInBounds_toArray, List.set_cons_zero, List.set_cons_succ])
          refine wpAnyH_take (i := 1) (oi := ?oiMt47x1) (v := ?vMt47x1) ?hoMt47x1 ?h1Mt47x1 ?h2Mt47x1 ?h3Mt47x1 ?hqMt47x1 (Or.inl ⟨?h4Mt47x1, ?hyMt47x1⟩) (by assumption) ?restMt47x1
          case hoMt47x1 => (simp only [List.getElem?_toArray, List.getElem?_cons_zero, List.getElem?_cons_succ]; rfl)
          case h1Mt47x1 => kernel_rfl
          case h2Mt47x1 => kernel_rfl
          case h3Mt47x1 => kernel_rfl
          case h4Mt47x1 => rfl
          case hqMt47x1 => exact fun _ _ _ h => h
          case hyMt47x1 => (intro w hSw; (try dsimp only at hSw); go_simp <;> with_reducible rfl)
          (try simp only [Act.put, List.setIfInBounds_toArray, List.set_cons_zero, List.set_cons_succ])
          refine wpAnyH_take (i := 2) (oi := ?oiMt49x2) (v := ?vMt49x2) ?hoMt49x2 ?h1Mt49x2 ?h2Mt49x2 ?h3Mt49x2 ?hqMt49x2 (Or.inl ⟨?h4Mt49x2, ?hyMt49x2⟩) (by assumption) ?restMt49x2
          case hoMt49x2 => (simp only [List.getElem?_toArray, List.getElem?_cons_zero, List.getElem?_cons_succ]; rfl)
          case h1Mt49x2 => kernel_rfl
          case h2Mt49x2 => kernel_rfl
          case h3Mt49x2 => kernel_rfl
          case h4Mt49x2 => rfl
          case hqMt49x2 => exact fun _ _ _ h => h
          case hyMt49x2 => (intro w hSw; (try dsimp only at hSw); go_simp <;> with_reducible rfl)
          (try simp only [Act.put, List.setIfInBounds_toArray, List.set_cons_zero, List.set_cons_succ])
          refine wpAnyH_take (i := 3) (oi := ?oiMt51x3) (v := ?vMt51x3) ?hoMt51x3 ?h1Mt51x3 ?h2Mt51x3 ?h3Mt51x3 ?hqMt51x3 (Or.inl ⟨?h4Mt51x3, ?hyMt51x3⟩) (by assumption) ?restMt51x3
          case hoMt51x3 => (simp only [List.getElem?_toArray, List.getElem?_cons_zero, List.getElem?_cons_succ]; rfl)
          case h1Mt51x3 => kernel_rfl
          case h2Mt51x3 => kernel_rfl
          case h3Mt51x3 => kernel_rfl
          case h4Mt51x3 => rfl
          case hqMt51x3 => exact fun _ _ _ h => h
          case hyMt51x3 => (intro w hSw; (try dsimp only at hSw); go_simp <;> with_reducible rfl)
          (try simp only [Act.put, List.setIfInBounds_toArray, List.set_cons_zero, List.set_cons_succ])
          refine wpAnyH_take (i := 4) (oi := ?oiMt53x4) (v := ?vMt53x4) ?hoMt53x4 ?h1Mt53x4 ?h2Mt53x4 ?h3Mt53x4 ?hqMt53x4 (Or.inl ⟨?h4Mt53x4, ?hyMt53x4⟩) (by assumption) ?restMt53x4
          case hoMt53x4 => (simp only [List.getElem?_toArray, List.getElem?_cons_zero, List.getElem?_cons_succ]; rfl)
          case h1Mt53x4 => kernel_rfl
          case h2Mt53x4 => kernel_rfl
          case h3Mt53x4 => kernel_rfl
          case h4Mt53x4 => rfl
          case hqMt53x4 => exact fun _ _ _ h => h
          case hyMt53x4 => (intro w hSw; (try dsimp only at hSw); go_simp <;> with_reducible rfl)
          (try simp only [Act.put, List.setIfInBounds_toArray, List.set_cons_zero, List.set_cons_succ])
          refine wpAnyH_ready (rs := [5]) (by kernel_rfl) (by simp) ?_
          refine AllReadyH.cons (o := ?oiMq54) ?hoMq54 (fun K hK => ?restMq54) ?moreMq54
          case moreMq54 => exact AllReadyH.nil
          case hoMq54 => (simp only [List.getElem?_toArray, List.getElem?_cons_zero, List.getElem?_cons_succ]; rfl)
          go_simp
          refine (page_any 9 _ (by omega)).mono ?_
          rintro e w9 ⟨g9, rfl, hb9, hg9, hB9⟩
          have hB9' : Below w6.heap.size w6 w9 := hBd.trans hB9
          have hcv9 := conv_str (c := 96) (nums_lit hb9 (pgL_len 9) (pgL_wf 9))
          have h9 := HA.out.later hB9'
          have hn0 := next_b h9 0
          have hn1 := next_b h9 1
          have hop := ops_b h9
          have hfe := fence_b h9
          rw [hx0] at hn0
          rw [hx1] at hn1
          rw [Hff.out] at hfe
          try go_wp2_with fail
          refine hK.out _ _ ?hSnewMhq54 (fun hHeld => ?restMhq54)
          case hSnewMhq54 => ((try dsimp only); exact HC6.out _ hB9')
          clear hK K
          (try simp only [Act.put, List.setIfInBounds_toArray, List.set_cons_zero, List.set_cons_succ])
          refine held_switch (fun w' => (convert 27 9 (.slice A6 96 c6)).run Try.prog w' = .ok (.string (strOfNums (pgL 9))) w' ∧ (convert 27 9 (.slice (some ⟨g9, 0, none⟩) 96 96)).run Try.prog w' = .ok (.string (strOfNums (pgL 9))) w') (fun w h => h.1) ?hSnewMsa55 (fun hHeld => ?restMsa55)
          case hSnewMsa55 => ((try dsimp only); exact ⟨HC6.out _ hB9', hcv9⟩)
          refine wpAnyH_take (i := 6) (oi := ?oiMt57x6) (v := ?vMt57x6) ?hoMt57x6 ?h1Mt57x6 ?h2Mt57x6 ?h3Mt57x6 ?hqMt57x6 (Or.inl ⟨?h4Mt57x6, ?hyMt57x6⟩) (by assumption) ?restMt57x6
          case hoMt57x6 => (simp only [List.getElem?_toArray, List.getElem?_cons_zero, List.getElem?_cons_succ]; rfl)
          case h1Mt57x6 => kernel_rfl
          case h2Mt57x6 => kernel_rfl
          case h3Mt57x6 => kernel_rfl
          case h4Mt57x6 => rfl
          case hqMt57x6 => exact fun _ _ _ h => h
          case hyMt57x6 => (intro w hSw; (try dsimp only at hSw); go_simp <;> with_reducible rfl)
          (try simp only [Act.put, List.setIfInBounds_toArray, List.set_cons_zero, List.set_cons_succ])
          refine wpAnyH_take (i := 7) (oi := ?oiMt59x7) (v := ?vMt59x7) ?hoMt59x7 ?h1Mt59x7 ?h2Mt59x7 ?h3Mt59x7 ?hqMt59x7 (Or.inl ⟨?h4Mt59x7, ?hyMt59x7⟩) (by assumption) ?restMt59x7
          case hoMt59x7 => (simp only [List.getElem?_toArray, List.getElem?_cons_zero, List.getElem?_cons_succ]; rfl)
          case h1Mt59x7 => kernel_rfl
          case h2Mt59x7 => kernel_rfl
          case h3Mt59x7 => kernel_rfl
          case h4Mt59x7 => rfl
          case hqMt59x7 => exact fun _ _ _ h => h
          case hyMt59x7 => (intro w hSw; (try dsimp only at hSw); go_simp <;> with_reducible rfl)
          (try simp only [Act.put, List.setIfInBounds_toArray, List.set_cons_zero, List.set_cons_succ])
          refine wpAnyH_take (i := 8) (oi := ?oiMt61x8) (v := ?vMt61x8) ?hoMt61x8 ?h1Mt61x8 ?h2Mt61x8 ?h3Mt61x8 ?hqMt61x8 (Or.inl ⟨?h4Mt61x8, ?hyMt61x8⟩) (by assumption) ?restMt61x8
          case hoMt61x8 => (simp only [List.getElem?_toArray, List.getElem?_cons_zero, List.getElem?_cons_succ]; rfl)
          case h1Mt61x8 => kernel_rfl
          case h2Mt61x8 => kernel_rfl
          case h3Mt61x8 => kernel_rfl
          case h4Mt61x8 => rfl
          case hqMt61x8 => exact fun _ _ _ h => h
          case hyMt61x8 => (intro w hSw; (try dsimp only at hSw); go_simp <;> with_reducible rfl)
          (try simp only [Act.put, List.setIfInBounds_toArray, List.set_cons_zero, List.set_cons_succ])
          refine wpAnyH_take (i := 9) (oi := ?oiMt63x9) (v := ?vMt63x9) ?hoMt63x9 ?h1Mt63x9 ?h2Mt63x9 ?h3Mt63x9 ?hqMt63x9 (Or.inl ⟨?h4Mt63x9, ?hyMt63x9⟩) (by assumption) ?restMt63x9
          case hoMt63x9 => (simp only [List.getElem?_toArray, List.getElem?_cons_zero, List.getElem?_cons_succ]; rfl)
          case h1Mt63x9 => kernel_rfl
          case h2Mt63x9 => kernel_rfl
          case h3Mt63x9 => kernel_rfl
          case h4Mt63x9 => rfl
          case hqMt63x9 => exact fun _ _ _ h => h
          case hyMt63x9 => (intro w hSw; (try dsimp only at hSw); go_simp <;> with_reducible rfl)
          (try simp only [Act.put, List.setIfInBounds_toArray, List.set_cons_zero, List.set_cons_succ])
          refine wpAnyH_take (i := 10) (oi := ?oiMt65x10) (v := ?vMt65x10) ?hoMt65x10 ?h1Mt65x10 ?h2Mt65x10 ?h3Mt65x10 ?hqMt65x10 (Or.inl ⟨?h4Mt65x10, ?hyMt65x10⟩) (by assumption) ?restMt65x10
          case hoMt65x10 => (simp only [List.getElem?_toArray, List.getElem?_cons_zero, List.getElem?_cons_succ]; rfl)
          case h1Mt65x10 => kernel_rfl
          case h2Mt65x10 => kernel_rfl
          case h3Mt65x10 => kernel_rfl
          case h4Mt65x10 => rfl
          case hqMt65x10 => exact fun _ _ _ h => h
          case hyMt65x10 => (intro w hSw; (try dsimp only at hSw); go_simp <;> with_reducible rfl)
          (try simp only [Act.put, List.setIfInBounds_toArray, List.set_cons_zero, List.set_cons_succ])
          refine wpAnyH_ready (rs := [11]) (by kernel_rfl) (by simp) ?_
          refine AllReadyH.cons (o := ?oiMq66) ?hoMq66 (fun K hK => ?restMq66) ?moreMq66
          case moreMq66 => exact AllReadyH.nil
          case hoMq66 => (simp only [List.getElem?_toArray, List.getElem?_cons_zero, List.getElem?_cons_succ]; rfl)
          go_simp
          refine hn0.mono ?_
          rintro e w9 ⟨rfl, rfl⟩
          try go_wp2_with fail
          refine hK.out _ _ ?hSnewMhq66 (fun hHeld => ?restMhq66)
          case hSnewMhq66 => ((try dsimp only); exact ⟨HC6.out _ hB9', hcv9⟩)
          clear hK K
          (try simp only [Act.put, List.setIfInBounds_toArray, List.set_cons_zero, List.set_cons_succ])
          refine wpAnyH_take (i := 12) (oi := ?oiMt68x12) (v := ?vMt68x12) ?hoMt68x12 ?h1Mt68x12 ?h2Mt68x12 ?h3Mt68x12 ?hqMt68x12 (Or.inl ⟨?h4Mt68x12, ?hyMt68x12⟩) (by assumption) ?restMt68x12
          case hoMt68x12 => (simp only [List.getElem?_toArray, List.getElem?_cons_zero, List.getElem?_cons_succ]; rfl)
          case h1Mt68x12 => kernel_rfl
          case h2Mt68x12 => kernel_rfl
          case h3Mt68x12 => kernel_rfl
          case h4Mt68x12 => rfl
          case hqMt68x12 => exact fun _ _ _ h => h
          case hyMt68x12 => (intro w hSw; (try dsimp only at hSw); go_simp <;> with_reducible rfl)
          (try simp only [Act.put, List.setIfInBounds_toArray, List.set_cons_zero, List.set_cons_succ])
          refine wpAnyH_take (i := 13) (oi := ?oiMt70x13) (v := ?vMt70x13) ?hoMt70x13 ?h1Mt70x13 ?h2Mt70x13 ?h3Mt70x13 ?hqMt70x13 (Or.inl ⟨?h4Mt70x13, ?hyMt70x13⟩) (by assumption) ?restMt70x13
          case hoMt70x13 => (simp only [List.getElem?_toArray, List.getElem?_cons_zero, List.getElem?_cons_succ]; rfl)
          case h1Mt70x13 => kernel_rfl
          case h2Mt70x13 => kernel_rfl
          case h3Mt70x13 => kernel_rfl
          case h4Mt70x13 => rfl
          case hqMt70x13 => exact fun _ _ _ h => h
          case hyMt70x13 => (intro w hSw; (try dsimp only at hSw); go_simp <;> with_reducible rfl)
          (try simp only [Act.put, List.setIfInBounds_toArray, List.set_cons_zero, List.set_cons_succ])
          refine wpAnyH_take (i := 14) (oi := ?oiMt72x14) (v := ?vMt72x14) ?hoMt72x14 ?h1Mt72x14 ?h2Mt72x14 ?h3Mt72x14 ?hqMt72x14 (Or.inl ⟨?h4Mt72x14, ?hyMt72x14⟩) (by assumption) ?restMt72x14
          case hoMt72x14 => (simp only [List.getElem?_toArray, List.getElem?_cons_zero, List.getElem?_cons_succ]; rfl)
          case h1Mt72x14 => kernel_rfl
          case h2Mt72x14 => kernel_rfl
          case h3Mt72x14 => kernel_rfl
          case h4Mt72x14 => rfl
          case hqMt72x14 => exact fun _ _ _ h => h
          case hyMt72x14 => (intro w hSw; (try dsimp only at hSw); go_simp <;> with_reducible rfl)
          (try simp only [Act.put, List.setIfInBounds_toArray, List.set_cons_zero, List.set_cons_succ])
          refine wpAnyH_take (i := 15) (oi := ?oiMt74x15) (v := ?vMt74x15) ?hoMt74x15 ?h1Mt74x15 ?h2Mt74x15 ?h3Mt74x15 ?hqMt74x15 (Or.inl ⟨?h4Mt74x15, ?hyMt74x15⟩) (by assumption) ?restMt74x15
          case hoMt74x15 => (simp only [List.getElem?_toArray, List.getElem?_cons_zero, List.getElem?_cons_succ]; rfl)
          case h1Mt74x15 => kernel_rfl
          case h2Mt74x15 => kernel_rfl
          case h3Mt74x15 => kernel_rfl
          case h4Mt74x15 => rfl
          case hqMt74x15 => exact fun _ _ _ h => h
          case hyMt74x15 => (intro w hSw; (try dsimp only at hSw); go_simp <;> with_reducible rfl)
          (try simp only [Act.put, List.setIfInBounds_toArray, List.set_cons_zero, List.set_cons_succ])
          refine wpAnyH_ready (rs := [16]) (by kernel_rfl) (by simp) ?_
          refine AllReadyH.cons (o := ?oiMq75) ?hoMq75 (fun K hK => ?restMq75) ?moreMq75
          case moreMq75 => exact AllReadyH.nil
          case hoMq75 => (simp only [List.getElem?_toArray, List.getElem?_cons_zero, List.getElem?_cons_succ]; rfl)
          go_simp
          refine hn1.mono ?_
          rintro e w9 ⟨rfl, rfl⟩
          try go_wp2_with fail
          refine hK.out _ _ ?hSnewMhq75 (fun hHeld => ?restMhq75)
          case hSnewMhq75 => ((try dsimp only); exact ⟨HC6.out _ hB9', hcv9⟩)
          clear hK K
          (try simp only [Act.put, List.setIfInBounds_toArray, List.set_cons_zero, List.set_cons_succ])
          refine wpAnyH_take (i := 17) (oi := ?oiMt77x17) (v := ?vMt77x17) ?hoMt77x17 ?h1Mt77x17 ?h2Mt77x17 ?h3Mt77x17 ?hqMt77x17 (Or.inl ⟨?h4Mt77x17, ?hyMt77x17⟩) (by assumption) ?restMt77x17
          case hoMt77x17 => (simp only [List.getElem?_toArray, List.getElem?_cons_zero, List.getElem?_cons_succ]; rfl)
          case h1Mt77x17 => kernel_rfl
          case h2Mt77x17 => kernel_rfl
          case h3Mt77x17 => kernel_rfl
          case h4Mt77x17 => rfl
          case hqMt77x17 => exact fun _ _ _ h => h
          case hyMt77x17 => (intro w hSw; (try dsimp only at hSw); go_simp <;> with_reducible rfl)
          (try simp only [Act.put, List.setIfInBounds_toArray, List.set_cons_zero, List.set_cons_succ])
          refine wpAnyH_take (i := 18) (oi := ?oiMt79x18) (v := ?vMt79x18) ?hoMt79x18 ?h1Mt79x18 ?h2Mt79x18 ?h3Mt79x18 ?hqMt79x18 (Or.inl ⟨?h4Mt79x18, ?hyMt79x18⟩) (by assumption) ?restMt79x18
          case hoMt79x18 => (simp only [List.getElem?_toArray, List.getElem?_cons_zero, List.getElem?_cons_succ]; rfl)
          case h1Mt79x18 => kernel_rfl
          case h2Mt79x18 => kernel_rfl
          case h3Mt79x18 => kernel_rfl
          case h4Mt79x18 => rfl
          case hqMt79x18 => exact fun _ _ _ h => h
          case hyMt79x18 => (intro w hSw; (try dsimp only at hSw); go_simp <;> with_reducible rfl)
          (try simp only [Act.put, List.setIfInBounds_toArray, List.set_cons_zero, List.set_cons_succ])
          refine wpAnyH_take (i := 19) (oi := ?oiMt81x19) (v := ?vMt81x19) ?hoMt81x19 ?h1Mt81x19 ?h2Mt81x19 ?h3Mt81x19 ?hqMt81x19 (Or.inl ⟨?h4Mt81x19, ?hyMt81x19⟩) (by assumption) ?restMt81x19
          case hoMt81x19 => (simp only [List.getElem?_toArray, List.getElem?_cons_zero, List.getElem?_cons_succ]; rfl)
          case h1Mt81x19 => kernel_rfl
          case h2Mt81x19 => kernel_rfl
          case h3Mt81x19 => kernel_rfl
          case h4Mt81x19 => rfl
          case hqMt81x19 => exact fun _ _ _ h => h
          case hyMt81x19 => (intro w hSw; (try dsimp only at hSw); go_simp <;> with_reducible rfl)
          (try simp only [Act.put, List.setIfInBounds_toArray, List.set_cons_zero, List.set_cons_succ])
          refine wpAnyH_take (i := 20) (oi := ?oiMt83x20) (v := ?vMt83x20) ?hoMt83x20 ?h1Mt83x20 ?h2Mt83x20 ?h3Mt83x20 ?hqMt83x20 (Or.inl ⟨?h4Mt83x20, ?hyMt83x20⟩) (by assumption) ?restMt83x20
          case hoMt83x20 => (simp only [List.getElem?_toArray, List.getElem?_cons_zero, List.getElem?_cons_succ]; rfl)
          case h1Mt83x20 => kernel_rfl
          case h2Mt83x20 => kernel_rfl
          case h3Mt83x20 => kernel_rfl
          case h4Mt83x20 => rfl
          case hqMt83x20 => exact fun _ _ _ h => h
          case hyMt83x20 => (intro w hSw; (try dsimp only at hSw); go_simp <;> with_reducible rfl)
          (try simp only [Act.put, List.setIfInBounds_toArray, List.set_cons_zero, List.set_cons_succ])
          refine wpAnyH_take (i := 22) (oi := ?oiMt85x22) (v := ?vMt85x22) ?hoMt85x22 ?h1Mt85x22 ?h2Mt85x22 ?h3Mt85x22 ?hqMt85x22 (Or.inl ⟨?h4Mt85x22, ?hyMt85x22⟩) (by assumption) ?restMt85x22
          case hoMt85x22 => (simp only [List.getElem?_toArray, List.getElem?_cons_zero, List.getElem?_cons_succ]; rfl)
          case h1Mt85x22 => kernel_rfl
          case h2Mt85x22 => kernel_rfl
          case h3Mt85x22 => kernel_rfl
          case h4Mt85x22 => rfl
          case hqMt85x22 => exact fun _ _ _ h => h
          case hyMt85x22 => (intro w hSw; (try dsimp only at hSw); go_simp <;> with_reducible rfl)
          (try simp only [Act.put, List.setIfInBounds_toArray, List.set_cons_zero, List.set_cons_succ])
          refine wpAnyH_ready (rs := [21]) (by kernel_rfl) (by simp) ?_
          refine AllReadyH.cons (o := ?oiMq86) ?hoMq86 (fun K hK => ?restMq86) ?moreMq86
          case moreMq86 => exact AllReadyH.nil
          case hoMq86 => (simp only [List.getElem?_toArray, List.getElem?_cons_zero, List.getElem?_cons_succ]; rfl)
          go_simp
          refine hop.mono ?_
          rintro e w9 ⟨rfl, rfl⟩
          try go_wp2_with fail
          refine hK.out _ _ ?hSnewMhq86 (fun hHeld => ?restMhq86)
          case hSnewMhq86 => ((try dsimp only); exact ⟨HC6.out _ hB9', hcv9⟩)
          clear hK K
          (try simp only [Act.put, List.setIfInBounds_toArray, List.set_cons_zero, List.set_cons_succ])
          refine wpAnyH_take (i := 23) (oi := ?oiMt88x23) (v := ?vMt88x23) ?hoMt88x23 ?h1Mt88x23 ?h2Mt88x23 ?h3Mt88x23 ?hqMt88x23 (Or.inl ⟨?h4Mt88x23, ?hyMt88x23⟩) (by assumption) ?restMt88x23
          case hoMt88x23 => (simp only [List.getElem?_toArray, List.getElem?_cons_zero, List.getElem?_cons_succ]; rfl)
          case h1Mt88x23 => kernel_rfl
          case h2Mt88x23 => kernel_rfl
          case h3Mt88x23 => kernel_rfl
          case h4Mt88x23 => rfl
          case hqMt88x23 => exact fun _ _ _ h => h
          case hyMt88x23 => (intro w hSw; (try dsimp only at hSw); go_simp <;> with_reducible rfl)
          (try simp only [Act.put, List.setIfInBounds_toArray, List.set_cons_zero, List.set_cons_succ])
          refine wpAnyH_take (i := 24) (oi := ?oiMt90x24) (v := ?vMt90x24) ?hoMt90x24 ?h1Mt90x24 ?h2Mt90x24 ?h3Mt90x24 ?hqMt90x24 (Or.inl ⟨?h4Mt90x24, ?hyMt90x24⟩) (by assumption) ?restMt90x24
          case hoMt90x24 => (simp only [List.getElem?_toArray, List.getElem?_cons_zero, List.getElem?_cons_succ]; rfl)
          case h1Mt90x24 => kernel_rfl
          case h2Mt90x24 => kernel_rfl
          case h3Mt90x24 => kernel_rfl
          case h4Mt90x24 => rfl
          case hqMt90x24 => exact fun _ _ _ h => h
          case hyMt90x24 => (intro w hSw; (try dsimp only at hSw); go_simp <;> with_reducible rfl)
          (try simp only [Act.put, List.setIfInBounds_toArray, List.set_cons_zero, List.set_cons_succ])
          refine wpAnyH_take (i := 25) (oi := ?oiMt92x25) (v := ?vMt92x25) ?hoMt92x25 ?h1Mt92x25 ?h2Mt92x25 ?h3Mt92x25 ?hqMt92x25 (Or.inl ⟨?h4Mt92x25, ?hyMt92x25⟩) (by assumption) ?restMt92x25
          case hoMt92x25 => (simp only [List.getElem?_toArray, List.getElem?_cons_zero, List.getElem?_cons_succ]; rfl)
          case h1Mt92x25 => kernel_rfl
          case h2Mt92x25 => kernel_rfl
          case h3Mt92x25 => kernel_rfl
          case h4Mt92x25 => rfl
          case hqMt92x25 => exact fun _ _ _ h => h
          case hyMt92x25 => (intro w hSw; (try dsimp only at hSw); go_simp <;> with_reducible rfl)
          (try simp only [Act.put, List.setIfInBounds_toArray, List.set_cons_zero, List.set_cons_succ])
          refine wpAnyH_take (i := 26) (oi := ?oiMt94x26) (v := ?vMt94x26) ?hoMt94x26 ?h1Mt94x26 ?h2Mt94x26 ?h3Mt94x26 ?hqMt94x26 (Or.inl ⟨?h4Mt94x26, ?hyMt94x26⟩) (by assumption) ?restMt94x26
          case hoMt94x26 => (simp only [List.getElem?_toArray, List.getElem?_cons_zero, List.getElem?_cons_succ]; rfl)
          case h1Mt94x26 => kernel_rfl
          case h2Mt94x26 => kernel_rfl
          case h3Mt94x26 => kernel_rfl
          case h4Mt94x26 => rfl
          case hqMt94x26 => exact fun _ _ _ h => h
          case hyMt94x26 => (intro w hSw; (try dsimp only at hSw); go_simp <;> with_reducible rfl)
          (try simp only [Act.put, List.setIfInBounds_toArray, List.set_cons_zero, List.set_cons_succ])
          refine wpAnyH_take (i := 28) (oi := ?oiMt96x28) (v := ?vMt96x28) ?hoMt96x28 ?h1Mt96x28 ?h2Mt96x28 ?h3Mt96x28 ?hqMt96x28 (Or.inl ⟨?h4Mt96x28, ?hyMt96x28⟩) (by assumption) ?restMt96x28
          case hoMt96x28 => (simp only [List.getElem?_toArray, List.getElem?_cons_zero, List.getElem?_cons_succ]; rfl)
          case h1Mt96x28 => kernel_rfl
          case h2Mt96x28 => kernel_rfl
          case h3Mt96x28 => kernel_rfl
          case h4Mt96x28 => rfl
          case hqMt96x28 => exact fun _ _ _ h => h
          case hyMt96x28 => (intro w hSw; (try dsimp only at hSw); go_simp <;> with_reducible rfl)
          (try simp only [Act.put, List.setIfInBounds_toArray, List.set_cons_zero, List.set_cons_succ])
          refine wpAnyH_ready (rs := [27]) (by kernel_rfl) (by simp) ?_
          refine AllReadyH.cons (o := ?oiMq97) ?hoMq97 (fun K hK => ?restMq97) ?moreMq97
          case moreMq97 => exact AllReadyH.nil
          case hoMq97 => (simp only [List.getElem?_toArray, List.getElem?_cons_zero, List.getElem?_cons_succ]; rfl)
          go_simp
          refine hfe.mono ?_
          rintro e w9 ⟨rfl, rfl⟩
          try go_wp2_with fail
          refine hK.out _ _ ?hSnewMhq97 (fun hHeld => ?restMhq97)
          case hSnewMhq97 => ((try dsimp only); exact ⟨HC6.out _ hB9', hcv9⟩)
          clear hK K
          (try simp only [Act.put, List.setIfInBounds_toArray, List.set_cons_zero, List.set_cons_succ])
          refine wpAnyH_take (i := 29) (oi := ?oiMt99x29) (v := ?vMt99x29) ?hoMt99x29 ?h1Mt99x29 ?h2Mt99x29 ?h3Mt99x29 ?hqMt99x29 (Or.inl ⟨?h4Mt99x29, ?hyMt99x29⟩) (by assumption) ?restMt99x29
          case hoMt99x29 => (simp only [List.getElem?_toArray, List.getElem?_cons_zero, List.getElem?_cons_succ]; rfl)
          case h1Mt99x29 => kernel_rfl
          case h2Mt99x29 => kernel_rfl
          case h3Mt99x29 => kernel_rfl
          case h4Mt99x29 => rfl
          case hqMt99x29 => exact fun _ _ _ h => h
          case hyMt99x29 => (intro w hSw; (try dsimp only at hSw); go_simp <;> with_reducible rfl)
          (try simp only [Act.put, List.setIfInBounds_toArray, List.set_cons_zero, List.set_cons_succ])
          refine wpAnyH_take (i := 30) (oi := ?oiMt101x30) (v := ?vMt101x30) ?hoMt101x30 ?h1Mt101x30 ?h2Mt101x30 ?h3Mt101x30 ?hqMt101x30 (Or.inl ⟨?h4Mt101x30, ?hyMt101x30⟩) (by assumption) ?restMt101x30
          case hoMt101x30 => (simp only [List.getElem?_toArray, List.getElem?_cons_zero, List.getElem?_cons_succ]; rfl)
          case h1Mt101x30 => kernel_rfl
          case h2Mt101x30 => kernel_rfl
          case h3Mt101x30 => kernel_rfl
          case h4Mt101x30 => rfl
          case hqMt101x30 => exact fun _ _ _ h => h
          case hyMt101x30 => (intro w hSw; (try dsimp only at hSw); go_simp <;> with_reducible rfl)
          (try simp only [Act.put, List.setIfInBounds_toArray, List.set_cons_zero, List.set_cons_succ])
          refine wpAnyH_take (i := 31) (oi := ?oiMt103x31) (v := ?vMt103x31) ?hoMt103x31 ?h1Mt103x31 ?h2Mt103x31 ?h3Mt103x31 ?hqMt103x31 (Or.inl ⟨?h4Mt103x31, ?hyMt103x31⟩) (by assumption) ?restMt103x31
          case hoMt103x31 => (simp only [List.getElem?_toArray, List.getElem?_cons_zero, List.getElem?_cons_succ]; rfl)
          case h1Mt103x31 => kernel_rfl
          case h2Mt103x31 => kernel_rfl
          case h3Mt103x31 => kernel_rfl
          case h4Mt103x31 => rfl
          case hqMt103x31 => exact fun _ _ _ h => h
          case hyMt103x31 => (intro w hSw; (try dsimp only at hSw); go_simp <;> with_reducible rfl)
          (try simp only [Act.put, List.setIfInBounds_toArray, List.set_cons_zero, List.set_cons_succ])
          refine wpAnyH_done (by kernel_rfl) ?_ _
          
          have hfin := hid (h9.bel)
          clear hcv9 hB9' HC6 HA h9 hn0 hn1 hop hfe
          go_wp2
          go_ret
          exact ⟨rfl, hfin.out⟩
        · clear hlt
          have hrd := read_yes_b hA.out 0 0 (by kernel_rfl)
          rw [show (fN2 f).page 0 0 = pgL 9 from rfl] at hrd
          have hx0 : (if (fN2 f).inI 0 then (((fN2 f).blk (0 : Int).toNat).pages.length : Int) else 0) = 1 := rfl
          have hx1 : (if (fN2 f).inI 1 then (((fN2 f).blk (1 : Int).toNat).pages.length : Int) else 0) = 0 := rfl
          have Hff := hid (show (fN2 f).fence = f from rfl)
          go_wp2_with fail
          refine hrd.mono ?_
          rintro e w6 ⟨A6, c6, rfl, ho6, h6, hB6⟩
          have hz6 := (own_reads ho6 (pgL_wf 9)).2
          have HA := hid h6
          have HC6 := hid (fun (W : World) (hW : Below w6.heap.size w6 W) => conv_str (c := c6) (hz6.below hW))
          have hBd : Below w6.heap.size w6 w6.drew := below_drewN (Below.refl _ _) 1
          have hse := str_eq_true (show pgL 9 = pgL 9 from rfl)
          clear ho6 hB6 hA h6 hz6 hrd
          go_upto_region 17 with (fail)
          refine wp_region_held_drew (S := (fun w' => (convert 27 9 (.slice A6 96 c6)).run Try.prog w' = .ok (.string (strOfNums (pgL 9))) w')) (by kernel_rfl) ?hSnewPz (fun hHeld => ?restPz)
          case hSnewPz => ((try dsimp only); exact HC6.out _ hBd)
          refine wpAnyH_take (i := 0) (oi := ?oiPt105x0) (v := ?vPt105x0) ?hoPt105x0 ?h1Pt105x0 ?h2Pt105x0 ?h3Pt105x0 ?hqPt105x0 (Or.inl ⟨?h4Pt105x0, ?hyPt105x0⟩) (by assumption) ?restPt105x0
          case hoPt105x0 => (simp only [List.getElem?_toArray, List.getElem?_cons_zero, List.getElem?_cons_succ]; rfl)
          case h1Pt105x0 => kernel_rfl
          case h2Pt105x0 => kernel_rfl
          case h3Pt105x0 => kernel_rfl
          case h4Pt105x0 => rfl
          case hqPt105x0 => exact fun _ _ _ h => h
          case hyPt105x0 => (intro w hSw; (try dsimp only at hSw); go_simp <;> with_reducible rfl)
          (try simp only [Act.put, List.setIfInBounds_toArray, List.set_cons_zero, List.set_cons_succ])
          refine wpAnyH_take (i := 1) (oi := ?oiPt107x1) (v := ?vPt107x1) ?hoPt107x1 ?h1Pt107x1 ?h2Pt107x1 ?h3Pt107x1 ?hqPt107x1 (Or.inl ⟨?h4Pt107x1, ?hyPt107x1⟩) (by assumption) ?restPt107x1
          case hoPt107x1 => (simp only [List.getElem?_toArray, List.getElem?_cons_zero, List.getElem?_cons_succ]; rfl)
          case h1Pt107x1 => kernel_rfl
          case h2Pt107x1 => kernel_rfl
          case h3Pt107x1 => kernel_rfl
          case h4Pt107x1 => rfl
          case hqPt107x1 => exact fun _ _ _ h => h
          case hyPt107x1 => (intro w hSw; (try dsimp only at hSw); go_simp <;> with_reducible rfl)
          (try simp only [Act.put, List.setIfInBounds_toArray, List.set_cons_zero, List.set_cons_succ])
          refine wpAnyH_take (i := 2) (oi := ?oiPt109x2) (v := ?vPt109x2) ?hoPt109x2 ?h1Pt109x2 ?h2Pt109x2 ?h3Pt109x2 ?hqPt109x2 (Or.inl ⟨?h4Pt109x2, ?hyPt109x2⟩) (by assumption) ?restPt109x2
          case hoPt109x2 => (simp only [List.getElem?_toArray, List.getElem?_cons_zero, List.getElem?_cons_succ]; rfl)
          case h1Pt109x2 => kernel_rfl
          case h2Pt109x2 => kernel_rfl
          case h3Pt109x2 => kernel_rfl
          case h4Pt109x2 => rfl
          case hqPt109x2 => exact fun _ _ _ h => h
          case hyPt109x2 => (intro w hSw; (try dsimp only at hSw); go_simp <;> with_reducible rfl)
          (try simp only [Act.put, List.setIfInBounds_toArray, List.set_cons_zero, List.set_cons_succ])
          refine wpAnyH_take (i := 3) (oi := ?oiPt111x3) (v := ?vPt111x3) ?hoPt111x3 ?h1Pt111x3 ?h2Pt111x3 ?h3Pt111x3 ?hqPt111x3 (Or.inl ⟨?h4Pt111x3, ?hyPt111x3⟩) (by assumption) ?restPt111x3
          case hoPt111x3 => (simp only [List.getElem?_toArray, List.getElem?_cons_zero, List.getElem?_cons_succ]; rfl)
          case h1Pt111x3 => kernel_rfl
          case h2Pt111x3 => kernel_rfl
          case h3Pt111x3 => kernel_rfl
          case h4Pt111x3 => rfl
          case hqPt111x3 => exact fun _ _ _ h => h
          case hyPt111x3 => (intro w hSw; (try dsimp only at hSw); go_simp <;> with_reducible rfl)
          (try simp only [Act.put, List.setIfInBounds_toArray, List.set_cons_zero, List.set_cons_succ])
          refine wpAnyH_take (i := 4) (oi := ?oiPt113x4) (v := ?vPt113x4) ?hoPt113x4 ?h1Pt113x4 ?h2Pt113x4 ?h3Pt113x4 ?hqPt113x4 (Or.inl ⟨?h4Pt113x4, ?hyPt113x4⟩) (by assumption) ?restPt113x4
          case hoPt113x4 => (simp only [List.getElem?_toArray, List.getElem?_cons_zero, List.getElem?_cons_succ]; rfl)
          case h1Pt113x4 => kernel_rfl
          case h2Pt113x4 => kernel_rfl
          case h3Pt113x4 => kernel_rfl
          case h4Pt113x4 => rfl
          case hqPt113x4 => exact fun _ _ _ h => h
          case hyPt113x4 => (intro w hSw; (try dsimp only at hSw); go_simp <;> with_reducible rfl)
          (try simp only [Act.put, List.setIfInBounds_toArray, List.set_cons_zero, List.set_cons_succ])
          refine wpAnyH_ready (rs := [5]) (by kernel_rfl) (by simp) ?_
          refine AllReadyH.cons (o := ?oiPq114) ?hoPq114 (fun K hK => ?restPq114) ?morePq114
          case morePq114 => exact AllReadyH.nil
          case hoPq114 => (simp only [List.getElem?_toArray, List.getElem?_cons_zero, List.getElem?_cons_succ]; rfl)
          go_simp
          refine (page_any 9 _ (by omega)).mono ?_
          rintro e w9 ⟨g9, rfl, hb9, hg9, hB9⟩
          have hB9' : Below w6.heap.size w6 w9 := hBd.trans hB9
          have hcv9 := conv_str (c := 96) (nums_lit hb9 (pgL_len 9) (pgL_wf 9))
          have h9 := HA.out.later hB9'
          have hn0 := next_b h9 0
          have hn1 := next_b h9 1
          have hop := ops_b h9
          have hfe := fence_b h9
          rw [hx0] at hn0
          rw [hx1] at hn1
          rw [Hff.out] at hfe
          try go_wp2_with fail
          refine hK.out _ _ ?hSnewPhq114 (fun hHeld => ?restPhq114)
          case hSnewPhq114 => ((try dsimp only); exact HC6.out _ hB9')
          clear hK K
          (try simp only [Act.put, List.setIfInBounds_toArray, List.set_cons_zero, List.set_cons_succ])
          refine held_switch (fun w' => (convert 27 9 (.slice A6 96 c6)).run Try.prog w' = .ok (.string (strOfNums (pgL 9))) w' ∧ (convert 27 9 (.slice (some ⟨g9, 0, none⟩) 96 96)).run Try.prog w' = .ok (.string (strOfNums (pgL 9))) w') (fun w h => h.1) ?hSnewPsa115 (fun hHeld => ?restPsa115)
          case hSnewPsa115 => ((try dsimp only); exact ⟨HC6.out _ hB9', hcv9⟩)
          refine wpAnyH_take (i := 6) (oi := ?oiPt117x6) (v := ?vPt117x6) ?hoPt117x6 ?h1Pt117x6 ?h2Pt117x6 ?h3Pt117x6 ?hqPt117x6 (Or.inl ⟨?h4Pt117x6, ?hyPt117x6⟩) (by assumption) ?restPt117x6
          case hoPt117x6 => (simp only [List.getElem?_toArray, List.getElem?_cons_zero, List.getElem?_cons_succ]; rfl)
          case h1Pt117x6 => kernel_rfl
          case h2Pt117x6 => kernel_rfl
          case h3Pt117x6 => kernel_rfl
          case h4Pt117x6 => rfl
          case hqPt117x6 => exact fun _ _ _ h => h
          case hyPt117x6 => (intro w hSw; (try dsimp only at hSw); go_simp <;> with_reducible rfl)
          (try simp only [Act.put, List.setIfInBounds_toArray, List.set_cons_zero, List.set_cons_succ])
          refine wpAnyH_take (i := 7) (oi := ?oiPt119x7) (v := ?vPt119x7) ?hoPt119x7 ?h1Pt119x7 ?h2Pt119x7 ?h3Pt119x7 ?hqPt119x7 (Or.inl ⟨?h4Pt119x7, ?hyPt119x7⟩) (by assumption) ?restPt119x7
          case hoPt119x7 => (simp only [List.getElem?_toArray, List.getElem?_cons_zero, List.getElem?_cons_succ]; rfl)
          case h1Pt119x7 => kernel_rfl
          case h2Pt119x7 => kernel_rfl
          case h3Pt119x7 => kernel_rfl
          case h4Pt119x7 => rfl
          case hqPt119x7 => exact fun _ _ _ h => h
          case hyPt119x7 => (intro w hSw; (try dsimp only at hSw); go_simp <;> with_reducible rfl)
          (try simp only [Act.put, List.setIfInBounds_toArray, List.set_cons_zero, List.set_cons_succ])
          refine wpAnyH_take (i := 8) (oi := ?oiPt121x8) (v := ?vPt121x8) ?hoPt121x8 ?h1Pt121x8 ?h2Pt121x8 ?h3Pt121x8 ?hqPt121x8 (Or.inl ⟨?h4Pt121x8, ?hyPt121x8⟩) (by assumption) ?restPt121x8
          case hoPt121x8 => (simp only [List.getElem?_toArray, List.getElem?_cons_zero, List.getElem?_cons_succ]; rfl)
          case h1Pt121x8 => kernel_rfl
          case h2Pt121x8 => kernel_rfl
          case h3Pt121x8 => kernel_rfl
          case h4Pt121x8 => rfl
          case hqPt121x8 => exact fun _ _ _ h => h
          case hyPt121x8 => (intro w hSw; (try dsimp only at hSw); go_simp <;> with_reducible rfl)
          (try simp only [Act.put, List.setIfInBounds_toArray, List.set_cons_zero, List.set_cons_succ])
          refine wpAnyH_take (i := 9) (oi := ?oiPt123x9) (v := ?vPt123x9) ?hoPt123x9 ?h1Pt123x9 ?h2Pt123x9 ?h3Pt123x9 ?hqPt123x9 (Or.inl ⟨?h4Pt123x9, ?hyPt123x9⟩) (by assumption) ?restPt123x9
          case hoPt123x9 => (simp only [List.getElem?_toArray, List.getElem?_cons_zero, List.getElem?_cons_succ]; rfl)
          case h1Pt123x9 => kernel_rfl
          case h2Pt123x9 => kernel_rfl
          case h3Pt123x9 => kernel_rfl
          case h4Pt123x9 => rfl
          case hqPt123x9 => exact fun _ _ _ h => h
          case hyPt123x9 => (intro w hSw; (try dsimp only at hSw); go_simp <;> with_reducible rfl)
          (try simp only [Act.put, List.setIfInBounds_toArray, List.set_cons_zero, List.set_cons_succ])
          refine wpAnyH_take (i := 10) (oi := ?oiPt125x10) (v := ?vPt125x10) ?hoPt125x10 ?h1Pt125x10 ?h2Pt125x10 ?h3Pt125x10 ?hqPt125x10 (Or.inl ⟨?h4Pt125x10, ?hyPt125x10⟩) (by assumption) ?restPt125x10
          case hoPt125x10 => (simp only [List.getElem?_toArray, List.getElem?_cons_zero, List.getElem?_cons_succ]; rfl)
          case h1Pt125x10 => kernel_rfl
          case h2Pt125x10 => kernel_rfl
          case h3Pt125x10 => kernel_rfl
          case h4Pt125x10 => rfl
          case hqPt125x10 => exact fun _ _ _ h => h
          case hyPt125x10 => (intro w hSw; (try dsimp only at hSw); go_simp <;> with_reducible rfl)
          (try simp only [Act.put, List.setIfInBounds_toArray, List.set_cons_zero, List.set_cons_succ])
          refine wpAnyH_ready (rs := [11]) (by kernel_rfl) (by simp) ?_
          refine AllReadyH.cons (o := ?oiPq126) ?hoPq126 (fun K hK => ?restPq126) ?morePq126
          case morePq126 => exact AllReadyH.nil
          case hoPq126 => (simp only [List.getElem?_toArray, List.getElem?_cons_zero, List.getElem?_cons_succ]; rfl)
          go_simp
          refine hn0.mono ?_
          rintro e w9 ⟨rfl, rfl⟩
          try go_wp2_with fail
          refine hK.out _ _ ?hSnewPhq126 (fun hHeld => ?restPhq126)
          case hSnewPhq126 => ((try dsimp only); exact ⟨HC6.out _ hB9', hcv9⟩)
          clear hK K
          (try simp only [Act.put, List.setIfInBounds_toArray, List.set_cons_zero, List.set_cons_succ])
          refine wpAnyH_take (i := 12) (oi := ?oiPt128x12) (v := ?vPt128x12) ?hoPt128x12 ?h1Pt128x12 ?h2Pt128x12 ?h3Pt128x12 ?hqPt128x12 (Or.inl ⟨?h4Pt128x12, ?hyPt128x12⟩) (by assumption) ?restPt128x12
          case hoPt128x12 => (simp only [List.getElem?_toArray, List.getElem?_cons_zero, List.getElem?_cons_succ]; rfl)
          case h1Pt128x12 => kernel_rfl
          case h2Pt128x12 => kernel_rfl
          case h3Pt128x12 => kernel_rfl
          case h4Pt128x12 => rfl
          case hqPt128x12 => exact fun _ _ _ h => h
          case hyPt128x12 => (intro w hSw; (try dsimp only at hSw); go_simp <;> with_reducible rfl)
          (try simp only [Act.put, List.setIfInBounds_toArray, List.set_cons_zero, List.set_cons_succ])
          refine wpAnyH_take (i := 13) (oi := ?oiPt130x13) (v := ?vPt130x13) ?hoPt130x13 ?h1Pt130x13 ?h2Pt130x13 ?h3Pt130x13 ?hqPt130x13 (Or.inl ⟨?h4Pt130x13, ?hyPt130x13⟩) (by assumption) ?restPt130x13
          case hoPt130x13 => (simp only [List.getElem?_toArray, List.getElem?_cons_zero, List.getElem?_cons_succ]; rfl)
          case h1Pt130x13 => kernel_rfl
          case h2Pt130x13 => kernel_rfl
          case h3Pt130x13 => kernel_rfl
          case h4Pt130x13 => rfl
          case hqPt130x13 => exact fun _ _ _ h => h
          case hyPt130x13 => (intro w hSw; (try dsimp only at hSw); go_simp <;> with_reducible rfl)
          (try simp only [Act.put, List.setIfInBounds_toArray, List.set_cons_zero, List.set_cons_succ])
          refine wpAnyH_take (i := 14) (oi := ?oiPt132x14) (v := ?vPt132x14) ?hoPt132x14 ?h1Pt132x14 ?h2Pt132x14 ?h3Pt132x14 ?hqPt132x14 (Or.inl ⟨?h4Pt132x14, ?hyPt132x14⟩) (by assumption) ?restPt132x14
          case hoPt132x14 => (simp only [List.getElem?_toArray, List.getElem?_cons_zero, List.getElem?_cons_succ]; rfl)
          case h1Pt132x14 => kernel_rfl
          case h2Pt132x14 => kernel_rfl
          case h3Pt132x14 => kernel_rfl
          case h4Pt132x14 => rfl
          case hqPt132x14 => exact fun _ _ _ h => h
          case hyPt132x14 => (intro w hSw; (try dsimp only at hSw); go_simp <;> with_reducible rfl)
          (try simp only [Act.put, List.setIfInBounds_toArray, List.set_cons_zero, List.set_cons_succ])
          refine wpAnyH_take (i := 15) (oi := ?oiPt134x15) (v := ?vPt134x15) ?hoPt134x15 ?h1Pt134x15 ?h2Pt134x15 ?h3Pt134x15 ?hqPt134x15 (Or.inl ⟨?h4Pt134x15, ?hyPt134x15⟩) (by assumption) ?restPt134x15
          case hoPt134x15 => (simp only [List.getElem?_toArray, List.getElem?_cons_zero, List.getElem?_cons_succ]; rfl)
          case h1Pt134x15 => kernel_rfl
          case h2Pt134x15 => kernel_rfl
          case h3Pt134x15 => kernel_rfl
          case h4Pt134x15 => rfl
          case hqPt134x15 => exact fun _ _ _ h => h
          case hyPt134x15 => (intro w hSw; (try dsimp only at hSw); go_simp <;> with_reducible rfl)
          (try simp only [Act.put, List.setIfInBounds_toArray, List.set_cons_zero, List.set_cons_succ])
          refine wpAnyH_ready (rs := [16]) (by kernel_rfl) (by simp) ?_
          refine AllReadyH.cons (o := ?oiPq135) ?hoPq135 (fun K hK => ?restPq135) ?morePq135
          case morePq135 => exact AllReadyH.nil
          case hoPq135 => (simp only [List.getElem?_toArray, List.getElem?_cons_zero, List.getElem?_cons_succ]; rfl)
          go_simp
          refine hn1.mono ?_
          rintro e w9 ⟨rfl, rfl⟩
          try go_wp2_with fail
          refine hK.out _ _ ?hSnewPhq135 (fun hHeld => ?restPhq135)
          case hSnewPhq135 => ((try dsimp only); exact ⟨HC6.out _ hB9', hcv9⟩)
          clear hK K
          (try simp only [Act.put, List.setIfInBounds_toArray, List.set_cons_zero, List.set_cons_succ])
          refine wpAnyH_take (i := 17) (oi := ?oiPt137x17) (v := ?vPt137x17) ?hoPt137x17 ?h1Pt137x17 ?h2Pt137x17 ?h3Pt137x17 ?hqPt137x17 (Or.inl ⟨?h4Pt137x17, ?hyPt137x17⟩) (by assumption) ?restPt137x17
          case hoPt137x17 => (simp only [List.getElem?_toArray, List.getElem?_cons_zero, List.getElem?_cons_succ]; rfl)
          case h1Pt137x17 => kernel_rfl
          case h2Pt137x17 => kernel_rfl
          case h3Pt137x17 => kernel_rfl
          case h4Pt137x17 => rfl
          case hqPt137x17 => exact fun _ _ _ h => h
          case hyPt137x17 => (intro w hSw; (try dsimp only at hSw); go_simp <;> with_reducible rfl)
          (try simp only [Act.put, List.setIfInBounds_toArray, List.set_cons_zero, List.set_cons_succ])
          refine wpAnyH_take (i := 18) (oi := ?oiPt139x18) (v := ?vPt139x18) ?hoPt139x18 ?h1Pt139x18 ?h2Pt139x18 ?h3Pt139x18 ?hqPt139x18 (Or.inl ⟨?h4Pt139x18, ?hyPt139x18⟩) (by assumption) ?restPt139x18
          case hoPt139x18 => (simp only [List.getElem?_toArray, List.getElem?_cons_zero, List.getElem?_cons_succ]; rfl)
          case h1Pt139x18 => kernel_rfl
          case h2Pt139x18 => kernel_rfl
          case h3Pt139x18 => kernel_rfl
          case h4Pt139x18 => rfl
          case hqPt139x18 => exact fun _ _ _ h => h
          case hyPt139x18 => (intro w hSw; (try dsimp only at hSw); go_simp <;> with_reducible rfl)
          (try simp only [Act.put, List.setIfInBounds_toArray, List.set_cons_zero, List.set_cons_succ])
          refine wpAnyH_take (i := 19) (oi := ?oiPt141x19) (v := ?vPt141x19) ?hoPt141x19 ?h1Pt141x19 ?h2Pt141x19 ?h3Pt141x19 ?hqPt141x19 (Or.inl ⟨?h4Pt141x19, ?hyPt141x19⟩) (by assumption) ?restPt141x19
          case hoPt141x19 => (simp only [List.getElem?_toArray, List.getElem?_cons_zero, List.getElem?_cons_succ]; rfl)
          case h1Pt141x19 => kernel_rfl
          case h2Pt141x19 => kernel_rfl
          case h3Pt141x19 => kernel_rfl
          case h4Pt141x19 => rfl
          case hqPt141x19 => exact fun _ _ _ h => h
          case hyPt141x19 => (intro w hSw; (try dsimp only at hSw); go_simp <;> with_reducible rfl)
          (try simp only [Act.put, List.setIfInBounds_toArray, List.set_cons_zero, List.set_cons_succ])
          refine wpAnyH_take (i := 20) (oi := ?oiPt143x20) (v := ?vPt143x20) ?hoPt143x20 ?h1Pt143x20 ?h2Pt143x20 ?h3Pt143x20 ?hqPt143x20 (Or.inl ⟨?h4Pt143x20, ?hyPt143x20⟩) (by assumption) ?restPt143x20
          case hoPt143x20 => (simp only [List.getElem?_toArray, List.getElem?_cons_zero, List.getElem?_cons_succ]; rfl)
          case h1Pt143x20 => kernel_rfl
          case h2Pt143x20 => kernel_rfl
          case h3Pt143x20 => kernel_rfl
          case h4Pt143x20 => rfl
          case hqPt143x20 => exact fun _ _ _ h => h
          case hyPt143x20 => (intro w hSw; (try dsimp only at hSw); go_simp <;> with_reducible rfl)
          (try simp only [Act.put, List.setIfInBounds_toArray, List.set_cons_zero, List.set_cons_succ])
          refine wpAnyH_take (i := 22) (oi := ?oiPt145x22) (v := ?vPt145x22) ?hoPt145x22 ?h1Pt145x22 ?h2Pt145x22 ?h3Pt145x22 ?hqPt145x22 (Or.inl ⟨?h4Pt145x22, ?hyPt145x22⟩) (by assumption) ?restPt145x22
          case hoPt145x22 => (simp only [List.getElem?_toArray, List.getElem?_cons_zero, List.getElem?_cons_succ]; rfl)
          case h1Pt145x22 => kernel_rfl
          case h2Pt145x22 => kernel_rfl
          case h3Pt145x22 => kernel_rfl
          case h4Pt145x22 => rfl
          case hqPt145x22 => exact fun _ _ _ h => h
          case hyPt145x22 => (intro w hSw; (try dsimp only at hSw); go_simp <;> with_reducible rfl)
          (try simp only [Act.put, List.setIfInBounds_toArray, List.set_cons_zero, List.set_cons_succ])
          refine wpAnyH_ready (rs := [21]) (by kernel_rfl) (by simp) ?_
          refine AllReadyH.cons (o := ?oiPq146) ?hoPq146 (fun K hK => ?restPq146) ?morePq146
          case morePq146 => exact AllReadyH.nil
          case hoPq146 => (simp only [List.getElem?_toArray, List.getElem?_cons_zero, List.getElem?_cons_succ]; rfl)
          go_simp
          refine hop.mono ?_
          rintro e w9 ⟨rfl, rfl⟩
          try go_wp2_with fail
          refine hK.out _ _ ?hSnewPhq146 (fun hHeld => ?restPhq146)
          case hSnewPhq146 => ((try dsimp only); exact ⟨HC6.out _ hB9', hcv9⟩)
          clear hK K
          (try simp only [Act.put, List.setIfInBounds_toArray, List.set_cons_zero, List.set_cons_succ])
          refine wpAnyH_take (i := 23) (oi := ?oiPt148x23) (v := ?vPt148x23) ?hoPt148x23 ?h1Pt148x23 ?h2Pt148x23 ?h3Pt148x23 ?hqPt148x23 (Or.inl ⟨?h4Pt148x23, ?hyPt148x23⟩) (by assumption) ?restPt148x23
          case hoPt148x23 => (simp only [List.getElem?_toArray, List.getElem?_cons_zero, List.getElem?_cons_succ]; rfl)
          case h1Pt148x23 => kernel_rfl
          case h2Pt148x23 => kernel_rfl
          case h3Pt148x23 => kernel_rfl
          case h4Pt148x23 => rfl
          case hqPt148x23 => exact fun _ _ _ h => h
          case hyPt148x23 => (intro w hSw; (try dsimp only at hSw); go_simp <;> with_reducible rfl)
          (try simp only [Act.put, List.setIfInBounds_toArray, List.set_cons_zero, List.set_cons_succ])
          refine wpAnyH_take (i := 24) (oi := ?oiPt150x24) (v := ?vPt150x24) ?hoPt150x24 ?h1Pt150x24 ?h2Pt150x24 ?h3Pt150x24 ?hqPt150x24 (Or.inl ⟨?h4Pt150x24, ?hyPt150x24⟩) (by assumption) ?restPt150x24
          case hoPt150x24 => (simp only [List.getElem?_toArray, List.getElem?_cons_zero, List.getElem?_cons_succ]; rfl)
          case h1Pt150x24 => kernel_rfl
          case h2Pt150x24 => kernel_rfl
          case h3Pt150x24 => kernel_rfl
          case h4Pt150x24 => rfl
          case hqPt150x24 => exact fun _ _ _ h => h
          case hyPt150x24 => (intro w hSw; (try dsimp only at hSw); go_simp <;> with_reducible rfl)
          (try simp only [Act.put, List.setIfInBounds_toArray, List.set_cons_zero, List.set_cons_succ])
          refine wpAnyH_take (i := 25) (oi := ?oiPt152x25) (v := ?vPt152x25) ?hoPt152x25 ?h1Pt152x25 ?h2Pt152x25 ?h3Pt152x25 ?hqPt152x25 (Or.inl ⟨?h4Pt152x25, ?hyPt152x25⟩) (by assumption) ?restPt152x25
          case hoPt152x25 => (simp only [List.getElem?_toArray, List.getElem?_cons_zero, List.getElem?_cons_succ]; rfl)
          case h1Pt152x25 => kernel_rfl
          case h2Pt152x25 => kernel_rfl
          case h3Pt152x25 => kernel_rfl
          case h4Pt152x25 => rfl
          case hqPt152x25 => exact fun _ _ _ h => h
          case hyPt152x25 => (intro w hSw; (try dsimp only at hSw); go_simp <;> with_reducible rfl)
          (try simp only [Act.put, List.setIfInBounds_toArray, List.set_cons_zero, List.set_cons_succ])
          refine wpAnyH_take (i := 26) (oi := ?oiPt154x26) (v := ?vPt154x26) ?hoPt154x26 ?h1Pt154x26 ?h2Pt154x26 ?h3Pt154x26 ?hqPt154x26 (Or.inl ⟨?h4Pt154x26, ?hyPt154x26⟩) (by assumption) ?restPt154x26
          case hoPt154x26 => (simp only [List.getElem?_toArray, List.getElem?_cons_zero, List.getElem?_cons_succ]; rfl)
          case h1Pt154x26 => kernel_rfl
          case h2Pt154x26 => kernel_rfl
          case h3Pt154x26 => kernel_rfl
          case h4Pt154x26 => rfl
          case hqPt154x26 => exact fun _ _ _ h => h
          case hyPt154x26 => (intro w hSw; (try dsimp only at hSw); go_simp <;> with_reducible rfl)
          (try simp only [Act.put, List.setIfInBounds_toArray, List.set_cons_zero, List.set_cons_succ])
          refine wpAnyH_take (i := 28) (oi := ?oiPt156x28) (v := ?vPt156x28) ?hoPt156x28 ?h1Pt156x28 ?h2Pt156x28 ?h3Pt156x28 ?hqPt156x28 (Or.inl ⟨?h4Pt156x28, ?hyPt156x28⟩) (by assumption) ?restPt156x28
          case hoPt156x28 => (simp only [List.getElem?_toArray, List.getElem?_cons_zero, List.getElem?_cons_succ]; rfl)
          case h1Pt156x28 => kernel_rfl
          case h2Pt156x28 => kernel_rfl
          case h3Pt156x28 => kernel_rfl
          case h4Pt156x28 => rfl
          case hqPt156x28 => exact fun _ _ _ h => h
          case hyPt156x28 => (intro w hSw; (try dsimp only at hSw); go_simp <;> with_reducible rfl)
          (try simp only [Act.put, List.setIfInBounds_toArray, List.set_cons_zero, List.set_cons_succ])
          refine wpAnyH_ready (rs := [27]) (by kernel_rfl) (by simp) ?_
          refine AllReadyH.cons (o := ?oiPq157) ?hoPq157 (fun K hK => ?restPq157) ?morePq157
          case morePq157 => exact AllReadyH.nil
          case hoPq157 => (simp only [List.getElem?_toArray, List.getElem?_cons_zero, List.getElem?_cons_succ]; rfl)
          go_simp
          refine hfe.mono ?_
          rintro e w9 ⟨rfl, rfl⟩
          try go_wp2_with fail
          refine hK.out _ _ ?hSnewPhq157 (fun hHeld => ?restPhq157)
          case hSnewPhq157 => ((try dsimp only); exact ⟨HC6.out _ hB9', hcv9⟩)
          clear hK K
          (try simp only [Act.put, List.setIfInBounds_toArray, List.set_cons_zero, List.set_cons_succ])
          refine wpAnyH_take (i := 29) (oi := ?oiPt159x29) (v := ?vPt159x29) ?hoPt159x29 ?h1Pt159x29 ?h2Pt159x29 ?h3Pt159x29 ?hqPt159x29 (Or.inl ⟨?h4Pt159x29, ?hyPt159x29⟩) (by assumption) ?restPt159x29
          case hoPt159x29 => (simp only [List.getElem?_toArray, List.getElem?_cons_zero, List.getElem?_cons_succ]; rfl)
          case h1Pt159x29 => kernel_rfl
          case h2Pt159x29 => kernel_rfl
          case h3Pt159x29 => kernel_rfl
          case h4Pt159x29 => rfl
          case hqPt159x29 => exact fun _ _ _ h => h
          case hyPt159x29 => (intro w hSw; (try dsimp only at hSw); go_simp <;> with_reducible rfl)
          (try simp only [Act.put, List.setIfInBounds_toArray, List.set_cons_zero, List.set_cons_succ])
          refine wpAnyH_take (i := 30) (oi := ?oiPt161x30) (v := ?vPt161x30) ?hoPt161x30 ?h1Pt161x30 ?h2Pt161x30 ?h3Pt161x30 ?hqPt161x30 (Or.inl ⟨?h4Pt161x30, ?hyPt161x30⟩) (by assumption) ?restPt161x30
          case hoPt161x30 => (simp only [List.getElem?_toArray, List.getElem?_cons_zero, List.getElem?_cons_succ]; rfl)
          case h1Pt161x30 => kernel_rfl
          case h2Pt161x30 => kernel_rfl
          case h3Pt161x30 => kernel_rfl
          case h4Pt161x30 => rfl
          case hqPt161x30 => exact fun _ _ _ h => h
          case hyPt161x30 => (intro w hSw; (try dsimp only at hSw); go_simp <;> with_reducible rfl)
          (try simp only [Act.put, List.setIfInBounds_toArray, List.set_cons_zero, List.set_cons_succ])
          refine wpAnyH_take (i := 31) (oi := ?oiPt163x31) (v := ?vPt163x31) ?hoPt163x31 ?h1Pt163x31 ?h2Pt163x31 ?h3Pt163x31 ?hqPt163x31 (Or.inl ⟨?h4Pt163x31, ?hyPt163x31⟩) (by assumption) ?restPt163x31
          case hoPt163x31 => (simp only [List.getElem?_toArray, List.getElem?_cons_zero, List.getElem?_cons_succ]; rfl)
          case h1Pt163x31 => kernel_rfl
          case h2Pt163x31 => kernel_rfl
          case h3Pt163x31 => kernel_rfl
          case h4Pt163x31 => rfl
          case hqPt163x31 => exact fun _ _ _ h => h
          case hyPt163x31 => (intro w hSw; (try dsimp only at hSw); go_simp <;> with_reducible rfl)
          (try simp only [Act.put, List.setIfInBounds_toArray, List.set_cons_zero, List.set_cons_succ])
          refine wpAnyH_done (by kernel_rfl) ?_ _
          
          have hfin := hid (h9.bel)
          clear hcv9 hB9' HC6 HA h9 hn0 hn1 hop hfe
          go_wp2
          go_ret
          exact ⟨rfl, hfin.out⟩
end Go.Proofs.Ytineicehipgnjaa.Nand
