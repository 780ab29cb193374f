import Derived.Test.YtmehebjkdmpigaaMailRef
import Derived.BigRegion
set_option linter.unusedVariables false
set_option linter.unusedSimpArgs false
namespace Go.Proofs.Ytmehebjkdmpigaa.Mail
open Go.RowKit Go.Proofs.Ytmehebjkdmpigaa.Kit Go.Proofs.Ytmehebjkdmpigaa.Oct

theorem dcode_ne' (xs : List Int) : dcode xs ≠ 0 := by
  unfold dcode
  split
  · decide
  · assumption
theorem rtold_yes {xs : List Int} {v : Value} {c : Int} {k f x : Nat} (hk : k < 3) (hf : f ≤ 1) (hx : x < 281474976710656) (h1 : k = 1 → x = 0) (he : xs = msg k f x) (h : RTold xs v c) : v = .agg #[.int .i64 ((k + 1 : Nat) : Int), .int .i64 (f : Int), .int .u64 (x : Int)] ∧ c = 0 := by
  rcases h with ⟨k', f', x', rfl, rfl, hk', hf', hx', h1', he'⟩ | ⟨_, _, hno⟩
  · obtain ⟨rfl, rfl, rfl⟩ := msg_inj hk hf hx hk' hf' hx' (he.symm.trans he')
    exact ⟨rfl, rfl⟩
  · exact absurd ⟨k, f, x, hk, hf, hx, h1, he⟩ hno
theorem rtold_none {xs : List Int} {v : Value} {c : Int} (hno : ¬ IsMsg xs) (h : RTold xs v c) : v = .agg #[.int .i64 0, .int .i64 0, .int .u64 0] ∧ c = dcode xs := by
  rcases h with ⟨k', f', x', rfl, rfl, hk', hf', hx', h1', he'⟩ | ⟨h1, h2, _⟩
  · exact absurd ⟨k', f', x', hk', hf', hx', h1', he'⟩ hno
  · exact ⟨h1, h2⟩
theorem own_free' {w : World} {base n c g : Nat} {e : TypeId} {xs : List Value} (h : w.ownsRow base e 1 (.slice (some ⟨g, 0, none⟩) n c) n xs) : base ≤ g ∧ ∀ i, w.frozen? ⟨g, i, none⟩ = false := by
  rcases h.2 with ⟨e1, _⟩ | ⟨g', cap, cur, e1, hg, hh, _⟩
  · cases e1
  · injection e1 with e1 _ e2
    injection e1 with e1
    injection e1 with e1
    subst e1
    exact ⟨hg, fun i => by simp [World.frozen?, hh]⟩

set_option maxRecDepth 1000000 in
set_option maxHeartbeats 8000000 in
theorem law_decodes (A : Option Addr) (n c : Nat) (xs : List Int) (sl : Bool) (w : World) (hz : n ≤ c ∧ Nums w .u8 A n xs) :
    Calls Try.prog 8 #[.slice A n c, .bool sl] w fun e w' => e = .returned (.bool true) ∧ Below w.heap.size w w' := by
  obtain ⟨hnc, hz⟩ := hz
  have hn := hz.most
  have hlen := hz.len
  have hxB := isB_of hz
  have Hlen := hid hlen
  clear hlen
  go_enter Try.func8, Try.ntmps8
  go_wp2_with fail
  refine (awake_any w).mono ?_
  rintro e w1 ⟨rfl, hB1⟩
  by_cases h100 : 100 < n
  · go_wp2_with fail
    refine (awake_any w1).mono ?_
    rintro e w2 ⟨rfl, hB2⟩
    go_wp2
    go_ret
    exact ⟨rfl, hB1.trans (hB2.mono hB1.size)⟩
  · have hz1 := hz.below hB1
    clear hz
    cases sl
    · go_wp2_with fail
      refine (decode_any A n c xs w1 hz1 hnc (by omega)).mono ?_
      rintro e w6 ⟨v6, k6, rfl, ht, hB6⟩
      have hBq := Below.trans hB1 (hB6.mono (Below.size hB1))
      have hq6 := Nums.below hz1 hB6
      rcases ht with ⟨k, f, x, E, rfl, rfl, hk, hf, hx, hep, h1, hE, he⟩ | ⟨rfl, hk6, hno⟩
      · have hrd := fun v c h => rtold_yes (v := v) (c := c) hk hf hx h1 he h
        have HRD := hid hrd
        have EN := fun W => encode_any k f x E W hk hf hep hx
        have RE := fun W => rencode_any k f x W hk hf hx
        have hfm := fun W => from_any k (f : Int) E W
        have hmB := msg_isB k f x
        have hml := msg_len k f x
        generalize msg k f x = ms at *
        generalize mv k (f : Int) E = mm at *
        obtain ⟨kk, hkk⟩ : ∃ kk, kk = k + 1 := ⟨_, rfl⟩
        rw [← hkk] at RE HRD
        clear hrd hep h1 hE hk hx hkk
        go_wp2_with fail
        refine (rdecode_any A n c xs w6 hq6 hnc (by omega)).mono ?_
        rintro e w7 ⟨v7, k7, rfl, hrt, hB7⟩
        obtain ⟨rfl, rfl⟩ := HRD.out _ _ hrt
        clear hrt hq6 hB6 HRD he
        go_upto_region 12 with (fail)
        obtain ⟨g9, hg9⟩ : ∃ g, w7.heap.size = g := ⟨_, rfl⟩
        rw [hg9]
        obtain ⟨w9, hw⟩ : ∃ W, W = w7.alloc (.cells #[.int .i64 (kk : Int), .int .i64 (f : Int), .int .u64 (x : Int)] 55) := ⟨_, rfl⟩
        have hb9 : Blk w9 g9 #[.int .i64 (kk : Int), .int .i64 (f : Int), .int .u64 (x : Int)] 55 := by rw [hw, ← hg9]; exact Blk.new _ _ _
        have hB79 : Below w6.heap.size w6 w9 := by rw [hw]; exact hB7.alloc hB7.size _
        rw [← hw]
        clear hw hg9 hB7
        have hB9 := hBq.trans (hB79.mono hBq.size)
        clear hBq hB79
        go_wp2_with fail
        refine (EN w9).mono ?_
        rintro e wa ⟨va, rfl, hoa, hBa⟩
        obtain ⟨P1, q1, ea, hqa, hpa⟩ := hoa.reads hmB
        rw [hml] at ea hqa hpa
        subst ea
        have hba := hb9.later hBa
        have HB := hid (hB9.trans (hBa.mono hB9.size))
        have HS := hid (fun W (h : Below wa.heap.size wa W) => (⟨(hba.later h).three.1, conv_str (c := q1) (hpa.below h)⟩ : _ ∧ _))
        have hBd : Below wa.heap.size wa (wa.drewN 1) := below_drewN (Below.refl _ _) 1
        have hse := str_eq_true (show ms = ms from rfl)
        clear EN hoa hBa hb9 hba hpa hB9
        go_upto_region 17 with (fail)
        refine wp_region_held_drew (S := (fun w' => (w'.cell? ⟨g9, 0, none⟩ = some (.int .i64 (kk : Int)) ∧ w'.cell? ⟨g9, 1, none⟩ = some (.int .i64 (f : Int)) ∧ w'.cell? ⟨g9, 2, none⟩ = some (.int .u64 (x : Int))) ∧ (convert 23 9 (.slice P1 12 q1)).run Try.prog w' = .ok (.string (strOfNums ms)) w')) (by kernel_rfl) ?hSnewAz (fun hHeld => ?restAz)
        case hSnewAz => ((try dsimp only); exact HS.out _ hBd)
        refine wpAnyH_take (i := 0) (oi := ?oiAx0) (v := ?vAx0) ?hoAx0 ?h1Ax0 ?h2Ax0 ?h3Ax0 ?hqAx0 (Or.inl ⟨?h4Ax0, ?hyAx0⟩) (by assumption) ?restAx0
        case hoAx0 => (simp only [List.getElem?_toArray, List.getElem?_cons_zero, List.getElem?_cons_succ]; rfl)
        case h1Ax0 => kernel_rfl
        case h2Ax0 => kernel_rfl
        case h3Ax0 => kernel_rfl
        case h4Ax0 => rfl
        case hqAx0 => exact fun _ _ _ h => h
        case hyAx0 => (intro w hSw; (try dsimp only at hSw); go_simp <;> with_reducible rfl)
        (try simp only [Act.put, List.setIfInBounds_toArray, List.set_cons_zero, List.set_cons_succ])
        refine wpAnyH_take (i := 1) (oi := ?oiAx1) (v := ?vAx1) ?hoAx1 ?h1Ax1 ?h2Ax1 ?h3Ax1 ?hqAx1 (Or.inl ⟨?h4Ax1, ?hyAx1⟩) (by assumption) ?restAx1
        case hoAx1 => (simp only [List.getElem?_toArray, List.getElem?_cons_zero, List.getElem?_cons_succ]; rfl)
        case h1Ax1 => kernel_rfl
        case h2Ax1 => kernel_rfl
        case h3Ax1 => kernel_rfl
        case h4Ax1 => rfl
        case hqAx1 => exact fun _ _ _ h => h
        case hyAx1 => (intro w hSw; (try dsimp only at hSw); go_simp <;> with_reducible rfl)
        (try simp only [Act.put, List.setIfInBounds_toArray, List.set_cons_zero, List.set_cons_succ])
        refine wpAnyH_take (i := 2) (oi := ?oiAx2) (v := ?vAx2) ?hoAx2 ?h1Ax2 ?h2Ax2 ?h3Ax2 ?hqAx2 (Or.inl ⟨?h4Ax2, ?hyAx2⟩) (by assumption) ?restAx2
        case hoAx2 => (simp only [List.getElem?_toArray, List.getElem?_cons_zero, List.getElem?_cons_succ]; rfl)
        case h1Ax2 => kernel_rfl
        case h2Ax2 => kernel_rfl
        case h3Ax2 => kernel_rfl
        case h4Ax2 => rfl
        case hqAx2 => exact fun _ _ _ h => h
        case hyAx2 => (intro w hSw; (try dsimp only at hSw); go_simp <;> with_reducible rfl)
        (try simp only [Act.put, List.setIfInBounds_toArray, List.set_cons_zero, List.set_cons_succ])
        refine wpAnyH_take (i := 3) (oi := ?oiAx3) (v := ?vAx3) ?hoAx3 ?h1Ax3 ?h2Ax3 ?h3Ax3 ?hqAx3 (Or.inl ⟨?h4Ax3, ?hyAx3⟩) (by assumption) ?restAx3
        case hoAx3 => (simp only [List.getElem?_toArray, List.getElem?_cons_zero, List.getElem?_cons_succ]; rfl)
        case h1Ax3 => kernel_rfl
        case h2Ax3 => kernel_rfl
        case h3Ax3 => kernel_rfl
        case h4Ax3 => rfl
        case hqAx3 => exact fun _ _ _ h => h
        case hyAx3 => (intro w hSw; (try dsimp only at hSw); go_simp <;> with_reducible rfl)
        (try simp only [Act.put, List.setIfInBounds_toArray, List.set_cons_zero, List.set_cons_succ])
        refine wpAnyH_take (i := 4) (oi := ?oiAx4) (v := ?vAx4) ?hoAx4 ?h1Ax4 ?h2Ax4 ?h3Ax4 ?hqAx4 (Or.inl ⟨?h4Ax4, ?hyAx4⟩) (by assumption) ?restAx4
        case hoAx4 => (simp only [List.getElem?_toArray, List.getElem?_cons_zero, List.getElem?_cons_succ]; rfl)
        case h1Ax4 => kernel_rfl
        case h2Ax4 => kernel_rfl
        case h3Ax4 => kernel_rfl
        case h4Ax4 => rfl
        case hqAx4 => exact fun _ _ _ h => h
        case hyAx4 => (intro w hSw; (try dsimp only at hSw); go_simp <;> with_reducible rfl)
        (try simp only [Act.put, List.setIfInBounds_toArray, List.set_cons_zero, List.set_cons_succ])
        refine wpAnyH_take (i := 5) (oi := ?oiAx5) (v := ?vAx5) ?hoAx5 ?h1Ax5 ?h2Ax5 ?h3Ax5 ?hqAx5 (Or.inl ⟨?h4Ax5, ?hyAx5⟩) (by assumption) ?restAx5
        case hoAx5 => (simp only [List.getElem?_toArray, List.getElem?_cons_zero, List.getElem?_cons_succ]; rfl)
        case h1Ax5 => kernel_rfl
        case h2Ax5 => kernel_rfl
        case h3Ax5 => kernel_rfl
        case h4Ax5 => rfl
        case hqAx5 => exact fun _ _ _ h => h
        case hyAx5 => (intro w hSw; (try dsimp only at hSw); go_simp <;> with_reducible rfl)
        (try simp only [Act.put, List.setIfInBounds_toArray, List.set_cons_zero, List.set_cons_succ])
        refine wpAnyH_ready (rs := [6]) (by kernel_rfl) (by simp) ?_
        refine AllReadyH.cons (o := ?oiAx6) ?hoAx6 (fun K hK => ?restAx6) ?moreAx6
        case moreAx6 => exact AllReadyH.nil
        case hoAx6 => (simp only [List.getElem?_toArray, List.getElem?_cons_zero, List.getElem?_cons_succ]; rfl)
        go_simp
        refine (RE _).mono ?_
        rintro e wb ⟨vb, rfl, hob, hBb'⟩
        obtain ⟨P2, q2, eb, hqb, hpb⟩ := hob.reads hmB
        rw [hml] at eb hqb hpb
        subst eb
        have hBb := hBd.trans hBb'
        have HC2 := hid (fun W (h : Below wb.heap.size wb W) => (⟨HS.out W (hBb.trans (h.mono hBb.size)), conv_str (c := q2) (hpb.below h)⟩ : _ ∧ _))
        try go_wp2_with fail
        refine hK.out _ _ ?hSnewAy6 (fun hHeld => ?restAy6)
        case hSnewAy6 => ((try dsimp only); exact HS.out _ hBb)
        clear hK K
        (try simp only [Act.put, List.setIfInBounds_toArray, List.set_cons_zero, List.set_cons_succ])
        refine held_switch (fun w' => ((w'.cell? ⟨g9, 0, none⟩ = some (.int .i64 (kk : Int)) ∧ w'.cell? ⟨g9, 1, none⟩ = some (.int .i64 (f : Int)) ∧ w'.cell? ⟨g9, 2, none⟩ = some (.int .u64 (x : Int))) ∧ (convert 23 9 (.slice P1 12 q1)).run Try.prog w' = .ok (.string (strOfNums ms)) w') ∧ (convert 23 9 (.slice P2 12 q2)).run Try.prog w' = .ok (.string (strOfNums ms)) w') (fun w h => h.1) ?hSnewAsa (fun hHeld => ?restAsa)
        case hSnewAsa => ((try dsimp only); exact HC2.out _ (Below.refl _ _))
        refine wpAnyH_take (i := 7) (oi := ?oiAx7) (v := ?vAx7) ?hoAx7 ?h1Ax7 ?h2Ax7 ?h3Ax7 ?hqAx7 (Or.inl ⟨?h4Ax7, ?hyAx7⟩) (by assumption) ?restAx7
        case hoAx7 => (simp only [List.getElem?_toArray, List.getElem?_cons_zero, List.getElem?_cons_succ]; rfl)
        case h1Ax7 => kernel_rfl
        case h2Ax7 => kernel_rfl
        case h3Ax7 => kernel_rfl
        case h4Ax7 => rfl
        case hqAx7 => exact fun _ _ _ h => h
        case hyAx7 => (intro w hSw; (try dsimp only at hSw); go_simp <;> with_reducible rfl)
        (try simp only [Act.put, List.setIfInBounds_toArray, List.set_cons_zero, List.set_cons_succ])
        refine wpAnyH_take (i := 8) (oi := ?oiAx8) (v := ?vAx8) ?hoAx8 ?h1Ax8 ?h2Ax8 ?h3Ax8 ?hqAx8 (Or.inl ⟨?h4Ax8, ?hyAx8⟩) (by assumption) ?restAx8
        case hoAx8 => (simp only [List.getElem?_toArray, List.getElem?_cons_zero, List.getElem?_cons_succ]; rfl)
        case h1Ax8 => kernel_rfl
        case h2Ax8 => kernel_rfl
        case h3Ax8 => kernel_rfl
        case h4Ax8 => rfl
        case hqAx8 => exact fun _ _ _ h => h
        case hyAx8 => (intro w hSw; (try dsimp only at hSw); go_simp <;> with_reducible rfl)
        (try simp only [Act.put, List.setIfInBounds_toArray, List.set_cons_zero, List.set_cons_succ])
        refine wpAnyH_take (i := 9) (oi := ?oiAx9) (v := ?vAx9) ?hoAx9 ?h1Ax9 ?h2Ax9 ?h3Ax9 ?hqAx9 (Or.inl ⟨?h4Ax9, ?hyAx9⟩) (by assumption) ?restAx9
        case hoAx9 => (simp only [List.getElem?_toArray, List.getElem?_cons_zero, List.getElem?_cons_succ]; rfl)
        case h1Ax9 => kernel_rfl
        case h2Ax9 => kernel_rfl
        case h3Ax9 => kernel_rfl
        case h4Ax9 => rfl
        case hqAx9 => exact fun _ _ _ h => h
        case hyAx9 => (intro w hSw; (try dsimp only at hSw); go_simp <;> with_reducible rfl)
        (try simp only [Act.put, List.setIfInBounds_toArray, List.set_cons_zero, List.set_cons_succ])
        refine wpAnyH_take (i := 10) (oi := ?oiAx10) (v := ?vAx10) ?hoAx10 ?h1Ax10 ?h2Ax10 ?h3Ax10 ?hqAx10 (Or.inl ⟨?h4Ax10, ?hyAx10⟩) (by assumption) ?restAx10
        case hoAx10 => (simp only [List.getElem?_toArray, List.getElem?_cons_zero, List.getElem?_cons_succ]; rfl)
        case h1Ax10 => kernel_rfl
        case h2Ax10 => kernel_rfl
        case h3Ax10 => kernel_rfl
        case h4Ax10 => rfl
        case hqAx10 => exact fun _ _ _ h => h
        case hyAx10 => (intro w hSw; (try dsimp only at hSw); go_simp <;> with_reducible rfl)
        (try simp only [Act.put, List.setIfInBounds_toArray, List.set_cons_zero, List.set_cons_succ])
        refine wpAnyH_take (i := 11) (oi := ?oiAx11) (v := ?vAx11) ?hoAx11 ?h1Ax11 ?h2Ax11 ?h3Ax11 ?hqAx11 (Or.inl ⟨?h4Ax11, ?hyAx11⟩) (by assumption) ?restAx11
        case hoAx11 => (simp only [List.getElem?_toArray, List.getElem?_cons_zero, List.getElem?_cons_succ]; rfl)
        case h1Ax11 => kernel_rfl
        case h2Ax11 => kernel_rfl
        case h3Ax11 => kernel_rfl
        case h4Ax11 => rfl
        case hqAx11 => exact fun _ _ _ h => h
        case hyAx11 => (intro w hSw; (try dsimp only at hSw); go_simp <;> with_reducible rfl)
        (try simp only [Act.put, List.setIfInBounds_toArray, List.set_cons_zero, List.set_cons_succ])
        refine wpAnyH_take (i := 13) (oi := ?oiAx13) (v := ?vAx13) ?hoAx13 ?h1Ax13 ?h2Ax13 ?h3Ax13 ?hqAx13 (Or.inl ⟨?h4Ax13, ?hyAx13⟩) (by assumption) ?restAx13
        case hoAx13 => (simp only [List.getElem?_toArray, List.getElem?_cons_zero, List.getElem?_cons_succ]; rfl)
        case h1Ax13 => kernel_rfl
        case h2Ax13 => kernel_rfl
        case h3Ax13 => kernel_rfl
        case h4Ax13 => rfl
        case hqAx13 => exact fun _ _ _ h => h
        case hyAx13 => (intro w hSw; (try dsimp only at hSw); go_simp <;> with_reducible rfl)
        (try simp only [Act.put, List.setIfInBounds_toArray, List.set_cons_zero, List.set_cons_succ])
        refine wpAnyH_take (i := 14) (oi := ?oiAx14) (v := ?vAx14) ?hoAx14 ?h1Ax14 ?h2Ax14 ?h3Ax14 ?hqAx14 (Or.inl ⟨?h4Ax14, ?hyAx14⟩) (by assumption) ?restAx14
        case hoAx14 => (simp only [List.getElem?_toArray, List.getElem?_cons_zero, List.getElem?_cons_succ]; rfl)
        case h1Ax14 => kernel_rfl
        case h2Ax14 => kernel_rfl
        case h3Ax14 => kernel_rfl
        case h4Ax14 => rfl
        case hqAx14 => exact fun _ _ _ h => h
        case hyAx14 => (intro w hSw; (try dsimp only at hSw); go_simp <;> with_reducible rfl)
        (try simp only [Act.put, List.setIfInBounds_toArray, List.set_cons_zero, List.set_cons_succ])
        refine wpAnyH_ready (rs := [12]) (by kernel_rfl) (by simp) ?_
        refine AllReadyH.cons (o := ?oiAx12) ?hoAx12 (fun K hK => ?restAx12) ?moreAx12
        case moreAx12 => exact AllReadyH.nil
        case hoAx12 => (simp only [List.getElem?_toArray, List.getElem?_cons_zero, List.getElem?_cons_succ]; rfl)
        go_simp
        refine (hfm _).mono ?_
        rintro e wc ⟨rfl, hBc'⟩
        try go_wp2_with fail
        refine hK.out _ _ ?hSnewAy12 (fun hHeld => ?restAy12)
        case hSnewAy12 => ((try dsimp only); exact HC2.out _ hBc')
        clear hK K
        (try simp only [Act.put, List.setIfInBounds_toArray, List.set_cons_zero, List.set_cons_succ])
        refine wpAnyH_take (i := 15) (oi := ?oiAx15) (v := ?vAx15) ?hoAx15 ?h1Ax15 ?h2Ax15 ?h3Ax15 ?hqAx15 (Or.inl ⟨?h4Ax15, ?hyAx15⟩) (by assumption) ?restAx15
        case hoAx15 => (simp only [List.getElem?_toArray, List.getElem?_cons_zero, List.getElem?_cons_succ]; rfl)
        case h1Ax15 => kernel_rfl
        case h2Ax15 => kernel_rfl
        case h3Ax15 => kernel_rfl
        case h4Ax15 => rfl
        case hqAx15 => exact fun _ _ _ h => h
        case hyAx15 => (intro w hSw; (try dsimp only at hSw); go_simp <;> with_reducible rfl)
        (try simp only [Act.put, List.setIfInBounds_toArray, List.set_cons_zero, List.set_cons_succ])
        refine wpAnyH_take (i := 16) (oi := ?oiAx16) (v := ?vAx16) ?hoAx16 ?h1Ax16 ?h2Ax16 ?h3Ax16 ?hqAx16 (Or.inl ⟨?h4Ax16, ?hyAx16⟩) (by assumption) ?restAx16
        case hoAx16 => (simp only [List.getElem?_toArray, List.getElem?_cons_zero, List.getElem?_cons_succ]; rfl)
        case h1Ax16 => kernel_rfl
        case h2Ax16 => kernel_rfl
        case h3Ax16 => kernel_rfl
        case h4Ax16 => rfl
        case hqAx16 => exact fun _ _ _ h => h
        case hyAx16 => (intro w hSw; (try dsimp only at hSw); go_simp <;> with_reducible rfl)
        (try simp only [Act.put, List.setIfInBounds_toArray, List.set_cons_zero, List.set_cons_succ])
        refine wpAnyH_take (i := 17) (oi := ?oiAx17) (v := ?vAx17) ?hoAx17 ?h1Ax17 ?h2Ax17 ?h3Ax17 ?hqAx17 (Or.inl ⟨?h4Ax17, ?hyAx17⟩) (by assumption) ?restAx17
        case hoAx17 => (simp only [List.getElem?_toArray, List.getElem?_cons_zero, List.getElem?_cons_succ]; rfl)
        case h1Ax17 => kernel_rfl
        case h2Ax17 => kernel_rfl
        case h3Ax17 => kernel_rfl
        case h4Ax17 => rfl
        case hqAx17 => exact fun _ _ _ h => h
        case hyAx17 => (intro w hSw; (try dsimp only at hSw); go_simp <;> with_reducible rfl)
        (try simp only [Act.put, List.setIfInBounds_toArray, List.set_cons_zero, List.set_cons_succ])
        refine wpAnyH_done (by kernel_rfl) ?_ _
        have hB14 := hBb.trans (hBc'.mono hBb.size)
        go_wp2
        go_ret
        exact ⟨rfl, HB.out.trans (hB14.mono HB.out.size)⟩
      · have hdn := dcode_ne' xs
        rw [← hk6] at hdn
        have hrd := fun v c h => rtold_none (v := v) (c := c) hno h
        have HRD := hid hrd
        have Hk6 := hid hk6
        clear hrd hk6 hno
        go_wp2_with fail
        refine (rdecode_any A n c xs w6 hq6 hnc (by omega)).mono ?_
        rintro e w7 ⟨v7, k7, rfl, hrt, hB7⟩
        obtain ⟨rfl, hk7⟩ := HRD.out _ _ hrt
        obtain rfl : k6 = k7 := Hk6.out.trans hk7.symm
        have hne : (k6 != 0) = true := by simp [hdn]
        have hne2 : (k6 != k6) = false := by simp
        have hB9 := hBq.trans (hB7.mono hBq.size)
        clear hrt hq6 hB6 hB7 hk7 Hk6 hdn hBq
        go_upto_region 12 with (fail)
        have hB10 := hB9.alloc hB9.size (.cells #[.int .i64 0, .int .i64 0, .int .u64 0] 55)
        go_wp2
        go_ret
        exact ⟨rfl, hB10⟩
    · go_wp2_with fail
      refine (rencode_any 0 0 0 w1 (by decide) (by decide) (by decide)).mono ?_
      rintro e w2 ⟨v2, rfl, ho2, hB2⟩
      have hml0 := msg_len 0 0 0
      have hmB0 := msg_isB 0 0 0
      generalize msg 0 0 0 = m0 at *
      obtain ⟨g, cp, rfl, hgw, hgl, hcp, -⟩ := own_some ho2 (by omega)
      have hrow : w2.ownsRow w1.heap.size 5 1 (.slice (some ⟨g, 0, none⟩) 12 cp) 12 (m0.map (Value.int .u8)) := by
        have := ho2
        unfold OwnB at this
        rw [hml0] at this
        exact this
      rw [hml0] at hcp ⊢
      have Hz1 := hid hz1
      clear ho2 hgl hz1
      go_wp2
      go_loopw [6] (fun x w' => ∃ (i : Nat) (ys : List Int), x = .int .i64 (i : Int) ∧ i ≤ n ∧ i ≤ 8 ∧ ys.length = 12 ∧ IsB ys ∧ w'.ownsRow w1.heap.size 5 1 (.slice (some ⟨g, 0, none⟩) 12 cp) 12 (ys.map (Value.int .u8)) ∧ Below w1.heap.size w1 w') (fun x _ => 8 - (intOf x).toNat)
      case atStart => exact ⟨0, m0, rfl, by omega, by omega, hml0, hmB0, hrow, hB2⟩
      case round =>
        clear hrow hB2
        obtain ⟨i, ys, rfl, hin, hi8, hyl, hyB, hrow, hBi⟩ := hrel
        by_cases hlt : i < n ∧ i < 8
        · obtain ⟨hl1, hl2⟩ := hlt
          obtain ⟨bz, oz, rfl, hc⟩ := (Hz1.out.below hBi).at_ i hl1
          obtain ⟨hx0, hx1⟩ := wf_u8 (Hz1.out.wf_at i hl1)
          generalize xs.getD i 0 = x at *
          have hcell := own_at hrow (wf_of hyB) i (by omega)
          rw [Nat.zero_add] at hcell
          have hfr := (own_free' hrow).2 i
          have hrow2 := own_set hrow i (.int .u8 x)
          have hB2 := below_set hBi hgw i (.int .u8 x)
          rw [← List.map_set] at hrow2
          have Hrow2 := hid hrow2
          have HB2' := hid hB2
          clear hrow2 hB2 hrow hBi
          have hi0 : (0 : Int) ≤ (i : Int) := by omega
          have hi12 : (i : Int) < 12 := by omega
          have hin' : (i : Int) < (n : Int) := by omega
          go_wp2
          go_roundw
          case rel =>
            refine ⟨i + 1, ys.set i x, by go_num, by omega, by omega, by rw [List.length_set]; exact hyl, ?_, Hrow2.out, HB2'.out⟩
            intro y hy
            rcases List.mem_or_eq_of_mem_set hy with h | h
            · exact hyB y h
            · omega
          case measure => simp [intOf]; omega
        · have hz3 := (own_reads hrow (wf_of hyB)).2
          have hB3 := hB1.trans (hBi.mono hB1.size)
          clear hrow hBi
          by_cases hl1 : i < n
          · have hl2 : ¬ i < 8 := fun h => hlt ⟨hl1, h⟩
            obtain rfl : i = 8 := by omega
            have hin' : (8 : Int) < (n : Int) := by omega
            clear hlt
            go_wp2_with fail
            refine (decode_any (some ⟨g, 0, none⟩) 12 cp ys _ hz3 hcp (by omega)).mono ?_
            rintro e w6 ⟨v6, k6, rfl, ht, hB6⟩
            have hBq := Below.trans hB3 (hB6.mono (Below.size hB3))
            have hq6 := Nums.below hz3 hB6
            rcases ht with ⟨k, f, x, E, rfl, rfl, hk, hf, hx, hep, h1, hE, he⟩ | ⟨rfl, hk6, hno⟩
            · have hrd := fun v c h => rtold_yes (v := v) (c := c) hk hf hx h1 he h
              have HRD := hid hrd
              have EN := fun W => encode_any k f x E W hk hf hep hx
              have RE := fun W => rencode_any k f x W hk hf hx
              have hfm := fun W => from_any k (f : Int) E W
              have hmB := msg_isB k f x
              have hml := msg_len k f x
              generalize msg k f x = ms at *
              generalize mv k (f : Int) E = mm at *
              obtain ⟨kk, hkk⟩ : ∃ kk, kk = k + 1 := ⟨_, rfl⟩
              rw [← hkk] at RE HRD
              clear hrd hep h1 hE hk hx hkk
              go_wp2_with fail
              refine (rdecode_any (some ⟨g, 0, none⟩) 12 cp ys w6 hq6 hcp (by omega)).mono ?_
              rintro e w7 ⟨v7, k7, rfl, hrt, hB7⟩
              obtain ⟨rfl, rfl⟩ := HRD.out _ _ hrt
              clear hrt hq6 hB6 HRD he
              go_upto_region 12 with (fail)
              obtain ⟨g9, hg9⟩ : ∃ g, w7.heap.size = g := ⟨_, rfl⟩
              rw [hg9]
              obtain ⟨w9, hw⟩ : ∃ W, W = w7.alloc (.cells #[.int .i64 (kk : Int), .int .i64 (f : Int), .int .u64 (x : Int)] 55) := ⟨_, rfl⟩
              have hb9 : Blk w9 g9 #[.int .i64 (kk : Int), .int .i64 (f : Int), .int .u64 (x : Int)] 55 := by rw [hw, ← hg9]; exact Blk.new _ _ _
              have hB79 : Below w6.heap.size w6 w9 := by rw [hw]; exact hB7.alloc hB7.size _
              rw [← hw]
              clear hw hg9 hB7
              have hB9 := hBq.trans (hB79.mono hBq.size)
              clear hBq hB79
              go_wp2_with fail
              refine (EN w9).mono ?_
              rintro e wa ⟨va, rfl, hoa, hBa⟩
              obtain ⟨P1, q1, ea, hqa, hpa⟩ := hoa.reads hmB
              rw [hml] at ea hqa hpa
              subst ea
              have hba := hb9.later hBa
              have HB := hid (hB9.trans (hBa.mono hB9.size))
              have HS := hid (fun W (h : Below wa.heap.size wa W) => (⟨(hba.later h).three.1, conv_str (c := q1) (hpa.below h)⟩ : _ ∧ _))
              have hBd : Below wa.heap.size wa (wa.drewN 1) := below_drewN (Below.refl _ _) 1
              have hse := str_eq_true (show ms = ms from rfl)
              clear EN hoa hBa hb9 hba hpa hB9
              go_upto_region 17 with (fail)
              refine wp_region_held_drew (S := (fun w' => (w'.cell? ⟨g9, 0, none⟩ = some (.int .i64 (kk : Int)) ∧ w'.cell? ⟨g9, 1, none⟩ = some (.int .i64 (f : Int)) ∧ w'.cell? ⟨g9, 2, none⟩ = some (.int .u64 (x : Int))) ∧ (convert 23 9 (.slice P1 12 q1)).run Try.prog w' = .ok (.string (strOfNums ms)) w')) (by kernel_rfl) ?hSnewBz (fun hHeld => ?restBz)
              case hSnewBz => ((try dsimp only); exact HS.out _ hBd)
              refine wpAnyH_take (i := 0) (oi := ?oiBx0) (v := ?vBx0) ?hoBx0 ?h1Bx0 ?h2Bx0 ?h3Bx0 ?hqBx0 (Or.inl ⟨?h4Bx0, ?hyBx0⟩) (by assumption) ?restBx0
              case hoBx0 => (simp only [List.getElem?_toArray, List.getElem?_cons_zero, List.getElem?_cons_succ]; rfl)
              case h1Bx0 => kernel_rfl
              case h2Bx0 => kernel_rfl
              case h3Bx0 => kernel_rfl
              case h4Bx0 => rfl
              case hqBx0 => exact fun _ _ _ h => h
              case hyBx0 => (intro w hSw; (try dsimp only at hSw); go_simp <;> with_reducible rfl)
              (try simp only [Act.put, List.setIfInBounds_toArray, List.set_cons_zero, List.set_cons_succ])
              refine wpAnyH_take (i := 1) (oi := ?oiBx1) (v := ?vBx1) ?hoBx1 ?h1Bx1 ?h2Bx1 ?h3Bx1 ?hqBx1 (Or.inl ⟨?h4Bx1, ?hyBx1⟩) (by assumption) ?restBx1
              case hoBx1 => (simp only [List.getElem?_toArray, List.getElem?_cons_zero, List.getElem?_cons_succ]; rfl)
              case h1Bx1 => kernel_rfl
              case h2Bx1 => kernel_rfl
              case h3Bx1 => kernel_rfl
              case h4Bx1 => rfl
              case hqBx1 => exact fun _ _ _ h => h
              case hyBx1 => (intro w hSw; (try dsimp only at hSw); go_simp <;> with_reducible rfl)
              (try simp only [Act.put, List.setIfInBounds_toArray, List.set_cons_zero, List.set_cons_succ])
              refine wpAnyH_take (i := 2) (oi := ?oiBx2) (v := ?vBx2) ?hoBx2 ?h1Bx2 ?h2Bx2 ?h3Bx2 ?hqBx2 (Or.inl ⟨?h4Bx2, ?hyBx2⟩) (by assumption) ?restBx2
              case hoBx2 => (simp only [List.getElem?_toArray, List.getElem?_cons_zero, List.getElem?_cons_succ]; rfl)
              case h1Bx2 => kernel_rfl
              case h2Bx2 => kernel_rfl
              case h3Bx2 => kernel_rfl
              case h4Bx2 => rfl
              case hqBx2 => exact fun _ _ _ h => h
              case hyBx2 => (intro w hSw; (try dsimp only at hSw); go_simp <;> with_reducible rfl)
              (try simp only [Act.put, List.setIfInBounds_toArray, List.set_cons_zero, List.set_cons_succ])
              refine wpAnyH_take (i := 3) (oi := ?oiBx3) (v := ?vBx3) ?hoBx3 ?h1Bx3 ?h2Bx3 ?h3Bx3 ?hqBx3 (Or.inl ⟨?h4Bx3, ?hyBx3⟩) (by assumption) ?restBx3
              case hoBx3 => (simp only [List.getElem?_toArray, List.getElem?_cons_zero, List.getElem?_cons_succ]; rfl)
              case h1Bx3 => kernel_rfl
              case h2Bx3 => kernel_rfl
              case h3Bx3 => kernel_rfl
              case h4Bx3 => rfl
              case hqBx3 => exact fun _ _ _ h => h
              case hyBx3 => (intro w hSw; (try dsimp only at hSw); go_simp <;> with_reducible rfl)
              (try simp only [Act.put, List.setIfInBounds_toArray, List.set_cons_zero, List.set_cons_succ])
              refine wpAnyH_take (i := 4) (oi := ?oiBx4) (v := ?vBx4) ?hoBx4 ?h1Bx4 ?h2Bx4 ?h3Bx4 ?hqBx4 (Or.inl ⟨?h4Bx4, ?hyBx4⟩) (by assumption) ?restBx4
              case hoBx4 => (simp only [List.getElem?_toArray, List.getElem?_cons_zero, List.getElem?_cons_succ]; rfl)
              case h1Bx4 => kernel_rfl
              case h2Bx4 => kernel_rfl
              case h3Bx4 => kernel_rfl
              case h4Bx4 => rfl
              case hqBx4 => exact fun _ _ _ h => h
              case hyBx4 => (intro w hSw; (try dsimp only at hSw); go_simp <;> with_reducible rfl)
              (try simp only [Act.put, List.setIfInBounds_toArray, List.set_cons_zero, List.set_cons_succ])
              refine wpAnyH_take (i := 5) (oi := ?oiBx5) (v := ?vBx5) ?hoBx5 ?h1Bx5 ?h2Bx5 ?h3Bx5 ?hqBx5 (Or.inl ⟨?h4Bx5, ?hyBx5⟩) (by assumption) ?restBx5
              case hoBx5 => (simp only [List.getElem?_toArray, List.getElem?_cons_zero, List.getElem?_cons_succ]; rfl)
              case h1Bx5 => kernel_rfl
              case h2Bx5 => kernel_rfl
              case h3Bx5 => kernel_rfl
              case h4Bx5 => rfl
              case hqBx5 => exact fun _ _ _ h => h
              case hyBx5 => (intro w hSw; (try dsimp only at hSw); go_simp <;> with_reducible rfl)
              (try simp only [Act.put, List.setIfInBounds_toArray, List.set_cons_zero, List.set_cons_succ])
              refine wpAnyH_ready (rs := [6]) (by kernel_rfl) (by simp) ?_
              refine AllReadyH.cons (o := ?oiBx6) ?hoBx6 (fun K hK => ?restBx6) ?moreBx6
              case moreBx6 => exact AllReadyH.nil
              case hoBx6 => (simp only [List.getElem?_toArray, List.getElem?_cons_zero, List.getElem?_cons_succ]; rfl)
              go_simp
              refine (RE _).mono ?_
              rintro e wb ⟨vb, rfl, hob, hBb'⟩
              obtain ⟨P2, q2, eb, hqb, hpb⟩ := hob.reads hmB
              rw [hml] at eb hqb hpb
              subst eb
              have hBb := hBd.trans hBb'
              have HC2 := hid (fun W (h : Below wb.heap.size wb W) => (⟨HS.out W (hBb.trans (h.mono hBb.size)), conv_str (c := q2) (hpb.below h)⟩ : _ ∧ _))
              try go_wp2_with fail
              refine hK.out _ _ ?hSnewBy6 (fun hHeld => ?restBy6)
              case hSnewBy6 => ((try dsimp only); exact HS.out _ hBb)
              clear hK K
              (try simp only [Act.put, List.setIfInBounds_toArray, List.set_cons_zero, List.set_cons_succ])
              refine held_switch (fun w' => ((w'.cell? ⟨g9, 0, none⟩ = some (.int .i64 (kk : Int)) ∧ w'.cell? ⟨g9, 1, none⟩ = some (.int .i64 (f : Int)) ∧ w'.cell? ⟨g9, 2, none⟩ = some (.int .u64 (x : Int))) ∧ (convert 23 9 (.slice P1 12 q1)).run Try.prog w' = .ok (.string (strOfNums ms)) w') ∧ (convert 23 9 (.slice P2 12 q2)).run Try.prog w' = .ok (.string (strOfNums ms)) w') (fun w h => h.1) ?hSnewBsa (fun hHeld => ?restBsa)
              case hSnewBsa => ((try dsimp only); exact HC2.out _ (Below.refl _ _))
              refine wpAnyH_take (i := 7) (oi := ?oiBx7) (v := ?vBx7) ?hoBx7 ?h1Bx7 ?h2Bx7 ?h3Bx7 ?hqBx7 (Or.inl ⟨?h4Bx7, ?hyBx7⟩) (by assumption) ?restBx7
              case hoBx7 => (simp only [List.getElem?_toArray, List.getElem?_cons_zero, List.getElem?_cons_succ]; rfl)
              case h1Bx7 => kernel_rfl
              case h2Bx7 => kernel_rfl
              case h3Bx7 => kernel_rfl
              case h4Bx7 => rfl
              case hqBx7 => exact fun _ _ _ h => h
              case hyBx7 => (intro w hSw; (try dsimp only at hSw); go_simp <;> with_reducible rfl)
              (try simp only [Act.put, List.setIfInBounds_toArray, List.set_cons_zero, List.set_cons_succ])
              refine wpAnyH_take (i := 8) (oi := ?oiBx8) (v := ?vBx8) ?hoBx8 ?h1Bx8 ?h2Bx8 ?h3Bx8 ?hqBx8 (Or.inl ⟨?h4Bx8, ?hyBx8⟩) (by assumption) ?restBx8
              case hoBx8 => (simp only [List.getElem?_toArray, List.getElem?_cons_zero, List.getElem?_cons_succ]; rfl)
              case h1Bx8 => kernel_rfl
              case h2Bx8 => kernel_rfl
              case h3Bx8 => kernel_rfl
              case h4Bx8 => rfl
              case hqBx8 => exact fun _ _ _ h => h
              case hyBx8 => (intro w hSw; (try dsimp only at hSw); go_simp <;> with_reducible rfl)
              (try simp only [Act.put, List.setIfInBounds_toArray, List.set_cons_zero, List.set_cons_succ])
              refine wpAnyH_take (i := 9) (oi := ?oiBx9) (v := ?vBx9) ?hoBx9 ?h1Bx9 ?h2Bx9 ?h3Bx9 ?hqBx9 (Or.inl ⟨?h4Bx9, ?hyBx9⟩) (by assumption) ?restBx9
              case hoBx9 => (simp only [List.getElem?_toArray, List.getElem?_cons_zero, List.getElem?_cons_succ]; rfl)
              case h1Bx9 => kernel_rfl
              case h2Bx9 => kernel_rfl
              case h3Bx9 => kernel_rfl
              case h4Bx9 => rfl
              case hqBx9 => exact fun _ _ _ h => h
              case hyBx9 => (intro w hSw; (try dsimp only at hSw); go_simp <;> with_reducible rfl)
              (try simp only [Act.put, List.setIfInBounds_toArray, List.set_cons_zero, List.set_cons_succ])
              refine wpAnyH_take (i := 10) (oi := ?oiBx10) (v := ?vBx10) ?hoBx10 ?h1Bx10 ?h2Bx10 ?h3Bx10 ?hqBx10 (Or.inl ⟨?h4Bx10, ?hyBx10⟩) (by assumption) ?restBx10
              case hoBx10 => (simp only [List.getElem?_toArray, List.getElem?_cons_zero, List.getElem?_cons_succ]; rfl)
              case h1Bx10 => kernel_rfl
              case h2Bx10 => kernel_rfl
              case h3Bx10 => kernel_rfl
              case h4Bx10 => rfl
              case hqBx10 => exact fun _ _ _ h => h
              case hyBx10 => (intro w hSw; (try dsimp only at hSw); go_simp <;> with_reducible rfl)
              (try simp only [Act.put, List.setIfInBounds_toArray, List.set_cons_zero, List.set_cons_succ])
              refine wpAnyH_take (i := 11) (oi := ?oiBx11) (v := ?vBx11) ?hoBx11 ?h1Bx11 ?h2Bx11 ?h3Bx11 ?hqBx11 (Or.inl ⟨?h4Bx11, ?hyBx11⟩) (by assumption) ?restBx11
              case hoBx11 => (simp only [List.getElem?_toArray, List.getElem?_cons_zero, List.getElem?_cons_succ]; rfl)
              case h1Bx11 => kernel_rfl
              case h2Bx11 => kernel_rfl
              case h3Bx11 => kernel_rfl
              case h4Bx11 => rfl
              case hqBx11 => exact fun _ _ _ h => h
              case hyBx11 => (intro w hSw; (try dsimp only at hSw); go_simp <;> with_reducible rfl)
              (try simp only [Act.put, List.setIfInBounds_toArray, List.set_cons_zero, List.set_cons_succ])
              refine wpAnyH_take (i := 13) (oi := ?oiBx13) (v := ?vBx13) ?hoBx13 ?h1Bx13 ?h2Bx13 ?h3Bx13 ?hqBx13 (Or.inl ⟨?h4Bx13, ?hyBx13⟩) (by assumption) ?restBx13
              case hoBx13 => (simp only [List.getElem?_toArray, List.getElem?_cons_zero, List.getElem?_cons_succ]; rfl)
              case h1Bx13 => kernel_rfl
              case h2Bx13 => kernel_rfl
              case h3Bx13 => kernel_rfl
              case h4Bx13 => rfl
              case hqBx13 => exact fun _ _ _ h => h
              case hyBx13 => (intro w hSw; (try dsimp only at hSw); go_simp <;> with_reducible rfl)
              (try simp only [Act.put, List.setIfInBounds_toArray, List.set_cons_zero, List.set_cons_succ])
              refine wpAnyH_take (i := 14) (oi := ?oiBx14) (v := ?vBx14) ?hoBx14 ?h1Bx14 ?h2Bx14 ?h3Bx14 ?hqBx14 (Or.inl ⟨?h4Bx14, ?hyBx14⟩) (by assumption) ?restBx14
              case hoBx14 => (simp only [List.getElem?_toArray, List.getElem?_cons_zero, List.getElem?_cons_succ]; rfl)
              case h1Bx14 => kernel_rfl
              case h2Bx14 => kernel_rfl
              case h3Bx14 => kernel_rfl
              case h4Bx14 => rfl
              case hqBx14 => exact fun _ _ _ h => h
              case hyBx14 => (intro w hSw; (try dsimp only at hSw); go_simp <;> with_reducible rfl)
              (try simp only [Act.put, List.setIfInBounds_toArray, List.set_cons_zero, List.set_cons_succ])
              refine wpAnyH_ready (rs := [12]) (by kernel_rfl) (by simp) ?_
              refine AllReadyH.cons (o := ?oiBx12) ?hoBx12 (fun K hK => ?restBx12) ?moreBx12
              case moreBx12 => exact AllReadyH.nil
              case hoBx12 => (simp only [List.getElem?_toArray, List.getElem?_cons_zero, List.getElem?_cons_succ]; rfl)
              go_simp
              refine (hfm _).mono ?_
              rintro e wc ⟨rfl, hBc'⟩
              try go_wp2_with fail
              refine hK.out _ _ ?hSnewBy12 (fun hHeld => ?restBy12)
              case hSnewBy12 => ((try dsimp only); exact HC2.out _ hBc')
              clear hK K
              (try simp only [Act.put, List.setIfInBounds_toArray, List.set_cons_zero, List.set_cons_succ])
              refine wpAnyH_take (i := 15) (oi := ?oiBx15) (v := ?vBx15) ?hoBx15 ?h1Bx15 ?h2Bx15 ?h3Bx15 ?hqBx15 (Or.inl ⟨?h4Bx15, ?hyBx15⟩) (by assumption) ?restBx15
              case hoBx15 => (simp only [List.getElem?_toArray, List.getElem?_cons_zero, List.getElem?_cons_succ]; rfl)
              case h1Bx15 => kernel_rfl
              case h2Bx15 => kernel_rfl
              case h3Bx15 => kernel_rfl
              case h4Bx15 => rfl
              case hqBx15 => exact fun _ _ _ h => h
              case hyBx15 => (intro w hSw; (try dsimp only at hSw); go_simp <;> with_reducible rfl)
              (try simp only [Act.put, List.setIfInBounds_toArray, List.set_cons_zero, List.set_cons_succ])
              refine wpAnyH_take (i := 16) (oi := ?oiBx16) (v := ?vBx16) ?hoBx16 ?h1Bx16 ?h2Bx16 ?h3Bx16 ?hqBx16 (Or.inl ⟨?h4Bx16, ?hyBx16⟩) (by assumption) ?restBx16
              case hoBx16 => (simp only [List.getElem?_toArray, List.getElem?_cons_zero, List.getElem?_cons_succ]; rfl)
              case h1Bx16 => kernel_rfl
              case h2Bx16 => kernel_rfl
              case h3Bx16 => kernel_rfl
              case h4Bx16 => rfl
              case hqBx16 => exact fun _ _ _ h => h
              case hyBx16 => (intro w hSw; (try dsimp only at hSw); go_simp <;> with_reducible rfl)
              (try simp only [Act.put, List.setIfInBounds_toArray, List.set_cons_zero, List.set_cons_succ])
              refine wpAnyH_take (i := 17) (oi := ?oiBx17) (v := ?vBx17) ?hoBx17 ?h1Bx17 ?h2Bx17 ?h3Bx17 ?hqBx17 (Or.inl ⟨?h4Bx17, ?hyBx17⟩) (by assumption) ?restBx17
              case hoBx17 => (simp only [List.getElem?_toArray, List.getElem?_cons_zero, List.getElem?_cons_succ]; rfl)
              case h1Bx17 => kernel_rfl
              case h2Bx17 => kernel_rfl
              case h3Bx17 => kernel_rfl
              case h4Bx17 => rfl
              case hqBx17 => exact fun _ _ _ h => h
              case hyBx17 => (intro w hSw; (try dsimp only at hSw); go_simp <;> with_reducible rfl)
              (try simp only [Act.put, List.setIfInBounds_toArray, List.set_cons_zero, List.set_cons_succ])
              refine wpAnyH_done (by kernel_rfl) ?_ _
              have hB14 := hBb.trans (hBc'.mono hBb.size)
              go_wp2
              go_ret
              exact ⟨rfl, HB.out.trans (hB14.mono HB.out.size)⟩
            · have hdn := dcode_ne' ys
              rw [← hk6] at hdn
              have hrd := fun v c h => rtold_none (v := v) (c := c) hno h
              have HRD := hid hrd
              have Hk6 := hid hk6
              clear hrd hk6 hno
              go_wp2_with fail
              refine (rdecode_any (some ⟨g, 0, none⟩) 12 cp ys w6 hq6 hcp (by omega)).mono ?_
              rintro e w7 ⟨v7, k7, rfl, hrt, hB7⟩
              obtain ⟨rfl, hk7⟩ := HRD.out _ _ hrt
              obtain rfl : k6 = k7 := Hk6.out.trans hk7.symm
              have hne : (k6 != 0) = true := by simp [hdn]
              have hne2 : (k6 != k6) = false := by simp
              have hB9 := hBq.trans (hB7.mono hBq.size)
              clear hrt hq6 hB6 hB7 hk7 Hk6 hdn hBq
              go_upto_region 12 with (fail)
              have hB10 := hB9.alloc hB9.size (.cells #[.int .i64 0, .int .i64 0, .int .u64 0] 55)
              go_wp2
              go_ret
              exact ⟨rfl, hB10⟩
          · have hin' : ¬ (i : Int) < (n : Int) := by omega
            clear hlt
            go_wp2_with fail
            refine (decode_any (some ⟨g, 0, none⟩) 12 cp ys _ hz3 hcp (by omega)).mono ?_
            rintro e w6 ⟨v6, k6, rfl, ht, hB6⟩
            have hBq := Below.trans hB3 (hB6.mono (Below.size hB3))
            have hq6 := Nums.below hz3 hB6
            rcases ht with ⟨k, f, x, E, rfl, rfl, hk, hf, hx, hep, h1, hE, he⟩ | ⟨rfl, hk6, hno⟩
            · have hrd := fun v c h => rtold_yes (v := v) (c := c) hk hf hx h1 he h
              have HRD := hid hrd
              have EN := fun W => encode_any k f x E W hk hf hep hx
              have RE := fun W => rencode_any k f x W hk hf hx
              have hfm := fun W => from_any k (f : Int) E W
              have hmB := msg_isB k f x
              have hml := msg_len k f x
              generalize msg k f x = ms at *
              generalize mv k (f : Int) E = mm at *
              obtain ⟨kk, hkk⟩ : ∃ kk, kk = k + 1 := ⟨_, rfl⟩
              rw [← hkk] at RE HRD
              clear hrd hep h1 hE hk hx hkk
              go_wp2_with fail
              refine (rdecode_any (some ⟨g, 0, none⟩) 12 cp ys w6 hq6 hcp (by omega)).mono ?_
              rintro e w7 ⟨v7, k7, rfl, hrt, hB7⟩
              obtain ⟨rfl, rfl⟩ := HRD.out _ _ hrt
              clear hrt hq6 hB6 HRD he
              go_upto_region 12 with (fail)
              obtain ⟨g9, hg9⟩ : ∃ g, w7.heap.size = g := ⟨_, rfl⟩
              rw [hg9]
              obtain ⟨w9, hw⟩ : ∃ W, W = w7.alloc (.cells #[.int .i64 (kk : Int), .int .i64 (f : Int), .int .u64 (x : Int)] 55) := ⟨_, rfl⟩
              have hb9 : Blk w9 g9 #[.int .i64 (kk : Int), .int .i64 (f : Int), .int .u64 (x : Int)] 55 := by rw [hw, ← hg9]; exact Blk.new _ _ _
              have hB79 : Below w6.heap.size w6 w9 := by rw [hw]; exact hB7.alloc hB7.size _
              rw [← hw]
              clear hw hg9 hB7
              have hB9 := hBq.trans (hB79.mono hBq.size)
              clear hBq hB79
              go_wp2_with fail
              refine (EN w9).mono ?_
              rintro e wa ⟨va, rfl, hoa, hBa⟩
              obtain ⟨P1, q1, ea, hqa, hpa⟩ := hoa.reads hmB
              rw [hml] at ea hqa hpa
              subst ea
              have hba := hb9.later hBa
              have HB := hid (hB9.trans (hBa.mono hB9.size))
              have HS := hid (fun W (h : Below wa.heap.size wa W) => (⟨(hba.later h).three.1, conv_str (c := q1) (hpa.below h)⟩ : _ ∧ _))
              have hBd : Below wa.heap.size wa (wa.drewN 1) := below_drewN (Below.refl _ _) 1
              have hse := str_eq_true (show ms = ms from rfl)
              clear EN hoa hBa hb9 hba hpa hB9
              go_upto_region 17 with (fail)
              refine wp_region_held_drew (S := (fun w' => (w'.cell? ⟨g9, 0, none⟩ = some (.int .i64 (kk : Int)) ∧ w'.cell? ⟨g9, 1, none⟩ = some (.int .i64 (f : Int)) ∧ w'.cell? ⟨g9, 2, none⟩ = some (.int .u64 (x : Int))) ∧ (convert 23 9 (.slice P1 12 q1)).run Try.prog w' = .ok (.string (strOfNums ms)) w')) (by kernel_rfl) ?hSnewCz (fun hHeld => ?restCz)
              case hSnewCz => ((try dsimp only); exact HS.out _ hBd)
              refine wpAnyH_take (i := 0) (oi := ?oiCx0) (v := ?vCx0) ?hoCx0 ?h1Cx0 ?h2Cx0 ?h3Cx0 ?hqCx0 (Or.inl ⟨?h4Cx0, ?hyCx0⟩) (by assumption) ?restCx0
              case hoCx0 => (simp only [List.getElem?_toArray, List.getElem?_cons_zero, List.getElem?_cons_succ]; rfl)
              case h1Cx0 => kernel_rfl
              case h2Cx0 => kernel_rfl
              case h3Cx0 => kernel_rfl
              case h4Cx0 => rfl
              case hqCx0 => exact fun _ _ _ h => h
              case hyCx0 => (intro w hSw; (try dsimp only at hSw); go_simp <;> with_reducible rfl)
              (try simp only [Act.put, List.setIfInBounds_toArray, List.set_cons_zero, List.set_cons_succ])
              refine wpAnyH_take (i := 1) (oi := ?oiCx1) (v := ?vCx1) ?hoCx1 ?h1Cx1 ?h2Cx1 ?h3Cx1 ?hqCx1 (Or.inl ⟨?h4Cx1, ?hyCx1⟩) (by assumption) ?restCx1
              case hoCx1 => (simp only [List.getElem?_toArray, List.getElem?_cons_zero, List.getElem?_cons_succ]; rfl)
              case h1Cx1 => kernel_rfl
              case h2Cx1 => kernel_rfl
              case h3Cx1 => kernel_rfl
              case h4Cx1 => rfl
              case hqCx1 => exact fun _ _ _ h => h
              case hyCx1 => (intro w hSw; (try dsimp only at hSw); go_simp <;> with_reducible rfl)
              (try simp only [Act.put, List.setIfInBounds_toArray, List.set_cons_zero, List.set_cons_succ])
              refine wpAnyH_take (i := 2) (oi := ?oiCx2) (v := ?vCx2) ?hoCx2 ?h1Cx2 ?h2Cx2 ?h3Cx2 ?hqCx2 (Or.inl ⟨?h4Cx2, ?hyCx2⟩) (by assumption) ?restCx2
              case hoCx2 => (simp only [List.getElem?_toArray, List.getElem?_cons_zero, List.getElem?_cons_succ]; rfl)
              case h1Cx2 => kernel_rfl
              case h2Cx2 => kernel_rfl
              case h3Cx2 => kernel_rfl
              case h4Cx2 => rfl
              case hqCx2 => exact fun _ _ _ h => h
              case hyCx2 => (intro w hSw; (try dsimp only at hSw); go_simp <;> with_reducible rfl)
              (try simp only [Act.put, List.setIfInBounds_toArray, List.set_cons_zero, List.set_cons_succ])
              refine wpAnyH_take (i := 3) (oi := ?oiCx3) (v := ?vCx3) ?hoCx3 ?h1Cx3 ?h2Cx3 ?h3Cx3 ?hqCx3 (Or.inl ⟨?h4Cx3, ?hyCx3⟩) (by assumption) ?restCx3
              case hoCx3 => (simp only [List.getElem?_toArray, List.getElem?_cons_zero, List.getElem?_cons_succ]; rfl)
              case h1Cx3 => kernel_rfl
              case h2Cx3 => kernel_rfl
              case h3Cx3 => kernel_rfl
              case h4Cx3 => rfl
              case hqCx3 => exact fun _ _ _ h => h
              case hyCx3 => (intro w hSw; (try dsimp only at hSw); go_simp <;> with_reducible rfl)
              (try simp only [Act.put, List.setIfInBounds_toArray, List.set_cons_zero, List.set_cons_succ])
              refine wpAnyH_take (i := 4) (oi := ?oiCx4) (v := ?vCx4) ?hoCx4 ?h1Cx4 ?h2Cx4 ?h3Cx4 ?hqCx4 (Or.inl ⟨?h4Cx4, ?hyCx4⟩) (by assumption) ?restCx4
              case hoCx4 => (simp only [List.getElem?_toArray, List.getElem?_cons_zero, List.getElem?_cons_succ]; rfl)
              case h1Cx4 => kernel_rfl
              case h2Cx4 => kernel_rfl
              case h3Cx4 => kernel_rfl
              case h4Cx4 => rfl
              case hqCx4 => exact fun _ _ _ h => h
              case hyCx4 => (intro w hSw; (try dsimp only at hSw); go_simp <;> with_reducible rfl)
              (try simp only [Act.put, List.setIfInBounds_toArray, List.set_cons_zero, List.set_cons_succ])
              refine wpAnyH_take (i := 5) (oi := ?oiCx5) (v := ?vCx5) ?hoCx5 ?h1Cx5 ?h2Cx5 ?h3Cx5 ?hqCx5 (Or.inl ⟨?h4Cx5, ?hyCx5⟩) (by assumption) ?restCx5
              case hoCx5 => (simp only [List.getElem?_toArray, List.getElem?_cons_zero, List.getElem?_cons_succ]; rfl)
              case h1Cx5 => kernel_rfl
              case h2Cx5 => kernel_rfl
              case h3Cx5 => kernel_rfl
              case h4Cx5 => rfl
              case hqCx5 => exact fun _ _ _ h => h
              case hyCx5 => (intro w hSw; (try dsimp only at hSw); go_simp <;> with_reducible rfl)
              (try simp only [Act.put, List.setIfInBounds_toArray, List.set_cons_zero, List.set_cons_succ])
              refine wpAnyH_ready (rs := [6]) (by kernel_rfl) (by simp) ?_
              refine AllReadyH.cons (o := ?oiCx6) ?hoCx6 (fun K hK => ?restCx6) ?moreCx6
              case moreCx6 => exact AllReadyH.nil
              case hoCx6 => (simp only [List.getElem?_toArray, List.getElem?_cons_zero, List.getElem?_cons_succ]; rfl)
              go_simp
              refine (RE _).mono ?_
              rintro e wb ⟨vb, rfl, hob, hBb'⟩
              obtain ⟨P2, q2, eb, hqb, hpb⟩ := hob.reads hmB
              rw [hml] at eb hqb hpb
              subst eb
              have hBb := hBd.trans hBb'
              have HC2 := hid (fun W (h : Below wb.heap.size wb W) => (⟨HS.out W (hBb.trans (h.mono hBb.size)), conv_str (c := q2) (hpb.below h)⟩ : _ ∧ _))
              try go_wp2_with fail
              refine hK.out _ _ ?hSnewCy6 (fun hHeld => ?restCy6)
              case hSnewCy6 => ((try dsimp only); exact HS.out _ hBb)
              clear hK K
              (try simp only [Act.put, List.setIfInBounds_toArray, List.set_cons_zero, List.set_cons_succ])
              refine held_switch (fun w' => ((w'.cell? ⟨g9, 0, none⟩ = some (.int .i64 (kk : Int)) ∧ w'.cell? ⟨g9, 1, none⟩ = some (.int .i64 (f : Int)) ∧ w'.cell? ⟨g9, 2, none⟩ = some (.int .u64 (x : Int))) ∧ (convert 23 9 (.slice P1 12 q1)).run Try.prog w' = .ok (.string (strOfNums ms)) w') ∧ (convert 23 9 (.slice P2 12 q2)).run Try.prog w' = .ok (.string (strOfNums ms)) w') (fun w h => h.1) ?hSnewCsa (fun hHeld => ?restCsa)
              case hSnewCsa => ((try dsimp only); exact HC2.out _ (Below.refl _ _))
              refine wpAnyH_take (i := 7) (oi := ?oiCx7) (v := ?vCx7) ?hoCx7 ?h1Cx7 ?h2Cx7 ?h3Cx7 ?hqCx7 (Or.inl ⟨?h4Cx7, ?hyCx7⟩) (by assumption) ?restCx7
              case hoCx7 => (simp only [List.getElem?_toArray, List.getElem?_cons_zero, List.getElem?_cons_succ]; rfl)
              case h1Cx7 => kernel_rfl
              case h2Cx7 => kernel_rfl
              case h3Cx7 => kernel_rfl
              case h4Cx7 => rfl
              case hqCx7 => exact fun _ _ _ h => h
              case hyCx7 => (intro w hSw; (try dsimp only at hSw); go_simp <;> with_reducible rfl)
              (try simp only [Act.put, List.setIfInBounds_toArray, List.set_cons_zero, List.set_cons_succ])
              refine wpAnyH_take (i := 8) (oi := ?oiCx8) (v := ?vCx8) ?hoCx8 ?h1Cx8 ?h2Cx8 ?h3Cx8 ?hqCx8 (Or.inl ⟨?h4Cx8, ?hyCx8⟩) (by assumption) ?restCx8
              case hoCx8 => (simp only [List.getElem?_toArray, List.getElem?_cons_zero, List.getElem?_cons_succ]; rfl)
              case h1Cx8 => kernel_rfl
              case h2Cx8 => kernel_rfl
              case h3Cx8 => kernel_rfl
              case h4Cx8 => rfl
              case hqCx8 => exact fun _ _ _ h => h
              case hyCx8 => (intro w hSw; (try dsimp only at hSw); go_simp <;> with_reducible rfl)
              (try simp only [Act.put, List.setIfInBounds_toArray, List.set_cons_zero, List.set_cons_succ])
              refine wpAnyH_take (i := 9) (oi := ?oiCx9) (v := ?vCx9) ?hoCx9 ?h1Cx9 ?h2Cx9 ?h3Cx9 ?hqCx9 (Or.inl ⟨?h4Cx9, ?hyCx9⟩) (by assumption) ?restCx9
              case hoCx9 => (simp only [List.getElem?_toArray, List.getElem?_cons_zero, List.getElem?_cons_succ]; rfl)
              case h1Cx9 => kernel_rfl
              case h2Cx9 => kernel_rfl
              case h3Cx9 => kernel_rfl
              case h4Cx9 => rfl
              case hqCx9 => exact fun _ _ _ h => h
              case hyCx9 => (intro w hSw; (try dsimp only at hSw); go_simp <;> with_reducible rfl)
              (try simp only [Act.put, List.setIfInBounds_toArray, List.set_cons_zero, List.set_cons_succ])
              refine wpAnyH_take (i := 10) (oi := ?oiCx10) (v := ?vCx10) ?hoCx10 ?h1Cx10 ?h2Cx10 ?h3Cx10 ?hqCx10 (Or.inl ⟨?h4Cx10, ?hyCx10⟩) (by assumption) ?restCx10
              case hoCx10 => (simp only [List.getElem?_toArray, List.getElem?_cons_zero, List.getElem?_cons_succ]; rfl)
              case h1Cx10 => kernel_rfl
              case h2Cx10 => kernel_rfl
              case h3Cx10 => kernel_rfl
              case h4Cx10 => rfl
              case hqCx10 => exact fun _ _ _ h => h
              case hyCx10 => (intro w hSw; (try dsimp only at hSw); go_simp <;> with_reducible rfl)
              (try simp only [Act.put, List.setIfInBounds_toArray, List.set_cons_zero, List.set_cons_succ])
              refine wpAnyH_take (i := 11) (oi := ?oiCx11) (v := ?vCx11) ?hoCx11 ?h1Cx11 ?h2Cx11 ?h3Cx11 ?hqCx11 (Or.inl ⟨?h4Cx11, ?hyCx11⟩) (by assumption) ?restCx11
              case hoCx11 => (simp only [List.getElem?_toArray, List.getElem?_cons_zero, List.getElem?_cons_succ]; rfl)
              case h1Cx11 => kernel_rfl
              case h2Cx11 => kernel_rfl
              case h3Cx11 => kernel_rfl
              case h4Cx11 => rfl
              case hqCx11 => exact fun _ _ _ h => h
              case hyCx11 => (intro w hSw; (try dsimp only at hSw); go_simp <;> with_reducible rfl)
              (try simp only [Act.put, List.setIfInBounds_toArray, List.set_cons_zero, List.set_cons_succ])
              refine wpAnyH_take (i := 13) (oi := ?oiCx13) (v := ?vCx13) ?hoCx13 ?h1Cx13 ?h2Cx13 ?h3Cx13 ?hqCx13 (Or.inl ⟨?h4Cx13, ?hyCx13⟩) (by assumption) ?restCx13
              case hoCx13 => (simp only [List.getElem?_toArray, List.getElem?_cons_zero, List.getElem?_cons_succ]; rfl)
              case h1Cx13 => kernel_rfl
              case h2Cx13 => kernel_rfl
              case h3Cx13 => kernel_rfl
              case h4Cx13 => rfl
              case hqCx13 => exact fun _ _ _ h => h
              case hyCx13 => (intro w hSw; (try dsimp only at hSw); go_simp <;> with_reducible rfl)
              (try simp only [Act.put, List.setIfInBounds_toArray, List.set_cons_zero, List.set_cons_succ])
              refine wpAnyH_take (i := 14) (oi := ?oiCx14) (v := ?vCx14) ?hoCx14 ?h1Cx14 ?h2Cx14 ?h3Cx14 ?hqCx14 (Or.inl ⟨?h4Cx14, ?hyCx14⟩) (by assumption) ?restCx14
              case hoCx14 => (simp only [List.getElem?_toArray, List.getElem?_cons_zero, List.getElem?_cons_succ]; rfl)
              case h1Cx14 => kernel_rfl
              case h2Cx14 => kernel_rfl
              case h3Cx14 => kernel_rfl
              case h4Cx14 => rfl
              case hqCx14 => exact fun _ _ _ h => h
              case hyCx14 => (intro w hSw; (try dsimp only at hSw); go_simp <;> with_reducible rfl)
              (try simp only [Act.put, List.setIfInBounds_toArray, List.set_cons_zero, List.set_cons_succ])
              refine wpAnyH_ready (rs := [12]) (by kernel_rfl) (by simp) ?_
              refine AllReadyH.cons (o := ?oiCx12) ?hoCx12 (fun K hK => ?restCx12) ?moreCx12
              case moreCx12 => exact AllReadyH.nil
              case hoCx12 => (simp only [List.getElem?_toArray, List.getElem?_cons_zero, List.getElem?_cons_succ]; rfl)
              go_simp
              refine (hfm _).mono ?_
              rintro e wc ⟨rfl, hBc'⟩
              try go_wp2_with fail
              refine hK.out _ _ ?hSnewCy12 (fun hHeld => ?restCy12)
              case hSnewCy12 => ((try dsimp only); exact HC2.out _ hBc')
              clear hK K
              (try simp only [Act.put, List.setIfInBounds_toArray, List.set_cons_zero, List.set_cons_succ])
              refine wpAnyH_take (i := 15) (oi := ?oiCx15) (v := ?vCx15) ?hoCx15 ?h1Cx15 ?h2Cx15 ?h3Cx15 ?hqCx15 (Or.inl ⟨?h4Cx15, ?hyCx15⟩) (by assumption) ?restCx15
              case hoCx15 => (simp only [List.getElem?_toArray, List.getElem?_cons_zero, List.getElem?_cons_succ]; rfl)
              case h1Cx15 => kernel_rfl
              case h2Cx15 => kernel_rfl
              case h3Cx15 => kernel_rfl
              case h4Cx15 => rfl
              case hqCx15 => exact fun _ _ _ h => h
              case hyCx15 => (intro w hSw; (try dsimp only at hSw); go_simp <;> with_reducible rfl)
              (try simp only [Act.put, List.setIfInBounds_toArray, List.set_cons_zero, List.set_cons_succ])
              refine wpAnyH_take (i := 16) (oi := ?oiCx16) (v := ?vCx16) ?hoCx16 ?h1Cx16 ?h2Cx16 ?h3Cx16 ?hqCx16 (Or.inl ⟨?h4Cx16, ?hyCx16⟩) (by assumption) ?restCx16
              case hoCx16 => (simp only [List.getElem?_toArray, List.getElem?_cons_zero, List.getElem?_cons_succ]; rfl)
              case h1Cx16 => kernel_rfl
              case h2Cx16 => kernel_rfl
              case h3Cx16 => kernel_rfl
              case h4Cx16 => rfl
              case hqCx16 => exact fun _ _ _ h => h
              case hyCx16 => (intro w hSw; (try dsimp only at hSw); go_simp <;> with_reducible rfl)
              (try simp only [Act.put, List.setIfInBounds_toArray, List.set_cons_zero, List.set_cons_succ])
              refine wpAnyH_take (i := 17) (oi := ?oiCx17) (v := ?vCx17) ?hoCx17 ?h1Cx17 ?h2Cx17 ?h3Cx17 ?hqCx17 (Or.inl ⟨?h4Cx17, ?hyCx17⟩) (by assumption) ?restCx17
              case hoCx17 => (simp only [List.getElem?_toArray, List.getElem?_cons_zero, List.getElem?_cons_succ]; rfl)
              case h1Cx17 => kernel_rfl
              case h2Cx17 => kernel_rfl
              case h3Cx17 => kernel_rfl
              case h4Cx17 => rfl
              case hqCx17 => exact fun _ _ _ h => h
              case hyCx17 => (intro w hSw; (try dsimp only at hSw); go_simp <;> with_reducible rfl)
              (try simp only [Act.put, List.setIfInBounds_toArray, List.set_cons_zero, List.set_cons_succ])
              refine wpAnyH_done (by kernel_rfl) ?_ _
              have hB14 := hBb.trans (hBc'.mono hBb.size)
              go_wp2
              go_ret
              exact ⟨rfl, HB.out.trans (hB14.mono HB.out.size)⟩
            · have hdn := dcode_ne' ys
              rw [← hk6] at hdn
              have hrd := fun v c h => rtold_none (v := v) (c := c) hno h
              have HRD := hid hrd
              have Hk6 := hid hk6
              clear hrd hk6 hno
              go_wp2_with fail
              refine (rdecode_any (some ⟨g, 0, none⟩) 12 cp ys w6 hq6 hcp (by omega)).mono ?_
              rintro e w7 ⟨v7, k7, rfl, hrt, hB7⟩
              obtain ⟨rfl, hk7⟩ := HRD.out _ _ hrt
              obtain rfl : k6 = k7 := Hk6.out.trans hk7.symm
              have hne : (k6 != 0) = true := by simp [hdn]
              have hne2 : (k6 != k6) = false := by simp
              have hB9 := hBq.trans (hB7.mono hBq.size)
              clear hrt hq6 hB6 hB7 hk7 Hk6 hdn hBq
              go_upto_region 12 with (fail)
              have hB10 := hB9.alloc hB9.size (.cells #[.int .i64 0, .int .i64 0, .int .u64 0] 55)
              go_wp2
              go_ret
              exact ⟨rfl, hB10⟩
end Go.Proofs.Ytmehebjkdmpigaa.Mail
