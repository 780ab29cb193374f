import Derived.Test.YtpcbpljdiacbmaaJOctAll
import Derived.Test.YtpcbpljdiacbmaaJZeros
set_option linter.unusedVariables false
set_option linter.unusedSimpArgs false
namespace Go.Proofs.Ytpcbpljdiacbmaa.Sheet
open Go.RowKit Go.Proofs.Ytpcbpljdiacbmaa.Kit Go.Proofs.Ytpcbpljdiacbmaa.Oct

/-- A page's bytes ahead of the sum. -/
def head (K E S a f : Nat) (xs : List Int) : List Int := le K 1 ++ le E 6 ++ le S 6 ++ le a 2 ++ le f 1 ++ (le xs.length 2 ++ xs)
def body (K E S a f : Nat) (xs : List Int) : List Int := head K E S a f xs ++ List.replicate (73 - xs.length) 0
def page (K E S a f : Nat) (xs : List Int) : List Int := (body K E S a f xs ++ le (sum (body K E S a f xs)) 4) ++ [90]
theorem head_len (K E S a f : Nat) (xs : List Int) : (head K E S a f xs).length = 18 + xs.length := by
 unfold head
 simp only [List.length_append, le_len]
 omega
theorem body_len (K E S a f : Nat) (xs : List Int) (h : xs.length ≤ 64) : (body K E S a f xs).length = 91 := by
 unfold body
 rw [List.length_append, head_len, List.length_replicate]
 omega
theorem page_len (K E S a f : Nat) (xs : List Int) (h : xs.length ≤ 64) : (page K E S a f xs).length = 96 := by
 unfold page
 simp only [List.length_append, body_len K E S a f xs h, le_len, List.length_cons, List.length_nil]
theorem head_isB (K E S a f : Nat) {xs : List Int} (h : IsB xs) : IsB (head K E S a f xs) := by
 unfold head
 exact isB_append (isB_append (isB_append (isB_append (isB_append (le_isB _ _) (le_isB _ _)) (le_isB _ _)) (le_isB _ _)) (le_isB _ _)) (isB_append (le_isB _ _) h)
theorem body_isB (K E S a f : Nat) {xs : List Int} (h : IsB xs) : IsB (body K E S a f xs) := by
 unfold body
 refine isB_append (head_isB K E S a f h) ?_
 intro x hx
 rw [List.eq_of_mem_replicate hx]
 omega
theorem page_isB (K E S a f : Nat) {xs : List Int} (h : IsB xs) : IsB (page K E S a f xs) := by
 unfold page
 refine isB_append (isB_append (body_isB K E S a f h) (le_isB _ _)) ?_
 intro x hx
 simp at hx
 omega

theorem put_1 (base : Nat) (v : Value) (xs : List Int) (x : Nat) (w : World) (hown : OwnB w base v xs) (hbase : base ≤ w.heap.size) (hx : x ≤ 18446744073709551615) (hl : xs.length ≤ 1000000) :
  Calls Try.prog 92 #[v, .int .u64 (x : Int), .int .i64 1] w fun e w' => ∃ v', e = .returned v' ∧ OwnB w' base v' (xs ++ le x 1) ∧ Grew w w' v v' := put_any base v xs x 1 w hown hbase hx (by decide) hl
theorem put_2 (base : Nat) (v : Value) (xs : List Int) (x : Nat) (w : World) (hown : OwnB w base v xs) (hbase : base ≤ w.heap.size) (hx : x ≤ 18446744073709551615) (hl : xs.length ≤ 1000000) :
  Calls Try.prog 92 #[v, .int .u64 (x : Int), .int .i64 2] w fun e w' => ∃ v', e = .returned v' ∧ OwnB w' base v' (xs ++ le x 2) ∧ Grew w w' v v' := put_any base v xs x 2 w hown hbase hx (by decide) hl
theorem put_6 (base : Nat) (v : Value) (xs : List Int) (x : Nat) (w : World) (hown : OwnB w base v xs) (hbase : base ≤ w.heap.size) (hx : x ≤ 18446744073709551615) (hl : xs.length ≤ 1000000) :
  Calls Try.prog 92 #[v, .int .u64 (x : Int), .int .i64 6] w fun e w' => ∃ v', e = .returned v' ∧ OwnB w' base v' (xs ++ le x 6) ∧ Grew w w' v v' := put_any base v xs x 6 w hown hbase hx (by decide) hl

theorem own_blk {w w' : World} {base g : Nat} {v v' : Value} {xs : List Int} {cs : Array Value} (h : OwnB w base v xs) (hb : Blk w g cs 85) (hg : Grew w w' v v') : Blk w' g cs 85 :=
 hb.grown hg.grew (own_ne h hb (by decide))

set_option maxRecDepth 100000 in
set_option maxHeartbeats 4000000 in
theorem lay_any (K E S a f : Nat) (F : Int) (A : Option Addr) (n c : Nat) (xs : List Int) (w : World) (hz : Nums w .u8 A n xs) (hK : K ≤ 255) (hE : E ≤ 18446744073709551615) (hS : S ≤ 18446744073709551615) (ha : a ≤ 65535) (hf : f ≤ 255) (hF : F = (f : Int) - 1) (hn : n ≤ 64) :
  Calls Try.prog 80 #[.agg #[.int .u8 (K : Int), .int .u64 (E : Int), .int .u64 (S : Int), .int .i64 (a : Int), .int .i64 F, .slice A n c]] w fun e w' => ∃ v, e = .returned v ∧ OwnB w' w.heap.size v (page K E S a f xs) ∧ Below w.heap.size w w' := by
 have hl := hz.len
 have h64 : xs.length ≤ 64 := by omega
 have hx := isB_of hz
 have hw1 : IntKind.i64.wrap (F + 1) = (f : Int) := by
  rw [hF, show (f : Int) - 1 + 1 = (f : Int) by omega]
  exact IntWalk.i64_in _ (by omega)
 have Hw1 := hid hw1
 clear hw1
 go_enter Try.func80, Try.ntmps80
 go_wp2_with fail
 rw [← hF]
 clear hF
 generalize hw0 : w.alloc (.cells #[.int .u8 (K : Int), .int .u64 (E : Int), .int .u64 (S : Int), .int .i64 (a : Int), .int .i64 F, .slice A n c] 85) = w0
 have hB0 : Below w.heap.size w w0 := by rw [← hw0]; exact (Below.refl _ _).alloc (Nat.le_refl _) _
 have hb0 : Blk w0 w.heap.size #[.int .u8 (K : Int), .int .u64 (E : Int), .int .u64 (S : Int), .int .i64 (a : Int), .int .i64 F, .slice A n c] 85 := by rw [← hw0]; exact Blk.new _ _ _
 clear hw0
 have hz0 := hz.below hB0
 have hs0 := hB0.size
 generalize hgw : w.heap.size = g at *
 refine (put_1 g (.slice none 0 0) [] K w0 (OwnB.nil _ _) hs0 (by omega) (by simp)).mono ?_
 rintro e w1 ⟨v1, rfl, ho1, hg1⟩
 rw [List.nil_append] at ho1
 have hlow := hz.low
 have hb1 := own_blk (OwnB.nil w0 g) hb0 hg1
 have hB1 : Below g w w1 := hg1.below hB0 hs0 (by intro k hk; simp [Value.ownBlock] at hk)
 have hs1 : g ≤ w1.heap.size := by rw [← hgw]; exact hB1.size
 have Hcs := hid (fun W (h : Blk W g #[.int .u8 (K : Int), .int .u64 (E : Int), .int .u64 (S : Int), .int .i64 (a : Int), .int .i64 F, .slice A n c] 85) => (⟨h.cell 1, h.cell 2, h.cell 3, h.cell 4, h.cell 5⟩ : _ ∧ _ ∧ _ ∧ _ ∧ _))
 have HB1 := hid hB1
 have Hb1 := hid hb1
 have Hz := hid hz
 clear hB1 hb1 hB0 hb0 hg1 hz hz0 hs0
 have hl1 : (le K 1).length ≤ 1000000 := by rw [le_len]; decide
 have hl2 : (le K 1 ++ le E 6).length ≤ 1000000 := by rw [List.length_append, le_len, le_len]; decide
 go_wp2
 go_region_held3 (fun w' => w'.cell? ⟨g, 1, none⟩ = some (.int .u64 (E : Int)) ∧ w'.cell? ⟨g, 2, none⟩ = some (.int .u64 (S : Int))) (first | exact ⟨(Hcs.out _ hb3).1, (Hcs.out _ hb3).2.1⟩ | exact ⟨(Hcs.out _ hb2).1, (Hcs.out _ hb2).2.1⟩ | exact ⟨(Hcs.out _ (Hb1.out.drewN 1)).1, (Hcs.out _ (Hb1.out.drewN 1)).2.1⟩)
  (first
   | (((with_reducible refine (put_6 g _ (le K 1 ++ le E 6) S _ ?hz hs2 hS hl2).mono ?_); (case hz => exact ho2); rintro e w3 ⟨v3, rfl, ho3, hg3⟩; have hb3 := own_blk ho2 hb2 hg3))
   | (((with_reducible refine (put_6 g _ (le K 1) E _ ?hz ?hy hE hl1).mono ?_); (case hz => exact ho1.drewN 1); (case hy => exact hs1); rintro e w2 ⟨v2, rfl, ho2, hg2⟩; have hb2 := own_blk (w := w1.drewN 1) (ho1.drewN 1) (Hb1.out.drewN 1) hg2; have hs2 := Nat.le_trans hs1 hg2.grew.size)))
 have hB3 : Below g w w3 := by
  have h1 : Below g w w2 := Grew.below (w := w1.drew) hg2 (HB1.out.drewB 1) hs1 (fun k hk => (ho1.lt k hk).1)
  exact hg3.below h1 hs2 (fun k hk => (ho2.lt k hk).1)
 have hs3 := Nat.le_trans hs2 hg3.grew.size
 have Hb3 := hid hb3
 have HB3 := hid hB3
 clear ho1 ho2 hg2 hg3 hb2 hb3 hB3 HB1 Hb1 hs2 hs1 hl1 hl2
 have hl1 : (le K 1 ++ le E 6 ++ le S 6).length ≤ 1000000 := by simp only [List.length_append, le_len]; decide
 have hl2 : (le K 1 ++ le E 6 ++ le S 6 ++ le a 2).length ≤ 1000000 := by simp only [List.length_append, le_len]; decide
 have haa : a ≤ 18446744073709551615 := by omega
 have hff : f ≤ 18446744073709551615 := by omega
 go_wp2
 have hwa : IntKind.u64.wrap (a : Int) = (a : Int) := IntWalk.u64_in _ (by omega)
 have hwf : IntKind.u64.wrap (f : Int) = (f : Int) := IntWalk.u64_in _ (by omega)
 have hw1 := Hw1.out
 go_region_held3 (fun w' => w'.cell? ⟨g, 3, none⟩ = some (.int .i64 (a : Int)) ∧ w'.cell? ⟨g, 4, none⟩ = some (.int .i64 F)) (first | exact ⟨(Hcs.out _ hb5).2.2.1, (Hcs.out _ hb5).2.2.2.1⟩ | exact ⟨(Hcs.out _ hb4).2.2.1, (Hcs.out _ hb4).2.2.2.1⟩ | exact ⟨(Hcs.out _ (Hb3.out.drewN 1)).2.2.1, (Hcs.out _ (Hb3.out.drewN 1)).2.2.2.1⟩)
  (first
   | (((with_reducible refine (put_1 g _ (le K 1 ++ le E 6 ++ le S 6 ++ le a 2) f _ ?hz hs4 hff hl2).mono ?_); (case hz => exact ho4); rintro e w5 ⟨v5, rfl, ho5, hg5⟩; have hb5 := own_blk ho4 hb4 hg5))
   | (((with_reducible refine (put_2 g _ (le K 1 ++ le E 6 ++ le S 6) a _ ?hz ?hy haa hl1).mono ?_); (case hz => exact ho3.drewN 1); (case hy => exact hs3); rintro e w4 ⟨v4, rfl, ho4, hg4⟩; have hb4 := own_blk (w := w3.drewN 1) (ho3.drewN 1) (Hb3.out.drewN 1) hg4; have hs4 := Nat.le_trans hs3 hg4.grew.size)))
 clear hwa hwf hw1
 have hB5 : Below g w w5 := by
  have h1 : Below g w w4 := Grew.below (w := w3.drew) hg4 (HB3.out.drewB 1) hs3 (fun k hk => (ho3.lt k hk).1)
  exact hg5.below h1 hs4 (fun k hk => (ho4.lt k hk).1)
 have hs5 := Nat.le_trans hs4 hg5.grew.size
 clear ho3 ho4 hg4 hg5 hb4 hs4 hs3 hl1 hl2
 have hc5 : w5.cell? ⟨g, 5, none⟩ = some (.slice A n c) := (Hcs.out _ hb5).2.2.2.2
 go_wp2_with fail
 have hz5 : Nums w5 .u8 A n xs := Hz.out.below (by rw [hgw]; exact hB5)
 have hl5 : (le K 1 ++ le E 6 ++ le S 6 ++ le a 2 ++ le f 1).length ≤ 100000 := by simp only [List.length_append, le_len]; decide
 refine (bytes_any g v5 _ A n c xs w5 ho5 hs5 hz5 (fun h0 q hq e => ?_) (by omega) hl5).mono ?_
 ·have h1 := hlow h0 q hq
  have h2 := (ho5.lt _ e.symm).1
  omega
 rintro e w6 ⟨v6, rfl, ho6, hg6⟩
 have hB6 : Below g w w6 := hg6.below hB5 hs5 (fun k hk => (ho5.lt k hk).1)
 have hs6 := Nat.le_trans hs5 hg6.grew.size
 have e6 : le K 1 ++ le E 6 ++ le S 6 ++ le a 2 ++ le f 1 ++ (le n 2 ++ xs) = head K E S a f xs := by unfold head; rw [hl]
 rw [e6] at ho6
 have hhl := head_len K E S a f xs
 have hhB := head_isB K E S a f hx
 have Hbody := hid (show body K E S a f xs = head K E S a f xs ++ List.replicate (73 - xs.length) 0 from rfl)
 have Hbl := hid (body_len K E S a f xs h64)
 have HbB := hid (body_isB K E S a f hx)
 have Hpage := hid (show page K E S a f xs = (body K E S a f xs ++ le (sum (body K E S a f xs)) 4) ++ [90] from rfl)
 generalize head K E S a f xs = hd at *
 generalize body K E S a f xs = bd at *
 generalize hpg : page K E S a f xs = pg at *
 have Hpg := hid hpg
 clear hpg
 obtain ⟨A6, c6, ee6, hc6, hz6⟩ := ho6.reads hhB
 rw [hhl, hl] at ee6 hc6 hz6
 subst ee6
 have ho6' : w6.ownsRow g 5 1 (.slice A6 (18 + n) c6) (18 + n) (hd.map (Value.int .u8)) := by
  unfold OwnB at ho6
  rw [hhl, hl] at ho6
  exact ho6
 clear ho5 hg6 hB5 hb5 e6 hz5 ho6
 have hsub : (91 : Int) - ((18 : Int) + (n : Int)) = ((73 - n : Nat) : Int) := by omega
 go_wp2_with (at_builtin; refine append_zeros g rfl _ _ 22 3 5 .u8 1 rfl Try.underlying22 Try.underlying3 info5 (by decide) _ _ _ .i64 (73 - n) (by rfl) (by first | rfl | (exact congrArg (Value.int IntKind.i64) hsub) | (exact congrArg (Value.int IntKind.i64) (by omega))) ho6' hs6 (by omega) ?_; intro v7 w7 hown7 hgr7 hat7)
 have ho7 : OwnB w7 g v7 bd := by
  unfold OwnB
  rw [Hbl.out, Hbody.out, List.map_append, hl]
  have e : 18 + n + (73 - n) = 91 := by omega
  rw [e] at hown7
  exact hown7
 have hB7 : Below g w w7 := hB6.grown hgr7 hs6 (fun k hk => (World.ownsRow.lt ho6' k hk).1)
 have hs7 := Nat.le_trans hs6 hgr7.size
 obtain ⟨A7, c7, ee7, hc7, hz7⟩ := ho7.reads HbB.out
 rw [Hbl.out] at ee7 hc7 hz7
 subst ee7
 clear hown7 hgr7 hat7 hsub ho6' hz6
 refine (seal_any A7 91 c7 bd w7 hz7 (by omega)).mono ?_
 rintro e w8 ⟨v8, rfl, ho8, hB8⟩
 have hB8' : Below g w w8 := hB7.trans (hB8.mono hs7)
 have hs8 := Nat.le_trans hs7 hB8.size
 have ho8' := ho8.mono hs7
 have h95 : (bd ++ le (sum bd) 4).length = 95 := by rw [List.length_append, Hbl.out, le_len]
 clear ho7 hz7 hB8 ho8 hB7
 go_wp2_with (at_builtin; refine append_one g rfl _ _ 22 5 (.int .u8 0) 1 rfl Try.underlying22 info5 rfl _ _ _ (.int .u8 90) (by rfl) (by rfl) rfl ho8' hs8 (by omega) (by omega) ?_; intro v9 w9 hown9 hgr9 hat9)
 have ho9 : OwnB w9 g v9 pg := by
  rw [Hpage.out]
  exact OwnB.snoc hown9
 have hB9 : Below g w w9 := hB8'.grown hgr9 hs8 (fun k hk => (ho8'.lt k hk).1)
 go_wp2
 go_ret
 exact ⟨_, rfl, by rw [hgw, Hpg.out]; exact ho9, by rw [hgw]; exact hB9⟩
end Go.Proofs.Ytpcbpljdiacbmaa.Sheet
