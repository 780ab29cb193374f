import Derived.Test.YtlaibabjnfjbpaaOctWalks
import Derived.Lib.SlBytesConst
set_option linter.unusedVariables false
set_option linter.unusedSimpArgs false
namespace Go.Proofs.Ytlaibabjnfjbpaa.Oct
open Go.RowKit Go.Proofs.Ytlaibabjnfjbpaa.Kit

theorem conv_str {w : World} {A : Option Addr} {n c : Nat} {xs : List Int} (h : Nums w .u8 A n xs) : (convert 22 9 (.slice A n c)).run Try.prog w = .ok (.string (strOfNums xs)) w := by
  rcases A with _ | ad
  · have h0 : n = 0 := by
      rcases Nat.eq_zero_or_pos n with h0 | h0
      · exact h0
      · obtain ⟨b, o, e, _⟩ := h.cell 0 h0
        cases e
    subst h0
    obtain rfl : xs = [] := List.eq_nil_of_length_eq_zero h.len
    exact run_convert_bytes_nil w 22 5 Try.underlying22 Try.underlying5 0 c 9 Try.underlying9
  · by_cases h0 : n = 0
    · subst h0
      obtain rfl : xs = [] := List.eq_nil_of_length_eq_zero h.len
      have hl : (loadCells ad 0).run Try.prog w = .ok #[] w := by
        have := run_loadCells_list (P := Try.prog) w ad [] (fun j v hj => by simp at hj)
        simpa using this
      rw [run_convert_bytes_string w 22 9 5 _ 0 c Try.underlying22 Try.underlying5 Try.underlying9, run_bytesToString w _ 0 c [] (by simpa using hl), foldl_push_bytes]
      simp [strOfNums, ByteArray.empty, ByteArray.emptyWithCapacity]
      rfl
    · obtain ⟨b, o, e, hc⟩ := h.cell 0 (by omega)
      injection e with e
      subst e
      exact run_convert_bytes_arg w 22 5 Try.underlying22 Try.underlying5 b o n c xs h.len hc 9 Try.underlying9

theorem str_inj {xs ys : List Int} (hx : IsB xs) (hy : IsB ys) (h : strOfNums xs = strOfNums ys) : xs = ys := by
  have h1 := congrArg (fun s => s.data.toList) h
  simp only [strOfNums_data] at h1
  have key : ∀ (l : List Int), IsB l → (l.map fun n => UInt8.ofNat n.toNat).map (fun b => ((b.toNat : Nat) : Int)) = l := by
    intro l hl
    rw [List.map_map]
    conv => rhs; rw [← List.map_id l]
    refine List.map_congr_left fun x hx => ?_
    have := hl x hx
    simp only [Function.comp, UInt8.toNat_ofNat', id]
    omega
  rw [← key xs hx, ← key ys hy, h1]
theorem str_list (xs : List Int) : (strOfNums xs).toList = xs.map fun n => UInt8.ofNat n.toNat := by rw [ByteArray.toList_eq, strOfNums_data]
theorem str_eq {xs ys : List Int} (hx : IsB xs) (hy : IsB ys) : ((strOfNums xs).toList == (strOfNums ys).toList) = (decide (xs = ys)) := by
  by_cases h : xs = ys
  · subst h; simp
  · rw [decide_eq_false h]
    refine beq_eq_false_iff_ne.2 fun e => h (str_inj hx hy ?_)
    rw [str_list, str_list] at e
    unfold strOfNums
    rw [e]
theorem str_eq_true {xs ys : List Int} (h : xs = ys) : ((strOfNums xs).toList == (strOfNums ys).toList) = true := by subst h; simp

set_option maxHeartbeats 400000 in
theorem seal_any (A : Option Addr) (n c : Nat) (xs : List Int) (w : World) (hz : Nums w .u8 A n xs) (hl : n ≤ 100000) :
    Calls Try.prog 16 #[.slice A n c] w fun e w' => ∃ v', e = .returned v' ∧ OwnB w' w.heap.size v' (xs ++ le (sum xs) 4) ∧ Below w.heap.size w w' := by
  have Hl := hid hz.len
  have hsl := sum_lt (isB_of hz)
  go_enter Try.func16, Try.ntmps16
  go_wp2_with fail
  refine (clone_any A n c xs w hz (by omega)).mono ?_
  rintro e w1 ⟨v1, rfl, ho1, hB1⟩
  go_wp2_with fail
  refine (sum_any A n c xs w1 (hz.below hB1)).mono ?_
  rintro e w2 ⟨rfl, rfl⟩
  generalize hsx : sum xs = s at *
  have Hsx := hid hsx
  clear hsx
  have hs : (s : Int) ≤ 4294967295 := by omega
  go_wp2_with fail
  refine (put_any w.heap.size v1 xs s 4 _ ho1 hB1.size (by omega) (by omega) (by rw [Hl.out]; omega)).mono ?_
  rintro e w3 ⟨v3, rfl, ho3, hg3⟩
  go_wp2
  go_ret
  exact ⟨_, rfl, by rw [Hsx.out]; exact ho3, hg3.below hB1 hB1.size (fun k hk => (ho1.lt k hk).1)⟩

theorem sum_awake : sum [49, 50, 51, 52, 53, 54, 55, 56, 57] = 3421780262 := by decide +kernel
theorem le_awake : le 300 2 = [44, 1] := by decide

set_option maxHeartbeats 400000 in
theorem awake_any (w : World) : Calls Try.prog 12 #[] w fun e w' => e = .returned (.bool true) ∧ Below w.heap.size w w' := by
  have kc := fun (w : World) (C : Array Value) (n c : Nat) => Lib.run_convert_bytes_const (P := Try.prog) w 22 5 C n c Try.underlying22 Try.underlying5
  go_enter Try.func12, Try.ntmps12
  go_wp2_with fail
  clear kc
  generalize hw1 : w.alloc (.cells #[.int .u8 49, .int .u8 50, .int .u8 51, .int .u8 52, .int .u8 53, .int .u8 54, .int .u8 55, .int .u8 56, .int .u8 57] 5 (9, 10)) = w1
  have hB1 : Below w.heap.size w w1 := by rw [← hw1]; exact (Below.refl _ _).alloc (Nat.le_refl _) _
  have hn1 : Nums w1 .u8 (some ⟨w.heap.size, 0, none⟩) 9 [49, 50, 51, 52, 53, 54, 55, 56, 57] := by
    refine nums_lit (g := w.heap.size) (T := 5) (fr := (9, 10)) ?_ (by decide) (by decide)
    rw [← hw1]; exact heap_alloc_new w _
  clear hw1
  refine (sum_any _ 9 9 _ w1 hn1).mono ?_
  rintro e w2 ⟨rfl, rfl⟩
  rw [sum_awake]
  go_wp2_with fail
  refine (put_any w.heap.size (.slice none 0 0) [] 300 2 _ (OwnB.nil _ _) hB1.size (by omega) (by omega) (by simp)).mono ?_
  rintro e w3 ⟨v3, rfl, ho3, hg3⟩
  rw [le_awake, List.nil_append] at ho3
  have hB3 := hg3.below hB1 hB1.size (by intro k hk; simp [Value.ownBlock] at hk)
  obtain ⟨A3, c3, rfl, hc3, hn3⟩ := ho3.reads (by intro x hx; simp at hx; omega)
  have hcv := conv_str (n := 2) (c := c3) hn3
  have hst : ((strOfNums [44, 1]).toList == [(44 : UInt8), 1]) = true := by rw [str_list]; decide
  go_wp2
  go_ret
  exact ⟨rfl, hB3⟩
end Go.Proofs.Ytlaibabjnfjbpaa.Oct
