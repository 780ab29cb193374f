import Derived.Test.YtcfildbgnjhjmaaOctWalks
set_option linter.unusedVariables false
set_option linter.unusedSimpArgs false
namespace Go.Proofs.Ytcfildbgnjhjmaa.Oct
open Go.RowKit Go.Proofs.Ytcfildbgnjhjmaa.Kit

set_option maxRecDepth 100000 in
theorem conv_str {w : World} {A : Option Addr} {n c : Nat} {xs : List Int} (h : Nums w .u8 A n xs) : (convert 39 9 (.slice A n c)).run Try.prog w = .ok (.string (strOfNums xs)) w := by
  rcases A with _ | ad
  · have h0 : n = 0 := by
      rcases Nat.eq_zero_or_pos n with h0 | h0
      · exact h0
      · obtain ⟨b, o, e, _⟩ := h.cell 0 h0
        cases e
    subst h0
    obtain rfl : xs = [] := List.eq_nil_of_length_eq_zero h.len
    exact run_convert_bytes_nil w 39 5 Try.underlying39 Try.underlying5 0 c 9 Try.underlying9
  · by_cases h0 : n = 0
    · subst h0
      obtain rfl : xs = [] := List.eq_nil_of_length_eq_zero h.len
      have hl : (loadCells ad 0).run Try.prog w = .ok #[] w := by
        have := run_loadCells_list (P := Try.prog) w ad [] (fun j v hj => by simp at hj)
        simpa using this
      rw [run_convert_bytes_string w 39 9 5 _ 0 c Try.underlying39 Try.underlying5 Try.underlying9, run_bytesToString w _ 0 c [] (by simpa using hl), foldl_push_bytes]
      simp [strOfNums, ByteArray.empty, ByteArray.emptyWithCapacity]
      rfl
    · obtain ⟨b, o, e, hc⟩ := h.cell 0 (by omega)
      injection e with e
      subst e
      exact run_convert_bytes_arg w 39 5 Try.underlying39 Try.underlying5 b o n c xs h.len hc 9 Try.underlying9

theorem str_inj {xs ys : List Int} (hx : IsB xs) (hy : IsB ys) (h : strOfNums xs = strOfNums ys) : xs = ys := by
  have h1 := congrArg (fun s => s.data.toList) h
  simp only [strOfNums_data] at h1
  have key : ∀ (l : List Int), IsB l → (l.map fun n => UInt8.ofNat n.toNat).map (fun b => ((b.toNat : Nat) : Int)) = l := by
    intro l hl
    rw [List.map_map]
    conv => rhs; rw [← List.map_id l]
    refine List.map_congr_left fun x hx => ?_
    have := hl x hx
    simp only [Function.comp, UInt8.toNat_ofNat', id]
    omega
  rw [← key xs hx, ← key ys hy, h1]
theorem str_list (xs : List Int) : (strOfNums xs).toList = xs.map fun n => UInt8.ofNat n.toNat := by rw [ByteArray.toList_eq, strOfNums_data]
theorem str_eq {xs ys : List Int} (hx : IsB xs) (hy : IsB ys) : ((strOfNums xs).toList == (strOfNums ys).toList) = (decide (xs = ys)) := by
  by_cases h : xs = ys
  · subst h; simp
  · rw [decide_eq_false h]
    refine beq_eq_false_iff_ne.2 fun e => h (str_inj hx hy ?_)
    rw [str_list, str_list] at e
    unfold strOfNums
    rw [e]
theorem str_eq_true {xs ys : List Int} (h : xs = ys) : ((strOfNums xs).toList == (strOfNums ys).toList) = true := by subst h; simp

set_option maxHeartbeats 400000 in
theorem seal_any (A : Option Addr) (n c : Nat) (xs : List Int) (w : World) (hz : Nums w .u8 A n xs) (hl : n ≤ 100000) :
    Calls Try.prog 47 #[.slice A n c] w fun e w' => ∃ v', e = .returned v' ∧ OwnB w' w.heap.size v' (xs ++ le (sum xs) 4) ∧ Below w.heap.size w w' := by
  have Hl := hid hz.len
  have hsl := sum_lt (isB_of hz)
  go_enter Try.func47, Try.ntmps47
  go_wp2_with fail
  refine (clone_any A n c xs w hz (by omega)).mono ?_
  rintro e w1 ⟨v1, rfl, ho1, hB1⟩
  go_wp2_with fail
  refine (sum_any A n c xs w1 (hz.below hB1)).mono ?_
  rintro e w2 ⟨rfl, rfl⟩
  generalize hsx : sum xs = s at *
  have Hsx := hid hsx
  clear hsx
  have hs : (s : Int) ≤ 4294967295 := by omega
  go_wp2_with fail
  refine (put_any w.heap.size v1 xs s 4 _ ho1 hB1.size (by omega) (by omega) (by rw [Hl.out]; omega)).mono ?_
  rintro e w3 ⟨v3, rfl, ho3, hg3⟩
  go_wp2
  go_ret
  exact ⟨_, rfl, by rw [Hsx.out]; exact ho3, hg3.below hB1 hB1.size (fun k hk => (ho1.lt k hk).1)⟩

end Go.Proofs.Ytcfildbgnjhjmaa.Oct
