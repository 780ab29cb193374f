import Derived.Test.YtineicehipgnjaaNandAwake
import Derived.Laws.BytesString
import Derived.Laws.BytesArg
set_option linter.unusedVariables false
set_option linter.unusedSimpArgs false
namespace Go.Proofs.Ytineicehipgnjaa.Nand
open Go.RowKit Go.Proofs.Ytineicehipgnjaa.Kit

theorem conv_str {w : World} {A : Option Addr} {n c : Nat} {xs : List Int} (h : Nums w .u8 A n xs) : (convert 27 9 (.slice A n c)).run Try.prog w = .ok (.string (strOfNums xs)) w := by
  rcases A with _ | ad
  · have h0 : n = 0 := by
      rcases Nat.eq_zero_or_pos n with h0 | h0
      · exact h0
      · obtain ⟨b, o, e, _⟩ := h.cell 0 h0
        cases e
    subst h0
    obtain rfl : xs = [] := List.eq_nil_of_length_eq_zero h.len
    exact run_convert_bytes_nil w 27 5 Try.underlying27 Try.underlying5 0 c 9 Try.underlying9
  · by_cases h0 : n = 0
    · subst h0
      obtain rfl : xs = [] := List.eq_nil_of_length_eq_zero h.len
      have hl : (loadCells ad 0).run Try.prog w = .ok #[] w := by
        have := run_loadCells_list (P := Try.prog) w ad [] (fun j v hj => by simp at hj)
        simpa using this
      rw [run_convert_bytes_string w 27 9 5 _ 0 c Try.underlying27 Try.underlying5 Try.underlying9, run_bytesToString w _ 0 c [] (by simpa using hl), foldl_push_bytes]
      simp [strOfNums, ByteArray.empty, ByteArray.emptyWithCapacity]
      rfl
    · obtain ⟨b, o, e, hc⟩ := h.cell 0 (by omega)
      injection e with e
      subst e
      exact run_convert_bytes_arg w 27 5 Try.underlying27 Try.underlying5 b o n c xs h.len hc 9 Try.underlying9

theorem str_eq_true {xs ys : List Int} (h : xs = ys) : ((strOfNums xs).toList == (strOfNums ys).toList) = true := by subst h; simp
end Go.Proofs.Ytineicehipgnjaa.Nand
