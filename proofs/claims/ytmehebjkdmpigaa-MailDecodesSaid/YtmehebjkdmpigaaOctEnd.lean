import Derived.Test.YtmehebjkdmpigaaOctRead
set_option linter.unusedVariables false
set_option linter.unusedSimpArgs false
namespace Go.Proofs.Ytmehebjkdmpigaa.Oct
open Go.RowKit Go.Proofs.Ytmehebjkdmpigaa.Kit

theorem end_nil (w : World) :
    Calls Try.prog 26 #[.pointer none] w fun e w' => e = .returned (.bool false) ∧ w' = w := by
  go_enter Try.func26, Try.ntmps26
  go_wp2
  go_ret
  exact ⟨rfl, rfl⟩
theorem end_any (b : Nat) (bad : Bool) (xs : List Int) (w : World) (h : Rd w b bad xs) :
    Calls Try.prog 26 #[.pointer (some ⟨b, 0, none⟩)] w fun e w' => e = .returned (.bool (!bad && decide (xs.length = 0))) ∧ w' = w := by
  obtain ⟨A, n, c, hblk, hz, hnc, hab⟩ := h
  have h0 := hblk.cell 0
  have h1 := hblk.cell 1
  simp only [List.getElem?_toArray, List.getElem?_cons_zero, List.getElem?_cons_succ] at h0 h1
  have hn := hz.most
  rw [hz.len]
  clear hz hblk
  cases bad
  · by_cases h0 : n = 0
    · go_enter Try.func26, Try.ntmps26
      go_wp2
      go_ret
      exact ⟨by simp [h0], rfl⟩
    · go_enter Try.func26, Try.ntmps26
      go_wp2
      go_ret
      exact ⟨by simp [h0], rfl⟩
  · go_enter Try.func26, Try.ntmps26
    go_wp2
    go_ret
    exact ⟨rfl, rfl⟩

end Go.Proofs.Ytmehebjkdmpigaa.Oct
