import Derived.Test.YtpncgfdnilmhhaaSheetLay
set_option linter.unusedVariables false
set_option linter.unusedSimpArgs false
namespace Go.Proofs.Ytpncgfdnilmhhaa.Sheet
open Go.RowKit Go.Proofs.Ytpncgfdnilmhhaa.Kit Go.Proofs.Ytpncgfdnilmhhaa.Oct

set_option maxHeartbeats 4000000 in
theorem awake_any (w : World) : Calls Try.prog 11 #[] w fun e w' => e = .returned (.bool true) ∧ Below w.heap.size w w' := by
  go_enter Try.func11, Try.ntmps11
  go_wp2_with fail
  refine (lay_any 1 0 0 0 0 (-1) none 0 0 [] w (Nums.none _ _ _) (by decide) (by decide) (by decide) (by decide) (by decide) rfl (by decide)).mono ?_
  rintro e w1 ⟨v, rfl, ho, hB⟩
  obtain ⟨A, c, e1, hc, hz⟩ := ho.reads (page_isB 1 0 0 0 0 (fun x hx => by cases hx))
  have hl : (page 1 0 0 0 0 []).length = 96 := page_len _ _ _ _ _ _ (by decide)
  rw [hl] at e1 hc hz
  have h95 : (page 1 0 0 0 0 []).getD 95 0 = 90 := by decide
  generalize page 1 0 0 0 0 [] = pg at *
  subst e1
  obtain ⟨b, o, rfl, hcell⟩ := hz.cell 95 (by decide)
  have hc95 := hcell 95 (by decide)
  rw [h95] at hc95
  clear ho hz hcell
  go_wp2
  go_ret
  exact ⟨rfl, hB⟩
end Go.Proofs.Ytpncgfdnilmhhaa.Sheet
