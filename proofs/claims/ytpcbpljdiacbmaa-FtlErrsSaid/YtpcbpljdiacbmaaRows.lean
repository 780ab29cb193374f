/-
  No cell of these rows narrows 'for every input' (looked for: loops, veiled, ifaces, maps, wideKeys, modest, calm, conditions, laid).
  DERIVED. THE GIVEN ROWS OF THIS SEAT. 10 by the template 'for every input the law returns true; each argument reads behind the call as it read before'; 0 by the template 'total and deterministic' (their statements: YtpcbpljdiacbmaaTotals.lean).
  GIVEN WITH THE SEED: the statements are not yours to turn. If you find one false, say at which input.
  Laid BY PROGRAM, IN A SANDBOX (cutbox-rows.mjs): the forced cells as the released guide's own fill.sh prints them over the translation 772bfba18fffcdff… (all of the seat's roots in one cut). By AI agents, Wed Nov 11 2026. No macro, syntax, notation, axiom, sorry.
-/
import Derived.Test.YtpcbpljdiacbmaaChecked
import GoSem.Claim
import GoSem.ClaimJoined
import GoSem.ClaimMapViews
import Derived.JoinedTies
import Derived.KernelRfl
namespace Go.Proofs.Ytpcbpljdiacbmaa
/- THE CELL 'sum', in the pinned program and in every row, IS THE sha256 OF THE DUMP (.gsa) THAT YtpcbpljdiacbmaaProg.lean LOADS. Nothing in Lean hashes anything: it is a label: what it is worth is what the hold of that sum in a sandbox is worth. -/
noncomputable def Try.pinned : Pinned := { name := "ytpcbpljdiacbmaa", sum := "772bfba18fffcdffd0fe247039aaadc3f61bb025072e3e49b00e3c1b3870d8d9", checked := Try.checked }
namespace Rows
def none {H : Type} : Left H := { results := [], args := [] }

/-- 'drawbarlaw10.FtlTrims': WHATEVER THE INPUT: true; the input reads as it did. -/
def ftlTrimsSpec : ChangeSpec := { name := "ftlTrims", fn := fun _ => fun
  | [d1, d2] => { results := [.lit (.bool true)], args := [d1, d2] }
  | _ => none }
def ftlTrimsRow : OpenClaim := { program := "ytpcbpljdiacbmaa", sum := "772bfba18fffcdffd0fe247039aaadc3f61bb025072e3e49b00e3c1b3870d8d9", func := "drawbar/drawbarlaw10.FtlTrims", spec := "ftlTrims", unfollowed := true, recurses := true, apart := false }
def FtlTrimsSaid : Prop := ftlTrimsRow.holds Try.pinned (OpenSpec.ofChange ftlTrimsSpec)

/-- ITS FALSE NEIGHBOUR: 'it returns false'. Refute it at one input. -/
def ftlTrimsWrong : ChangeSpec := { name := "ftlTrims", fn := fun _ => fun
  | [d1, d2] => { results := [.lit (.bool false)], args := [d1, d2] }
  | _ => none }
def FtlTrimsWrongFalsely : Prop := ftlTrimsRow.holds Try.pinned (OpenSpec.ofChange ftlTrimsWrong)

/-- 'drawbarlaw10.FtlMounts': WHATEVER THE INPUT: true; the input reads as it did. -/
def ftlMountsSpec : ChangeSpec := { name := "ftlMounts", fn := fun _ => fun
  | [d1, d2, d3] => { results := [.lit (.bool true)], args := [d1, d2, d3] }
  | _ => none }
def ftlMountsRow : OpenClaim := { program := "ytpcbpljdiacbmaa", sum := "772bfba18fffcdffd0fe247039aaadc3f61bb025072e3e49b00e3c1b3870d8d9", func := "drawbar/drawbarlaw10.FtlMounts", spec := "ftlMounts", unfollowed := true, recurses := true, apart := false }
def FtlMountsSaid : Prop := ftlMountsRow.holds Try.pinned (OpenSpec.ofChange ftlMountsSpec)

/-- ITS FALSE NEIGHBOUR: 'it returns false'. Refute it at one input. -/
def ftlMountsWrong : ChangeSpec := { name := "ftlMounts", fn := fun _ => fun
  | [d1, d2, d3] => { results := [.lit (.bool false)], args := [d1, d2, d3] }
  | _ => none }
def FtlMountsWrongFalsely : Prop := ftlMountsRow.holds Try.pinned (OpenSpec.ofChange ftlMountsWrong)

/-- 'drawbarlaw10.FtlPlays': WHATEVER THE INPUT: true; the input reads as it did. -/
def ftlPlaysSpec : ChangeSpec := { name := "ftlPlays", fn := fun _ => fun
  | [d1, d2] => { results := [.lit (.bool true)], args := [d1, d2] }
  | _ => none }
def ftlPlaysRow : OpenClaim := { program := "ytpcbpljdiacbmaa", sum := "772bfba18fffcdffd0fe247039aaadc3f61bb025072e3e49b00e3c1b3870d8d9", func := "drawbar/drawbarlaw10.FtlPlays", spec := "ftlPlays", unfollowed := true, recurses := true, apart := false }
def FtlPlaysSaid : Prop := ftlPlaysRow.holds Try.pinned (OpenSpec.ofChange ftlPlaysSpec)

/-- ITS FALSE NEIGHBOUR: 'it returns false'. Refute it at one input. -/
def ftlPlaysWrong : ChangeSpec := { name := "ftlPlays", fn := fun _ => fun
  | [d1, d2] => { results := [.lit (.bool false)], args := [d1, d2] }
  | _ => none }
def FtlPlaysWrongFalsely : Prop := ftlPlaysRow.holds Try.pinned (OpenSpec.ofChange ftlPlaysWrong)

/-- 'drawbarlaw10.FtlWears': WHATEVER THE INPUT: true; the input reads as it did. -/
def ftlWearsSpec : ChangeSpec := { name := "ftlWears", fn := fun _ => fun
  | [d1, d2, d3] => { results := [.lit (.bool true)], args := [d1, d2, d3] }
  | _ => none }
def ftlWearsRow : OpenClaim := { program := "ytpcbpljdiacbmaa", sum := "772bfba18fffcdffd0fe247039aaadc3f61bb025072e3e49b00e3c1b3870d8d9", func := "drawbar/drawbarlaw10.FtlWears", spec := "ftlWears", unfollowed := true, recurses := true, apart := false }
def FtlWearsSaid : Prop := ftlWearsRow.holds Try.pinned (OpenSpec.ofChange ftlWearsSpec)

/-- ITS FALSE NEIGHBOUR: 'it returns false'. Refute it at one input. -/
def ftlWearsWrong : ChangeSpec := { name := "ftlWears", fn := fun _ => fun
  | [d1, d2, d3] => { results := [.lit (.bool false)], args := [d1, d2, d3] }
  | _ => none }
def FtlWearsWrongFalsely : Prop := ftlWearsRow.holds Try.pinned (OpenSpec.ofChange ftlWearsWrong)

/-- 'drawbarlaw10.FtlSpreads': WHATEVER THE INPUT: true; the input reads as it did. -/
def ftlSpreadsSpec : ChangeSpec := { name := "ftlSpreads", fn := fun _ => fun
  | [d1, d2] => { results := [.lit (.bool true)], args := [d1, d2] }
  | _ => none }
def ftlSpreadsRow : OpenClaim := { program := "ytpcbpljdiacbmaa", sum := "772bfba18fffcdffd0fe247039aaadc3f61bb025072e3e49b00e3c1b3870d8d9", func := "drawbar/drawbarlaw10.FtlSpreads", spec := "ftlSpreads", unfollowed := true, recurses := true, apart := false }
def FtlSpreadsSaid : Prop := ftlSpreadsRow.holds Try.pinned (OpenSpec.ofChange ftlSpreadsSpec)

/-- ITS FALSE NEIGHBOUR: 'it returns false'. Refute it at one input. -/
def ftlSpreadsWrong : ChangeSpec := { name := "ftlSpreads", fn := fun _ => fun
  | [d1, d2] => { results := [.lit (.bool false)], args := [d1, d2] }
  | _ => none }
def FtlSpreadsWrongFalsely : Prop := ftlSpreadsRow.holds Try.pinned (OpenSpec.ofChange ftlSpreadsWrong)

/-- 'drawbarlaw10.FtlFails': WHATEVER THE INPUT: true; the input reads as it did. -/
def ftlFailsSpec : ChangeSpec := { name := "ftlFails", fn := fun _ => fun
  | [d1, d2] => { results := [.lit (.bool true)], args := [d1, d2] }
  | _ => none }
def ftlFailsRow : OpenClaim := { program := "ytpcbpljdiacbmaa", sum := "772bfba18fffcdffd0fe247039aaadc3f61bb025072e3e49b00e3c1b3870d8d9", func := "drawbar/drawbarlaw10.FtlFails", spec := "ftlFails", unfollowed := true, recurses := true, apart := false }
def FtlFailsSaid : Prop := ftlFailsRow.holds Try.pinned (OpenSpec.ofChange ftlFailsSpec)

/-- ITS FALSE NEIGHBOUR: 'it returns false'. Refute it at one input. -/
def ftlFailsWrong : ChangeSpec := { name := "ftlFails", fn := fun _ => fun
  | [d1, d2] => { results := [.lit (.bool false)], args := [d1, d2] }
  | _ => none }
def FtlFailsWrongFalsely : Prop := ftlFailsRow.holds Try.pinned (OpenSpec.ofChange ftlFailsWrong)

/-- 'drawbarlaw10.FtlFences': WHATEVER THE INPUT: true; the input reads as it did. -/
def ftlFencesSpec : ChangeSpec := { name := "ftlFences", fn := fun _ => fun
  | [d1, d2, d3] => { results := [.lit (.bool true)], args := [d1, d2, d3] }
  | _ => none }
def ftlFencesRow : OpenClaim := { program := "ytpcbpljdiacbmaa", sum := "772bfba18fffcdffd0fe247039aaadc3f61bb025072e3e49b00e3c1b3870d8d9", func := "drawbar/drawbarlaw10.FtlFences", spec := "ftlFences", unfollowed := true, recurses := true, apart := false }
def FtlFencesSaid : Prop := ftlFencesRow.holds Try.pinned (OpenSpec.ofChange ftlFencesSpec)

/-- ITS FALSE NEIGHBOUR: 'it returns false'. Refute it at one input. -/
def ftlFencesWrong : ChangeSpec := { name := "ftlFences", fn := fun _ => fun
  | [d1, d2, d3] => { results := [.lit (.bool false)], args := [d1, d2, d3] }
  | _ => none }
def FtlFencesWrongFalsely : Prop := ftlFencesRow.holds Try.pinned (OpenSpec.ofChange ftlFencesWrong)

/-- 'drawbarlaw10.FtlTwins': WHATEVER THE INPUT: true; the input reads as it did. -/
def ftlTwinsSpec : ChangeSpec := { name := "ftlTwins", fn := fun _ => fun
  | [d1, d2] => { results := [.lit (.bool true)], args := [d1, d2] }
  | _ => none }
def ftlTwinsRow : OpenClaim := { program := "ytpcbpljdiacbmaa", sum := "772bfba18fffcdffd0fe247039aaadc3f61bb025072e3e49b00e3c1b3870d8d9", func := "drawbar/drawbarlaw10.FtlTwins", spec := "ftlTwins", unfollowed := true, recurses := true, apart := false }
def FtlTwinsSaid : Prop := ftlTwinsRow.holds Try.pinned (OpenSpec.ofChange ftlTwinsSpec)

/-- ITS FALSE NEIGHBOUR: 'it returns false'. Refute it at one input. -/
def ftlTwinsWrong : ChangeSpec := { name := "ftlTwins", fn := fun _ => fun
  | [d1, d2] => { results := [.lit (.bool false)], args := [d1, d2] }
  | _ => none }
def FtlTwinsWrongFalsely : Prop := ftlTwinsRow.holds Try.pinned (OpenSpec.ofChange ftlTwinsWrong)

/-- 'drawbarlaw10.FtlErrs': WHATEVER THE INPUT: true; the input reads as it did. -/
def ftlErrsSpec : ChangeSpec := { name := "ftlErrs", fn := fun _ => fun
  | [d1, d2, d3, d4] => { results := [.lit (.bool true)], args := [d1, d2, d3, d4] }
  | _ => none }
def ftlErrsRow : OpenClaim := { program := "ytpcbpljdiacbmaa", sum := "772bfba18fffcdffd0fe247039aaadc3f61bb025072e3e49b00e3c1b3870d8d9", func := "drawbar/drawbarlaw10.FtlErrs", spec := "ftlErrs", unfollowed := true, recurses := true, apart := false }
def FtlErrsSaid : Prop := ftlErrsRow.holds Try.pinned (OpenSpec.ofChange ftlErrsSpec)

/-- ITS FALSE NEIGHBOUR: 'it returns false'. Refute it at one input. -/
def ftlErrsWrong : ChangeSpec := { name := "ftlErrs", fn := fun _ => fun
  | [d1, d2, d3, d4] => { results := [.lit (.bool false)], args := [d1, d2, d3, d4] }
  | _ => none }
def FtlErrsWrongFalsely : Prop := ftlErrsRow.holds Try.pinned (OpenSpec.ofChange ftlErrsWrong)

/-- 'drawbarlaw10.FtlFalls': WHATEVER THE INPUT: true; the input reads as it did. -/
def ftlFallsSpec : ChangeSpec := { name := "ftlFalls", fn := fun _ => fun
  | [d1, d2] => { results := [.lit (.bool true)], args := [d1, d2] }
  | _ => none }
def ftlFallsRow : OpenClaim := { program := "ytpcbpljdiacbmaa", sum := "772bfba18fffcdffd0fe247039aaadc3f61bb025072e3e49b00e3c1b3870d8d9", func := "drawbar/drawbarlaw10.FtlFalls", spec := "ftlFalls", unfollowed := true, recurses := true, apart := false }
def FtlFallsSaid : Prop := ftlFallsRow.holds Try.pinned (OpenSpec.ofChange ftlFallsSpec)

/-- ITS FALSE NEIGHBOUR: 'it returns false'. Refute it at one input. -/
def ftlFallsWrong : ChangeSpec := { name := "ftlFalls", fn := fun _ => fun
  | [d1, d2] => { results := [.lit (.bool false)], args := [d1, d2] }
  | _ => none }
def FtlFallsWrongFalsely : Prop := ftlFallsRow.holds Try.pinned (OpenSpec.ofChange ftlFallsWrong)

/- THE SECOND FORM. 'bulk': how many values and letters a reading holds, each counted each time it is reached (what is shared counts as often as it is met; a slice's spare places count too). A statement '..UptoSaid' is the law's where the arguments, and the package variables that the reading takes, are together of bulk at most 1048576: NARROWER than '..Said'. Prove '..Said' where nothing that the law and all that it calls make is longer than what came in: it says more and counts as full. Else prove '..UptoSaid'. A law counts once. -/
mutual
def uptoBulk {H : Type} : DataW H → Nat
  | .lit (.string bytes) => bytes.length + 1
  | .lit _ => 1
  | .nil => 1
  | .ptr d => uptoBulk d + 1
  | .slice elems spare => uptoBulkAll elems + uptoBulkAll spare + 1
  | .agg parts => uptoBulkAll parts + 1
  | .iface _ d => uptoBulk d + 1
  | .map entries => uptoBulkEntries entries + 1
  | .held _ => 1
def uptoBulkAll {H : Type} : List (DataW H) → Nat
  | [] => 0
  | d :: r => uptoBulk d + uptoBulkAll r
def uptoBulkEntries {H : Type} : List (Lit × DataW H) → Nat
  | [] => 0
  | x :: r => uptoBulkEntry x + uptoBulkEntries r
def uptoBulkEntry {H : Type} : Lit × DataW H → Nat
  | (.string bytes, d) => bytes.length + uptoBulk d + 1
  | (_, d) => uptoBulk d + 1
 end
def uptoSmall : (H : Type) → List (DataW H) → Bool := fun _ ds => decide (uptoBulkAll ds ≤ 1048576)
def OpenSpec.upto (s : _root_.Go.ChangeSpec) : _root_.Go.OpenSpec := { _root_.Go.OpenSpec.ofChange s with cond := some uptoSmall }

/-- 'drawbarlaw10.FtlTrims', WHERE WHAT IT READS IS OF BULK AT MOST 1048576: true; the input reads as it did. -/
def ftlTrimsUptoRow : OpenClaim := { program := "ytpcbpljdiacbmaa", sum := "772bfba18fffcdffd0fe247039aaadc3f61bb025072e3e49b00e3c1b3870d8d9", func := "drawbar/drawbarlaw10.FtlTrims", spec := "ftlTrims", unfollowed := true, recurses := true, apart := false, narrowed := true }
def FtlTrimsUptoSaid : Prop := ftlTrimsUptoRow.holds Try.pinned (OpenSpec.upto ftlTrimsSpec)

/-- 'drawbarlaw10.FtlMounts', WHERE WHAT IT READS IS OF BULK AT MOST 1048576: true; the input reads as it did. -/
def ftlMountsUptoRow : OpenClaim := { program := "ytpcbpljdiacbmaa", sum := "772bfba18fffcdffd0fe247039aaadc3f61bb025072e3e49b00e3c1b3870d8d9", func := "drawbar/drawbarlaw10.FtlMounts", spec := "ftlMounts", unfollowed := true, recurses := true, apart := false, narrowed := true }
def FtlMountsUptoSaid : Prop := ftlMountsUptoRow.holds Try.pinned (OpenSpec.upto ftlMountsSpec)

/-- 'drawbarlaw10.FtlPlays', WHERE WHAT IT READS IS OF BULK AT MOST 1048576: true; the input reads as it did. -/
def ftlPlaysUptoRow : OpenClaim := { program := "ytpcbpljdiacbmaa", sum := "772bfba18fffcdffd0fe247039aaadc3f61bb025072e3e49b00e3c1b3870d8d9", func := "drawbar/drawbarlaw10.FtlPlays", spec := "ftlPlays", unfollowed := true, recurses := true, apart := false, narrowed := true }
def FtlPlaysUptoSaid : Prop := ftlPlaysUptoRow.holds Try.pinned (OpenSpec.upto ftlPlaysSpec)

/-- 'drawbarlaw10.FtlWears', WHERE WHAT IT READS IS OF BULK AT MOST 1048576: true; the input reads as it did. -/
def ftlWearsUptoRow : OpenClaim := { program := "ytpcbpljdiacbmaa", sum := "772bfba18fffcdffd0fe247039aaadc3f61bb025072e3e49b00e3c1b3870d8d9", func := "drawbar/drawbarlaw10.FtlWears", spec := "ftlWears", unfollowed := true, recurses := true, apart := false, narrowed := true }
def FtlWearsUptoSaid : Prop := ftlWearsUptoRow.holds Try.pinned (OpenSpec.upto ftlWearsSpec)

/-- 'drawbarlaw10.FtlSpreads', WHERE WHAT IT READS IS OF BULK AT MOST 1048576: true; the input reads as it did. -/
def ftlSpreadsUptoRow : OpenClaim := { program := "ytpcbpljdiacbmaa", sum := "772bfba18fffcdffd0fe247039aaadc3f61bb025072e3e49b00e3c1b3870d8d9", func := "drawbar/drawbarlaw10.FtlSpreads", spec := "ftlSpreads", unfollowed := true, recurses := true, apart := false, narrowed := true }
def FtlSpreadsUptoSaid : Prop := ftlSpreadsUptoRow.holds Try.pinned (OpenSpec.upto ftlSpreadsSpec)

/-- 'drawbarlaw10.FtlFails', WHERE WHAT IT READS IS OF BULK AT MOST 1048576: true; the input reads as it did. -/
def ftlFailsUptoRow : OpenClaim := { program := "ytpcbpljdiacbmaa", sum := "772bfba18fffcdffd0fe247039aaadc3f61bb025072e3e49b00e3c1b3870d8d9", func := "drawbar/drawbarlaw10.FtlFails", spec := "ftlFails", unfollowed := true, recurses := true, apart := false, narrowed := true }
def FtlFailsUptoSaid : Prop := ftlFailsUptoRow.holds Try.pinned (OpenSpec.upto ftlFailsSpec)

/-- 'drawbarlaw10.FtlFences', WHERE WHAT IT READS IS OF BULK AT MOST 1048576: true; the input reads as it did. -/
def ftlFencesUptoRow : OpenClaim := { program := "ytpcbpljdiacbmaa", sum := "772bfba18fffcdffd0fe247039aaadc3f61bb025072e3e49b00e3c1b3870d8d9", func := "drawbar/drawbarlaw10.FtlFences", spec := "ftlFences", unfollowed := true, recurses := true, apart := false, narrowed := true }
def FtlFencesUptoSaid : Prop := ftlFencesUptoRow.holds Try.pinned (OpenSpec.upto ftlFencesSpec)

/-- 'drawbarlaw10.FtlTwins', WHERE WHAT IT READS IS OF BULK AT MOST 1048576: true; the input reads as it did. -/
def ftlTwinsUptoRow : OpenClaim := { program := "ytpcbpljdiacbmaa", sum := "772bfba18fffcdffd0fe247039aaadc3f61bb025072e3e49b00e3c1b3870d8d9", func := "drawbar/drawbarlaw10.FtlTwins", spec := "ftlTwins", unfollowed := true, recurses := true, apart := false, narrowed := true }
def FtlTwinsUptoSaid : Prop := ftlTwinsUptoRow.holds Try.pinned (OpenSpec.upto ftlTwinsSpec)

/-- 'drawbarlaw10.FtlErrs', WHERE WHAT IT READS IS OF BULK AT MOST 1048576: true; the input reads as it did. -/
def ftlErrsUptoRow : OpenClaim := { program := "ytpcbpljdiacbmaa", sum := "772bfba18fffcdffd0fe247039aaadc3f61bb025072e3e49b00e3c1b3870d8d9", func := "drawbar/drawbarlaw10.FtlErrs", spec := "ftlErrs", unfollowed := true, recurses := true, apart := false, narrowed := true }
def FtlErrsUptoSaid : Prop := ftlErrsUptoRow.holds Try.pinned (OpenSpec.upto ftlErrsSpec)

/-- 'drawbarlaw10.FtlFalls', WHERE WHAT IT READS IS OF BULK AT MOST 1048576: true; the input reads as it did. -/
def ftlFallsUptoRow : OpenClaim := { program := "ytpcbpljdiacbmaa", sum := "772bfba18fffcdffd0fe247039aaadc3f61bb025072e3e49b00e3c1b3870d8d9", func := "drawbar/drawbarlaw10.FtlFalls", spec := "ftlFalls", unfollowed := true, recurses := true, apart := false, narrowed := true }
def FtlFallsUptoSaid : Prop := ftlFallsUptoRow.holds Try.pinned (OpenSpec.upto ftlFallsSpec)

end Rows
end Go.Proofs.Ytpcbpljdiacbmaa
