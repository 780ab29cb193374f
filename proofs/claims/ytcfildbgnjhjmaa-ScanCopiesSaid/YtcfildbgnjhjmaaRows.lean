/-
  No cell of these rows narrows 'for every input' (looked for: loops, veiled, ifaces, maps, wideKeys, modest, calm, conditions, laid).
  DERIVED. THE GIVEN ROWS OF THIS SEAT. 10 by the template 'for every input the law returns true; each argument reads behind the call as it read before'; 0 by the template 'total and deterministic' (their statements: YtcfildbgnjhjmaaTotals.lean).
  GIVEN WITH THE SEED: the statements are not yours to turn. If you find one false, say at which input.
  Laid BY PROGRAM, IN A SANDBOX (cutbox-rows.mjs): the forced cells as the released guide's own fill.sh prints them over the translation 0f1650d64f06343b… (all of the seat's roots in one cut). By AI agents, Wed Nov 11 2026. No macro, syntax, notation, axiom, sorry.
-/
import Derived.Test.YtcfildbgnjhjmaaChecked
import GoSem.Claim
import GoSem.ClaimJoined
import GoSem.ClaimMapViews
import Derived.JoinedTies
import Derived.KernelRfl
namespace Go.Proofs.Ytcfildbgnjhjmaa
/- THE CELL 'sum', in the pinned program and in every row, IS THE sha256 OF THE DUMP (.gsa) THAT YtcfildbgnjhjmaaProg.lean LOADS. Nothing in Lean hashes anything: it is a label: what it is worth is what the hold of that sum in a sandbox is worth. -/
noncomputable def Try.pinned : Pinned := { name := "ytcfildbgnjhjmaa", sum := "0f1650d64f06343b1e1b84fade889d31d3fc068cf7c65c1859fa6da68770de88", checked := Try.checked }
namespace Rows
def none {H : Type} : Left H := { results := [], args := [] }

/-- 'drawbarlaw06.LogbookPlays': WHATEVER THE INPUT: true; the input reads as it did. -/
def logbookPlaysSpec : ChangeSpec := { name := "logbookPlays", fn := fun _ => fun
  | [d1, d2] => { results := [.lit (.bool true)], args := [d1, d2] }
  | _ => none }
def logbookPlaysRow : OpenClaim := { program := "ytcfildbgnjhjmaa", sum := "0f1650d64f06343b1e1b84fade889d31d3fc068cf7c65c1859fa6da68770de88", func := "drawbar/drawbarlaw06.LogbookPlays", spec := "logbookPlays", unfollowed := true, recurses := true, apart := false }
def LogbookPlaysSaid : Prop := logbookPlaysRow.holds Try.pinned (OpenSpec.ofChange logbookPlaysSpec)

/-- ITS FALSE NEIGHBOUR: 'it returns false'. Refute it at one input. -/
def logbookPlaysWrong : ChangeSpec := { name := "logbookPlays", fn := fun _ => fun
  | [d1, d2] => { results := [.lit (.bool false)], args := [d1, d2] }
  | _ => none }
def LogbookPlaysWrongFalsely : Prop := logbookPlaysRow.holds Try.pinned (OpenSpec.ofChange logbookPlaysWrong)

/-- 'drawbarlaw06.LogbookOnce': WHATEVER THE INPUT: true; the input reads as it did. -/
def logbookOnceSpec : ChangeSpec := { name := "logbookOnce", fn := fun _ => fun
  | [d1, d2, d3] => { results := [.lit (.bool true)], args := [d1, d2, d3] }
  | _ => none }
def logbookOnceRow : OpenClaim := { program := "ytcfildbgnjhjmaa", sum := "0f1650d64f06343b1e1b84fade889d31d3fc068cf7c65c1859fa6da68770de88", func := "drawbar/drawbarlaw06.LogbookOnce", spec := "logbookOnce", unfollowed := true, recurses := true, apart := false }
def LogbookOnceSaid : Prop := logbookOnceRow.holds Try.pinned (OpenSpec.ofChange logbookOnceSpec)

/-- ITS FALSE NEIGHBOUR: 'it returns false'. Refute it at one input. -/
def logbookOnceWrong : ChangeSpec := { name := "logbookOnce", fn := fun _ => fun
  | [d1, d2, d3] => { results := [.lit (.bool false)], args := [d1, d2, d3] }
  | _ => none }
def LogbookOnceWrongFalsely : Prop := logbookOnceRow.holds Try.pinned (OpenSpec.ofChange logbookOnceWrong)

/-- 'drawbarlaw06.LogbookMany': WHATEVER THE INPUT: true; the input reads as it did. -/
def logbookManySpec : ChangeSpec := { name := "logbookMany", fn := fun _ => fun
  | [d1, d2] => { results := [.lit (.bool true)], args := [d1, d2] }
  | _ => none }
def logbookManyRow : OpenClaim := { program := "ytcfildbgnjhjmaa", sum := "0f1650d64f06343b1e1b84fade889d31d3fc068cf7c65c1859fa6da68770de88", func := "drawbar/drawbarlaw06.LogbookMany", spec := "logbookMany", unfollowed := true, recurses := true, apart := false }
def LogbookManySaid : Prop := logbookManyRow.holds Try.pinned (OpenSpec.ofChange logbookManySpec)

/-- ITS FALSE NEIGHBOUR: 'it returns false'. Refute it at one input. -/
def logbookManyWrong : ChangeSpec := { name := "logbookMany", fn := fun _ => fun
  | [d1, d2] => { results := [.lit (.bool false)], args := [d1, d2] }
  | _ => none }
def LogbookManyWrongFalsely : Prop := logbookManyRow.holds Try.pinned (OpenSpec.ofChange logbookManyWrong)

/-- 'drawbarlaw06.LogbookFenced': WHATEVER THE INPUT: true; the input reads as it did. -/
def logbookFencedSpec : ChangeSpec := { name := "logbookFenced", fn := fun _ => fun
  | [d1, d2] => { results := [.lit (.bool true)], args := [d1, d2] }
  | _ => none }
def logbookFencedRow : OpenClaim := { program := "ytcfildbgnjhjmaa", sum := "0f1650d64f06343b1e1b84fade889d31d3fc068cf7c65c1859fa6da68770de88", func := "drawbar/drawbarlaw06.LogbookFenced", spec := "logbookFenced", unfollowed := true, recurses := true, apart := false }
def LogbookFencedSaid : Prop := logbookFencedRow.holds Try.pinned (OpenSpec.ofChange logbookFencedSpec)

/-- ITS FALSE NEIGHBOUR: 'it returns false'. Refute it at one input. -/
def logbookFencedWrong : ChangeSpec := { name := "logbookFenced", fn := fun _ => fun
  | [d1, d2] => { results := [.lit (.bool false)], args := [d1, d2] }
  | _ => none }
def LogbookFencedWrongFalsely : Prop := logbookFencedRow.holds Try.pinned (OpenSpec.ofChange logbookFencedWrong)

/-- 'drawbarlaw06.LogbookFails': WHATEVER THE INPUT: true; the input reads as it did. -/
def logbookFailsSpec : ChangeSpec := { name := "logbookFails", fn := fun _ => fun
  | [d1, d2, d3, d4] => { results := [.lit (.bool true)], args := [d1, d2, d3, d4] }
  | _ => none }
def logbookFailsRow : OpenClaim := { program := "ytcfildbgnjhjmaa", sum := "0f1650d64f06343b1e1b84fade889d31d3fc068cf7c65c1859fa6da68770de88", func := "drawbar/drawbarlaw06.LogbookFails", spec := "logbookFails", unfollowed := true, recurses := true, apart := false }
def LogbookFailsSaid : Prop := logbookFailsRow.holds Try.pinned (OpenSpec.ofChange logbookFailsSpec)

/-- ITS FALSE NEIGHBOUR: 'it returns false'. Refute it at one input. -/
def logbookFailsWrong : ChangeSpec := { name := "logbookFails", fn := fun _ => fun
  | [d1, d2, d3, d4] => { results := [.lit (.bool false)], args := [d1, d2, d3, d4] }
  | _ => none }
def LogbookFailsWrongFalsely : Prop := logbookFailsRow.holds Try.pinned (OpenSpec.ofChange logbookFailsWrong)

/-- 'drawbarlaw09.ScanNewest': WHATEVER THE INPUT: true; the input reads as it did. -/
def scanNewestSpec : ChangeSpec := { name := "scanNewest", fn := fun _ => fun
  | [d1, d2, d3] => { results := [.lit (.bool true)], args := [d1, d2, d3] }
  | _ => none }
def scanNewestRow : OpenClaim := { program := "ytcfildbgnjhjmaa", sum := "0f1650d64f06343b1e1b84fade889d31d3fc068cf7c65c1859fa6da68770de88", func := "drawbar/drawbarlaw09.ScanNewest", spec := "scanNewest", unfollowed := true, recurses := true, apart := false }
def ScanNewestSaid : Prop := scanNewestRow.holds Try.pinned (OpenSpec.ofChange scanNewestSpec)

/-- ITS FALSE NEIGHBOUR: 'it returns false'. Refute it at one input. -/
def scanNewestWrong : ChangeSpec := { name := "scanNewest", fn := fun _ => fun
  | [d1, d2, d3] => { results := [.lit (.bool false)], args := [d1, d2, d3] }
  | _ => none }
def ScanNewestWrongFalsely : Prop := scanNewestRow.holds Try.pinned (OpenSpec.ofChange scanNewestWrong)

/-- 'drawbarlaw09.ScanForeign': WHATEVER THE INPUT: true; the input reads as it did. -/
def scanForeignSpec : ChangeSpec := { name := "scanForeign", fn := fun _ => fun
  | [d1, d2, d3] => { results := [.lit (.bool true)], args := [d1, d2, d3] }
  | _ => none }
def scanForeignRow : OpenClaim := { program := "ytcfildbgnjhjmaa", sum := "0f1650d64f06343b1e1b84fade889d31d3fc068cf7c65c1859fa6da68770de88", func := "drawbar/drawbarlaw09.ScanForeign", spec := "scanForeign", unfollowed := true, recurses := true, apart := false }
def ScanForeignSaid : Prop := scanForeignRow.holds Try.pinned (OpenSpec.ofChange scanForeignSpec)

/-- ITS FALSE NEIGHBOUR: 'it returns false'. Refute it at one input. -/
def scanForeignWrong : ChangeSpec := { name := "scanForeign", fn := fun _ => fun
  | [d1, d2, d3] => { results := [.lit (.bool false)], args := [d1, d2, d3] }
  | _ => none }
def ScanForeignWrongFalsely : Prop := scanForeignRow.holds Try.pinned (OpenSpec.ofChange scanForeignWrong)

/-- 'drawbarlaw09.ScanCopies': WHATEVER THE INPUT: true; the input reads as it did. -/
def scanCopiesSpec : ChangeSpec := { name := "scanCopies", fn := fun _ => fun
  | [d1, d2, d3] => { results := [.lit (.bool true)], args := [d1, d2, d3] }
  | _ => none }
def scanCopiesRow : OpenClaim := { program := "ytcfildbgnjhjmaa", sum := "0f1650d64f06343b1e1b84fade889d31d3fc068cf7c65c1859fa6da68770de88", func := "drawbar/drawbarlaw09.ScanCopies", spec := "scanCopies", unfollowed := true, recurses := true, apart := false }
def ScanCopiesSaid : Prop := scanCopiesRow.holds Try.pinned (OpenSpec.ofChange scanCopiesSpec)

/-- ITS FALSE NEIGHBOUR: 'it returns false'. Refute it at one input. -/
def scanCopiesWrong : ChangeSpec := { name := "scanCopies", fn := fun _ => fun
  | [d1, d2, d3] => { results := [.lit (.bool false)], args := [d1, d2, d3] }
  | _ => none }
def ScanCopiesWrongFalsely : Prop := scanCopiesRow.holds Try.pinned (OpenSpec.ofChange scanCopiesWrong)

/-- 'drawbarlaw09.ScanBlocks': WHATEVER THE INPUT: true; the input reads as it did. -/
def scanBlocksSpec : ChangeSpec := { name := "scanBlocks", fn := fun _ => fun
  | [d1, d2] => { results := [.lit (.bool true)], args := [d1, d2] }
  | _ => none }
def scanBlocksRow : OpenClaim := { program := "ytcfildbgnjhjmaa", sum := "0f1650d64f06343b1e1b84fade889d31d3fc068cf7c65c1859fa6da68770de88", func := "drawbar/drawbarlaw09.ScanBlocks", spec := "scanBlocks", unfollowed := true, recurses := true, apart := false }
def ScanBlocksSaid : Prop := scanBlocksRow.holds Try.pinned (OpenSpec.ofChange scanBlocksSpec)

/-- ITS FALSE NEIGHBOUR: 'it returns false'. Refute it at one input. -/
def scanBlocksWrong : ChangeSpec := { name := "scanBlocks", fn := fun _ => fun
  | [d1, d2] => { results := [.lit (.bool false)], args := [d1, d2] }
  | _ => none }
def ScanBlocksWrongFalsely : Prop := scanBlocksRow.holds Try.pinned (OpenSpec.ofChange scanBlocksWrong)

/-- 'drawbarlaw09.ScanAll': WHATEVER THE INPUT: true; the input reads as it did. -/
def scanAllSpec : ChangeSpec := { name := "scanAll", fn := fun _ => fun
  | [d1, d2] => { results := [.lit (.bool true)], args := [d1, d2] }
  | _ => none }
def scanAllRow : OpenClaim := { program := "ytcfildbgnjhjmaa", sum := "0f1650d64f06343b1e1b84fade889d31d3fc068cf7c65c1859fa6da68770de88", func := "drawbar/drawbarlaw09.ScanAll", spec := "scanAll", unfollowed := true, recurses := true, apart := false }
def ScanAllSaid : Prop := scanAllRow.holds Try.pinned (OpenSpec.ofChange scanAllSpec)

/-- ITS FALSE NEIGHBOUR: 'it returns false'. Refute it at one input. -/
def scanAllWrong : ChangeSpec := { name := "scanAll", fn := fun _ => fun
  | [d1, d2] => { results := [.lit (.bool false)], args := [d1, d2] }
  | _ => none }
def ScanAllWrongFalsely : Prop := scanAllRow.holds Try.pinned (OpenSpec.ofChange scanAllWrong)

/- THE SECOND FORM. 'bulk': how many values and letters a reading holds, each counted each time it is reached (what is shared counts as often as it is met; a slice's spare places count too). A statement '..UptoSaid' is the law's where the arguments, and the package variables that the reading takes, are together of bulk at most 1048576: NARROWER than '..Said'. Prove '..Said' where nothing that the law and all that it calls make is longer than what came in: it says more and counts as full. Else prove '..UptoSaid'. A law counts once. -/
mutual
def uptoBulk {H : Type} : DataW H → Nat
  | .lit (.string bytes) => bytes.length + 1
  | .lit _ => 1
  | .nil => 1
  | .ptr d => uptoBulk d + 1
  | .slice elems spare => uptoBulkAll elems + uptoBulkAll spare + 1
  | .agg parts => uptoBulkAll parts + 1
  | .iface _ d => uptoBulk d + 1
  | .map entries => uptoBulkEntries entries + 1
  | .held _ => 1
def uptoBulkAll {H : Type} : List (DataW H) → Nat
  | [] => 0
  | d :: r => uptoBulk d + uptoBulkAll r
def uptoBulkEntries {H : Type} : List (Lit × DataW H) → Nat
  | [] => 0
  | x :: r => uptoBulkEntry x + uptoBulkEntries r
def uptoBulkEntry {H : Type} : Lit × DataW H → Nat
  | (.string bytes, d) => bytes.length + uptoBulk d + 1
  | (_, d) => uptoBulk d + 1
 end
def uptoSmall : (H : Type) → List (DataW H) → Bool := fun _ ds => decide (uptoBulkAll ds ≤ 1048576)
def OpenSpec.upto (s : _root_.Go.ChangeSpec) : _root_.Go.OpenSpec := { _root_.Go.OpenSpec.ofChange s with cond := some uptoSmall }

/-- 'drawbarlaw06.LogbookPlays', WHERE WHAT IT READS IS OF BULK AT MOST 1048576: true; the input reads as it did. -/
def logbookPlaysUptoRow : OpenClaim := { program := "ytcfildbgnjhjmaa", sum := "0f1650d64f06343b1e1b84fade889d31d3fc068cf7c65c1859fa6da68770de88", func := "drawbar/drawbarlaw06.LogbookPlays", spec := "logbookPlays", unfollowed := true, recurses := true, apart := false, narrowed := true }
def LogbookPlaysUptoSaid : Prop := logbookPlaysUptoRow.holds Try.pinned (OpenSpec.upto logbookPlaysSpec)

/-- 'drawbarlaw06.LogbookOnce', WHERE WHAT IT READS IS OF BULK AT MOST 1048576: true; the input reads as it did. -/
def logbookOnceUptoRow : OpenClaim := { program := "ytcfildbgnjhjmaa", sum := "0f1650d64f06343b1e1b84fade889d31d3fc068cf7c65c1859fa6da68770de88", func := "drawbar/drawbarlaw06.LogbookOnce", spec := "logbookOnce", unfollowed := true, recurses := true, apart := false, narrowed := true }
def LogbookOnceUptoSaid : Prop := logbookOnceUptoRow.holds Try.pinned (OpenSpec.upto logbookOnceSpec)

/-- 'drawbarlaw06.LogbookMany', WHERE WHAT IT READS IS OF BULK AT MOST 1048576: true; the input reads as it did. -/
def logbookManyUptoRow : OpenClaim := { program := "ytcfildbgnjhjmaa", sum := "0f1650d64f06343b1e1b84fade889d31d3fc068cf7c65c1859fa6da68770de88", func := "drawbar/drawbarlaw06.LogbookMany", spec := "logbookMany", unfollowed := true, recurses := true, apart := false, narrowed := true }
def LogbookManyUptoSaid : Prop := logbookManyUptoRow.holds Try.pinned (OpenSpec.upto logbookManySpec)

/-- 'drawbarlaw06.LogbookFenced', WHERE WHAT IT READS IS OF BULK AT MOST 1048576: true; the input reads as it did. -/
def logbookFencedUptoRow : OpenClaim := { program := "ytcfildbgnjhjmaa", sum := "0f1650d64f06343b1e1b84fade889d31d3fc068cf7c65c1859fa6da68770de88", func := "drawbar/drawbarlaw06.LogbookFenced", spec := "logbookFenced", unfollowed := true, recurses := true, apart := false, narrowed := true }
def LogbookFencedUptoSaid : Prop := logbookFencedUptoRow.holds Try.pinned (OpenSpec.upto logbookFencedSpec)

/-- 'drawbarlaw06.LogbookFails', WHERE WHAT IT READS IS OF BULK AT MOST 1048576: true; the input reads as it did. -/
def logbookFailsUptoRow : OpenClaim := { program := "ytcfildbgnjhjmaa", sum := "0f1650d64f06343b1e1b84fade889d31d3fc068cf7c65c1859fa6da68770de88", func := "drawbar/drawbarlaw06.LogbookFails", spec := "logbookFails", unfollowed := true, recurses := true, apart := false, narrowed := true }
def LogbookFailsUptoSaid : Prop := logbookFailsUptoRow.holds Try.pinned (OpenSpec.upto logbookFailsSpec)

/-- 'drawbarlaw09.ScanNewest', WHERE WHAT IT READS IS OF BULK AT MOST 1048576: true; the input reads as it did. -/
def scanNewestUptoRow : OpenClaim := { program := "ytcfildbgnjhjmaa", sum := "0f1650d64f06343b1e1b84fade889d31d3fc068cf7c65c1859fa6da68770de88", func := "drawbar/drawbarlaw09.ScanNewest", spec := "scanNewest", unfollowed := true, recurses := true, apart := false, narrowed := true }
def ScanNewestUptoSaid : Prop := scanNewestUptoRow.holds Try.pinned (OpenSpec.upto scanNewestSpec)

/-- 'drawbarlaw09.ScanForeign', WHERE WHAT IT READS IS OF BULK AT MOST 1048576: true; the input reads as it did. -/
def scanForeignUptoRow : OpenClaim := { program := "ytcfildbgnjhjmaa", sum := "0f1650d64f06343b1e1b84fade889d31d3fc068cf7c65c1859fa6da68770de88", func := "drawbar/drawbarlaw09.ScanForeign", spec := "scanForeign", unfollowed := true, recurses := true, apart := false, narrowed := true }
def ScanForeignUptoSaid : Prop := scanForeignUptoRow.holds Try.pinned (OpenSpec.upto scanForeignSpec)

/-- 'drawbarlaw09.ScanCopies', WHERE WHAT IT READS IS OF BULK AT MOST 1048576: true; the input reads as it did. -/
def scanCopiesUptoRow : OpenClaim := { program := "ytcfildbgnjhjmaa", sum := "0f1650d64f06343b1e1b84fade889d31d3fc068cf7c65c1859fa6da68770de88", func := "drawbar/drawbarlaw09.ScanCopies", spec := "scanCopies", unfollowed := true, recurses := true, apart := false, narrowed := true }
def ScanCopiesUptoSaid : Prop := scanCopiesUptoRow.holds Try.pinned (OpenSpec.upto scanCopiesSpec)

/-- 'drawbarlaw09.ScanBlocks', WHERE WHAT IT READS IS OF BULK AT MOST 1048576: true; the input reads as it did. -/
def scanBlocksUptoRow : OpenClaim := { program := "ytcfildbgnjhjmaa", sum := "0f1650d64f06343b1e1b84fade889d31d3fc068cf7c65c1859fa6da68770de88", func := "drawbar/drawbarlaw09.ScanBlocks", spec := "scanBlocks", unfollowed := true, recurses := true, apart := false, narrowed := true }
def ScanBlocksUptoSaid : Prop := scanBlocksUptoRow.holds Try.pinned (OpenSpec.upto scanBlocksSpec)

/-- 'drawbarlaw09.ScanAll', WHERE WHAT IT READS IS OF BULK AT MOST 1048576: true; the input reads as it did. -/
def scanAllUptoRow : OpenClaim := { program := "ytcfildbgnjhjmaa", sum := "0f1650d64f06343b1e1b84fade889d31d3fc068cf7c65c1859fa6da68770de88", func := "drawbar/drawbarlaw09.ScanAll", spec := "scanAll", unfollowed := true, recurses := true, apart := false, narrowed := true }
def ScanAllUptoSaid : Prop := scanAllUptoRow.holds Try.pinned (OpenSpec.upto scanAllSpec)

end Rows
end Go.Proofs.Ytcfildbgnjhjmaa
