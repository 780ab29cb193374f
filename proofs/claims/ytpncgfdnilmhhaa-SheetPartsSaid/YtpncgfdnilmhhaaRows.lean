/-
  No cell of these rows narrows 'for every input' (looked for: loops, veiled, ifaces, maps, wideKeys, modest, calm, conditions, laid).
  DERIVED. THE GIVEN ROWS OF THIS SEAT. 7 by the template 'for every input the law returns true; each argument reads behind the call as it read before'; 0 by the template 'total and deterministic' (their statements: YtpncgfdnilmhhaaTotals.lean).
  GIVEN WITH THE SEED: the statements are not yours to turn. If you find one false, say at which input.
  Laid BY PROGRAM, IN A SANDBOX (cutbox-rows.mjs): the forced cells as the released guide's own fill.sh prints them over the translation def5b24f4229f6b6… (all of the seat's roots in one cut). By AI agents, Wed Nov 11 2026. No macro, syntax, notation, axiom, sorry.
-/
import Derived.Test.YtpncgfdnilmhhaaChecked
import GoSem.Claim
import GoSem.ClaimJoined
import GoSem.ClaimMapViews
import Derived.JoinedTies
import Derived.KernelRfl
namespace Go.Proofs.Ytpncgfdnilmhhaa
/- THE CELL 'sum', in the pinned program and in every row, IS THE sha256 OF THE DUMP (.gsa) THAT YtpncgfdnilmhhaaProg.lean LOADS. Nothing in Lean hashes anything: it is a label: what it is worth is what the hold of that sum in a sandbox is worth. -/
noncomputable def Try.pinned : Pinned := { name := "ytpncgfdnilmhhaa", sum := "def5b24f4229f6b6b71045c843b685768687ad7d56cca8d686c512910267e611", checked := Try.checked }
namespace Rows
def none {H : Type} : Left H := { results := [], args := [] }

/-- 'drawbarlaw04.SheetApart': WHATEVER THE INPUT: true; the input reads as it did. -/
def sheetApartSpec : ChangeSpec := { name := "sheetApart", fn := fun _ => fun
  | [d1, d2] => { results := [.lit (.bool true)], args := [d1, d2] }
  | _ => none }
def sheetApartRow : OpenClaim := { program := "ytpncgfdnilmhhaa", sum := "def5b24f4229f6b6b71045c843b685768687ad7d56cca8d686c512910267e611", func := "drawbar/drawbarlaw04.SheetApart", spec := "sheetApart", apart := false }
def SheetApartSaid : Prop := sheetApartRow.holds Try.pinned (OpenSpec.ofChange sheetApartSpec)

/-- ITS FALSE NEIGHBOUR: 'it returns false'. Refute it at one input. -/
def sheetApartWrong : ChangeSpec := { name := "sheetApart", fn := fun _ => fun
  | [d1, d2] => { results := [.lit (.bool false)], args := [d1, d2] }
  | _ => none }
def SheetApartWrongFalsely : Prop := sheetApartRow.holds Try.pinned (OpenSpec.ofChange sheetApartWrong)

/-- 'drawbarlaw04.SheetForms': WHATEVER THE INPUT: true; the input reads as it did. -/
def sheetFormsSpec : ChangeSpec := { name := "sheetForms", fn := fun _ => fun
  | [d] => { results := [.lit (.bool true)], args := [d] }
  | _ => none }
def sheetFormsRow : OpenClaim := { program := "ytpncgfdnilmhhaa", sum := "def5b24f4229f6b6b71045c843b685768687ad7d56cca8d686c512910267e611", func := "drawbar/drawbarlaw04.SheetForms", spec := "sheetForms", apart := false }
def SheetFormsSaid : Prop := sheetFormsRow.holds Try.pinned (OpenSpec.ofChange sheetFormsSpec)

/-- ITS FALSE NEIGHBOUR: 'it returns false'. Refute it at one input. -/
def sheetFormsWrong : ChangeSpec := { name := "sheetForms", fn := fun _ => fun
  | [d] => { results := [.lit (.bool false)], args := [d] }
  | _ => none }
def SheetFormsWrongFalsely : Prop := sheetFormsRow.holds Try.pinned (OpenSpec.ofChange sheetFormsWrong)

/-- 'drawbarlaw04.SheetBack': WHATEVER THE INPUT: true; the input reads as it did. -/
def sheetBackSpec : ChangeSpec := { name := "sheetBack", fn := fun _ => fun
  | [d] => { results := [.lit (.bool true)], args := [d] }
  | _ => none }
def sheetBackRow : OpenClaim := { program := "ytpncgfdnilmhhaa", sum := "def5b24f4229f6b6b71045c843b685768687ad7d56cca8d686c512910267e611", func := "drawbar/drawbarlaw04.SheetBack", spec := "sheetBack", apart := false }
def SheetBackSaid : Prop := sheetBackRow.holds Try.pinned (OpenSpec.ofChange sheetBackSpec)

/-- ITS FALSE NEIGHBOUR: 'it returns false'. Refute it at one input. -/
def sheetBackWrong : ChangeSpec := { name := "sheetBack", fn := fun _ => fun
  | [d] => { results := [.lit (.bool false)], args := [d] }
  | _ => none }
def SheetBackWrongFalsely : Prop := sheetBackRow.holds Try.pinned (OpenSpec.ofChange sheetBackWrong)

/-- 'drawbarlaw04.SheetReads': WHATEVER THE INPUT: true; the input reads as it did. -/
def sheetReadsSpec : ChangeSpec := { name := "sheetReads", fn := fun _ => fun
  | [d1, d2] => { results := [.lit (.bool true)], args := [d1, d2] }
  | _ => none }
def sheetReadsRow : OpenClaim := { program := "ytpncgfdnilmhhaa", sum := "def5b24f4229f6b6b71045c843b685768687ad7d56cca8d686c512910267e611", func := "drawbar/drawbarlaw04.SheetReads", spec := "sheetReads", apart := false }
def SheetReadsSaid : Prop := sheetReadsRow.holds Try.pinned (OpenSpec.ofChange sheetReadsSpec)

/-- ITS FALSE NEIGHBOUR: 'it returns false'. Refute it at one input. -/
def sheetReadsWrong : ChangeSpec := { name := "sheetReads", fn := fun _ => fun
  | [d1, d2] => { results := [.lit (.bool false)], args := [d1, d2] }
  | _ => none }
def SheetReadsWrongFalsely : Prop := sheetReadsRow.holds Try.pinned (OpenSpec.ofChange sheetReadsWrong)

/-- 'drawbarlaw04.SheetTorn': WHATEVER THE INPUT: true; the input reads as it did. -/
def sheetTornSpec : ChangeSpec := { name := "sheetTorn", fn := fun _ => fun
  | [d1, d2, d3] => { results := [.lit (.bool true)], args := [d1, d2, d3] }
  | _ => none }
def sheetTornRow : OpenClaim := { program := "ytpncgfdnilmhhaa", sum := "def5b24f4229f6b6b71045c843b685768687ad7d56cca8d686c512910267e611", func := "drawbar/drawbarlaw04.SheetTorn", spec := "sheetTorn", apart := false }
def SheetTornSaid : Prop := sheetTornRow.holds Try.pinned (OpenSpec.ofChange sheetTornSpec)

/-- ITS FALSE NEIGHBOUR: 'it returns false'. Refute it at one input. -/
def sheetTornWrong : ChangeSpec := { name := "sheetTorn", fn := fun _ => fun
  | [d1, d2, d3] => { results := [.lit (.bool false)], args := [d1, d2, d3] }
  | _ => none }
def SheetTornWrongFalsely : Prop := sheetTornRow.holds Try.pinned (OpenSpec.ofChange sheetTornWrong)

/-- 'drawbarlaw04.SheetParts': WHATEVER THE INPUT: true; the input reads as it did. -/
def sheetPartsSpec : ChangeSpec := { name := "sheetParts", fn := fun _ => fun
  | [d1, d2, d3] => { results := [.lit (.bool true)], args := [d1, d2, d3] }
  | _ => none }
def sheetPartsRow : OpenClaim := { program := "ytpncgfdnilmhhaa", sum := "def5b24f4229f6b6b71045c843b685768687ad7d56cca8d686c512910267e611", func := "drawbar/drawbarlaw04.SheetParts", spec := "sheetParts", apart := false }
def SheetPartsSaid : Prop := sheetPartsRow.holds Try.pinned (OpenSpec.ofChange sheetPartsSpec)

/-- ITS FALSE NEIGHBOUR: 'it returns false'. Refute it at one input. -/
def sheetPartsWrong : ChangeSpec := { name := "sheetParts", fn := fun _ => fun
  | [d1, d2, d3] => { results := [.lit (.bool false)], args := [d1, d2, d3] }
  | _ => none }
def SheetPartsWrongFalsely : Prop := sheetPartsRow.holds Try.pinned (OpenSpec.ofChange sheetPartsWrong)

/-- 'drawbarlaw04.SheetSums': WHATEVER THE INPUT: true; the input reads as it did. -/
def sheetSumsSpec : ChangeSpec := { name := "sheetSums", fn := fun _ => fun
  | [d1, d2, d3] => { results := [.lit (.bool true)], args := [d1, d2, d3] }
  | _ => none }
def sheetSumsRow : OpenClaim := { program := "ytpncgfdnilmhhaa", sum := "def5b24f4229f6b6b71045c843b685768687ad7d56cca8d686c512910267e611", func := "drawbar/drawbarlaw04.SheetSums", spec := "sheetSums", apart := false }
def SheetSumsSaid : Prop := sheetSumsRow.holds Try.pinned (OpenSpec.ofChange sheetSumsSpec)

/-- ITS FALSE NEIGHBOUR: 'it returns false'. Refute it at one input. -/
def sheetSumsWrong : ChangeSpec := { name := "sheetSums", fn := fun _ => fun
  | [d1, d2, d3] => { results := [.lit (.bool false)], args := [d1, d2, d3] }
  | _ => none }
def SheetSumsWrongFalsely : Prop := sheetSumsRow.holds Try.pinned (OpenSpec.ofChange sheetSumsWrong)

/- THE SECOND FORM. 'bulk': how many values and letters a reading holds, each counted each time it is reached (what is shared counts as often as it is met; a slice's spare places count too). A statement '..UptoSaid' is the law's where the arguments, and the package variables that the reading takes, are together of bulk at most 1048576: NARROWER than '..Said'. Prove '..Said' where nothing that the law and all that it calls make is longer than what came in: it says more and counts as full. Else prove '..UptoSaid'. A law counts once. -/
mutual
def uptoBulk {H : Type} : DataW H → Nat
  | .lit (.string bytes) => bytes.length + 1
  | .lit _ => 1
  | .nil => 1
  | .ptr d => uptoBulk d + 1
  | .slice elems spare => uptoBulkAll elems + uptoBulkAll spare + 1
  | .agg parts => uptoBulkAll parts + 1
  | .iface _ d => uptoBulk d + 1
  | .map entries => uptoBulkEntries entries + 1
  | .held _ => 1
def uptoBulkAll {H : Type} : List (DataW H) → Nat
  | [] => 0
  | d :: r => uptoBulk d + uptoBulkAll r
def uptoBulkEntries {H : Type} : List (Lit × DataW H) → Nat
  | [] => 0
  | x :: r => uptoBulkEntry x + uptoBulkEntries r
def uptoBulkEntry {H : Type} : Lit × DataW H → Nat
  | (.string bytes, d) => bytes.length + uptoBulk d + 1
  | (_, d) => uptoBulk d + 1
 end
def uptoSmall : (H : Type) → List (DataW H) → Bool := fun _ ds => decide (uptoBulkAll ds ≤ 1048576)
def OpenSpec.upto (s : _root_.Go.ChangeSpec) : _root_.Go.OpenSpec := { _root_.Go.OpenSpec.ofChange s with cond := some uptoSmall }

/-- 'drawbarlaw04.SheetApart', WHERE WHAT IT READS IS OF BULK AT MOST 1048576: true; the input reads as it did. -/
def sheetApartUptoRow : OpenClaim := { program := "ytpncgfdnilmhhaa", sum := "def5b24f4229f6b6b71045c843b685768687ad7d56cca8d686c512910267e611", func := "drawbar/drawbarlaw04.SheetApart", spec := "sheetApart", apart := false, narrowed := true }
def SheetApartUptoSaid : Prop := sheetApartUptoRow.holds Try.pinned (OpenSpec.upto sheetApartSpec)

/-- 'drawbarlaw04.SheetForms', WHERE WHAT IT READS IS OF BULK AT MOST 1048576: true; the input reads as it did. -/
def sheetFormsUptoRow : OpenClaim := { program := "ytpncgfdnilmhhaa", sum := "def5b24f4229f6b6b71045c843b685768687ad7d56cca8d686c512910267e611", func := "drawbar/drawbarlaw04.SheetForms", spec := "sheetForms", apart := false, narrowed := true }
def SheetFormsUptoSaid : Prop := sheetFormsUptoRow.holds Try.pinned (OpenSpec.upto sheetFormsSpec)

/-- 'drawbarlaw04.SheetBack', WHERE WHAT IT READS IS OF BULK AT MOST 1048576: true; the input reads as it did. -/
def sheetBackUptoRow : OpenClaim := { program := "ytpncgfdnilmhhaa", sum := "def5b24f4229f6b6b71045c843b685768687ad7d56cca8d686c512910267e611", func := "drawbar/drawbarlaw04.SheetBack", spec := "sheetBack", apart := false, narrowed := true }
def SheetBackUptoSaid : Prop := sheetBackUptoRow.holds Try.pinned (OpenSpec.upto sheetBackSpec)

/-- 'drawbarlaw04.SheetReads', WHERE WHAT IT READS IS OF BULK AT MOST 1048576: true; the input reads as it did. -/
def sheetReadsUptoRow : OpenClaim := { program := "ytpncgfdnilmhhaa", sum := "def5b24f4229f6b6b71045c843b685768687ad7d56cca8d686c512910267e611", func := "drawbar/drawbarlaw04.SheetReads", spec := "sheetReads", apart := false, narrowed := true }
def SheetReadsUptoSaid : Prop := sheetReadsUptoRow.holds Try.pinned (OpenSpec.upto sheetReadsSpec)

/-- 'drawbarlaw04.SheetTorn', WHERE WHAT IT READS IS OF BULK AT MOST 1048576: true; the input reads as it did. -/
def sheetTornUptoRow : OpenClaim := { program := "ytpncgfdnilmhhaa", sum := "def5b24f4229f6b6b71045c843b685768687ad7d56cca8d686c512910267e611", func := "drawbar/drawbarlaw04.SheetTorn", spec := "sheetTorn", apart := false, narrowed := true }
def SheetTornUptoSaid : Prop := sheetTornUptoRow.holds Try.pinned (OpenSpec.upto sheetTornSpec)

/-- 'drawbarlaw04.SheetParts', WHERE WHAT IT READS IS OF BULK AT MOST 1048576: true; the input reads as it did. -/
def sheetPartsUptoRow : OpenClaim := { program := "ytpncgfdnilmhhaa", sum := "def5b24f4229f6b6b71045c843b685768687ad7d56cca8d686c512910267e611", func := "drawbar/drawbarlaw04.SheetParts", spec := "sheetParts", apart := false, narrowed := true }
def SheetPartsUptoSaid : Prop := sheetPartsUptoRow.holds Try.pinned (OpenSpec.upto sheetPartsSpec)

/-- 'drawbarlaw04.SheetSums', WHERE WHAT IT READS IS OF BULK AT MOST 1048576: true; the input reads as it did. -/
def sheetSumsUptoRow : OpenClaim := { program := "ytpncgfdnilmhhaa", sum := "def5b24f4229f6b6b71045c843b685768687ad7d56cca8d686c512910267e611", func := "drawbar/drawbarlaw04.SheetSums", spec := "sheetSums", apart := false, narrowed := true }
def SheetSumsUptoSaid : Prop := sheetSumsUptoRow.holds Try.pinned (OpenSpec.upto sheetSumsSpec)

end Rows
end Go.Proofs.Ytpncgfdnilmhhaa
