/-
  No cell of these rows narrows 'for every input' (looked for: loops, veiled, ifaces, maps, wideKeys, modest, calm, conditions, laid).
  DERIVED. THE GIVEN ROWS OF THIS SEAT. 9 by the template 'for every input the law returns true; each argument reads behind the call as it read before'; 0 by the template 'total and deterministic' (their statements: YtlaibabjnfjbpaaTotals.lean).
  GIVEN WITH THE SEED: the statements are not yours to turn. If you find one false, say at which input.
  Laid BY PROGRAM, IN A SANDBOX (cutbox-rows.mjs): the forced cells as the released guide's own fill.sh prints them over the translation 9e34f293c60dea95… (all of the seat's roots in one cut). By AI agents, Wed Nov 11 2026. No macro, syntax, notation, axiom, sorry.
-/
import Derived.Test.YtlaibabjnfjbpaaChecked
import GoSem.Claim
import GoSem.ClaimJoined
import GoSem.ClaimMapViews
import Derived.JoinedTies
import Derived.KernelRfl
namespace Go.Proofs.Ytlaibabjnfjbpaa
/- THE CELL 'sum', in the pinned program and in every row, IS THE sha256 OF THE DUMP (.gsa) THAT YtlaibabjnfjbpaaProg.lean LOADS. Nothing in Lean hashes anything: it is a label: what it is worth is what the hold of that sum in a sandbox is worth. -/
noncomputable def Try.pinned : Pinned := { name := "ytlaibabjnfjbpaa", sum := "9e34f293c60dea95907a287a1836a8f1c004f979120047749adb0405fe20bd2f", checked := Try.checked }
namespace Rows
def none {H : Type} : Left H := { results := [], args := [] }

/-- 'drawbarlaw01.OctetNumbers': WHATEVER THE INPUT: true; the input reads as it did. -/
def octetNumbersSpec : ChangeSpec := { name := "octetNumbers", fn := fun _ => fun
  | [d1, d2, d3] => { results := [.lit (.bool true)], args := [d1, d2, d3] }
  | _ => none }
def octetNumbersRow : OpenClaim := { program := "ytlaibabjnfjbpaa", sum := "9e34f293c60dea95907a287a1836a8f1c004f979120047749adb0405fe20bd2f", func := "drawbar/drawbarlaw01.OctetNumbers", spec := "octetNumbers", apart := false }
def OctetNumbersSaid : Prop := octetNumbersRow.holds Try.pinned (OpenSpec.ofChange octetNumbersSpec)

/-- ITS FALSE NEIGHBOUR: 'it returns false'. Refute it at one input. -/
def octetNumbersWrong : ChangeSpec := { name := "octetNumbers", fn := fun _ => fun
  | [d1, d2, d3] => { results := [.lit (.bool false)], args := [d1, d2, d3] }
  | _ => none }
def OctetNumbersWrongFalsely : Prop := octetNumbersRow.holds Try.pinned (OpenSpec.ofChange octetNumbersWrong)

/-- 'drawbarlaw01.OctetGets': WHATEVER THE INPUT: true; the input reads as it did. -/
def octetGetsSpec : ChangeSpec := { name := "octetGets", fn := fun _ => fun
  | [d1, d2, d3] => { results := [.lit (.bool true)], args := [d1, d2, d3] }
  | _ => none }
def octetGetsRow : OpenClaim := { program := "ytlaibabjnfjbpaa", sum := "9e34f293c60dea95907a287a1836a8f1c004f979120047749adb0405fe20bd2f", func := "drawbar/drawbarlaw01.OctetGets", spec := "octetGets", apart := false }
def OctetGetsSaid : Prop := octetGetsRow.holds Try.pinned (OpenSpec.ofChange octetGetsSpec)

/-- ITS FALSE NEIGHBOUR: 'it returns false'. Refute it at one input. -/
def octetGetsWrong : ChangeSpec := { name := "octetGets", fn := fun _ => fun
  | [d1, d2, d3] => { results := [.lit (.bool false)], args := [d1, d2, d3] }
  | _ => none }
def OctetGetsWrongFalsely : Prop := octetGetsRow.holds Try.pinned (OpenSpec.ofChange octetGetsWrong)

/-- 'drawbarlaw01.OctetSeals': WHATEVER THE INPUT: true; the input reads as it did. -/
def octetSealsSpec : ChangeSpec := { name := "octetSeals", fn := fun _ => fun
  | [d1, d2] => { results := [.lit (.bool true)], args := [d1, d2] }
  | _ => none }
def octetSealsRow : OpenClaim := { program := "ytlaibabjnfjbpaa", sum := "9e34f293c60dea95907a287a1836a8f1c004f979120047749adb0405fe20bd2f", func := "drawbar/drawbarlaw01.OctetSeals", spec := "octetSeals", apart := false }
def OctetSealsSaid : Prop := octetSealsRow.holds Try.pinned (OpenSpec.ofChange octetSealsSpec)

/-- ITS FALSE NEIGHBOUR: 'it returns false'. Refute it at one input. -/
def octetSealsWrong : ChangeSpec := { name := "octetSeals", fn := fun _ => fun
  | [d1, d2] => { results := [.lit (.bool false)], args := [d1, d2] }
  | _ => none }
def OctetSealsWrongFalsely : Prop := octetSealsRow.holds Try.pinned (OpenSpec.ofChange octetSealsWrong)

/-- 'drawbarlaw01.OctetBursts': WHATEVER THE INPUT: true; the input reads as it did. -/
def octetBurstsSpec : ChangeSpec := { name := "octetBursts", fn := fun _ => fun
  | [d1, d2, d3] => { results := [.lit (.bool true)], args := [d1, d2, d3] }
  | _ => none }
def octetBurstsRow : OpenClaim := { program := "ytlaibabjnfjbpaa", sum := "9e34f293c60dea95907a287a1836a8f1c004f979120047749adb0405fe20bd2f", func := "drawbar/drawbarlaw01.OctetBursts", spec := "octetBursts", apart := false }
def OctetBurstsSaid : Prop := octetBurstsRow.holds Try.pinned (OpenSpec.ofChange octetBurstsSpec)

/-- ITS FALSE NEIGHBOUR: 'it returns false'. Refute it at one input. -/
def octetBurstsWrong : ChangeSpec := { name := "octetBursts", fn := fun _ => fun
  | [d1, d2, d3] => { results := [.lit (.bool false)], args := [d1, d2, d3] }
  | _ => none }
def OctetBurstsWrongFalsely : Prop := octetBurstsRow.holds Try.pinned (OpenSpec.ofChange octetBurstsWrong)

/-- 'drawbarlaw01.OctetOne': WHATEVER THE INPUT: true; the input reads as it did. -/
def octetOneSpec : ChangeSpec := { name := "octetOne", fn := fun _ => fun
  | [d1, d2] => { results := [.lit (.bool true)], args := [d1, d2] }
  | _ => none }
def octetOneRow : OpenClaim := { program := "ytlaibabjnfjbpaa", sum := "9e34f293c60dea95907a287a1836a8f1c004f979120047749adb0405fe20bd2f", func := "drawbar/drawbarlaw01.OctetOne", spec := "octetOne", apart := false }
def OctetOneSaid : Prop := octetOneRow.holds Try.pinned (OpenSpec.ofChange octetOneSpec)

/-- ITS FALSE NEIGHBOUR: 'it returns false'. Refute it at one input. -/
def octetOneWrong : ChangeSpec := { name := "octetOne", fn := fun _ => fun
  | [d1, d2] => { results := [.lit (.bool false)], args := [d1, d2] }
  | _ => none }
def OctetOneWrongFalsely : Prop := octetOneRow.holds Try.pinned (OpenSpec.ofChange octetOneWrong)

/-- 'drawbarlaw01.OctetNil': WHATEVER THE INPUT: true; the input reads as it did. -/
def octetNilSpec : ChangeSpec := { name := "octetNil", fn := fun _ => fun
  | [d1, d2] => { results := [.lit (.bool true)], args := [d1, d2] }
  | _ => none }
def octetNilRow : OpenClaim := { program := "ytlaibabjnfjbpaa", sum := "9e34f293c60dea95907a287a1836a8f1c004f979120047749adb0405fe20bd2f", func := "drawbar/drawbarlaw01.OctetNil", spec := "octetNil", apart := false }
def OctetNilSaid : Prop := octetNilRow.holds Try.pinned (OpenSpec.ofChange octetNilSpec)

/-- ITS FALSE NEIGHBOUR: 'it returns false'. Refute it at one input. -/
def octetNilWrong : ChangeSpec := { name := "octetNil", fn := fun _ => fun
  | [d1, d2] => { results := [.lit (.bool false)], args := [d1, d2] }
  | _ => none }
def OctetNilWrongFalsely : Prop := octetNilRow.holds Try.pinned (OpenSpec.ofChange octetNilWrong)

/-- 'drawbarlaw01.OctetReads': WHATEVER THE INPUT: true; the input reads as it did. -/
def octetReadsSpec : ChangeSpec := { name := "octetReads", fn := fun _ => fun
  | [d1, d2] => { results := [.lit (.bool true)], args := [d1, d2] }
  | _ => none }
def octetReadsRow : OpenClaim := { program := "ytlaibabjnfjbpaa", sum := "9e34f293c60dea95907a287a1836a8f1c004f979120047749adb0405fe20bd2f", func := "drawbar/drawbarlaw01.OctetReads", spec := "octetReads", apart := false }
def OctetReadsSaid : Prop := octetReadsRow.holds Try.pinned (OpenSpec.ofChange octetReadsSpec)

/-- ITS FALSE NEIGHBOUR: 'it returns false'. Refute it at one input. -/
def octetReadsWrong : ChangeSpec := { name := "octetReads", fn := fun _ => fun
  | [d1, d2] => { results := [.lit (.bool false)], args := [d1, d2] }
  | _ => none }
def OctetReadsWrongFalsely : Prop := octetReadsRow.holds Try.pinned (OpenSpec.ofChange octetReadsWrong)

/-- 'drawbarlaw01.OctetLists': WHATEVER THE INPUT: true; the input reads as it did. -/
def octetListsSpec : ChangeSpec := { name := "octetLists", fn := fun _ => fun
  | [d] => { results := [.lit (.bool true)], args := [d] }
  | _ => none }
def octetListsRow : OpenClaim := { program := "ytlaibabjnfjbpaa", sum := "9e34f293c60dea95907a287a1836a8f1c004f979120047749adb0405fe20bd2f", func := "drawbar/drawbarlaw01.OctetLists", spec := "octetLists", apart := false }
def OctetListsSaid : Prop := octetListsRow.holds Try.pinned (OpenSpec.ofChange octetListsSpec)

/-- ITS FALSE NEIGHBOUR: 'it returns false'. Refute it at one input. -/
def octetListsWrong : ChangeSpec := { name := "octetLists", fn := fun _ => fun
  | [d] => { results := [.lit (.bool false)], args := [d] }
  | _ => none }
def OctetListsWrongFalsely : Prop := octetListsRow.holds Try.pinned (OpenSpec.ofChange octetListsWrong)

/-- 'drawbarlaw01.OctetEnds': WHATEVER THE INPUT: true; the input reads as it did. -/
def octetEndsSpec : ChangeSpec := { name := "octetEnds", fn := fun _ => fun
  | [d1, d2] => { results := [.lit (.bool true)], args := [d1, d2] }
  | _ => none }
def octetEndsRow : OpenClaim := { program := "ytlaibabjnfjbpaa", sum := "9e34f293c60dea95907a287a1836a8f1c004f979120047749adb0405fe20bd2f", func := "drawbar/drawbarlaw01.OctetEnds", spec := "octetEnds", apart := false }
def OctetEndsSaid : Prop := octetEndsRow.holds Try.pinned (OpenSpec.ofChange octetEndsSpec)

/-- ITS FALSE NEIGHBOUR: 'it returns false'. Refute it at one input. -/
def octetEndsWrong : ChangeSpec := { name := "octetEnds", fn := fun _ => fun
  | [d1, d2] => { results := [.lit (.bool false)], args := [d1, d2] }
  | _ => none }
def OctetEndsWrongFalsely : Prop := octetEndsRow.holds Try.pinned (OpenSpec.ofChange octetEndsWrong)

/- THE SECOND FORM. 'bulk': how many values and letters a reading holds, each counted each time it is reached (what is shared counts as often as it is met; a slice's spare places count too). A statement '..UptoSaid' is the law's where the arguments, and the package variables that the reading takes, are together of bulk at most 1048576: NARROWER than '..Said'. Prove '..Said' where nothing that the law and all that it calls make is longer than what came in: it says more and counts as full. Else prove '..UptoSaid'. A law counts once. -/
mutual
def uptoBulk {H : Type} : DataW H → Nat
  | .lit (.string bytes) => bytes.length + 1
  | .lit _ => 1
  | .nil => 1
  | .ptr d => uptoBulk d + 1
  | .slice elems spare => uptoBulkAll elems + uptoBulkAll spare + 1
  | .agg parts => uptoBulkAll parts + 1
  | .iface _ d => uptoBulk d + 1
  | .map entries => uptoBulkEntries entries + 1
  | .held _ => 1
def uptoBulkAll {H : Type} : List (DataW H) → Nat
  | [] => 0
  | d :: r => uptoBulk d + uptoBulkAll r
def uptoBulkEntries {H : Type} : List (Lit × DataW H) → Nat
  | [] => 0
  | x :: r => uptoBulkEntry x + uptoBulkEntries r
def uptoBulkEntry {H : Type} : Lit × DataW H → Nat
  | (.string bytes, d) => bytes.length + uptoBulk d + 1
  | (_, d) => uptoBulk d + 1
 end
def uptoSmall : (H : Type) → List (DataW H) → Bool := fun _ ds => decide (uptoBulkAll ds ≤ 1048576)
def OpenSpec.upto (s : _root_.Go.ChangeSpec) : _root_.Go.OpenSpec := { _root_.Go.OpenSpec.ofChange s with cond := some uptoSmall }

/-- 'drawbarlaw01.OctetNumbers', WHERE WHAT IT READS IS OF BULK AT MOST 1048576: true; the input reads as it did. -/
def octetNumbersUptoRow : OpenClaim := { program := "ytlaibabjnfjbpaa", sum := "9e34f293c60dea95907a287a1836a8f1c004f979120047749adb0405fe20bd2f", func := "drawbar/drawbarlaw01.OctetNumbers", spec := "octetNumbers", apart := false, narrowed := true }
def OctetNumbersUptoSaid : Prop := octetNumbersUptoRow.holds Try.pinned (OpenSpec.upto octetNumbersSpec)

/-- 'drawbarlaw01.OctetGets', WHERE WHAT IT READS IS OF BULK AT MOST 1048576: true; the input reads as it did. -/
def octetGetsUptoRow : OpenClaim := { program := "ytlaibabjnfjbpaa", sum := "9e34f293c60dea95907a287a1836a8f1c004f979120047749adb0405fe20bd2f", func := "drawbar/drawbarlaw01.OctetGets", spec := "octetGets", apart := false, narrowed := true }
def OctetGetsUptoSaid : Prop := octetGetsUptoRow.holds Try.pinned (OpenSpec.upto octetGetsSpec)

/-- 'drawbarlaw01.OctetSeals', WHERE WHAT IT READS IS OF BULK AT MOST 1048576: true; the input reads as it did. -/
def octetSealsUptoRow : OpenClaim := { program := "ytlaibabjnfjbpaa", sum := "9e34f293c60dea95907a287a1836a8f1c004f979120047749adb0405fe20bd2f", func := "drawbar/drawbarlaw01.OctetSeals", spec := "octetSeals", apart := false, narrowed := true }
def OctetSealsUptoSaid : Prop := octetSealsUptoRow.holds Try.pinned (OpenSpec.upto octetSealsSpec)

/-- 'drawbarlaw01.OctetBursts', WHERE WHAT IT READS IS OF BULK AT MOST 1048576: true; the input reads as it did. -/
def octetBurstsUptoRow : OpenClaim := { program := "ytlaibabjnfjbpaa", sum := "9e34f293c60dea95907a287a1836a8f1c004f979120047749adb0405fe20bd2f", func := "drawbar/drawbarlaw01.OctetBursts", spec := "octetBursts", apart := false, narrowed := true }
def OctetBurstsUptoSaid : Prop := octetBurstsUptoRow.holds Try.pinned (OpenSpec.upto octetBurstsSpec)

/-- 'drawbarlaw01.OctetOne', WHERE WHAT IT READS IS OF BULK AT MOST 1048576: true; the input reads as it did. -/
def octetOneUptoRow : OpenClaim := { program := "ytlaibabjnfjbpaa", sum := "9e34f293c60dea95907a287a1836a8f1c004f979120047749adb0405fe20bd2f", func := "drawbar/drawbarlaw01.OctetOne", spec := "octetOne", apart := false, narrowed := true }
def OctetOneUptoSaid : Prop := octetOneUptoRow.holds Try.pinned (OpenSpec.upto octetOneSpec)

/-- 'drawbarlaw01.OctetNil', WHERE WHAT IT READS IS OF BULK AT MOST 1048576: true; the input reads as it did. -/
def octetNilUptoRow : OpenClaim := { program := "ytlaibabjnfjbpaa", sum := "9e34f293c60dea95907a287a1836a8f1c004f979120047749adb0405fe20bd2f", func := "drawbar/drawbarlaw01.OctetNil", spec := "octetNil", apart := false, narrowed := true }
def OctetNilUptoSaid : Prop := octetNilUptoRow.holds Try.pinned (OpenSpec.upto octetNilSpec)

/-- 'drawbarlaw01.OctetReads', WHERE WHAT IT READS IS OF BULK AT MOST 1048576: true; the input reads as it did. -/
def octetReadsUptoRow : OpenClaim := { program := "ytlaibabjnfjbpaa", sum := "9e34f293c60dea95907a287a1836a8f1c004f979120047749adb0405fe20bd2f", func := "drawbar/drawbarlaw01.OctetReads", spec := "octetReads", apart := false, narrowed := true }
def OctetReadsUptoSaid : Prop := octetReadsUptoRow.holds Try.pinned (OpenSpec.upto octetReadsSpec)

/-- 'drawbarlaw01.OctetLists', WHERE WHAT IT READS IS OF BULK AT MOST 1048576: true; the input reads as it did. -/
def octetListsUptoRow : OpenClaim := { program := "ytlaibabjnfjbpaa", sum := "9e34f293c60dea95907a287a1836a8f1c004f979120047749adb0405fe20bd2f", func := "drawbar/drawbarlaw01.OctetLists", spec := "octetLists", apart := false, narrowed := true }
def OctetListsUptoSaid : Prop := octetListsUptoRow.holds Try.pinned (OpenSpec.upto octetListsSpec)

/-- 'drawbarlaw01.OctetEnds', WHERE WHAT IT READS IS OF BULK AT MOST 1048576: true; the input reads as it did. -/
def octetEndsUptoRow : OpenClaim := { program := "ytlaibabjnfjbpaa", sum := "9e34f293c60dea95907a287a1836a8f1c004f979120047749adb0405fe20bd2f", func := "drawbar/drawbarlaw01.OctetEnds", spec := "octetEnds", apart := false, narrowed := true }
def OctetEndsUptoSaid : Prop := octetEndsUptoRow.holds Try.pinned (OpenSpec.upto octetEndsSpec)

end Rows
end Go.Proofs.Ytlaibabjnfjbpaa
