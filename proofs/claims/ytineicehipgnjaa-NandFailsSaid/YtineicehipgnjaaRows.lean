/-
  No cell of these rows narrows 'for every input' (looked for: loops, veiled, ifaces, maps, wideKeys, modest, calm, conditions, laid).
  DERIVED. THE GIVEN ROWS OF THIS SEAT. 8 by the template 'for every input the law returns true; each argument reads behind the call as it read before'; 0 by the template 'total and deterministic' (their statements: YtineicehipgnjaaTotals.lean).
  GIVEN WITH THE SEED: the statements are not yours to turn. If you find one false, say at which input.
  Laid BY PROGRAM, IN A SANDBOX (cutbox-rows.mjs): the forced cells as the released guide's own fill.sh prints them over the translation c5d8cf10125ae385… (all of the seat's roots in one cut). By AI agents, Wed Nov 11 2026. No macro, syntax, notation, axiom, sorry.
-/
import Derived.Test.YtineicehipgnjaaChecked
import GoSem.Claim
import GoSem.ClaimJoined
import GoSem.ClaimMapViews
import Derived.JoinedTies
import Derived.KernelRfl
namespace Go.Proofs.Ytineicehipgnjaa
/- THE CELL 'sum', in the pinned program and in every row, IS THE sha256 OF THE DUMP (.gsa) THAT YtineicehipgnjaaProg.lean LOADS. Nothing in Lean hashes anything: it is a label: what it is worth is what the hold of that sum in a sandbox is worth. -/
noncomputable def Try.pinned : Pinned := { name := "ytineicehipgnjaa", sum := "c5d8cf10125ae38560f92a647a48e23ee68331c5bab37ec720953b2d9228fa14", checked := Try.checked }
namespace Rows
def none {H : Type} : Left H := { results := [], args := [] }

/-- 'drawbarlaw03.NandKeeps': WHATEVER THE INPUT: true; the input reads as it did. -/
def nandKeepsSpec : ChangeSpec := { name := "nandKeeps", fn := fun _ => fun
  | [d] => { results := [.lit (.bool true)], args := [d] }
  | _ => none }
def nandKeepsRow : OpenClaim := { program := "ytineicehipgnjaa", sum := "c5d8cf10125ae38560f92a647a48e23ee68331c5bab37ec720953b2d9228fa14", func := "drawbar/drawbarlaw03.NandKeeps", spec := "nandKeeps", apart := false }
def NandKeepsSaid : Prop := nandKeepsRow.holds Try.pinned (OpenSpec.ofChange nandKeepsSpec)

/-- ITS FALSE NEIGHBOUR: 'it returns false'. Refute it at one input. -/
def nandKeepsWrong : ChangeSpec := { name := "nandKeeps", fn := fun _ => fun
  | [d] => { results := [.lit (.bool false)], args := [d] }
  | _ => none }
def NandKeepsWrongFalsely : Prop := nandKeepsRow.holds Try.pinned (OpenSpec.ofChange nandKeepsWrong)

/-- 'drawbarlaw03.NandOrder': WHATEVER THE INPUT: true; the input reads as it did. -/
def nandOrderSpec : ChangeSpec := { name := "nandOrder", fn := fun _ => fun
  | [d] => { results := [.lit (.bool true)], args := [d] }
  | _ => none }
def nandOrderRow : OpenClaim := { program := "ytineicehipgnjaa", sum := "c5d8cf10125ae38560f92a647a48e23ee68331c5bab37ec720953b2d9228fa14", func := "drawbar/drawbarlaw03.NandOrder", spec := "nandOrder", unfollowed := true, recurses := true, apart := false }
def NandOrderSaid : Prop := nandOrderRow.holds Try.pinned (OpenSpec.ofChange nandOrderSpec)

/-- ITS FALSE NEIGHBOUR: 'it returns false'. Refute it at one input. -/
def nandOrderWrong : ChangeSpec := { name := "nandOrder", fn := fun _ => fun
  | [d] => { results := [.lit (.bool false)], args := [d] }
  | _ => none }
def NandOrderWrongFalsely : Prop := nandOrderRow.holds Try.pinned (OpenSpec.ofChange nandOrderWrong)

/-- 'drawbarlaw03.NandCuts': WHATEVER THE INPUT: true; the input reads as it did. -/
def nandCutsSpec : ChangeSpec := { name := "nandCuts", fn := fun _ => fun
  | [d1, d2] => { results := [.lit (.bool true)], args := [d1, d2] }
  | _ => none }
def nandCutsRow : OpenClaim := { program := "ytineicehipgnjaa", sum := "c5d8cf10125ae38560f92a647a48e23ee68331c5bab37ec720953b2d9228fa14", func := "drawbar/drawbarlaw03.NandCuts", spec := "nandCuts", unfollowed := true, recurses := true, apart := false }
def NandCutsSaid : Prop := nandCutsRow.holds Try.pinned (OpenSpec.ofChange nandCutsSpec)

/-- ITS FALSE NEIGHBOUR: 'it returns false'. Refute it at one input. -/
def nandCutsWrong : ChangeSpec := { name := "nandCuts", fn := fun _ => fun
  | [d1, d2] => { results := [.lit (.bool false)], args := [d1, d2] }
  | _ => none }
def NandCutsWrongFalsely : Prop := nandCutsRow.holds Try.pinned (OpenSpec.ofChange nandCutsWrong)

/-- 'drawbarlaw03.NandFences': WHATEVER THE INPUT: true; the input reads as it did. -/
def nandFencesSpec : ChangeSpec := { name := "nandFences", fn := fun _ => fun
  | [d1, d2] => { results := [.lit (.bool true)], args := [d1, d2] }
  | _ => none }
def nandFencesRow : OpenClaim := { program := "ytineicehipgnjaa", sum := "c5d8cf10125ae38560f92a647a48e23ee68331c5bab37ec720953b2d9228fa14", func := "drawbar/drawbarlaw03.NandFences", spec := "nandFences", unfollowed := true, recurses := true, apart := false }
def NandFencesSaid : Prop := nandFencesRow.holds Try.pinned (OpenSpec.ofChange nandFencesSpec)

/-- ITS FALSE NEIGHBOUR: 'it returns false'. Refute it at one input. -/
def nandFencesWrong : ChangeSpec := { name := "nandFences", fn := fun _ => fun
  | [d1, d2] => { results := [.lit (.bool false)], args := [d1, d2] }
  | _ => none }
def NandFencesWrongFalsely : Prop := nandFencesRow.holds Try.pinned (OpenSpec.ofChange nandFencesWrong)

/-- 'drawbarlaw03.NandFails': WHATEVER THE INPUT: true; the input reads as it did. -/
def nandFailsSpec : ChangeSpec := { name := "nandFails", fn := fun _ => fun
  | [d1, d2] => { results := [.lit (.bool true)], args := [d1, d2] }
  | _ => none }
def nandFailsRow : OpenClaim := { program := "ytineicehipgnjaa", sum := "c5d8cf10125ae38560f92a647a48e23ee68331c5bab37ec720953b2d9228fa14", func := "drawbar/drawbarlaw03.NandFails", spec := "nandFails", unfollowed := true, recurses := true, apart := false }
def NandFailsSaid : Prop := nandFailsRow.holds Try.pinned (OpenSpec.ofChange nandFailsSpec)

/-- ITS FALSE NEIGHBOUR: 'it returns false'. Refute it at one input. -/
def nandFailsWrong : ChangeSpec := { name := "nandFails", fn := fun _ => fun
  | [d1, d2] => { results := [.lit (.bool false)], args := [d1, d2] }
  | _ => none }
def NandFailsWrongFalsely : Prop := nandFailsRow.holds Try.pinned (OpenSpec.ofChange nandFailsWrong)

/-- 'drawbarlaw03.NandApart': WHATEVER THE INPUT: true; the input reads as it did. -/
def nandApartSpec : ChangeSpec := { name := "nandApart", fn := fun _ => fun
  | [d] => { results := [.lit (.bool true)], args := [d] }
  | _ => none }
def nandApartRow : OpenClaim := { program := "ytineicehipgnjaa", sum := "c5d8cf10125ae38560f92a647a48e23ee68331c5bab37ec720953b2d9228fa14", func := "drawbar/drawbarlaw03.NandApart", spec := "nandApart", unfollowed := true, recurses := true, apart := false }
def NandApartSaid : Prop := nandApartRow.holds Try.pinned (OpenSpec.ofChange nandApartSpec)

/-- ITS FALSE NEIGHBOUR: 'it returns false'. Refute it at one input. -/
def nandApartWrong : ChangeSpec := { name := "nandApart", fn := fun _ => fun
  | [d] => { results := [.lit (.bool false)], args := [d] }
  | _ => none }
def NandApartWrongFalsely : Prop := nandApartRow.holds Try.pinned (OpenSpec.ofChange nandApartWrong)

/-- 'drawbarlaw03.NandHalves': WHATEVER THE INPUT: true; the input reads as it did. -/
def nandHalvesSpec : ChangeSpec := { name := "nandHalves", fn := fun _ => fun
  | [d1, d2] => { results := [.lit (.bool true)], args := [d1, d2] }
  | _ => none }
def nandHalvesRow : OpenClaim := { program := "ytineicehipgnjaa", sum := "c5d8cf10125ae38560f92a647a48e23ee68331c5bab37ec720953b2d9228fa14", func := "drawbar/drawbarlaw03.NandHalves", spec := "nandHalves", unfollowed := true, recurses := true, apart := false }
def NandHalvesSaid : Prop := nandHalvesRow.holds Try.pinned (OpenSpec.ofChange nandHalvesSpec)

/-- ITS FALSE NEIGHBOUR: 'it returns false'. Refute it at one input. -/
def nandHalvesWrong : ChangeSpec := { name := "nandHalves", fn := fun _ => fun
  | [d1, d2] => { results := [.lit (.bool false)], args := [d1, d2] }
  | _ => none }
def NandHalvesWrongFalsely : Prop := nandHalvesRow.holds Try.pinned (OpenSpec.ofChange nandHalvesWrong)

/-- 'drawbarlaw03.NandNil': WHATEVER THE INPUT: true; the input reads as it did. -/
def nandNilSpec : ChangeSpec := { name := "nandNil", fn := fun _ => fun
  | [d1, d2, d3] => { results := [.lit (.bool true)], args := [d1, d2, d3] }
  | _ => none }
def nandNilRow : OpenClaim := { program := "ytineicehipgnjaa", sum := "c5d8cf10125ae38560f92a647a48e23ee68331c5bab37ec720953b2d9228fa14", func := "drawbar/drawbarlaw03.NandNil", spec := "nandNil", unfollowed := true, recurses := true, apart := false }
def NandNilSaid : Prop := nandNilRow.holds Try.pinned (OpenSpec.ofChange nandNilSpec)

/-- ITS FALSE NEIGHBOUR: 'it returns false'. Refute it at one input. -/
def nandNilWrong : ChangeSpec := { name := "nandNil", fn := fun _ => fun
  | [d1, d2, d3] => { results := [.lit (.bool false)], args := [d1, d2, d3] }
  | _ => none }
def NandNilWrongFalsely : Prop := nandNilRow.holds Try.pinned (OpenSpec.ofChange nandNilWrong)

/- THE SECOND FORM. 'bulk': how many values and letters a reading holds, each counted each time it is reached (what is shared counts as often as it is met; a slice's spare places count too). A statement '..UptoSaid' is the law's where the arguments, and the package variables that the reading takes, are together of bulk at most 1048576: NARROWER than '..Said'. Prove '..Said' where nothing that the law and all that it calls make is longer than what came in: it says more and counts as full. Else prove '..UptoSaid'. A law counts once. -/
mutual
def uptoBulk {H : Type} : DataW H → Nat
  | .lit (.string bytes) => bytes.length + 1
  | .lit _ => 1
  | .nil => 1
  | .ptr d => uptoBulk d + 1
  | .slice elems spare => uptoBulkAll elems + uptoBulkAll spare + 1
  | .agg parts => uptoBulkAll parts + 1
  | .iface _ d => uptoBulk d + 1
  | .map entries => uptoBulkEntries entries + 1
  | .held _ => 1
def uptoBulkAll {H : Type} : List (DataW H) → Nat
  | [] => 0
  | d :: r => uptoBulk d + uptoBulkAll r
def uptoBulkEntries {H : Type} : List (Lit × DataW H) → Nat
  | [] => 0
  | x :: r => uptoBulkEntry x + uptoBulkEntries r
def uptoBulkEntry {H : Type} : Lit × DataW H → Nat
  | (.string bytes, d) => bytes.length + uptoBulk d + 1
  | (_, d) => uptoBulk d + 1
 end
def uptoSmall : (H : Type) → List (DataW H) → Bool := fun _ ds => decide (uptoBulkAll ds ≤ 1048576)
def OpenSpec.upto (s : _root_.Go.ChangeSpec) : _root_.Go.OpenSpec := { _root_.Go.OpenSpec.ofChange s with cond := some uptoSmall }

/-- 'drawbarlaw03.NandKeeps', WHERE WHAT IT READS IS OF BULK AT MOST 1048576: true; the input reads as it did. -/
def nandKeepsUptoRow : OpenClaim := { program := "ytineicehipgnjaa", sum := "c5d8cf10125ae38560f92a647a48e23ee68331c5bab37ec720953b2d9228fa14", func := "drawbar/drawbarlaw03.NandKeeps", spec := "nandKeeps", apart := false, narrowed := true }
def NandKeepsUptoSaid : Prop := nandKeepsUptoRow.holds Try.pinned (OpenSpec.upto nandKeepsSpec)

/-- 'drawbarlaw03.NandOrder', WHERE WHAT IT READS IS OF BULK AT MOST 1048576: true; the input reads as it did. -/
def nandOrderUptoRow : OpenClaim := { program := "ytineicehipgnjaa", sum := "c5d8cf10125ae38560f92a647a48e23ee68331c5bab37ec720953b2d9228fa14", func := "drawbar/drawbarlaw03.NandOrder", spec := "nandOrder", unfollowed := true, recurses := true, apart := false, narrowed := true }
def NandOrderUptoSaid : Prop := nandOrderUptoRow.holds Try.pinned (OpenSpec.upto nandOrderSpec)

/-- 'drawbarlaw03.NandCuts', WHERE WHAT IT READS IS OF BULK AT MOST 1048576: true; the input reads as it did. -/
def nandCutsUptoRow : OpenClaim := { program := "ytineicehipgnjaa", sum := "c5d8cf10125ae38560f92a647a48e23ee68331c5bab37ec720953b2d9228fa14", func := "drawbar/drawbarlaw03.NandCuts", spec := "nandCuts", unfollowed := true, recurses := true, apart := false, narrowed := true }
def NandCutsUptoSaid : Prop := nandCutsUptoRow.holds Try.pinned (OpenSpec.upto nandCutsSpec)

/-- 'drawbarlaw03.NandFences', WHERE WHAT IT READS IS OF BULK AT MOST 1048576: true; the input reads as it did. -/
def nandFencesUptoRow : OpenClaim := { program := "ytineicehipgnjaa", sum := "c5d8cf10125ae38560f92a647a48e23ee68331c5bab37ec720953b2d9228fa14", func := "drawbar/drawbarlaw03.NandFences", spec := "nandFences", unfollowed := true, recurses := true, apart := false, narrowed := true }
def NandFencesUptoSaid : Prop := nandFencesUptoRow.holds Try.pinned (OpenSpec.upto nandFencesSpec)

/-- 'drawbarlaw03.NandFails', WHERE WHAT IT READS IS OF BULK AT MOST 1048576: true; the input reads as it did. -/
def nandFailsUptoRow : OpenClaim := { program := "ytineicehipgnjaa", sum := "c5d8cf10125ae38560f92a647a48e23ee68331c5bab37ec720953b2d9228fa14", func := "drawbar/drawbarlaw03.NandFails", spec := "nandFails", unfollowed := true, recurses := true, apart := false, narrowed := true }
def NandFailsUptoSaid : Prop := nandFailsUptoRow.holds Try.pinned (OpenSpec.upto nandFailsSpec)

/-- 'drawbarlaw03.NandApart', WHERE WHAT IT READS IS OF BULK AT MOST 1048576: true; the input reads as it did. -/
def nandApartUptoRow : OpenClaim := { program := "ytineicehipgnjaa", sum := "c5d8cf10125ae38560f92a647a48e23ee68331c5bab37ec720953b2d9228fa14", func := "drawbar/drawbarlaw03.NandApart", spec := "nandApart", unfollowed := true, recurses := true, apart := false, narrowed := true }
def NandApartUptoSaid : Prop := nandApartUptoRow.holds Try.pinned (OpenSpec.upto nandApartSpec)

/-- 'drawbarlaw03.NandHalves', WHERE WHAT IT READS IS OF BULK AT MOST 1048576: true; the input reads as it did. -/
def nandHalvesUptoRow : OpenClaim := { program := "ytineicehipgnjaa", sum := "c5d8cf10125ae38560f92a647a48e23ee68331c5bab37ec720953b2d9228fa14", func := "drawbar/drawbarlaw03.NandHalves", spec := "nandHalves", unfollowed := true, recurses := true, apart := false, narrowed := true }
def NandHalvesUptoSaid : Prop := nandHalvesUptoRow.holds Try.pinned (OpenSpec.upto nandHalvesSpec)

/-- 'drawbarlaw03.NandNil', WHERE WHAT IT READS IS OF BULK AT MOST 1048576: true; the input reads as it did. -/
def nandNilUptoRow : OpenClaim := { program := "ytineicehipgnjaa", sum := "c5d8cf10125ae38560f92a647a48e23ee68331c5bab37ec720953b2d9228fa14", func := "drawbar/drawbarlaw03.NandNil", spec := "nandNil", unfollowed := true, recurses := true, apart := false, narrowed := true }
def NandNilUptoSaid : Prop := nandNilUptoRow.holds Try.pinned (OpenSpec.upto nandNilSpec)

end Rows
end Go.Proofs.Ytineicehipgnjaa
