/-
  No cell of these rows narrows 'for every input' (looked for: loops, veiled, ifaces, maps, wideKeys, modest, calm, conditions, laid).
  DERIVED. THE GIVEN ROWS OF THIS SEAT. 5 by the template 'for every input the law returns true; each argument reads behind the call as it read before'; 0 by the template 'total and deterministic' (their statements: YtggbocimapdidaaTotals.lean).
  GIVEN WITH THE SEED: the statements are not yours to turn. If you find one false, say at which input.
  Laid BY PROGRAM, IN A SANDBOX (cutbox-rows.mjs): the forced cells as the released guide's own fill.sh prints them over the translation fc4f7b2918acaa6a… (all of the seat's roots in one cut). By AI agents, Wed Nov 11 2026. No macro, syntax, notation, axiom, sorry.
-/
import Derived.Test.YtggbocimapdidaaChecked
import GoSem.Claim
import GoSem.ClaimJoined
import GoSem.ClaimMapViews
import Derived.JoinedTies
import Derived.KernelRfl
namespace Go.Proofs.Ytggbocimapdidaa
/- THE CELL 'sum', in the pinned program and in every row, IS THE sha256 OF THE DUMP (.gsa) THAT YtggbocimapdidaaProg.lean LOADS. Nothing in Lean hashes anything: it is a label: what it is worth is what the hold of that sum in a sandbox is worth. -/
noncomputable def Try.pinned : Pinned := { name := "ytggbocimapdidaa", sum := "fc4f7b2918acaa6a51b7850ce641dc656af1ae7a9b8f7caf410d4498aba84bc8", checked := Try.checked }
namespace Rows
def none {H : Type} : Left H := { results := [], args := [] }

/-- 'subeditorlaw12.DocFlat': WHATEVER THE INPUT: true; the input reads as it did. -/
def docFlatSpec : ChangeSpec := { name := "docFlat", fn := fun _ => fun
  | [d] => { results := [.lit (.bool true)], args := [d] }
  | _ => none }
def docFlatRow : OpenClaim := { program := "ytggbocimapdidaa", sum := "fc4f7b2918acaa6a51b7850ce641dc656af1ae7a9b8f7caf410d4498aba84bc8", func := "subeditor/subeditorlaw12.DocFlat", spec := "docFlat", inPlace := ["internal/abi.NoEscape"], unfollowed := true, recurses := true, apart := false }
def DocFlatSaid : Prop := docFlatRow.holds Try.pinned (OpenSpec.ofChange docFlatSpec)

/-- ITS FALSE NEIGHBOUR: 'it returns false'. Refute it at one input. -/
def docFlatWrong : ChangeSpec := { name := "docFlat", fn := fun _ => fun
  | [d] => { results := [.lit (.bool false)], args := [d] }
  | _ => none }
def DocFlatWrongFalsely : Prop := docFlatRow.holds Try.pinned (OpenSpec.ofChange docFlatWrong)

/-- 'subeditorlaw12.DocApart': WHATEVER THE INPUT: true; the input reads as it did. -/
def docApartSpec : ChangeSpec := { name := "docApart", fn := fun _ => fun
  | [d] => { results := [.lit (.bool true)], args := [d] }
  | _ => none }
def docApartRow : OpenClaim := { program := "ytggbocimapdidaa", sum := "fc4f7b2918acaa6a51b7850ce641dc656af1ae7a9b8f7caf410d4498aba84bc8", func := "subeditor/subeditorlaw12.DocApart", spec := "docApart", inPlace := ["internal/abi.NoEscape"], unfollowed := true, recurses := true, apart := false }
def DocApartSaid : Prop := docApartRow.holds Try.pinned (OpenSpec.ofChange docApartSpec)

/-- ITS FALSE NEIGHBOUR: 'it returns false'. Refute it at one input. -/
def docApartWrong : ChangeSpec := { name := "docApart", fn := fun _ => fun
  | [d] => { results := [.lit (.bool false)], args := [d] }
  | _ => none }
def DocApartWrongFalsely : Prop := docApartRow.holds Try.pinned (OpenSpec.ofChange docApartWrong)

/-- 'subeditorlaw12.DocJoin': WHATEVER THE INPUT: true; the input reads as it did. -/
def docJoinSpec : ChangeSpec := { name := "docJoin", fn := fun _ => fun
  | [d1, d2, d3] => { results := [.lit (.bool true)], args := [d1, d2, d3] }
  | _ => none }
def docJoinRow : OpenClaim := { program := "ytggbocimapdidaa", sum := "fc4f7b2918acaa6a51b7850ce641dc656af1ae7a9b8f7caf410d4498aba84bc8", func := "subeditor/subeditorlaw12.DocJoin", spec := "docJoin", inPlace := ["internal/abi.NoEscape"], unfollowed := true, recurses := true, apart := false }
def DocJoinSaid : Prop := docJoinRow.holds Try.pinned (OpenSpec.ofChange docJoinSpec)

/-- ITS FALSE NEIGHBOUR: 'it returns false'. Refute it at one input. -/
def docJoinWrong : ChangeSpec := { name := "docJoin", fn := fun _ => fun
  | [d1, d2, d3] => { results := [.lit (.bool false)], args := [d1, d2, d3] }
  | _ => none }
def DocJoinWrongFalsely : Prop := docJoinRow.holds Try.pinned (OpenSpec.ofChange docJoinWrong)

/-- 'subeditorlaw12.DocRight': WHATEVER THE INPUT: true; the input reads as it did. -/
def docRightSpec : ChangeSpec := { name := "docRight", fn := fun _ => fun
  | [d1, d2] => { results := [.lit (.bool true)], args := [d1, d2] }
  | _ => none }
def docRightRow : OpenClaim := { program := "ytggbocimapdidaa", sum := "fc4f7b2918acaa6a51b7850ce641dc656af1ae7a9b8f7caf410d4498aba84bc8", func := "subeditor/subeditorlaw12.DocRight", spec := "docRight", inPlace := ["internal/abi.NoEscape"], unfollowed := true, recurses := true, apart := false }
def DocRightSaid : Prop := docRightRow.holds Try.pinned (OpenSpec.ofChange docRightSpec)

/-- ITS FALSE NEIGHBOUR: 'it returns false'. Refute it at one input. -/
def docRightWrong : ChangeSpec := { name := "docRight", fn := fun _ => fun
  | [d1, d2] => { results := [.lit (.bool false)], args := [d1, d2] }
  | _ => none }
def DocRightWrongFalsely : Prop := docRightRow.holds Try.pinned (OpenSpec.ofChange docRightWrong)

/-- 'subeditorlaw12.DocRows': WHATEVER THE INPUT: true; the input reads as it did. -/
def docRowsSpec : ChangeSpec := { name := "docRows", fn := fun _ => fun
  | [d1, d2, d3] => { results := [.lit (.bool true)], args := [d1, d2, d3] }
  | _ => none }
def docRowsRow : OpenClaim := { program := "ytggbocimapdidaa", sum := "fc4f7b2918acaa6a51b7850ce641dc656af1ae7a9b8f7caf410d4498aba84bc8", func := "subeditor/subeditorlaw12.DocRows", spec := "docRows", inPlace := ["internal/abi.NoEscape"], unfollowed := true, recurses := true, apart := false }
def DocRowsSaid : Prop := docRowsRow.holds Try.pinned (OpenSpec.ofChange docRowsSpec)

/-- ITS FALSE NEIGHBOUR: 'it returns false'. Refute it at one input. -/
def docRowsWrong : ChangeSpec := { name := "docRows", fn := fun _ => fun
  | [d1, d2, d3] => { results := [.lit (.bool false)], args := [d1, d2, d3] }
  | _ => none }
def DocRowsWrongFalsely : Prop := docRowsRow.holds Try.pinned (OpenSpec.ofChange docRowsWrong)

/- THE SECOND FORM. 'bulk': how many values and letters a reading holds, each counted each time it is reached (what is shared counts as often as it is met; a slice's spare places count too). A statement '..UptoSaid' is the law's where the arguments, and the package variables that the reading takes, are together of bulk at most 1048576: NARROWER than '..Said'. Prove '..Said' where nothing that the law and all that it calls make is longer than what came in: it says more and counts as full. Else prove '..UptoSaid'. A law counts once. -/
mutual
def uptoBulk {H : Type} : DataW H → Nat
  | .lit (.string bytes) => bytes.length + 1
  | .lit _ => 1
  | .nil => 1
  | .ptr d => uptoBulk d + 1
  | .slice elems spare => uptoBulkAll elems + uptoBulkAll spare + 1
  | .agg parts => uptoBulkAll parts + 1
  | .iface _ d => uptoBulk d + 1
  | .map entries => uptoBulkEntries entries + 1
  | .held _ => 1
def uptoBulkAll {H : Type} : List (DataW H) → Nat
  | [] => 0
  | d :: r => uptoBulk d + uptoBulkAll r
def uptoBulkEntries {H : Type} : List (Lit × DataW H) → Nat
  | [] => 0
  | x :: r => uptoBulkEntry x + uptoBulkEntries r
def uptoBulkEntry {H : Type} : Lit × DataW H → Nat
  | (.string bytes, d) => bytes.length + uptoBulk d + 1
  | (_, d) => uptoBulk d + 1
 end
def uptoSmall : (H : Type) → List (DataW H) → Bool := fun _ ds => decide (uptoBulkAll ds ≤ 1048576)
def OpenSpec.upto (s : _root_.Go.ChangeSpec) : _root_.Go.OpenSpec := { _root_.Go.OpenSpec.ofChange s with cond := some uptoSmall }

/-- 'subeditorlaw12.DocFlat', WHERE WHAT IT READS IS OF BULK AT MOST 1048576: true; the input reads as it did. -/
def docFlatUptoRow : OpenClaim := { program := "ytggbocimapdidaa", sum := "fc4f7b2918acaa6a51b7850ce641dc656af1ae7a9b8f7caf410d4498aba84bc8", func := "subeditor/subeditorlaw12.DocFlat", spec := "docFlat", inPlace := ["internal/abi.NoEscape"], unfollowed := true, recurses := true, apart := false, narrowed := true }
def DocFlatUptoSaid : Prop := docFlatUptoRow.holds Try.pinned (OpenSpec.upto docFlatSpec)

/-- 'subeditorlaw12.DocApart', WHERE WHAT IT READS IS OF BULK AT MOST 1048576: true; the input reads as it did. -/
def docApartUptoRow : OpenClaim := { program := "ytggbocimapdidaa", sum := "fc4f7b2918acaa6a51b7850ce641dc656af1ae7a9b8f7caf410d4498aba84bc8", func := "subeditor/subeditorlaw12.DocApart", spec := "docApart", inPlace := ["internal/abi.NoEscape"], unfollowed := true, recurses := true, apart := false, narrowed := true }
def DocApartUptoSaid : Prop := docApartUptoRow.holds Try.pinned (OpenSpec.upto docApartSpec)

/-- 'subeditorlaw12.DocJoin', WHERE WHAT IT READS IS OF BULK AT MOST 1048576: true; the input reads as it did. -/
def docJoinUptoRow : OpenClaim := { program := "ytggbocimapdidaa", sum := "fc4f7b2918acaa6a51b7850ce641dc656af1ae7a9b8f7caf410d4498aba84bc8", func := "subeditor/subeditorlaw12.DocJoin", spec := "docJoin", inPlace := ["internal/abi.NoEscape"], unfollowed := true, recurses := true, apart := false, narrowed := true }
def DocJoinUptoSaid : Prop := docJoinUptoRow.holds Try.pinned (OpenSpec.upto docJoinSpec)

/-- 'subeditorlaw12.DocRight', WHERE WHAT IT READS IS OF BULK AT MOST 1048576: true; the input reads as it did. -/
def docRightUptoRow : OpenClaim := { program := "ytggbocimapdidaa", sum := "fc4f7b2918acaa6a51b7850ce641dc656af1ae7a9b8f7caf410d4498aba84bc8", func := "subeditor/subeditorlaw12.DocRight", spec := "docRight", inPlace := ["internal/abi.NoEscape"], unfollowed := true, recurses := true, apart := false, narrowed := true }
def DocRightUptoSaid : Prop := docRightUptoRow.holds Try.pinned (OpenSpec.upto docRightSpec)

/-- 'subeditorlaw12.DocRows', WHERE WHAT IT READS IS OF BULK AT MOST 1048576: true; the input reads as it did. -/
def docRowsUptoRow : OpenClaim := { program := "ytggbocimapdidaa", sum := "fc4f7b2918acaa6a51b7850ce641dc656af1ae7a9b8f7caf410d4498aba84bc8", func := "subeditor/subeditorlaw12.DocRows", spec := "docRows", inPlace := ["internal/abi.NoEscape"], unfollowed := true, recurses := true, apart := false, narrowed := true }
def DocRowsUptoSaid : Prop := docRowsUptoRow.holds Try.pinned (OpenSpec.upto docRowsSpec)

end Rows
end Go.Proofs.Ytggbocimapdidaa
