/-
  NARROWER THAN 'FOR EVERY INPUT', by the rows' own cells (each row's printed sentence says how): FnExactTreeFind: laid · FnExactTreeFindLine: laid · FnSplitJoin: laid · FnFindPut: laid · FnTreeScript: laid · FnExactPieceSlice: laid · FnExactPieceOffset: laid · FnExactPieceLineCol: laid · FnExactTreeInsert: laid · FnExactTreeDelete: laid · FnExactTreeSplit: laid · FnExactTreeJoin: laid.
  DERIVED. THE GIVEN ROWS OF THIS SEAT. 12 by the template 'for every input the law returns true; each argument reads behind the call as it read before'; 0 by the template 'total and deterministic' (their statements: YtciabhncmdpeeaaDoorTotals.lean).
  GIVEN WITH THE SEED: the statements are not yours to turn. If you find one false, say at which input.
  Laid BY PROGRAM, IN A SANDBOX (cutbox-rows.mjs): the forced cells as the released guide's own fill.sh prints them over the translation 124cf73353b166e8… (all of the seat's roots in one cut). By AI agents, Wed Nov 11 2026. No macro, syntax, notation, axiom, sorry.
-/
import Derived.Test.YtciabhncmdpeeaaDoorChecked
import GoSem.Claim
import GoSem.ClaimJoined
import GoSem.ClaimMapViews
import Derived.JoinedTies
import Derived.KernelRfl
namespace Go.Proofs.YtciabhncmdpeeaaDoor
/- THE CELL 'sum', in the pinned program and in every row, IS THE sha256 OF THE DUMP (.gsa) THAT YtciabhncmdpeeaaDoorProg.lean LOADS. Nothing in Lean hashes anything: it is a label: what it is worth is what the hold of that sum in a sandbox is worth. -/
noncomputable def Tryd.pinned : Pinned := { name := "ytciabhncmdpeeaadoor", sum := "124cf73353b166e8647536d07d384f4980d9ddc3a6072988be1ddfc8f91ac5f3", checked := Tryd.checked }
namespace Rows
def none {H : Type} : Left H := { results := [], args := [] }

/- WHAT THE LISTED PACKAGE-LEVEL VARIABLES READ AS WHEN THE CALL BEGINS. Each datum BY PROGRAM (the guide's laid-datum.mjs) off the statement by which the dump's own 'gosem.cut.vars' lays the variable. In a bare row this is a premise. The card (YtciabhncmdpeeaaDoorCards.lean) ties it to the program's text. -/
def laid_errors_errorType {H : Type} : DataW H := .iface "internal/reflectlite.rtype" (.agg [.ptr (.lit (.string [101, 114, 114, 111, 114]))])

/-- 'laws.FnExactTreeFind': WHATEVER THE INPUT: true; the input reads as it did. -/
def fnExactTreeFindSpec : ChangeSpec := { name := "fnExactTreeFind", fn := fun _ => fun
  | [d1, d2] => { results := [.lit (.bool true)], args := [d1, d2] }
  | _ => none }
def fnExactTreeFindRow : OpenClaim := { program := "ytciabhncmdpeeaadoor", sum := "124cf73353b166e8647536d07d384f4980d9ddc3a6072988be1ddfc8f91ac5f3", func := "loop.example/s01685/laws.FnExactTreeFind", spec := "fnExactTreeFind", inPlace := ["internal/reflectlite.ValueOf", "(internal/reflectlite.Value).Type", "(internal/reflectlite.Value).IsNil", "internal/reflectlite.TypeOf", "(internal/reflectlite.Value).Elem", "(internal/reflectlite.Value).Set"], unfollowed := true, recurses := true, named := ["errors.errorType"], apart := false, laid := [("errors.errorType", laid_errors_errorType)] }
def FnExactTreeFindSaid : Prop := fnExactTreeFindRow.holds Tryd.pinned (OpenSpec.ofChange fnExactTreeFindSpec)

/-- ITS FALSE NEIGHBOUR: 'it returns false'. Refute it at one input. -/
def fnExactTreeFindWrong : ChangeSpec := { name := "fnExactTreeFind", fn := fun _ => fun
  | [d1, d2] => { results := [.lit (.bool false)], args := [d1, d2] }
  | _ => none }
def FnExactTreeFindWrongFalsely : Prop := fnExactTreeFindRow.holds Tryd.pinned (OpenSpec.ofChange fnExactTreeFindWrong)

/-- 'laws.FnExactTreeFindLine': WHATEVER THE INPUT: true; the input reads as it did. -/
def fnExactTreeFindLineSpec : ChangeSpec := { name := "fnExactTreeFindLine", fn := fun _ => fun
  | [d1, d2] => { results := [.lit (.bool true)], args := [d1, d2] }
  | _ => none }
def fnExactTreeFindLineRow : OpenClaim := { program := "ytciabhncmdpeeaadoor", sum := "124cf73353b166e8647536d07d384f4980d9ddc3a6072988be1ddfc8f91ac5f3", func := "loop.example/s01685/laws.FnExactTreeFindLine", spec := "fnExactTreeFindLine", inPlace := ["internal/reflectlite.ValueOf", "(internal/reflectlite.Value).Type", "(internal/reflectlite.Value).IsNil", "internal/reflectlite.TypeOf", "(internal/reflectlite.Value).Elem", "(internal/reflectlite.Value).Set"], unfollowed := true, recurses := true, named := ["errors.errorType"], apart := false, laid := [("errors.errorType", laid_errors_errorType)] }
def FnExactTreeFindLineSaid : Prop := fnExactTreeFindLineRow.holds Tryd.pinned (OpenSpec.ofChange fnExactTreeFindLineSpec)

/-- ITS FALSE NEIGHBOUR: 'it returns false'. Refute it at one input. -/
def fnExactTreeFindLineWrong : ChangeSpec := { name := "fnExactTreeFindLine", fn := fun _ => fun
  | [d1, d2] => { results := [.lit (.bool false)], args := [d1, d2] }
  | _ => none }
def FnExactTreeFindLineWrongFalsely : Prop := fnExactTreeFindLineRow.holds Tryd.pinned (OpenSpec.ofChange fnExactTreeFindLineWrong)

/-- 'laws.FnSplitJoin': WHATEVER THE INPUT: true; the input reads as it did. -/
def fnSplitJoinSpec : ChangeSpec := { name := "fnSplitJoin", fn := fun _ => fun
  | [d] => { results := [.lit (.bool true)], args := [d] }
  | _ => none }
def fnSplitJoinRow : OpenClaim := { program := "ytciabhncmdpeeaadoor", sum := "124cf73353b166e8647536d07d384f4980d9ddc3a6072988be1ddfc8f91ac5f3", func := "loop.example/s01685/laws.FnSplitJoin", spec := "fnSplitJoin", inPlace := ["internal/reflectlite.ValueOf", "(internal/reflectlite.Value).Type", "(internal/reflectlite.Value).IsNil", "internal/reflectlite.TypeOf", "(internal/reflectlite.Value).Elem", "(internal/reflectlite.Value).Set"], unfollowed := true, recurses := true, named := ["errors.errorType"], apart := false, laid := [("errors.errorType", laid_errors_errorType)] }
def FnSplitJoinSaid : Prop := fnSplitJoinRow.holds Tryd.pinned (OpenSpec.ofChange fnSplitJoinSpec)

/-- ITS FALSE NEIGHBOUR: 'it returns false'. Refute it at one input. -/
def fnSplitJoinWrong : ChangeSpec := { name := "fnSplitJoin", fn := fun _ => fun
  | [d] => { results := [.lit (.bool false)], args := [d] }
  | _ => none }
def FnSplitJoinWrongFalsely : Prop := fnSplitJoinRow.holds Tryd.pinned (OpenSpec.ofChange fnSplitJoinWrong)

/-- 'laws.FnFindPut': WHATEVER THE INPUT: true; the input reads as it did. -/
def fnFindPutSpec : ChangeSpec := { name := "fnFindPut", fn := fun _ => fun
  | [d] => { results := [.lit (.bool true)], args := [d] }
  | _ => none }
def fnFindPutRow : OpenClaim := { program := "ytciabhncmdpeeaadoor", sum := "124cf73353b166e8647536d07d384f4980d9ddc3a6072988be1ddfc8f91ac5f3", func := "loop.example/s01685/laws.FnFindPut", spec := "fnFindPut", inPlace := ["internal/reflectlite.ValueOf", "(internal/reflectlite.Value).Type", "(internal/reflectlite.Value).IsNil", "internal/reflectlite.TypeOf", "(internal/reflectlite.Value).Elem", "(internal/reflectlite.Value).Set"], unfollowed := true, recurses := true, named := ["errors.errorType"], apart := false, laid := [("errors.errorType", laid_errors_errorType)] }
def FnFindPutSaid : Prop := fnFindPutRow.holds Tryd.pinned (OpenSpec.ofChange fnFindPutSpec)

/-- ITS FALSE NEIGHBOUR: 'it returns false'. Refute it at one input. -/
def fnFindPutWrong : ChangeSpec := { name := "fnFindPut", fn := fun _ => fun
  | [d] => { results := [.lit (.bool false)], args := [d] }
  | _ => none }
def FnFindPutWrongFalsely : Prop := fnFindPutRow.holds Tryd.pinned (OpenSpec.ofChange fnFindPutWrong)

/-- 'laws.FnTreeScript': WHATEVER THE INPUT: true; the input reads as it did. -/
def fnTreeScriptSpec : ChangeSpec := { name := "fnTreeScript", fn := fun _ => fun
  | [d] => { results := [.lit (.bool true)], args := [d] }
  | _ => none }
def fnTreeScriptRow : OpenClaim := { program := "ytciabhncmdpeeaadoor", sum := "124cf73353b166e8647536d07d384f4980d9ddc3a6072988be1ddfc8f91ac5f3", func := "loop.example/s01685/laws.FnTreeScript", spec := "fnTreeScript", inPlace := ["internal/reflectlite.ValueOf", "(internal/reflectlite.Value).Type", "(internal/reflectlite.Value).IsNil", "internal/reflectlite.TypeOf", "(internal/reflectlite.Value).Elem", "(internal/reflectlite.Value).Set"], unfollowed := true, recurses := true, named := ["errors.errorType"], apart := false, laid := [("errors.errorType", laid_errors_errorType)] }
def FnTreeScriptSaid : Prop := fnTreeScriptRow.holds Tryd.pinned (OpenSpec.ofChange fnTreeScriptSpec)

/-- ITS FALSE NEIGHBOUR: 'it returns false'. Refute it at one input. -/
def fnTreeScriptWrong : ChangeSpec := { name := "fnTreeScript", fn := fun _ => fun
  | [d] => { results := [.lit (.bool false)], args := [d] }
  | _ => none }
def FnTreeScriptWrongFalsely : Prop := fnTreeScriptRow.holds Tryd.pinned (OpenSpec.ofChange fnTreeScriptWrong)

/-- 'laws.FnExactPieceSlice': WHATEVER THE INPUT: true; the input reads as it did. -/
def fnExactPieceSliceSpec : ChangeSpec := { name := "fnExactPieceSlice", fn := fun _ => fun
  | [d1, d2, d3] => { results := [.lit (.bool true)], args := [d1, d2, d3] }
  | _ => none }
def fnExactPieceSliceRow : OpenClaim := { program := "ytciabhncmdpeeaadoor", sum := "124cf73353b166e8647536d07d384f4980d9ddc3a6072988be1ddfc8f91ac5f3", func := "loop.example/s01685/laws.FnExactPieceSlice", spec := "fnExactPieceSlice", inPlace := ["internal/reflectlite.ValueOf", "(internal/reflectlite.Value).Type", "(internal/reflectlite.Value).IsNil", "internal/reflectlite.TypeOf", "(internal/reflectlite.Value).Elem", "(internal/reflectlite.Value).Set"], unfollowed := true, recurses := true, named := ["errors.errorType"], apart := false, laid := [("errors.errorType", laid_errors_errorType)] }
def FnExactPieceSliceSaid : Prop := fnExactPieceSliceRow.holds Tryd.pinned (OpenSpec.ofChange fnExactPieceSliceSpec)

/-- ITS FALSE NEIGHBOUR: 'it returns false'. Refute it at one input. -/
def fnExactPieceSliceWrong : ChangeSpec := { name := "fnExactPieceSlice", fn := fun _ => fun
  | [d1, d2, d3] => { results := [.lit (.bool false)], args := [d1, d2, d3] }
  | _ => none }
def FnExactPieceSliceWrongFalsely : Prop := fnExactPieceSliceRow.holds Tryd.pinned (OpenSpec.ofChange fnExactPieceSliceWrong)

/-- 'laws.FnExactPieceOffset': WHATEVER THE INPUT: true; the input reads as it did. -/
def fnExactPieceOffsetSpec : ChangeSpec := { name := "fnExactPieceOffset", fn := fun _ => fun
  | [d1, d2, d3] => { results := [.lit (.bool true)], args := [d1, d2, d3] }
  | _ => none }
def fnExactPieceOffsetRow : OpenClaim := { program := "ytciabhncmdpeeaadoor", sum := "124cf73353b166e8647536d07d384f4980d9ddc3a6072988be1ddfc8f91ac5f3", func := "loop.example/s01685/laws.FnExactPieceOffset", spec := "fnExactPieceOffset", inPlace := ["internal/reflectlite.ValueOf", "(internal/reflectlite.Value).Type", "(internal/reflectlite.Value).IsNil", "internal/reflectlite.TypeOf", "(internal/reflectlite.Value).Elem", "(internal/reflectlite.Value).Set"], unfollowed := true, recurses := true, named := ["errors.errorType"], apart := false, laid := [("errors.errorType", laid_errors_errorType)] }
def FnExactPieceOffsetSaid : Prop := fnExactPieceOffsetRow.holds Tryd.pinned (OpenSpec.ofChange fnExactPieceOffsetSpec)

/-- ITS FALSE NEIGHBOUR: 'it returns false'. Refute it at one input. -/
def fnExactPieceOffsetWrong : ChangeSpec := { name := "fnExactPieceOffset", fn := fun _ => fun
  | [d1, d2, d3] => { results := [.lit (.bool false)], args := [d1, d2, d3] }
  | _ => none }
def FnExactPieceOffsetWrongFalsely : Prop := fnExactPieceOffsetRow.holds Tryd.pinned (OpenSpec.ofChange fnExactPieceOffsetWrong)

/-- 'laws.FnExactPieceLineCol': WHATEVER THE INPUT: true; the input reads as it did. -/
def fnExactPieceLineColSpec : ChangeSpec := { name := "fnExactPieceLineCol", fn := fun _ => fun
  | [d1, d2] => { results := [.lit (.bool true)], args := [d1, d2] }
  | _ => none }
def fnExactPieceLineColRow : OpenClaim := { program := "ytciabhncmdpeeaadoor", sum := "124cf73353b166e8647536d07d384f4980d9ddc3a6072988be1ddfc8f91ac5f3", func := "loop.example/s01685/laws.FnExactPieceLineCol", spec := "fnExactPieceLineCol", inPlace := ["internal/reflectlite.ValueOf", "(internal/reflectlite.Value).Type", "(internal/reflectlite.Value).IsNil", "internal/reflectlite.TypeOf", "(internal/reflectlite.Value).Elem", "(internal/reflectlite.Value).Set"], unfollowed := true, recurses := true, named := ["errors.errorType"], apart := false, laid := [("errors.errorType", laid_errors_errorType)] }
def FnExactPieceLineColSaid : Prop := fnExactPieceLineColRow.holds Tryd.pinned (OpenSpec.ofChange fnExactPieceLineColSpec)

/-- ITS FALSE NEIGHBOUR: 'it returns false'. Refute it at one input. -/
def fnExactPieceLineColWrong : ChangeSpec := { name := "fnExactPieceLineCol", fn := fun _ => fun
  | [d1, d2] => { results := [.lit (.bool false)], args := [d1, d2] }
  | _ => none }
def FnExactPieceLineColWrongFalsely : Prop := fnExactPieceLineColRow.holds Tryd.pinned (OpenSpec.ofChange fnExactPieceLineColWrong)

/-- 'laws.FnExactTreeInsert': WHATEVER THE INPUT: true; the input reads as it did. -/
def fnExactTreeInsertSpec : ChangeSpec := { name := "fnExactTreeInsert", fn := fun _ => fun
  | [d1, d2, d3] => { results := [.lit (.bool true)], args := [d1, d2, d3] }
  | _ => none }
def fnExactTreeInsertRow : OpenClaim := { program := "ytciabhncmdpeeaadoor", sum := "124cf73353b166e8647536d07d384f4980d9ddc3a6072988be1ddfc8f91ac5f3", func := "loop.example/s01685/laws.FnExactTreeInsert", spec := "fnExactTreeInsert", inPlace := ["internal/reflectlite.ValueOf", "(internal/reflectlite.Value).Type", "(internal/reflectlite.Value).IsNil", "internal/reflectlite.TypeOf", "(internal/reflectlite.Value).Elem", "(internal/reflectlite.Value).Set"], unfollowed := true, recurses := true, named := ["errors.errorType"], apart := false, laid := [("errors.errorType", laid_errors_errorType)] }
def FnExactTreeInsertSaid : Prop := fnExactTreeInsertRow.holds Tryd.pinned (OpenSpec.ofChange fnExactTreeInsertSpec)

/-- ITS FALSE NEIGHBOUR: 'it returns false'. Refute it at one input. -/
def fnExactTreeInsertWrong : ChangeSpec := { name := "fnExactTreeInsert", fn := fun _ => fun
  | [d1, d2, d3] => { results := [.lit (.bool false)], args := [d1, d2, d3] }
  | _ => none }
def FnExactTreeInsertWrongFalsely : Prop := fnExactTreeInsertRow.holds Tryd.pinned (OpenSpec.ofChange fnExactTreeInsertWrong)

/-- 'laws.FnExactTreeDelete': WHATEVER THE INPUT: true; the input reads as it did. -/
def fnExactTreeDeleteSpec : ChangeSpec := { name := "fnExactTreeDelete", fn := fun _ => fun
  | [d1, d2] => { results := [.lit (.bool true)], args := [d1, d2] }
  | _ => none }
def fnExactTreeDeleteRow : OpenClaim := { program := "ytciabhncmdpeeaadoor", sum := "124cf73353b166e8647536d07d384f4980d9ddc3a6072988be1ddfc8f91ac5f3", func := "loop.example/s01685/laws.FnExactTreeDelete", spec := "fnExactTreeDelete", inPlace := ["internal/reflectlite.ValueOf", "(internal/reflectlite.Value).Type", "(internal/reflectlite.Value).IsNil", "internal/reflectlite.TypeOf", "(internal/reflectlite.Value).Elem", "(internal/reflectlite.Value).Set"], unfollowed := true, recurses := true, named := ["errors.errorType"], apart := false, laid := [("errors.errorType", laid_errors_errorType)] }
def FnExactTreeDeleteSaid : Prop := fnExactTreeDeleteRow.holds Tryd.pinned (OpenSpec.ofChange fnExactTreeDeleteSpec)

/-- ITS FALSE NEIGHBOUR: 'it returns false'. Refute it at one input. -/
def fnExactTreeDeleteWrong : ChangeSpec := { name := "fnExactTreeDelete", fn := fun _ => fun
  | [d1, d2] => { results := [.lit (.bool false)], args := [d1, d2] }
  | _ => none }
def FnExactTreeDeleteWrongFalsely : Prop := fnExactTreeDeleteRow.holds Tryd.pinned (OpenSpec.ofChange fnExactTreeDeleteWrong)

/-- 'laws.FnExactTreeSplit': WHATEVER THE INPUT: true; the input reads as it did. -/
def fnExactTreeSplitSpec : ChangeSpec := { name := "fnExactTreeSplit", fn := fun _ => fun
  | [d1, d2] => { results := [.lit (.bool true)], args := [d1, d2] }
  | _ => none }
def fnExactTreeSplitRow : OpenClaim := { program := "ytciabhncmdpeeaadoor", sum := "124cf73353b166e8647536d07d384f4980d9ddc3a6072988be1ddfc8f91ac5f3", func := "loop.example/s01685/laws.FnExactTreeSplit", spec := "fnExactTreeSplit", inPlace := ["internal/reflectlite.ValueOf", "(internal/reflectlite.Value).Type", "(internal/reflectlite.Value).IsNil", "internal/reflectlite.TypeOf", "(internal/reflectlite.Value).Elem", "(internal/reflectlite.Value).Set"], unfollowed := true, recurses := true, named := ["errors.errorType"], apart := false, laid := [("errors.errorType", laid_errors_errorType)] }
def FnExactTreeSplitSaid : Prop := fnExactTreeSplitRow.holds Tryd.pinned (OpenSpec.ofChange fnExactTreeSplitSpec)

/-- ITS FALSE NEIGHBOUR: 'it returns false'. Refute it at one input. -/
def fnExactTreeSplitWrong : ChangeSpec := { name := "fnExactTreeSplit", fn := fun _ => fun
  | [d1, d2] => { results := [.lit (.bool false)], args := [d1, d2] }
  | _ => none }
def FnExactTreeSplitWrongFalsely : Prop := fnExactTreeSplitRow.holds Tryd.pinned (OpenSpec.ofChange fnExactTreeSplitWrong)

/-- 'laws.FnExactTreeJoin': WHATEVER THE INPUT: true; the input reads as it did. -/
def fnExactTreeJoinSpec : ChangeSpec := { name := "fnExactTreeJoin", fn := fun _ => fun
  | [d1, d2] => { results := [.lit (.bool true)], args := [d1, d2] }
  | _ => none }
def fnExactTreeJoinRow : OpenClaim := { program := "ytciabhncmdpeeaadoor", sum := "124cf73353b166e8647536d07d384f4980d9ddc3a6072988be1ddfc8f91ac5f3", func := "loop.example/s01685/laws.FnExactTreeJoin", spec := "fnExactTreeJoin", inPlace := ["internal/reflectlite.ValueOf", "(internal/reflectlite.Value).Type", "(internal/reflectlite.Value).IsNil", "internal/reflectlite.TypeOf", "(internal/reflectlite.Value).Elem", "(internal/reflectlite.Value).Set"], unfollowed := true, recurses := true, named := ["errors.errorType"], apart := false, laid := [("errors.errorType", laid_errors_errorType)] }
def FnExactTreeJoinSaid : Prop := fnExactTreeJoinRow.holds Tryd.pinned (OpenSpec.ofChange fnExactTreeJoinSpec)

/-- ITS FALSE NEIGHBOUR: 'it returns false'. Refute it at one input. -/
def fnExactTreeJoinWrong : ChangeSpec := { name := "fnExactTreeJoin", fn := fun _ => fun
  | [d1, d2] => { results := [.lit (.bool false)], args := [d1, d2] }
  | _ => none }
def FnExactTreeJoinWrongFalsely : Prop := fnExactTreeJoinRow.holds Tryd.pinned (OpenSpec.ofChange fnExactTreeJoinWrong)

/- THE SECOND FORM. 'bulk': how many values and letters a reading holds, each counted each time it is reached (what is shared counts as often as it is met; a slice's spare places count too). A statement '..UptoSaid' is the law's where the arguments, and the package variables that the reading takes, are together of bulk at most 1048576: NARROWER than '..Said'. Prove '..Said' where nothing that the law and all that it calls make is longer than what came in: it says more and counts as full. Else prove '..UptoSaid'. A law counts once. -/
mutual
def uptoBulk {H : Type} : DataW H → Nat
  | .lit (.string bytes) => bytes.length + 1
  | .lit _ => 1
  | .nil => 1
  | .ptr d => uptoBulk d + 1
  | .slice elems spare => uptoBulkAll elems + uptoBulkAll spare + 1
  | .agg parts => uptoBulkAll parts + 1
  | .iface _ d => uptoBulk d + 1
  | .map entries => uptoBulkEntries entries + 1
  | .held _ => 1
def uptoBulkAll {H : Type} : List (DataW H) → Nat
  | [] => 0
  | d :: r => uptoBulk d + uptoBulkAll r
def uptoBulkEntries {H : Type} : List (Lit × DataW H) → Nat
  | [] => 0
  | x :: r => uptoBulkEntry x + uptoBulkEntries r
def uptoBulkEntry {H : Type} : Lit × DataW H → Nat
  | (.string bytes, d) => bytes.length + uptoBulk d + 1
  | (_, d) => uptoBulk d + 1
 end
def uptoSmall : (H : Type) → List (DataW H) → Bool := fun _ ds => decide (uptoBulkAll ds ≤ 1048576)
def OpenSpec.upto (s : _root_.Go.ChangeSpec) : _root_.Go.OpenSpec := { _root_.Go.OpenSpec.ofChange s with cond := some uptoSmall }

/-- 'laws.FnExactTreeFind', WHERE WHAT IT READS IS OF BULK AT MOST 1048576: true; the input reads as it did. -/
def fnExactTreeFindUptoRow : OpenClaim := { program := "ytciabhncmdpeeaadoor", sum := "124cf73353b166e8647536d07d384f4980d9ddc3a6072988be1ddfc8f91ac5f3", func := "loop.example/s01685/laws.FnExactTreeFind", spec := "fnExactTreeFind", inPlace := ["internal/reflectlite.ValueOf", "(internal/reflectlite.Value).Type", "(internal/reflectlite.Value).IsNil", "internal/reflectlite.TypeOf", "(internal/reflectlite.Value).Elem", "(internal/reflectlite.Value).Set"], unfollowed := true, recurses := true, named := ["errors.errorType"], apart := false, laid := [("errors.errorType", laid_errors_errorType)], narrowed := true }
def FnExactTreeFindUptoSaid : Prop := fnExactTreeFindUptoRow.holds Tryd.pinned (OpenSpec.upto fnExactTreeFindSpec)

/-- 'laws.FnExactTreeFindLine', WHERE WHAT IT READS IS OF BULK AT MOST 1048576: true; the input reads as it did. -/
def fnExactTreeFindLineUptoRow : OpenClaim := { program := "ytciabhncmdpeeaadoor", sum := "124cf73353b166e8647536d07d384f4980d9ddc3a6072988be1ddfc8f91ac5f3", func := "loop.example/s01685/laws.FnExactTreeFindLine", spec := "fnExactTreeFindLine", inPlace := ["internal/reflectlite.ValueOf", "(internal/reflectlite.Value).Type", "(internal/reflectlite.Value).IsNil", "internal/reflectlite.TypeOf", "(internal/reflectlite.Value).Elem", "(internal/reflectlite.Value).Set"], unfollowed := true, recurses := true, named := ["errors.errorType"], apart := false, laid := [("errors.errorType", laid_errors_errorType)], narrowed := true }
def FnExactTreeFindLineUptoSaid : Prop := fnExactTreeFindLineUptoRow.holds Tryd.pinned (OpenSpec.upto fnExactTreeFindLineSpec)

/-- 'laws.FnSplitJoin', WHERE WHAT IT READS IS OF BULK AT MOST 1048576: true; the input reads as it did. -/
def fnSplitJoinUptoRow : OpenClaim := { program := "ytciabhncmdpeeaadoor", sum := "124cf73353b166e8647536d07d384f4980d9ddc3a6072988be1ddfc8f91ac5f3", func := "loop.example/s01685/laws.FnSplitJoin", spec := "fnSplitJoin", inPlace := ["internal/reflectlite.ValueOf", "(internal/reflectlite.Value).Type", "(internal/reflectlite.Value).IsNil", "internal/reflectlite.TypeOf", "(internal/reflectlite.Value).Elem", "(internal/reflectlite.Value).Set"], unfollowed := true, recurses := true, named := ["errors.errorType"], apart := false, laid := [("errors.errorType", laid_errors_errorType)], narrowed := true }
def FnSplitJoinUptoSaid : Prop := fnSplitJoinUptoRow.holds Tryd.pinned (OpenSpec.upto fnSplitJoinSpec)

/-- 'laws.FnFindPut', WHERE WHAT IT READS IS OF BULK AT MOST 1048576: true; the input reads as it did. -/
def fnFindPutUptoRow : OpenClaim := { program := "ytciabhncmdpeeaadoor", sum := "124cf73353b166e8647536d07d384f4980d9ddc3a6072988be1ddfc8f91ac5f3", func := "loop.example/s01685/laws.FnFindPut", spec := "fnFindPut", inPlace := ["internal/reflectlite.ValueOf", "(internal/reflectlite.Value).Type", "(internal/reflectlite.Value).IsNil", "internal/reflectlite.TypeOf", "(internal/reflectlite.Value).Elem", "(internal/reflectlite.Value).Set"], unfollowed := true, recurses := true, named := ["errors.errorType"], apart := false, laid := [("errors.errorType", laid_errors_errorType)], narrowed := true }
def FnFindPutUptoSaid : Prop := fnFindPutUptoRow.holds Tryd.pinned (OpenSpec.upto fnFindPutSpec)

/-- 'laws.FnTreeScript', WHERE WHAT IT READS IS OF BULK AT MOST 1048576: true; the input reads as it did. -/
def fnTreeScriptUptoRow : OpenClaim := { program := "ytciabhncmdpeeaadoor", sum := "124cf73353b166e8647536d07d384f4980d9ddc3a6072988be1ddfc8f91ac5f3", func := "loop.example/s01685/laws.FnTreeScript", spec := "fnTreeScript", inPlace := ["internal/reflectlite.ValueOf", "(internal/reflectlite.Value).Type", "(internal/reflectlite.Value).IsNil", "internal/reflectlite.TypeOf", "(internal/reflectlite.Value).Elem", "(internal/reflectlite.Value).Set"], unfollowed := true, recurses := true, named := ["errors.errorType"], apart := false, laid := [("errors.errorType", laid_errors_errorType)], narrowed := true }
def FnTreeScriptUptoSaid : Prop := fnTreeScriptUptoRow.holds Tryd.pinned (OpenSpec.upto fnTreeScriptSpec)

/-- 'laws.FnExactPieceSlice', WHERE WHAT IT READS IS OF BULK AT MOST 1048576: true; the input reads as it did. -/
def fnExactPieceSliceUptoRow : OpenClaim := { program := "ytciabhncmdpeeaadoor", sum := "124cf73353b166e8647536d07d384f4980d9ddc3a6072988be1ddfc8f91ac5f3", func := "loop.example/s01685/laws.FnExactPieceSlice", spec := "fnExactPieceSlice", inPlace := ["internal/reflectlite.ValueOf", "(internal/reflectlite.Value).Type", "(internal/reflectlite.Value).IsNil", "internal/reflectlite.TypeOf", "(internal/reflectlite.Value).Elem", "(internal/reflectlite.Value).Set"], unfollowed := true, recurses := true, named := ["errors.errorType"], apart := false, laid := [("errors.errorType", laid_errors_errorType)], narrowed := true }
def FnExactPieceSliceUptoSaid : Prop := fnExactPieceSliceUptoRow.holds Tryd.pinned (OpenSpec.upto fnExactPieceSliceSpec)

/-- 'laws.FnExactPieceOffset', WHERE WHAT IT READS IS OF BULK AT MOST 1048576: true; the input reads as it did. -/
def fnExactPieceOffsetUptoRow : OpenClaim := { program := "ytciabhncmdpeeaadoor", sum := "124cf73353b166e8647536d07d384f4980d9ddc3a6072988be1ddfc8f91ac5f3", func := "loop.example/s01685/laws.FnExactPieceOffset", spec := "fnExactPieceOffset", inPlace := ["internal/reflectlite.ValueOf", "(internal/reflectlite.Value).Type", "(internal/reflectlite.Value).IsNil", "internal/reflectlite.TypeOf", "(internal/reflectlite.Value).Elem", "(internal/reflectlite.Value).Set"], unfollowed := true, recurses := true, named := ["errors.errorType"], apart := false, laid := [("errors.errorType", laid_errors_errorType)], narrowed := true }
def FnExactPieceOffsetUptoSaid : Prop := fnExactPieceOffsetUptoRow.holds Tryd.pinned (OpenSpec.upto fnExactPieceOffsetSpec)

/-- 'laws.FnExactPieceLineCol', WHERE WHAT IT READS IS OF BULK AT MOST 1048576: true; the input reads as it did. -/
def fnExactPieceLineColUptoRow : OpenClaim := { program := "ytciabhncmdpeeaadoor", sum := "124cf73353b166e8647536d07d384f4980d9ddc3a6072988be1ddfc8f91ac5f3", func := "loop.example/s01685/laws.FnExactPieceLineCol", spec := "fnExactPieceLineCol", inPlace := ["internal/reflectlite.ValueOf", "(internal/reflectlite.Value).Type", "(internal/reflectlite.Value).IsNil", "internal/reflectlite.TypeOf", "(internal/reflectlite.Value).Elem", "(internal/reflectlite.Value).Set"], unfollowed := true, recurses := true, named := ["errors.errorType"], apart := false, laid := [("errors.errorType", laid_errors_errorType)], narrowed := true }
def FnExactPieceLineColUptoSaid : Prop := fnExactPieceLineColUptoRow.holds Tryd.pinned (OpenSpec.upto fnExactPieceLineColSpec)

/-- 'laws.FnExactTreeInsert', WHERE WHAT IT READS IS OF BULK AT MOST 1048576: true; the input reads as it did. -/
def fnExactTreeInsertUptoRow : OpenClaim := { program := "ytciabhncmdpeeaadoor", sum := "124cf73353b166e8647536d07d384f4980d9ddc3a6072988be1ddfc8f91ac5f3", func := "loop.example/s01685/laws.FnExactTreeInsert", spec := "fnExactTreeInsert", inPlace := ["internal/reflectlite.ValueOf", "(internal/reflectlite.Value).Type", "(internal/reflectlite.Value).IsNil", "internal/reflectlite.TypeOf", "(internal/reflectlite.Value).Elem", "(internal/reflectlite.Value).Set"], unfollowed := true, recurses := true, named := ["errors.errorType"], apart := false, laid := [("errors.errorType", laid_errors_errorType)], narrowed := true }
def FnExactTreeInsertUptoSaid : Prop := fnExactTreeInsertUptoRow.holds Tryd.pinned (OpenSpec.upto fnExactTreeInsertSpec)

/-- 'laws.FnExactTreeDelete', WHERE WHAT IT READS IS OF BULK AT MOST 1048576: true; the input reads as it did. -/
def fnExactTreeDeleteUptoRow : OpenClaim := { program := "ytciabhncmdpeeaadoor", sum := "124cf73353b166e8647536d07d384f4980d9ddc3a6072988be1ddfc8f91ac5f3", func := "loop.example/s01685/laws.FnExactTreeDelete", spec := "fnExactTreeDelete", inPlace := ["internal/reflectlite.ValueOf", "(internal/reflectlite.Value).Type", "(internal/reflectlite.Value).IsNil", "internal/reflectlite.TypeOf", "(internal/reflectlite.Value).Elem", "(internal/reflectlite.Value).Set"], unfollowed := true, recurses := true, named := ["errors.errorType"], apart := false, laid := [("errors.errorType", laid_errors_errorType)], narrowed := true }
def FnExactTreeDeleteUptoSaid : Prop := fnExactTreeDeleteUptoRow.holds Tryd.pinned (OpenSpec.upto fnExactTreeDeleteSpec)

/-- 'laws.FnExactTreeSplit', WHERE WHAT IT READS IS OF BULK AT MOST 1048576: true; the input reads as it did. -/
def fnExactTreeSplitUptoRow : OpenClaim := { program := "ytciabhncmdpeeaadoor", sum := "124cf73353b166e8647536d07d384f4980d9ddc3a6072988be1ddfc8f91ac5f3", func := "loop.example/s01685/laws.FnExactTreeSplit", spec := "fnExactTreeSplit", inPlace := ["internal/reflectlite.ValueOf", "(internal/reflectlite.Value).Type", "(internal/reflectlite.Value).IsNil", "internal/reflectlite.TypeOf", "(internal/reflectlite.Value).Elem", "(internal/reflectlite.Value).Set"], unfollowed := true, recurses := true, named := ["errors.errorType"], apart := false, laid := [("errors.errorType", laid_errors_errorType)], narrowed := true }
def FnExactTreeSplitUptoSaid : Prop := fnExactTreeSplitUptoRow.holds Tryd.pinned (OpenSpec.upto fnExactTreeSplitSpec)

/-- 'laws.FnExactTreeJoin', WHERE WHAT IT READS IS OF BULK AT MOST 1048576: true; the input reads as it did. -/
def fnExactTreeJoinUptoRow : OpenClaim := { program := "ytciabhncmdpeeaadoor", sum := "124cf73353b166e8647536d07d384f4980d9ddc3a6072988be1ddfc8f91ac5f3", func := "loop.example/s01685/laws.FnExactTreeJoin", spec := "fnExactTreeJoin", inPlace := ["internal/reflectlite.ValueOf", "(internal/reflectlite.Value).Type", "(internal/reflectlite.Value).IsNil", "internal/reflectlite.TypeOf", "(internal/reflectlite.Value).Elem", "(internal/reflectlite.Value).Set"], unfollowed := true, recurses := true, named := ["errors.errorType"], apart := false, laid := [("errors.errorType", laid_errors_errorType)], narrowed := true }
def FnExactTreeJoinUptoSaid : Prop := fnExactTreeJoinUptoRow.holds Tryd.pinned (OpenSpec.upto fnExactTreeJoinSpec)

end Rows
end Go.Proofs.YtciabhncmdpeeaaDoor
