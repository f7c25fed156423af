/-
  NARROWER THAN 'FOR EVERY INPUT', by the rows' own cells (each row's printed sentence says how): FnExactLineLineCol: laid · FnExactLineDelete: laid · FnExactLineOffset: laid.
  DERIVED. THE GIVEN ROWS OF THIS SEAT. 3 by the template 'for every input the law returns true; each argument reads behind the call as it read before'; 0 by the template 'total and deterministic' (their statements: YtamcacahjlaogaaDoorTotals.lean).
  GIVEN WITH THE SEED: the statements are not yours to turn. If you find one false, say at which input.
  Laid BY PROGRAM, IN A SANDBOX (cutbox-rows.mjs): the forced cells as the released guide's own fill.sh prints them over the translation 7fa7f3741812b0e3… (all of the seat's roots in one cut). By AI agents, Wed Nov 11 2026. No macro, syntax, notation, axiom, sorry.
-/
import Derived.Test.YtamcacahjlaogaaDoorChecked
import GoSem.Claim
import GoSem.ClaimJoined
import GoSem.ClaimMapViews
import Derived.JoinedTies
import Derived.KernelRfl
namespace Go.Proofs.YtamcacahjlaogaaDoor
/- THE CELL 'sum', in the pinned program and in every row, IS THE sha256 OF THE DUMP (.gsa) THAT YtamcacahjlaogaaDoorProg.lean LOADS. Nothing in Lean hashes anything: it is a label: what it is worth is what the hold of that sum in a sandbox is worth. -/
noncomputable def Tryd.pinned : Pinned := { name := "ytamcacahjlaogaadoor", sum := "7fa7f3741812b0e3e808b4aecec047429d6948fd162e4f2ed720d77fbab7b014", checked := Tryd.checked }
namespace Rows
def none {H : Type} : Left H := { results := [], args := [] }

/- WHAT THE LISTED PACKAGE-LEVEL VARIABLES READ AS WHEN THE CALL BEGINS. Each datum BY PROGRAM (the guide's laid-datum.mjs) off the statement by which the dump's own 'gosem.cut.vars' lays the variable. In a bare row this is a premise. The card (YtamcacahjlaogaaDoorCards.lean) ties it to the program's text. -/
def laid_errors_errorType {H : Type} : DataW H := .iface "internal/reflectlite.rtype" (.agg [.ptr (.lit (.string [101, 114, 114, 111, 114]))])

/-- 'laws.FnExactLineLineCol': WHATEVER THE INPUT: true; the input reads as it did. -/
def fnExactLineLineColSpec : ChangeSpec := { name := "fnExactLineLineCol", fn := fun _ => fun
  | [d1, d2] => { results := [.lit (.bool true)], args := [d1, d2] }
  | _ => none }
def fnExactLineLineColRow : OpenClaim := { program := "ytamcacahjlaogaadoor", sum := "7fa7f3741812b0e3e808b4aecec047429d6948fd162e4f2ed720d77fbab7b014", func := "loop.example/s01685/laws.FnExactLineLineCol", spec := "fnExactLineLineCol", inPlace := ["internal/reflectlite.ValueOf", "(internal/reflectlite.Value).Type", "(internal/reflectlite.Value).IsNil", "internal/reflectlite.TypeOf", "(internal/reflectlite.Value).Elem", "(internal/reflectlite.Value).Set"], unfollowed := true, recurses := true, named := ["errors.errorType"], apart := false, laid := [("errors.errorType", laid_errors_errorType)] }
def FnExactLineLineColSaid : Prop := fnExactLineLineColRow.holds Tryd.pinned (OpenSpec.ofChange fnExactLineLineColSpec)

/-- ITS FALSE NEIGHBOUR: 'it returns false'. Refute it at one input. -/
def fnExactLineLineColWrong : ChangeSpec := { name := "fnExactLineLineCol", fn := fun _ => fun
  | [d1, d2] => { results := [.lit (.bool false)], args := [d1, d2] }
  | _ => none }
def FnExactLineLineColWrongFalsely : Prop := fnExactLineLineColRow.holds Tryd.pinned (OpenSpec.ofChange fnExactLineLineColWrong)

/-- 'laws.FnExactLineDelete': WHATEVER THE INPUT: true; the input reads as it did. -/
def fnExactLineDeleteSpec : ChangeSpec := { name := "fnExactLineDelete", fn := fun _ => fun
  | [d1, d2, d3] => { results := [.lit (.bool true)], args := [d1, d2, d3] }
  | _ => none }
def fnExactLineDeleteRow : OpenClaim := { program := "ytamcacahjlaogaadoor", sum := "7fa7f3741812b0e3e808b4aecec047429d6948fd162e4f2ed720d77fbab7b014", func := "loop.example/s01685/laws.FnExactLineDelete", spec := "fnExactLineDelete", inPlace := ["internal/reflectlite.ValueOf", "(internal/reflectlite.Value).Type", "(internal/reflectlite.Value).IsNil", "internal/reflectlite.TypeOf", "(internal/reflectlite.Value).Elem", "(internal/reflectlite.Value).Set"], unfollowed := true, recurses := true, named := ["errors.errorType"], apart := false, laid := [("errors.errorType", laid_errors_errorType)] }
def FnExactLineDeleteSaid : Prop := fnExactLineDeleteRow.holds Tryd.pinned (OpenSpec.ofChange fnExactLineDeleteSpec)

/-- ITS FALSE NEIGHBOUR: 'it returns false'. Refute it at one input. -/
def fnExactLineDeleteWrong : ChangeSpec := { name := "fnExactLineDelete", fn := fun _ => fun
  | [d1, d2, d3] => { results := [.lit (.bool false)], args := [d1, d2, d3] }
  | _ => none }
def FnExactLineDeleteWrongFalsely : Prop := fnExactLineDeleteRow.holds Tryd.pinned (OpenSpec.ofChange fnExactLineDeleteWrong)

/-- 'laws.FnExactLineOffset': WHATEVER THE INPUT: true; the input reads as it did. -/
def fnExactLineOffsetSpec : ChangeSpec := { name := "fnExactLineOffset", fn := fun _ => fun
  | [d1, d2, d3] => { results := [.lit (.bool true)], args := [d1, d2, d3] }
  | _ => none }
def fnExactLineOffsetRow : OpenClaim := { program := "ytamcacahjlaogaadoor", sum := "7fa7f3741812b0e3e808b4aecec047429d6948fd162e4f2ed720d77fbab7b014", func := "loop.example/s01685/laws.FnExactLineOffset", spec := "fnExactLineOffset", inPlace := ["internal/reflectlite.ValueOf", "(internal/reflectlite.Value).Type", "(internal/reflectlite.Value).IsNil", "internal/reflectlite.TypeOf", "(internal/reflectlite.Value).Elem", "(internal/reflectlite.Value).Set"], unfollowed := true, recurses := true, named := ["errors.errorType"], apart := false, laid := [("errors.errorType", laid_errors_errorType)] }
def FnExactLineOffsetSaid : Prop := fnExactLineOffsetRow.holds Tryd.pinned (OpenSpec.ofChange fnExactLineOffsetSpec)

/-- ITS FALSE NEIGHBOUR: 'it returns false'. Refute it at one input. -/
def fnExactLineOffsetWrong : ChangeSpec := { name := "fnExactLineOffset", fn := fun _ => fun
  | [d1, d2, d3] => { results := [.lit (.bool false)], args := [d1, d2, d3] }
  | _ => none }
def FnExactLineOffsetWrongFalsely : Prop := fnExactLineOffsetRow.holds Tryd.pinned (OpenSpec.ofChange fnExactLineOffsetWrong)

/- THE SECOND FORM. 'bulk': how many values and letters a reading holds, each counted each time it is reached (what is shared counts as often as it is met; a slice's spare places count too). A statement '..UptoSaid' is the law's where the arguments, and the package variables that the reading takes, are together of bulk at most 1048576: NARROWER than '..Said'. Prove '..Said' where nothing that the law and all that it calls make is longer than what came in: it says more and counts as full. Else prove '..UptoSaid'. A law counts once. -/
mutual
def uptoBulk {H : Type} : DataW H → Nat
  | .lit (.string bytes) => bytes.length + 1
  | .lit _ => 1
  | .nil => 1
  | .ptr d => uptoBulk d + 1
  | .slice elems spare => uptoBulkAll elems + uptoBulkAll spare + 1
  | .agg parts => uptoBulkAll parts + 1
  | .iface _ d => uptoBulk d + 1
  | .map entries => uptoBulkEntries entries + 1
  | .held _ => 1
def uptoBulkAll {H : Type} : List (DataW H) → Nat
  | [] => 0
  | d :: r => uptoBulk d + uptoBulkAll r
def uptoBulkEntries {H : Type} : List (Lit × DataW H) → Nat
  | [] => 0
  | x :: r => uptoBulkEntry x + uptoBulkEntries r
def uptoBulkEntry {H : Type} : Lit × DataW H → Nat
  | (.string bytes, d) => bytes.length + uptoBulk d + 1
  | (_, d) => uptoBulk d + 1
 end
def uptoSmall : (H : Type) → List (DataW H) → Bool := fun _ ds => decide (uptoBulkAll ds ≤ 1048576)
def OpenSpec.upto (s : _root_.Go.ChangeSpec) : _root_.Go.OpenSpec := { _root_.Go.OpenSpec.ofChange s with cond := some uptoSmall }

/-- 'laws.FnExactLineLineCol', WHERE WHAT IT READS IS OF BULK AT MOST 1048576: true; the input reads as it did. -/
def fnExactLineLineColUptoRow : OpenClaim := { program := "ytamcacahjlaogaadoor", sum := "7fa7f3741812b0e3e808b4aecec047429d6948fd162e4f2ed720d77fbab7b014", func := "loop.example/s01685/laws.FnExactLineLineCol", spec := "fnExactLineLineCol", inPlace := ["internal/reflectlite.ValueOf", "(internal/reflectlite.Value).Type", "(internal/reflectlite.Value).IsNil", "internal/reflectlite.TypeOf", "(internal/reflectlite.Value).Elem", "(internal/reflectlite.Value).Set"], unfollowed := true, recurses := true, named := ["errors.errorType"], apart := false, laid := [("errors.errorType", laid_errors_errorType)], narrowed := true }
def FnExactLineLineColUptoSaid : Prop := fnExactLineLineColUptoRow.holds Tryd.pinned (OpenSpec.upto fnExactLineLineColSpec)

/-- 'laws.FnExactLineDelete', WHERE WHAT IT READS IS OF BULK AT MOST 1048576: true; the input reads as it did. -/
def fnExactLineDeleteUptoRow : OpenClaim := { program := "ytamcacahjlaogaadoor", sum := "7fa7f3741812b0e3e808b4aecec047429d6948fd162e4f2ed720d77fbab7b014", func := "loop.example/s01685/laws.FnExactLineDelete", spec := "fnExactLineDelete", inPlace := ["internal/reflectlite.ValueOf", "(internal/reflectlite.Value).Type", "(internal/reflectlite.Value).IsNil", "internal/reflectlite.TypeOf", "(internal/reflectlite.Value).Elem", "(internal/reflectlite.Value).Set"], unfollowed := true, recurses := true, named := ["errors.errorType"], apart := false, laid := [("errors.errorType", laid_errors_errorType)], narrowed := true }
def FnExactLineDeleteUptoSaid : Prop := fnExactLineDeleteUptoRow.holds Tryd.pinned (OpenSpec.upto fnExactLineDeleteSpec)

/-- 'laws.FnExactLineOffset', WHERE WHAT IT READS IS OF BULK AT MOST 1048576: true; the input reads as it did. -/
def fnExactLineOffsetUptoRow : OpenClaim := { program := "ytamcacahjlaogaadoor", sum := "7fa7f3741812b0e3e808b4aecec047429d6948fd162e4f2ed720d77fbab7b014", func := "loop.example/s01685/laws.FnExactLineOffset", spec := "fnExactLineOffset", inPlace := ["internal/reflectlite.ValueOf", "(internal/reflectlite.Value).Type", "(internal/reflectlite.Value).IsNil", "internal/reflectlite.TypeOf", "(internal/reflectlite.Value).Elem", "(internal/reflectlite.Value).Set"], unfollowed := true, recurses := true, named := ["errors.errorType"], apart := false, laid := [("errors.errorType", laid_errors_errorType)], narrowed := true }
def FnExactLineOffsetUptoSaid : Prop := fnExactLineOffsetUptoRow.holds Tryd.pinned (OpenSpec.upto fnExactLineOffsetSpec)

end Rows
end Go.Proofs.YtamcacahjlaogaaDoor
