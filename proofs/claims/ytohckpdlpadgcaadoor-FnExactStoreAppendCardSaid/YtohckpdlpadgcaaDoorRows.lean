/-
  NARROWER THAN 'FOR EVERY INPUT', by the rows' own cells (each row's printed sentence says how): FnExactStoreRead: laid · FnExactStoreAppend: laid · FnStore: laid.
  DERIVED. THE GIVEN ROWS OF THIS SEAT. 3 by the template 'for every input the law returns true; each argument reads behind the call as it read before'; 0 by the template 'total and deterministic' (their statements: YtohckpdlpadgcaaDoorTotals.lean).
  GIVEN WITH THE SEED: the statements are not yours to turn. If you find one false, say at which input.
  Laid BY PROGRAM, IN A SANDBOX (cutbox-rows.mjs): the forced cells as the released guide's own fill.sh prints them over the translation 8f8d07a6855e1556… (all of the seat's roots in one cut). By AI agents, Wed Nov 11 2026. No macro, syntax, notation, axiom, sorry.
-/
import Derived.Test.YtohckpdlpadgcaaDoorChecked
import GoSem.Claim
import GoSem.ClaimJoined
import GoSem.ClaimMapViews
import Derived.JoinedTies
import Derived.KernelRfl
namespace Go.Proofs.YtohckpdlpadgcaaDoor
/- THE CELL 'sum', in the pinned program and in every row, IS THE sha256 OF THE DUMP (.gsa) THAT YtohckpdlpadgcaaDoorProg.lean LOADS. Nothing in Lean hashes anything: it is a label: what it is worth is what the hold of that sum in a sandbox is worth. -/
noncomputable def Tryd.pinned : Pinned := { name := "ytohckpdlpadgcaadoor", sum := "8f8d07a6855e1556d928bd78cf6e155ed29917537bd55ac966efd7511f829ddd", checked := Tryd.checked }
namespace Rows
def none {H : Type} : Left H := { results := [], args := [] }

/- WHAT THE LISTED PACKAGE-LEVEL VARIABLES READ AS WHEN THE CALL BEGINS. Each datum BY PROGRAM (the guide's laid-datum.mjs) off the statement by which the dump's own 'gosem.cut.vars' lays the variable. In a bare row this is a premise. The card (YtohckpdlpadgcaaDoorCards.lean) ties it to the program's text. -/
def laid_errors_errorType {H : Type} : DataW H := .iface "internal/reflectlite.rtype" (.agg [.ptr (.lit (.string [101, 114, 114, 111, 114]))])

/-- 'laws.FnExactStoreRead': WHATEVER THE INPUT: true; the input reads as it did. -/
def fnExactStoreReadSpec : ChangeSpec := { name := "fnExactStoreRead", fn := fun _ => fun
  | [d1, d2] => { results := [.lit (.bool true)], args := [d1, d2] }
  | _ => none }
def fnExactStoreReadRow : OpenClaim := { program := "ytohckpdlpadgcaadoor", sum := "8f8d07a6855e1556d928bd78cf6e155ed29917537bd55ac966efd7511f829ddd", func := "loop.example/s01685/laws.FnExactStoreRead", spec := "fnExactStoreRead", inPlace := ["internal/reflectlite.ValueOf", "(internal/reflectlite.Value).Type", "(internal/reflectlite.Value).IsNil", "internal/reflectlite.TypeOf", "(internal/reflectlite.Value).Elem", "(internal/reflectlite.Value).Set"], unfollowed := true, recurses := true, named := ["errors.errorType"], apart := false, laid := [("errors.errorType", laid_errors_errorType)] }
def FnExactStoreReadSaid : Prop := fnExactStoreReadRow.holds Tryd.pinned (OpenSpec.ofChange fnExactStoreReadSpec)

/-- ITS FALSE NEIGHBOUR: 'it returns false'. Refute it at one input. -/
def fnExactStoreReadWrong : ChangeSpec := { name := "fnExactStoreRead", fn := fun _ => fun
  | [d1, d2] => { results := [.lit (.bool false)], args := [d1, d2] }
  | _ => none }
def FnExactStoreReadWrongFalsely : Prop := fnExactStoreReadRow.holds Tryd.pinned (OpenSpec.ofChange fnExactStoreReadWrong)

/-- 'laws.FnExactStoreAppend': WHATEVER THE INPUT: true; the input reads as it did. -/
def fnExactStoreAppendSpec : ChangeSpec := { name := "fnExactStoreAppend", fn := fun _ => fun
  | [d1, d2] => { results := [.lit (.bool true)], args := [d1, d2] }
  | _ => none }
def fnExactStoreAppendRow : OpenClaim := { program := "ytohckpdlpadgcaadoor", sum := "8f8d07a6855e1556d928bd78cf6e155ed29917537bd55ac966efd7511f829ddd", func := "loop.example/s01685/laws.FnExactStoreAppend", spec := "fnExactStoreAppend", inPlace := ["internal/reflectlite.ValueOf", "(internal/reflectlite.Value).Type", "(internal/reflectlite.Value).IsNil", "internal/reflectlite.TypeOf", "(internal/reflectlite.Value).Elem", "(internal/reflectlite.Value).Set"], unfollowed := true, recurses := true, named := ["errors.errorType"], apart := false, laid := [("errors.errorType", laid_errors_errorType)] }
def FnExactStoreAppendSaid : Prop := fnExactStoreAppendRow.holds Tryd.pinned (OpenSpec.ofChange fnExactStoreAppendSpec)

/-- ITS FALSE NEIGHBOUR: 'it returns false'. Refute it at one input. -/
def fnExactStoreAppendWrong : ChangeSpec := { name := "fnExactStoreAppend", fn := fun _ => fun
  | [d1, d2] => { results := [.lit (.bool false)], args := [d1, d2] }
  | _ => none }
def FnExactStoreAppendWrongFalsely : Prop := fnExactStoreAppendRow.holds Tryd.pinned (OpenSpec.ofChange fnExactStoreAppendWrong)

/-- 'laws.FnStore': WHATEVER THE INPUT: true; the input reads as it did. -/
def fnStoreSpec : ChangeSpec := { name := "fnStore", fn := fun _ => fun
  | [d] => { results := [.lit (.bool true)], args := [d] }
  | _ => none }
def fnStoreRow : OpenClaim := { program := "ytohckpdlpadgcaadoor", sum := "8f8d07a6855e1556d928bd78cf6e155ed29917537bd55ac966efd7511f829ddd", func := "loop.example/s01685/laws.FnStore", spec := "fnStore", inPlace := ["internal/reflectlite.ValueOf", "(internal/reflectlite.Value).Type", "(internal/reflectlite.Value).IsNil", "internal/reflectlite.TypeOf", "(internal/reflectlite.Value).Elem", "(internal/reflectlite.Value).Set"], unfollowed := true, recurses := true, named := ["errors.errorType"], apart := false, laid := [("errors.errorType", laid_errors_errorType)] }
def FnStoreSaid : Prop := fnStoreRow.holds Tryd.pinned (OpenSpec.ofChange fnStoreSpec)

/-- ITS FALSE NEIGHBOUR: 'it returns false'. Refute it at one input. -/
def fnStoreWrong : ChangeSpec := { name := "fnStore", fn := fun _ => fun
  | [d] => { results := [.lit (.bool false)], args := [d] }
  | _ => none }
def FnStoreWrongFalsely : Prop := fnStoreRow.holds Tryd.pinned (OpenSpec.ofChange fnStoreWrong)

/- THE SECOND FORM. 'bulk': how many values and letters a reading holds, each counted each time it is reached (what is shared counts as often as it is met; a slice's spare places count too). A statement '..UptoSaid' is the law's where the arguments, and the package variables that the reading takes, are together of bulk at most 1048576: NARROWER than '..Said'. Prove '..Said' where nothing that the law and all that it calls make is longer than what came in: it says more and counts as full. Else prove '..UptoSaid'. A law counts once. -/
mutual
def uptoBulk {H : Type} : DataW H → Nat
  | .lit (.string bytes) => bytes.length + 1
  | .lit _ => 1
  | .nil => 1
  | .ptr d => uptoBulk d + 1
  | .slice elems spare => uptoBulkAll elems + uptoBulkAll spare + 1
  | .agg parts => uptoBulkAll parts + 1
  | .iface _ d => uptoBulk d + 1
  | .map entries => uptoBulkEntries entries + 1
  | .held _ => 1
def uptoBulkAll {H : Type} : List (DataW H) → Nat
  | [] => 0
  | d :: r => uptoBulk d + uptoBulkAll r
def uptoBulkEntries {H : Type} : List (Lit × DataW H) → Nat
  | [] => 0
  | x :: r => uptoBulkEntry x + uptoBulkEntries r
def uptoBulkEntry {H : Type} : Lit × DataW H → Nat
  | (.string bytes, d) => bytes.length + uptoBulk d + 1
  | (_, d) => uptoBulk d + 1
 end
def uptoSmall : (H : Type) → List (DataW H) → Bool := fun _ ds => decide (uptoBulkAll ds ≤ 1048576)
def OpenSpec.upto (s : _root_.Go.ChangeSpec) : _root_.Go.OpenSpec := { _root_.Go.OpenSpec.ofChange s with cond := some uptoSmall }

/-- 'laws.FnExactStoreRead', WHERE WHAT IT READS IS OF BULK AT MOST 1048576: true; the input reads as it did. -/
def fnExactStoreReadUptoRow : OpenClaim := { program := "ytohckpdlpadgcaadoor", sum := "8f8d07a6855e1556d928bd78cf6e155ed29917537bd55ac966efd7511f829ddd", func := "loop.example/s01685/laws.FnExactStoreRead", spec := "fnExactStoreRead", inPlace := ["internal/reflectlite.ValueOf", "(internal/reflectlite.Value).Type", "(internal/reflectlite.Value).IsNil", "internal/reflectlite.TypeOf", "(internal/reflectlite.Value).Elem", "(internal/reflectlite.Value).Set"], unfollowed := true, recurses := true, named := ["errors.errorType"], apart := false, laid := [("errors.errorType", laid_errors_errorType)], narrowed := true }
def FnExactStoreReadUptoSaid : Prop := fnExactStoreReadUptoRow.holds Tryd.pinned (OpenSpec.upto fnExactStoreReadSpec)

/-- 'laws.FnExactStoreAppend', WHERE WHAT IT READS IS OF BULK AT MOST 1048576: true; the input reads as it did. -/
def fnExactStoreAppendUptoRow : OpenClaim := { program := "ytohckpdlpadgcaadoor", sum := "8f8d07a6855e1556d928bd78cf6e155ed29917537bd55ac966efd7511f829ddd", func := "loop.example/s01685/laws.FnExactStoreAppend", spec := "fnExactStoreAppend", inPlace := ["internal/reflectlite.ValueOf", "(internal/reflectlite.Value).Type", "(internal/reflectlite.Value).IsNil", "internal/reflectlite.TypeOf", "(internal/reflectlite.Value).Elem", "(internal/reflectlite.Value).Set"], unfollowed := true, recurses := true, named := ["errors.errorType"], apart := false, laid := [("errors.errorType", laid_errors_errorType)], narrowed := true }
def FnExactStoreAppendUptoSaid : Prop := fnExactStoreAppendUptoRow.holds Tryd.pinned (OpenSpec.upto fnExactStoreAppendSpec)

/-- 'laws.FnStore', WHERE WHAT IT READS IS OF BULK AT MOST 1048576: true; the input reads as it did. -/
def fnStoreUptoRow : OpenClaim := { program := "ytohckpdlpadgcaadoor", sum := "8f8d07a6855e1556d928bd78cf6e155ed29917537bd55ac966efd7511f829ddd", func := "loop.example/s01685/laws.FnStore", spec := "fnStore", inPlace := ["internal/reflectlite.ValueOf", "(internal/reflectlite.Value).Type", "(internal/reflectlite.Value).IsNil", "internal/reflectlite.TypeOf", "(internal/reflectlite.Value).Elem", "(internal/reflectlite.Value).Set"], unfollowed := true, recurses := true, named := ["errors.errorType"], apart := false, laid := [("errors.errorType", laid_errors_errorType)], narrowed := true }
def FnStoreUptoSaid : Prop := fnStoreUptoRow.holds Tryd.pinned (OpenSpec.upto fnStoreSpec)

end Rows
end Go.Proofs.YtohckpdlpadgcaaDoor
