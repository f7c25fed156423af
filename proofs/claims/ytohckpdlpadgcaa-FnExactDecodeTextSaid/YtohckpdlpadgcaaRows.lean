/-
  No cell of these rows narrows 'for every input' (looked for: loops, veiled, ifaces, maps, wideKeys, modest, calm, conditions, laid).
  DERIVED. THE GIVEN ROWS OF THIS SEAT. 3 by the template 'for every input the law returns true; each argument reads behind the call as it read before'; 0 by the template 'total and deterministic' (their statements: YtohckpdlpadgcaaTotals.lean).
  GIVEN WITH THE SEED: the statements are not yours to turn. If you find one false, say at which input.
  Laid BY PROGRAM, IN A SANDBOX (cutbox-rows.mjs): the forced cells as the released guide's own fill.sh prints them over the translation 2a717a9dcb484d31… (all of the seat's roots in one cut). By AI agents, Wed Nov 11 2026. No macro, syntax, notation, axiom, sorry.
-/
import Derived.Test.YtohckpdlpadgcaaChecked
import GoSem.Claim
import GoSem.ClaimJoined
import GoSem.ClaimMapViews
import Derived.JoinedTies
import Derived.KernelRfl
namespace Go.Proofs.Ytohckpdlpadgcaa
/- THE CELL 'sum', in the pinned program and in every row, IS THE sha256 OF THE DUMP (.gsa) THAT YtohckpdlpadgcaaProg.lean LOADS. Nothing in Lean hashes anything: it is a label: what it is worth is what the hold of that sum in a sandbox is worth. -/
noncomputable def Try.pinned : Pinned := { name := "ytohckpdlpadgcaa", sum := "2a717a9dcb484d3192ffb0f9d5450c23fd85123c716a6a7e504011978be9fdf3", checked := Try.checked }
namespace Rows
def none {H : Type} : Left H := { results := [], args := [] }

/-- 'laws.FnExactConstants': WHATEVER THE INPUT: true; the input reads as it did. -/
def fnExactConstantsSpec : ChangeSpec := { name := "fnExactConstants", fn := fun _ => fun
  | [] => { results := [.lit (.bool true)], args := [] }
  | _ => none }
def fnExactConstantsRow : OpenClaim := { program := "ytohckpdlpadgcaa", sum := "2a717a9dcb484d3192ffb0f9d5450c23fd85123c716a6a7e504011978be9fdf3", func := "loop.example/s01685/laws.FnExactConstants", spec := "fnExactConstants", apart := false }
def FnExactConstantsSaid : Prop := fnExactConstantsRow.holds Try.pinned (OpenSpec.ofChange fnExactConstantsSpec)

/-- ITS FALSE NEIGHBOUR: 'it returns false'. Refute it at one input. -/
def fnExactConstantsWrong : ChangeSpec := { name := "fnExactConstants", fn := fun _ => fun
  | [] => { results := [.lit (.bool false)], args := [] }
  | _ => none }
def FnExactConstantsWrongFalsely : Prop := fnExactConstantsRow.holds Try.pinned (OpenSpec.ofChange fnExactConstantsWrong)

/-- 'laws.FnExactEncodeText': WHATEVER THE INPUT: true; the input reads as it did. -/
def fnExactEncodeTextSpec : ChangeSpec := { name := "fnExactEncodeText", fn := fun _ => fun
  | [d] => { results := [.lit (.bool true)], args := [d] }
  | _ => none }
def fnExactEncodeTextRow : OpenClaim := { program := "ytohckpdlpadgcaa", sum := "2a717a9dcb484d3192ffb0f9d5450c23fd85123c716a6a7e504011978be9fdf3", func := "loop.example/s01685/laws.FnExactEncodeText", spec := "fnExactEncodeText", apart := false }
def FnExactEncodeTextSaid : Prop := fnExactEncodeTextRow.holds Try.pinned (OpenSpec.ofChange fnExactEncodeTextSpec)

/-- ITS FALSE NEIGHBOUR: 'it returns false'. Refute it at one input. -/
def fnExactEncodeTextWrong : ChangeSpec := { name := "fnExactEncodeText", fn := fun _ => fun
  | [d] => { results := [.lit (.bool false)], args := [d] }
  | _ => none }
def FnExactEncodeTextWrongFalsely : Prop := fnExactEncodeTextRow.holds Try.pinned (OpenSpec.ofChange fnExactEncodeTextWrong)

/-- 'laws.FnExactDecodeText': WHATEVER THE INPUT: true; the input reads as it did. -/
def fnExactDecodeTextSpec : ChangeSpec := { name := "fnExactDecodeText", fn := fun _ => fun
  | [d] => { results := [.lit (.bool true)], args := [d] }
  | _ => none }
def fnExactDecodeTextRow : OpenClaim := { program := "ytohckpdlpadgcaa", sum := "2a717a9dcb484d3192ffb0f9d5450c23fd85123c716a6a7e504011978be9fdf3", func := "loop.example/s01685/laws.FnExactDecodeText", spec := "fnExactDecodeText", apart := false }
def FnExactDecodeTextSaid : Prop := fnExactDecodeTextRow.holds Try.pinned (OpenSpec.ofChange fnExactDecodeTextSpec)

/-- ITS FALSE NEIGHBOUR: 'it returns false'. Refute it at one input. -/
def fnExactDecodeTextWrong : ChangeSpec := { name := "fnExactDecodeText", fn := fun _ => fun
  | [d] => { results := [.lit (.bool false)], args := [d] }
  | _ => none }
def FnExactDecodeTextWrongFalsely : Prop := fnExactDecodeTextRow.holds Try.pinned (OpenSpec.ofChange fnExactDecodeTextWrong)

/- THE SECOND FORM. 'bulk': how many values and letters a reading holds, each counted each time it is reached (what is shared counts as often as it is met; a slice's spare places count too). A statement '..UptoSaid' is the law's where the arguments, and the package variables that the reading takes, are together of bulk at most 1048576: NARROWER than '..Said'. Prove '..Said' where nothing that the law and all that it calls make is longer than what came in: it says more and counts as full. Else prove '..UptoSaid'. A law counts once. -/
mutual
def uptoBulk {H : Type} : DataW H → Nat
  | .lit (.string bytes) => bytes.length + 1
  | .lit _ => 1
  | .nil => 1
  | .ptr d => uptoBulk d + 1
  | .slice elems spare => uptoBulkAll elems + uptoBulkAll spare + 1
  | .agg parts => uptoBulkAll parts + 1
  | .iface _ d => uptoBulk d + 1
  | .map entries => uptoBulkEntries entries + 1
  | .held _ => 1
def uptoBulkAll {H : Type} : List (DataW H) → Nat
  | [] => 0
  | d :: r => uptoBulk d + uptoBulkAll r
def uptoBulkEntries {H : Type} : List (Lit × DataW H) → Nat
  | [] => 0
  | x :: r => uptoBulkEntry x + uptoBulkEntries r
def uptoBulkEntry {H : Type} : Lit × DataW H → Nat
  | (.string bytes, d) => bytes.length + uptoBulk d + 1
  | (_, d) => uptoBulk d + 1
 end
def uptoSmall : (H : Type) → List (DataW H) → Bool := fun _ ds => decide (uptoBulkAll ds ≤ 1048576)
def OpenSpec.upto (s : _root_.Go.ChangeSpec) : _root_.Go.OpenSpec := { _root_.Go.OpenSpec.ofChange s with cond := some uptoSmall }

/-- 'laws.FnExactConstants', WHERE WHAT IT READS IS OF BULK AT MOST 1048576: true; the input reads as it did. -/
def fnExactConstantsUptoRow : OpenClaim := { program := "ytohckpdlpadgcaa", sum := "2a717a9dcb484d3192ffb0f9d5450c23fd85123c716a6a7e504011978be9fdf3", func := "loop.example/s01685/laws.FnExactConstants", spec := "fnExactConstants", apart := false, narrowed := true }
def FnExactConstantsUptoSaid : Prop := fnExactConstantsUptoRow.holds Try.pinned (OpenSpec.upto fnExactConstantsSpec)

/-- 'laws.FnExactEncodeText', WHERE WHAT IT READS IS OF BULK AT MOST 1048576: true; the input reads as it did. -/
def fnExactEncodeTextUptoRow : OpenClaim := { program := "ytohckpdlpadgcaa", sum := "2a717a9dcb484d3192ffb0f9d5450c23fd85123c716a6a7e504011978be9fdf3", func := "loop.example/s01685/laws.FnExactEncodeText", spec := "fnExactEncodeText", apart := false, narrowed := true }
def FnExactEncodeTextUptoSaid : Prop := fnExactEncodeTextUptoRow.holds Try.pinned (OpenSpec.upto fnExactEncodeTextSpec)

/-- 'laws.FnExactDecodeText', WHERE WHAT IT READS IS OF BULK AT MOST 1048576: true; the input reads as it did. -/
def fnExactDecodeTextUptoRow : OpenClaim := { program := "ytohckpdlpadgcaa", sum := "2a717a9dcb484d3192ffb0f9d5450c23fd85123c716a6a7e504011978be9fdf3", func := "loop.example/s01685/laws.FnExactDecodeText", spec := "fnExactDecodeText", apart := false, narrowed := true }
def FnExactDecodeTextUptoSaid : Prop := fnExactDecodeTextUptoRow.holds Try.pinned (OpenSpec.upto fnExactDecodeTextSpec)

end Rows
end Go.Proofs.Ytohckpdlpadgcaa
