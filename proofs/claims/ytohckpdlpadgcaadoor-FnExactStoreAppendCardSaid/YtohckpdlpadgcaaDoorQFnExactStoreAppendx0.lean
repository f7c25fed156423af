/- What the law FnExactStoreAppend reaches: each function as a plain function, and that the machine's call does it (written by a program). The condition, where there is one: errors.errorType reads as laid. -/
import Derived.Test.YtohckpdlpadgcaaDoorProg
import Derived.Below
import Derived.Deep.Draws
import Derived.Deep.AppendLies
import Derived.Maps.AppendAt
import Derived.OwnWalk
import Derived.Laws.BytesArg
import Derived.Laws.MakeOwn
import Derived.Laws.OwnMore
import Derived.Deep.OwnRows
import Derived.Tactics
import Derived.Lib.ConvBytes
import Derived.Laws.Slices
import Derived.WalkKit
import Derived.KernelRfl
import Derived.RowKit3
import Derived.Deep.LoopGhost
import Derived.Deep.QuietTactic
import Derived.BigQuiet
import Derived.WideLaws
import Derived.Deep.DeepCutAuto
import Derived.Deep.CutBlock
import Derived.Deep.RegionHeld3
import Derived.Laws.Rows
import Derived.Lib.AppendStr
import Derived.ArgAppend
import Derived.Laws.IdiomCopy
import Derived.OrdersHeld
import Derived.Laws.BitsLemmas
import Derived.RowKit
import Derived.Test.YtohckpdlpadgcaaDoorHsp2
import Derived.Test.YtohckpdlpadgcaaDoorWWords
import Derived.Test.YtohckpdlpadgcaaDoorWLast
import Derived.Test.YtohckpdlpadgcaaDoorWTab
import Derived.Test.YtohckpdlpadgcaaDoorWFour
import Derived.Test.YtohckpdlpadgcaaDoorWQPut
import Derived.Test.YtohckpdlpadgcaaDoorWApart
import Derived.Test.YtohckpdlpadgcaaDoorWArr
import Derived.Test.YtohckpdlpadgcaaDoorWZeros
import Derived.Test.YtohckpdlpadgcaaDoorWFoot
import Derived.Test.YtohckpdlpadgcaaDoorWKept
import Derived.Test.YtohckpdlpadgcaaDoorWShare
import Derived.Test.YtohckpdlpadgcaaDoorWN
import Derived.Test.YtohckpdlpadgcaaDoorWFootNe
import Derived.Test.YtohckpdlpadgcaaDoorWAt
import Derived.Test.YtohckpdlpadgcaaDoorWEqStruct
import Derived.Test.YtohckpdlpadgcaaDoorWRepsOne
import Derived.Test.YtohckpdlpadgcaaDoorWInv
import Derived.Test.YtohckpdlpadgcaaDoorWInvWords
import Derived.Test.YtohckpdlpadgcaaDoorWGuard
import Derived.Test.YtohckpdlpadgcaaDoorWNEv
import Derived.Test.YtohckpdlpadgcaaDoorWMore
namespace Go.Proofs.YtohckpdlpadgcaaDoor.QFnExactStoreAppend
open Go.Proofs.YtohckpdlpadgcaaDoor.Er
open Go.RowKit Go.Proofs.YtohckpdlpadgcaaDoorW.PrintWords Go.Proofs.YtohckpdlpadgcaaDoorW.PrintLast Go.Proofs.YtohckpdlpadgcaaDoorW.PrintMore
attribute [local go_sem] max2_int min2_int max_two min_two max_three min_three max_four min_four   -- for this text's walks alone
set_option linter.unusedVariables false
set_option linter.unusedSimpArgs false



def errW : Option Int → Value
  | none => .nilIface
  | some c => .iface 0 (.int .i64 c)
theorem errW_none : errW none = .nilIface := rfl
theorem errW_some (c : Int) : errW (some c) = .iface 0 (.int .i64 c) := rfl

theorem info5 : (Tryd.prog.info? 5).map (fun i => (i.zero, i.size, i.bytes)) = some (some (.int .u8 0), 1, 1) := by kernel_rfl
theorem info21 : (Tryd.prog.info? 21).map (fun i => (i.zero, i.size, i.bytes)) = some (some (.int .i32 0), 1, 4) := by kernel_rfl
-- the values' own types

end Go.Proofs.YtohckpdlpadgcaaDoor.QFnExactStoreAppend
