/- What the law Base reaches: each function as a plain function, and that the machine's call does it (written by a program). The condition, where there is one: errors.errorType reads as laid. -/
import Derived.Test.YtlacoameobpfgaaDoorProg
import Derived.Below
import Derived.Deep.Draws
import Derived.Deep.AppendLies
import Derived.Maps.AppendAt
import Derived.OwnWalk
import Derived.Laws.BytesArg
import Derived.Laws.MakeOwn
import Derived.Laws.OwnMore
import Derived.Deep.OwnRows
import Derived.Tactics
import Derived.Lib.ConvBytes
import Derived.Laws.Slices
import Derived.WalkKit
import Derived.KernelRfl
import Derived.RowKit3
import Derived.Deep.LoopGhost
import Derived.Deep.QuietTactic
import Derived.BigQuiet
import Derived.WideLaws
import Derived.Deep.DeepCutAuto
import Derived.Deep.CutBlock
import Derived.Deep.RegionHeld3
import Derived.Laws.Rows
import Derived.Lib.AppendStr
import Derived.ArgAppend
import Derived.Laws.IdiomCopy
import Derived.OrdersHeld
import Derived.Laws.BitsLemmas
import Derived.RowKit
import Derived.Test.YtlacoameobpfgaaDoorWWords
import Derived.Test.YtlacoameobpfgaaDoorWLast
import Derived.Test.YtlacoameobpfgaaDoorWTab
import Derived.Test.YtlacoameobpfgaaDoorWFour
import Derived.Test.YtlacoameobpfgaaDoorWQPut
import Derived.Test.YtlacoameobpfgaaDoorWApart
import Derived.Test.YtlacoameobpfgaaDoorWArr
import Derived.Test.YtlacoameobpfgaaDoorWZeros
import Derived.Test.YtlacoameobpfgaaDoorWFoot
import Derived.Test.YtlacoameobpfgaaDoorWKept
import Derived.Test.YtlacoameobpfgaaDoorWShare
import Derived.Test.YtlacoameobpfgaaDoorWN
import Derived.Test.YtlacoameobpfgaaDoorWFootNe
import Derived.Test.YtlacoameobpfgaaDoorWAt
import Derived.Test.YtlacoameobpfgaaDoorWEqStruct
import Derived.Test.YtlacoameobpfgaaDoorWRepsOne
import Derived.Test.YtlacoameobpfgaaDoorWInv
import Derived.Test.YtlacoameobpfgaaDoorWInvWords
import Derived.Test.YtlacoameobpfgaaDoorWGuard
import Derived.Test.YtlacoameobpfgaaDoorWNEv
import Derived.Test.YtlacoameobpfgaaDoorWMore
namespace Go.Proofs.YtlacoameobpfgaaDoor.QBase
open Go.RowKit Go.Proofs.YtlacoameobpfgaaDoorW.PrintWords Go.Proofs.YtlacoameobpfgaaDoorW.PrintLast Go.Proofs.YtlacoameobpfgaaDoorW.PrintMore
attribute [local go_sem] max2_int min2_int max_two min_two max_three min_three max_four min_four   -- for this text's walks alone
set_option linter.unusedVariables false
set_option linter.unusedSimpArgs false



def errW : Option Int → Value
  | none => .nilIface
  | some c => .iface 0 (.int .i64 c)
theorem errW_none : errW none = .nilIface := rfl
theorem errW_some (c : Int) : errW (some c) = .iface 0 (.int .i64 c) := rfl

theorem info21 : (Tryd.prog.info? 21).map (fun i => (i.zero, i.size, i.bytes)) = some (some (.int .i32 0), 1, 4) := by kernel_rfl
-- the values' own types

end Go.Proofs.YtlacoameobpfgaaDoor.QBase
