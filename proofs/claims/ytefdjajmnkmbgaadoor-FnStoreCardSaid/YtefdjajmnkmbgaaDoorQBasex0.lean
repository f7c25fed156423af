/- What the law Base reaches: each function as a plain function, and that the machine's call does it (written by a program). The condition, where there is one: errors.errorType reads as laid. -/
import Derived.Test.YtefdjajmnkmbgaaDoorProg
import Derived.Below
import Derived.Deep.Draws
import Derived.Deep.AppendLies
import Derived.Maps.AppendAt
import Derived.OwnWalk
import Derived.Laws.BytesArg
import Derived.Laws.MakeOwn
import Derived.Laws.OwnMore
import Derived.Deep.OwnRows
import Derived.Tactics
import Derived.Lib.ConvBytes
import Derived.Laws.Slices
import Derived.WalkKit
import Derived.KernelRfl
import Derived.RowKit3
import Derived.Deep.LoopGhost
import Derived.Deep.QuietTactic
import Derived.BigQuiet
import Derived.WideLaws
import Derived.Deep.DeepCutAuto
import Derived.Deep.CutBlock
import Derived.Deep.RegionHeld3
import Derived.Laws.Rows
import Derived.Lib.AppendStr
import Derived.ArgAppend
import Derived.Laws.IdiomCopy
import Derived.OrdersHeld
import Derived.Laws.BitsLemmas
import Derived.RowKit
import Derived.Test.YtefdjajmnkmbgaaDoorHc
import Derived.Test.YtefdjajmnkmbgaaDoorWWords
import Derived.Test.YtefdjajmnkmbgaaDoorWLast
import Derived.Test.YtefdjajmnkmbgaaDoorWTab
import Derived.Test.YtefdjajmnkmbgaaDoorWFour
import Derived.Test.YtefdjajmnkmbgaaDoorWQPut
import Derived.Test.YtefdjajmnkmbgaaDoorWApart
import Derived.Test.YtefdjajmnkmbgaaDoorWArr
import Derived.Test.YtefdjajmnkmbgaaDoorWZeros
import Derived.Test.YtefdjajmnkmbgaaDoorWFoot
import Derived.Test.YtefdjajmnkmbgaaDoorWKept
import Derived.Test.YtefdjajmnkmbgaaDoorWShare
import Derived.Test.YtefdjajmnkmbgaaDoorWN
import Derived.Test.YtefdjajmnkmbgaaDoorWFootNe
import Derived.Test.YtefdjajmnkmbgaaDoorWAt
import Derived.Test.YtefdjajmnkmbgaaDoorWEqStruct
import Derived.Test.YtefdjajmnkmbgaaDoorWRepsOne
import Derived.Test.YtefdjajmnkmbgaaDoorWInv
import Derived.Test.YtefdjajmnkmbgaaDoorWInvWords
import Derived.Test.YtefdjajmnkmbgaaDoorWGuard
import Derived.Test.YtefdjajmnkmbgaaDoorWNEv
import Derived.Test.YtefdjajmnkmbgaaDoorWMore
namespace Go.Proofs.YtefdjajmnkmbgaaDoor.QBase
open Go.RowKit Go.Proofs.YtefdjajmnkmbgaaDoorW.PrintWords Go.Proofs.YtefdjajmnkmbgaaDoorW.PrintLast Go.Proofs.YtefdjajmnkmbgaaDoorW.PrintMore
attribute [local go_sem] max2_int min2_int max_two min_two max_three min_three max_four min_four   -- for this text's walks alone
set_option linter.unusedVariables false
set_option linter.unusedSimpArgs false



def errW : Option Int → Value
  | none => .nilIface
  | some c => .iface 0 (.int .i64 c)
theorem errW_none : errW none = .nilIface := rfl
theorem errW_some (c : Int) : errW (some c) = .iface 0 (.int .i64 c) := rfl

theorem info5 : (Tryd.prog.info? 5).map (fun i => (i.zero, i.size, i.bytes)) = some (some (.int .u8 0), 1, 1) := by kernel_rfl
theorem info21 : (Tryd.prog.info? 21).map (fun i => (i.zero, i.size, i.bytes)) = some (some (.int .i32 0), 1, 4) := by kernel_rfl
-- the values' own types

end Go.Proofs.YtefdjajmnkmbgaaDoor.QBase
