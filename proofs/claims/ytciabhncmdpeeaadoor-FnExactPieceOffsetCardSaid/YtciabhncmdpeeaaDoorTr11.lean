/- The items of a tree in order, by the program's iterator (walk, all), and told. Conditions: the tree's numbers are small (Fine). -/
import Derived.RangeFuncNested
import Derived.RangeFuncBox
import Derived.RangeFuncBound
import Derived.RangeFuncCalls
import Derived.RangeFuncLeaves
import Derived.Shelf.Abstract
import Derived.Shelf.RegionOpen
import Derived.OwnWalkIn
import Derived.TacticsInMore
import Derived.Maps.AppendAt
import Derived.Test.YtciabhncmdpeeaaDoorTr10
namespace Go.Proofs.YtciabhncmdpeeaaDoor
open Go.RowKit Go.Shelf Go.Proofs.YtciabhncmdpeeaaDoorW.PrintWords Go.Proofs.YtciabhncmdpeeaaDoorW.PrintMore
attribute [local go_sem] Oper.semAt_some
end Go.Proofs.YtciabhncmdpeeaaDoor
