/- What the law BaseL reaches: each function as a plain function, and that the machine's call does it (written by a program). The condition, where there is one: errors.errorType reads as laid. -/
import Derived.Test.YtamcacahjlaogaaDoorQBaseLx0
import Derived.Test.YtamcacahjlaogaaDoorQBaseLx1
import Derived.Test.YtamcacahjlaogaaDoorQBaseLx2
import Derived.Test.YtamcacahjlaogaaDoorQBaseLx3
import Derived.Test.YtamcacahjlaogaaDoorQBaseLx4
import Derived.Test.YtamcacahjlaogaaDoorQBaseLx5
import Derived.Test.YtamcacahjlaogaaDoorQBaseLx6
import Derived.Test.YtamcacahjlaogaaDoorQBaseLx7
namespace Go.Proofs.YtamcacahjlaogaaDoor.QBaseL
open Go.RowKit Go.Proofs.YtamcacahjlaogaaDoorW.PrintWords Go.Proofs.YtamcacahjlaogaaDoorW.PrintLast Go.Proofs.YtamcacahjlaogaaDoorW.PrintMore
attribute [local go_sem] max2_int min2_int max_two min_two max_three min_three max_four min_four   -- for this text's walks alone
set_option linter.unusedVariables false
set_option linter.unusedSimpArgs false

end Go.Proofs.YtamcacahjlaogaaDoor.QBaseL
