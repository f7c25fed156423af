/- What the law BaseEx reaches: each function as a plain function, and that the machine's call does it (written by a program). The condition, where there is one: errors.errorType reads as laid. -/
import Derived.Test.YtefdjajmnkmbgaaDoorQBaseExx0
import Derived.Test.YtefdjajmnkmbgaaDoorQBaseExx1
import Derived.Test.YtefdjajmnkmbgaaDoorQBaseExx2
import Derived.Test.YtefdjajmnkmbgaaDoorQBaseExx3
namespace Go.Proofs.YtefdjajmnkmbgaaDoor.QBaseEx
open Go.RowKit Go.Proofs.YtefdjajmnkmbgaaDoorW.PrintWords Go.Proofs.YtefdjajmnkmbgaaDoorW.PrintLast Go.Proofs.YtefdjajmnkmbgaaDoorW.PrintMore
attribute [local go_sem] max2_int min2_int max_two min_two max_three min_three max_four min_four   -- for this text's walks alone
set_option linter.unusedVariables false
set_option linter.unusedSimpArgs false

end Go.Proofs.YtefdjajmnkmbgaaDoor.QBaseEx
