/- A node turned right and left, walked. -/
import Derived.Test.YtnomidpnofhjdaaTr1
namespace Go.Proofs.Ytnomidpnofhjdaa
open Go.RowKit Go.Proofs.YtnomidpnofhjdaaW.PrintMore
end Go.Proofs.Ytnomidpnofhjdaa
