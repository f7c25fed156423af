/- Nothing of errors: an empty namespace. -/
import Derived.Test.YtnomidpnofhjdaaProg
import Derived.WalkKit
import Derived.RowKitTokens
import Derived.Below
namespace Go.Proofs.Ytnomidpnofhjdaa.Er
end Go.Proofs.Ytnomidpnofhjdaa.Er
