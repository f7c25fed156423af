/- The gap buffer of rows: remove, walked. No condition but the bounds. -/
import Derived.Test.YtamcacahjlaogaaDoorVb
namespace Go.Proofs.YtamcacahjlaogaaDoor.V
open Go.RowKit Go.Proofs.YtamcacahjlaogaaDoorW.PrintWords Go.Proofs.YtamcacahjlaogaaDoorW.PrintLast Go.Proofs.YtamcacahjlaogaaDoorW.PrintMore Er
open F (UpdS Fresh R_upd)
set_option linter.unusedSimpArgs false
set_option linter.unusedVariables false
structure RemAt (sv tv : Value) (w : World) (base b : Nat) (T : List PV) (l g d : Nat) (S : List Nat) (k : Nat) (v13 : Value) (wr : World) : Prop where
 st : ∃ i : Nat, v13 = .int .i64 i ∧ i + k = d ∧ GapF sv tv wr base b (without T l i) l (g + i) S
 bel : UpdS S w wr
end Go.Proofs.YtamcacahjlaogaaDoor.V
