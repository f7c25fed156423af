/- Gap buffers of runes: remove, walked. No condition but the bounds. -/
import Derived.Test.YtamcacahjlaogaaDoorGp5
namespace Go.Proofs.YtamcacahjlaogaaDoor
open Go.RowKit Go.Proofs.YtamcacahjlaogaaDoorW.PrintWords Go.Proofs.YtamcacahjlaogaaDoorW.PrintLast Go.Proofs.YtamcacahjlaogaaDoorW.PrintMore Er
def without (T : List Int) (l i : Nat) : List Int := T.take l ++ T.drop (l + i)
structure RemAt (w : World) (base b : Nat) (T : List Int) (l g d : Nat) (k : Nat) (v13 : Value) (wr : World) : Prop where
 st : ∃ i : Nat, v13 = .int .i64 i ∧ i + k = d ∧ GapIs wr base b (without T l i) l (g + i)
 bel : Below base w wr
end Go.Proofs.YtamcacahjlaogaaDoor
