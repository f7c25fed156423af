/- first, walked: a tree with a node. -/
import Derived.Test.YtciabhncmdpeeaaDoorTr11
namespace Go.Proofs.YtciabhncmdpeeaaDoor
open Go.RowKit Go.Proofs.YtciabhncmdpeeaaDoorW.PrintWords Go.Proofs.YtciabhncmdpeeaaDoorW.PrintLast Go.Proofs.YtciabhncmdpeeaaDoorW.PrintMore
structure FirstN (w : World) (v : Pc) (k : Nat) (p : Value) (wr : World) : Prop where
 st : ∃ (t : Tree) (q : Option Nat) (S : List Nat), p = ptrV q ∧ Rep wr t q S ∧ TP.first t = some v ∧ TP.cnt t ≤ k
 same : wr = w
end Go.Proofs.YtciabhncmdpeeaaDoor
