/- Words for the tree's changing functions: what they hand back, what a world keeps. No condition. -/
import Derived.Deep.RegionHeld3
import Derived.Test.YtciabhncmdpeeaaDoorTr11
namespace Go.Proofs.YtciabhncmdpeeaaDoor
open Go.RowKit Go.Proofs.YtciabhncmdpeeaaDoorW.PrintWords Go.Proofs.YtciabhncmdpeeaaDoorW.PrintLast Go.Proofs.YtciabhncmdpeeaaDoorW.PrintMore Er
def TreeOut (w : World) (r : List It × Int) (e : Ending) (w' : World) : Prop := ∃ v0_ : Value, e = .returned (.tuple #[.agg #[v0_], .int .i64 r.2]) ∧ Kd.R QBase.k54 54 w' w.heap.size (fun _ => True) v0_ r.1 ∧ Below w.heap.size w w'
theorem TreeOut.none {w w' : World} (c : Int) (hb : Below w.heap.size w w') : TreeOut w ([], c) (.returned (.tuple #[.agg #[.slice none 0 0], .int .i64 c])) w' := ⟨_, rfl, Kd.R_nil _ _ _ _ _, hb⟩
structure TSt (w w' : World) : Prop where
 bel : Below w.heap.size w w'
theorem TSt.below {w w1 w2 : World} (h : TSt w w1) (hb : Below w1.heap.size w1 w2) : TSt w w2 := ⟨below_step h.bel hb⟩
theorem TSt.alloc {w w1 : World} {o : Obj} (h : TSt w w1) : TSt w (w1.alloc o) := h.below ((Below.refl _ w1).alloc (Nat.le_refl _) _)
theorem TSt.drew {w w1 : World} (h : TSt w w1) : TSt w w1.drew := h.below (Below.refl _ w1).drew
theorem TSt.keep {w w1 : World} {a : Addr} {v : Value} (h : TSt w w1) (e : w.cell? a = some v) : w1.cell? a = some v := (h.bel.cell (World.block_lt_of_cell? w _ e)).trans e
end Go.Proofs.YtciabhncmdpeeaaDoor
