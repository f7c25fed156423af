/- Words for the tree's changing functions: what they hand back, what a world keeps. No condition. -/
import Derived.Deep.RegionHeld3
import Derived.Test.YtciabhncmdpeeaaDoorTr11
namespace Go.Proofs.YtciabhncmdpeeaaDoor
open Go.RowKit Go.Proofs.YtciabhncmdpeeaaDoorW.PrintWords Go.Proofs.YtciabhncmdpeeaaDoorW.PrintLast Go.Proofs.YtciabhncmdpeeaaDoorW.PrintMore Er
def TreeOut (w : World) (r : List It × Int) (e : Ending) (w' : World) : Prop := ∃ v0_ : Value, e = .returned (.tuple #[.agg #[v0_], .int .i64 r.2]) ∧ Kd.R QBase.k54 54 w' w.heap.size (fun _ => True) v0_ r.1 ∧ Below w.heap.size w w'
theorem TreeOut.none {w w' : World} (c : Int) (hb : Below w.heap.size w w') : TreeOut w ([], c) (.returned (.tuple #[.agg #[.slice none 0 0], .int .i64 c])) w' := ⟨_, rfl, Kd.R_nil _ _ _ _ _, hb⟩
structure TSt (w w' : World) : Prop where
 bel : Below w.heap.size w w'
theorem unless_t (w : World) (c : Int) : Calls Tryd.prog 59 #[.bool true, .int .i64 c] w fun e w' => e = .returned .nilIface ∧ w' = w := by
 have h := unless_any w true c
 simpa only [ev, if_true] using h
theorem unless_f (w : World) (c : Int) : Calls Tryd.prog 59 #[.bool false, .int .i64 c] w fun e w' => e = .returned (.iface 129 (.int .i64 c)) ∧ w' = w := by
 have h := unless_any w false c
 simpa only [ev, Bool.false_eq_true, if_false] using h
theorem upds_below {w w1 w2 : World} {base : Nat} {S : List Nat} (hb : Below base w w1) (hu : UpdS S w1 w2) (hs : base ≤ w1.heap.size) (hS : ∀ k ∈ S, base ≤ k) : Below base w w2 :=
 hb.trans ⟨hu.os, hu.tape, hu.output, hu.size, fun k hk => hu.block k (by omega) (fun hm => by have := hS k hm; omega)⟩
theorem R_box {w : World} {X n base : Nat} {v : Value} {ys : List It} (h : Kd.R QBase.k54 54 w n (fun _ => True) v ys) (hX : X < n) (hb : base ≤ n) (u : Value) :
  Kd.R QBase.k54 54 (w.setCell ⟨X, 0, none⟩ u) base (fun _ => True) v ys := by
 have h1 := Kd.R_mono (ok' := fun k => k ≠ X) (Kd.R_bound h) (fun k hk => by have := hk.2.1; omega)
 exact Kd.R_lower (Kd.R_mono (Kd.R_far (p := ⟨X, 0, none⟩) h1 (fun _ h => h) u) (fun _ _ => trivial)) hb
end Go.Proofs.YtciabhncmdpeeaaDoor
