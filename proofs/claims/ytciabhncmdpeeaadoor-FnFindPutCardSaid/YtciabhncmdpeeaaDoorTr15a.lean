/- Words for the tree's changing functions: what they hand back, what a world keeps. No condition. -/
import Derived.Deep.RegionHeld3
import Derived.Test.YtciabhncmdpeeaaDoorTr11
namespace Go.Proofs.YtciabhncmdpeeaaDoor
open Go.RowKit Go.Proofs.YtciabhncmdpeeaaDoorW.PrintWords Go.Proofs.YtciabhncmdpeeaaDoorW.PrintLast Go.Proofs.YtciabhncmdpeeaaDoorW.PrintMore Er
def TreeOut (w : World) (r : List It × Int) (e : Ending) (w' : World) : Prop := ∃ v0_ : Value, e = .returned (.tuple #[.agg #[v0_], .int .i64 r.2]) ∧ Kd.R QBase.k54 54 w' w.heap.size (fun _ => True) v0_ r.1 ∧ Below w.heap.size w w'
theorem TreeOut.none {w w' : World} (c : Int) (hb : Below w.heap.size w w') : TreeOut w ([], c) (.returned (.tuple #[.agg #[.slice none 0 0], .int .i64 c])) w' := ⟨_, rfl, Kd.R_nil _ _ _ _ _, hb⟩
structure TSt (w w' : World) : Prop where
 bel : Below w.heap.size w w'
theorem TSt.below {w w1 w2 : World} (h : TSt w w1) (hb : Below w1.heap.size w1 w2) : TSt w w2 := ⟨below_step h.bel hb⟩
theorem TSt.alloc {w w1 : World} {o : Obj} (h : TSt w w1) : TSt w (w1.alloc o) := h.below ((Below.refl _ w1).alloc (Nat.le_refl _) _)
theorem TSt.drew {w w1 : World} (h : TSt w w1) : TSt w w1.drew := h.below (Below.refl _ w1).drew
theorem TSt.keep {w w1 : World} {a : Addr} {v : Value} (h : TSt w w1) (e : w.cell? a = some v) : w1.cell? a = some v := (h.bel.cell (World.block_lt_of_cell? w _ e)).trans e
theorem unless_t (w : World) (c : Int) : Calls Tryd.prog 59 #[.bool true, .int .i64 c] w fun e w' => e = .returned .nilIface ∧ w' = w := by
 have h := unless_any w true c
 simpa only [ev, if_true] using h
theorem unless_f (w : World) (c : Int) : Calls Tryd.prog 59 #[.bool false, .int .i64 c] w fun e w' => e = .returned (.iface 129 (.int .i64 c)) ∧ w' = w := by
 have h := unless_any w false c
 simpa only [ev, Bool.false_eq_true, if_false] using h
theorem firstOf4 (w : World) (g : Nat) (a b c d : EV) (h0 : w.cell? ⟨g, 0, none⟩ = some (ev a)) (h1 : w.cell? ⟨g, 1, none⟩ = some (ev b)) (h2 : w.cell? ⟨g, 2, none⟩ = some (ev c)) (h3 : w.cell? ⟨g, 3, none⟩ = some (ev d)) :
  Calls Tryd.prog 58 #[.slice (some ⟨g, 0, none⟩) 4 4] w fun e w' => e = .returned (ev (firstE [a, b, c, d])) ∧ w' = w :=
 firstOf_any w g [a, b, c, d] (by simp) (fun i v h => by
  rcases i with _ | _ | _ | _ | i
  ·cases h; exact h0
  ·cases h; exact h1
  ·cases h; exact h2
  ·cases h; exact h3
  ·simp at h)
theorem upds_below {w w1 w2 : World} {base : Nat} {S : List Nat} (hb : Below base w w1) (hu : UpdS S w1 w2) (hs : base ≤ w1.heap.size) (hS : ∀ k ∈ S, base ≤ k) : Below base w w2 :=
 hb.trans ⟨hu.os, hu.tape, hu.output, hu.size, fun k hk => hu.block k (by omega) (fun hm => by have := hS k hm; omega)⟩
theorem R_box {w : World} {X n base : Nat} {v : Value} {ys : List It} (h : Kd.R QBase.k54 54 w n (fun _ => True) v ys) (hX : X < n) (hb : base ≤ n) (u : Value) :
  Kd.R QBase.k54 54 (w.setCell ⟨X, 0, none⟩ u) base (fun _ => True) v ys := by
 have h1 := Kd.R_mono (ok' := fun k => k ≠ X) (Kd.R_bound h) (fun k hk => by have := hk.2.1; omega)
 exact Kd.R_lower (Kd.R_mono (Kd.R_far (p := ⟨X, 0, none⟩) h1 (fun _ h => h) u) (fun _ _ => trivial)) hb
end Go.Proofs.YtciabhncmdpeeaaDoor
