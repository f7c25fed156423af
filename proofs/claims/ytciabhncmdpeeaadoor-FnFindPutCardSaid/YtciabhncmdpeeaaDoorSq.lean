/- Short words for what a printed law says often: a fact carried over the steps of a world. -/
import Derived.Test.YtciabhncmdpeeaaDoorWMore
namespace Go.Proofs.YtciabhncmdpeeaaDoor.Sq
open Go Go.RowKit Go.Proofs.YtciabhncmdpeeaaDoorW.PrintWords Go.Proofs.YtciabhncmdpeeaaDoorW.PrintLast Go.Proofs.YtciabhncmdpeeaaDoorW.PrintMore
theorem bkD {w w' : World} {g : Nat} {o : Obj} (h : Aside0 (w.heap[g]? = some o))
  (hs : w.heap[g]? = some o → w'.heap[g]? = some o := by intro h_; (with_reducible repeat (first | refine blk_drewN ?_ _ | refine blk_drew ?_ | refine blk_alloc ?_ _)); exact h_) : w'.heap[g]? = some o := hs h.out
theorem rD {α : Type} {d : Kd α} {e : Nat} {w w' : World} {base : Nat} {ok : Nat → Prop} {v : Value} {xs : List α} (h : Kd.R d e w base ok v xs)
  (hs : Kd.R d e w base ok v xs → Kd.R d e w' base ok v xs := by intro h_; (with_reducible repeat (first | apply Kd.R_alloc | apply Kd.R_drewN | apply Kd.R_drew)); exact h_) : Kd.R d e w' base ok v xs := hs h
theorem hbD {w W W' : World} (h : Aside0 (Below w.heap.size w W))
  (hs : Below w.heap.size w W → Below w.heap.size w W' := by intro h_; repeat (first | (with_reducible first | exact h_ | apply below_alloc | apply pw_below_drewN | apply below_drew1) | (with_reducible refine below_set ?_ (Aside0.out (by assumption))) | exact h_)) : Below w.heap.size w W' := hs h.out
theorem hbS {w W W' : World} {g : Nat} (h : Aside0 (Below w.heap.size w W)) (ge : w.heap.size ≤ g)
  (hs : w.heap.size ≤ g → Below w.heap.size w W → Below w.heap.size w W' := by intro g_ h_; repeat (first | (with_reducible first | exact h_ | apply below_alloc | apply pw_below_drewN | apply below_drew1 | refine below_set ?_ g_) | (with_reducible refine below_set ?_ (Aside0.out (by assumption))) | exact h_)) : Below w.heap.size w W' := hs ge h.out
theorem kq {α : Type} {d : Kd α} {e : Nat} {W W2 : World} {base : Nat} {ok S : Nat → Prop} {v : Value} {xs : List α} (h : Aside0 (Kd.R d e W base ok v xs)) (hk : Kept W W2 S) (hne : ∀ k, ok k → ¬ S k) : Aside0 (Kd.R d e W2 base ok v xs) := ⟨Kd.R_mono (Kd.R_keptB h.out hk hne) (fun _ h => h.1)⟩
theorem bb {w W W2 : World} {g : Nat} {o : Obj} (b : Aside0 (w.heap[g]? = some o)) (hb : Below W.heap.size W W2)
  (hs : w.heap[g]? = some o → W.heap[g]? = some o := by intro h_; (with_reducible repeat (first | refine blk_drewN ?_ _ | refine blk_drew ?_ | refine blk_alloc ?_ _)); exact h_) : Aside0 (W2.heap[g]? = some o) := ⟨blk_below (hs b.out) hb⟩
theorem bkF {w w' : World} {g a b t : Nat} {cs : Array Value} (h : Aside0 (w.heap[g]? = some (.cells cs t (0, 0)))) (n : Aside0 (a ≠ b))
  (hs : a ≠ b → w.heap[g]? = some (.cells cs t (0, 0)) → w'.heap[g]? = some (.cells cs t (0, 0)) := by intro n_ h_; (with_reducible repeat (first | refine blk_drewN ?_ _ | refine blk_drew ?_ | refine blk_alloc ?_ _)); refine blk_far ?_ n_ _; (with_reducible repeat (first | refine blk_drewN ?_ _ | refine blk_drew ?_ | refine blk_alloc ?_ _)); exact h_) : w'.heap[g]? = some (.cells cs t (0, 0)) := hs n.out h.out
theorem cD {α : Type} {d : Kd α} {w w' : World} {A : Option Addr} {n : Nat} {xs : List α} (h : Kd.C d w A n xs)
  (hs : Kd.C d w A n xs → Kd.C d w' A n xs := by intro h_; repeat (first | exact h_ | (with_reducible refine Kd.C_alloc ?_ _) | (with_reducible refine Kd.C_drewN ?_ _) | (with_reducible refine Kd.C_drew ?_))) : Kd.C d w' A n xs := hs h
end Go.Proofs.YtciabhncmdpeeaaDoor.Sq
