/- insert, walked: a tree of at most 90000000000 nodes, a rank in it. -/
import Derived.Test.YtciabhncmdpeeaaDoorTr4
import Derived.Deep.RegionWith
namespace Go.Proofs.YtciabhncmdpeeaaDoor
open Go.RowKit Go.Proofs.YtciabhncmdpeeaaDoorW.PrintMore
def TreePost (w : World) (S : List Nat) (t : Tree) (e : Ending) (w' : World) : Prop :=
 ∃ p S', e = .returned (ptrV p) ∧ UpdS S w w' ∧ Rep w' t p S' ∧ S'.Nodup ∧ Fresh S S' w
theorem Fresh.trans {S S1 S2 : List Nat} {w w1 : World} (h : Fresh S S1 w) (k : Fresh S1 S2 w1) (hle : w.heap.size ≤ w1.heap.size) : Fresh S S2 w := fun j hj => by
 rcases k j hj with h1 | h1
 ·exact h j h1
 ·exact .inr (by omega)
theorem RepairedPost.post {w w3 : World} {b : Nat} {l r : Tree} {x : Pc} {Sl Sr S : List Nat} {e : Ending} {w4 : World}
  (h : RepairedPost w3 b l r x Sl Sr e w4) (hu : UpdS S w w3) (fr : Fresh S (b :: (Sl ++ Sr)) w) (nd : (b :: (Sl ++ Sr)).Nodup) : TreePost w S (TP.repaired (.node l x r)) e w4 := by
 obtain ⟨p, S', he, hu4, hrep, hp⟩ := h
 exact ⟨p, S', he, hu.trans hu4 fr, hrep, hp.nodup_iff.2 nd, fun k hk => fr k (hp.mem_iff.1 hk)⟩
theorem count_rep (w : World) (t : Tree) (p : Option Nat) (S : List Nat) (h : Rep w t p S) (hc : TP.cnt t ≤ 1000000000000) :
  Calls Tryd.prog 105 #[ptrV p] w fun e w' => e = .returned (.int .i64 (TP.cnt t)) ∧ w' = w := by
 have := count_any w p (smW t) h.sum
 rw [(smW_hc t hc).2] at this; exact this
theorem height_rep (w : World) (t : Tree) (p : Option Nat) (S : List Nat) (h : Rep w t p S) (hc : TP.cnt t ≤ 1000000000000) :
  Calls Tryd.prog 125 #[ptrV p] w fun e w' => e = .returned (.int .i64 (TP.hgt t)) ∧ w' = w := by
 have := height_any w p (smW t) h.sum
 rw [(smW_hc t hc).1] at this; exact this
end Go.Proofs.YtciabhncmdpeeaaDoor
