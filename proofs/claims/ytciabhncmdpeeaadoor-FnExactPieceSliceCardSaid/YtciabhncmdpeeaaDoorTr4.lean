/- A node repaired behind a change (repaired), walked: every way. Condition: trees of at most 100000000000 nodes. -/
import Derived.Test.YtciabhncmdpeeaaDoorTr3
namespace Go.Proofs.YtciabhncmdpeeaaDoor
open Go.RowKit Go.Proofs.YtciabhncmdpeeaaDoorW.PrintMore
theorem smW_hc (t : Tree) (h : TP.cnt t ≤ 1000000000000) : (smW t).h = (TP.hgt t : Int) ∧ (smW t).c = (TP.cnt t : Int) := by
 induction t with
 | nil => exact ⟨rfl, rfl⟩
 | node l v r ihl ihr =>
  simp only [TP.cnt] at h
  obtain ⟨h1, c1⟩ := ihl (by omega)
  obtain ⟨h2, c2⟩ := ihr (by omega)
  have k1 := TP.hgt_le l
  have k2 := TP.hgt_le r
  simp only [smW, TP.hgt, TP.cnt, h1, h2, c1, c2, mxI]
  constructor
  ·unfold wrap64; split <;> omega
  ·unfold wrap64; omega
def hd (l r : Tree) : Int := wrap64 ((smW l).h - (smW r).h)
def RepairedPost (w : World) (n : Nat) (l r : Tree) (v : Pc) (Sl Sr : List Nat) (e : Ending) (w' : World) : Prop :=
 ∃ p S', e = .returned (ptrV p) ∧ UpdS (n :: (Sl ++ Sr)) w w' ∧ Rep w' (TP.repaired (.node l v r)) p S' ∧ S'.Perm (n :: (Sl ++ Sr))
end Go.Proofs.YtciabhncmdpeeaaDoor
