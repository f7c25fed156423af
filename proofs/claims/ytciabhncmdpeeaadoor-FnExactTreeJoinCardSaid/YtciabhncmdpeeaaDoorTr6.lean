/- find and findBreak, walked: trees of small numbers, an offset (a line) in them. -/
import Derived.Test.YtciabhncmdpeeaaDoorTr5
import Derived.Deep.LoopGhost
import Derived.Deep.RegionHeld3
namespace Go.Proofs.YtciabhncmdpeeaaDoor
open Go.RowKit Go.Proofs.YtciabhncmdpeeaaDoorW.PrintMore
def rl : Tree → Int | .nil => 0 | .node l v r => rl l + rl r + v.len
def kl : Tree → Int | .nil => 0 | .node l v r => kl l + kl r + v.brk
def Fine : Tree → Prop
 | .nil => True
 | .node l v r => Fine l ∧ Fine r ∧ 0 ≤ v.len ∧ 0 ≤ v.brk ∧ rl (.node l v r) ≤ 1000000000 ∧ kl (.node l v r) ≤ 1000000000 ∧ TP.cnt (.node l v r) ≤ 1000000000
theorem Fine.pos {t : Tree} (h : Fine t) : 0 ≤ rl t ∧ rl t ≤ 1000000000 ∧ 0 ≤ kl t ∧ kl t ≤ 1000000000 ∧ TP.cnt t ≤ 1000000000 := by
 induction t with
 | nil => simp [rl, kl, TP.cnt]
 | node l v r ihl ihr =>
  obtain ⟨h1, h2, h3, h4, h5, h6, h7⟩ := h
  have := ihl h1; have := ihr h2
  simp only [rl, kl] at h5 h6 ⊢
  exact ⟨by omega, h5, by omega, h6, h7⟩
theorem smW_rk (t : Tree) (h : Fine t) : (smW t).r = rl t ∧ (smW t).k = kl t := by
 induction t with
 | nil => exact ⟨rfl, rfl⟩
 | node l v r ihl ihr =>
  have hp := h.pos
  obtain ⟨h1, h2, h3, h4, h5, h6, h7⟩ := h
  obtain ⟨r1, k1⟩ := ihl h1
  obtain ⟨r2, k2⟩ := ihr h2
  have := h1.pos; have := h2.pos
  simp only [smW, rl, kl, r1, r2, k1, k2] at hp ⊢
  unfold wrap64
  omega
theorem runes_rep (w : World) (t : Tree) (p : Option Nat) (S : List Nat) (h : Rep w t p S) (hf : Fine t) :
  Calls Tryd.prog 61 #[ptrV p] w fun e w' => e = .returned (.int .i64 (rl t)) ∧ w' = w := by
 have := runes_any w p (smW t) h.sum
 rw [(smW_rk t hf).1] at this; exact this
def findV : Tree → Int → Int → Int → Int × Int × Int
 | .nil, _, rank, seen => (rank, 0, seen)
 | .node l v r, off, rank, seen => if off < rl l then findV l off rank (seen + 1) else if off < rl l + v.len then (rank + TP.cnt l, off - rl l, seen) else findV r (off - (rl l + v.len)) (rank + TP.cnt l + 1) (seen + 1)
theorem Rep.below {w w' : World} {t : Tree} {p : Option Nat} {S : List Nat} (h : Rep w t p S) (hb : Below w.heap.size w w') : Rep w' t p S := h.move fun k hk => hb.block k (h.lt k hk)
structure FS (b : Nat) (pl : Option Nat) (v : Pc) (l : Tree) (Sl : List Nat) (wr w' : World) : Prop where
 c0 : w'.cell? ⟨b, 0, none⟩ = some (ptrV pl)
 c2 : w'.cell? ⟨b, 2, none⟩ = some (.int .i64 v.off)
 c3 : w'.cell? ⟨b, 3, none⟩ = some (.int .i64 v.len)
 c4 : w'.cell? ⟨b, 4, none⟩ = some (.int .i64 v.brk)
 rep : Rep w' l pl Sl
 bel : Below wr.heap.size wr w'
theorem FS.below {b : Nat} {pl : Option Nat} {v : Pc} {l : Tree} {Sl : List Nat} {wr w' w2 : World} (h : FS b pl v l Sl wr w') (hb : Below w'.heap.size w' w2) : FS b pl v l Sl wr w2 := by
 have key : ∀ j u, w'.cell? ⟨b, j, none⟩ = some u → w2.cell? ⟨b, j, none⟩ = some u := fun j u h1 => by
  have hlt : b < w'.heap.size := by
   rcases Nat.lt_or_ge b w'.heap.size with h2 | h2
   ·exact h2
   ·simp [World.cell?, Array.getElem?_eq_none h2] at h1
  rw [World.cell?_of_block (w := w') (a := ⟨b, j, none⟩) (hb.block _ hlt)]; exact h1
 exact ⟨key _ _ h.c0, key _ _ h.c2, key _ _ h.c3, key _ _ h.c4, h.rep.below hb, Go.Proofs.YtciabhncmdpeeaaDoorW.PrintWords.below_step h.bel hb⟩
attribute [local go_sem] method_runes method_breaks
structure FindAt (w : World) (R : Int × Int × Int) (k : Nat) (p o r s : Value) (wr : World) : Prop where
 st : ∃ (t : Tree) (q : Option Nat) (S : List Nat) (off rank seen : Int), p = ptrV q ∧ o = .int .i64 off ∧ r = .int .i64 rank ∧ s = .int .i64 seen ∧ Rep wr t q S ∧ Fine t ∧ 0 ≤ off ∧ off < rl t ∧ 0 ≤ rank ∧ rank + TP.cnt t ≤ 1000000000 ∧ 0 ≤ seen ∧ seen + TP.cnt t ≤ 1000000001 ∧ TP.cnt t ≤ k ∧ findV t off rank seen = R
 bel : Below w.heap.size w wr
def findBV : Tree → Int → Int → Int → Int × Int × Int
 | .nil, _, rank, bf => (rank, 0, bf)
 | .node l v r, line, rank, bf => if line ≤ kl l then findBV l line rank bf else if line ≤ kl l + v.brk then (rank + TP.cnt l, line - kl l, bf + rl l) else findBV r (line - (kl l + v.brk)) (rank + TP.cnt l + 1) (bf + rl l + v.len)
structure FindBAt (w : World) (R : Int × Int × Int) (k : Nat) (p o r s : Value) (wr : World) : Prop where
 st : ∃ (t : Tree) (q : Option Nat) (S : List Nat) (line rank bf : Int), p = ptrV q ∧ o = .int .i64 line ∧ r = .int .i64 rank ∧ s = .int .i64 bf ∧ Rep wr t q S ∧ Fine t ∧ 1 ≤ line ∧ line ≤ kl t ∧ 0 ≤ rank ∧ rank + TP.cnt t ≤ 1000000000 ∧ 0 ≤ bf ∧ bf + rl t ≤ 1000000001 ∧ TP.cnt t ≤ k ∧ findBV t line rank bf = R
 bel : Below w.heap.size w wr
end Go.Proofs.YtciabhncmdpeeaaDoor
