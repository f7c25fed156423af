/- Trees of nodes in memory: what a pointer reads as, and what is kept. -/
import Derived.Test.YtnomidpnofhjdaaTr0
import Derived.Test.YtnomidpnofhjdaaTP
namespace Go.Proofs.Ytnomidpnofhjdaa
open Go.RowKit Go.Proofs.YtnomidpnofhjdaaW.PrintMore
structure Pc where
  off : Int
  len : Int
  brk : Int
  deriving DecidableEq
abbrev Tree := TP.Tr Pc
/-- what a node counts of its subtree (as Go reckons it) -/
def smW : Tree → Sm
  | .nil => ⟨0, 0, 0, 0⟩
  | .node l v r => ⟨wrap64 (mxI (smW l).h (smW r).h + 1), wrap64 (wrap64 ((smW l).c + (smW r).c) + 1), wrap64 (wrap64 ((smW l).r + (smW r).r) + v.len), wrap64 (wrap64 ((smW l).k + (smW r).k) + v.brk)⟩
def nodeCells (pl pr : Option Nat) (v : Pc) (s : Sm) : Array Value :=
  #[ptrV pl, ptrV pr, .int .i64 v.off, .int .i64 v.len, .int .i64 v.brk, .int .i64 s.h, .int .i64 s.c, .int .i64 s.r, .int .i64 s.k]
/-- block b of w is a node with these -/
def NodeAt (w : World) (b : Nat) (pl pr : Option Nat) (v : Pc) (s : Sm) : Prop := w.heap[b]? = some (.cells (nodeCells pl pr v s) 62 (0, 0))
/-- p points to the tree t, whose nodes lie in the blocks S -/
def Rep (w : World) : Tree → Option Nat → List Nat → Prop
  | .nil, p, S => p = none ∧ S = []
  | .node l v r, p, S => ∃ b pl pr Sl Sr, p = some b ∧ S = b :: (Sl ++ Sr) ∧ NodeAt w b pl pr v (smW (.node l v r)) ∧ Rep w l pl Sl ∧ Rep w r pr Sr
theorem NodeAt.lt {w : World} {b : Nat} {pl pr : Option Nat} {v : Pc} {s : Sm} (h : NodeAt w b pl pr v s) : b < w.heap.size := (Array.getElem?_eq_some_iff.1 h).1
theorem Rep.lt {w : World} {t : Tree} : ∀ {p : Option Nat} {S : List Nat}, Rep w t p S → ∀ k ∈ S, k < w.heap.size := by
  induction t with
  | nil => rintro p S ⟨_, rfl⟩ k hk; simp at hk
  | node l v r ihl ihr =>
    rintro p S ⟨b, pl, pr, Sl, Sr, _, rfl, hb, hl, hr⟩ k hk
    simp only [List.mem_cons, List.mem_append] at hk
    rcases hk with rfl | hk | hk
    · exact hb.lt
    · exact ihl hl k hk
    · exact ihr hr k hk
theorem Rep.move {w w' : World} {t : Tree} : ∀ {p : Option Nat} {S : List Nat}, Rep w t p S → (∀ k ∈ S, w'.heap[k]? = w.heap[k]?) → Rep w' t p S := by
  induction t with
  | nil => rintro p S h _; exact h
  | node l v r ihl ihr =>
    rintro p S ⟨b, pl, pr, Sl, Sr, hp, rfl, hb, hl, hr⟩ hm
    refine ⟨b, pl, pr, Sl, Sr, hp, rfl, ?_, ihl hl (fun k hk => hm k (by simp [hk])), ihr hr (fun k hk => hm k (by simp [hk]))⟩
    unfold NodeAt; rw [hm b (by simp)]; exact hb
theorem NodeAt.sum {w : World} {b : Nat} {pl pr : Option Nat} {v : Pc} {s : Sm} (h : NodeAt w b pl pr v s) : SumAt w (some b) s :=
  .inr ⟨b, rfl, (Go.Proofs.YtnomidpnofhjdaaW.PrintWords.blk_cell h 5).trans rfl, (Go.Proofs.YtnomidpnofhjdaaW.PrintWords.blk_cell h 6).trans rfl, (Go.Proofs.YtnomidpnofhjdaaW.PrintWords.blk_cell h 7).trans rfl, (Go.Proofs.YtnomidpnofhjdaaW.PrintWords.blk_cell h 8).trans rfl⟩
theorem Rep.sum {w : World} {t : Tree} {p : Option Nat} {S : List Nat} (h : Rep w t p S) : SumAt w p (smW t) := by
  cases t with
  | nil => exact .inl ⟨h.1, rfl⟩
  | node l v r => obtain ⟨b, pl, pr, Sl, Sr, rfl, _, hb, _, _⟩ := h; exact hb.sum
theorem Rep.root {w : World} {t : Tree} {b : Nat} {S : List Nat} (h : Rep w t (some b) S) : b ∈ S := by
  cases t with
  | nil => cases h.1
  | node l v r => obtain ⟨b', pl, pr, Sl, Sr, e, rfl, _, _, _⟩ := h; cases e; simp
theorem Rep.ne {w : World} {t : Tree} {p : Option Nat} {S : List Nat} {n : Nat} (h : Rep w t p S) (hn : n ∉ S) : p ≠ some n := fun e => by subst e; exact hn h.root
/-- only the blocks S may have changed; new ones may lie there -/
structure UpdS (S : List Nat) (w w' : World) : Prop where
  os : w'.os = w.os
  tape : w'.tape = w.tape
  output : w'.output = w.output
  size : w.heap.size ≤ w'.heap.size
  block : ∀ k, k < w.heap.size → k ∉ S → w'.heap[k]? = w.heap[k]?
theorem UpdS.refl (S : List Nat) (w : World) : UpdS S w w := ⟨rfl, rfl, rfl, Nat.le_refl _, fun _ _ _ => rfl⟩
theorem Upd.upds {n : Nat} {w w' : World} (h : Upd n w w') : UpdS [n] w w' := ⟨h.os, h.tape, h.output, h.size, fun k hk hn => h.block k hk (by simpa using hn)⟩
/-- the blocks of S' are of S, or new -/
def Fresh (S S' : List Nat) (w : World) : Prop := ∀ k ∈ S', k ∈ S ∨ w.heap.size ≤ k
theorem Fresh.refl (S : List Nat) (w : World) : Fresh S S w := fun _ h => .inl h
theorem UpdS.trans {S S1 : List Nat} {w w1 w2 : World} (h : UpdS S w w1) (k : UpdS S1 w1 w2) (hs : Fresh S S1 w) : UpdS S w w2 :=
  ⟨k.os.trans h.os, k.tape.trans h.tape, k.output.trans h.output, Nat.le_trans h.size k.size, fun i hi hn => (k.block i (Nat.lt_of_lt_of_le hi h.size) (fun hm => by
    rcases hs i hm with h1 | h1
    · exact hn h1
    · omega)).trans (h.block i hi hn)⟩
theorem UpdS.mono {S S1 : List Nat} {w w1 : World} (h : UpdS S w w1) (hs : ∀ k ∈ S, k ∈ S1) : UpdS S1 w w1 := ⟨h.os, h.tape, h.output, h.size, fun k hk hn => h.block k hk (fun hm => hn (hs k hm))⟩
theorem UpdS.below {w w1 : World} (h : UpdS [] w w1) : Below w.heap.size w w1 := ⟨h.os, h.tape, h.output, h.size, fun k hk => h.block k hk (by simp)⟩
theorem UpdS.of_below {S : List Nat} {w w1 : World} (h : Below w.heap.size w w1) : UpdS S w w1 := ⟨h.os, h.tape, h.output, h.size, fun k hk _ => h.block k hk⟩
theorem Rep.upd {w w' : World} {t : Tree} {p : Option Nat} {S S' : List Nat} (h : Rep w t p S) (hu : UpdS S' w w') (hd : ∀ k ∈ S, k ∉ S') : Rep w' t p S :=
  h.move fun k hk => hu.block k (h.lt k hk) (hd k hk)
/-- sum, at a node whose subtrees are told -/
theorem sum_node (w : World) (n : Nat) (pl pr : Option Nat) (l r : Tree) (v : Pc) (s : Sm) (Sl Sr : List Nat) (hb : NodeAt w n pl pr v s) (hl : Rep w l pl Sl) (hr : Rep w r pr Sr) (nd : (n :: (Sl ++ Sr)).Nodup) :
    Calls Try.prog 31 #[ptrV (some n)] w fun e w' => e = .returned (ptrV (some n)) ∧ UpdS [n] w w' ∧ Rep w' (.node l v r) (some n) (n :: (Sl ++ Sr)) := by
  rw [List.nodup_cons] at nd
  have hn := nd.1
  simp only [List.mem_append, not_or] at hn
  refine (sum_any w n pl pr (smW l) (smW r) v.off v.len v.brk s.h s.c s.r s.k (hl.ne hn.1) (hr.ne hn.2) hb hl.sum hr.sum).mono ?_
  rintro e w' ⟨rfl, hu, hb'⟩
  refine ⟨rfl, hu.upds, n, pl, pr, Sl, Sr, rfl, rfl, hb', hl.upd hu.upds (fun k hk => ?_), hr.upd hu.upds (fun k hk => ?_)⟩
  · simp only [List.mem_singleton]; rintro rfl; exact hn.1 hk
  · simp only [List.mem_singleton]; rintro rfl; exact hn.2 hk
end Go.Proofs.Ytnomidpnofhjdaa
