/- Words for the walks by hand: a list of numbers appended to nothing. -/
import Derived.Lib.Hide
import Derived.Test.YtamcacahjlaogaaDoorEr0
import Derived.Test.YtamcacahjlaogaaDoorQBasex0
namespace Go.Proofs.YtamcacahjlaogaaDoor
open Go.RowKit Go.Proofs.YtamcacahjlaogaaDoorW.PrintWords Go.Proofs.YtamcacahjlaogaaDoorW.PrintLast
theorem w64 {x : Int} (h : -9223372036854775808 ≤ x ∧ x ≤ 9223372036854775807) : wrap64 x = x := by unfold wrap64; omega
theorem app_nil {P : Program} {ops : Array Oper} {rest : List Oper} {o : Oper} {a : Act} {Q : Exit → Act → World → Prop} (k : IntKind) {W : World} (ok : Nat → Prop) (hgd : o.guard = none) (s x : Operand) (t e : TypeId) (z : Value) (bytes : Nat)
  (ho : o.op = .call { callee := .builtin .append, args := #[s, x], argTypes := #[t, t] })
  (ht : P.underlying t = some (.slice e)) (hinfo : (P.info? e).map (fun i => (i.zero, i.size, i.bytes)) = some (some z, 1, bytes)) (hz : z.cells.size = 1) (hb0 : 0 < bytes)
  (hs : a.eval s = .slice none 0 0) (xs : List Int) (A : Option Addr) (m c : Nat) (hx : a.eval x = .slice A m c) (hm : m = xs.length) (HR : (Kd.int k).C W A xs.length xs) (hfresh : ∀ k, W.heap.size ≤ k → ok k) (hl : xs.length * bytes ≤ 140737488355328)
  (h : ∀ v1 w1, (Kd.int k).R e w1 W.heap.size ok v1 xs → Below W.heap.size W w1 → wpList P ops Q rest (a.put o.dst v1) w1) :
  wpList P ops Q (o :: rest) a W := by
 subst hm
 refine Kd.R_append_rows (Kd.int k) (w0 := W) W.heap.size hgd s x t e z bytes ho ht hinfo hz Nat.one_pos hb0 (.slice none 0 0) [] xs A xs.length c ok (fun _ => False) hs hx (Kd.R_nil _ _ _ _ _) HR (fun _ _ h => h) (fun _ h => h.elim) hfresh (Below.refl _ _) (Nat.le_refl _) (by simp only [List.length_nil, Nat.zero_add]; exact hl) ?_
 intro v1 w1 ho hb _ _
 exact h v1 w1 ho hb
theorem app_own {P : Program} {ops : Array Oper} {rest : List Oper} {o : Oper} {a : Act} {Q : Exit → Act → World → Prop} (k : IntKind) {W : World} (w0 : World) (ok : Nat → Prop) (hgd : o.guard = none) (s x : Operand) (t e : TypeId) (z : Value) (bytes : Nat)
  (ho : o.op = .call { callee := .builtin .append, args := #[s, x], argTypes := #[t, t] })
  (ht : P.underlying t = some (.slice e)) (hinfo : (P.info? e).map (fun i => (i.zero, i.size, i.bytes)) = some (some z, 1, bytes)) (hz : z.cells.size = 1) (hb0 : 0 < bytes)
  (v : Value) (hs : a.eval s = v) (xs ys : List Int) (A : Option Addr) (m c : Nat) (hx : a.eval x = .slice A m c) (hm : m = ys.length) (HO : (Kd.int k).R e W w0.heap.size ok v xs) (HR : (Kd.int k).C W A ys.length ys) (hfresh : ∀ k, W.heap.size ≤ k → ok k) (HB : Below w0.heap.size w0 W) (hl : (xs.length + ys.length) * bytes ≤ 140737488355328)
  (h : ∀ v1 w1, (Kd.int k).R e w1 w0.heap.size ok v1 (xs ++ ys) → Below w0.heap.size w0 w1 → W.grownBy w1 v.ownBlock → (v1.ownBlock = v.ownBlock ∨ ∃ b, v1.ownBlock = some b ∧ W.heap.size ≤ b) → wpList P ops Q rest (a.put o.dst v1) w1) :
  wpList P ops Q (o :: rest) a W := by
 subst hm
 exact Kd.R_append_rows (Kd.int k) (w0 := w0) w0.heap.size hgd s x t e z bytes ho ht hinfo hz Nat.one_pos hb0 v xs ys A ys.length c ok (fun _ => False) hs hx HO HR (fun _ _ h => h) (fun _ h => h.elim) hfresh HB HB.size hl h
end Go.Proofs.YtamcacahjlaogaaDoor
