/- The items of a tree in order, by the program's iterator (walk, all), and told. Conditions: the tree's numbers are small (Fine). -/
import Derived.RangeFuncNested
import Derived.RangeFuncBox
import Derived.RangeFuncBound
import Derived.RangeFuncCalls
import Derived.RangeFuncLeaves
import Derived.Shelf.Abstract
import Derived.Shelf.RegionOpen
import Derived.OwnWalkIn
import Derived.TacticsInMore
import Derived.Maps.AppendAt
import Derived.Test.YtciabhncmdpeeaaDoorTr10
namespace Go.Proofs.YtciabhncmdpeeaaDoor
open Go.RowKit Go.Shelf Go.Proofs.YtciabhncmdpeeaaDoorW.PrintWords Go.Proofs.YtciabhncmdpeeaaDoorW.PrintMore
attribute [local go_sem] Oper.semAt_some
theorem room_none_ {F : Fence} (hd : F.depth = none) (k : Nat) : F.room k := fun d h => by rw [hd] at h; cases h
theorem RoundIn.any_ {F : Fence} (hd : F.depth = none) {m m' : Nat} {P : Program} {l : Nat} {f : FuncId} {tmps : Array Value} {assign body : Code} {w : World} {R : Ending → World → Prop}
  (h : RoundIn F m P l f tmps assign body w R) : RoundIn F m' P l f tmps assign body w R := ⟨h.1, fun c cs _ => h.2 c cs (room_none_ hd _)⟩
theorem YieldAt.any_ {F : Fence} (hd : F.depth = none) {m : Nat} (m' : Nat) {P : Program} {l : Nat} {args : Array Value} {W : World} {R : Ending → World → Prop} (h : YieldAt F m P l args W R) : YieldAt F m' P l args W R := by
 obtain ⟨fn, tmps, assign, body, hy, hR⟩ := h
 exact ⟨fn, tmps, assign, body, hy, RoundIn.any_ hd hR⟩
theorem undef_bool {b : Bool} {C : Prop} (h : some undef = some (Value.bool b)) : C := by simp [undef] at h
abbrev yv (x : Pc × Int) : Array Value := #[.agg #[.int .i64 x.1.off, .int .i64 x.1.len, .int .i64 x.1.brk], .int .i64 x.2]
theorem Rep.belowS {n₀ : Nat} {w w' : World} {t : Tree} {p : Option Nat} {S : List Nat} (h : Rep w t p S) (hS : ∀ k ∈ S, k < n₀) (hb : Below n₀ w w') : Rep w' t p S := h.move fun k hk => hb.block k (hS k hk)
theorem NodeAt.belowS {n₀ : Nat} {w w' : World} {b : Nat} {pl pr : Option Nat} {v : Pc} {s : Sm} (h : NodeAt w b pl pr v s) (hS : b < n₀) (hb : Below n₀ w w') : NodeAt w' b pl pr v s := (hb.block b hS).trans h
set_option maxHeartbeats 1000000 in
theorem all_in (F : Fence) (n : Nat) (h4 : F.fn 109) (hro : F.round = none) (p0 : Option Nat) (w : World) :
  CallsIn F n Tryd.prog 109 #[ptrV p0] w fun e w' => e = .returned (.func (.func 131) #[] #[.pointer (some ⟨w.heap.size, 0, none⟩)]) ∧ w' = w.alloc (.cells #[ptrV p0] 83) := by
 refine callsIn_of_wp Tryd.func109 rfl h4 ?_ hro
 simp only [Tryd.ntmps109, List.size_toArray, List.length_cons, List.length_nil, Nat.reduceAdd, Nat.reduceSub, Array.replicate_succ, Array.replicate_zero, List.push_toArray, List.append_toArray, List.nil_append, List.cons_append]
 gi_wp2
 go_ret
 exact ⟨rfl, rfl⟩
end Go.Proofs.YtciabhncmdpeeaaDoor
