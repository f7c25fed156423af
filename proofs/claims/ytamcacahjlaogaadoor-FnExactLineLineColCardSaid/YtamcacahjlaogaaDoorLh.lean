/- Lines: what the line functions answer, in words; size, what is refused, walked. Conditions: the bounds. -/
import Derived.Test.YtamcacahjlaogaaDoorLq
import Derived.Test.YtamcacahjlaogaaDoorLe
namespace Go.Proofs.YtamcacahjlaogaaDoor.Ln
open Go.RowKit Go.Proofs.YtamcacahjlaogaaDoorW.PrintWords Go.Proofs.YtamcacahjlaogaaDoorW.PrintLast Go.Proofs.YtamcacahjlaogaaDoorW.PrintMore Er Go.Proofs.YtamcacahjlaogaaDoor.LP
open F (UpdS Fresh R_upd)
set_option linter.unusedSimpArgs false
set_option linter.unusedVariables false
def totL (gs : List SG) : Int := stAt (gs.map rwOf) gs.length - 1
theorem totL_is (gs : List SG) : (gs.length : Int) - 1 + sumR gs = totL gs := by
 have := sumR_all gs
 unfold totL; omega
theorem okLn.fine {gs : List SG} {st : List Int} (h : okLn gs st) : Fine gs := by
 obtain ⟨⟨h1, -⟩, h2, -, -⟩ := (okLn_iff gs st).1 h
 exact ⟨h1.2, h2⟩
theorem okLn.tot {gs : List SG} {st : List Int} (h : okLn gs st) : 0 ≤ totL gs ∧ totL gs ≤ 8192 := by
 obtain ⟨⟨h1, -⟩, -, h3, -⟩ := (okLn_iff gs st).1 h
 have := stAt_nn (gs.map rwOf) gs.length
 unfold totL; omega
theorem okLn.sts {gs : List SG} {st : List Int} (h : okLn gs st) : st = sts (gs.map rwOf) st.length := by
 obtain ⟨-, -, -, h4⟩ := (okLn_iff gs st).1 h
 refine List.ext_getElem (by rw [sts_length]) fun i h1 h2 => ?_
 have a := h4 i h1
 have b := sts_get (gs.map rwOf) st.length i h1
 rw [List.getD_eq_getElem?_getD, List.getElem?_eq_getElem h1, Option.getD_some] at a
 rw [List.getD_eq_getElem?_getD, List.getElem?_eq_getElem h2, Option.getD_some] at b
 rw [a, b]
theorem Known.unique {Rs : List Rw} {k0 : Nat} {off : Int} {k k' : Nat} (h : Known Rs k0 off k) (h' : Known Rs k0 off k') : k = k' := by
 rcases Nat.lt_trichotomy k k' with c | c | c
 ·rcases h.stop with e | e
  ·have := h'.hi; omega
  ·have := h'.all k h.lo c; omega
 ·exact c
 ·rcases h'.stop with e | e
  ·have := h.hi; omega
  ·have := h.all k' h'.lo c; omega
theorem LineOf.unique {Rs : List Rw} {k : Nat} {off : Int} {l l' : Nat} (h : LineOf Rs k off l) (h' : LineOf Rs k off l') : l = l' := by
 have key : ∀ {a b : Nat}, LineOf Rs k off a → LineOf Rs k off b → ¬ a < b := fun {a b} ha hb c => by
  rcases ha.next with e | e
  ·have := hb.lt; omega
  ·have := stAt_mono Rs (i := a + 1) (j := b) (by omega)
   have := hb.le; omega
 have := key h h'; have := key h' h
 omega
def LcRes (gs : List SG) (st : List Int) (off : Int) (xs : List SG) (st' : List Int) (a b c : Int) : Prop :=
 (¬ okLn gs st ∧ xs = [] ∧ st' = [] ∧ a = 0 ∧ b = 0 ∧ c = 1) ∨ (okLn gs st ∧ ¬ (0 ≤ off ∧ off ≤ totL gs) ∧ xs = [] ∧ st' = [] ∧ a = 0 ∧ b = 0 ∧ c = 2) ∨
  (okLn gs st ∧ (0 ≤ off ∧ off ≤ totL gs) ∧ ∃ k line : Nat, Known (gs.map rwOf) st.length off k ∧ LineOf (gs.map rwOf) k off line ∧ xs = gs ∧ st' = sts (gs.map rwOf) k ∧ a = line ∧ b = off - stAt (gs.map rwOf) line ∧ c = 0)
theorem LcRes.unique {gs : List SG} {st : List Int} {off : Int} {xs ys : List SG} {s s' : List Int} {a b c a' b' c' : Int} (h : LcRes gs st off xs s a b c) (h' : LcRes gs st off ys s' a' b' c') : xs = ys ∧ s = s' ∧ a = a' ∧ b = b' ∧ c = c' := by
 rcases h with ⟨h0, rfl, rfl, rfl, rfl, rfl⟩ | ⟨h0, h1, rfl, rfl, rfl, rfl, rfl⟩ | ⟨h0, h1, k, l, h2, h3, rfl, rfl, rfl, rfl, rfl⟩ <;> rcases h' with ⟨g0, rfl, rfl, rfl, rfl, rfl⟩ | ⟨g0, g1, rfl, rfl, rfl, rfl, rfl⟩ | ⟨g0, g1, k', l', g2, g3, rfl, rfl, rfl, rfl, rfl⟩
 all_goals first | exact absurd g0 h0 | exact absurd h0 g0 | exact absurd g1 h1 | exact absurd h1 g1 | exact ⟨rfl, rfl, rfl, rfl, rfl⟩ | skip
 obtain rfl := h2.unique g2
 obtain rfl := h3.unique g3
 exact ⟨rfl, rfl, rfl, rfl, rfl⟩
def LOut3 (w : World) (xs : List SG) (st : List Int) (a b c : Int) (e : Ending) (w' : World) : Prop :=
 ∃ v0 v1 : Value, e = .returned (.tuple #[.agg #[v0, v1], .int .i64 a, .int .i64 b, .int .i64 c]) ∧ LB w' w.heap.size (fun _ => True) v0 v1 xs st ∧ Below w.heap.size w w'
theorem LB.nil (w : World) (lo : Nat) (P : Nat → Prop) : LB w lo P (.slice none 0 0) (.slice none 0 0) [] [] := ⟨Kd.S_nil _ _ _ _ _, Kd.R_nil _ _ _ _ _⟩
theorem lsize_any (w : World) (L : Nat) (v0 v1 v2 v3 : Value) (tot : Int) (h : w.heap[L]? = some (.cells #[v0, v1, v2, v3, .int .i64 tot] 89 (0, 0))) :
  Calls Tryd.prog 29 #[.pointer (some ⟨L, 0, none⟩)] w fun e w' => e = .returned (.int .i64 tot) ∧ w' = w := by
 have q4 : w.cell? ⟨L, 4, none⟩ = some (.int .i64 tot) := (blk_cell h 4).trans rfl
 clear h
 go_enter Tryd.func29, Tryd.ntmps29
 go_wp2
 go_ret
 exact ⟨rfl, rfl⟩
theorem LB.put {w9 : World} {lo rs : Nat} {P : Nat → Prop} {v0 v1 u0 u1 : Value} {xs : List SG} {st : List Int} (h : LB w9 lo P v0 v1 xs st) (RS : w9.heap[rs]? = some (.cells #[u0, u1] 29 (0, 0))) : LB ((w9.setCell ⟨rs, 0, none⟩ v0).setCell ⟨rs, 1, none⟩ v1) lo P v0 v1 xs st :=
 ⟨Kd.S_set (Kd.S_set h.1 RS (by decide) 0 _) (blk_put RS 0 v0 rfl) (by decide) 1 _, Kd.R_set (Kd.R_set h.2 RS (by decide) 0 _) (blk_put RS 0 v0 rfl) (by decide) 1 _⟩
end Go.Proofs.YtamcacahjlaogaaDoor.Ln
