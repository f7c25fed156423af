/- The gap buffer of rows: read, walked. Conditions: the bounds. -/
import Derived.Test.YtamcacahjlaogaaDoorVd
namespace Go.Proofs.YtamcacahjlaogaaDoor.V
open Go.RowKit Go.Proofs.YtamcacahjlaogaaDoorW.PrintWords Go.Proofs.YtamcacahjlaogaaDoorW.PrintLast Go.Proofs.YtamcacahjlaogaaDoorW.PrintMore Er
open F (UpdS Fresh R_upd)
set_option linter.unusedSimpArgs false
set_option linter.unusedVariables false
theorem app_ptr {P : Program} {ops : Array Oper} {rest : List Oper} {o : Oper} {a : Act} {Q : Exit → Act → World → Prop} {W : World} (w0 : World) (ok : Nat → Prop) (hgd : o.guard = none) (s x : Operand) (t e : TypeId) (z : Value) (bytes : Nat)
  (ho : o.op = .call { callee := .builtin .append, args := #[s, x], argTypes := #[t, t] })
  (ht : P.underlying t = some (.slice e)) (hinfo : (P.info? e).map (fun i => (i.zero, i.size, i.bytes)) = some (some z, 1, bytes)) (hz : z.cells.size = 1) (hb0 : 0 < bytes)
  (v : Value) (hs : a.eval s = v) (xs ys : List PV) (A : Option Addr) (m c : Nat) (hx : a.eval x = .slice A m c) (hm : m = ys.length) (HO : KV.R e W w0.heap.size ok v xs) (HR : KV.C W A ys.length ys) (hfresh : ∀ k, W.heap.size ≤ k → ok k) (HB : Below w0.heap.size w0 W) (hl : (xs.length + ys.length) * bytes ≤ 140737488355328)
  (h : ∀ v1 w1, KV.R e w1 w0.heap.size ok v1 (xs ++ ys) → Below w0.heap.size w0 w1 → W.grownBy w1 v.ownBlock → (v1.ownBlock = v.ownBlock ∨ ∃ b, v1.ownBlock = some b ∧ W.heap.size ≤ b) → wpList P ops Q rest (a.put o.dst v1) w1) :
  wpList P ops Q (o :: rest) a W := by
 subst hm
 exact Kd.R_append_rows KV (w0 := w0) w0.heap.size hgd s x t e z bytes ho ht hinfo hz Nat.one_pos hb0 v xs ys A ys.length c ok (fun _ => False) hs hx HO HR (fun _ _ h => h) (fun _ h => h.elim) hfresh HB HB.size hl h
theorem one_reads (W : World) (x : PV) (t : TypeId) : KV.C (W.alloc (.cells #[pv x] t)) (some ⟨W.heap.size, 0, none⟩) 1 [x] := by
 refine ⟨rfl, by simp, fun _ => ⟨_, rfl, fun j p hj => ?_⟩⟩
 obtain ⟨rfl, rfl⟩ : j = 0 ∧ p = x := by
  rcases j with _ | j
  ·simp at hj; exact ⟨rfl, hj.symm⟩
  ·simp at hj
 refine ⟨[pv p], rfl, rfl, fun i u hu => ?_⟩
 rcases i with _ | i
 ·simp only [List.getElem?_cons_zero, Option.some.injEq] at hu
  subst hu
  exact (blk_cell (blk_new W (.cells #[pv p] t)) 0).trans rfl
 ·simp at hu
structure ReadAt (w : World) (T : List PV) (lo hi : Nat) (k : Nat) (v7 v8 : Value) (wr : World) : Prop where
 st : ∃ i : Nat, v8 = .int .i64 i ∧ lo ≤ i ∧ i + k = hi ∧ Kd.R KV 90 wr w.heap.size (fun _ => True) v7 ((T.take i).drop lo)
 bel : Below w.heap.size w wr
set_option maxHeartbeats 4000000 in
set_option maxRecDepth 100000 in
theorem read_any (sv tv : Value) (w : World) (base b : Nat) (T : List PV) (l g : Nat) (S : List Nat) (lo hi : Nat) (h : GapF sv tv w base b T l g S) (hlo : lo ≤ hi) (hhi : hi ≤ T.length) :
  Calls Tryd.prog 62 #[gpt b, .int .i64 lo, .int .i64 hi] w fun e w' => ∃ v, e = .returned v ∧ Kd.R KV 90 w' w.heap.size (fun _ => True) v ((T.take hi).drop lo) ∧ Below w.heap.size w w' := by
 have HG := Aside0.mk h
 have hT : T.length ≤ 2000000 := by have := h.2.2.1; omega
 have AT : Aside0 (ReadAt w T lo hi (hi - lo) (.slice none 0 0) (.int .i64 lo) w) := ⟨⟨⟨lo, rfl, Nat.le_refl _, by omega, by rw [List.drop_eq_nil_of_le (by rw [List.length_take]; omega)]; exact Kd.R_nil _ _ _ _ _⟩, Below.refl _ _⟩⟩
 have HL := Aside0.mk hlo
 clear h hlo
 simp only [gpt]
 go_enter Tryd.func62, Tryd.ntmps62
 go_wp2
 go_loopg [7, 8] (hi - lo) (fun k v7 v8 wr => ReadAt w T lo hi k v7 v8 wr)
 case atStart => exact AT.out
 case round =>
  clear AT
  obtain ⟨⟨i, rfl, hli, hk, hR⟩, hB⟩ := hrel
  have HB := Aside0.mk hB
  have HR := Aside0.mk hR
  have HK := Aside0.mk hk
  have HLI := Aside0.mk hli
  by_cases ci : i < hi
  ·have hib : i < 2000000 := by omega
   have hget := gget_any sv tv wr base b T l g i S (HG.out.below hB) (by omega)
   have HGET := Aside0.mk hget
   have hlen : ((T.take i).drop lo).length ≤ 2000000 := by rw [List.length_drop, List.length_take]; omega
   have HLEN := Aside0.mk hlen
   have e1 : (T.take (i + 1)).drop lo = (T.take i).drop lo ++ [T.getD i none] := by
    rw [List.take_succ_eq_append_getElem (by omega), List.drop_append_of_le_length (by rw [List.length_take]; omega), List.getD_eq_getElem?_getD, List.getElem?_eq_getElem (by omega : i < T.length), Option.getD_some]
   have E1 := Aside0.mk e1
   clear hB hR hk hli hget hlen e1
   generalize T.getD i none = x at HGET E1
   go_wp2_with fail
   refine HGET.out.mono ?_
   rintro e w1 ⟨rfl, hb1⟩
   have HB1 := Aside0.mk (below_step HB.out hb1)
   have HR1 := Aside0.mk (Kd.R_below HR.out hb1)
   clear hb1
   go_wp2_with ((with_reducible refine gate_builtin (b := .append) (xs := #[.tmp 15, .tmp 19]) rfl ?_); at_builtin; refine app_ptr w (fun _ => True) rfl (.tmp 15) (.tmp 19) 85 90 (.pointer none) 8 rfl Tryd.underlying85 QBase.infoP rfl (by decide) _ rfl ((T.take i).drop lo) [x] _ 1 1 rfl rfl (Kd.R_alloc HR1.out _) (one_reads w1 x _) (fun _ _ => trivial) (HB1.out.alloc HB1.out.size _) (by have := HLEN.out; simp only [List.length_cons, List.length_nil]; omega) ?_; intro v1 w2 ho hb2 hg2 hat2; clear hg2 hat2; have HB2 := Aside0.mk hb2; have HR2 := Aside0.mk ho; clear hb2 ho)
   go_roundg (hi - (i + 1))
   case measure => have := HK.out; omega
   case rel => exact ⟨⟨i + 1, by go_num, by have := HLI.out; omega, by have := HK.out; omega, by rw [E1.out]; exact HR2.out⟩, HB2.out⟩
  ·have hil : i = hi := by omega
   subst hil
   clear hB hR hk hli
   obtain ⟨A1, c1, rfl⟩ := Kd.R_slice HR.out
   go_wp2
   go_ret
   exact ⟨_, rfl, HR.out, HB.out⟩
end Go.Proofs.YtamcacahjlaogaaDoor.V
