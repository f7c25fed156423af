/- A text of pieces told (told), walked. Condition: at most 1000000 pieces and runes. -/
import Derived.Test.YtnomidpnofhjdaaGreatDoorTr11
import Derived.Test.YtnomidpnofhjdaaGreatDoorPt4
import Derived.Deep.RegionHeld3
namespace Go.Proofs.YtnomidpnofhjdaaGreatDoor
open Go.RowKit Go.Proofs.YtnomidpnofhjdaaGreatDoorW.PrintWords Go.Proofs.YtnomidpnofhjdaaGreatDoorW.PrintLast Go.Proofs.YtnomidpnofhjdaaGreatDoorW.PrintMore
structure FirstN (w : World) (v : Pc) (k : Nat) (p : Value) (wr : World) : Prop where
 st : ∃ (t : Tree) (q : Option Nat) (S : List Nat), p = ptrV q ∧ Rep wr t q S ∧ TP.first t = some v ∧ TP.cnt t ≤ k
 same : wr = w
end Go.Proofs.YtnomidpnofhjdaaGreatDoor
namespace Go.Proofs.YtnomidpnofhjdaaGreatDoor
open Go.RowKit Go.Proofs.YtnomidpnofhjdaaGreatDoorW.PrintWords Go.Proofs.YtnomidpnofhjdaaGreatDoorW.PrintLast Go.Proofs.YtnomidpnofhjdaaGreatDoorW.PrintMore Er
/-! a range removed -/
theorem TSt.set {w w1 : World} {p : Addr} {v : Value} (h : TSt w w1) (hp : w.heap.size ≤ p.block) : TSt w (w1.setCell p v) := ⟨h.bel.setCell hp v⟩
end Go.Proofs.YtnomidpnofhjdaaGreatDoor
namespace Go.Proofs.YtnomidpnofhjdaaGreatDoor
open Go.RowKit Go.Proofs.YtnomidpnofhjdaaGreatDoorW.PrintWords Go.Proofs.YtnomidpnofhjdaaGreatDoorW.PrintLast Go.Proofs.YtnomidpnofhjdaaGreatDoorW.PrintMore Er
theorem step_app_nil {P : Program} {ops : Array Oper} {o : Oper} {a : Act} {K : Act → World → Prop} {Q : Exit → Act → World → Prop} {E : Prop} (k : IntKind) {W : World} (ok : Nat → Prop) (hgd : o.guard = none) (s x : Operand) (t e : TypeId) (z : Value) (bytes : Nat)
  (ho : o.op = .call { callee := .builtin .append, args := #[s, x], argTypes := #[t, t] })
  (ht : P.underlying t = some (.slice e)) (hinfo : (P.info? e).map (fun i => (i.zero, i.size, i.bytes)) = some (some z, 1, bytes)) (hz : z.cells.size = 1) (hb0 : 0 < bytes)
  (hs : a.eval s = .slice none 0 0) (xs : List Int) (A : Option Addr) (m c : Nat) (hx : a.eval x = .slice A m c) (HR : (Kd.int k).C W A m xs) (hfresh : ∀ k, W.heap.size ≤ k → ok k) (hl : m * bytes ≤ 140737488355328)
  (h : ∀ v1 w1, (Kd.int k).R e w1 W.heap.size ok v1 xs → Below W.heap.size W w1 → K (a.put o.dst v1) w1) :
  if Region.wanted o (yielded ops a.tmps) = true then Oper.wp P o a W K Q else E := by
 have hw : Region.wanted o (yielded ops a.tmps) = true := by simp [Region.wanted, hgd]
 have key := Kd.R_append_rows_step (ops := ops) (Q := Q) (Kc := K) (Kd.int k) (w0 := W) W.heap.size hw s x t e z bytes ho ht hinfo hz Nat.one_pos hb0 (.slice none 0 0) [] xs A m c ok (fun _ => False) hs hx (Kd.R_nil _ _ _ _ _) HR (fun _ _ h => h) (fun _ h => h.elim) hfresh (Below.refl _ _) (Nat.le_refl _) (by simp only [List.length_nil, Nat.zero_add]; exact hl) (fun v1 w1 ho hb _ _ => h v1 w1 ho hb)
 rw [if_pos hw] at key ⊢
 exact key
theorem R_boxk {α : Type} {d : Kd α} {e : TypeId} {w : World} {X n base : Nat} {v : Value} {ys : List α} (h : Kd.R d e w n (fun _ => True) v ys) (hX : X < n) (hb : base ≤ n) (i : Nat) (u : Value) :
  Kd.R d e (w.setCell ⟨X, i, none⟩ u) base (fun _ => True) v ys := by
 have h1 := Kd.R_mono (ok' := fun k => k ≠ X) (Kd.R_bound h) (fun k hk => by have := hk.2.1; omega)
 exact Kd.R_lower (Kd.R_mono (Kd.R_far (p := ⟨X, i, none⟩) h1 (fun _ h => h) u) (fun _ _ => trivial)) hb
def PieceOut (w : World) (r : List Int × List It × Int) (e : Ending) (w' : World) : Prop := ∃ v0_ v1_ : Value, e = .returned (.tuple #[.agg #[v0_, v1_], .int .i64 r.2.2]) ∧ Kd.R (Kd.int .i32) 21 w' w.heap.size (fun _ => True) v0_ r.1 ∧ Kd.R QBase.k86 86 w' w.heap.size (fun _ => True) v1_ r.2.1 ∧ Below w.heap.size w w'
set_option maxHeartbeats 8000000 in
set_option maxRecDepth 100000 in
theorem ptold_any (w : World) (base b : Nat) (T : List Int) (t : Tree) (S : List Nat) (h : PS w base b T t S) (hc : TP.cnt t ≤ 1000000) (hT : T.length ≤ 1000000) :
  Calls Tryz.prog 38 #[.pointer (some ⟨b, 0, none⟩)] w fun e w' => ∃ v1 v2, e = .returned (.agg #[v1, v2]) ∧ Kd.R (Kd.int .i32) 21 w' w.heap.size (fun _ => True) v1 T ∧ Kd.R QBase.k86 86 w' w.heap.size (fun _ => True) v2 ((TP.flat t 0).map toIt) ∧ Below w.heap.size w w' := by
 obtain ⟨A, c, p, h1, h2, h3⟩ := h.ex
 obtain ⟨A', c', e, hcc, hC⟩ := Kd.R_reads h2
 cases e
 obtain ⟨w0, e0⟩ : ∃ y, w.alloc (.cells #[.slice none 0 0, .slice none 0 0] 33) = y := ⟨_, rfl⟩
 have hb0 : Below w.heap.size w w0 := by subst e0; exact (Below.refl _ w).alloc (Nat.le_refl _) _
 have HX : Aside0 (w0.heap[w.heap.size]? = some (.cells #[.slice none 0 0, .slice none 0 0] 33 (0, 0))) := ⟨by subst e0; exact blk_new w (.cells #[.slice none 0 0, .slice none 0 0] 33)⟩
 have T0 : TSt w w0 := ⟨hb0⟩
 have w0c : w.cell? ⟨b, 0, none⟩ = some (.slice A T.length c) := (blk_cell h1 0).trans rfl
 have w1c : w.cell? ⟨b, 1, none⟩ = some (ptrV p) := (blk_cell h1 1).trans rfl
 have q0 := T0.keep w0c
 have q1 := T0.keep w1c
 have W0 := Aside0.mk w0c
 have W1 := Aside0.mk w1c
 have HC := Aside0.mk (Kd.C_below hC hb0)
 have HP := Aside0.mk (h3.below hb0)
 have HTL := Aside0.mk hT
 obtain ⟨ys, HYS⟩ : ∃ ys, Aside0 (ys = (TP.flat t 0).map toIt) := ⟨_, ⟨rfl⟩⟩
 rw [← HYS.out]
 have TA : Aside0 (∀ W, Below w0.heap.size w0 W → Calls Tryz.prog 72 #[ptrV p] W fun e W' => ∃ v, e = .returned (.agg #[v]) ∧ Kd.R QBase.k86 86 W' W.heap.size (fun _ => True) v ys ∧ Below W.heap.size W W') := ⟨fun W hW => by
  rw [HYS.out]
  exact told_any p S t W (HP.out.below hW) hc⟩
 have hXlt := Aside0.mk (blk_lt HX.out)
 have HSZ : Aside0 (w0.heap.size = w.heap.size + 1) := ⟨by subst e0; simp⟩
 have HB0 := Aside0.mk hb0
 clear h1 h2 h3 hcc hC hb0 w0c w1c hT
 go_enter Tryz.func38, Tryz.ntmps38
 go_wp2
 clear e0
 go_region_held3 (fun w' => w'.cell? ⟨b, 0, none⟩ = some (.slice A T.length c) ∧ w'.cell? ⟨b, 1, none⟩ = some (ptrV p) ∧ TSt w w')
  (first | (refine (fun (y : TSt w _) => ⟨y.keep W0.out, y.keep W1.out, y⟩) ?_; repeat (first | assumption | (with_reducible apply TSt.drew) | (with_reducible apply TSt.alloc) | (with_reducible refine TSt.set ?_ (Nat.le_refl _)))))
  (first
   | (refine step_app_nil .i32 (fun _ => True) (by rfl) (.const (.slice none 0 0)) (.tmp 6) 22 21 (.int .i32 0) 4 (by rfl) Tryz.underlying22 info32 (by rfl) (by decide) (by rfl) T A T.length c (by rfl) (Kd.C_below HC.out (Below.refl _ _).drew) (fun _ _ => trivial) (by have := HTL.out; omega) ?_; intro v1 w2 ho hb2a; have hb2 := below_step (Below.refl w0.heap.size w0).drew hb2a; clear hb2a; have ts2 := T0.below hb2; obtain ⟨A2, c2, rfl⟩ := Kd.R_slice ho)
   | (go_at_call 72; refine (TA.out _ hb2).mono ?_; rintro e w3 ⟨v, rfl, hR3, hb3⟩; have ts3 := ts2.below hb3; have hX3 := blk_below (blk_below HX.out hb2) hb3; have x0 : w3.cell? ⟨w.heap.size, 0, none⟩ = some (.slice none 0 0) := (blk_cell hX3 0).trans rfl; have x1 : w3.cell? ⟨w.heap.size, 1, none⟩ = some (.slice none 0 0) := (blk_cell hX3 1).trans rfl; have f0 := blk_frozen hX3 0; have f1 := blk_frozen hX3 1; obtain ⟨A3, c3, rfl⟩ := Kd.R_slice hR3))
 all_goals
  have BX : Aside0 _ := ⟨blk_put (blk_put hX3 0 (.slice A2 T.length c2) rfl) 1 (.slice A3 ys.length c3) rfl⟩
  have hs3 := Nat.le_trans hb2.size hb3.size
  have HI : Aside0 (Kd.R (Kd.int .i32) 21 ((w3.setCell ⟨w.heap.size, 0, none⟩ (.slice A2 T.length c2)).setCell ⟨w.heap.size, 1, none⟩ (.slice A3 ys.length c3)) w.heap.size (fun _ => True) (.slice A2 T.length c2) T) := ⟨R_boxk (R_boxk (Kd.R_below ho hb3) hXlt.out (Nat.le_refl _) 0 _) hXlt.out HB0.out.size 1 _⟩
  have HJ : Aside0 (Kd.R QBase.k86 86 ((w3.setCell ⟨w.heap.size, 0, none⟩ (.slice A2 T.length c2)).setCell ⟨w.heap.size, 1, none⟩ (.slice A3 ys.length c3)) w.heap.size (fun _ => True) (.slice A3 ys.length c3) ys) := ⟨R_boxk (R_boxk hR3 (Nat.lt_of_lt_of_le hXlt.out hb2.size) (Nat.le_refl _) 0 _) (Nat.lt_of_lt_of_le hXlt.out hb2.size) (Nat.le_trans HB0.out.size hb2.size) 1 _⟩
  have HB3 : Aside0 (Below w.heap.size w ((w3.setCell ⟨w.heap.size, 0, none⟩ (.slice A2 T.length c2)).setCell ⟨w.heap.size, 1, none⟩ (.slice A3 ys.length c3))) := ⟨((ts3.set (p := ⟨w.heap.size, 0, none⟩) (Nat.le_refl _)).set (p := ⟨w.heap.size, 1, none⟩) (Nat.le_refl _)).bel⟩
  clear ho hR3 hb2 hb3 ts2 ts3 x0 x1 f0 f1 hX3
  go_wp2
  refine bodyPost_ret (results_single rfl (.cell w.heap.size 33 _ (0, 0) _ rfl BX.out Tryz.underlying33 rfl (by kernel_rfl) .nil)) rfl ?_
  exact ⟨_, _, rfl, HI.out, HJ.out, HB3.out⟩
end Go.Proofs.YtnomidpnofhjdaaGreatDoor
