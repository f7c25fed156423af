/- The piece at a rank of a tree (get), walked. Condition: the rank lies in the tree. -/
import Derived.Test.YtnomidpnofhjdaaGreatDoorPs1
namespace Go.Proofs.YtnomidpnofhjdaaGreatDoor
open Go.RowKit Go.Proofs.YtnomidpnofhjdaaGreatDoorW.PrintWords Go.Proofs.YtnomidpnofhjdaaGreatDoorW.PrintLast Go.Proofs.YtnomidpnofhjdaaGreatDoorW.PrintMore Er
structure GetAt (w0 : World) (x : Pc) (k : Nat) (p r : Value) (wr : World) : Prop where
 st : ∃ (t : Tree) (q : Option Nat) (S : List Nat) (j : Nat), p = ptrV q ∧ r = .int .i64 j ∧ Rep wr t q S ∧ (TP.toL t)[j]? = some x ∧ TP.cnt t ≤ 1000000 ∧ TP.cnt t ≤ k
 eq : wr = w0
set_option maxHeartbeats 4000000 in
set_option maxRecDepth 100000 in
theorem get_any (w : World) (t : Tree) (p : Option Nat) (S : List Nat) (j : Nat) (x : Pc) (hrep : Rep w t p S) (hj : (TP.toL t)[j]? = some x) (hc : TP.cnt t ≤ 1000000) :
  Calls Tryz.prog 68 #[ptrV p, .int .i64 j] w fun e w' => e = .returned (.agg #[.int .i64 x.off, .int .i64 x.len, .int .i64 x.brk]) ∧ Below w.heap.size w w' := by
 obtain ⟨w0, e0⟩ : ∃ y, w.alloc (.cells #[.int .i64 0, .int .i64 0, .int .i64 0] 84) = y := ⟨_, rfl⟩
 have HB0 : Aside0 (Below w.heap.size w w0) := ⟨by subst e0; exact (Below.refl _ w).alloc (Nat.le_refl _) _⟩
 have HX : Aside0 (w0.heap[w.heap.size]? = some (.cells #[.int .i64 0, .int .i64 0, .int .i64 0] 84 (0, 0))) := ⟨by subst e0; exact blk_new w (.cells #[.int .i64 0, .int .i64 0, .int .i64 0] 84)⟩
 have A : GetAt w0 x (TP.cnt t) (ptrV p) (.int .i64 j) w0 := ⟨⟨t, p, S, j, rfl, rfl, hrep.below HB0.out, hj, hc, Nat.le_refl _⟩, rfl⟩
 have HA := Lib.hid A
 clear A hrep hj hc
 go_enter Tryz.func68, Tryz.ntmps68
 go_wp2
 go_loopg [0, 1] (TP.cnt t) (fun k p r wr => GetAt w0 x k p r wr)
 case atStart => exact HA.out
 case round =>
  clear HA
  obtain ⟨⟨t, q, S, j, rfl, rfl, hrep, hj, hc, hk⟩, rfl⟩ := hrel
  cases t with
  | nil => simp [TP.toL] at hj
  | node l v r =>
   obtain ⟨b, pl, pr, Sl, Sr, rfl, rfl, hb, hl, hr⟩ := hrep
   simp only [TP.cnt] at hc hk
   have q0 : wr.cell? ⟨b, 0, none⟩ = some (ptrV pl) := (Go.Proofs.YtnomidpnofhjdaaGreatDoorW.PrintWords.blk_cell hb 0).trans rfl
   have q1 : wr.cell? ⟨b, 1, none⟩ = some (ptrV pr) := (Go.Proofs.YtnomidpnofhjdaaGreatDoorW.PrintWords.blk_cell hb 1).trans rfl
   have q2 : wr.cell? ⟨b, 2, none⟩ = some (.int .i64 v.off) := (Go.Proofs.YtnomidpnofhjdaaGreatDoorW.PrintWords.blk_cell hb 2).trans rfl
   have q3 : wr.cell? ⟨b, 3, none⟩ = some (.int .i64 v.len) := (Go.Proofs.YtnomidpnofhjdaaGreatDoorW.PrintWords.blk_cell hb 3).trans rfl
   have q4 : wr.cell? ⟨b, 4, none⟩ = some (.int .i64 v.brk) := (Go.Proofs.YtnomidpnofhjdaaGreatDoorW.PrintWords.blk_cell hb 4).trans rfl
   have ll := TP.toL_length l
   have HLr := Lib.hid hl
   have HRr := Lib.hid hr
   simp only [TP.toL] at hj
   have HJ := Aside0.mk hj
   have HL := Aside0.mk ll
   clear hl hr hj ll hb
   rw [show ptrV (some b) = Value.pointer (some ⟨b, 0, none⟩) from rfl]
   have a0 : wr.cell? ⟨w.heap.size, 0, none⟩ = some (.int .i64 0) := (blk_cell HX.out 0).trans rfl
   have a1 : wr.cell? ⟨w.heap.size, 1, none⟩ = some (.int .i64 0) := (blk_cell HX.out 1).trans rfl
   have a2 : wr.cell? ⟨w.heap.size, 2, none⟩ = some (.int .i64 0) := (blk_cell HX.out 2).trans rfl
   have f0 := blk_frozen HX.out 0
   have f1 := blk_frozen HX.out 1
   have f2 := blk_frozen HX.out 2
   go_wp2_with fail
   refine (count_rep wr l pl Sl HLr.out (by omega)).mono ?_
   rintro e w' ⟨rfl, hw⟩
   rw [hw]
   clear hw w'
   by_cases c1 : j = TP.cnt l
   ·subst c1
    go_wp2
    have e1 := HJ.out
    rw [List.getElem?_append_right (by rw [HL.out]; omega), HL.out, Nat.sub_self] at e1
    simp only [List.getElem?_cons_zero, Option.some.injEq] at e1
    subst e1
    have BX := Aside0.mk (blk_put (blk_put (blk_put HX.out 0 (.int .i64 v.off) rfl) 1 (.int .i64 v.len) rfl) 2 (.int .i64 v.brk) rfl)
    refine bodyPost_ret (v := .agg #[.int .i64 v.off, .int .i64 v.len, .int .i64 v.brk]) (results_single rfl (.cell w.heap.size 84 _ (0, 0) _ rfl BX.out Tryz.underlying84 rfl (by kernel_rfl) .nil)) rfl ⟨rfl, ?_⟩
    exact ((HB0.out.setCell (p := ⟨w.heap.size, 0, none⟩) (Nat.le_refl _) _).setCell (p := ⟨w.heap.size, 1, none⟩) (Nat.le_refl _) _).setCell (p := ⟨w.heap.size, 2, none⟩) (Nat.le_refl _) _
   ·by_cases c2 : j < TP.cnt l
    ·have d1 : decide ((j : Int) = (TP.cnt l : Int)) = false := decide_eq_false (by omega)
     have d2 : decide ((j : Int) < (TP.cnt l : Int)) = true := decide_eq_true (by omega)
     have C2 := Aside0.mk c2
     go_wp2
     go_roundg (TP.cnt l)
     case measure => omega
     case rel => exact ⟨⟨l, pl, Sl, j, rfl, rfl, HLr.out, by have := HJ.out; rwa [List.getElem?_append_left (by rw [HL.out]; exact C2.out)] at this, by omega, Nat.le_refl _⟩, rfl⟩
    ·have d1 : decide ((j : Int) = (TP.cnt l : Int)) = false := decide_eq_false (by omega)
     have d2 : decide ((j : Int) < (TP.cnt l : Int)) = false := decide_eq_false (by omega)
     have C2 := Aside0.mk (show TP.cnt l < j by omega)
     go_wp2
     go_roundg (TP.cnt r)
     case measure => omega
     case rel =>
      refine ⟨⟨r, pr, Sr, j - TP.cnt l - 1, rfl, ?_, HRr.out, ?_, by omega, Nat.le_refl _⟩, rfl⟩
      ·have hjl := (List.getElem?_eq_some_iff.1 HJ.out).1
       have lr := TP.toL_length r
       rw [List.length_append, List.length_cons, HL.out, lr] at hjl
       rw [show wrap64 ((j : Int) - ((TP.cnt l : Nat) + 1)) = ((j - TP.cnt l - 1 : Nat) : Int) by unfold wrap64; have := C2.out; omega]
      ·have := HJ.out
       rw [List.getElem?_append_right (by rw [HL.out]; have := C2.out; omega), HL.out, show j - TP.cnt l = (j - TP.cnt l - 1) + 1 by have := C2.out; omega, List.getElem?_cons_succ] at this
       exact this
end Go.Proofs.YtnomidpnofhjdaaGreatDoor
