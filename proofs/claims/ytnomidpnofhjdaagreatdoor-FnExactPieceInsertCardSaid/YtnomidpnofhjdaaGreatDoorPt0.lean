/- set, walked: a piece is laid into the node of a rank. Conditions: a tree of at most 90000000000 nodes, a rank in it. -/
import Derived.Test.YtnomidpnofhjdaaGreatDoorTr5
namespace Go.Proofs.YtnomidpnofhjdaaGreatDoor
open Go.RowKit Go.Proofs.YtnomidpnofhjdaaGreatDoorW.PrintWords Go.Proofs.YtnomidpnofhjdaaGreatDoorW.PrintMore
def setT (v : Pc) : Tree → Nat → Tree
 | .nil, _ => .nil
 | .node l x r, k => if k < TP.cnt l then .node (setT v l k) x r else if TP.cnt l < k then .node l x (setT v r (k - TP.cnt l - 1)) else .node l v r
theorem setT_cnt (v : Pc) (t : Tree) : ∀ k, TP.cnt (setT v t k) = TP.cnt t := by
 induction t with
 | nil => intro k; rfl
 | node l x r ihl ihr => intro k; simp only [setT]; split; simp only [TP.cnt, ihl]; split; simp only [TP.cnt, ihr]; rfl
theorem setT_flat (v : Pc) (t : Tree) : ∀ (k : Nat) (j : Int), k < TP.cnt t → ∃ y, (TP.flat t j)[k]? = some y ∧ TP.flat (setT v t k) j = (TP.flat t j).take k ++ (v, y.2) :: (TP.flat t j).drop (k + 1) := by
 induction t with
 | nil => intro k j h; simp [TP.cnt] at h
 | node l x r ihl ihr =>
  intro k j h
  simp only [TP.cnt] at h
  have ll := TP.flat_length l (j + 1)
  simp only [setT, TP.flat]
  by_cases c1 : k < TP.cnt l
  ·rw [if_pos c1]
   obtain ⟨y, h1, h2⟩ := ihl k (j + 1) c1
   refine ⟨y, by rw [List.getElem?_append_left (by omega)]; exact h1, ?_⟩
   simp only [TP.flat]
   rw [h2, List.take_append_of_le_length (by omega), List.drop_append_of_le_length (by omega)]
   simp only [List.append_assoc, List.cons_append]
  ·rw [if_neg c1]
   by_cases c2 : TP.cnt l < k
   ·rw [if_pos c2]
    obtain ⟨y, h1, h2⟩ := ihr (k - TP.cnt l - 1) (j + 1) (by omega)
    refine ⟨y, ?_, ?_⟩
    ·rw [List.getElem?_append_right (by omega), ll, show k - TP.cnt l = (k - TP.cnt l - 1) + 1 by omega, List.getElem?_cons_succ]; exact h1
    ·simp only [TP.flat]
     rw [h2, List.take_append, List.take_of_length_le (show (TP.flat l (j + 1)).length ≤ k by omega), List.drop_append, List.drop_eq_nil_of_le (show (TP.flat l (j + 1)).length ≤ k + 1 by omega), ll, show k - TP.cnt l = (k - TP.cnt l - 1) + 1 by omega, show k + 1 - TP.cnt l = (k - TP.cnt l - 1 + 1) + 1 by omega, List.take_succ_cons, List.drop_succ_cons]
     simp only [List.append_assoc, List.cons_append, List.nil_append, Nat.add_sub_cancel]
   ·rw [if_neg c2]
    obtain rfl : k = TP.cnt l := by omega
    refine ⟨(x, j), ?_, ?_⟩
    ·rw [List.getElem?_append_right (by omega), ll, Nat.sub_self]; rfl
    ·simp only [TP.flat]
     rw [List.take_append_of_le_length (by omega), List.take_of_length_le (by omega), List.drop_append, List.drop_eq_nil_of_le (by omega), ll, show TP.cnt l + 1 - TP.cnt l = 0 + 1 by omega, List.drop_succ_cons]
     simp only [List.nil_append, List.drop_zero]
theorem kept_left {w w2 : World} {b : Nat} {pl pr : Option Nat} {r : Tree} {x : Pc} {s : Sm} {Sl Sr : List Nat} (hb : NodeAt w b pl pr x s) (hr : Rep w r pr Sr) (nd : (b :: (Sl ++ Sr)).Nodup) (hu : UpdS Sl w w2) : NodeAt w2 b pl pr x s ∧ Rep w2 r pr Sr := by
 have n1 := List.nodup_cons.1 nd
 have n2 := List.nodup_append.1 n1.2
 refine ⟨?_, hr.upd hu (fun k hk h => n2.2.2 _ h _ hk rfl)⟩
 unfold NodeAt; rw [hu.block b hb.lt (fun h => n1.1 (List.mem_append_left _ h))]; exact hb
theorem kept_right {w w2 : World} {b : Nat} {pl pr : Option Nat} {l : Tree} {x : Pc} {s : Sm} {Sl Sr : List Nat} (hb : NodeAt w b pl pr x s) (hl : Rep w l pl Sl) (nd : (b :: (Sl ++ Sr)).Nodup) (hu : UpdS Sr w w2) : NodeAt w2 b pl pr x s ∧ Rep w2 l pl Sl := by
 have n1 := List.nodup_cons.1 nd
 have n2 := List.nodup_append.1 n1.2
 refine ⟨?_, hl.upd hu (fun k hk h => n2.2.2 _ hk _ h rfl)⟩
 unfold NodeAt; rw [hu.block b hb.lt (fun h => n1.1 (List.mem_append_right _ h))]; exact hb
def SetPost (w : World) (p : Option Nat) (S : List Nat) (t : Tree) (e : Ending) (w' : World) : Prop := e = .returned (.tuple #[]) ∧ UpdS S w w' ∧ Rep w' t p S
set_option maxHeartbeats 4000000 in
set_option maxRecDepth 100000 in
theorem set_any (v : Pc) (t : Tree) : ∀ (w : World) (p : Option Nat) (S : List Nat) (rk : Int) (k : Nat), rk = k → Rep w t p S → S.Nodup → TP.cnt t ≤ 90000000000 → k < TP.cnt t →
  Calls Tryz.prog 69 #[ptrV p, .int .i64 rk, pcV v] w (SetPost w p S (setT v t k)) := by
 induction t with
 | nil => intro w p S rk k hrk hrep nd hc hk; simp [TP.cnt] at hk
 | node l x r ihl ihr =>
  intro w p S rk k hrk hrep nd hc hk
  subst hrk
  obtain ⟨b, pl, pr, Sl, Sr, rfl, rfl, hb, hl, hr⟩ := hrep
  simp only [TP.cnt] at hc hk
  obtain ⟨w0, e0⟩ : ∃ y, w.alloc (.cells #[.int .i64 v.off, .int .i64 v.len, .int .i64 v.brk] 84) = y := ⟨_, rfl⟩
  have HB0 : Below w.heap.size w w0 := by subst e0; exact (Below.refl _ w).alloc (Nat.le_refl _) _
  have hu0 : UpdS [] w w0 := UpdS.of_below HB0
  have hb0 : NodeAt w0 b pl pr x (smW (.node l x r)) := by unfold NodeAt; rw [hu0.block b hb.lt (by simp)]; exact hb
  have hl0 := Lib.hid (hl.upd hu0 (by simp))
  have hr0 := Lib.hid (hr.upd hu0 (by simp))
  have hbx : w0.heap[w.heap.size]? = some (.cells #[.int .i64 v.off, .int .i64 v.len, .int .i64 v.brk] 84 (0, 0)) := by subst e0; exact Go.Proofs.YtnomidpnofhjdaaGreatDoorW.PrintWords.blk_new w (.cells #[.int .i64 v.off, .int .i64 v.len, .int .i64 v.brk] 84)
  have q0 : w0.cell? ⟨b, 0, none⟩ = some (ptrV pl) := (Go.Proofs.YtnomidpnofhjdaaGreatDoorW.PrintWords.blk_cell hb0 0).trans rfl
  have q1 : w0.cell? ⟨b, 1, none⟩ = some (ptrV pr) := (Go.Proofs.YtnomidpnofhjdaaGreatDoorW.PrintWords.blk_cell hb0 1).trans rfl
  have q2 : w0.cell? ⟨w.heap.size, 0, none⟩ = some (.int .i64 v.off) := (Go.Proofs.YtnomidpnofhjdaaGreatDoorW.PrintWords.blk_cell hbx 0).trans rfl
  have q3 : w0.cell? ⟨w.heap.size, 1, none⟩ = some (.int .i64 v.len) := (Go.Proofs.YtnomidpnofhjdaaGreatDoorW.PrintWords.blk_cell hbx 1).trans rfl
  have q4 : w0.cell? ⟨w.heap.size, 2, none⟩ = some (.int .i64 v.brk) := (Go.Proofs.YtnomidpnofhjdaaGreatDoorW.PrintWords.blk_cell hbx 2).trans rfl
  have Hb0 := Lib.hid hb0
  have ND := Lib.hid nd
  have HU0 := Lib.hid hu0
  have N1l : Hid Sl.Nodup := (List.nodup_append.1 (List.nodup_cons.1 nd).2).1
  have N1r : Hid Sr.Nodup := (List.nodup_append.1 (List.nodup_cons.1 nd).2).2.1
  have N2l : Hid (TP.cnt l ≤ 90000000000) := (by omega : TP.cnt l ≤ 90000000000)
  have N2r : Hid (TP.cnt r ≤ 90000000000) := (by omega : TP.cnt r ≤ 90000000000)
  clear hb hl hr hu0 hb0 nd HB0
  simp only [ptrV, adr]
  have fin : ∀ (l' r' : Tree) (y : Pc) (w2 : World) (s : Sm), UpdS (b :: (Sl ++ Sr)) w0 w2 → NodeAt w2 b pl pr y s → Rep w2 l' pl Sl → Rep w2 r' pr Sr →
    Calls Tryz.prog 99 #[.pointer (some ⟨b, 0, none⟩)] w2 fun e w3 => e = .returned (.pointer (some ⟨b, 0, none⟩)) ∧ UpdS (b :: (Sl ++ Sr)) w w3 ∧ Rep w3 (.node l' y r') (some b) (b :: (Sl ++ Sr)) := fun l' r' y w2 s hu hn h1 h2 => by
   refine (sum_node w2 b pl pr l' r' y s Sl Sr hn h1 h2 ND.out).mono ?_
   rintro e w3 ⟨he, hu3, hrep3⟩
   exact ⟨he, ((HU0.out.mono (S1 := b :: (Sl ++ Sr)) (by simp)).trans hu (Fresh.refl _ _)).trans (hu3.mono (S1 := b :: (Sl ++ Sr)) (by simp)) (Fresh.refl _ _), hrep3⟩
  have FIN := Lib.hid fin
  clear fin
  by_cases c : k < TP.cnt l
  ·have ct : ((k : Int) < (TP.cnt l : Int)) = True := eq_true (by omega)
   have cd : decide ((k : Int) < (TP.cnt l : Int)) = true := decide_eq_true (by omega)
   have N3 : Hid (k < TP.cnt l) := c
   have HC2 : Hid (TP.cnt l ≤ 1000000000000) := (by omega : TP.cnt l ≤ 1000000000000)
   clear hc hk
   go_enter Tryz.func69, Tryz.ntmps69
   go_wp2_with fail
   refine (count_rep w0 l pl Sl hl0.out HC2.out).mono ?_
   rintro e w' ⟨rfl, hw⟩
   rw [hw]
   clear hw w'
   go_wp2_with fail
   have HLd := Lib.hid (hl0.out.move (w' := w0.drew) (fun _ _ => rfl))
   go_region_with (go_at_call 69; refine (ihl _ pl Sl _ k rfl HLd.out N1l.out N2l.out N3.out).mono ?_; rintro e w2 ⟨rfl, hu, hrep⟩; have K2 := kept_left Hb0.out hr0.out ND.out (UpdS.mk hu.os hu.tape hu.output hu.size hu.block); have U2 : UpdS (b :: (Sl ++ Sr)) w0 w2 := (UpdS.mk hu.os hu.tape hu.output hu.size hu.block : UpdS Sl w0 w2).mono (fun k hk => by simp [hk]); have F2 := FIN.out (setT v l k) r x w2 _ U2 K2.1 hrep K2.2)
   all_goals
    go_wp2_with fail
    refine F2.mono ?_
    rintro e w3 ⟨rfl, hu3, hrep3⟩
    go_wp2_with fail
    go_end0
    exact ⟨rfl, hu3, by simp only [setT]; rw [if_pos c]; exact hrep3⟩
  ·have ct : ((k : Int) < (TP.cnt l : Int)) = False := eq_false (by omega)
   have cd : decide ((k : Int) < (TP.cnt l : Int)) = false := decide_eq_false (by omega)
   have HC2 : Hid (TP.cnt l ≤ 1000000000000) := (by omega : TP.cnt l ≤ 1000000000000)
   by_cases c2 : TP.cnt l < k
   ·have ct2 : ((TP.cnt l : Int) < (k : Int)) = True := eq_true (by omega)
    have cd2 : decide ((TP.cnt l : Int) < (k : Int)) = true := decide_eq_true (by omega)
    have RKEQ : Hid (IntKind.i64.wrap (IntKind.i64.wrap ((k : Int) - (TP.cnt l : Int)) - 1) = ((k - TP.cnt l - 1 : Nat) : Int)) := Lib.hid (by
     rw [IntKind.wrap_i64, IntKind.wrap_i64]; omega)
    have N3 : Hid (k - TP.cnt l - 1 < TP.cnt r) := (by omega : k - TP.cnt l - 1 < TP.cnt r)
    have NC : Hid (¬ k < TP.cnt l) := c
    have NC2 : Hid (TP.cnt l < k) := c2
    clear hc hk c c2
    go_enter Tryz.func69, Tryz.ntmps69
    go_wp2_with fail
    refine (count_rep w0 l pl Sl hl0.out HC2.out).mono ?_
    rintro e w' ⟨rfl, hw⟩
    rw [hw]
    clear hw w'
    go_wp2_with fail
    have HRd := Lib.hid (hr0.out.move (w' := w0.drew) (fun _ _ => rfl))
    go_region_with (go_at_call 69; refine (ihr _ pr Sr _ (k - TP.cnt l - 1) (RKEQ.out) HRd.out N1r.out N2r.out N3.out).mono ?_; rintro e w2 ⟨rfl, hu, hrep⟩; have K2 := kept_right Hb0.out hl0.out ND.out (UpdS.mk hu.os hu.tape hu.output hu.size hu.block); have U2 : UpdS (b :: (Sl ++ Sr)) w0 w2 := (UpdS.mk hu.os hu.tape hu.output hu.size hu.block : UpdS Sr w0 w2).mono (fun k hk => by simp [hk]); have F2 := FIN.out l (setT v r (k - TP.cnt l - 1)) x w2 _ U2 K2.1 K2.2 hrep)
    all_goals
     go_wp2_with fail
     refine F2.mono ?_
     rintro e w3 ⟨rfl, hu3, hrep3⟩
     go_wp2_with fail
     go_end0
     exact ⟨rfl, hu3, by simp only [setT]; rw [if_neg NC.out, if_pos NC2.out]; exact hrep3⟩
   ·have ct2 : ((TP.cnt l : Int) < (k : Int)) = False := eq_false (by omega)
    have cd2 : decide ((TP.cnt l : Int) < (k : Int)) = false := decide_eq_false (by omega)
    have NC : Hid (¬ k < TP.cnt l) := c
    have NC2 : Hid (¬ TP.cnt l < k) := c2
    clear hc hk c c2
    have f2 := Go.Proofs.YtnomidpnofhjdaaGreatDoorW.PrintWords.blk_frozen Hb0.out 2
    have f3 := Go.Proofs.YtnomidpnofhjdaaGreatDoorW.PrintWords.blk_frozen Hb0.out 3
    have f4 := Go.Proofs.YtnomidpnofhjdaaGreatDoorW.PrintWords.blk_frozen Hb0.out 4
    have n2 : w0.cell? ⟨b, 2, none⟩ = some (.int .i64 x.off) := (Go.Proofs.YtnomidpnofhjdaaGreatDoorW.PrintWords.blk_cell Hb0.out 2).trans rfl
    have n3 : w0.cell? ⟨b, 3, none⟩ = some (.int .i64 x.len) := (Go.Proofs.YtnomidpnofhjdaaGreatDoorW.PrintWords.blk_cell Hb0.out 3).trans rfl
    have n4 : w0.cell? ⟨b, 4, none⟩ = some (.int .i64 x.brk) := (Go.Proofs.YtnomidpnofhjdaaGreatDoorW.PrintWords.blk_cell Hb0.out 4).trans rfl
    go_enter Tryz.func69, Tryz.ntmps69
    go_wp2_with fail
    refine (count_rep w0 l pl Sl hl0.out HC2.out).mono ?_
    rintro e w' ⟨rfl, hw⟩
    rw [hw]
    clear hw w'
    go_wp2_with fail
    obtain ⟨w2, e2⟩ : ∃ y, ((w0.setCell ⟨b, 2, none⟩ (.int .i64 v.off)).setCell ⟨b, 3, none⟩ (.int .i64 v.len)).setCell ⟨b, 4, none⟩ (.int .i64 v.brk) = y := ⟨_, rfl⟩
    have U1 : UpdS [b] w0 w2 := by subst e2; exact ((((Upd.refl b w0).set _).set _).set _).upds
    have nd1 := List.nodup_cons.1 ND.out
    have hb2 : NodeAt w2 b pl pr v (smW (.node l x r)) := by subst e2; exact blk_put (blk_put (blk_put Hb0.out 2 _ rfl) 3 _ rfl) 4 _ rfl
    have hl2 := hl0.out.upd U1 (fun k hk h => by simp only [List.mem_singleton] at h; subst h; exact nd1.1 (List.mem_append_left _ hk))
    have hr2 := hr0.out.upd U1 (fun k hk h => by simp only [List.mem_singleton] at h; subst h; exact nd1.1 (List.mem_append_right _ hk))
    have F2 := FIN.out l r v w2 _ (U1.mono (fun k hk => by simp only [List.mem_singleton] at hk; simp [hk])) hb2 hl2 hr2
    rw [e2]
    refine F2.mono ?_
    rintro e w3 ⟨rfl, hu3, hrep3⟩
    go_wp2_with fail
    go_end0
    exact ⟨rfl, hu3, by simp only [setT]; rw [if_neg NC.out, if_neg NC2.out]; exact hrep3⟩
end Go.Proofs.YtnomidpnofhjdaaGreatDoor
