/- joined, walked: two trees of at most 40000000000 nodes each. -/
import Derived.Test.YtciabhncmdpeeaaDoorTr13
namespace Go.Proofs.YtciabhncmdpeeaaDoor
open Go.RowKit Go.Proofs.YtciabhncmdpeeaaDoorW.PrintWords Go.Proofs.YtciabhncmdpeeaaDoorW.PrintLast Go.Proofs.YtciabhncmdpeeaaDoorW.PrintMore
theorem joined_cnt (n : Nat) : ∀ (a : Tree) (v : Pc) (b : Tree), TP.cnt a + TP.cnt b ≤ n → TP.cnt (TP.joined a v b) = TP.cnt a + TP.cnt b + 1 := by
 induction n with
 | zero =>
  intro a v b h
  cases a with
  | node l x r => simp only [TP.cnt] at h; omega
  | nil =>
   cases b with
   | node l x r => simp only [TP.cnt] at h; omega
   | nil => unfold TP.joined; rw [if_neg (by simp [TP.hgt]), if_neg (by simp [TP.hgt])]; rfl
 | succ n ih =>
  intro a v b h
  unfold TP.joined
  by_cases c1 : TP.hgt b + 1 < TP.hgt a
  ·rw [if_pos c1]
   cases a with
   | nil => simp [TP.hgt] at c1
   | node l x r =>
    simp only [TP.cnt] at h ⊢
    rw [repaired_cnt, ih r v b (by omega)]; omega
  rw [if_neg c1]
  by_cases c2 : TP.hgt a + 1 < TP.hgt b
  ·rw [if_pos c2]
   cases b with
   | nil => simp [TP.hgt] at c2
   | node l x r =>
    simp only [TP.cnt] at h ⊢
    rw [repaired_cnt, ih a v l (by omega)]; omega
  ·rw [if_neg c2]; rfl
theorem TreePost.sub {w : World} {S S2 : List Nat} {t : Tree} {e : Ending} {w' : World} (h : TreePost w S t e w') (hs : ∀ k ∈ S, k ∈ S2) : TreePost w S2 t e w' := by
 obtain ⟨p, S', h1, h2, h3, h4, h5⟩ := h
 exact ⟨p, S', h1, h2.mono hs, h3, h4, fun k hk => (h5 k hk).imp (hs k) id⟩
set_option maxHeartbeats 16000000 in
set_option maxRecDepth 100000 in
theorem joined_step (v : Pc) (n : Nat) (ih : ∀ (w : World) (a b : Tree) (pa pb : Option Nat) (Sa Sb : List Nat), TP.cnt a + TP.cnt b < n → Rep w a pa Sa → Rep w b pb Sb → (Sa ++ Sb).Nodup →
   Calls Tryd.prog 108 #[ptrV pa, pcV v, ptrV pb] w (TreePost w (Sa ++ Sb) (TP.joined a v b)))
  (w : World) (a b : Tree) (pa pb : Option Nat) (Sa Sb : List Nat) (hn : TP.cnt a + TP.cnt b ≤ n) (hm : n ≤ 80000000000) (ha : Rep w a pa Sa) (hb : Rep w b pb Sb) (nd : (Sa ++ Sb).Nodup) :
  Calls Tryd.prog 108 #[ptrV pa, pcV v, ptrV pb] w (TreePost w (Sa ++ Sb) (TP.joined a v b)) := by
 obtain ⟨w0, e0⟩ : ∃ y, w.alloc (.cells #[.int .i64 v.off, .int .i64 v.len, .int .i64 v.brk] 50) = y := ⟨_, rfl⟩
 have HB0 : Below w.heap.size w w0 := by subst e0; exact (Below.refl _ w).alloc (Nat.le_refl _) _
 have hu0 : UpdS [] w w0 := UpdS.of_below HB0
 have HA := Lib.hid (ha.upd hu0 (by simp))
 have HBb := Lib.hid (hb.upd hu0 (by simp))
 have hbx : w0.heap[w.heap.size]? = some (.cells #[.int .i64 v.off, .int .i64 v.len, .int .i64 v.brk] 50 (0, 0)) := by subst e0; exact Go.Proofs.YtciabhncmdpeeaaDoorW.PrintWords.blk_new w (.cells #[.int .i64 v.off, .int .i64 v.len, .int .i64 v.brk] 50)
 have q2 : w0.cell? ⟨w.heap.size, 0, none⟩ = some (.int .i64 v.off) := (Go.Proofs.YtciabhncmdpeeaaDoorW.PrintWords.blk_cell hbx 0).trans rfl
 have q3 : w0.cell? ⟨w.heap.size, 1, none⟩ = some (.int .i64 v.len) := (Go.Proofs.YtciabhncmdpeeaaDoorW.PrintWords.blk_cell hbx 1).trans rfl
 have q4 : w0.cell? ⟨w.heap.size, 2, none⟩ = some (.int .i64 v.brk) := (Go.Proofs.YtciabhncmdpeeaaDoorW.PrintWords.blk_cell hbx 2).trans rfl
 have ND := Lib.hid nd
 have HN := Lib.hid (And.intro hn hm)
 have HU0 := Lib.hid hu0
 have hha := TP.hgt_le a
 have hhb := TP.hgt_le b
 have IH := Lib.hid ih
 clear ha hb hu0 hbx nd HB0 ih
 by_cases c1 : TP.hgt b + 1 < TP.hgt a
 ·have ct : ((TP.hgt b : Int) + 1 < (TP.hgt a : Int)) = True := eq_true (by omega)
  have C1 := Lib.hid c1
  have cw : wrap64 ((TP.hgt b : Int) + 1) = (TP.hgt b : Int) + 1 := by unfold wrap64; omega
  cases a with
  | nil => simp [TP.hgt] at c1
  | node l x r =>
   obtain ⟨bb, pl, pr, Sl, Sr, rfl, rfl, hbn, hl, hr⟩ := HA.out
   have q0 : w0.cell? ⟨bb, 0, none⟩ = some (ptrV pl) := (Go.Proofs.YtciabhncmdpeeaaDoorW.PrintWords.blk_cell hbn 0).trans rfl
   have q1 : w0.cell? ⟨bb, 1, none⟩ = some (ptrV pr) := (Go.Proofs.YtciabhncmdpeeaaDoorW.PrintWords.blk_cell hbn 1).trans rfl
   have Hb0 := Lib.hid hbn
   have HL0 := Lib.hid hl
   have HR0 := Lib.hid hr
   have hblt := Lib.hid hbn.lt
   have NDD : Hid (bb :: (Sl ++ (Sr ++ Sb))).Nodup := Lib.hid (by have := ND.out; simpa [List.append_assoc] using this)
   have nd1 := List.nodup_cons.1 NDD.out
   have N1 : Hid (Sr ++ Sb).Nodup := (List.nodup_append.1 nd1.2).2.1
   have N2 : Hid (TP.cnt r + TP.cnt b < n) := Lib.hid (by simp only [TP.cnt] at hn; omega)
   clear hbn hl hr nd1 c1 hn hm hha hhb
   rw [show ptrV (some bb) = Value.pointer (some ⟨bb, 0, none⟩) from rfl]
   go_enter Tryd.func108, Tryd.ntmps108
   go_wp2_with fail
   refine (height_rep w0 (.node l x r) (some bb) _ HA.out (by have := HN.out; omega)).mono ?_
   rintro e w' ⟨rfl, hw⟩
   rw [hw]
   clear hw w'
   go_wp2_with fail
   refine (height_rep w0 b pb _ HBb.out (by have := HN.out; omega)).mono ?_
   rintro e w' ⟨rfl, hw⟩
   rw [hw]
   clear hw w'
   go_wp2_with fail
   have HRd := Lib.hid (HR0.out.move (w' := w0.drew) (fun _ _ => rfl))
   have HBd := Lib.hid (HBb.out.move (w' := w0.drew) (fun _ _ => rfl))
   go_region_with (go_at_call 108; refine (IH.out _ r b pr pb Sr Sb N2.out HRd.out HBd.out N1.out).mono ?_; rintro e w2 ⟨p', S', rfl, hu, hrep, nd', fr⟩; have L := right_new (Sr := Sr ++ Sb) Hb0.out HL0.out NDD.out (UpdS.mk hu.os hu.tape hu.output hu.size hu.block) hrep nd' fr; have c0 := (Go.Proofs.YtciabhncmdpeeaaDoorW.PrintWords.blk_cell L.1 1); have f0 := Go.Proofs.YtciabhncmdpeeaaDoorW.PrintWords.blk_frozen L.1 1; simp only [nodeCells, List.getElem?_toArray, List.getElem?_cons_zero, List.getElem?_cons_succ] at c0)
   all_goals
    obtain ⟨_, hn3, hrep3, hr3, nd3, hu3, fr3⟩ := L
    go_wp2_with fail
    refine (repaired_any _ bb pl p' _ _ x _ Sl S' hn3 hr3 hrep3 nd3 (by rw [joined_cnt _ r v b (Nat.le_refl _)]; have := HN.out; simp only [TP.cnt] at this; omega)).mono ?_
    intro e w4 hq
    have hq := hq.post ((HU0.out.mono (S1 := bb :: (Sl ++ (Sr ++ Sb))) (by simp)).trans hu3 (Fresh.refl _ _)) ((Fresh.refl _ w).trans fr3 HU0.out.size) nd3
    have hq := TreePost.sub (S2 := bb :: (Sl ++ Sr) ++ Sb) hq (fun k hk => by simpa [List.append_assoc] using hk)
    obtain ⟨p4, S4, rfl, hu4, hrep4, nd4, fr4⟩ := hq
    go_wp2_with fail
    go_ret
    exact ⟨p4, S4, rfl, hu4, by unfold TP.joined; rw [if_pos C1.out]; exact hrep4, nd4, fr4⟩
 ·have ct : ((TP.hgt b : Int) + 1 < (TP.hgt a : Int)) = False := eq_false (by omega)
  have C1 := Lib.hid c1
  have cw : wrap64 ((TP.hgt b : Int) + 1) = (TP.hgt b : Int) + 1 := by unfold wrap64; omega
  have cw2 : wrap64 ((TP.hgt a : Int) + 1) = (TP.hgt a : Int) + 1 := by unfold wrap64; omega
  by_cases c2 : TP.hgt a + 1 < TP.hgt b
  ·have ct2 : ((TP.hgt a : Int) + 1 < (TP.hgt b : Int)) = True := eq_true (by omega)
   have C2 := Lib.hid c2
   cases b with
   | nil => simp [TP.hgt] at c2
   | node l x r =>
    obtain ⟨bb, pl, pr, Sl, Sr, rfl, rfl, hbn, hl, hr⟩ := HBb.out
    have q0 : w0.cell? ⟨bb, 0, none⟩ = some (ptrV pl) := (Go.Proofs.YtciabhncmdpeeaaDoorW.PrintWords.blk_cell hbn 0).trans rfl
    have q1 : w0.cell? ⟨bb, 1, none⟩ = some (ptrV pr) := (Go.Proofs.YtciabhncmdpeeaaDoorW.PrintWords.blk_cell hbn 1).trans rfl
    have Hb0 := Lib.hid hbn
    have HL0 := Lib.hid hl
    have HR0 := Lib.hid hr
    have hblt := Lib.hid hbn.lt
    have NDD : Hid (bb :: ((Sa ++ Sl) ++ Sr)).Nodup := Lib.hid (by have := List.perm_middle.nodup_iff.1 ND.out; simpa [List.append_assoc] using this)
    have nd1 := List.nodup_cons.1 NDD.out
    have N1 : Hid (Sa ++ Sl).Nodup := (List.nodup_append.1 nd1.2).1
    have N2 : Hid (TP.cnt a + TP.cnt l < n) := Lib.hid (by simp only [TP.cnt] at hn; omega)
    clear hbn hl hr nd1 c1 c2 hn hm hha hhb
    rw [show ptrV (some bb) = Value.pointer (some ⟨bb, 0, none⟩) from rfl]
    go_enter Tryd.func108, Tryd.ntmps108
    go_wp2_with fail
    refine (height_rep w0 a pa _ HA.out (by have := HN.out; omega)).mono ?_
    rintro e w' ⟨rfl, hw⟩
    rw [hw]
    clear hw w'
    go_wp2_with fail
    refine (height_rep w0 (.node l x r) (some bb) _ HBb.out (by have := HN.out; omega)).mono ?_
    rintro e w' ⟨rfl, hw⟩
    rw [hw]
    clear hw w'
    go_wp2_with fail
    refine (height_rep w0 (.node l x r) (some bb) _ HBb.out (by have := HN.out; omega)).mono ?_
    rintro e w' ⟨rfl, hw⟩
    rw [hw]
    clear hw w'
    go_wp2_with fail
    refine (height_rep w0 a pa _ HA.out (by have := HN.out; omega)).mono ?_
    rintro e w' ⟨rfl, hw⟩
    rw [hw]
    clear hw w'
    go_wp2_with fail
    have HAd := Lib.hid (HA.out.move (w' := w0.drew) (fun _ _ => rfl))
    have HLd := Lib.hid (HL0.out.move (w' := w0.drew) (fun _ _ => rfl))
    go_region_with (go_at_call 108; refine (IH.out _ a l pa pl Sa Sl N2.out HAd.out HLd.out N1.out).mono ?_; rintro e w2 ⟨p', S', rfl, hu, hrep, nd', fr⟩; have L := left_new (Sl := Sa ++ Sl) Hb0.out HR0.out NDD.out (UpdS.mk hu.os hu.tape hu.output hu.size hu.block) hrep nd' fr; have c0 := (Go.Proofs.YtciabhncmdpeeaaDoorW.PrintWords.blk_cell L.1 0); have f0 := Go.Proofs.YtciabhncmdpeeaaDoorW.PrintWords.blk_frozen L.1 0; simp only [nodeCells, List.getElem?_toArray, List.getElem?_cons_zero] at c0)
    all_goals
     obtain ⟨_, hn3, hrep3, hr3, nd3, hu3, fr3⟩ := L
     go_wp2_with fail
     refine (repaired_any _ bb p' pr _ _ x _ S' Sr hn3 hrep3 hr3 nd3 (by rw [joined_cnt _ a v l (Nat.le_refl _)]; have := HN.out; simp only [TP.cnt] at this; omega)).mono ?_
     intro e w4 hq
     have hq := hq.post ((HU0.out.mono (S1 := bb :: ((Sa ++ Sl) ++ Sr)) (by simp)).trans hu3 (Fresh.refl _ _)) ((Fresh.refl _ w).trans fr3 HU0.out.size) nd3
     have hq := TreePost.sub (S2 := Sa ++ (bb :: (Sl ++ Sr))) hq (fun k hk => by simp only [List.mem_cons, List.mem_append] at hk ⊢; rcases hk with h | (h | h) | h <;> simp [h])
     obtain ⟨p4, S4, rfl, hu4, hrep4, nd4, fr4⟩ := hq
     go_wp2_with fail
     go_ret
     exact ⟨p4, S4, rfl, hu4, by unfold TP.joined; rw [if_neg C1.out, if_pos C2.out]; exact hrep4, nd4, fr4⟩
  ·have ct2 : ((TP.hgt a : Int) + 1 < (TP.hgt b : Int)) = False := eq_false (by omega)
   have C2 := Lib.hid c2
   clear c1 c2 hn hm hha hhb
   go_enter Tryd.func108, Tryd.ntmps108
   go_wp2_with fail
   refine (height_rep w0 a pa _ HA.out (by have := HN.out; omega)).mono ?_
   rintro e w' ⟨rfl, hw⟩
   rw [hw]
   clear hw w'
   go_wp2_with fail
   refine (height_rep w0 b pb _ HBb.out (by have := HN.out; omega)).mono ?_
   rintro e w' ⟨rfl, hw⟩
   rw [hw]
   clear hw w'
   go_wp2_with fail
   refine (height_rep w0 b pb _ HBb.out (by have := HN.out; omega)).mono ?_
   rintro e w' ⟨rfl, hw⟩
   rw [hw]
   clear hw w'
   go_wp2_with fail
   refine (height_rep w0 a pa _ HA.out (by have := HN.out; omega)).mono ?_
   rintro e w' ⟨rfl, hw⟩
   rw [hw]
   clear hw w'
   go_wp2_with fail
   refine (join3_any w0 pa pb a b v Sa Sb HA.out HBb.out ND.out).mono ?_
   rintro e w2 ⟨k, rfl, hk, hu, hrep⟩
   go_wp2_with fail
   go_ret
   refine ⟨some k, _, rfl, (HU0.out.mono (S1 := Sa ++ Sb) (by simp)).trans (hu.mono (S1 := Sa ++ Sb) (by simp)) (Fresh.refl _ _), by unfold TP.joined; rw [if_neg C1.out, if_neg C2.out]; exact hrep, List.nodup_cons.2 ⟨fun h => ?_, ND.out⟩, fun j hj => ?_⟩
   ·rcases List.mem_append.1 h with h | h
    ·have := HA.out.lt k h; omega
    ·have := HBb.out.lt k h; omega
   ·rcases List.mem_cons.1 hj with rfl | h
    ·exact .inr (Nat.le_trans HU0.out.size hk)
    ·exact .inl h
theorem joined_any (v : Pc) (n : Nat) : ∀ (w : World) (a b : Tree) (pa pb : Option Nat) (Sa Sb : List Nat), TP.cnt a + TP.cnt b < n → n ≤ 80000000000 → Rep w a pa Sa → Rep w b pb Sb → (Sa ++ Sb).Nodup →
  Calls Tryd.prog 108 #[ptrV pa, pcV v, ptrV pb] w (TreePost w (Sa ++ Sb) (TP.joined a v b)) := by
 induction n with
 | zero => intro w a b pa pb Sa Sb hn; omega
 | succ n ih =>
  intro w a b pa pb Sa Sb hn hm ha hb nd
  exact joined_step v n (fun w a b pa pb Sa Sb h1 h2 h3 h4 => ih w a b pa pb Sa Sb h1 (by omega) h2 h3 h4) w a b pa pb Sa Sb (by omega) (by omega) ha hb nd
end Go.Proofs.YtciabhncmdpeeaaDoor
