/- remove, walked: a tree of at most 90000000000 nodes, a rank in it. -/
import Derived.Test.YtciabhncmdpeeaaDoorTr12
namespace Go.Proofs.YtciabhncmdpeeaaDoor
open Go.RowKit Go.Proofs.YtciabhncmdpeeaaDoorW.PrintWords Go.Proofs.YtciabhncmdpeeaaDoorW.PrintLast Go.Proofs.YtciabhncmdpeeaaDoorW.PrintMore
theorem removeIn_cnt (t : Tree) : ∀ k, k < TP.cnt t → TP.cnt (TP.remove t k) + 1 = TP.cnt t := by
 induction t with
 | nil => intro k h; simp [TP.cnt] at h
 | node l x r ihl ihr =>
  intro k hk
  simp only [TP.cnt] at hk ⊢
  simp only [TP.remove]
  by_cases c : k < TP.cnt l
  ·rw [if_pos c, repaired_cnt]; have := ihl k c; omega
  rw [if_neg c]
  by_cases c2 : TP.cnt l < k
  ·rw [if_pos c2, repaired_cnt]; have := ihr (k - TP.cnt l - 1) (by omega); omega
  rw [if_neg c2]
  cases l with
  | nil => simp [TP.pick, TP.cnt]
  | node a y c =>
   cases r with
   | nil => simp [TP.pick, TP.cnt]
   | node d z e =>
    obtain ⟨f, ys, hf, ht⟩ := TP.first_cons d z e
    simp only [hf, Option.elim_some, TP.pick]
    rw [repaired_cnt]
    have := ihr 0 (TP.cnt_pos_of _ _ _)
    simp only [TP.cnt] at this ⊢; omega
theorem NodeAt.putv {w : World} {b : Nat} {pl pr : Option Nat} {x : Pc} {s : Sm} (h : NodeAt w b pl pr x s) (y : Pc) :
  NodeAt (((w.setCell ⟨b, 2, none⟩ (.int .i64 y.off)).setCell ⟨b, 3, none⟩ (.int .i64 y.len)).setCell ⟨b, 4, none⟩ (.int .i64 y.brk)) b pl pr y s :=
 Go.Proofs.YtciabhncmdpeeaaDoorW.PrintWords.blk_set (Go.Proofs.YtciabhncmdpeeaaDoorW.PrintWords.blk_set (Go.Proofs.YtciabhncmdpeeaaDoorW.PrintWords.blk_set h 2 _) 3 _) 4 _
set_option maxHeartbeats 16000000 in
set_option maxRecDepth 100000 in
theorem removeT_any (t : Tree) : ∀ (w : World) (p : Option Nat) (S : List Nat) (rk : Int) (k : Nat), rk = k → Rep w t p S → S.Nodup → TP.cnt t ≤ 90000000000 → k < TP.cnt t →
  Calls Tryd.prog 80 #[ptrV p, .int .i64 rk] w (TreePost w S (TP.remove t k)) := by
 induction t with
 | nil => intro w p S rk k hrk hrep nd hc hk; simp [TP.cnt] at hk
 | node l x r ihl ihr =>
  intro w p S rk k hrk hrep nd hc hk
  subst hrk
  obtain ⟨b, pl, pr, Sl, Sr, rfl, rfl, hb, hl, hr⟩ := hrep
  simp only [TP.cnt] at hc hk
  have q0 : w.cell? ⟨b, 0, none⟩ = some (ptrV pl) := (Go.Proofs.YtciabhncmdpeeaaDoorW.PrintWords.blk_cell hb 0).trans rfl
  have q1 : w.cell? ⟨b, 1, none⟩ = some (ptrV pr) := (Go.Proofs.YtciabhncmdpeeaaDoorW.PrintWords.blk_cell hb 1).trans rfl
  have hl0 := Lib.hid hl
  have hr0 := Lib.hid hr
  have Hb0 := Lib.hid hb
  have ND := Lib.hid nd
  have HC := Lib.hid hc
  have HK := Lib.hid hk
  have hblt := Lib.hid hb.lt
  clear hb hl hr nd
  simp only [ptrV, adr]
  by_cases c : k < TP.cnt l
  ·have ct : ((k : Int) < (TP.cnt l : Int)) = True := eq_true (by omega)
   clear hc hk
   go_enter Tryd.func80, Tryd.ntmps80
   go_wp2_with fail
   refine (count_rep w l pl Sl hl0.out (by have := HC.out; omega)).mono ?_
   rintro e w' ⟨rfl, hw⟩
   rw [hw]
   clear hw w'
   go_wp2_with fail
   have nd1 := List.nodup_cons.1 ND.out
   have hc1 := HC.out
   have N1 : Hid Sl.Nodup := (List.nodup_append.1 nd1.2).1
   have N2 : Hid (TP.cnt l ≤ 90000000000) := (by omega : TP.cnt l ≤ 90000000000)
   have N3 : Hid (k < TP.cnt l) := c
   clear nd1 hc1
   refine (ihl w pl Sl _ k rfl hl0.out N1.out N2.out N3.out).mono ?_
   rintro e w2 ⟨p', S', rfl, hu, hrep, nd', fr⟩
   have L := left_new Hb0.out hr0.out ND.out hu hrep nd' fr
   have c0 := (Go.Proofs.YtciabhncmdpeeaaDoorW.PrintWords.blk_cell L.1 0)
   have f0 := Go.Proofs.YtciabhncmdpeeaaDoorW.PrintWords.blk_frozen L.1 0
   simp only [nodeCells, List.getElem?_toArray, List.getElem?_cons_zero] at c0
   clear hu hrep nd' fr
   all_goals
    obtain ⟨_, hn3, hrep3, hr3, nd3, hu3, fr3⟩ := L
    go_wp2_with fail
    refine (repaired_any _ b p' pr _ _ x _ S' Sr hn3 hrep3 hr3 nd3 (by have := removeIn_cnt l k c; have := HC.out; omega)).mono ?_
    intro e w4 hq
    have hq := hq.post hu3 fr3 nd3
    obtain ⟨p4, S4, rfl, hu4, hrep4, nd4, fr4⟩ := hq
    go_wp2_with fail
    go_ret
    exact ⟨p4, S4, rfl, hu4, by simp only [TP.remove]; rw [if_pos c]; exact hrep4, nd4, fr4⟩
  ·by_cases c2 : TP.cnt l < k
   ·have ct : ((k : Int) < (TP.cnt l : Int)) = False := eq_false (by omega)
    have ct2 : ((TP.cnt l : Int) < (k : Int)) = True := eq_true (by omega)
    have N2 : Hid (TP.cnt r ≤ 90000000000) := (by omega : TP.cnt r ≤ 90000000000)
    have RKEQ : Hid (wrap64 (wrap64 ((k : Int) - (TP.cnt l : Int)) - 1) = ((k - TP.cnt l - 1 : Nat) : Int)) := Lib.hid (by
     unfold wrap64; omega)
    have N3 : Hid (k - TP.cnt l - 1 < TP.cnt r) := (by omega : k - TP.cnt l - 1 < TP.cnt r)
    have NC : Hid (¬ k < TP.cnt l) := c
    have NC2 : Hid (TP.cnt l < k) := c2
    clear hc hk c c2
    go_enter Tryd.func80, Tryd.ntmps80
    go_wp2_with fail
    refine (count_rep w l pl Sl hl0.out (by have := HC.out; omega)).mono ?_
    rintro e w' ⟨rfl, hw⟩
    rw [hw]
    clear hw w'
    go_wp2_with fail
    have nd1 := List.nodup_cons.1 ND.out
    have N1 : Hid Sr.Nodup := (List.nodup_append.1 nd1.2).2.1
    clear nd1
    refine (ihr w pr Sr _ (k - TP.cnt l - 1) (RKEQ.out) hr0.out N1.out N2.out N3.out).mono ?_
    rintro e w2 ⟨p', S', rfl, hu, hrep, nd', fr⟩
    have L := right_new Hb0.out hl0.out ND.out hu hrep nd' fr
    have c0 := (Go.Proofs.YtciabhncmdpeeaaDoorW.PrintWords.blk_cell L.1 1)
    have f0 := Go.Proofs.YtciabhncmdpeeaaDoorW.PrintWords.blk_frozen L.1 1
    simp only [nodeCells, List.getElem?_toArray, List.getElem?_cons_zero, List.getElem?_cons_succ] at c0
    clear hu hrep nd' fr
    all_goals
     obtain ⟨_, hn3, hrep3, hr3, nd3, hu3, fr3⟩ := L
     go_wp2_with fail
     refine (repaired_any _ b pl p' _ _ x _ Sl S' hn3 hr3 hrep3 nd3 (by have := removeIn_cnt r (k - TP.cnt l - 1) N3.out; have := HC.out; omega)).mono ?_
     intro e w4 hq
     have hq := hq.post hu3 fr3 nd3
     obtain ⟨p4, S4, rfl, hu4, hrep4, nd4, fr4⟩ := hq
     go_wp2_with fail
     go_ret
     exact ⟨p4, S4, rfl, hu4, by simp only [TP.remove]; rw [if_neg NC.out, if_pos NC2.out]; exact hrep4, nd4, fr4⟩
   ·have ct : ((k : Int) < (TP.cnt l : Int)) = False := eq_false (by omega)
    have ct2 : ((TP.cnt l : Int) < (k : Int)) = False := eq_false (by omega)
    have NC : Hid (¬ k < TP.cnt l) := c
    have NC2 : Hid (¬ TP.cnt l < k) := c2
    have hke : k = TP.cnt l := by omega
    subst hke
    clear hk c c2
    have ENT : True := trivial
    cases l with
    | nil =>
     obtain ⟨rfl, rfl⟩ := hl0.out
     simp only [ptrV, adr] at q0
     clear hc
     go_enter Tryd.func80, Tryd.ntmps80
     go_wp2_with fail
     refine (count_rep w .nil none [] hl0.out (by simp [TP.cnt])).mono ?_
     rintro e w' ⟨rfl, hw⟩
     rw [hw]
     clear hw w'
     go_wp2
     go_ret
     exact ⟨pr, Sr, rfl, UpdS.refl _ _, by simp only [TP.remove]; rw [if_neg NC.out, if_neg NC2.out]; exact hr0.out, (List.nodup_append.1 (List.nodup_cons.1 ND.out).2).2.1, fun j hj => .inl (by simp [hj])⟩
    | node a y cc =>
     obtain ⟨b2, pl2, pr2, Sl2, Sr2, rfl, rfl, -, -, -⟩ := hl0.out
     have hcl : TP.cnt (.node a y cc) ≤ 90000000000 := by omega
     have HCL := Lib.hid hcl
     cases r with
     | nil =>
      obtain ⟨rfl, rfl⟩ := hr0.out
      simp only [ptrV, adr] at q0 q1
      clear hc hcl
      go_enter Tryd.func80, Tryd.ntmps80
      go_wp2_with fail
      refine (count_rep w (.node a y cc) (some b2) _ hl0.out (Nat.le_trans HCL.out (by omega))).mono ?_
      rintro e w' ⟨rfl, hw⟩
      rw [hw]
      clear hw w'
      go_wp2
      go_ret
      exact ⟨some b2, _, rfl, UpdS.refl _ _, by simp only [TP.remove]; rw [if_neg NC.out, if_neg NC2.out]; exact hl0.out, (List.nodup_append.1 (List.nodup_cons.1 ND.out).2).1, fun j hj => .inl (List.mem_cons_of_mem _ (List.mem_append_left _ hj))⟩
     | node d z ee =>
      obtain ⟨b3, pl3, pr3, Sl3, Sr3, rfl, rfl, -, -, -⟩ := hr0.out
      obtain ⟨f, fs, hf, -⟩ := TP.first_cons d z ee
      have HF := Lib.hid hf
      have N2 : Hid (TP.cnt (.node d z ee) ≤ 90000000000) := (by omega : TP.cnt (.node d z ee) ≤ 90000000000)
      have N3 : Hid (0 < TP.cnt (.node d z ee)) := (TP.cnt_pos_of _ _ _ : 0 < TP.cnt (.node d z ee))
      obtain ⟨Sl, hSl⟩ : ∃ Sl, b2 :: (Sl2 ++ Sr2) = Sl := ⟨_, rfl⟩
      obtain ⟨Sr, hSr⟩ : ∃ Sr, b3 :: (Sl3 ++ Sr3) = Sr := ⟨_, rfl⟩
      rw [hSl] at hl0 ND ⊢
      rw [hSr] at hr0 ND ⊢
      have nd1 := List.nodup_cons.1 ND.out
      have N1 : Hid Sr.Nodup := (List.nodup_append.1 nd1.2).2.1
      have NBL : Hid (∀ k ∈ Sl, k ∉ [b]) := Lib.hid (fun k hk => by simp only [List.mem_singleton]; rintro rfl; exact nd1.1 (List.mem_append_left _ hk))
      have NBR : Hid (∀ k ∈ Sr, k ∉ [b]) := Lib.hid (fun k hk => by simp only [List.mem_singleton]; rintro rfl; exact nd1.1 (List.mem_append_right _ hk))
      simp only [ptrV, adr] at q0 q1
      clear hc hcl hSl hSr nd1 hf
      go_enter Tryd.func80, Tryd.ntmps80
      go_wp2_with fail
      refine (count_rep w (.node a y cc) (some b2) _ hl0.out (Nat.le_trans HCL.out (by omega))).mono ?_
      rintro e w' ⟨rfl, hw⟩
      rw [hw]
      clear hw w'
      go_wp2_with fail
      refine (first_any w (.node d z ee) (some b3) Sr f hr0.out HF.out).mono ?_
      rintro e w1 ⟨rfl, hb1⟩
      have hn1 : NodeAt w1 b (some b2) (some b3) x _ := blk_below Hb0.out hb1
      have f2 := Go.Proofs.YtciabhncmdpeeaaDoorW.PrintWords.blk_frozen hn1 2
      have f3 := Go.Proofs.YtciabhncmdpeeaaDoorW.PrintWords.blk_frozen hn1 3
      have f4 := Go.Proofs.YtciabhncmdpeeaaDoorW.PrintWords.blk_frozen hn1 4
      have c2 := (Go.Proofs.YtciabhncmdpeeaaDoorW.PrintWords.blk_cell hn1 2)
      have c3 := (Go.Proofs.YtciabhncmdpeeaaDoorW.PrintWords.blk_cell hn1 3)
      have c4 := (Go.Proofs.YtciabhncmdpeeaaDoorW.PrintWords.blk_cell hn1 4)
      simp only [nodeCells, List.getElem?_toArray, List.getElem?_cons_zero, List.getElem?_cons_succ] at c2 c3 c4
      have HN3 := Lib.hid (hn1.putv f)
      have HU3 : Hid (UpdS [b] w _) := Lib.hid ((UpdS.of_below (S := [b]) hb1).trans ((((Upd.refl b w1).set (i := 2) (.int .i64 f.off)).set (i := 3) (.int .i64 f.len)).set (i := 4) (.int .i64 f.brk)).upds (Fresh.refl _ _))
      have q1' := (Go.Proofs.YtciabhncmdpeeaaDoorW.PrintWords.blk_cell HN3.out 1)
      simp only [nodeCells, ptrV, adr, List.getElem?_toArray, List.getElem?_cons_zero, List.getElem?_cons_succ] at q1'
      clear q0 q1 hb1 hn1
      go_wp2_with fail
      refine (ihr _ (some b3) Sr _ 0 rfl (hr0.out.upd HU3.out NBR.out) N1.out N2.out N3.out).mono ?_
      rintro e w4 ⟨p', S', rfl, hu, hrep, nd', fr⟩
      have L := right_new HN3.out (hl0.out.upd HU3.out NBL.out) ND.out hu hrep nd' fr
      have c0 := (Go.Proofs.YtciabhncmdpeeaaDoorW.PrintWords.blk_cell L.1 1)
      have f0 := Go.Proofs.YtciabhncmdpeeaaDoorW.PrintWords.blk_frozen L.1 1
      simp only [nodeCells, List.getElem?_toArray, List.getElem?_cons_zero, List.getElem?_cons_succ] at c0
      clear hu hrep nd' fr q1' f2 f3 f4 c2 c3 c4
      obtain ⟨_, hn3, hrep3, hr3, nd3, hu3, fr3⟩ := L
      go_wp2_with fail
      refine (repaired_any _ b (some b2) p' _ _ f _ Sl S' hn3 hr3 hrep3 nd3 (by have := removeIn_cnt (.node d z ee) 0 N3.out; have := HC.out; omega)).mono ?_
      intro e w5 hq
      have hq := hq.post ((HU3.out.mono (S1 := b :: (Sl ++ Sr)) (by simp)).trans hu3 (Fresh.refl _ _)) ((Fresh.refl _ w).trans fr3 HU3.out.size) nd3
      obtain ⟨p4, S4, rfl, hu4, hrep4, nd4, fr4⟩ := hq
      go_wp2_with fail
      go_ret
      exact ⟨p4, S4, rfl, hu4, by simp only [TP.remove]; rw [if_neg NC.out, if_neg NC2.out]; simp only [HF.out, Option.elim_some, TP.pick]; exact hrep4, nd4, fr4⟩
end Go.Proofs.YtciabhncmdpeeaaDoor
