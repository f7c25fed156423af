/- A node repaired behind a change (repaired), walked: every way. Condition: trees of at most 100000000000 nodes. -/
import Derived.Test.YtnomidpnofhjdaaGreatDoorTr3
namespace Go.Proofs.YtnomidpnofhjdaaGreatDoor
open Go.RowKit Go.Proofs.YtnomidpnofhjdaaGreatDoorW.PrintMore
theorem smW_hc (t : Tree) (h : TP.cnt t ≤ 1000000000000) : (smW t).h = (TP.hgt t : Int) ∧ (smW t).c = (TP.cnt t : Int) := by
 induction t with
 | nil => exact ⟨rfl, rfl⟩
 | node l v r ihl ihr =>
  simp only [TP.cnt] at h
  obtain ⟨h1, c1⟩ := ihl (by omega)
  obtain ⟨h2, c2⟩ := ihr (by omega)
  have k1 := TP.hgt_le l
  have k2 := TP.hgt_le r
  simp only [smW, TP.hgt, TP.cnt, h1, h2, c1, c2, mxI]
  constructor
  ·unfold wrap64; split <;> omega
  ·unfold wrap64; omega
def hd (l r : Tree) : Int := wrap64 ((smW l).h - (smW r).h)
theorem hd_is (l r : Tree) (hc : TP.cnt l + TP.cnt r ≤ 100000000000) : hd l r = (TP.hgt l : Int) - TP.hgt r := by
 have k1 := TP.hgt_le l
 have k2 := TP.hgt_le r
 unfold hd; rw [(smW_hc l (by omega)).1, (smW_hc r (by omega)).1]; unfold wrap64; omega
def RepairedPost (w : World) (n : Nat) (l r : Tree) (v : Pc) (Sl Sr : List Nat) (e : Ending) (w' : World) : Prop :=
 ∃ p S', e = .returned (ptrV p) ∧ UpdS (n :: (Sl ++ Sr)) w w' ∧ Rep w' (TP.repaired (.node l v r)) p S' ∧ S'.Perm (n :: (Sl ++ Sr))
set_option maxHeartbeats 1000000 in
set_option maxRecDepth 100000 in
theorem repaired_none (w : World) (n : Nat) (pl pr : Option Nat) (l r : Tree) (v : Pc) (s : Sm) (Sl Sr : List Nat)
  (hn : NodeAt w n pl pr v s) (hl : Rep w l pl Sl) (hr : Rep w r pr Sr) (nd : (n :: (Sl ++ Sr)).Nodup)
  (t1 : (wrap64 ((smW l).h - (smW r).h) == 2) = false) (t2 : (wrap64 ((smW l).h - (smW r).h) == -2) = false) (hq : TP.repaired (.node l v r) = .node l v r) :
  Calls Tryz.prog 101 #[ptrV (some n)] w (RepairedPost w n l r v Sl Sr) := by
 have q0 : w.cell? ⟨n, 0, none⟩ = some (ptrV pl) := (Go.Proofs.YtnomidpnofhjdaaGreatDoorW.PrintWords.blk_cell hn 0).trans rfl
 have q1 : w.cell? ⟨n, 1, none⟩ = some (ptrV pr) := (Go.Proofs.YtnomidpnofhjdaaGreatDoorW.PrintWords.blk_cell hn 1).trans rfl
 have HL := Lib.hid hl.sum
 have HR := Lib.hid hr.sum
 have HN := Lib.hid hn
 have XL := Lib.hid hl
 have XR := Lib.hid hr
 have XQ := Lib.hid hq
 have ND := Lib.hid nd
 clear hl hr hn hq nd
 simp only [ptrV, adr]
 go_enter Tryz.func101, Tryz.ntmps101
 go_wp2_with fail
 refine wp_region_still_lit (by kernel_rfl) (by kernel_rfl) ?_
 repeat still_step
 refine wpStill_step (fun K hK => ?_)
 go_simp
 refine ⟨_, (height_any _ _ _ HL.out), hK _ ?_⟩
 clear hK K
 repeat still_step
 refine wpStill_step (fun K hK => ?_)
 go_simp
 refine ⟨_, (height_any _ _ _ HR.out), hK _ ?_⟩
 clear hK K
 repeat still_step
 refine wpStill_nil ?_
 go_wp2_with fail
 refine (sum_node w.drew n pl pr l r v s Sl Sr HN.out (XL.out.move (w' := w.drew) fun _ _ => rfl) (XR.out.move (w' := w.drew) fun _ _ => rfl) ND.out).mono ?_
 rintro e w2 ⟨rfl, hu2, hrep2⟩
 go_wp2_with fail
 go_ret
 refine ⟨some n, _, rfl, ?_, by rw [XQ.out]; exact hrep2, List.Perm.refl _⟩
 exact UpdS.trans (w1 := w.drew) (S1 := [n]) ⟨rfl, rfl, rfl, Nat.le_refl _, fun _ _ _ => rfl⟩ hu2 (fun k hk => .inl (by simp only [List.mem_singleton] at hk; simp [hk]))
set_option maxHeartbeats 1000000 in
set_option maxRecDepth 100000 in
theorem repaired_right1 (w : World) (n b : Nat) (pr pa pm : Option Nat) (a m r : Tree) (v x : Pc) (s : Sm) (Sa Sm_ Sr : List Nat)
  (hn : NodeAt w n (some b) pr v s) (hb : NodeAt w b pa pm x (smW (.node a x m))) (ha : Rep w a pa Sa) (hm : Rep w m pm Sm_) (hr : Rep w r pr Sr) (nd : (n :: ((b :: (Sa ++ Sm_)) ++ Sr)).Nodup)
  (t1 : (wrap64 ((smW (.node a x m)).h - (smW r).h) == 2) = true) (t2 : decide ((smW a).h < (smW m).h) = false) (hq : TP.repaired (.node (.node a x m) v r) = .node a x (.node m v r)) :
  Calls Tryz.prog 101 #[ptrV (some n)] w (RepairedPost w n (.node a x m) r v (b :: (Sa ++ Sm_)) Sr) := by
 have q0 : w.cell? ⟨n, 0, none⟩ = some (ptrV (some b)) := (Go.Proofs.YtnomidpnofhjdaaGreatDoorW.PrintWords.blk_cell hn 0).trans rfl
 have q1 : w.cell? ⟨n, 1, none⟩ = some (ptrV pr) := (Go.Proofs.YtnomidpnofhjdaaGreatDoorW.PrintWords.blk_cell hn 1).trans rfl
 have q2 : w.cell? ⟨b, 0, none⟩ = some (ptrV pa) := (Go.Proofs.YtnomidpnofhjdaaGreatDoorW.PrintWords.blk_cell hb 0).trans rfl
 have q3 : w.cell? ⟨b, 1, none⟩ = some (ptrV pm) := (Go.Proofs.YtnomidpnofhjdaaGreatDoorW.PrintWords.blk_cell hb 1).trans rfl
 have HL := Lib.hid hb.sum
 have HR := Lib.hid hr.sum
 have HA := Lib.hid ha.sum
 have HM := Lib.hid hm.sum
 have HN := Lib.hid hn
 have HB := Lib.hid hb
 have XA := Lib.hid ha
 have XM := Lib.hid hm
 have XR := Lib.hid hr
 have XQ := Lib.hid hq
 have ND := Lib.hid nd
 clear hb ha hm hr hn hq nd
 simp only [ptrV, adr] at q0
 simp only [ptrV, adr]
 go_enter Tryz.func101, Tryz.ntmps101
 go_wp2_with fail
 refine wp_region_still_lit (by kernel_rfl) (by kernel_rfl) ?_
 repeat still_step
 refine wpStill_step (fun K hK => ?_)
 go_simp
 refine ⟨_, (height_any _ (some b) _ HL.out), hK _ ?_⟩
 clear hK K
 repeat still_step
 refine wpStill_step (fun K hK => ?_)
 go_simp
 refine ⟨_, (height_any _ pr _ HR.out), hK _ ?_⟩
 clear hK K
 repeat still_step
 refine wpStill_nil ?_
 go_wp2_with fail
 obtain ⟨w1, e1⟩ : ∃ y, w.drew = y := ⟨_, rfl⟩
 rw [e1]
 have hu1 : UpdS [] w w1 := by subst e1; exact ⟨rfl, rfl, rfl, Nat.le_refl _, fun _ _ _ => rfl⟩
 have p0 : w1.cell? ⟨n, 0, none⟩ = some (.pointer (some ⟨b, 0, none⟩)) := by subst e1; exact q0
 have p2 : w1.cell? ⟨b, 0, none⟩ = some (ptrV pa) := by subst e1; exact q2
 have p3 : w1.cell? ⟨b, 1, none⟩ = some (ptrV pm) := by subst e1; exact q3
 have PA : Hid (SumAt w1 pa (smW a)) := by subst e1; exact HA
 have PM : Hid (SumAt w1 pm (smW m)) := by subst e1; exact HM
 clear e1 q0 q1 q2 q3 HA HM HL HR
 refine wp_region_still_lit (by kernel_rfl) (by kernel_rfl) ?_
 repeat still_step
 refine wpStill_step (fun K hK => ?_)
 go_simp
 refine ⟨_, (height_any _ pa _ PA.out), hK _ ?_⟩
 clear hK K
 repeat still_step
 refine wpStill_step (fun K hK => ?_)
 go_simp
 refine ⟨_, (height_any _ pm _ PM.out), hK _ ?_⟩
 clear hK K
 repeat still_step
 refine wpStill_nil ?_
 go_wp2_with fail
 have hk : ∀ k : Nat, k < w.heap.size → w1.drew.heap[k]? = w.heap[k]? := fun k hk => hu1.block k hk (by simp)
 refine (turnRight_any w1.drew n b pr pa pm a m r v x s _ Sa Sm_ Sr (by unfold NodeAt; rw [hk _ HN.out.lt]; exact HN.out) (by unfold NodeAt; rw [hk _ HB.out.lt]; exact HB.out) (XA.out.move fun k h => hk k (XA.out.lt k h)) (XM.out.move fun k h => hk k (XM.out.lt k h)) (XR.out.move fun k h => hk k (XR.out.lt k h)) (by simpa using ND.out)).mono ?_
 rintro e w2 ⟨rfl, hu2, hrep2⟩
 go_wp2_with fail
 go_ret
 refine ⟨some b, _, rfl, ?_, by rw [XQ.out]; exact hrep2, ?_⟩
 ·refine UpdS.trans (w1 := w1.drew) (S1 := [n, b]) ⟨hu1.os, hu1.tape, hu1.output, hu1.size, fun k h _ => hk k h⟩ hu2 (fun k hk => .inl ?_)
  simp only [List.mem_cons, List.not_mem_nil, or_false] at hk
  rcases hk with rfl | rfl <;> simp
 ·have := ((List.Perm.swap b n (Sa ++ (Sm_ ++ Sr))).trans (List.Perm.cons b List.perm_middle.symm)).symm
  simpa using this
set_option maxHeartbeats 1000000 in
set_option maxRecDepth 100000 in
theorem repaired_right2 (w : World) (n b c : Nat) (pr pa pp pq : Option Nat) (a p q r : Tree) (v x y : Pc) (s : Sm) (Sa Sp Sq Sr : List Nat)
  (hn : NodeAt w n (some b) pr v s) (hb : NodeAt w b pa (some c) x (smW (.node a x (.node p y q)))) (hcn : NodeAt w c pp pq y (smW (.node p y q))) (ha : Rep w a pa Sa) (hp : Rep w p pp Sp) (hq' : Rep w q pq Sq) (hr : Rep w r pr Sr) (nd : (n :: ((b :: (Sa ++ (c :: (Sp ++ Sq)))) ++ Sr)).Nodup)
  (t1 : (wrap64 ((smW (.node a x (.node p y q))).h - (smW r).h) == 2) = true) (t2 : decide ((smW a).h < (smW (.node p y q)).h) = true) (hq : TP.repaired (.node (.node a x (.node p y q)) v r) = .node (.node a x p) y (.node q v r)) :
  Calls Tryz.prog 101 #[ptrV (some n)] w (RepairedPost w n (.node a x (.node p y q)) r v (b :: (Sa ++ (c :: (Sp ++ Sq)))) Sr) := by
 have q0 : w.cell? ⟨n, 0, none⟩ = some (ptrV (some b)) := (Go.Proofs.YtnomidpnofhjdaaGreatDoorW.PrintWords.blk_cell hn 0).trans rfl
 have q1 : w.cell? ⟨n, 1, none⟩ = some (ptrV pr) := (Go.Proofs.YtnomidpnofhjdaaGreatDoorW.PrintWords.blk_cell hn 1).trans rfl
 have q2 : w.cell? ⟨b, 0, none⟩ = some (ptrV pa) := (Go.Proofs.YtnomidpnofhjdaaGreatDoorW.PrintWords.blk_cell hb 0).trans rfl
 have q3 : w.cell? ⟨b, 1, none⟩ = some (ptrV (some c)) := (Go.Proofs.YtnomidpnofhjdaaGreatDoorW.PrintWords.blk_cell hb 1).trans rfl
 have HL := Lib.hid hb.sum
 have HR := Lib.hid hr.sum
 have HA := Lib.hid ha.sum
 have HM := Lib.hid hcn.sum
 have HN := Lib.hid hn
 have HB := Lib.hid hb
 have XA := Lib.hid ha
 have XP := Lib.hid hp
 have XQ2 := Lib.hid hq'
 have HC := Lib.hid hcn
 have XR := Lib.hid hr
 have XQ := Lib.hid hq
 have ND := Lib.hid nd
 clear hb ha hp hq' hcn hr hn hq nd
 simp only [ptrV, adr] at q0 q3
 simp only [ptrV, adr]
 go_enter Tryz.func101, Tryz.ntmps101
 go_wp2_with fail
 refine wp_region_still_lit (by kernel_rfl) (by kernel_rfl) ?_
 repeat still_step
 refine wpStill_step (fun K hK => ?_)
 go_simp
 refine ⟨_, (height_any _ (some b) _ HL.out), hK _ ?_⟩
 clear hK K
 repeat still_step
 refine wpStill_step (fun K hK => ?_)
 go_simp
 refine ⟨_, (height_any _ pr _ HR.out), hK _ ?_⟩
 clear hK K
 repeat still_step
 refine wpStill_nil ?_
 go_wp2_with fail
 obtain ⟨w1, e1⟩ : ∃ y, w.drew = y := ⟨_, rfl⟩
 rw [e1]
 have hu1 : UpdS [] w w1 := by subst e1; exact ⟨rfl, rfl, rfl, Nat.le_refl _, fun _ _ _ => rfl⟩
 have p0 : w1.cell? ⟨n, 0, none⟩ = some (.pointer (some ⟨b, 0, none⟩)) := by subst e1; exact q0
 have p2 : w1.cell? ⟨b, 0, none⟩ = some (ptrV pa) := by subst e1; exact q2
 have p3 : w1.cell? ⟨b, 1, none⟩ = some (.pointer (some ⟨c, 0, none⟩)) := by subst e1; exact q3
 have PA : Hid (SumAt w1 pa (smW a)) := by subst e1; exact HA
 have PM : Hid (SumAt w1 (some c) (smW (.node p y q))) := by subst e1; exact HM
 clear e1 q0 q1 q2 q3 HA HM HL HR
 refine wp_region_still_lit (by kernel_rfl) (by kernel_rfl) ?_
 repeat still_step
 refine wpStill_step (fun K hK => ?_)
 go_simp
 refine ⟨_, (height_any _ pa _ PA.out), hK _ ?_⟩
 clear hK K
 repeat still_step
 refine wpStill_step (fun K hK => ?_)
 go_simp
 refine ⟨_, (height_any _ (some c) _ PM.out), hK _ ?_⟩
 clear hK K
 repeat still_step
 refine wpStill_nil ?_
 go_wp2_with fail
 have hk : ∀ k : Nat, k < w.heap.size → w1.drew.heap[k]? = w.heap[k]? := fun k hk => hu1.block k hk (by simp)
 have nd := ND.out
 have nd2 : (b :: c :: (Sa ++ (Sp ++ Sq))).Nodup := by
  have h := (List.nodup_cons.1 nd).2
  have h2 := (List.nodup_append.1 h).1
  exact ((List.Perm.cons b (List.perm_middle (a := c) (l₁ := Sa) (l₂ := Sp ++ Sq)))).nodup_iff.1 h2
 have nn := (List.nodup_cons.1 nd).1
 simp only [List.cons_append, List.mem_cons, List.mem_append, not_or] at nn
 refine (turnLeft_any w1.drew b c pa pq pp a p q x y _ _ Sa Sp Sq (by unfold NodeAt; rw [hk _ HB.out.lt]; exact HB.out) (by unfold NodeAt; rw [hk _ HC.out.lt]; exact HC.out) (XA.out.move fun k h => hk k (XA.out.lt k h)) (XP.out.move fun k h => hk k (XP.out.lt k h)) (XQ2.out.move fun k h => hk k (XQ2.out.lt k h)) nd2).mono ?_
 rintro e w2 ⟨rfl, hu2, hrep2⟩
 have hu02 : UpdS [b, c] w w2 := UpdS.trans (w1 := w1.drew) (S1 := [b, c]) ⟨hu1.os, hu1.tape, hu1.output, hu1.size, fun k h _ => hk k h⟩ hu2 (Fresh.refl _ _)
 have hn2 : NodeAt w2 n (some b) pr v s := by unfold NodeAt; rw [hu02.block n HN.out.lt (by simp only [List.mem_cons, List.not_mem_nil, or_false, not_or]; exact ⟨nn.1, nn.2.1.2.1⟩)]; exact HN.out
 have q1 : w2.cell? ⟨n, 0, none⟩ = some (.pointer (some ⟨b, 0, none⟩)) := (Go.Proofs.YtnomidpnofhjdaaGreatDoorW.PrintWords.blk_cell hn2 0).trans rfl
 have q2 := Go.Proofs.YtnomidpnofhjdaaGreatDoorW.PrintWords.blk_frozen hn2 0
 clear p0 p2 p3 hk
 go_wp2_with fail
 obtain ⟨w3, e3⟩ : ∃ z, w2.setCell ⟨n, 0, none⟩ (.pointer (adr (some c))) = z := ⟨_, rfl⟩
 rw [e3]
 have hu3 : UpdS [n] w2 w3 := by subst e3; exact ((Upd.refl n w2).set _).upds
 have hn3 : NodeAt w3 n (some c) pr v s := by subst e3; exact Go.Proofs.YtnomidpnofhjdaaGreatDoorW.PrintWords.blk_set hn2 0 _
 clear e3 q1 q2
 have hrep3 := hrep2.upd hu3 (fun k hk => by
  simp only [List.mem_singleton]; rintro rfl
  simp only [List.cons_append, List.mem_cons, List.mem_append] at hk
  rcases hk with h | h | (h | h) | h
  ·exact nn.2.1.2.1 h
  ·exact nn.1 h
  ·exact nn.2.1.1 h
  ·exact nn.2.1.2.2.1 h
  ·exact nn.2.1.2.2.2 h)
 have ndS : (Sr.Nodup) ∧ (∀ k ∈ Sr, k ≠ n ∧ k ∉ b :: (Sa ++ c :: (Sp ++ Sq))) := by
  have h := List.nodup_cons.1 nd
  have h2 := List.nodup_append.1 h.2
  exact ⟨h2.2.1, fun k hk => ⟨fun e => h.1 (by subst e; exact List.mem_append_right _ hk), fun hm => h2.2.2 _ hm _ hk rfl⟩⟩
 have hr3 : Rep w3 r pr Sr := (XR.out.upd hu02 (fun k hk hm => (ndS.2 k hk).2 (by simp only [List.mem_cons, List.not_mem_nil, or_false] at hm; rcases hm with rfl | rfl <;> simp))).upd hu3 (fun k hk hm => (ndS.2 k hk).1 (by simpa using hm))
 obtain ⟨c', pl3, pr3, S1, S2, ec, eS, hc3, hl3, hq3⟩ := hrep3
 obtain rfl : c = c' := by simpa using ec
 simp only [List.cons.injEq, true_and] at eS
 have perm0 : (n :: ((b :: (Sa ++ (c :: (Sp ++ Sq)))) ++ Sr)).Perm (n :: c :: (S1 ++ (S2 ++ Sr))) := by
  refine List.Perm.cons n ?_
  rw [← List.append_assoc S1, ← eS]
  refine List.Perm.append_right Sr (l₁ := b :: (Sa ++ c :: (Sp ++ Sq))) (l₂ := c :: (b :: (Sa ++ Sp) ++ Sq)) ?_
  have h1 := List.Perm.cons b (List.perm_middle (a := c) (l₁ := Sa) (l₂ := Sp ++ Sq))
  refine h1.trans ((List.Perm.swap c b _).trans ?_)
  simp
 refine (turnRight_any w3 n c pr pl3 pr3 (.node a x p) q r v y s _ S1 S2 Sr hn3 hc3 hl3 hq3 hr3 (perm0.nodup_iff.1 nd)).mono ?_
 rintro e w4 ⟨rfl, hu4, hrep4⟩
 go_wp2_with fail
 go_ret
 refine ⟨some c, _, rfl, ?_, by rw [XQ.out]; exact hrep4, ?_⟩
 ·have mb : ∀ k ∈ [b, c], k ∈ n :: ((b :: (Sa ++ (c :: (Sp ++ Sq)))) ++ Sr) := by
   intro k hk; simp only [List.mem_cons, List.not_mem_nil, or_false] at hk; rcases hk with rfl | rfl <;> simp
  have mn : ∀ k ∈ [n], k ∈ n :: ((b :: (Sa ++ (c :: (Sp ++ Sq)))) ++ Sr) := by
   intro k hk; simp only [List.mem_singleton] at hk; simp [hk]
  have mc : ∀ k ∈ [n, c], k ∈ n :: ((b :: (Sa ++ (c :: (Sp ++ Sq)))) ++ Sr) := by
   intro k hk; simp only [List.mem_cons, List.not_mem_nil, or_false] at hk; rcases hk with rfl | rfl <;> simp
  exact ((hu02.mono mb).trans (hu3.mono mn) (Fresh.refl _ _)).trans (hu4.mono mc) (Fresh.refl _ _)
 ·refine List.Perm.trans ?_ perm0.symm
  exact ((List.Perm.swap c n (S1 ++ (S2 ++ Sr))).trans (List.Perm.cons c List.perm_middle.symm)).symm
set_option maxHeartbeats 1000000 in
set_option maxRecDepth 100000 in
theorem repaired_left1 (w : World) (n b : Nat) (pl pm pc : Option Nat) (l m c : Tree) (v x : Pc) (s : Sm) (Sl Sm_ Sc : List Nat)
  (hn : NodeAt w n pl (some b) v s) (hb : NodeAt w b pm pc x (smW (.node m x c))) (hl : Rep w l pl Sl) (hm : Rep w m pm Sm_) (hc : Rep w c pc Sc) (nd : (n :: (Sl ++ (b :: (Sm_ ++ Sc)))).Nodup)
  (t1 : (wrap64 ((smW l).h - (smW (.node m x c)).h) == 2) = false) (t2 : (wrap64 ((smW l).h - (smW (.node m x c)).h) == -2) = true) (t3 : decide ((smW c).h < (smW m).h) = false) (hq : TP.repaired (.node l v (.node m x c)) = .node (.node l v m) x c) :
  Calls Tryz.prog 101 #[ptrV (some n)] w (RepairedPost w n l (.node m x c) v Sl (b :: (Sm_ ++ Sc))) := by
 have q0 : w.cell? ⟨n, 0, none⟩ = some (ptrV pl) := (Go.Proofs.YtnomidpnofhjdaaGreatDoorW.PrintWords.blk_cell hn 0).trans rfl
 have q1 : w.cell? ⟨n, 1, none⟩ = some (ptrV (some b)) := (Go.Proofs.YtnomidpnofhjdaaGreatDoorW.PrintWords.blk_cell hn 1).trans rfl
 have q2 : w.cell? ⟨b, 0, none⟩ = some (ptrV pm) := (Go.Proofs.YtnomidpnofhjdaaGreatDoorW.PrintWords.blk_cell hb 0).trans rfl
 have q3 : w.cell? ⟨b, 1, none⟩ = some (ptrV pc) := (Go.Proofs.YtnomidpnofhjdaaGreatDoorW.PrintWords.blk_cell hb 1).trans rfl
 have HL := Lib.hid hl.sum
 have HR := Lib.hid hb.sum
 have HA := Lib.hid hc.sum
 have HM := Lib.hid hm.sum
 have HN := Lib.hid hn
 have HB := Lib.hid hb
 have XL := Lib.hid hl
 have XM := Lib.hid hm
 have XC := Lib.hid hc
 have XQ := Lib.hid hq
 have ND := Lib.hid nd
 clear hb hl hm hc hn hq nd
 simp only [ptrV, adr] at q1
 simp only [ptrV, adr]
 go_enter Tryz.func101, Tryz.ntmps101
 go_wp2_with fail
 refine wp_region_still_lit (by kernel_rfl) (by kernel_rfl) ?_
 repeat still_step
 refine wpStill_step (fun K hK => ?_)
 go_simp
 refine ⟨_, (height_any _ pl _ HL.out), hK _ ?_⟩
 clear hK K
 repeat still_step
 refine wpStill_step (fun K hK => ?_)
 go_simp
 refine ⟨_, (height_any _ (some b) _ HR.out), hK _ ?_⟩
 clear hK K
 repeat still_step
 refine wpStill_nil ?_
 go_wp2_with fail
 obtain ⟨w1, e1⟩ : ∃ y, w.drew = y := ⟨_, rfl⟩
 rw [e1]
 have hu1 : UpdS [] w w1 := by subst e1; exact ⟨rfl, rfl, rfl, Nat.le_refl _, fun _ _ _ => rfl⟩
 have p1 : w1.cell? ⟨n, 1, none⟩ = some (.pointer (some ⟨b, 0, none⟩)) := by subst e1; exact q1
 have p2 : w1.cell? ⟨b, 0, none⟩ = some (ptrV pm) := by subst e1; exact q2
 have p3 : w1.cell? ⟨b, 1, none⟩ = some (ptrV pc) := by subst e1; exact q3
 have PA : Hid (SumAt w1 pc (smW c)) := by subst e1; exact HA
 have PM : Hid (SumAt w1 pm (smW m)) := by subst e1; exact HM
 clear e1 q0 q1 q2 q3 HA HM HL HR
 refine wp_region_still_lit (by kernel_rfl) (by kernel_rfl) ?_
 repeat still_step
 refine wpStill_step (fun K hK => ?_)
 go_simp
 refine ⟨_, (height_any _ pc _ PA.out), hK _ ?_⟩
 clear hK K
 repeat still_step
 refine wpStill_step (fun K hK => ?_)
 go_simp
 refine ⟨_, (height_any _ pm _ PM.out), hK _ ?_⟩
 clear hK K
 repeat still_step
 refine wpStill_nil ?_
 go_wp2_with fail
 have hk : ∀ k : Nat, k < w.heap.size → w1.drew.heap[k]? = w.heap[k]? := fun k hk => hu1.block k hk (by simp)
 have perm0 : (n :: (Sl ++ (b :: (Sm_ ++ Sc)))).Perm (n :: b :: (Sl ++ (Sm_ ++ Sc))) := List.Perm.cons n List.perm_middle
 refine (turnLeft_any w1.drew n b pl pc pm l m c v x s _ Sl Sm_ Sc (by unfold NodeAt; rw [hk _ HN.out.lt]; exact HN.out) (by unfold NodeAt; rw [hk _ HB.out.lt]; exact HB.out) (XL.out.move fun k h => hk k (XL.out.lt k h)) (XM.out.move fun k h => hk k (XM.out.lt k h)) (XC.out.move fun k h => hk k (XC.out.lt k h)) (perm0.nodup_iff.1 ND.out)).mono ?_
 rintro e w2 ⟨rfl, hu2, hrep2⟩
 go_wp2_with fail
 go_ret
 refine ⟨some b, _, rfl, ?_, by rw [XQ.out]; exact hrep2, ?_⟩
 ·refine UpdS.trans (w1 := w1.drew) (S1 := [n, b]) ⟨hu1.os, hu1.tape, hu1.output, hu1.size, fun k h _ => hk k h⟩ hu2 (fun k hk => .inl ?_)
  simp only [List.mem_cons, List.not_mem_nil, or_false] at hk
  rcases hk with rfl | rfl <;> simp
 ·refine List.Perm.trans ?_ perm0.symm
  have h := List.Perm.swap n b (Sl ++ (Sm_ ++ Sc))
  simpa [List.append_assoc] using h
set_option maxHeartbeats 1000000 in
set_option maxRecDepth 100000 in
theorem repaired_left2 (w : World) (n b c : Nat) (pl pd pp pq : Option Nat) (l p q d : Tree) (v x y : Pc) (s : Sm) (Sl Sp Sq Sd : List Nat)
  (hn : NodeAt w n pl (some b) v s) (hb : NodeAt w b (some c) pd x (smW (.node (.node p y q) x d))) (hcn : NodeAt w c pp pq y (smW (.node p y q))) (hl : Rep w l pl Sl) (hp : Rep w p pp Sp) (hq' : Rep w q pq Sq) (hd : Rep w d pd Sd) (nd : (n :: (Sl ++ (b :: ((c :: (Sp ++ Sq)) ++ Sd)))).Nodup)
  (t1 : (wrap64 ((smW l).h - (smW (.node (.node p y q) x d)).h) == 2) = false) (t2 : (wrap64 ((smW l).h - (smW (.node (.node p y q) x d)).h) == -2) = true) (t3 : decide ((smW d).h < (smW (.node p y q)).h) = true) (hq : TP.repaired (.node l v (.node (.node p y q) x d)) = .node (.node l v p) y (.node q x d)) :
  Calls Tryz.prog 101 #[ptrV (some n)] w (RepairedPost w n l (.node (.node p y q) x d) v Sl (b :: ((c :: (Sp ++ Sq)) ++ Sd))) := by
 have q0 : w.cell? ⟨n, 0, none⟩ = some (ptrV pl) := (Go.Proofs.YtnomidpnofhjdaaGreatDoorW.PrintWords.blk_cell hn 0).trans rfl
 have q1 : w.cell? ⟨n, 1, none⟩ = some (ptrV (some b)) := (Go.Proofs.YtnomidpnofhjdaaGreatDoorW.PrintWords.blk_cell hn 1).trans rfl
 have q2 : w.cell? ⟨b, 0, none⟩ = some (ptrV (some c)) := (Go.Proofs.YtnomidpnofhjdaaGreatDoorW.PrintWords.blk_cell hb 0).trans rfl
 have q3 : w.cell? ⟨b, 1, none⟩ = some (ptrV pd) := (Go.Proofs.YtnomidpnofhjdaaGreatDoorW.PrintWords.blk_cell hb 1).trans rfl
 have HL := Lib.hid hl.sum
 have HR := Lib.hid hb.sum
 have HA := Lib.hid hd.sum
 have HM := Lib.hid hcn.sum
 have HN := Lib.hid hn
 have HB := Lib.hid hb
 have XL := Lib.hid hl
 have XP := Lib.hid hp
 have XQ2 := Lib.hid hq'
 have HC := Lib.hid hcn
 have XD := Lib.hid hd
 have XQ := Lib.hid hq
 have ND := Lib.hid nd
 clear hb hl hp hq' hcn hd hn hq nd
 simp only [ptrV, adr] at q1 q2
 simp only [ptrV, adr]
 go_enter Tryz.func101, Tryz.ntmps101
 go_wp2_with fail
 refine wp_region_still_lit (by kernel_rfl) (by kernel_rfl) ?_
 repeat still_step
 refine wpStill_step (fun K hK => ?_)
 go_simp
 refine ⟨_, (height_any _ pl _ HL.out), hK _ ?_⟩
 clear hK K
 repeat still_step
 refine wpStill_step (fun K hK => ?_)
 go_simp
 refine ⟨_, (height_any _ (some b) _ HR.out), hK _ ?_⟩
 clear hK K
 repeat still_step
 refine wpStill_nil ?_
 go_wp2_with fail
 obtain ⟨w1, e1⟩ : ∃ y, w.drew = y := ⟨_, rfl⟩
 rw [e1]
 have hu1 : UpdS [] w w1 := by subst e1; exact ⟨rfl, rfl, rfl, Nat.le_refl _, fun _ _ _ => rfl⟩
 have p1 : w1.cell? ⟨n, 1, none⟩ = some (.pointer (some ⟨b, 0, none⟩)) := by subst e1; exact q1
 have p2 : w1.cell? ⟨b, 0, none⟩ = some (.pointer (some ⟨c, 0, none⟩)) := by subst e1; exact q2
 have p3 : w1.cell? ⟨b, 1, none⟩ = some (ptrV pd) := by subst e1; exact q3
 have PA : Hid (SumAt w1 pd (smW d)) := by subst e1; exact HA
 have PM : Hid (SumAt w1 (some c) (smW (.node p y q))) := by subst e1; exact HM
 clear e1 q0 q1 q2 q3 HA HM HL HR
 refine wp_region_still_lit (by kernel_rfl) (by kernel_rfl) ?_
 repeat still_step
 refine wpStill_step (fun K hK => ?_)
 go_simp
 refine ⟨_, (height_any _ pd _ PA.out), hK _ ?_⟩
 clear hK K
 repeat still_step
 refine wpStill_step (fun K hK => ?_)
 go_simp
 refine ⟨_, (height_any _ (some c) _ PM.out), hK _ ?_⟩
 clear hK K
 repeat still_step
 refine wpStill_nil ?_
 go_wp2_with fail
 have hk : ∀ k : Nat, k < w.heap.size → w1.drew.heap[k]? = w.heap[k]? := fun k hk => hu1.block k hk (by simp)
 have nd := ND.out
 have ndn := List.nodup_cons.1 nd
 have nda := List.nodup_append.1 ndn.2
 have nd2 : (b :: c :: (Sp ++ (Sq ++ Sd))).Nodup := by
  have h := nda.2.1
  simpa [List.append_assoc] using h
 have nn := ndn.1
 simp only [List.cons_append, List.mem_cons, List.mem_append, not_or] at nn
 refine (turnRight_any w1.drew b c pd pp pq p q d x y _ _ Sp Sq Sd (by unfold NodeAt; rw [hk _ HB.out.lt]; exact HB.out) (by unfold NodeAt; rw [hk _ HC.out.lt]; exact HC.out) (XP.out.move fun k h => hk k (XP.out.lt k h)) (XQ2.out.move fun k h => hk k (XQ2.out.lt k h)) (XD.out.move fun k h => hk k (XD.out.lt k h)) nd2).mono ?_
 rintro e w2 ⟨rfl, hu2, hrep2⟩
 have hu02 : UpdS [b, c] w w2 := UpdS.trans (w1 := w1.drew) (S1 := [b, c]) ⟨hu1.os, hu1.tape, hu1.output, hu1.size, fun k h _ => hk k h⟩ hu2 (Fresh.refl _ _)
 have hn2 : NodeAt w2 n pl (some b) v s := by unfold NodeAt; rw [hu02.block n HN.out.lt (by simp only [List.mem_cons, List.not_mem_nil, or_false, not_or]; exact ⟨nn.2.1, nn.2.2.1⟩)]; exact HN.out
 have q1 : w2.cell? ⟨n, 1, none⟩ = some (.pointer (some ⟨b, 0, none⟩)) := (Go.Proofs.YtnomidpnofhjdaaGreatDoorW.PrintWords.blk_cell hn2 1).trans rfl
 have q2 := Go.Proofs.YtnomidpnofhjdaaGreatDoorW.PrintWords.blk_frozen hn2 1
 clear p1 p2 p3 hk
 go_wp2_with fail
 obtain ⟨w3, e3⟩ : ∃ z, w2.setCell ⟨n, 1, none⟩ (.pointer (adr (some c))) = z := ⟨_, rfl⟩
 rw [e3]
 have hu3 : UpdS [n] w2 w3 := by subst e3; exact ((Upd.refl n w2).set _).upds
 have hn3 : NodeAt w3 n pl (some c) v s := by subst e3; exact Go.Proofs.YtnomidpnofhjdaaGreatDoorW.PrintWords.blk_set hn2 1 _
 clear e3 q1 q2
 have hrep3 := hrep2.upd hu3 (fun k hk => by
  simp only [List.mem_singleton]; rintro rfl
  simp only [List.mem_cons, List.mem_append] at hk
  rcases hk with h | h | h | h | h
  ·exact nn.2.2.1 h
  ·exact nn.2.2.2.1.1 h
  ·exact nn.2.1 h
  ·exact nn.2.2.2.1.2 h
  ·exact nn.2.2.2.2 h)
 have ndS : ∀ k ∈ Sl, k ≠ n ∧ k ∉ b :: ((c :: (Sp ++ Sq)) ++ Sd) :=
  fun k hk => ⟨fun e => ndn.1 (by subst e; exact List.mem_append_left _ hk), fun hm => nda.2.2 _ hk _ hm rfl⟩
 have hl3 : Rep w3 l pl Sl := (XL.out.upd hu02 (fun k hk hm => (ndS k hk).2 (by simp only [List.mem_cons, List.not_mem_nil, or_false] at hm; rcases hm with rfl | rfl <;> simp))).upd hu3 (fun k hk hm => (ndS k hk).1 (by simpa using hm))
 obtain ⟨c', pl3, pr3, S1, S2, ec, eS, hc3, hp3, hq3⟩ := hrep3
 obtain rfl : c = c' := by simpa using ec
 simp only [List.cons.injEq, true_and] at eS
 have perm0 : (n :: (Sl ++ (b :: ((c :: (Sp ++ Sq)) ++ Sd)))).Perm (n :: c :: (Sl ++ (S1 ++ S2))) := by
  refine List.Perm.cons n ?_
  rw [← eS]
  refine List.Perm.trans ?_ (List.perm_middle (a := c) (l₁ := Sl) (l₂ := Sp ++ b :: (Sq ++ Sd)))
  refine List.Perm.append_left Sl ?_
  have h1 : (b :: (c :: (Sp ++ Sq) ++ Sd)).Perm (c :: b :: (Sp ++ (Sq ++ Sd))) := by
   have := List.Perm.swap c b (Sp ++ (Sq ++ Sd)); simpa [List.append_assoc] using this
  exact h1.trans (List.Perm.cons c List.perm_middle.symm)
 refine (turnLeft_any w3 n c pl pr3 pl3 l p (.node q x d) v y s _ Sl S1 S2 hn3 hc3 hl3 hp3 hq3 (perm0.nodup_iff.1 nd)).mono ?_
 rintro e w4 ⟨rfl, hu4, hrep4⟩
 go_wp2_with fail
 go_ret
 refine ⟨some c, _, rfl, ?_, by rw [XQ.out]; exact hrep4, ?_⟩
 ·have mb : ∀ k ∈ [b, c], k ∈ n :: (Sl ++ (b :: ((c :: (Sp ++ Sq)) ++ Sd))) := by
   intro k hk; simp only [List.mem_cons, List.not_mem_nil, or_false] at hk; rcases hk with rfl | rfl <;> simp
  have mn : ∀ k ∈ [n], k ∈ n :: (Sl ++ (b :: ((c :: (Sp ++ Sq)) ++ Sd))) := by
   intro k hk; simp only [List.mem_singleton] at hk; simp [hk]
  have mc : ∀ k ∈ [n, c], k ∈ n :: (Sl ++ (b :: ((c :: (Sp ++ Sq)) ++ Sd))) := by
   intro k hk; simp only [List.mem_cons, List.not_mem_nil, or_false] at hk; rcases hk with rfl | rfl <;> simp
  exact ((hu02.mono mb).trans (hu3.mono mn) (Fresh.refl _ _)).trans (hu4.mono mc) (Fresh.refl _ _)
 ·refine List.Perm.trans ?_ perm0.symm
  have h := List.Perm.swap n c (Sl ++ (S1 ++ S2))
  simpa [List.append_assoc] using h
theorem repaired_any (w : World) (n : Nat) (pl pr : Option Nat) (l r : Tree) (v : Pc) (s : Sm) (Sl Sr : List Nat)
  (hn : NodeAt w n pl pr v s) (hl : Rep w l pl Sl) (hr : Rep w r pr Sr) (nd : (n :: (Sl ++ Sr)).Nodup) (hc : TP.cnt l + TP.cnt r ≤ 100000000000) :
  Calls Tryz.prog 101 #[ptrV (some n)] w (RepairedPost w n l r v Sl Sr) := by
 have hh := hd_is l r hc
 unfold hd at hh
 by_cases c1 : TP.hgt l = TP.hgt r + 2
 ·cases l with
  | nil => simp only [TP.hgt] at c1; omega
  | node a x m =>
   obtain ⟨b, pa, pm, Sa, Sm_, rfl, rfl, hb, ha, hm⟩ := hl
   simp only [TP.cnt] at hc
   have e1 : (wrap64 ((smW (.node a x m)).h - (smW r).h) == 2) = true := by rw [hh]; simp only [beq_iff_eq]; omega
   have ea := (smW_hc a (by omega)).1
   have em := (smW_hc m (by omega)).1
   by_cases c2 : TP.hgt a < TP.hgt m
   ·cases m with
    | nil => simp only [TP.hgt] at c2; omega
    | node p y q =>
     obtain ⟨c, pp, pq, Sp, Sq, rfl, rfl, hcn, hp, hq⟩ := hm
     exact repaired_right2 w n b c pr pa pp pq a p q r v x y s Sa Sp Sq Sr hn hb hcn ha hp hq hr nd e1 (by rw [ea, em]; simp only [decide_eq_true_eq]; omega)
      (by simp only [TP.repaired]; rw [if_pos c1]; simp only [TP.inL]; rw [if_pos c2]; rfl)
   ·exact repaired_right1 w n b pr pa pm a m r v x s Sa Sm_ Sr hn hb ha hm hr nd e1 (by rw [ea, em]; simp only [decide_eq_false_iff_not]; omega)
      (by simp only [TP.repaired]; rw [if_pos c1]; simp only [TP.inL]; rw [if_neg c2]; rfl)
 ·have e1 : (wrap64 ((smW l).h - (smW r).h) == 2) = false := by rw [hh]; simp only [beq_eq_false_iff_ne]; omega
  by_cases c3 : TP.hgt r = TP.hgt l + 2
  ·have e2 : (wrap64 ((smW l).h - (smW r).h) == -2) = true := by rw [hh]; simp only [beq_iff_eq]; omega
   cases r with
   | nil => simp only [TP.hgt] at c3; omega
   | node m x c =>
    obtain ⟨b, pm, pc, Sm_, Sc, rfl, rfl, hb, hm, hc'⟩ := hr
    simp only [TP.cnt] at hc
    have ec := (smW_hc c (by omega)).1
    have em := (smW_hc m (by omega)).1
    by_cases c2 : TP.hgt c < TP.hgt m
    ·cases m with
     | nil => simp only [TP.hgt] at c2; omega
     | node p y q =>
      obtain ⟨d, pp, pq, Sp, Sq, rfl, rfl, hcn, hp, hq⟩ := hm
      exact repaired_left2 w n b d pl pc pp pq l p q c v x y s Sl Sp Sq Sc hn hb hcn hl hp hq hc' nd e1 e2 (by rw [ec, em]; simp only [decide_eq_true_eq]; omega)
       (by simp only [TP.repaired]; rw [if_neg c1, if_pos c3]; simp only [TP.inR]; rw [if_pos c2]; rfl)
    ·exact repaired_left1 w n b pl pm pc l m c v x s Sl Sm_ Sc hn hb hl hm hc' nd e1 e2 (by rw [ec, em]; simp only [decide_eq_false_iff_not]; omega)
       (by simp only [TP.repaired]; rw [if_neg c1, if_pos c3]; simp only [TP.inR]; rw [if_neg c2]; rfl)
  ·have e2 : (wrap64 ((smW l).h - (smW r).h) == -2) = false := by rw [hh]; simp only [beq_eq_false_iff_ne]; omega
   exact repaired_none w n pl pr l r v s Sl Sr hn hl hr nd e1 e2 (by simp only [TP.repaired]; rw [if_neg c1, if_neg c3])
end Go.Proofs.YtnomidpnofhjdaaGreatDoor
