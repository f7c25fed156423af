/- A node turned right and left, walked. -/
import Derived.Test.YtnomidpnofhjdaaGreatDoorTr1
namespace Go.Proofs.YtnomidpnofhjdaaGreatDoor
open Go.RowKit Go.Proofs.YtnomidpnofhjdaaGreatDoorW.PrintMore
set_option maxHeartbeats 1000000 in
set_option maxRecDepth 100000 in
theorem turnRight_any (w : World) (n b : Nat) (pr pa pm : Option Nat) (a m r : Tree) (v x : Pc) (s s2 : Sm) (Sa Sm_ Sr : List Nat)
  (hn : NodeAt w n (some b) pr v s) (hb : NodeAt w b pa pm x s2) (ha : Rep w a pa Sa) (hm : Rep w m pm Sm_) (hr : Rep w r pr Sr) (nd : (n :: b :: (Sa ++ (Sm_ ++ Sr))).Nodup) :
  Calls Tryz.prog 119 #[ptrV (some n)] w fun e w' => e = .returned (ptrV (some b)) ∧ UpdS [n, b] w w' ∧ Rep w' (.node a x (.node m v r)) (some b) (b :: (Sa ++ (n :: (Sm_ ++ Sr)))) := by
 have q0 : w.cell? ⟨n, 0, none⟩ = some (ptrV (some b)) := (Go.Proofs.YtnomidpnofhjdaaGreatDoorW.PrintWords.blk_cell hn 0).trans rfl
 have q1 : w.cell? ⟨b, 1, none⟩ = some (ptrV pm) := (Go.Proofs.YtnomidpnofhjdaaGreatDoorW.PrintWords.blk_cell hb 1).trans rfl
 have q2 := Go.Proofs.YtnomidpnofhjdaaGreatDoorW.PrintWords.blk_frozen hn 0
 simp only [ptrV, adr] at q0
 simp only [ptrV, adr]
 go_enter Tryz.func119, Tryz.ntmps119
 go_wp2_with fail
 obtain ⟨w1, e1⟩ : ∃ y, w.setCell ⟨n, 0, none⟩ (.pointer (adr pm)) = y := ⟨_, rfl⟩
 rw [e1]
 have hu1 : UpdS [n] w w1 := by subst e1; exact ((Upd.refl n w).set _).upds
 have hn1 : NodeAt w1 n pm pr v s := by subst e1; exact Go.Proofs.YtnomidpnofhjdaaGreatDoorW.PrintWords.blk_set hn 0 _
 have hbn : b ≠ n := by rintro rfl; simp at nd
 have hb1 : NodeAt w1 b pa pm x s2 := by unfold NodeAt; rw [hu1.block b hb.lt (by simpa using hbn)]; exact hb
 clear e1 q0 q1 q2
 have nd' := nd
 simp only [List.nodup_cons, List.mem_cons, List.mem_append, not_or, List.nodup_append] at nd'
 have ha1 := ha.upd hu1 (fun k hk => by simp only [List.mem_singleton]; rintro rfl; exact nd'.1.2.1 hk)
 have hm1 := hm.upd hu1 (fun k hk => by simp only [List.mem_singleton]; rintro rfl; exact nd'.1.2.2.1 hk)
 have hr1 := hr.upd hu1 (fun k hk => by simp only [List.mem_singleton]; rintro rfl; exact nd'.1.2.2.2 hk)
 have ndn : (n :: (Sm_ ++ Sr)).Nodup := by
  have := nd; simp only [List.nodup_cons, List.mem_cons, List.mem_append, not_or] at this ⊢
  exact ⟨this.1.2.2, (List.nodup_append.1 this.2.2).2.1⟩
 refine (sum_node w1 n pm pr m r v s Sm_ Sr hn1 hm1 hr1 ndn).mono ?_
 rintro e w2 ⟨rfl, hu2, hrep2⟩
 have hb2 : NodeAt w2 b pa pm x s2 := by unfold NodeAt; rw [hu2.block b hb1.lt (by simpa using hbn)]; exact hb1
 have ha2 := ha1.upd hu2 (fun k hk => by simp only [List.mem_singleton]; rintro rfl; exact nd'.1.2.1 hk)
 have q1 : w2.cell? ⟨b, 1, none⟩ = some (.pointer (adr pm)) := (Go.Proofs.YtnomidpnofhjdaaGreatDoorW.PrintWords.blk_cell hb2 1).trans rfl
 have q2 := Go.Proofs.YtnomidpnofhjdaaGreatDoorW.PrintWords.blk_frozen hb2 1
 go_wp2_with fail
 obtain ⟨w3, e3⟩ : ∃ y, w2.setCell ⟨b, 1, none⟩ (.pointer (adr (some n))) = y := ⟨_, rfl⟩
 rw [e3]
 have hu3 : UpdS [b] w2 w3 := by subst e3; exact ((Upd.refl b w2).set _).upds
 have hb3 : NodeAt w3 b pa (some n) x s2 := by subst e3; exact Go.Proofs.YtnomidpnofhjdaaGreatDoorW.PrintWords.blk_set hb2 1 _
 clear e3 q1 q2
 have ha3 := ha2.upd hu3 (fun k hk => by simp only [List.mem_singleton]; rintro rfl; exact nd'.2.1.1 hk)
 have hrep3 := hrep2.upd hu3 (fun k hk => by
  simp only [List.mem_singleton]; rintro rfl
  simp only [List.mem_cons, List.mem_append] at hk
  rcases hk with h | h | h
  ·exact hbn h
  ·exact nd'.2.1.2.1 h
  ·exact nd'.2.1.2.2 h)
 have ndb : (b :: (Sa ++ (n :: (Sm_ ++ Sr)))).Nodup := ((List.Perm.swap b n _).trans (List.Perm.cons b List.perm_middle.symm)).nodup_iff.1 nd
 refine (sum_node w3 b pa (some n) a (.node m v r) x s2 Sa (n :: (Sm_ ++ Sr)) hb3 ha3 hrep3 ndb).mono ?_
 rintro e w4 ⟨rfl, hu4, hrep4⟩
 go_wp2_with fail
 go_ret
 refine ⟨rfl, ?_, hrep4⟩
 have m1 : ∀ k ∈ [n], k ∈ [n, b] := by simp
 have m2 : ∀ k ∈ [b], k ∈ [n, b] := by simp
 exact (((hu1.mono m1).trans (hu2.mono m1) (Fresh.refl _ _)).trans (hu3.mono m2) (Fresh.refl _ _)).trans (hu4.mono m2) (Fresh.refl _ _)
set_option maxHeartbeats 1000000 in
set_option maxRecDepth 100000 in
theorem turnLeft_any (w : World) (n b : Nat) (pl pc pm : Option Nat) (l m c : Tree) (v x : Pc) (s s2 : Sm) (Sl Sm_ Sc : List Nat)
  (hn : NodeAt w n pl (some b) v s) (hb : NodeAt w b pm pc x s2) (hl : Rep w l pl Sl) (hm : Rep w m pm Sm_) (hc : Rep w c pc Sc) (nd : (n :: b :: (Sl ++ (Sm_ ++ Sc))).Nodup) :
  Calls Tryz.prog 118 #[ptrV (some n)] w fun e w' => e = .returned (ptrV (some b)) ∧ UpdS [n, b] w w' ∧ Rep w' (.node (.node l v m) x c) (some b) (b :: ((n :: (Sl ++ Sm_)) ++ Sc)) := by
 have q0 : w.cell? ⟨n, 1, none⟩ = some (ptrV (some b)) := (Go.Proofs.YtnomidpnofhjdaaGreatDoorW.PrintWords.blk_cell hn 1).trans rfl
 have q1 : w.cell? ⟨b, 0, none⟩ = some (ptrV pm) := (Go.Proofs.YtnomidpnofhjdaaGreatDoorW.PrintWords.blk_cell hb 0).trans rfl
 have q2 := Go.Proofs.YtnomidpnofhjdaaGreatDoorW.PrintWords.blk_frozen hn 1
 simp only [ptrV, adr] at q0
 simp only [ptrV, adr]
 go_enter Tryz.func118, Tryz.ntmps118
 go_wp2_with fail
 obtain ⟨w1, e1⟩ : ∃ y, w.setCell ⟨n, 1, none⟩ (.pointer (adr pm)) = y := ⟨_, rfl⟩
 rw [e1]
 have hu1 : UpdS [n] w w1 := by subst e1; exact ((Upd.refl n w).set _).upds
 have hn1 : NodeAt w1 n pl pm v s := by subst e1; exact Go.Proofs.YtnomidpnofhjdaaGreatDoorW.PrintWords.blk_set hn 1 _
 have hbn : b ≠ n := by rintro rfl; simp at nd
 have hb1 : NodeAt w1 b pm pc x s2 := by unfold NodeAt; rw [hu1.block b hb.lt (by simpa using hbn)]; exact hb
 clear e1 q0 q1 q2
 have nd' := nd
 simp only [List.nodup_cons, List.mem_cons, List.mem_append, not_or, List.nodup_append] at nd'
 have hl1 := hl.upd hu1 (fun k hk => by simp only [List.mem_singleton]; rintro rfl; exact nd'.1.2.1 hk)
 have hm1 := hm.upd hu1 (fun k hk => by simp only [List.mem_singleton]; rintro rfl; exact nd'.1.2.2.1 hk)
 have hc1 := hc.upd hu1 (fun k hk => by simp only [List.mem_singleton]; rintro rfl; exact nd'.1.2.2.2 hk)
 have ndn : (n :: (Sl ++ Sm_)).Nodup := by
  have h := nd; rw [← List.append_assoc] at h
  simp only [List.nodup_cons, List.mem_cons, List.mem_append, not_or] at h ⊢
  exact ⟨h.1.2.1, (List.nodup_append.1 h.2.2).1⟩
 refine (sum_node w1 n pl pm l m v s Sl Sm_ hn1 hl1 hm1 ndn).mono ?_
 rintro e w2 ⟨rfl, hu2, hrep2⟩
 have hb2 : NodeAt w2 b pm pc x s2 := by unfold NodeAt; rw [hu2.block b hb1.lt (by simpa using hbn)]; exact hb1
 have hc2 := hc1.upd hu2 (fun k hk => by simp only [List.mem_singleton]; rintro rfl; exact nd'.1.2.2.2 hk)
 have q1 : w2.cell? ⟨b, 0, none⟩ = some (.pointer (adr pm)) := (Go.Proofs.YtnomidpnofhjdaaGreatDoorW.PrintWords.blk_cell hb2 0).trans rfl
 have q2 := Go.Proofs.YtnomidpnofhjdaaGreatDoorW.PrintWords.blk_frozen hb2 0
 go_wp2_with fail
 obtain ⟨w3, e3⟩ : ∃ y, w2.setCell ⟨b, 0, none⟩ (.pointer (adr (some n))) = y := ⟨_, rfl⟩
 rw [e3]
 have hu3 : UpdS [b] w2 w3 := by subst e3; exact ((Upd.refl b w2).set _).upds
 have hb3 : NodeAt w3 b (some n) pc x s2 := by subst e3; exact Go.Proofs.YtnomidpnofhjdaaGreatDoorW.PrintWords.blk_set hb2 0 _
 clear e3 q1 q2
 have hc3 := hc2.upd hu3 (fun k hk => by simp only [List.mem_singleton]; rintro rfl; exact nd'.2.1.2.2 hk)
 have hrep3 := hrep2.upd hu3 (fun k hk => by
  simp only [List.mem_singleton]; rintro rfl
  simp only [List.mem_cons, List.mem_append] at hk
  rcases hk with h | h | h
  ·exact hbn h
  ·exact nd'.2.1.1 h
  ·exact nd'.2.1.2.1 h)
 have ndb : (b :: ((n :: (Sl ++ Sm_)) ++ Sc)).Nodup := by
  have h := (List.Perm.swap b n (Sl ++ (Sm_ ++ Sc))).nodup_iff.1 nd
  simpa [List.append_assoc] using h
 refine (sum_node w3 b (some n) pc (.node l v m) c x s2 (n :: (Sl ++ Sm_)) Sc hb3 hrep3 hc3 ndb).mono ?_
 rintro e w4 ⟨rfl, hu4, hrep4⟩
 go_wp2_with fail
 go_ret
 refine ⟨rfl, ?_, hrep4⟩
 have m1 : ∀ k ∈ [n], k ∈ [n, b] := by simp
 have m2 : ∀ k ∈ [b], k ∈ [n, b] := by simp
 exact (((hu1.mono m1).trans (hu2.mono m1) (Fresh.refl _ _)).trans (hu3.mono m2) (Fresh.refl _ _)).trans (hu4.mono m2) (Fresh.refl _ _)
end Go.Proofs.YtnomidpnofhjdaaGreatDoor
