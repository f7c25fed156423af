/- split, walked: a tree of at most 40000000000 nodes. -/
import Derived.Test.YtciabhncmdpeeaaDoorTr14
namespace Go.Proofs.YtciabhncmdpeeaaDoor
open Go.RowKit Go.Proofs.YtciabhncmdpeeaaDoorW.PrintWords Go.Proofs.YtciabhncmdpeeaaDoorW.PrintLast Go.Proofs.YtciabhncmdpeeaaDoorW.PrintMore
theorem split_cnt (t : Tree) : ∀ k, TP.cnt (TP.split t k).1 + TP.cnt (TP.split t k).2 = TP.cnt t := by
 induction t with
 | nil => intro k; simp [TP.split, TP.cnt]
 | node l x r ihl ihr =>
  intro k
  simp only [TP.split]
  by_cases c : k ≤ TP.cnt l
  ·rw [if_pos c]; have := ihl k
   simp only [TP.cnt]; rw [joined_cnt _ _ _ _ (Nat.le_refl _)]; omega
  ·rw [if_neg c]; have := ihr (k - TP.cnt l - 1)
   simp only [TP.cnt]; rw [joined_cnt _ _ _ _ (Nat.le_refl _)]; omega
def SplitPost (w : World) (S : List Nat) (x y : Tree) (e : Ending) (w' : World) : Prop :=
 ∃ p1 S1 p2 S2, e = .returned (.tuple #[ptrV p1, ptrV p2]) ∧ UpdS S w w' ∧ Rep w' x p1 S1 ∧ Rep w' y p2 S2 ∧ (S1 ++ S2).Nodup ∧ Fresh S (S1 ++ S2) w
theorem split_off {w : World} {Sn So S1 S2 : List Nat} (nd : (Sn ++ So).Nodup) (lt : ∀ k ∈ So, k < w.heap.size) (f1 : Fresh Sn (S1 ++ S2) w) : ∀ k ∈ S1 ++ S2, k ∉ So := fun k hk ho => by
 rcases f1 k hk with h | h
 ·exact (List.nodup_append.1 nd).2.2 k h k ho rfl
 ·have := lt k ho; omega
theorem split_fin_l {w w1 w2 : World} {b : Nat} {Sl Sr S1 S2 S' : List Nat} {L1 J : Tree} {p1 p' : Option Nat} (nd : (Sl ++ Sr).Nodup) (lt : ∀ k ∈ Sr, k < w.heap.size)
  (hu1 : UpdS Sl w w1) (hr1 : Rep w1 L1 p1 S1) (n1 : (S1 ++ S2).Nodup) (f1 : Fresh Sl (S1 ++ S2) w)
  (hu2 : UpdS (S2 ++ Sr) w1 w2) (hr2 : Rep w2 J p' S') (n2 : S'.Nodup) (f2 : Fresh (S2 ++ Sr) S' w1) :
  SplitPost w (b :: (Sl ++ Sr)) L1 J (.returned (.tuple #[ptrV p1, ptrV p'])) w2 := by
 have D := split_off nd lt f1
 have n12 := List.nodup_append.1 n1
 have dis : ∀ k ∈ S1, k ∉ S2 ++ Sr := fun k hk h => by
  rcases List.mem_append.1 h with h | h
  ·exact n12.2.2 k hk k h rfl
  ·exact D k (List.mem_append_left _ hk) h
 have fS : Fresh (b :: (Sl ++ Sr)) (S2 ++ Sr) w := fun k hk => by
  rcases List.mem_append.1 hk with h | h
  ·rcases f1 k (List.mem_append_right _ h) with h | h
   ·exact .inl (by simp [h])
   ·exact .inr h
  ·exact .inl (by simp [h])
 refine ⟨p1, S1, p', S', rfl, (hu1.mono (S1 := b :: (Sl ++ Sr)) (fun k hk => by simp [hk])).trans hu2 fS, hr1.upd hu2 dis, hr2, List.nodup_append.2 ⟨n12.1, n2, fun a ha c hc e => ?_⟩, fun k hk => ?_⟩
 ·subst e
  rcases f2 a hc with h | h
  ·exact dis a ha h
  ·have := hr1.lt a ha; omega
 ·rcases List.mem_append.1 hk with h | h
  ·rcases f1 k (List.mem_append_left _ h) with h | h
   ·exact .inl (by simp [h])
   ·exact .inr h
  ·rcases f2 k h with h | h
   ·exact fS k h
   ·exact .inr (Nat.le_trans hu1.size h)
theorem split_fin_r {w w1 w2 : World} {b : Nat} {Sl Sr S1 S2 S' : List Nat} {R2 J : Tree} {p2 p' : Option Nat} (nd : (Sr ++ Sl).Nodup) (lt : ∀ k ∈ Sl, k < w.heap.size)
  (hu1 : UpdS Sr w w1) (hr1 : Rep w1 R2 p2 S2) (n1 : (S1 ++ S2).Nodup) (f1 : Fresh Sr (S1 ++ S2) w)
  (hu2 : UpdS (Sl ++ S1) w1 w2) (hr2 : Rep w2 J p' S') (n2 : S'.Nodup) (f2 : Fresh (Sl ++ S1) S' w1) :
  SplitPost w (b :: (Sl ++ Sr)) J R2 (.returned (.tuple #[ptrV p', ptrV p2])) w2 := by
 have D := split_off nd lt f1
 have n12 := List.nodup_append.1 n1
 have dis : ∀ k ∈ S2, k ∉ Sl ++ S1 := fun k hk h => by
  rcases List.mem_append.1 h with h | h
  ·exact D k (List.mem_append_right _ hk) h
  ·exact n12.2.2 k h k hk rfl
 have fS : Fresh (b :: (Sl ++ Sr)) (Sl ++ S1) w := fun k hk => by
  rcases List.mem_append.1 hk with h | h
  ·exact .inl (by simp [h])
  ·rcases f1 k (List.mem_append_left _ h) with h | h
   ·exact .inl (by simp [h])
   ·exact .inr h
 refine ⟨p', S', p2, S2, rfl, (hu1.mono (S1 := b :: (Sl ++ Sr)) (fun k hk => by simp [hk])).trans hu2 fS, hr2, hr1.upd hu2 dis, List.nodup_append.2 ⟨n2, n12.2.1, fun a ha c hc e => ?_⟩, fun k hk => ?_⟩
 ·subst e
  rcases f2 a ha with h | h
  ·exact dis a hc h
  ·have := hr1.lt a hc; omega
 ·rcases List.mem_append.1 hk with h | h
  ·rcases f2 k h with h | h
   ·exact fS k h
   ·exact .inr (Nat.le_trans hu1.size h)
  ·rcases f1 k (List.mem_append_right _ h) with h | h
   ·exact .inl (by simp [h])
   ·exact .inr h
set_option maxHeartbeats 16000000 in
set_option maxRecDepth 100000 in
theorem split_any (t : Tree) : ∀ (w : World) (p : Option Nat) (S : List Nat) (rk : Int) (k : Nat), rk = k → Rep w t p S → S.Nodup → TP.cnt t ≤ 40000000000 → k ≤ TP.cnt t →
  Calls Tryd.prog 71 #[ptrV p, .int .i64 rk] w (SplitPost w S (TP.split t k).1 (TP.split t k).2) := by
 induction t with
 | nil =>
  intro w p S rk k hrk hrep nd hc hk
  obtain ⟨rfl, rfl⟩ := hrep
  simp only [ptrV, adr]
  go_enter Tryd.func71, Tryd.ntmps71
  go_wp2
  refine bodyPost_ret (results_list (rs := [.tmp 4, .tmp 5]) rfl (by simp) (.tmp (.tmp .nil))) rfl ?_
  exact ⟨none, [], none, [], rfl, UpdS.refl _ _, ⟨rfl, rfl⟩, ⟨rfl, rfl⟩, by simp, fun j hj => by simp at hj⟩
 | node l x r ihl ihr =>
  intro w p S rk k hrk hrep nd hc hk
  subst hrk
  obtain ⟨b, pl, pr, Sl, Sr, rfl, rfl, hb, hl, hr⟩ := hrep
  simp only [TP.cnt] at hc hk
  have q0 : w.cell? ⟨b, 0, none⟩ = some (ptrV pl) := (Go.Proofs.YtciabhncmdpeeaaDoorW.PrintWords.blk_cell hb 0).trans rfl
  have q1 : w.cell? ⟨b, 1, none⟩ = some (ptrV pr) := (Go.Proofs.YtciabhncmdpeeaaDoorW.PrintWords.blk_cell hb 1).trans rfl
  have hl0 := Lib.hid hl
  have hr0 := Lib.hid hr
  have Hb0 := Lib.hid hb
  have nd1 := List.nodup_cons.1 nd
  have ND := Lib.hid nd1.2
  have NB : Hid (b ∉ Sl ++ Sr) := nd1.1
  have HC := Lib.hid hc
  have HK := Lib.hid hk
  have hblt := Lib.hid hb.lt
  have NSL : Hid Sl.Nodup := (List.nodup_append.1 nd1.2).1
  have NSR : Hid Sr.Nodup := (List.nodup_append.1 nd1.2).2.1
  clear hb hl hr nd nd1
  simp only [ptrV, adr]
  by_cases c : k ≤ TP.cnt l
  ·have ct : ((k : Int) ≤ (TP.cnt l : Int)) = True := eq_true (by omega)
   have C := Lib.hid c
   have N2 : Hid (TP.cnt l ≤ 40000000000) := (by omega : TP.cnt l ≤ 40000000000)
   clear hc hk c
   go_enter Tryd.func71, Tryd.ntmps71
   go_wp2_with fail
   refine (count_rep w l pl Sl hl0.out (by have := HC.out; omega)).mono ?_
   rintro e w' ⟨rfl, hw⟩
   rw [hw]
   clear hw w'
   go_wp2_with fail
   refine (ihl w pl Sl _ k rfl hl0.out NSL.out N2.out C.out).mono ?_
   rintro e w1 ⟨p1, S1, p2, S2, rfl, hu1, hr1, hr2, n1, f1⟩
   have hbn : NodeAt w1 b pl pr x (smW (.node l x r)) := by unfold NodeAt; rw [hu1.block b hblt.out (fun h => NB.out (List.mem_append_left _ h))]; exact Hb0.out
   have c1 : w1.cell? ⟨b, 1, none⟩ = some (ptrV pr) := (Go.Proofs.YtciabhncmdpeeaaDoorW.PrintWords.blk_cell hbn 1).trans rfl
   have c2 : w1.cell? ⟨b, 2, none⟩ = some (.int .i64 x.off) := (Go.Proofs.YtciabhncmdpeeaaDoorW.PrintWords.blk_cell hbn 2).trans rfl
   have c3 : w1.cell? ⟨b, 3, none⟩ = some (.int .i64 x.len) := (Go.Proofs.YtciabhncmdpeeaaDoorW.PrintWords.blk_cell hbn 3).trans rfl
   have c4 : w1.cell? ⟨b, 4, none⟩ = some (.int .i64 x.brk) := (Go.Proofs.YtciabhncmdpeeaaDoorW.PrintWords.blk_cell hbn 4).trans rfl
   have HR1 := Lib.hid (hr0.out.upd hu1 (fun j hj h => (List.nodup_append.1 ND.out).2.2 j h j hj rfl))
   have HU1 := Lib.hid hu1
   have HL1 := Lib.hid hr1
   have HL2 := Lib.hid hr2
   have NN1 := Lib.hid n1
   have FF1 := Lib.hid f1
   have DD := split_off ND.out hr0.out.lt f1
   have N3 : Hid (S2 ++ Sr).Nodup := List.nodup_append.2 ⟨(List.nodup_append.1 n1).2.1, NSR.out, fun a ha d hd e => DD a (List.mem_append_right _ ha) (e ▸ hd)⟩
   have N4 : Hid (TP.cnt (TP.split l k).2 + TP.cnt r < 80000000000) := Lib.hid (by have := split_cnt l k; have := HC.out; omega)
   clear q0 q1 hbn hu1 hr1 hr2 n1 f1 DD
   go_wp2_with fail
   have HLd := Lib.hid (HL2.out.move (w' := w1.drew) (fun _ _ => rfl))
   have HRd := Lib.hid (HR1.out.move (w' := w1.drew) (fun _ _ => rfl))
   go_region_with (go_at_call 108; refine (joined_any x 80000000000 _ (TP.split l k).2 r p2 pr S2 Sr N4.out (Nat.le_refl _) HLd.out HRd.out N3.out).mono ?_; rintro e w2 ⟨p', S', rfl, hu, hrep, nd', fr⟩; have HU2 := Lib.hid (UpdS.mk (S := S2 ++ Sr) (w := w1) hu.os hu.tape hu.output hu.size hu.block); have FF2 : Hid (Fresh (S2 ++ Sr) S' w1) := fr; have HJ := Lib.hid hrep; have NJ := Lib.hid nd'; clear hu fr hrep nd')
   all_goals
    go_wp2
    refine bodyPost_ret (results_list (rs := [.tmp 4, .tmp 5]) rfl (by simp) (.tmp (.tmp .nil))) rfl ?_
    simp only [TP.split]
    rw [if_pos C.out]
    exact split_fin_l ND.out hr0.out.lt HU1.out HL1.out NN1.out FF1.out HU2.out HJ.out NJ.out FF2.out
  ·have ct : ((k : Int) ≤ (TP.cnt l : Int)) = False := eq_false (by omega)
   have C := Lib.hid c
   have N2 : Hid (TP.cnt r ≤ 40000000000) := (by omega : TP.cnt r ≤ 40000000000)
   have RKEQ : Hid (wrap64 (wrap64 ((k : Int) - (TP.cnt l : Int)) - 1) = ((k - TP.cnt l - 1 : Nat) : Int)) := Lib.hid (by
    unfold wrap64; omega)
   have N5 : Hid (k - TP.cnt l - 1 ≤ TP.cnt r) := (by omega : k - TP.cnt l - 1 ≤ TP.cnt r)
   clear hc hk c
   go_enter Tryd.func71, Tryd.ntmps71
   go_wp2_with fail
   refine (count_rep w l pl Sl hl0.out (by have := HC.out; omega)).mono ?_
   rintro e w' ⟨rfl, hw⟩
   rw [hw]
   clear hw w'
   go_wp2_with fail
   refine (ihr w pr Sr _ (k - TP.cnt l - 1) RKEQ.out hr0.out NSR.out N2.out N5.out).mono ?_
   rintro e w1 ⟨p1, S1, p2, S2, rfl, hu1, hr1, hr2, n1, f1⟩
   have hbn : NodeAt w1 b pl pr x (smW (.node l x r)) := by unfold NodeAt; rw [hu1.block b hblt.out (fun h => NB.out (List.mem_append_right _ h))]; exact Hb0.out
   have c1 : w1.cell? ⟨b, 0, none⟩ = some (ptrV pl) := (Go.Proofs.YtciabhncmdpeeaaDoorW.PrintWords.blk_cell hbn 0).trans rfl
   have c2 : w1.cell? ⟨b, 2, none⟩ = some (.int .i64 x.off) := (Go.Proofs.YtciabhncmdpeeaaDoorW.PrintWords.blk_cell hbn 2).trans rfl
   have c3 : w1.cell? ⟨b, 3, none⟩ = some (.int .i64 x.len) := (Go.Proofs.YtciabhncmdpeeaaDoorW.PrintWords.blk_cell hbn 3).trans rfl
   have c4 : w1.cell? ⟨b, 4, none⟩ = some (.int .i64 x.brk) := (Go.Proofs.YtciabhncmdpeeaaDoorW.PrintWords.blk_cell hbn 4).trans rfl
   have ND2 : Hid (Sr ++ Sl).Nodup := Lib.hid (List.perm_append_comm.nodup_iff.1 ND.out)
   have HL1 := Lib.hid (hl0.out.upd hu1 (fun j hj h => (List.nodup_append.1 ND.out).2.2 j hj j h rfl))
   have HU1 := Lib.hid hu1
   have HR1 := Lib.hid hr1
   have HR2 := Lib.hid hr2
   have NN1 := Lib.hid n1
   have FF1 := Lib.hid f1
   have DD := split_off ND2.out hl0.out.lt f1
   have N3 : Hid (Sl ++ S1).Nodup := List.nodup_append.2 ⟨NSL.out, (List.nodup_append.1 n1).1, fun a ha d hd e => DD d (List.mem_append_left _ hd) (e ▸ ha)⟩
   have N4 : Hid (TP.cnt l + TP.cnt (TP.split r (k - TP.cnt l - 1)).1 < 80000000000) := Lib.hid (by have := split_cnt r (k - TP.cnt l - 1); have := HC.out; omega)
   clear q0 q1 hbn hu1 hr1 hr2 n1 f1 DD
   go_wp2_with fail
   have HLd := Lib.hid (HL1.out.move (w' := w1.drew) (fun _ _ => rfl))
   have HRd := Lib.hid (HR1.out.move (w' := w1.drew) (fun _ _ => rfl))
   go_region_with (go_at_call 108; refine (joined_any x 80000000000 _ l (TP.split r (k - TP.cnt l - 1)).1 pl p1 Sl S1 N4.out (Nat.le_refl _) HLd.out HRd.out N3.out).mono ?_; rintro e w2 ⟨p', S', rfl, hu, hrep, nd', fr⟩; have HU2 := Lib.hid (UpdS.mk (S := Sl ++ S1) (w := w1) hu.os hu.tape hu.output hu.size hu.block); have FF2 : Hid (Fresh (Sl ++ S1) S' w1) := fr; have HJ := Lib.hid hrep; have NJ := Lib.hid nd'; clear hu fr hrep nd')
   all_goals
    go_wp2
    refine bodyPost_ret (results_list (rs := [.tmp 4, .tmp 5]) rfl (by simp) (.tmp (.tmp .nil))) rfl ?_
    simp only [TP.split]
    rw [if_neg C.out]
    exact split_fin_r ND2.out hl0.out.lt HU1.out HR2.out NN1.out FF1.out HU2.out HJ.out NJ.out FF2.out
end Go.Proofs.YtciabhncmdpeeaaDoor
