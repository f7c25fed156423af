/- insert, walked: a tree of at most 90000000000 nodes, a rank in it. -/
import Derived.Test.YtnomidpnofhjdaaGreatDoorTr4
import Derived.Deep.RegionWith
namespace Go.Proofs.YtnomidpnofhjdaaGreatDoor
open Go.RowKit Go.Proofs.YtnomidpnofhjdaaGreatDoorW.PrintMore
def TreePost (w : World) (S : List Nat) (t : Tree) (e : Ending) (w' : World) : Prop :=
 ∃ p S', e = .returned (ptrV p) ∧ UpdS S w w' ∧ Rep w' t p S' ∧ S'.Nodup ∧ Fresh S S' w
theorem left_new {w w2 : World} {b : Nat} {pl pr p' : Option Nat} {l' r : Tree} {x : Pc} {s : Sm} {Sl Sr S' : List Nat}
  (hb : NodeAt w b pl pr x s) (hr : Rep w r pr Sr) (nd : (b :: (Sl ++ Sr)).Nodup) (hu : UpdS Sl w w2) (hrep : Rep w2 l' p' S') (nd' : S'.Nodup) (fr : Fresh Sl S' w) :
  NodeAt w2 b pl pr x s ∧ NodeAt (w2.setCell ⟨b, 0, none⟩ (ptrV p')) b p' pr x s ∧ Rep (w2.setCell ⟨b, 0, none⟩ (ptrV p')) l' p' S' ∧ Rep (w2.setCell ⟨b, 0, none⟩ (ptrV p')) r pr Sr ∧ (b :: (S' ++ Sr)).Nodup
   ∧ UpdS (b :: (Sl ++ Sr)) w (w2.setCell ⟨b, 0, none⟩ (ptrV p')) ∧ Fresh (b :: (Sl ++ Sr)) (b :: (S' ++ Sr)) w := by
 have n1 := List.nodup_cons.1 nd
 have n2 := List.nodup_append.1 n1.2
 have nb : b ∉ Sl := fun h => n1.1 (List.mem_append_left _ h)
 have nbr : b ∉ Sr := fun h => n1.1 (List.mem_append_right _ h)
 have hb2 : NodeAt w2 b pl pr x s := by unfold NodeAt; rw [hu.block b hb.lt nb]; exact hb
 have bS : b ∉ S' := fun h => by rcases fr b h with h | h; exact nb h; have := hb.lt; omega
 have rS : ∀ k ∈ Sr, k ∉ S' := fun k hk h => by
  rcases fr k h with h | h
  ·exact n2.2.2 _ h _ hk rfl
  ·have := hr.lt k hk; omega
 have hs : UpdS [b] w2 (w2.setCell ⟨b, 0, none⟩ (ptrV p')) := ((Upd.refl b w2).set _).upds
 refine ⟨hb2, Go.Proofs.YtnomidpnofhjdaaGreatDoorW.PrintWords.blk_set hb2 0 _, hrep.upd hs (fun k hk => by simp only [List.mem_singleton]; rintro rfl; exact bS hk), (hr.upd hu (fun k hk h => n2.2.2 _ h _ hk rfl)).upd hs (fun k hk => by simp only [List.mem_singleton]; rintro rfl; exact nbr hk), ?_, ?_, ?_⟩
 ·refine List.nodup_cons.2 ⟨fun h => ?_, List.nodup_append.2 ⟨nd', n2.2.1, fun a ha c hc e => rS c hc (e ▸ ha)⟩⟩
  rcases List.mem_append.1 h with h | h
  ·exact bS h
  ·exact nbr h
 ·exact (hu.mono (fun k hk => by simp [hk])).trans (hs.mono (S1 := b :: (Sl ++ Sr)) (fun k hk => by simp only [List.mem_singleton] at hk; simp [hk])) (Fresh.refl _ _)
 ·intro k hk
  simp only [List.mem_cons, List.mem_append] at hk
  rcases hk with rfl | hk | hk
  ·exact .inl (by simp)
  ·rcases fr k hk with h | h
   ·exact .inl (by simp [h])
   ·exact .inr h
  ·exact .inl (by simp [hk])
theorem right_new {w w2 : World} {b : Nat} {pl pr p' : Option Nat} {l r' : Tree} {x : Pc} {s : Sm} {Sl Sr S' : List Nat}
  (hb : NodeAt w b pl pr x s) (hl : Rep w l pl Sl) (nd : (b :: (Sl ++ Sr)).Nodup) (hu : UpdS Sr w w2) (hrep : Rep w2 r' p' S') (nd' : S'.Nodup) (fr : Fresh Sr S' w) :
  NodeAt w2 b pl pr x s ∧ NodeAt (w2.setCell ⟨b, 1, none⟩ (ptrV p')) b pl p' x s ∧ Rep (w2.setCell ⟨b, 1, none⟩ (ptrV p')) r' p' S' ∧ Rep (w2.setCell ⟨b, 1, none⟩ (ptrV p')) l pl Sl ∧ (b :: (Sl ++ S')).Nodup
   ∧ UpdS (b :: (Sl ++ Sr)) w (w2.setCell ⟨b, 1, none⟩ (ptrV p')) ∧ Fresh (b :: (Sl ++ Sr)) (b :: (Sl ++ S')) w := by
 have n1 := List.nodup_cons.1 nd
 have n2 := List.nodup_append.1 n1.2
 have nb : b ∉ Sl := fun h => n1.1 (List.mem_append_left _ h)
 have nbr : b ∉ Sr := fun h => n1.1 (List.mem_append_right _ h)
 have hb2 : NodeAt w2 b pl pr x s := by unfold NodeAt; rw [hu.block b hb.lt nbr]; exact hb
 have bS : b ∉ S' := fun h => by rcases fr b h with h | h; exact nbr h; have := hb.lt; omega
 have rS : ∀ k ∈ Sl, k ∉ S' := fun k hk h => by
  rcases fr k h with h | h
  ·exact n2.2.2 _ hk _ h rfl
  ·have := hl.lt k hk; omega
 have hs : UpdS [b] w2 (w2.setCell ⟨b, 1, none⟩ (ptrV p')) := ((Upd.refl b w2).set _).upds
 refine ⟨hb2, Go.Proofs.YtnomidpnofhjdaaGreatDoorW.PrintWords.blk_set hb2 1 _, hrep.upd hs (fun k hk => by simp only [List.mem_singleton]; rintro rfl; exact bS hk), (hl.upd hu (fun k hk h => n2.2.2 _ hk _ h rfl)).upd hs (fun k hk => by simp only [List.mem_singleton]; rintro rfl; exact nb hk), ?_, ?_, ?_⟩
 ·refine List.nodup_cons.2 ⟨fun h => ?_, List.nodup_append.2 ⟨n2.1, nd', fun a ha c hc e => rS a ha (e ▸ hc)⟩⟩
  rcases List.mem_append.1 h with h | h
  ·exact nb h
  ·exact bS h
 ·exact (hu.mono (fun k hk => by simp [hk])).trans (hs.mono (S1 := b :: (Sl ++ Sr)) (fun k hk => by simp only [List.mem_singleton] at hk; simp [hk])) (Fresh.refl _ _)
 ·intro k hk
  simp only [List.mem_cons, List.mem_append] at hk
  rcases hk with rfl | hk | hk
  ·exact .inl (by simp)
  ·exact .inl (by simp [hk])
  ·rcases fr k hk with h | h
   ·exact .inl (by simp [h])
   ·exact .inr h
theorem Fresh.trans {S S1 S2 : List Nat} {w w1 : World} (h : Fresh S S1 w) (k : Fresh S1 S2 w1) (hle : w.heap.size ≤ w1.heap.size) : Fresh S S2 w := fun j hj => by
 rcases k j hj with h1 | h1
 ·exact h j h1
 ·exact .inr (by omega)
theorem RepairedPost.post {w w3 : World} {b : Nat} {l r : Tree} {x : Pc} {Sl Sr S : List Nat} {e : Ending} {w4 : World}
  (h : RepairedPost w3 b l r x Sl Sr e w4) (hu : UpdS S w w3) (fr : Fresh S (b :: (Sl ++ Sr)) w) (nd : (b :: (Sl ++ Sr)).Nodup) : TreePost w S (TP.repaired (.node l x r)) e w4 := by
 obtain ⟨p, S', he, hu4, hrep, hp⟩ := h
 exact ⟨p, S', he, hu.trans hu4 fr, hrep, hp.nodup_iff.2 nd, fun k hk => fr k (hp.mem_iff.1 hk)⟩
theorem count_rep (w : World) (t : Tree) (p : Option Nat) (S : List Nat) (h : Rep w t p S) (hc : TP.cnt t ≤ 1000000000000) :
  Calls Tryz.prog 81 #[ptrV p] w fun e w' => e = .returned (.int .i64 (TP.cnt t)) ∧ w' = w := by
 have := count_any w p (smW t) h.sum
 rw [(smW_hc t hc).2] at this; exact this
theorem height_rep (w : World) (t : Tree) (p : Option Nat) (S : List Nat) (h : Rep w t p S) (hc : TP.cnt t ≤ 1000000000000) :
  Calls Tryz.prog 113 #[ptrV p] w fun e w' => e = .returned (.int .i64 (TP.hgt t)) ∧ w' = w := by
 have := height_any w p (smW t) h.sum
 rw [(smW_hc t hc).1] at this; exact this
theorem turnR_cnt (t : Tree) : TP.cnt (TP.turnR t) = TP.cnt t := by
 unfold TP.turnR; split
 ·simp only [TP.cnt]; omega
 ·rfl
theorem turnL_cnt (t : Tree) : TP.cnt (TP.turnL t) = TP.cnt t := by
 unfold TP.turnL; split
 ·simp only [TP.cnt]; omega
 ·rfl
theorem inL_cnt (t : Tree) : TP.cnt (TP.inL t) = TP.cnt t := by
 cases t with
 | nil => rfl
 | node a x b => simp only [TP.inL]; split; exact turnL_cnt _; rfl
theorem inR_cnt (t : Tree) : TP.cnt (TP.inR t) = TP.cnt t := by
 cases t with
 | nil => rfl
 | node a x b => simp only [TP.inR]; split; exact turnR_cnt _; rfl
theorem repaired_cnt (l r : Tree) (v : Pc) : TP.cnt (TP.repaired (.node l v r)) = TP.cnt l + TP.cnt r + 1 := by
 simp only [TP.repaired]
 split
 ·rw [turnR_cnt]; simp only [TP.cnt, inL_cnt]
 ·split
  ·rw [turnL_cnt]; simp only [TP.cnt, inR_cnt]
  ·rfl
theorem insert_cnt (v : Pc) (t : Tree) : ∀ k, TP.cnt (TP.insert v t k) = TP.cnt t + 1 := by
 induction t with
 | nil => intro k; rfl
 | node l x r ihl ihr =>
  intro k; simp only [TP.insert]
  split
  ·rw [repaired_cnt, ihl]; simp only [TP.cnt]; omega
  ·rw [repaired_cnt, ihr]; simp only [TP.cnt]; omega
set_option maxHeartbeats 1000000 in
set_option maxRecDepth 100000 in
theorem insert_any (v : Pc) (t : Tree) : ∀ (w : World) (p : Option Nat) (S : List Nat) (rk : Int) (k : Nat), rk = k → Rep w t p S → S.Nodup → TP.cnt t ≤ 90000000000 → k ≤ TP.cnt t →
  Calls Tryz.prog 71 #[ptrV p, .int .i64 rk, pcV v] w (TreePost w S (TP.insert v t k)) := by
 induction t with
 | nil =>
  intro w p S rk k hrk hrep nd hc hk
  subst hrk
  obtain ⟨rfl, rfl⟩ := hrep
  simp only [ptrV, adr]
  go_enter Tryz.func71, Tryz.ntmps71
  go_wp2_with fail
  refine (join3_any _ none none .nil .nil v [] [] ⟨rfl, rfl⟩ ⟨rfl, rfl⟩ (by simp)).mono ?_
  rintro e w2 ⟨n, rfl, hn, hu, hrep⟩
  go_wp2_with fail
  go_ret
  have hB : Below w.heap.size w (w.alloc (.cells #[.int .i64 v.off, .int .i64 v.len, .int .i64 v.brk] 84)) := (Below.refl _ w).alloc (Nat.le_refl _) _
  have hsz := hB.size
  exact ⟨_, _, rfl, (UpdS.of_below (S := []) hB).trans hu (Fresh.refl _ _), hrep, by simp, fun j hj => .inr (by simp only [List.append_nil, List.mem_singleton] at hj; omega)⟩
 | node l x r ihl ihr =>
  intro w p S rk k hrk hrep nd hc hk
  subst hrk
  obtain ⟨b, pl, pr, Sl, Sr, rfl, rfl, hb, hl, hr⟩ := hrep
  simp only [TP.cnt] at hc hk
  obtain ⟨w0, e0⟩ : ∃ y, w.alloc (.cells #[.int .i64 v.off, .int .i64 v.len, .int .i64 v.brk] 84) = y := ⟨_, rfl⟩
  have HB0 : Below w.heap.size w w0 := by subst e0; exact (Below.refl _ w).alloc (Nat.le_refl _) _
  have hu0 : UpdS [] w w0 := UpdS.of_below HB0
  have hb0 : NodeAt w0 b pl pr x (smW (.node l x r)) := by unfold NodeAt; rw [hu0.block b hb.lt (by simp)]; exact hb
  have hl0 := Lib.hid (hl.upd hu0 (by simp))
  have hr0 := Lib.hid (hr.upd hu0 (by simp))
  have hbx : w0.heap[w.heap.size]? = some (.cells #[.int .i64 v.off, .int .i64 v.len, .int .i64 v.brk] 84 (0, 0)) := by subst e0; exact Go.Proofs.YtnomidpnofhjdaaGreatDoorW.PrintWords.blk_new w (.cells #[.int .i64 v.off, .int .i64 v.len, .int .i64 v.brk] 84)
  have q0 : w0.cell? ⟨b, 0, none⟩ = some (ptrV pl) := (Go.Proofs.YtnomidpnofhjdaaGreatDoorW.PrintWords.blk_cell hb0 0).trans rfl
  have q1 : w0.cell? ⟨b, 1, none⟩ = some (ptrV pr) := (Go.Proofs.YtnomidpnofhjdaaGreatDoorW.PrintWords.blk_cell hb0 1).trans rfl
  have q2 : w0.cell? ⟨w.heap.size, 0, none⟩ = some (.int .i64 v.off) := (Go.Proofs.YtnomidpnofhjdaaGreatDoorW.PrintWords.blk_cell hbx 0).trans rfl
  have q3 : w0.cell? ⟨w.heap.size, 1, none⟩ = some (.int .i64 v.len) := (Go.Proofs.YtnomidpnofhjdaaGreatDoorW.PrintWords.blk_cell hbx 1).trans rfl
  have q4 : w0.cell? ⟨w.heap.size, 2, none⟩ = some (.int .i64 v.brk) := (Go.Proofs.YtnomidpnofhjdaaGreatDoorW.PrintWords.blk_cell hbx 2).trans rfl
  have HB0' := Lib.hid HB0
  have Hb0 := Lib.hid hb0
  have ND := Lib.hid nd
  have HC := Lib.hid hc
  have HK := Lib.hid hk
  have HU0 := Lib.hid hu0
  have hblt := Lib.hid hb.lt
  clear hb hl hr hu0 hb0 nd HB0
  simp only [ptrV, adr]
  by_cases c : k ≤ TP.cnt l
  ·have ct : ((k : Int) ≤ (TP.cnt l : Int)) = True := eq_true (by omega)
   clear hc hk
   go_enter Tryz.func71, Tryz.ntmps71
   go_wp2_with fail
   refine (count_rep w0 l pl Sl hl0.out (by have := HC.out; omega)).mono ?_
   rintro e w' ⟨rfl, hw⟩
   rw [hw]
   clear hw w'
   go_wp2_with fail
   have HLd := Lib.hid (hl0.out.move (w' := w0.drew) (fun _ _ => rfl))
   have nd1 := List.nodup_cons.1 ND.out
   have hc1 := HC.out
   have N1 : Hid Sl.Nodup := (List.nodup_append.1 nd1.2).1
   have N2 : Hid (TP.cnt l ≤ 90000000000) := (by omega : TP.cnt l ≤ 90000000000)
   have N3 : Hid (k ≤ TP.cnt l) := c
   clear nd1 hc1
   go_region_with (go_at_call 71; refine (ihl _ pl Sl _ k rfl HLd.out N1.out N2.out N3.out).mono ?_; rintro e w2 ⟨p', S', rfl, hu, hrep, nd', fr⟩; have L := left_new Hb0.out hr0.out ND.out (UpdS.mk hu.os hu.tape hu.output hu.size hu.block) hrep nd' fr; have c0 := (Go.Proofs.YtnomidpnofhjdaaGreatDoorW.PrintWords.blk_cell L.1 0); have f0 := Go.Proofs.YtnomidpnofhjdaaGreatDoorW.PrintWords.blk_frozen L.1 0; simp only [nodeCells, List.getElem?_toArray, List.getElem?_cons_zero] at c0)
   all_goals
    obtain ⟨_, hn3, hrep3, hr3, nd3, hu3, fr3⟩ := L
    go_wp2_with fail
    refine (repaired_any _ b p' pr _ _ x _ S' Sr hn3 hrep3 hr3 nd3 (by rw [insert_cnt]; have := HC.out; omega)).mono ?_
    intro e w4 hq
    have hq := hq.post ((HU0.out.mono (S1 := b :: (Sl ++ Sr)) (by simp)).trans hu3 (Fresh.refl _ _)) ((Fresh.refl _ w).trans fr3 HU0.out.size) nd3
    obtain ⟨p4, S4, rfl, hu4, hrep4, nd4, fr4⟩ := hq
    go_wp2_with fail
    go_ret
    exact ⟨p4, S4, rfl, hu4, by simp only [TP.insert]; rw [if_pos c]; exact hrep4, nd4, fr4⟩
  ·have ct : ((k : Int) ≤ (TP.cnt l : Int)) = False := eq_false (by omega)
   have N2 : Hid (TP.cnt r ≤ 90000000000) := (by omega : TP.cnt r ≤ 90000000000)
   have RKEQ : Hid (IntKind.i64.wrap (IntKind.i64.wrap ((k : Int) - (TP.cnt l : Int)) - 1) = ((k - TP.cnt l - 1 : Nat) : Int)) := Lib.hid (by
    rw [IntKind.wrap_i64, IntKind.wrap_i64]; omega)
   have N3 : Hid (k - TP.cnt l - 1 ≤ TP.cnt r) := (by omega : k - TP.cnt l - 1 ≤ TP.cnt r)
   have NC : Hid (¬ k ≤ TP.cnt l) := c
   clear hc hk c
   go_enter Tryz.func71, Tryz.ntmps71
   go_wp2_with fail
   refine (count_rep w0 l pl Sl hl0.out (by have := HC.out; omega)).mono ?_
   rintro e w' ⟨rfl, hw⟩
   rw [hw]
   clear hw w'
   go_wp2_with fail
   have HRd := Lib.hid (hr0.out.move (w' := w0.drew) (fun _ _ => rfl))
   have nd1 := List.nodup_cons.1 ND.out
   have N1 : Hid Sr.Nodup := (List.nodup_append.1 nd1.2).2.1
   clear nd1
   go_region_with (go_at_call 71; refine (ihr _ pr Sr _ (k - TP.cnt l - 1) (RKEQ.out) HRd.out N1.out N2.out N3.out).mono ?_; rintro e w2 ⟨p', S', rfl, hu, hrep, nd', fr⟩; have L := right_new Hb0.out hl0.out ND.out (UpdS.mk hu.os hu.tape hu.output hu.size hu.block) hrep nd' fr; have c0 := (Go.Proofs.YtnomidpnofhjdaaGreatDoorW.PrintWords.blk_cell L.1 1); have f0 := Go.Proofs.YtnomidpnofhjdaaGreatDoorW.PrintWords.blk_frozen L.1 1; simp only [nodeCells, List.getElem?_toArray, List.getElem?_cons_zero, List.getElem?_cons_succ] at c0)
   all_goals
    obtain ⟨_, hn3, hrep3, hr3, nd3, hu3, fr3⟩ := L
    go_wp2_with fail
    refine (repaired_any _ b pl p' _ _ x _ Sl S' hn3 hr3 hrep3 nd3 (by rw [insert_cnt]; have := HC.out; omega)).mono ?_
    intro e w4 hq
    have hq := hq.post ((HU0.out.mono (S1 := b :: (Sl ++ Sr)) (by simp)).trans hu3 (Fresh.refl _ _)) ((Fresh.refl _ w).trans fr3 HU0.out.size) nd3
    obtain ⟨p4, S4, rfl, hu4, hrep4, nd4, fr4⟩ := hq
    go_wp2_with fail
    go_ret
    exact ⟨p4, S4, rfl, hu4, by simp only [TP.insert]; rw [if_neg NC.out]; exact hrep4, nd4, fr4⟩
end Go.Proofs.YtnomidpnofhjdaaGreatDoor
