/- insert, walked: a tree of at most 90000000000 nodes, a rank in it. -/
import Derived.Test.YtciabhncmdpeeaaDoorTr4
import Derived.Deep.RegionWith
namespace Go.Proofs.YtciabhncmdpeeaaDoor
open Go.RowKit Go.Proofs.YtciabhncmdpeeaaDoorW.PrintMore
def TreePost (w : World) (S : List Nat) (t : Tree) (e : Ending) (w' : World) : Prop :=
 ∃ p S', e = .returned (ptrV p) ∧ UpdS S w w' ∧ Rep w' t p S' ∧ S'.Nodup ∧ Fresh S S' w
theorem left_new {w w2 : World} {b : Nat} {pl pr p' : Option Nat} {l' r : Tree} {x : Pc} {s : Sm} {Sl Sr S' : List Nat}
  (hb : NodeAt w b pl pr x s) (hr : Rep w r pr Sr) (nd : (b :: (Sl ++ Sr)).Nodup) (hu : UpdS Sl w w2) (hrep : Rep w2 l' p' S') (nd' : S'.Nodup) (fr : Fresh Sl S' w) :
  NodeAt w2 b pl pr x s ∧ NodeAt (w2.setCell ⟨b, 0, none⟩ (ptrV p')) b p' pr x s ∧ Rep (w2.setCell ⟨b, 0, none⟩ (ptrV p')) l' p' S' ∧ Rep (w2.setCell ⟨b, 0, none⟩ (ptrV p')) r pr Sr ∧ (b :: (S' ++ Sr)).Nodup
   ∧ UpdS (b :: (Sl ++ Sr)) w (w2.setCell ⟨b, 0, none⟩ (ptrV p')) ∧ Fresh (b :: (Sl ++ Sr)) (b :: (S' ++ Sr)) w := by
 have n1 := List.nodup_cons.1 nd
 have n2 := List.nodup_append.1 n1.2
 have nb : b ∉ Sl := fun h => n1.1 (List.mem_append_left _ h)
 have nbr : b ∉ Sr := fun h => n1.1 (List.mem_append_right _ h)
 have hb2 : NodeAt w2 b pl pr x s := by unfold NodeAt; rw [hu.block b hb.lt nb]; exact hb
 have bS : b ∉ S' := fun h => by rcases fr b h with h | h; exact nb h; have := hb.lt; omega
 have rS : ∀ k ∈ Sr, k ∉ S' := fun k hk h => by
  rcases fr k h with h | h
  ·exact n2.2.2 _ h _ hk rfl
  ·have := hr.lt k hk; omega
 have hs : UpdS [b] w2 (w2.setCell ⟨b, 0, none⟩ (ptrV p')) := ((Upd.refl b w2).set _).upds
 refine ⟨hb2, Go.Proofs.YtciabhncmdpeeaaDoorW.PrintWords.blk_set hb2 0 _, hrep.upd hs (fun k hk => by simp only [List.mem_singleton]; rintro rfl; exact bS hk), (hr.upd hu (fun k hk h => n2.2.2 _ h _ hk rfl)).upd hs (fun k hk => by simp only [List.mem_singleton]; rintro rfl; exact nbr hk), ?_, ?_, ?_⟩
 ·refine List.nodup_cons.2 ⟨fun h => ?_, List.nodup_append.2 ⟨nd', n2.2.1, fun a ha c hc e => rS c hc (e ▸ ha)⟩⟩
  rcases List.mem_append.1 h with h | h
  ·exact bS h
  ·exact nbr h
 ·exact (hu.mono (fun k hk => by simp [hk])).trans (hs.mono (S1 := b :: (Sl ++ Sr)) (fun k hk => by simp only [List.mem_singleton] at hk; simp [hk])) (Fresh.refl _ _)
 ·intro k hk
  simp only [List.mem_cons, List.mem_append] at hk
  rcases hk with rfl | hk | hk
  ·exact .inl (by simp)
  ·rcases fr k hk with h | h
   ·exact .inl (by simp [h])
   ·exact .inr h
  ·exact .inl (by simp [hk])
theorem right_new {w w2 : World} {b : Nat} {pl pr p' : Option Nat} {l r' : Tree} {x : Pc} {s : Sm} {Sl Sr S' : List Nat}
  (hb : NodeAt w b pl pr x s) (hl : Rep w l pl Sl) (nd : (b :: (Sl ++ Sr)).Nodup) (hu : UpdS Sr w w2) (hrep : Rep w2 r' p' S') (nd' : S'.Nodup) (fr : Fresh Sr S' w) :
  NodeAt w2 b pl pr x s ∧ NodeAt (w2.setCell ⟨b, 1, none⟩ (ptrV p')) b pl p' x s ∧ Rep (w2.setCell ⟨b, 1, none⟩ (ptrV p')) r' p' S' ∧ Rep (w2.setCell ⟨b, 1, none⟩ (ptrV p')) l pl Sl ∧ (b :: (Sl ++ S')).Nodup
   ∧ UpdS (b :: (Sl ++ Sr)) w (w2.setCell ⟨b, 1, none⟩ (ptrV p')) ∧ Fresh (b :: (Sl ++ Sr)) (b :: (Sl ++ S')) w := by
 have n1 := List.nodup_cons.1 nd
 have n2 := List.nodup_append.1 n1.2
 have nb : b ∉ Sl := fun h => n1.1 (List.mem_append_left _ h)
 have nbr : b ∉ Sr := fun h => n1.1 (List.mem_append_right _ h)
 have hb2 : NodeAt w2 b pl pr x s := by unfold NodeAt; rw [hu.block b hb.lt nbr]; exact hb
 have bS : b ∉ S' := fun h => by rcases fr b h with h | h; exact nbr h; have := hb.lt; omega
 have rS : ∀ k ∈ Sl, k ∉ S' := fun k hk h => by
  rcases fr k h with h | h
  ·exact n2.2.2 _ hk _ h rfl
  ·have := hl.lt k hk; omega
 have hs : UpdS [b] w2 (w2.setCell ⟨b, 1, none⟩ (ptrV p')) := ((Upd.refl b w2).set _).upds
 refine ⟨hb2, Go.Proofs.YtciabhncmdpeeaaDoorW.PrintWords.blk_set hb2 1 _, hrep.upd hs (fun k hk => by simp only [List.mem_singleton]; rintro rfl; exact bS hk), (hl.upd hu (fun k hk h => n2.2.2 _ hk _ h rfl)).upd hs (fun k hk => by simp only [List.mem_singleton]; rintro rfl; exact nb hk), ?_, ?_, ?_⟩
 ·refine List.nodup_cons.2 ⟨fun h => ?_, List.nodup_append.2 ⟨n2.1, nd', fun a ha c hc e => rS a ha (e ▸ hc)⟩⟩
  rcases List.mem_append.1 h with h | h
  ·exact nb h
  ·exact bS h
 ·exact (hu.mono (fun k hk => by simp [hk])).trans (hs.mono (S1 := b :: (Sl ++ Sr)) (fun k hk => by simp only [List.mem_singleton] at hk; simp [hk])) (Fresh.refl _ _)
 ·intro k hk
  simp only [List.mem_cons, List.mem_append] at hk
  rcases hk with rfl | hk | hk
  ·exact .inl (by simp)
  ·exact .inl (by simp [hk])
  ·rcases fr k hk with h | h
   ·exact .inl (by simp [h])
   ·exact .inr h
theorem Fresh.trans {S S1 S2 : List Nat} {w w1 : World} (h : Fresh S S1 w) (k : Fresh S1 S2 w1) (hle : w.heap.size ≤ w1.heap.size) : Fresh S S2 w := fun j hj => by
 rcases k j hj with h1 | h1
 ·exact h j h1
 ·exact .inr (by omega)
theorem RepairedPost.post {w w3 : World} {b : Nat} {l r : Tree} {x : Pc} {Sl Sr S : List Nat} {e : Ending} {w4 : World}
  (h : RepairedPost w3 b l r x Sl Sr e w4) (hu : UpdS S w w3) (fr : Fresh S (b :: (Sl ++ Sr)) w) (nd : (b :: (Sl ++ Sr)).Nodup) : TreePost w S (TP.repaired (.node l x r)) e w4 := by
 obtain ⟨p, S', he, hu4, hrep, hp⟩ := h
 exact ⟨p, S', he, hu.trans hu4 fr, hrep, hp.nodup_iff.2 nd, fun k hk => fr k (hp.mem_iff.1 hk)⟩
theorem count_rep (w : World) (t : Tree) (p : Option Nat) (S : List Nat) (h : Rep w t p S) (hc : TP.cnt t ≤ 1000000000000) :
  Calls Tryd.prog 105 #[ptrV p] w fun e w' => e = .returned (.int .i64 (TP.cnt t)) ∧ w' = w := by
 have := count_any w p (smW t) h.sum
 rw [(smW_hc t hc).2] at this; exact this
theorem height_rep (w : World) (t : Tree) (p : Option Nat) (S : List Nat) (h : Rep w t p S) (hc : TP.cnt t ≤ 1000000000000) :
  Calls Tryd.prog 125 #[ptrV p] w fun e w' => e = .returned (.int .i64 (TP.hgt t)) ∧ w' = w := by
 have := height_any w p (smW t) h.sum
 rw [(smW_hc t hc).1] at this; exact this
theorem turnR_cnt (t : Tree) : TP.cnt (TP.turnR t) = TP.cnt t := by
 unfold TP.turnR; split
 ·simp only [TP.cnt]; omega
 ·rfl
theorem turnL_cnt (t : Tree) : TP.cnt (TP.turnL t) = TP.cnt t := by
 unfold TP.turnL; split
 ·simp only [TP.cnt]; omega
 ·rfl
theorem inL_cnt (t : Tree) : TP.cnt (TP.inL t) = TP.cnt t := by
 cases t with
 | nil => rfl
 | node a x b => simp only [TP.inL]; split; exact turnL_cnt _; rfl
theorem inR_cnt (t : Tree) : TP.cnt (TP.inR t) = TP.cnt t := by
 cases t with
 | nil => rfl
 | node a x b => simp only [TP.inR]; split; exact turnR_cnt _; rfl
theorem repaired_cnt (l r : Tree) (v : Pc) : TP.cnt (TP.repaired (.node l v r)) = TP.cnt l + TP.cnt r + 1 := by
 simp only [TP.repaired]
 split
 ·rw [turnR_cnt]; simp only [TP.cnt, inL_cnt]
 ·split
  ·rw [turnL_cnt]; simp only [TP.cnt, inR_cnt]
  ·rfl
end Go.Proofs.YtciabhncmdpeeaaDoor
