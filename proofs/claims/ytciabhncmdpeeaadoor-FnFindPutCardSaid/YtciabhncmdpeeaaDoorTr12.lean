/- first, walked: a tree with a node. -/
import Derived.Test.YtciabhncmdpeeaaDoorTr11
namespace Go.Proofs.YtciabhncmdpeeaaDoor
open Go.RowKit Go.Proofs.YtciabhncmdpeeaaDoorW.PrintWords Go.Proofs.YtciabhncmdpeeaaDoorW.PrintLast Go.Proofs.YtciabhncmdpeeaaDoorW.PrintMore
structure FirstN (w : World) (v : Pc) (k : Nat) (p : Value) (wr : World) : Prop where
 st : ∃ (t : Tree) (q : Option Nat) (S : List Nat), p = ptrV q ∧ Rep wr t q S ∧ TP.first t = some v ∧ TP.cnt t ≤ k
 same : wr = w
theorem pbox_at {w0 : World} {b : Nat} {u v x : Value} (h : w0.heap[b]? = some (.cells #[u, v, x] 50 (0, 0))) : w0.cell? ⟨b, 0, none⟩ = some u ∧ w0.cell? ⟨b, 1, none⟩ = some v ∧ w0.cell? ⟨b, 2, none⟩ = some x :=
 ⟨(Go.Proofs.YtciabhncmdpeeaaDoorW.PrintWords.blk_cell h 0).trans rfl, (Go.Proofs.YtciabhncmdpeeaaDoorW.PrintWords.blk_cell h 1).trans rfl, (Go.Proofs.YtciabhncmdpeeaaDoorW.PrintWords.blk_cell h 2).trans rfl⟩
set_option maxHeartbeats 1000000 in
set_option maxRecDepth 100000 in
theorem first_any (w : World) (t : Tree) (p : Option Nat) (S : List Nat) (v : Pc) (hrep : Rep w t p S) (hv : TP.first t = some v) :
  Calls Tryd.prog 110 #[ptrV p] w fun e w' => e = .returned (pcV v) ∧ Below w.heap.size w w' := by
 obtain ⟨w1, e1⟩ : ∃ y, w.alloc (.cells #[.int .i64 0, .int .i64 0, .int .i64 0] 50) = y := ⟨_, rfl⟩
 have hb1 : Below w.heap.size w w1 := by subst e1; exact (Below.refl _ w).alloc (Nat.le_refl _) _
 have HX1 : Aside0 (w1.heap[w.heap.size]? = some (.cells #[.int .i64 0, .int .i64 0, .int .i64 0] 50 (0, 0))) := ⟨by subst e1; exact Go.Proofs.YtciabhncmdpeeaaDoorW.PrintWords.blk_new w (.cells #[.int .i64 0, .int .i64 0, .int .i64 0] 50)⟩
 have HB1 := Aside0.mk hb1
 have AT : Aside0 (FirstN w1 v (TP.cnt t) (ptrV p) w1) := ⟨⟨⟨t, p, S, rfl, hrep.below hb1, hv, Nat.le_refl _⟩, rfl⟩⟩
 clear hrep hv hb1
 generalize ptrV p = pv at AT ⊢
 go_enter Tryd.func110, Tryd.ntmps110
 go_wp2
 go_loopg [0] (TP.cnt t) (fun k p wr => FirstN w1 v k p wr)
 case atStart => exact AT.out
 case round =>
  clear AT
  obtain ⟨⟨t', q, S', rfl, hrep, hv, hk⟩, hw⟩ := hrel
  have hw2 := hw.symm
  clear hw
  subst hw2
  cases t' with
  | nil => simp [TP.first] at hv
  | node l x r =>
   obtain ⟨b, pl, pr, Sl, Sr, rfl, rfl, hb, hl, hr⟩ := hrep
   have q0 : w1.cell? ⟨b, 0, none⟩ = some (ptrV pl) := (Go.Proofs.YtciabhncmdpeeaaDoorW.PrintWords.blk_cell hb 0).trans rfl
   have q2 : w1.cell? ⟨b, 2, none⟩ = some (.int .i64 x.off) := (Go.Proofs.YtciabhncmdpeeaaDoorW.PrintWords.blk_cell hb 2).trans rfl
   have q3 : w1.cell? ⟨b, 3, none⟩ = some (.int .i64 x.len) := (Go.Proofs.YtciabhncmdpeeaaDoorW.PrintWords.blk_cell hb 3).trans rfl
   have q4 : w1.cell? ⟨b, 4, none⟩ = some (.int .i64 x.brk) := (Go.Proofs.YtciabhncmdpeeaaDoorW.PrintWords.blk_cell hb 4).trans rfl
   cases l with
   | nil =>
    obtain ⟨rfl, -⟩ := hl
    simp only [TP.first, Option.some.injEq] at hv
    subst hv
    obtain ⟨p0, p1, p2⟩ := pbox_at HX1.out
    have f0 := Go.Proofs.YtciabhncmdpeeaaDoorW.PrintWords.blk_frozen HX1.out 0
    have f1 := Go.Proofs.YtciabhncmdpeeaaDoorW.PrintWords.blk_frozen HX1.out 1
    have f2 := Go.Proofs.YtciabhncmdpeeaaDoorW.PrintWords.blk_frozen HX1.out 2
    have BX : Aside0 _ := ⟨Go.Proofs.YtciabhncmdpeeaaDoorW.PrintWords.blk_put (Go.Proofs.YtciabhncmdpeeaaDoorW.PrintWords.blk_put (Go.Proofs.YtciabhncmdpeeaaDoorW.PrintWords.blk_put HX1.out 0 (.int .i64 x.off) rfl) 1 (.int .i64 x.len) rfl) 2 (.int .i64 x.brk) rfl⟩
    clear hb hr hk e1
    simp only [ptrV, adr] at q0 ⊢
    go_wp2
    refine bodyPost_ret (v := pcV x) (results_single rfl (.cell w.heap.size 50 _ (0, 0) _ rfl BX.out Tryd.underlying50 rfl (by kernel_rfl) .nil)) rfl ⟨rfl, ?_⟩
    exact ((HB1.out.setCell (p := ⟨w.heap.size, 0, none⟩) (Nat.le_refl _) _).setCell (p := ⟨w.heap.size, 1, none⟩) (Nat.le_refl _) _).setCell (p := ⟨w.heap.size, 2, none⟩) (Nat.le_refl _) _
   | node a y c =>
    obtain ⟨b2, pl2, pr2, Sl2, Sr2, rfl, rfl, hb2, hl2, hr2⟩ := hl
    have HL := Lib.hid (show Rep w1 (.node a y c) (some b2) (b2 :: (Sl2 ++ Sr2)) from ⟨b2, pl2, pr2, Sl2, Sr2, rfl, rfl, hb2, hl2, hr2⟩)
    have HV := Lib.hid (show TP.first (.node a y c) = some v from hv)
    have HK := Lib.hid hk
    clear hb hr hb2 hl2 hr2 hv hk q2 q3 q4 e1
    simp only [ptrV, adr] at q0 ⊢
    go_wp2
    go_roundg (TP.cnt (.node a y c))
    case measure => have := HK.out; simp only [TP.cnt] at this ⊢; omega
    case rel => exact ⟨⟨_, some b2, _, rfl, HL.out, HV.out, Nat.le_refl _⟩, rfl⟩
end Go.Proofs.YtciabhncmdpeeaaDoor
