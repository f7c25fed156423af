/- together, walked: two trees of at most 40000000000 nodes together. -/
import Derived.Test.YtciabhncmdpeeaaDoorTr18
namespace Go.Proofs.YtciabhncmdpeeaaDoor
open Go.RowKit Go.Proofs.YtciabhncmdpeeaaDoorW.PrintWords Go.Proofs.YtciabhncmdpeeaaDoorW.PrintLast Go.Proofs.YtciabhncmdpeeaaDoorW.PrintMore
set_option maxHeartbeats 16000000 in
set_option maxRecDepth 100000 in
theorem together_any (a b : Tree) (w : World) (pa pb : Option Nat) (Sa Sb : List Nat) (hc : TP.cnt a + TP.cnt b ≤ 40000000000) (ha : Rep w a pa Sa) (hb : Rep w b pb Sb) (nd : (Sa ++ Sb).Nodup) :
  Calls Tryd.prog 75 #[ptrV pa, ptrV pb] w (TreePost w (Sa ++ Sb) (TP.together a b)) := by
 cases a with
 | nil =>
  obtain ⟨rfl, rfl⟩ := ha
  rw [show ptrV none = Value.pointer none from rfl]
  have HB := Lib.hid hb
  clear hb
  go_enter Tryd.func75, Tryd.ntmps75
  go_wp2
  go_ret
  exact ⟨pb, Sb, rfl, UpdS.refl _ _, HB.out, nd, fun j hj => .inl hj⟩
 | node l x r =>
  obtain ⟨b1, pl, pr, Sl, Sr, rfl, rfl, -, -, -⟩ := id ha
  have HA := Lib.hid ha
  clear ha
  obtain ⟨Sa, hSa⟩ : ∃ Sa, b1 :: (Sl ++ Sr) = Sa := ⟨_, rfl⟩
  rw [hSa] at HA nd ⊢
  clear hSa
  rw [show ptrV (some b1) = Value.pointer (some ⟨b1, 0, none⟩) from rfl]
  cases b with
  | nil =>
   obtain ⟨rfl, rfl⟩ := hb
   rw [show ptrV none = Value.pointer none from rfl]
   go_enter Tryd.func75, Tryd.ntmps75
   go_wp2
   go_ret
   exact ⟨some b1, Sa, rfl, UpdS.refl _ _, HA.out, by simpa using nd, fun j hj => .inl (by simp [hj])⟩
  | node d z ee =>
   obtain ⟨b2, pl2, pr2, Sl2, Sr2, rfl, rfl, -, -, -⟩ := id hb
   have HB := Lib.hid hb
   clear hb
   obtain ⟨Sb, hSb⟩ : ∃ Sb, b2 :: (Sl2 ++ Sr2) = Sb := ⟨_, rfl⟩
   rw [hSb] at HB nd ⊢
   clear hSb
   rw [show ptrV (some b2) = Value.pointer (some ⟨b2, 0, none⟩) from rfl]
   obtain ⟨f, fs, hf, -⟩ := TP.first_cons d z ee
   have HF := Lib.hid hf
   have ND := Lib.hid nd
   have HC := Lib.hid hc
   have N3 : Hid (0 < TP.cnt (.node d z ee)) := (TP.cnt_pos_of _ _ _ : 0 < TP.cnt (.node d z ee))
   have NSB : Hid Sb.Nodup := (List.nodup_append.1 nd).2.1
   clear hf nd hc
   go_enter Tryd.func75, Tryd.ntmps75
   go_wp2_with fail
   refine (first_any w (.node d z ee) (some b2) Sb f HB.out HF.out).mono ?_
   rintro e w1 ⟨rfl, hb1⟩
   obtain ⟨w2, e2⟩ : ∃ y, w1.alloc (.cells #[.int .i64 0, .int .i64 0, .int .i64 0] 50) = y := ⟨_, rfl⟩
   have hb2 : Below w1.heap.size w1 w2 := by subst e2; exact (Below.refl _ w1).alloc (Nat.le_refl _) _
   have hx2 : w2.heap[w1.heap.size]? = some (.cells #[.int .i64 0, .int .i64 0, .int .i64 0] 50 (0, 0)) := by subst e2; exact Go.Proofs.YtciabhncmdpeeaaDoorW.PrintWords.blk_new w1 (.cells #[.int .i64 0, .int .i64 0, .int .i64 0] 50)
   have a0 : w2.cell? ⟨w1.heap.size, 0, none⟩ = some (.int .i64 0) := (Go.Proofs.YtciabhncmdpeeaaDoorW.PrintWords.blk_cell hx2 0).trans rfl
   have a1 : w2.cell? ⟨w1.heap.size, 1, none⟩ = some (.int .i64 0) := (Go.Proofs.YtciabhncmdpeeaaDoorW.PrintWords.blk_cell hx2 1).trans rfl
   have a2 : w2.cell? ⟨w1.heap.size, 2, none⟩ = some (.int .i64 0) := (Go.Proofs.YtciabhncmdpeeaaDoorW.PrintWords.blk_cell hx2 2).trans rfl
   have f0 := Go.Proofs.YtciabhncmdpeeaaDoorW.PrintWords.blk_frozen hx2 0
   have f1 := Go.Proofs.YtciabhncmdpeeaaDoorW.PrintWords.blk_frozen hx2 1
   have f2 := Go.Proofs.YtciabhncmdpeeaaDoorW.PrintWords.blk_frozen hx2 2
   have HX2 := Lib.hid hx2
   have HB1 := Lib.hid hb1
   have HB2 := Lib.hid hb2
   clear hx2 hb1 hb2
   go_wp2_with fail
   obtain ⟨w3, e3⟩ : ∃ y, ((w2.setCell ⟨w1.heap.size, 0, none⟩ (.int .i64 f.off)).setCell ⟨w1.heap.size, 1, none⟩ (.int .i64 f.len)).setCell ⟨w1.heap.size, 2, none⟩ (.int .i64 f.brk) = y := ⟨_, rfl⟩
   have HX3 : Hid (w3.heap[w1.heap.size]? = some (.cells #[.int .i64 f.off, .int .i64 f.len, .int .i64 f.brk] 50 (0, 0))) := Lib.hid (by subst e3; exact blk_put (blk_put (blk_put HX2.out 0 (.int .i64 f.off) rfl) 1 (.int .i64 f.len) rfl) 2 (.int .i64 f.brk) rfl)
   have HB3 : Hid (Below w.heap.size w w3) := Lib.hid (by subst e3; exact (((below_step HB1.out HB2.out).setCell (p := ⟨w1.heap.size, 0, none⟩) HB1.out.size _).setCell (p := ⟨w1.heap.size, 1, none⟩) HB1.out.size _).setCell (p := ⟨w1.heap.size, 2, none⟩) HB1.out.size _)
   rw [e3]
   have HSZ : Hid (w.heap.size ≤ w1.heap.size) := HB1.out.size
   have N2 : Hid (TP.cnt (.node d z ee) ≤ 90000000000) := Lib.hid (by have := HC.out; omega)
   have HA3 := Lib.hid (HA.out.below HB3.out)
   have HBb3 := Lib.hid (HB.out.below HB3.out)
   have hxlt := Lib.hid (blk_lt HX3.out)
   have NBX : Hid (w1.heap.size ∉ Sb) := Lib.hid (fun h => by have := HB.out.lt _ h; have := HSZ.out; omega)
   have t0 : w3.cell? ⟨w1.heap.size, 0, none⟩ = some (.int .i64 f.off) := (Go.Proofs.YtciabhncmdpeeaaDoorW.PrintWords.blk_cell HX3.out 0).trans rfl
   have t1 : w3.cell? ⟨w1.heap.size, 1, none⟩ = some (.int .i64 f.len) := (Go.Proofs.YtciabhncmdpeeaaDoorW.PrintWords.blk_cell HX3.out 1).trans rfl
   have t2 : w3.cell? ⟨w1.heap.size, 2, none⟩ = some (.int .i64 f.brk) := (Go.Proofs.YtciabhncmdpeeaaDoorW.PrintWords.blk_cell HX3.out 2).trans rfl
   have HBd := Lib.hid (HBb3.out.move (w' := w3.drew) (fun _ _ => rfl))
   have SBLT : Hid (∀ k ∈ Sa, k < w3.heap.size) := Lib.hid (fun k hk => HA3.out.lt k hk)
   clear a0 a1 a2 f0 f1 f2 e2 e3
   go_region_with (first
    | (go_at_call 80; refine (removeT_any (.node d z ee) _ (some b2) Sb _ 0 rfl HBd.out NSB.out N2.out N3.out).mono ?_; rintro e w4 ⟨p', S', rfl, hu, hrep, nd', fr⟩; have hx4 : w4.heap[w1.heap.size]? = some (.cells #[.int .i64 f.off, .int .i64 f.len, .int .i64 f.brk] 50 (0, 0)) := (hu.block w1.heap.size hxlt.out NBX.out).trans HX3.out; have s0 : w4.cell? ⟨w1.heap.size, 0, none⟩ = some (.int .i64 f.off) := (Go.Proofs.YtciabhncmdpeeaaDoorW.PrintWords.blk_cell hx4 0).trans rfl; have s1 : w4.cell? ⟨w1.heap.size, 1, none⟩ = some (.int .i64 f.len) := (Go.Proofs.YtciabhncmdpeeaaDoorW.PrintWords.blk_cell hx4 1).trans rfl; have s2 : w4.cell? ⟨w1.heap.size, 2, none⟩ = some (.int .i64 f.brk) := (Go.Proofs.YtciabhncmdpeeaaDoorW.PrintWords.blk_cell hx4 2).trans rfl; have HU4 := Lib.hid (UpdS.mk (S := Sb) (w := w3) hu.os hu.tape hu.output hu.size hu.block); have FF4 : Hid (Fresh Sb S' w3) := fr; have HR4 := Lib.hid hrep; have HA4 := Lib.hid (HA3.out.upd HU4.out (fun k hk h => (List.nodup_append.1 ND.out).2.2 k hk k h rfl)); have NN : Hid (Sa ++ S').Nodup := Lib.hid (List.nodup_append.2 ⟨(List.nodup_append.1 ND.out).1, nd', fun a ha c hc e => (by subst e; rcases fr a hc with h | h; exact (List.nodup_append.1 ND.out).2.2 a ha a h rfl; exact absurd (SBLT.out a ha) (Nat.not_lt.2 h))⟩); have NC : Hid (TP.cnt (.node l x r) + TP.cnt (TP.remove (.node d z ee) 0) < 80000000000) := Lib.hid (by have := removeIn_cnt (.node d z ee) 0 N3.out; have := HC.out; omega); clear hu fr hrep nd' hx4)
    | (go_at_call 108; refine (joined_any f 80000000000 _ (.node l x r) _ (some b1) _ Sa _ NC.out (Nat.le_refl _) HA4.out HR4.out NN.out).mono ?_; rintro e w5 ⟨p5, S5, rfl, hu, hrep, nd', fr⟩; have HU5 := Lib.hid hu; have FF5 := Lib.hid fr; have HJ := Lib.hid hrep; have NJ := Lib.hid nd'; clear hu fr hrep nd'))
   all_goals
    go_wp2_with fail
    go_ret
    refine ⟨p5, S5, rfl, ?_, ?_, NJ.out, ?_⟩
    ·have f4 : Fresh Sb S' w := fun k hk => (FF4.out k hk).imp id (fun h => Nat.le_trans HB3.out.size h)
     exact ((UpdS.of_below (S := Sa ++ Sb) HB3.out).trans (HU4.out.mono (S1 := Sa ++ Sb) (fun k hk => List.mem_append_right _ hk)) (Fresh.refl _ _)).trans HU5.out (fun k hk => by
      rcases List.mem_append.1 hk with h | h
      ·exact .inl (List.mem_append_left _ h)
      ·rcases f4 k h with h | h
       ·exact .inl (List.mem_append_right _ h)
       ·exact .inr h)
    ·simp only [TP.together, TP.pick, HF.out, Option.elim_some]; exact HJ.out
    ·intro k hk
     rcases FF5.out k hk with h | h
     ·rcases List.mem_append.1 h with h | h
      ·exact .inl (List.mem_append_left _ h)
      ·rcases FF4.out k h with h | h
       ·exact .inl (List.mem_append_right _ h)
       ·exact .inr (Nat.le_trans HB3.out.size h)
     ·exact .inr (Nat.le_trans HB3.out.size (Nat.le_trans HU4.out.size h))
end Go.Proofs.YtciabhncmdpeeaaDoor
