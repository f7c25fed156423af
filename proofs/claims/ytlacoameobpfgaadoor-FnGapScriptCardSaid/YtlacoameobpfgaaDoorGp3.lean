/- The specification's text of a gap buffer, walked (the print's own proof falls at the cuts' lengths). Conditions: the gap's ends lie within. -/
import Derived.Test.YtlacoameobpfgaaDoorGp2
namespace Go.Proofs.YtlacoameobpfgaaDoor
open Go.RowKit Go.Proofs.YtlacoameobpfgaaDoorW.PrintWords Go.Proofs.YtlacoameobpfgaaDoorW.PrintLast Go.Proofs.YtlacoameobpfgaaDoorW.PrintMore
set_option maxHeartbeats 4000000 in
set_option maxRecDepth 100000 in
theorem l3Text_any (w : World) (xs : List Int) (A : Option Addr) (c : Nat) (lo hi : Int) (hr : (Kd.int .i32).C w A xs.length xs) (hc : xs.length ≤ c) (h0 : 0 ≤ lo) (h1 : lo ≤ (xs.length : Int)) (h2 : 0 ≤ hi) (h3 : hi ≤ (xs.length : Int)) (hl : xs.length ≤ 2000000) :
    Calls Tryd.prog 45 #[.agg #[.slice A xs.length c, .int .i64 lo, .int .i64 hi]] w fun e w' => ∃ v, e = .returned v ∧ Kd.R (Kd.int .i32) 21 w' w.heap.size (fun _ => True) v (txt xs lo hi) ∧ Below w.heap.size w w' := by
  obtain ⟨w0, e0⟩ : ∃ y, w.alloc (.cells #[.slice A xs.length c, .int .i64 lo, .int .i64 hi] 28) = y := ⟨_, rfl⟩
  have HB0 : Aside0 (Below w.heap.size w w0) := ⟨by subst e0; exact (Below.refl _ w).alloc (Nat.le_refl _) _⟩
  have HX : Aside0 (w0.heap[w.heap.size]? = some (.cells #[.slice A xs.length c, .int .i64 lo, .int .i64 hi] 28 (0, 0))) := ⟨by subst e0; exact blk_new w (.cells #[.slice A xs.length c, .int .i64 lo, .int .i64 hi] 28)⟩
  have q0 : w0.cell? ⟨w.heap.size, 0, none⟩ = some (.slice A xs.length c) := (blk_cell HX.out 0).trans rfl
  have q1 : w0.cell? ⟨w.heap.size, 1, none⟩ = some (.int .i64 lo) := (blk_cell HX.out 1).trans rfl
  have q2 : w0.cell? ⟨w.heap.size, 2, none⟩ = some (.int .i64 hi) := (blk_cell HX.out 2).trans rfl
  obtain ⟨i0, hi0, _, hsz, _⟩ := info_parts QBase.info21
  obtain ⟨hcut, hA1, hC1⟩ := print_take_of (P := Tryd.prog) (Value.int .i32) 0 22 21 .i64 Tryd.underlying22 hi0 hsz A c xs lo h0 h1 hc
  have HR1 := Aside0.mk (Kd.C_of_reads (h1 := fun _ => rfl) (hA1 _ (Kd.reads_of_C hr)))
  obtain ⟨A2, hcut2, hA2, hC2⟩ := print_drop_of (P := Tryd.prog) (Value.int .i32) 0 22 21 .i64 Tryd.underlying22 hi0 hsz A c xs hi h2 h3 hc
  have HR2 := Aside0.mk (Kd.C_of_reads (h1 := fun _ => rfl) (hA2 _ (Kd.reads_of_C hr)))
  have L1 : Aside0 ((xs.take lo.toNat).length ≤ 2000000 ∧ (xs.drop hi.toNat).length ≤ 2000000) := ⟨by rw [List.length_take, List.length_drop]; omega⟩
  have ET : Aside0 (txt xs lo hi = xs.take lo.toNat ++ xs.drop hi.toNat) := ⟨rfl⟩
  rw [ET.out]
  clear hA1 hA2 hC1 hC2 hi0 hsz ET
  generalize xs.take lo.toNat = us at hcut HR1 L1 ⊢
  generalize xs.drop hi.toNat = vs at hcut2 HR2 L1 ⊢
  clear hr
  go_enter Tryd.func45, Tryd.ntmps45
  go_wp2_with (first | ((with_reducible refine gate_dst (N := 4) rfl ?_); refine Kd.R_lit (Kd.int .i32) _ 21 ?hg (N := 4) ?hd (xs := ([] : List Int)) (inner := []) (ok := fun _ => True) (okp := fun _ => True) ?hr ?hp (fun _ hk => hk) trivial (Below.refl _ _) (Nat.le_refl _) (by simp) ?_; (case hd => rfl); (case hg => rfl); (case hr => first | (go_simp; done) | (go_simp; rfl)); (case hp => exact (Reps.none _ _)); intro v1 w1 ho1 hb1 hg_ hnew_; clear hg_ hnew_; have HB1 := Aside0.mk (below_step HB0.out hb1); have HX1 := Aside0.mk (blk_below HX.out hb1); have HO1 := Aside0.mk (Kd.R_lower ho1 HB0.out.size); clear q0 q1 q2 ho1 hb1; have q0 : w1.cell? ⟨w.heap.size, 0, none⟩ = some (.slice A xs.length c) := (blk_cell HX1.out 0).trans rfl; have q1 : w1.cell? ⟨w.heap.size, 1, none⟩ = some (.int .i64 lo) := (blk_cell HX1.out 1).trans rfl; have q2 : w1.cell? ⟨w.heap.size, 2, none⟩ = some (.int .i64 hi) := (blk_cell HX1.out 2).trans rfl) | ((with_reducible refine gate_builtin (b := .append) (xs := #[.tmp 4, .tmp 9]) rfl ?_); at_builtin; refine app_own .i32 w (fun _ => True) rfl (.tmp 4) (.tmp 9) 22 21 (.int .i32 0) 4 rfl Tryd.underlying22 QBase.info21 rfl (by decide) v1 rfl [] us _ _ _ rfl rfl HO1.out (Kd.C_below HR1.out HB1.out) (fun _ _ => trivial) HB1.out (by have := L1.out.1; simp only [List.length_nil]; omega) ?_; intro v2 w2 ho hb2 hg2 hat2; have HO2 := Aside0.mk ho; have HX2 := Aside0.mk (blk_grown HX1.out hg2 (Kd.R_ne HO1.out HX1.out (by decide))); have HB2 := Aside0.mk hb2; clear q0 q1 q2 ho hb2 hg2 hat2; have q0 : w2.cell? ⟨w.heap.size, 0, none⟩ = some (.slice A xs.length c) := (blk_cell HX2.out 0).trans rfl; have q1 : w2.cell? ⟨w.heap.size, 1, none⟩ = some (.int .i64 lo) := (blk_cell HX2.out 1).trans rfl; have q2 : w2.cell? ⟨w.heap.size, 2, none⟩ = some (.int .i64 hi) := (blk_cell HX2.out 2).trans rfl) | ((with_reducible refine gate_builtin (b := .append) (xs := #[.tmp 11, .tmp 16]) rfl ?_); at_builtin; refine app_own .i32 w (fun _ => True) rfl (.tmp 11) (.tmp 16) 22 21 (.int .i32 0) 4 rfl Tryd.underlying22 QBase.info21 rfl (by decide) v2 rfl us vs _ _ _ rfl rfl HO2.out (Kd.C_below HR2.out HB2.out) (fun _ _ => trivial) HB2.out (by have := L1.out; omega) ?_; intro v3 w3 ho hb3 hg2 hat2; have HO3 := Aside0.mk ho; have HB3 := Aside0.mk hb3; clear hg2 hat2 ho hb3))
  go_ret
  exact ⟨v3, rfl, HO3.out, HB3.out⟩
end Go.Proofs.YtlacoameobpfgaaDoor
