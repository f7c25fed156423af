/- What the law FnExactTreeJoin reaches: each function as a plain function, and that the machine's call does it (written by a program). The condition, where there is one: errors.errorType reads as laid. -/
import Derived.Test.YtciabhncmdpeeaaDoorQFnExactTreeJoinx0
import Derived.Test.YtciabhncmdpeeaaDoorQFnExactTreeJoinx2
import Derived.Test.YtciabhncmdpeeaaDoorQFnExactTreeJoinx3
import Derived.Test.YtciabhncmdpeeaaDoorQFnExactTreeJoinx8
import Derived.Test.YtciabhncmdpeeaaDoorSq
namespace Go.Proofs.YtciabhncmdpeeaaDoor.QFnExactTreeJoin
open Go.Proofs.YtciabhncmdpeeaaDoor.Er Go.Proofs.YtciabhncmdpeeaaDoor.Sq
open Go.RowKit Go.Proofs.YtciabhncmdpeeaaDoorW.PrintWords Go.Proofs.YtciabhncmdpeeaaDoorW.PrintLast Go.Proofs.YtciabhncmdpeeaaDoorW.PrintMore
attribute [local go_sem] max2_int min2_int max_two min_two max_three min_three max_four min_four   -- for this text's walks alone
set_option linter.unusedVariables false
set_option linter.unusedSimpArgs false

def spec_TreeJoin.j0 : Nat → Bool → List (S54) → List (S54) → Option ((List (S54)) × Int)
 | 0, _, _, _ => none
 | k + 1, x13, x340000, x341000 => if x13 = true then (some (([] : List (S54)), 1)) else ((spec_l2Total.f k x340000).bind fun t344 => ((spec_l2Total.f k x341000).bind fun t345 => (if (wrap64 (t344 + t345)) > 8192 then (some (([] : List (S54)), 10)) else ((spec_l2Both.f k x340000 x341000).bind fun t346 => (some (t346, 0))))))
def spec_TreeJoin.f (k : Nat) (l0_0 : List (S54)) (l1_0 : List (S54)) : Option ((List (S54)) × Int) := (spec_L2Valid.f k l0_0).bind fun t342 => (if t342 = true then ((spec_L2Valid.f k l1_0).bind fun t343 => (spec_TreeJoin.j0 k (!t343) l0_0 l1_0)) else (spec_TreeJoin.j0 k true l0_0 l1_0))
theorem spec_TreeJoin.mono_l : ∀ k, (∀ y0 y1 y2, LeO (spec_TreeJoin.j0 k y0 y1 y2) (spec_TreeJoin.j0 (k + 1) y0 y1 y2))
 | 0 => fun _ _ _ r h => by simp [spec_TreeJoin.j0] at h
 | k + 1 => by
  have ih0 := spec_TreeJoin.mono_l k
  ·intro y0 y1 y2
   unfold spec_TreeJoin.j0
   repeat' first
   | (with_reducible exact ih0 _ _ _)
   | (with_reducible exact spec_L2Valid.mono _ _)
   | (with_reducible exact spec_l2Both.mono _ _ _)
   | (with_reducible exact spec_l2Total.mono _ _)
   | (with_reducible exact LeO.refl _)
   | (with_reducible exact LeO.none _)
   | (with_reducible refine LeO.ite ?_ ?_)
   | (with_reducible refine LeO.bind ?_ (fun _ => ?_))
   | exact ih0 _ _ _
   | exact spec_L2Valid.mono _ _
   | exact spec_l2Both.mono _ _ _
   | exact spec_l2Total.mono _ _
   | exact LeO.none _
   | refine LeO.ite ?_ ?_
   | refine LeO.bind ?_ (fun _ => ?_)
theorem spec_TreeJoin.mono : ∀ a0 a1 k, LeO (spec_TreeJoin.f k a0 a1) (spec_TreeJoin.f (k + 1) a0 a1) := by
 intro a0 a1 k; have ih0 := spec_TreeJoin.mono_l k; unfold spec_TreeJoin.f
 repeat' first
   | (with_reducible exact ih0 _ _ _)
   | (with_reducible exact spec_L2Valid.mono _ _)
   | (with_reducible exact spec_l2Both.mono _ _ _)
   | (with_reducible exact spec_l2Total.mono _ _)
   | (with_reducible exact LeO.refl _)
   | (with_reducible exact LeO.none _)
   | (with_reducible refine LeO.ite ?_ ?_)
   | (with_reducible refine LeO.bind ?_ (fun _ => ?_))
   | exact ih0 _ _ _
   | exact spec_L2Valid.mono _ _
   | exact spec_l2Both.mono _ _ _
   | exact spec_l2Total.mono _ _
   | exact LeO.none _
   | refine LeO.ite ?_ ?_
   | refine LeO.bind ?_ (fun _ => ?_)
def spec_TreeJoin.T3 : Bool × List (List Nat × List Nat) := (true, [([], []), ([0], [0]), ([1], [1]), ([], []), ([3], [3]), ([4, 2], [4]), ([2, 5], [2, 5]), ([6], [6])])
def spec_TreeJoin.B3 : List Nat := [0, 1, 3, 0, 8, 31, 63, 127]
theorem spec_TreeJoin.tab3 : rtab .any (opsOf Tryd.f54 3) = spec_TreeJoin.T3 := by kernel_rfl
theorem spec_TreeJoin.bits3 : waitsOk spec_TreeJoin.T3.2 spec_TreeJoin.B3 = true := by kernel_rfl
set_option maxHeartbeats 8000000 in
set_option maxRecDepth 100000 in
theorem spec_TreeJoin.calls (k : Nat) (A0_0 : Option Addr) (c0_0 : Nat) (l0_0 : List (S54)) (A1_0 : Option Addr) (c1_0 : Nat) (l1_0 : List (S54)) (r1 : List (S54)) (r2 : Int) (w : World) (hr0_0 : Kd.C k54 w A0_0 l0_0.length l0_0) (hc0_0 : l0_0.length ≤ c0_0) (hr1_0 : Kd.C k54 w A1_0 l1_0.length l1_0) (hc1_0 : l1_0.length ≤ c1_0) (h : spec_TreeJoin.f k l0_0 l1_0 = some (r1, r2)) :
  Calls Tryd.prog 54 #[.agg #[.slice A0_0 l0_0.length c0_0], .agg #[.slice A1_0 l1_0.length c1_0]] w fun e w' => ∃ v0_ : Value, e = .returned (.tuple #[.agg #[v0_], .int .i64 r2]) ∧ Kd.R k54 54 w' w.heap.size (fun _ => True) v0_ r1 ∧ Below w.heap.size w w' := by
 have hu30 := Tryd.underlying30; have HR0_0 := Aside0.mk hr0_0; have HC0_0 := Aside0.mk hc0_0; clear hr0_0 hc0_0; have HR1_0 := Aside0.mk hr1_0; have HC1_0 := Aside0.mk hc1_0; clear hr1_0 hc1_0; have HB := Aside0.mk (Below.refl w.heap.size w); have H : ((spec_L2Valid.f k l0_0).bind fun t342 => (if t342 = true then ((spec_L2Valid.f k l1_0).bind fun t343 => (spec_TreeJoin.j0 k (!t343) l0_0 l1_0)) else (spec_TreeJoin.j0 k true l0_0 l1_0))) = some (r1, r2) := h; clear h; have HC3 := Aside0.mk H; clear H; go_enter Tryd.func54, Tryd.ntmps54; go_upto_region 1 with (first | ((with_reducible refine gate_dst (N := 2) rfl ?_); refine box_event ?hg (N := 2) ?hd (cs := #[.slice A0_0 l0_0.length c0_0]) (t := 30) ?hr ?_; (case hd => rfl); (case hg => rfl); (case hr => first | (go_simp; done) | (go_simp; rfl)); intro gb339 hg w4 hbox hb; have n0_ := Aside0.mk (below_step (hbD HB) hb); have n1_ := Aside0.mk (hbox); have n2_ := Aside0.mk ((by rw [hg]; exact (below_size (hbD HB)) : w.heap.size ≤ gb339)); have n3_ := n2_; clear HB; have HB := n0_; have BK339 := n1_; have GW339 := n2_; have GE339 := n3_; clear n0_ n1_ n2_ n3_ hb hbox hg) | ((with_reducible refine gate_dst (N := 3) rfl ?_); refine box_event ?hg (N := 3) ?hd (cs := #[.slice A1_0 l1_0.length c1_0]) (t := 30) ?hr ?_; (case hd => rfl); (case hg => rfl); (case hr => first | (go_simp; done) | (go_simp; rfl)); intro gb340 hg w5 hbox hb; have n0_ := bb BK339 hb; have n1_ := Aside0.mk (below_step (hbD HB) hb); have n2_ := Aside0.mk (hbox); have n3_ := Aside0.mk ((by rw [hg]; exact (below_size (hbD HB)) : w.heap.size ≤ gb340)); have n4_ := n3_; have n5_ := Aside0.mk ((by rw [hg]; exact Nat.ne_of_lt (blk_lt (bkD BK339)) : gb339 ≠ gb340)); have n6_ := Aside0.mk ((by rw [hg]; exact Nat.ne_of_gt (blk_lt (bkD BK339)) : gb340 ≠ gb339)); clear BK339 HB; have BK339 := n0_; have HB := n1_; have BK340 := n2_; have GW340 := n3_; have GE340 := n4_; have NB339_340 := n5_; have NB340_339 := n6_; clear n0_ n1_ n2_ n3_ n4_ n5_ n6_ hb hbox hg) | ((with_reducible refine gate_dst (N := 4) rfl ?_); refine box_event ?hg (N := 4) ?hd (cs := #[.slice none 0 0]) (t := 30) ?hr ?_; (case hd => rfl); (case hg => rfl); (case hr => first | (go_simp; done) | (go_simp; rfl)); intro gb341 hg w6 hbox hb; have n0_ := bb BK339 hb; have n1_ := bb BK340 hb; have n2_ := Aside0.mk (below_step (hbD HB) hb); have n3_ := Aside0.mk (hbox); have n4_ := Aside0.mk ((by rw [hg]; exact (below_size (hbD HB)) : w.heap.size ≤ gb341)); have n5_ := n4_; have n6_ := Aside0.mk ((by rw [hg]; exact Nat.ne_of_lt (blk_lt (bkD BK339)) : gb339 ≠ gb341)); have n7_ := Aside0.mk ((by rw [hg]; exact Nat.ne_of_gt (blk_lt (bkD BK339)) : gb341 ≠ gb339)); have n8_ := Aside0.mk ((by rw [hg]; exact Nat.ne_of_lt (blk_lt (bkD BK340)) : gb340 ≠ gb341)); have n9_ := Aside0.mk ((by rw [hg]; exact Nat.ne_of_gt (blk_lt (bkD BK340)) : gb341 ≠ gb340)); clear BK339 BK340 HB; have BK339 := n0_; have BK340 := n1_; have HB := n2_; have BK341 := n3_; have GW341 := n4_; have GE341 := n5_; have NB339_341 := n6_; have NB341_339 := n7_; have NB340_341 := n8_; have NB341_340 := n9_; clear n0_ n1_ n2_ n3_ n4_ n5_ n6_ n7_ n8_ n9_ hb hbox hg))
 (try simp only [Act.put, zA_, zZ_, zS_]); go_cut [13] (fun v13 wc => ∃ (kq : Nat) (x13_2 : Bool), v13 = .bool x13_2 ∧ Aside0 (spec_TreeJoin.j0 kq x13_2 l0_0 l1_0 = some (r1, r2)) ∧ Aside0 (kq ≤ k) ∧ Aside0 (wc.heap[gb339]? = some (.cells #[(.slice A0_0 l0_0.length c0_0)] 30 (0, 0))) ∧ Aside0 (wc.heap[gb340]? = some (.cells #[(.slice A1_0 l1_0.length c1_0)] 30 (0, 0))) ∧ Aside0 (wc.heap[gb341]? = some (.cells #[(.slice none 0 0)] 30 (0, 0))) ∧ Aside0 (Below w.heap.size w wc))
 case first =>
  have H := HC3.out; clear HC3; replace H := Option.bind_eq_some_iff.mp H; obtain ⟨t342, A70, H⟩ := H; replace H : (if t342 = true then ((spec_L2Valid.f k l1_0).bind fun t343 => (spec_TreeJoin.j0 k (!t343) l0_0 l1_0)) else (spec_TreeJoin.j0 k true l0_0 l1_0)) = some (r1, r2) := H; have A7 := Aside0.mk A70; clear A70; by_cases c8 : t342 = true
  ·subst c8
   have H1 : ((spec_L2Valid.f k l1_0).bind fun t343 => (spec_TreeJoin.j0 k (!t343) l0_0 l1_0)) = some (r1, r2) := by rw [if_pos rfl] at H; exact H
   clear H; have H := H1; clear H1; replace H := Option.bind_eq_some_iff.mp H; obtain ⟨t343, A90, H⟩ := H; replace H : (spec_TreeJoin.j0 k (!t343) l0_0 l1_0) = some (r1, r2) := H; have A9 := Aside0.mk A90; clear A90; have H' := Aside0.mk H; clear H; have hnb10 := NB339_340.out; have hnc10 := NB340_339.out; have hnb11 := NB339_341.out; have hnc11 := NB341_339.out; have hcz12_0 : w6.cell? ⟨gb339, 0, none⟩ = some (.slice A0_0 l0_0.length c0_0) := (blk_cell BK339.out 0).trans rfl; have hfz12_0 := blk_frozen BK339.out 0; go_wp2_with (first | ((with_reducible refine gate_callee (f := 28) rfl ?_); refine goesL_ (some 7) rfl rfl Tryd.func28 (by kernel_rfl) rfl #[.agg #[.slice A0_0 l0_0.length c0_0]] rfl (by (try simp only [List.map_toArray, List.map_cons, List.map_nil]); first | done | rfl | (simp only [List.length_drop, List.length_take]; rfl)) ?_; (with_reducible refine (spec_L2Valid.calls k _ _ l0_0 true _ ?side1 ?side2 A7.out).mono ?_); (case side1 => exact cD (Kd.C_below HR0_0.out HB.out)); (case side2 => exact HC0_0.out); rintro e w13 ⟨rfl, hb⟩; refine ⟨_, rfl, ?_⟩; replace BK339 := bb BK339 hb; replace BK340 := bb BK340 hb; replace BK341 := bb BK341 hb; replace HB := Aside0.mk (below_step (hbD HB) hb); (try clear hb); (try clear hb2); (try clear hk); (try clear hi); have hnb14 := NB340_341.out; have hnc14 := NB341_340.out; have hcz15_0 : w13.cell? ⟨gb340, 0, none⟩ = some (.slice A1_0 l1_0.length c1_0) := (blk_cell BK340.out 0).trans rfl; have hfz15_0 := blk_frozen BK340.out 0) | (go_at_call 28; (with_reducible refine (spec_L2Valid.calls k _ _ l1_0 t343 _ ?side1 ?side2 A9.out).mono ?_); (case side1 => exact cD (Kd.C_below HR1_0.out HB.out)); (case side2 => exact HC1_0.out); rintro e w16 ⟨rfl, hb⟩; replace BK339 := bb BK339 hb; replace BK340 := bb BK340 hb; replace BK341 := bb BK341 hb; replace HB := Aside0.mk (below_step (hbD HB) hb); (try clear hb); (try clear hb2); (try clear hk); (try clear hi))); go_meet
   case rel => exact ⟨_, (!t343), (by first | rfl | (simp; done) | (simp [*]; done)), H', ⟨by first | omega | exact Nat.le_refl _⟩, ⟨by (with_reducible repeat (first | refine blk_drewN ?_ _ | refine blk_drew ?_ | refine blk_alloc ?_ _)); exact BK339.out⟩, ⟨by (with_reducible repeat (first | refine blk_drewN ?_ _ | refine blk_drew ?_ | refine blk_alloc ?_ _)); exact BK340.out⟩, ⟨by (with_reducible repeat (first | refine blk_drewN ?_ _ | refine blk_drew ?_ | refine blk_alloc ?_ _)); exact BK341.out⟩, ⟨by repeat (first | (with_reducible first | exact HB.out | apply below_alloc | apply pw_below_drewN | apply below_drew1 | refine below_set ?_ GE339.out | refine below_set ?_ GE340.out | refine below_set ?_ GE341.out) | exact HB.out)⟩⟩
  ·replace c8 := Bool.eq_false_iff.mpr c8
   subst c8; have H1 : (spec_TreeJoin.j0 k true l0_0 l1_0) = some (r1, r2) := by rw [if_neg (show ¬ (false = true) by decide)] at H; exact H
   clear H; have H := H1; clear H1; have H' := Aside0.mk H; clear H; have hnb17 := NB339_340.out; have hnc17 := NB340_339.out; have hnb18 := NB339_341.out; have hnc18 := NB341_339.out; have hcz19_0 : w6.cell? ⟨gb339, 0, none⟩ = some (.slice A0_0 l0_0.length c0_0) := (blk_cell BK339.out 0).trans rfl; have hfz19_0 := blk_frozen BK339.out 0; go_wp2_with (first | ((with_reducible refine gate_callee (f := 28) rfl ?_); refine goesL_ (some 7) rfl rfl Tryd.func28 (by kernel_rfl) rfl #[.agg #[.slice A0_0 l0_0.length c0_0]] rfl (by (try simp only [List.map_toArray, List.map_cons, List.map_nil]); first | done | rfl | (simp only [List.length_drop, List.length_take]; rfl)) ?_; (with_reducible refine (spec_L2Valid.calls k _ _ l0_0 false _ ?side1 ?side2 A7.out).mono ?_); (case side1 => exact cD (Kd.C_below HR0_0.out HB.out)); (case side2 => exact HC0_0.out); rintro e w20 ⟨rfl, hb⟩; refine ⟨_, rfl, ?_⟩; replace BK339 := bb BK339 hb; replace BK340 := bb BK340 hb; replace BK341 := bb BK341 hb; replace HB := Aside0.mk (below_step (hbD HB) hb); (try clear hb); (try clear hb2); (try clear hk); (try clear hi))); go_meet
   case rel => exact ⟨_, (true), (by first | rfl | (simp; done) | (simp [*]; done)), H', ⟨by first | omega | exact Nat.le_refl _⟩, ⟨by (with_reducible repeat (first | refine blk_drewN ?_ _ | refine blk_drew ?_ | refine blk_alloc ?_ _)); exact BK339.out⟩, ⟨by (with_reducible repeat (first | refine blk_drewN ?_ _ | refine blk_drew ?_ | refine blk_alloc ?_ _)); exact BK340.out⟩, ⟨by (with_reducible repeat (first | refine blk_drewN ?_ _ | refine blk_drew ?_ | refine blk_alloc ?_ _)); exact BK341.out⟩, ⟨by repeat (first | (with_reducible first | exact HB.out | apply below_alloc | apply pw_below_drewN | apply below_drew1 | refine below_set ?_ GE339.out | refine below_set ?_ GE340.out | refine below_set ?_ GE341.out) | exact HB.out)⟩⟩
 case rest =>
  clear HC3; (try clear c1); (try clear c2); (try clear p2); (try clear c5); (try clear c8); (try clear c10); (try clear c11); (try clear c14); (try clear c17); (try clear c18); (try clear hcz12_0); (try clear hcz15_0); (try clear hcz19_0); (try clear hfz12_0); (try clear hfz15_0); (try clear hfz19_0); obtain ⟨kq, x13_2, rfl, HA, HJ2, BK339, BK340, BK341, HB⟩ := hcut
  cases kq with
  | zero => exact absurd HA.out (by simp [spec_TreeJoin.j0])
  | succ kj2 =>
   have H := HA.out; clear HA; simp only [spec_TreeJoin.j0] at H; by_cases c21 : x13_2 = true
   ·subst c21
    have H1 : (some (([] : List (S54)), 1)) = some (r1, r2) := by rw [if_pos rfl] at H; exact H
    clear H; have H := H1; clear H1; simp only [Option.some.injEq, Prod.mk.injEq] at H; obtain ⟨rfl, rfl⟩ := H; have hnb22 := NB341_339.out; have hnc22 := NB339_341.out; have hnb23 := NB341_340.out; have hnc23 := NB340_341.out; have hcz24_0 : wc.cell? ⟨gb341, 0, none⟩ = some (.slice none 0 0) := (blk_cell BK341.out 0).trans rfl; have hfz24_0 := blk_frozen BK341.out 0; go_wp2; refine bodyPost_ret (results_ct rfl _ _ gb341 30 #[.slice none 0 0] (0, 0) _ rfl (by (with_reducible repeat (first | refine blk_drewN ?_ _ | refine blk_drew ?_ | refine blk_alloc ?_ _)); refine blk_put (cs := #[.slice none 0 0]) ?_ 0 _ rfl; (with_reducible repeat (first | refine blk_drewN ?_ _ | refine blk_drew ?_ | refine blk_alloc ?_ _)); exact BK341.out) Tryd.underlying30 rfl (by kernel_rfl)) rfl ?_; exact ⟨_, by first | rfl | (simp [errW_none, errW_some] <;> rfl) | (simp [*, errW_none, errW_some] <;> rfl), by first | exact Kd.R_nil _ _ _ _ _ | exact Kd.N_nil _ _ _ _ _ | exact Kd.V_nil _ _ _ _ _ | exact Kd.Q_nil _ _ _ _ _ | exact Kd.S_nil _ _ _ _ _, by repeat (first | (with_reducible first | exact HB.out | apply below_alloc | apply pw_below_drewN | apply below_drew1 | refine below_set ?_ GE339.out | refine below_set ?_ GE340.out | refine below_set ?_ GE341.out) | exact HB.out)⟩
   ·replace c21 := Bool.eq_false_iff.mpr c21
    subst c21; have H1 : ((spec_l2Total.f kj2 l0_0).bind fun t344 => ((spec_l2Total.f kj2 l1_0).bind fun t345 => (if (wrap64 (t344 + t345)) > 8192 then (some (([] : List (S54)), 10)) else ((spec_l2Both.f kj2 l0_0 l1_0).bind fun t346 => (some (t346, 0)))))) = some (r1, r2) := by rw [if_neg (show ¬ (false = true) by decide)] at H; exact H
    clear H; have H := H1; clear H1; replace H := Option.bind_eq_some_iff.mp H; obtain ⟨t344, A250, H⟩ := H; replace H : ((spec_l2Total.f kj2 l1_0).bind fun t345 => (if (wrap64 (t344 + t345)) > 8192 then (some (([] : List (S54)), 10)) else ((spec_l2Both.f kj2 l0_0 l1_0).bind fun t346 => (some (t346, 0))))) = some (r1, r2) := H; have A25 := Aside0.mk A250; clear A250; replace H := Option.bind_eq_some_iff.mp H; obtain ⟨t345, A260, H⟩ := H; replace H : (if (wrap64 (t344 + t345)) > 8192 then (some (([] : List (S54)), 10)) else ((spec_l2Both.f kj2 l0_0 l1_0).bind fun t346 => (some (t346, 0)))) = some (r1, r2) := H; have A26 := Aside0.mk A260; clear A260; by_cases c27 : (wrap64 (t344 + t345)) > 8192
    ·rw [if_pos c27] at H
     have c27b0 : decide (8192 < (wrap64 (t344 + t345))) = true := decide_eq_true c27; clear c27; simp only [Option.some.injEq, Prod.mk.injEq] at H; obtain ⟨rfl, rfl⟩ := H; try go_wp2
     replace BK339 := Aside0.mk (blk_drew BK339.out); replace BK340 := Aside0.mk (blk_drew BK340.out); replace BK341 := Aside0.mk (blk_drew BK341.out); replace HB := Aside0.mk (below_drew1 HB.out); refine start_ (n := 8) (S := fun w' => w'.cell? ⟨gb339, 0, none⟩ = some (.slice A0_0 l0_0.length c0_0) ∧ w'.cell? ⟨gb340, 0, none⟩ = some (.slice A1_0 l1_0.length c1_0)) (ds := []) #[false, false, false, false, false, false, false, false] (by kernel_rfl) rfl rfl ⟨(blk_cell BK339.out 0).trans rfl, (blk_cell BK340.out 0).trans rfl⟩ (fun hHeld => ?_); refine with_tabW spec_TreeJoin.tab3 spec_TreeJoin.bits3 (fun HT_ HW_ => ?_); generalize wc.drew = w28 at BK339 BK340 BK341 HB hHeld ⊢; refine pure_ (i := 0) (N := some 15) (v := ?_) (a' := ?_) #[true, false, false, false, false, false, false, false] rfl rfl (any_of HT_.out (by kernel_rfl)) (fun _ _ _ h => h) (Or.inl ⟨by rfl, ?_⟩) ?_ ?_; rotate_left
     ·intro w'
      go_simp; with_reducible rfl
     rotate_left
     ·simp only [Act.put, zA_, zZ_, zS_, i64_w, i32_w]
      rfl
     refine pure_ (i := 3) (N := some 18) (v := ?_) (a' := ?_) #[true, false, false, true, false, false, false, false] rfl rfl (any_of HT_.out (by kernel_rfl)) (fun _ _ _ h => h) (Or.inl ⟨by rfl, ?_⟩) ?_ ?_; rotate_left
     ·intro w'
      go_simp; with_reducible rfl
     rotate_left
     ·simp only [Act.put, zA_, zZ_, zS_, i64_w, i32_w]
      rfl
     refine take_ (i := 1) (N := some 16) (v := ?_) (a' := ?_) #[true, true, false, true, false, false, false, false] rfl rfl (take_ofW HT_.out HW_.out (by kernel_rfl)) (fun _ _ _ h => h) (Or.inl ⟨by rfl, ?_⟩) hHeld ?_ ?_; rotate_left
     ·rintro w' ⟨s0, s1⟩
      go_simp; with_reducible rfl
     rotate_left
     ·simp only [Act.put, zA_, zZ_, zS_, i64_w, i32_w]
      rfl
     refine take_ (i := 4) (N := some 19) (v := ?_) (a' := ?_) #[true, true, false, true, true, false, false, false] rfl rfl (take_ofW HT_.out HW_.out (by kernel_rfl)) (fun _ _ _ h => h) (Or.inl ⟨by rfl, ?_⟩) hHeld ?_ ?_; rotate_left
     ·rintro w' ⟨s0, s1⟩
      go_simp; with_reducible rfl
     rotate_left
     ·simp only [Act.put, zA_, zZ_, zS_, i64_w, i32_w]
      rfl
     refine one_ (i := 2) (N := some 17) #[true, true, true, true, true, false, false, false] rfl rfl (one_of HT_.out (by kernel_rfl)) (by decide) (fun K hK => ?_); refine goes_ Tryd.func65 (by kernel_rfl) rfl #[.slice A0_0 l0_0.length c0_0] (by rfl) rfl rfl (by (try simp only [List.map_toArray, List.map_cons, List.map_nil]); first | done | rfl | (simp only [List.length_drop, List.length_take]; rfl)) ?_; with_reducible refine (spec_l2Total.calls kj2 _ _ l0_0 t344 _ ?side1 ?side2 A25.out).mono ?_; (case side1 => exact cD (Kd.C_below HR0_0.out HB.out)); (case side2 => exact HC0_0.out); rintro e w29 ⟨rfl, hb⟩; refine ⟨_, rfl, ?_⟩; replace BK339 := bb BK339 hb; replace BK340 := bb BK340 hb; replace BK341 := bb BK341 hb; replace HB := Aside0.mk (below_step (hbD HB) hb); (try clear hb); (try clear hb2); (try clear hk); (try clear hi); refine hK.out _ _ ⟨(blk_cell BK339.out 0).trans rfl, (blk_cell BK340.out 0).trans rfl⟩ (fun hHeld => ?_); clear hK K; refine norm_ (a' := ?_) ?_ ?_; rotate_left
     ·show Act.put _ (some 17) _ = _
      simp only [Act.put, zA_, zZ_, zS_, i64_w, i32_w]; rfl
     refine one_ (i := 5) (N := some 20) #[true, true, true, true, true, true, false, false] rfl rfl (one_of HT_.out (by kernel_rfl)) (by decide) (fun K hK => ?_); refine goes_ Tryd.func65 (by kernel_rfl) rfl #[.slice A1_0 l1_0.length c1_0] (by rfl) rfl rfl (by (try simp only [List.map_toArray, List.map_cons, List.map_nil]); first | done | rfl | (simp only [List.length_drop, List.length_take]; rfl)) ?_; with_reducible refine (spec_l2Total.calls kj2 _ _ l1_0 t345 _ ?side1 ?side2 A26.out).mono ?_; (case side1 => exact cD (Kd.C_below HR1_0.out HB.out)); (case side2 => exact HC1_0.out); rintro e w30 ⟨rfl, hb⟩; refine ⟨_, rfl, ?_⟩; replace BK339 := bb BK339 hb; replace BK340 := bb BK340 hb; replace BK341 := bb BK341 hb; replace HB := Aside0.mk (below_step (hbD HB) hb); (try clear hb); (try clear hb2); (try clear hk); (try clear hi); refine hK.out _ _ ⟨(blk_cell BK339.out 0).trans rfl, (blk_cell BK340.out 0).trans rfl⟩ (fun hHeld => ?_); clear hK K; refine norm_ (a' := ?_) ?_ ?_; rotate_left
     ·show Act.put _ (some 20) _ = _
      simp only [Act.put, zA_, zZ_, zS_, i64_w, i32_w]; rfl
     refine pure_ (i := 6) (N := some 21) (v := ?_) (a' := ?_) #[true, true, true, true, true, true, true, false] rfl rfl (any_of HT_.out (by kernel_rfl)) (fun _ _ _ h => h) (Or.inl ⟨by rfl, ?_⟩) ?_ ?_; rotate_left
     ·intro w'
      go_simp; with_reducible rfl
     rotate_left
     ·simp only [Act.put, zA_, zZ_, zS_, i64_w, i32_w]
      rfl
     refine pure_ (i := 7) (N := some 22) (v := ?_) (a' := ?_) #[true, true, true, true, true, true, true, true] rfl rfl (any_of HT_.out (by kernel_rfl)) (fun _ _ _ h => h) (Or.inl ⟨by rfl, ?_⟩) ?_ ?_; rotate_left
     ·intro w'
      go_simp; with_reducible rfl
     rotate_left
     ·simp only [Act.put, zA_, zZ_, zS_, i64_w, i32_w]
      rfl
     refine done_ (done_of HT_.out (by kernel_rfl)) ?_; have hnb31 := NB341_339.out; have hnc31 := NB339_341.out; have hnb32 := NB341_340.out; have hnc32 := NB340_341.out; have hcz33_0 : w30.cell? ⟨gb341, 0, none⟩ = some (.slice none 0 0) := (blk_cell BK341.out 0).trans rfl; have hfz33_0 := blk_frozen BK341.out 0; try go_wp2
     refine bodyPost_ret (results_ct rfl _ _ gb341 30 #[.slice none 0 0] (0, 0) _ rfl (by (with_reducible repeat (first | refine blk_drewN ?_ _ | refine blk_drew ?_ | refine blk_alloc ?_ _)); refine blk_put (cs := #[.slice none 0 0]) ?_ 0 _ rfl; (with_reducible repeat (first | refine blk_drewN ?_ _ | refine blk_drew ?_ | refine blk_alloc ?_ _)); exact BK341.out) Tryd.underlying30 rfl (by kernel_rfl)) rfl ?_; exact ⟨_, by first | rfl | (simp [errW_none, errW_some] <;> rfl) | (simp [*, errW_none, errW_some] <;> rfl), by first | exact Kd.R_nil _ _ _ _ _ | exact Kd.N_nil _ _ _ _ _ | exact Kd.V_nil _ _ _ _ _ | exact Kd.Q_nil _ _ _ _ _ | exact Kd.S_nil _ _ _ _ _, by repeat (first | (with_reducible first | exact HB.out | apply below_alloc | apply pw_below_drewN | apply below_drew1 | refine below_set ?_ GE339.out | refine below_set ?_ GE340.out | refine below_set ?_ GE341.out) | exact HB.out)⟩
    ·rw [if_neg c27] at H
     have c27b0 : decide (8192 < (wrap64 (t344 + t345))) = false := decide_eq_false c27; clear c27; replace H := Option.bind_eq_some_iff.mp H; obtain ⟨t346, A340, H⟩ := H; replace H : (some (t346, 0)) = some (r1, r2) := H; have A34 := Aside0.mk A340; clear A340; simp only [Option.some.injEq, Prod.mk.injEq] at H; obtain ⟨rfl, rfl⟩ := H; try go_wp2
     replace BK339 := Aside0.mk (blk_drew BK339.out); replace BK340 := Aside0.mk (blk_drew BK340.out); replace BK341 := Aside0.mk (blk_drew BK341.out); replace HB := Aside0.mk (below_drew1 HB.out); refine start_ (n := 8) (S := fun w' => w'.cell? ⟨gb339, 0, none⟩ = some (.slice A0_0 l0_0.length c0_0) ∧ w'.cell? ⟨gb340, 0, none⟩ = some (.slice A1_0 l1_0.length c1_0)) (ds := []) #[false, false, false, false, false, false, false, false] (by kernel_rfl) rfl rfl ⟨(blk_cell BK339.out 0).trans rfl, (blk_cell BK340.out 0).trans rfl⟩ (fun hHeld => ?_); refine with_tabW spec_TreeJoin.tab3 spec_TreeJoin.bits3 (fun HT_ HW_ => ?_); generalize wc.drew = w35 at BK339 BK340 BK341 HB hHeld ⊢; refine pure_ (i := 0) (N := some 15) (v := ?_) (a' := ?_) #[true, false, false, false, false, false, false, false] rfl rfl (any_of HT_.out (by kernel_rfl)) (fun _ _ _ h => h) (Or.inl ⟨by rfl, ?_⟩) ?_ ?_; rotate_left
     ·intro w'
      go_simp; with_reducible rfl
     rotate_left
     ·simp only [Act.put, zA_, zZ_, zS_, i64_w, i32_w]
      rfl
     refine pure_ (i := 3) (N := some 18) (v := ?_) (a' := ?_) #[true, false, false, true, false, false, false, false] rfl rfl (any_of HT_.out (by kernel_rfl)) (fun _ _ _ h => h) (Or.inl ⟨by rfl, ?_⟩) ?_ ?_; rotate_left
     ·intro w'
      go_simp; with_reducible rfl
     rotate_left
     ·simp only [Act.put, zA_, zZ_, zS_, i64_w, i32_w]
      rfl
     refine take_ (i := 1) (N := some 16) (v := ?_) (a' := ?_) #[true, true, false, true, false, false, false, false] rfl rfl (take_ofW HT_.out HW_.out (by kernel_rfl)) (fun _ _ _ h => h) (Or.inl ⟨by rfl, ?_⟩) hHeld ?_ ?_; rotate_left
     ·rintro w' ⟨s0, s1⟩
      go_simp; with_reducible rfl
     rotate_left
     ·simp only [Act.put, zA_, zZ_, zS_, i64_w, i32_w]
      rfl
     refine take_ (i := 4) (N := some 19) (v := ?_) (a' := ?_) #[true, true, false, true, true, false, false, false] rfl rfl (take_ofW HT_.out HW_.out (by kernel_rfl)) (fun _ _ _ h => h) (Or.inl ⟨by rfl, ?_⟩) hHeld ?_ ?_; rotate_left
     ·rintro w' ⟨s0, s1⟩
      go_simp; with_reducible rfl
     rotate_left
     ·simp only [Act.put, zA_, zZ_, zS_, i64_w, i32_w]
      rfl
     refine one_ (i := 2) (N := some 17) #[true, true, true, true, true, false, false, false] rfl rfl (one_of HT_.out (by kernel_rfl)) (by decide) (fun K hK => ?_); refine goes_ Tryd.func65 (by kernel_rfl) rfl #[.slice A0_0 l0_0.length c0_0] (by rfl) rfl rfl (by (try simp only [List.map_toArray, List.map_cons, List.map_nil]); first | done | rfl | (simp only [List.length_drop, List.length_take]; rfl)) ?_; with_reducible refine (spec_l2Total.calls kj2 _ _ l0_0 t344 _ ?side1 ?side2 A25.out).mono ?_; (case side1 => exact cD (Kd.C_below HR0_0.out HB.out)); (case side2 => exact HC0_0.out); rintro e w36 ⟨rfl, hb⟩; refine ⟨_, rfl, ?_⟩; replace BK339 := bb BK339 hb; replace BK340 := bb BK340 hb; replace BK341 := bb BK341 hb; replace HB := Aside0.mk (below_step (hbD HB) hb); (try clear hb); (try clear hb2); (try clear hk); (try clear hi); refine hK.out _ _ ⟨(blk_cell BK339.out 0).trans rfl, (blk_cell BK340.out 0).trans rfl⟩ (fun hHeld => ?_); clear hK K; refine norm_ (a' := ?_) ?_ ?_; rotate_left
     ·show Act.put _ (some 17) _ = _
      simp only [Act.put, zA_, zZ_, zS_, i64_w, i32_w]; rfl
     refine one_ (i := 5) (N := some 20) #[true, true, true, true, true, true, false, false] rfl rfl (one_of HT_.out (by kernel_rfl)) (by decide) (fun K hK => ?_); refine goes_ Tryd.func65 (by kernel_rfl) rfl #[.slice A1_0 l1_0.length c1_0] (by rfl) rfl rfl (by (try simp only [List.map_toArray, List.map_cons, List.map_nil]); first | done | rfl | (simp only [List.length_drop, List.length_take]; rfl)) ?_; with_reducible refine (spec_l2Total.calls kj2 _ _ l1_0 t345 _ ?side1 ?side2 A26.out).mono ?_; (case side1 => exact cD (Kd.C_below HR1_0.out HB.out)); (case side2 => exact HC1_0.out); rintro e w37 ⟨rfl, hb⟩; refine ⟨_, rfl, ?_⟩; replace BK339 := bb BK339 hb; replace BK340 := bb BK340 hb; replace BK341 := bb BK341 hb; replace HB := Aside0.mk (below_step (hbD HB) hb); (try clear hb); (try clear hb2); (try clear hk); (try clear hi); refine hK.out _ _ ⟨(blk_cell BK339.out 0).trans rfl, (blk_cell BK340.out 0).trans rfl⟩ (fun hHeld => ?_); clear hK K; refine norm_ (a' := ?_) ?_ ?_; rotate_left
     ·show Act.put _ (some 20) _ = _
      simp only [Act.put, zA_, zZ_, zS_, i64_w, i32_w]; rfl
     refine pure_ (i := 6) (N := some 21) (v := ?_) (a' := ?_) #[true, true, true, true, true, true, true, false] rfl rfl (any_of HT_.out (by kernel_rfl)) (fun _ _ _ h => h) (Or.inl ⟨by rfl, ?_⟩) ?_ ?_; rotate_left
     ·intro w'
      go_simp; with_reducible rfl
     rotate_left
     ·simp only [Act.put, zA_, zZ_, zS_, i64_w, i32_w]
      rfl
     refine pure_ (i := 7) (N := some 22) (v := ?_) (a' := ?_) #[true, true, true, true, true, true, true, true] rfl rfl (any_of HT_.out (by kernel_rfl)) (fun _ _ _ h => h) (Or.inl ⟨by rfl, ?_⟩) ?_ ?_; rotate_left
     ·intro w'
      go_simp; with_reducible rfl
     rotate_left
     ·simp only [Act.put, zA_, zZ_, zS_, i64_w, i32_w]
      rfl
     refine done_ (done_of HT_.out (by kernel_rfl)) ?_; have hnb38 := NB339_340.out; have hnc38 := NB340_339.out; have hnb39 := NB339_341.out; have hnc39 := NB341_339.out; have hcz40_0 : w37.cell? ⟨gb339, 0, none⟩ = some (.slice A0_0 l0_0.length c0_0) := (blk_cell BK339.out 0).trans rfl; have hfz40_0 := blk_frozen BK339.out 0; have hnb41 := NB340_341.out; have hnc41 := NB341_340.out; have hcz42_0 : w37.cell? ⟨gb340, 0, none⟩ = some (.slice A1_0 l1_0.length c1_0) := (blk_cell BK340.out 0).trans rfl; have hfz42_0 := blk_frozen BK340.out 0; try go_wp2_with (first | ((with_reducible refine gate_callee (f := 100) rfl ?_); refine goesL_ (some 28) rfl rfl Tryd.func100 (by kernel_rfl) rfl #[.slice A0_0 l0_0.length c0_0, .slice A1_0 l1_0.length c1_0] rfl (by (try simp only [List.map_toArray, List.map_cons, List.map_nil]); first | done | rfl | (simp only [List.length_drop, List.length_take]; rfl)) ?_; (with_reducible refine (spec_l2Both.calls kj2 _ _ l0_0 _ _ l1_0 t346 _ ?side1 ?side2 ?side3 ?side4 A34.out).mono ?_); (case side1 => exact cD (Kd.C_below HR0_0.out HB.out)); (case side2 => exact HC0_0.out); (case side3 => exact cD (Kd.C_below HR1_0.out HB.out)); (case side4 => exact HC1_0.out); rintro e w43 ⟨v347, rfl, ho0, hb⟩; refine ⟨_, rfl, ?_⟩; have HO348 := Aside0.mk (Kd.R_lower ho0 (below_size (hbD HB))); replace BK339 := bb BK339 hb; replace BK340 := bb BK340 hb; replace BK341 := bb BK341 hb; replace HB := Aside0.mk (below_step (hbD HB) hb); (try clear hb); (try clear hb2); (try clear hk); (try clear hi); (try clear ho0); obtain ⟨Ao44, co44, eo44⟩ := Kd.R_slice HO348.out; subst eo44; have hcz45_0 : w43.cell? ⟨gb341, 0, none⟩ = some (.slice none 0 0) := (blk_cell BK341.out 0).trans rfl; have hfz45_0 := blk_frozen BK341.out 0))
     refine bodyPost_ret (results_ct rfl _ _ gb341 30 #[.slice Ao44 t346.length co44] (0, 0) _ rfl (by (with_reducible repeat (first | refine blk_drewN ?_ _ | refine blk_drew ?_ | refine blk_alloc ?_ _)); refine blk_put (cs := #[.slice none 0 0]) ?_ 0 _ rfl; (with_reducible repeat (first | refine blk_drewN ?_ _ | refine blk_drew ?_ | refine blk_alloc ?_ _)); exact BK341.out) Tryd.underlying30 rfl (by kernel_rfl)) rfl ?_; exact ⟨_, by first | rfl | (simp [errW_none, errW_some] <;> rfl) | (simp [*, errW_none, errW_some] <;> rfl), by (with_reducible repeat (first | apply Kd.R_alloc | apply Kd.R_drewN | apply Kd.R_drew)); exact Kd.R_mono (Kd.R_far (p := ⟨gb341, 0, none⟩) (Kd.R_types HO348.out BK341.out (by decide)) (fun _ hk => hk.2) (.slice Ao44 t346.length co44)) (fun _ hk => trivial), by repeat (first | (with_reducible first | exact HB.out | apply below_alloc | apply pw_below_drewN | apply below_drew1 | refine below_set ?_ GE339.out | refine below_set ?_ GE340.out | refine below_set ?_ GE341.out) | exact HB.out)⟩

end Go.Proofs.YtciabhncmdpeeaaDoor.QFnExactTreeJoin
