/- What the law FnExactTreeInsert reaches: each function as a plain function, and that the machine's call does it (written by a program). The condition, where there is one: errors.errorType reads as laid. -/
import Derived.Test.YtciabhncmdpeeaaDoorQFnExactTreeInsertx0
import Derived.Test.YtciabhncmdpeeaaDoorQFnExactTreeInsertx2
import Derived.Test.YtciabhncmdpeeaaDoorQFnExactTreeInsertx5
import Derived.Test.YtciabhncmdpeeaaDoorSq
namespace Go.Proofs.YtciabhncmdpeeaaDoor.QFnExactTreeInsert
open Go.Proofs.YtciabhncmdpeeaaDoor.Er Go.Proofs.YtciabhncmdpeeaaDoor.Sq
open Go.RowKit Go.Proofs.YtciabhncmdpeeaaDoorW.PrintWords Go.Proofs.YtciabhncmdpeeaaDoorW.PrintLast Go.Proofs.YtciabhncmdpeeaaDoorW.PrintMore
attribute [local go_sem] max2_int min2_int max_two min_two max_three min_three max_four min_four   -- for this text's walks alone
set_option linter.unusedVariables false
set_option linter.unusedSimpArgs false

/-! ### spec_l2Insert: function 95 -/
mutual
def spec_l2Insert.j0 : Nat → List (S54) → Int → Int → Bool → Int → Int → Int → Option ((List (S54)))
 | 0, _, _, _, _, _, _, _ => none
 | k + 1, x0, x1, x7, x21, x203000, x203001, x203002 => if x21 = true then (if 0 ≤ (wrap64 (x1 - 1)) then (if (wrap64 (x1 - 1)) < (x0.length : Int) then (spec_l2Insert.j1 k x0 x1 (wrap64 (((rd_T54 x0 (wrap64 (x1 - 1))).f1) + 1)) x203000 x203001 x203002) else (none)) else (none)) else (spec_l2Insert.j1 k x0 x1 x7 x203000 x203001 x203002)
def spec_l2Insert.j1 : Nat → List (S54) → Int → Int → Int → Int → Int → Option ((List (S54)))
 | 0, _, _, _, _, _, _ => none
 | k + 1, x0, x1, x7, x203000, x203001, x203002 => if x1 < (x0.length : Int) then (if 0 ≤ x1 then (spec_l2Insert.j2 k x0 x1 x7 (decide ((wrap64 (((rd_T54 x0 x1).f1) + 1)) > x7)) x203000 x203001 x203002) else (none)) else (spec_l2Insert.j2 k x0 x1 x7 false x203000 x203001 x203002)
def spec_l2Insert.j2 : Nat → List (S54) → Int → Int → Bool → Int → Int → Int → Option ((List (S54)))
 | 0, _, _, _, _, _, _, _ => none
 | k + 1, x0, x1, x7, x42, x203000, x203001, x203002 => if x42 = true then (if 0 ≤ x1 then (if x1 < (x0.length : Int) then (if x1 ≤ (x0.length : Int) then ((spec_l2Copy.f (x0.take (x1 : Int).toNat)).bind fun t211 => (if t211.length < 4398046511104 then ((some (t211 ++ [(⟨(⟨x203000, x203001, x203002⟩ : S50), wrap64 (((rd_T54 x0 x1).f1) + 1)⟩ : S54)] : List (S54))).bind fun y214 => ((some (x0.drop (x1 : Int).toNat : List (S54))).bind fun y217 => (if y214.length + y217.length < 4398046511104 then ((spec_l2Repair.f k (y214 ++ y217)).bind fun t224 => (some t224)) else (none)))) else (none))) else (none)) else (none)) else (none)) else (if 0 ≤ x1 then (if x1 ≤ (x0.length : Int) then ((spec_l2Copy.f (x0.take (x1 : Int).toNat)).bind fun t229 => (if t229.length < 4398046511104 then ((some (t229 ++ [(⟨(⟨x203000, x203001, x203002⟩ : S50), x7⟩ : S54)] : List (S54))).bind fun y232 => ((some (x0.drop (x1 : Int).toNat : List (S54))).bind fun y235 => (if y232.length + y235.length < 4398046511104 then ((spec_l2Repair.f k (y232 ++ y235)).bind fun t242 => (some t242)) else (none)))) else (none))) else (none)) else (none))
end
def spec_l2Insert.f (k : Nat) (l0 : List (S54)) (a1 : Int) (a2_0 : Int) (a2_1 : Int) (a2_2 : Int) : Option ((List (S54))) := if a1 > 0 then (if 0 ≤ (wrap64 (a1 - 1)) then (if (wrap64 (a1 - 1)) < (l0.length : Int) then (spec_l2Insert.j0 k l0 a1 0 (decide ((wrap64 (((rd_T54 l0 (wrap64 (a1 - 1))).f1) + 1)) > 0)) a2_0 a2_1 a2_2) else (none)) else (none)) else (spec_l2Insert.j0 k l0 a1 0 false a2_0 a2_1 a2_2)
theorem spec_l2Insert.mono_l : ∀ k, (∀ y0 y1 y2 y3 y4 y5 y6, LeO (spec_l2Insert.j0 k y0 y1 y2 y3 y4 y5 y6) (spec_l2Insert.j0 (k + 1) y0 y1 y2 y3 y4 y5 y6)) ∧ (∀ y0 y1 y2 y3 y4 y5, LeO (spec_l2Insert.j1 k y0 y1 y2 y3 y4 y5) (spec_l2Insert.j1 (k + 1) y0 y1 y2 y3 y4 y5)) ∧ (∀ y0 y1 y2 y3 y4 y5 y6, LeO (spec_l2Insert.j2 k y0 y1 y2 y3 y4 y5 y6) (spec_l2Insert.j2 (k + 1) y0 y1 y2 y3 y4 y5 y6))
 | 0 => ⟨fun _ _ _ _ _ _ _ r h => by simp [spec_l2Insert.j0] at h, fun _ _ _ _ _ _ r h => by simp [spec_l2Insert.j1] at h, fun _ _ _ _ _ _ _ r h => by simp [spec_l2Insert.j2] at h⟩
 | k + 1 => by
  obtain ⟨ih0, ih1, ih2⟩ := spec_l2Insert.mono_l k
  refine ⟨?_, ?_, ?_⟩
  ·intro y0 y1 y2 y3 y4 y5 y6
   unfold spec_l2Insert.j0
   repeat' first
   | (with_reducible exact ih0 _ _ _ _ _ _ _)
   | (with_reducible exact ih1 _ _ _ _ _ _)
   | (with_reducible exact ih2 _ _ _ _ _ _ _)
   | (with_reducible exact spec_l2Repair.mono _ _)
   | (with_reducible exact LeO.refl _)
   | (with_reducible exact LeO.none _)
   | (with_reducible refine LeO.ite ?_ ?_)
   | (with_reducible refine LeO.bind ?_ (fun _ => ?_))
   | exact ih0 _ _ _ _ _ _ _
   | exact ih1 _ _ _ _ _ _
   | exact ih2 _ _ _ _ _ _ _
   | exact spec_l2Repair.mono _ _
   | exact LeO.none _
   | refine LeO.ite ?_ ?_
   | refine LeO.bind ?_ (fun _ => ?_)
  ·intro y0 y1 y2 y3 y4 y5
   unfold spec_l2Insert.j1
   repeat' first
   | (with_reducible exact ih0 _ _ _ _ _ _ _)
   | (with_reducible exact ih1 _ _ _ _ _ _)
   | (with_reducible exact ih2 _ _ _ _ _ _ _)
   | (with_reducible exact spec_l2Repair.mono _ _)
   | (with_reducible exact LeO.refl _)
   | (with_reducible exact LeO.none _)
   | (with_reducible refine LeO.ite ?_ ?_)
   | (with_reducible refine LeO.bind ?_ (fun _ => ?_))
   | exact ih0 _ _ _ _ _ _ _
   | exact ih1 _ _ _ _ _ _
   | exact ih2 _ _ _ _ _ _ _
   | exact spec_l2Repair.mono _ _
   | exact LeO.none _
   | refine LeO.ite ?_ ?_
   | refine LeO.bind ?_ (fun _ => ?_)
  ·intro y0 y1 y2 y3 y4 y5 y6
   unfold spec_l2Insert.j2
   repeat' first
   | (with_reducible exact ih0 _ _ _ _ _ _ _)
   | (with_reducible exact ih1 _ _ _ _ _ _)
   | (with_reducible exact ih2 _ _ _ _ _ _ _)
   | (with_reducible exact spec_l2Repair.mono _ _)
   | (with_reducible exact LeO.refl _)
   | (with_reducible exact LeO.none _)
   | (with_reducible refine LeO.ite ?_ ?_)
   | (with_reducible refine LeO.bind ?_ (fun _ => ?_))
   | exact ih0 _ _ _ _ _ _ _
   | exact ih1 _ _ _ _ _ _
   | exact ih2 _ _ _ _ _ _ _
   | exact spec_l2Repair.mono _ _
   | exact LeO.none _
   | refine LeO.ite ?_ ?_
   | refine LeO.bind ?_ (fun _ => ?_)
theorem spec_l2Insert.mono : ∀ a0 a1 a2 a3 a4 k, LeO (spec_l2Insert.f k a0 a1 a2 a3 a4) (spec_l2Insert.f (k + 1) a0 a1 a2 a3 a4) := by
 intro a0 a1 a2 a3 a4 k
 obtain ⟨ih0, ih1, ih2⟩ := spec_l2Insert.mono_l k
 unfold spec_l2Insert.f
 repeat' first
   | (with_reducible exact ih0 _ _ _ _ _ _ _)
   | (with_reducible exact ih1 _ _ _ _ _ _)
   | (with_reducible exact ih2 _ _ _ _ _ _ _)
   | (with_reducible exact spec_l2Repair.mono _ _)
   | (with_reducible exact LeO.refl _)
   | (with_reducible exact LeO.none _)
   | (with_reducible refine LeO.ite ?_ ?_)
   | (with_reducible refine LeO.bind ?_ (fun _ => ?_))
   | exact ih0 _ _ _ _ _ _ _
   | exact ih1 _ _ _ _ _ _
   | exact ih2 _ _ _ _ _ _ _
   | exact spec_l2Repair.mono _ _
   | exact LeO.none _
   | refine LeO.ite ?_ ?_
   | refine LeO.bind ?_ (fun _ => ?_)
set_option maxHeartbeats 8000000 in
set_option maxRecDepth 100000 in
theorem spec_l2Insert.calls (k : Nat) (A0 : Option Addr) (c0 : Nat) (l0 : List (S54)) (a1 : Int) (a2_0 : Int) (a2_1 : Int) (a2_2 : Int) (r : List (S54)) (w : World) (hr0 : Kd.C k54 w A0 l0.length l0) (hc0 : l0.length ≤ c0) (h : spec_l2Insert.f k l0 a1 a2_0 a2_1 a2_2 = some r) :
  Calls Tryd.prog 95 #[.slice A0 l0.length c0, .int .i64 a1, .agg #[.int .i64 a2_0, .int .i64 a2_1, .int .i64 a2_2]] w fun e w' => ∃ v0_ : Value, e = .returned (v0_) ∧ Kd.R k54 54 w' w.heap.size (fun _ => True) v0_ r ∧ Below w.heap.size w w' := by
 have hu50 := Tryd.underlying50
 have hu54 := Tryd.underlying54
 have HR0 := Aside0.mk hr0
 have HC0 := Aside0.mk hc0
 clear hr0 hc0
 have HB := Aside0.mk (Below.refl w.heap.size w)
 have H : (if a1 > 0 then (if 0 ≤ (wrap64 (a1 - 1)) then (if (wrap64 (a1 - 1)) < (l0.length : Int) then (spec_l2Insert.j0 k l0 a1 0 (decide ((wrap64 (((rd_T54 l0 (wrap64 (a1 - 1))).f1) + 1)) > 0)) a2_0 a2_1 a2_2) else (none)) else (none)) else (spec_l2Insert.j0 k l0 a1 0 false a2_0 a2_1 a2_2)) = some r := h
 clear h
 have HC4 := Aside0.mk H
 clear H
 go_enter Tryd.func95, Tryd.ntmps95
 go_upto_region 2 with (first | ((with_reducible refine gate_dst (N := 5) rfl ?_); refine box_event ?hg (N := 5) ?hd (cs := #[.int .i64 a2_0, .int .i64 a2_1, .int .i64 a2_2]) (t := 50) ?hr ?_; (case hd => rfl); (case hg => rfl); (case hr => first | (go_simp; done) | (go_simp; rfl)); intro gb202 hg w5 hbox hb; have n0_ := Aside0.mk (below_step (hbD HB) hb); have n1_ := Aside0.mk (hbox); have n2_ := Aside0.mk ((by rw [hg]; exact (below_size (hbD HB)) : w.heap.size ≤ gb202)); have n3_ := n2_; clear HB; have HB := n0_; have BK202 := n1_; have GW202 := n2_; have GE202 := n3_; clear n0_ n1_ n2_ n3_ hb hbox hg))
 (try simp only [Act.put, List.setIfInBounds_toArray, List.set_cons_zero, List.set_cons_succ])
 go_cut [21] (fun v21 wc => ∃ (kq : Nat) (x21_3 : Bool), v21 = .bool x21_3 ∧ Aside0 (spec_l2Insert.j0 kq l0 a1 0 x21_3 a2_0 a2_1 a2_2 = some r) ∧ Aside0 (kq ≤ k) ∧ Aside0 (wc.heap[gb202]? = some (.cells #[.int .i64 a2_0, .int .i64 a2_1, .int .i64 a2_2] 50 (0, 0))) ∧ Aside0 (Below w.heap.size w wc))
 case first =>
  have H := HC4.out
  clear HC4
  by_cases c6 : a1 > 0
  ·rw [if_pos c6] at H
   have c6b0 : decide (0 < a1) = true := decide_eq_true c6
   clear c6
   (first | rw [c6b0] | (simp only [i64_w, i32_w]; rw [c6b0]) | skip)
   obtain ⟨ji7, hji7⟩ : ∃ j_ : Int, (wrap64 (a1 - 1)) = j_ := ⟨_, rfl⟩
   replace H : (if 0 ≤ (ji7) then (if (ji7) < (l0.length : Int) then (spec_l2Insert.j0 k l0 a1 0 (decide ((wrap64 (((rd_T54 l0 (ji7)).f1) + 1)) > 0)) a2_0 a2_1 a2_2) else (none)) else (none)) = some r := by first | (rw [hji7] at H; exact H) | (simp only [hji7] at H ⊢; exact H)
   have hji7w : (IntKind.i64.wrap (a1 - 1)) = ji7 := (i64_w _).trans hji7
   by_cases c8 : 0 ≤ (ji7)
   ·rw [if_pos c8] at H
    have c8b0 : decide (0 ≤ (ji7)) = true := decide_eq_true c8
    clear c8
    by_cases c9 : (ji7) < (l0.length : Int)
    ·rw [if_pos c9] at H
     have c9b0 : decide ((ji7) < (l0.length : Int)) = true := decide_eq_true c9
     clear c9
     have H' := Aside0.mk H
     clear H
     have p203 : 0 ≤ ((ji7) : Int) := of_decide_eq_true (by first | (with_reducible assumption) | assumption)
     have q203 : (ji7) < (l0.length : Int) := of_decide_eq_true (by first | (with_reducible assumption) | assumption)
     obtain ⟨ad203, e203, hx203_0, hx203_1, hx203_2, hx203_3⟩ := at_T54 HR0.out (ji7) p203 q203
     cases e203
     replace hx203_0 := (HB.out.cell (World.block_lt_of_cell? w _ hx203_0)).trans hx203_0
     replace hx203_1 := (HB.out.cell (World.block_lt_of_cell? w _ hx203_1)).trans hx203_1
     replace hx203_2 := (HB.out.cell (World.block_lt_of_cell? w _ hx203_2)).trans hx203_2
     replace hx203_3 := (HB.out.cell (World.block_lt_of_cell? w _ hx203_3)).trans hx203_3
     replace p203 := eq_true p203
     replace q203 := eq_true q203
     go_wp2
     go_meet
     case rel => exact ⟨_, (decide ((wrap64 (((rd_T54 l0 (ji7)).f1) + 1)) > 0)), (by first | rfl | (simp; done) | (simp only [← hji7] <;> (first | rfl | simp)) | (simp [*]; done)), H', ⟨by first | omega | exact Nat.le_refl _⟩, ⟨by (with_reducible repeat (first | refine blk_drewN ?_ _ | refine blk_drew ?_ | refine blk_alloc ?_ _)); exact BK202.out⟩, ⟨by repeat (first | (with_reducible first | exact HB.out | apply below_alloc | apply pw_below_drewN | apply below_drew1 | refine below_set ?_ GE202.out) | exact HB.out)⟩⟩
    ·rw [if_neg c9] at H
     exact absurd H (by simp)
   ·rw [if_neg c8] at H
    exact absurd H (by simp)
  ·rw [if_neg c6] at H
   have c6b0 : decide (0 < a1) = false := decide_eq_false c6
   clear c6
   (first | rw [c6b0] | (simp only [i64_w, i32_w]; rw [c6b0]) | skip)
   have H' := Aside0.mk H
   clear H
   go_wp2
   go_meet
   case rel => exact ⟨_, (false), (by first | rfl | (simp; done) | (simp [*]; done)), H', ⟨by first | omega | exact Nat.le_refl _⟩, ⟨by (with_reducible repeat (first | refine blk_drewN ?_ _ | refine blk_drew ?_ | refine blk_alloc ?_ _)); exact BK202.out⟩, ⟨by repeat (first | (with_reducible first | exact HB.out | apply below_alloc | apply pw_below_drewN | apply below_drew1 | refine below_set ?_ GE202.out) | exact HB.out)⟩⟩
 case rest =>
  clear HC4
  try clear p2
  try clear q2
  try clear hx2
  try clear c6
  try clear c6b0
  try clear p6
  try clear c8
  try clear c8b0
  try clear c9
  try clear c9b0
  try clear hx203_0
  try clear hx203_1
  try clear hx203_2
  try clear hx203_3
  try clear p203
  try clear q203
  obtain ⟨kq, x21_3, rfl, HA, HJ3, BK202, HB⟩ := hcut
  cases kq with
  | zero => exact absurd HA.out (by simp [spec_l2Insert.j0])
  | succ kj3 =>
   have H := HA.out
   clear HA
   simp only [spec_l2Insert.j0] at H
   have HC10 := Aside0.mk H
   clear H
   go_upto_if 21 with (fail)
   go_cut [7] (fun v7 wc => ∃ (kq : Nat) (x7_9 : Int), v7 = .int .i64 x7_9 ∧ Aside0 (spec_l2Insert.j1 kq l0 a1 x7_9 a2_0 a2_1 a2_2 = some r) ∧ Aside0 (kq ≤ kj3) ∧ Aside0 (wc.heap[gb202]? = some (.cells #[.int .i64 a2_0, .int .i64 a2_1, .int .i64 a2_2] 50 (0, 0))) ∧ Aside0 (Below w.heap.size w wc))
   case first =>
    have H := HC10.out
    clear HC10
    by_cases c11 : x21_3 = true
    ·subst c11
     have H1 : (if 0 ≤ (wrap64 (a1 - 1)) then (if (wrap64 (a1 - 1)) < (l0.length : Int) then (spec_l2Insert.j1 kj3 l0 a1 (wrap64 (((rd_T54 l0 (wrap64 (a1 - 1))).f1) + 1)) a2_0 a2_1 a2_2) else (none)) else (none)) = some r := by rw [if_pos rfl] at H; exact H
     clear H
     have H := H1
     clear H1
     obtain ⟨ji12, hji12⟩ : ∃ j_ : Int, (wrap64 (a1 - 1)) = j_ := ⟨_, rfl⟩
     replace H : (if 0 ≤ (ji12) then (if (ji12) < (l0.length : Int) then (spec_l2Insert.j1 kj3 l0 a1 (wrap64 (((rd_T54 l0 (ji12)).f1) + 1)) a2_0 a2_1 a2_2) else (none)) else (none)) = some r := by first | (rw [hji12] at H; exact H) | (simp only [hji12] at H ⊢; exact H)
     have hji12w : (IntKind.i64.wrap (a1 - 1)) = ji12 := (i64_w _).trans hji12
     by_cases c13 : 0 ≤ (ji12)
     ·rw [if_pos c13] at H
      have c13b0 : decide (0 ≤ (ji12)) = true := decide_eq_true c13
      clear c13
      (first | rw [c13b0] | (simp only [i64_w, i32_w]; rw [c13b0]) | skip)
      by_cases c14 : (ji12) < (l0.length : Int)
      ·rw [if_pos c14] at H
       have c14b0 : decide ((ji12) < (l0.length : Int)) = true := decide_eq_true c14
       clear c14
       have H' := Aside0.mk H
       clear H
       have p204 : 0 ≤ ((ji12) : Int) := of_decide_eq_true (by first | (with_reducible assumption) | assumption)
       have q204 : (ji12) < (l0.length : Int) := of_decide_eq_true (by first | (with_reducible assumption) | assumption)
       obtain ⟨ad204, e204, hx204_0, hx204_1, hx204_2, hx204_3⟩ := at_T54 HR0.out (ji12) p204 q204
       cases e204
       replace hx204_0 := (HB.out.cell (World.block_lt_of_cell? w _ hx204_0)).trans hx204_0
       replace hx204_1 := (HB.out.cell (World.block_lt_of_cell? w _ hx204_1)).trans hx204_1
       replace hx204_2 := (HB.out.cell (World.block_lt_of_cell? w _ hx204_2)).trans hx204_2
       replace hx204_3 := (HB.out.cell (World.block_lt_of_cell? w _ hx204_3)).trans hx204_3
       replace p204 := eq_true p204
       replace q204 := eq_true q204
       go_wp2
       go_meet
       case rel => exact ⟨_, (wrap64 (((rd_T54 l0 (ji12)).f1) + 1)), (by first | rfl | (simp; done) | (simp only [← hji12] <;> (first | rfl | simp)) | (simp [*]; done)), H', ⟨by have := HJ3.out; first | omega | exact Nat.le_refl _⟩, ⟨by (with_reducible repeat (first | refine blk_drewN ?_ _ | refine blk_drew ?_ | refine blk_alloc ?_ _)); exact BK202.out⟩, ⟨by repeat (first | (with_reducible first | exact HB.out | apply below_alloc | apply pw_below_drewN | apply below_drew1 | refine below_set ?_ GE202.out) | exact HB.out)⟩⟩
      ·rw [if_neg c14] at H
       exact absurd H (by simp)
     ·rw [if_neg c13] at H
      exact absurd H (by simp)
    ·replace c11 := Bool.eq_false_iff.mpr c11
     subst c11
     have H1 : (spec_l2Insert.j1 kj3 l0 a1 0 a2_0 a2_1 a2_2) = some r := by rw [if_neg (show ¬ (false = true) by decide)] at H; exact H
     clear H
     have H := H1
     clear H1
     have H' := Aside0.mk H
     clear H
     go_wp2
     go_meet
     case rel => exact ⟨_, (0), (by first | rfl | (simp; done) | (simp [*]; done)), H', ⟨by have := HJ3.out; first | omega | exact Nat.le_refl _⟩, ⟨by (with_reducible repeat (first | refine blk_drewN ?_ _ | refine blk_drew ?_ | refine blk_alloc ?_ _)); exact BK202.out⟩, ⟨by repeat (first | (with_reducible first | exact HB.out | apply below_alloc | apply pw_below_drewN | apply below_drew1 | refine below_set ?_ GE202.out) | exact HB.out)⟩⟩
   case rest =>
    clear HC10
    try clear c1
    try clear p2
    try clear q2
    try clear hx2
    try clear c6
    try clear c6b0
    try clear p6
    try clear c8
    try clear c8b0
    try clear c9
    try clear c9b0
    try clear c11
    try clear c13
    try clear c13b0
    try clear c14
    try clear c14b0
    try clear hx203_0
    try clear hx203_1
    try clear hx203_2
    try clear hx203_3
    try clear hx204_0
    try clear hx204_1
    try clear hx204_2
    try clear hx204_3
    try clear p2
    try clear p203
    try clear p204
    try clear p6
    try clear q2
    try clear q203
    try clear q204
    obtain ⟨kq, x7_9, rfl, HA, HJ9, BK202, HB⟩ := hcut
    cases kq with
    | zero => exact absurd HA.out (by simp [spec_l2Insert.j1])
    | succ kj9 =>
     have H := HA.out
     clear HA
     simp only [spec_l2Insert.j1] at H
     have HC15 := Aside0.mk H
     clear H
     go_upto_region 4 with (fail)
     go_cut [42] (fun v42 wc => ∃ (kq : Nat) (x42_14 : Bool), v42 = .bool x42_14 ∧ Aside0 (spec_l2Insert.j2 kq l0 a1 x7_9 x42_14 a2_0 a2_1 a2_2 = some r) ∧ Aside0 (kq ≤ kj9) ∧ Aside0 (wc.heap[gb202]? = some (.cells #[.int .i64 a2_0, .int .i64 a2_1, .int .i64 a2_2] 50 (0, 0))) ∧ Aside0 (Below w.heap.size w wc))
     case first =>
      have H := HC15.out
      clear HC15
      by_cases c16 : a1 < (l0.length : Int)
      ·rw [if_pos c16] at H
       have c16b0 : decide (a1 < (l0.length : Int)) = true := decide_eq_true c16
       clear c16
       (first | rw [c16b0] | (simp only [i64_w, i32_w]; rw [c16b0]) | skip)
       by_cases c17 : 0 ≤ a1
       ·rw [if_pos c17] at H
        have c17b0 : decide (0 ≤ a1) = true := decide_eq_true c17
        clear c17
        have H' := Aside0.mk H
        clear H
        have p205 : 0 ≤ (a1 : Int) := of_decide_eq_true (by first | (with_reducible assumption) | assumption)
        have q205 : a1 < (l0.length : Int) := of_decide_eq_true (by first | (with_reducible assumption) | assumption)
        obtain ⟨ad205, e205, hx205_0, hx205_1, hx205_2, hx205_3⟩ := at_T54 HR0.out a1 p205 q205
        cases e205
        replace hx205_0 := (HB.out.cell (World.block_lt_of_cell? w _ hx205_0)).trans hx205_0
        replace hx205_1 := (HB.out.cell (World.block_lt_of_cell? w _ hx205_1)).trans hx205_1
        replace hx205_2 := (HB.out.cell (World.block_lt_of_cell? w _ hx205_2)).trans hx205_2
        replace hx205_3 := (HB.out.cell (World.block_lt_of_cell? w _ hx205_3)).trans hx205_3
        replace p205 := eq_true p205
        replace q205 := eq_true q205
        go_wp2
        go_meet
        case rel => exact ⟨_, (decide ((wrap64 (((rd_T54 l0 a1).f1) + 1)) > x7_9)), (by first | rfl | (simp; done) | (simp [*]; done)), H', ⟨by have := HJ3.out; have := HJ9.out; first | omega | exact Nat.le_refl _⟩, ⟨by (with_reducible repeat (first | refine blk_drewN ?_ _ | refine blk_drew ?_ | refine blk_alloc ?_ _)); exact BK202.out⟩, ⟨by repeat (first | (with_reducible first | exact HB.out | apply below_alloc | apply pw_below_drewN | apply below_drew1 | refine below_set ?_ GE202.out) | exact HB.out)⟩⟩
       ·rw [if_neg c17] at H
        exact absurd H (by simp)
      ·rw [if_neg c16] at H
       have c16b0 : decide (a1 < (l0.length : Int)) = false := decide_eq_false c16
       clear c16
       (first | rw [c16b0] | (simp only [i64_w, i32_w]; rw [c16b0]) | skip)
       have H' := Aside0.mk H
       clear H
       go_wp2
       go_meet
       case rel => exact ⟨_, (false), (by first | rfl | (simp; done) | (simp [*]; done)), H', ⟨by have := HJ3.out; have := HJ9.out; first | omega | exact Nat.le_refl _⟩, ⟨by (with_reducible repeat (first | refine blk_drewN ?_ _ | refine blk_drew ?_ | refine blk_alloc ?_ _)); exact BK202.out⟩, ⟨by repeat (first | (with_reducible first | exact HB.out | apply below_alloc | apply pw_below_drewN | apply below_drew1 | refine below_set ?_ GE202.out) | exact HB.out)⟩⟩
     case rest =>
      clear HC15
      try clear c1
      try clear p2
      try clear q2
      try clear hx2
      try clear c6
      try clear c6b0
      try clear p6
      try clear c8
      try clear c8b0
      try clear c9
      try clear c9b0
      try clear c11
      try clear c13
      try clear c13b0
      try clear c14
      try clear c14b0
      try clear c16
      try clear c16b0
      try clear c17
      try clear c17b0
      try clear hx203_0
      try clear hx203_1
      try clear hx203_2
      try clear hx203_3
      try clear hx204_0
      try clear hx204_1
      try clear hx204_2
      try clear hx204_3
      try clear hx205_0
      try clear hx205_1
      try clear hx205_2
      try clear hx205_3
      try clear p2
      try clear p203
      try clear p204
      try clear p205
      try clear p6
      try clear q2
      try clear q203
      try clear q204
      try clear q205
      obtain ⟨kq, x42_14, rfl, HA, HJ14, BK202, HB⟩ := hcut
      cases kq with
      | zero => exact absurd HA.out (by simp [spec_l2Insert.j2])
      | succ kj14 =>
       have H := HA.out
       clear HA
       simp only [spec_l2Insert.j2] at H
       by_cases c18 : x42_14 = true
       ·subst c18
        have H1 : (if 0 ≤ a1 then (if a1 < (l0.length : Int) then (if a1 ≤ (l0.length : Int) then ((spec_l2Copy.f (l0.take (a1 : Int).toNat)).bind fun t211 => (if t211.length < 4398046511104 then ((some (t211 ++ [(⟨(⟨a2_0, a2_1, a2_2⟩ : S50), wrap64 (((rd_T54 l0 a1).f1) + 1)⟩ : S54)] : List (S54))).bind fun y214 => ((some (l0.drop (a1 : Int).toNat : List (S54))).bind fun y217 => (if y214.length + y217.length < 4398046511104 then ((spec_l2Repair.f kj14 (y214 ++ y217)).bind fun t224 => (some t224)) else (none)))) else (none))) else (none)) else (none)) else (none)) = some r := by rw [if_pos rfl] at H; exact H
        clear H
        have H := H1
        clear H1
        by_cases c19 : 0 ≤ a1
        ·rw [if_pos c19] at H
         have c19b0 : decide (0 ≤ a1) = true := decide_eq_true c19
         clear c19
         by_cases c20 : a1 < (l0.length : Int)
         ·rw [if_pos c20] at H
          have c20b0 : decide (a1 < (l0.length : Int)) = true := decide_eq_true c20
          clear c20
          have c21b0 := eq_true (of_decide_eq_true (by first | (with_reducible assumption) | assumption) : 0 ≤ a1)
          by_cases c22 : a1 ≤ (l0.length : Int)
          ·rw [if_pos c22] at H
           have c22b0 := eq_true c22
           have c22b1 : decide (a1 ≤ (l0.length : Int)) = true := decide_eq_true c22
           clear c22
           obtain ⟨y207, hy207⟩ : ∃ y_ : List (S54), y_ = (l0.take (a1 : Int).toNat) := ⟨_, rfl⟩
           replace H : ((spec_l2Copy.f y207).bind fun t211 => (if t211.length < 4398046511104 then ((some (t211 ++ [(⟨(⟨a2_0, a2_1, a2_2⟩ : S50), wrap64 (((rd_T54 l0 a1).f1) + 1)⟩ : S54)] : List (S54))).bind fun y214 => ((some (l0.drop (a1 : Int).toNat : List (S54))).bind fun y217 => (if y214.length + y217.length < 4398046511104 then ((spec_l2Repair.f kj14 (y214 ++ y217)).bind fun t224 => (some t224)) else (none)))) else (none))) = some r := by first | (rw [hy207]; with_reducible exact H) | (have H2_ := (Option.bind_some _ _).symm.trans H; rw [hy207]; with_reducible exact H2_) | (have H2_ := (Option.bind_some _ _).symm.trans H; with_reducible exact H2_) | with_reducible exact H | (rw [hy207]; exact H) | exact H
           have Ny207 := Aside0.mk hy207
           clear hy207
           replace H := Option.bind_eq_some_iff.mp H
           obtain ⟨t211, A230, H⟩ := H
           replace H : (if t211.length < 4398046511104 then ((some (t211 ++ [(⟨(⟨a2_0, a2_1, a2_2⟩ : S50), wrap64 (((rd_T54 l0 a1).f1) + 1)⟩ : S54)] : List (S54))).bind fun y214 => ((some (l0.drop (a1 : Int).toNat : List (S54))).bind fun y217 => (if y214.length + y217.length < 4398046511104 then ((spec_l2Repair.f kj14 (y214 ++ y217)).bind fun t224 => (some t224)) else (none)))) else (none)) = some r := H
           have A23 := Aside0.mk A230
           clear A230
           by_cases c24 : t211.length < 4398046511104
           ·rw [if_pos c24] at H
            have LMc24 := Aside0.mk c24
            clear c24
            obtain ⟨y214, hy214⟩ : ∃ y_ : List (S54), y_ = (t211 ++ [(⟨(⟨a2_0, a2_1, a2_2⟩ : S50), wrap64 (((rd_T54 l0 a1).f1) + 1)⟩ : S54)]) := ⟨_, rfl⟩
            replace H : ((some (l0.drop (a1 : Int).toNat : List (S54))).bind fun y217 => (if y214.length + y217.length < 4398046511104 then ((spec_l2Repair.f kj14 (y214 ++ y217)).bind fun t224 => (some t224)) else (none))) = some r := by first | (rw [hy214]; with_reducible exact H) | (have H2_ := (Option.bind_some _ _).symm.trans H; rw [hy214]; with_reducible exact H2_) | (have H2_ := (Option.bind_some _ _).symm.trans H; with_reducible exact H2_) | with_reducible exact H | (rw [hy214]; exact H) | exact H
            have Ny214 := Aside0.mk hy214
            clear hy214
            have c25b0 := eq_true (of_decide_eq_true (by first | (with_reducible assumption) | assumption) : 0 ≤ a1)
            have c26b0 := eq_true (of_decide_eq_true (by first | (with_reducible assumption) | assumption) : a1 ≤ (l0.length : Int))
            obtain ⟨y217, hy217⟩ : ∃ y_ : List (S54), y_ = (l0.drop (a1 : Int).toNat) := ⟨_, rfl⟩
            replace H : (if y214.length + y217.length < 4398046511104 then ((spec_l2Repair.f kj14 (y214 ++ y217)).bind fun t224 => (some t224)) else (none)) = some r := by first | (rw [hy217]; with_reducible exact H) | (have H2_ := (Option.bind_some _ _).symm.trans H; rw [hy217]; with_reducible exact H2_) | (have H2_ := (Option.bind_some _ _).symm.trans H; with_reducible exact H2_) | with_reducible exact H | (rw [hy217]; exact H) | exact H
            have Ny217 := Aside0.mk hy217
            clear hy217
            by_cases c27 : y214.length + y217.length < 4398046511104
            ·rw [if_pos c27] at H
             have LMc27 := Aside0.mk c27
             clear c27
             obtain ⟨y221, hy221⟩ : ∃ y_ : List (S54), y_ = (y214 ++ y217) := ⟨_, rfl⟩
             replace H : ((spec_l2Repair.f kj14 y221).bind fun t224 => (some t224)) = some r := by first | (rw [hy221]; with_reducible exact H) | (have H2_ := (Option.bind_some _ _).symm.trans H; rw [hy221]; with_reducible exact H2_) | (have H2_ := (Option.bind_some _ _).symm.trans H; with_reducible exact H2_) | with_reducible exact H | (rw [hy221]; exact H) | exact H
             have Ny221 := Aside0.mk hy221
             clear hy221
             replace H := Option.bind_eq_some_iff.mp H
             obtain ⟨t224, A280, H⟩ := H
             replace H : (some t224) = some r := H
             have A28 := Aside0.mk A280
             clear A280
             obtain rfl := Option.some.inj H
             have p206 : 0 ≤ (a1 : Int) := of_decide_eq_true (by first | (with_reducible assumption) | assumption)
             have q206 : a1 < (l0.length : Int) := of_decide_eq_true (by first | (with_reducible assumption) | assumption)
             obtain ⟨ad206, e206, hx206_0, hx206_1, hx206_2, hx206_3⟩ := at_T54 HR0.out a1 p206 q206
             cases e206
             replace hx206_0 := (HB.out.cell (World.block_lt_of_cell? w _ hx206_0)).trans hx206_0
             replace hx206_1 := (HB.out.cell (World.block_lt_of_cell? w _ hx206_1)).trans hx206_1
             replace hx206_2 := (HB.out.cell (World.block_lt_of_cell? w _ hx206_2)).trans hx206_2
             replace hx206_3 := (HB.out.cell (World.block_lt_of_cell? w _ hx206_3)).trans hx206_3
             replace p206 := eq_true p206
             replace q206 := eq_true q206
             have q29 : (a1 : Int) ≤ ((l0.length : Int) : Int) := of_decide_eq_true (by first | (with_reducible assumption) | assumption)
             obtain ⟨i029, hi029, _, hsz29, _⟩ := info_parts info54
             have hroom29 : l0.length ≤ c0 := HC0.out
             have hC29 : Kd.C k54 _ (some ad206) l0.length l0 := HR0.out
             have hcut29 := cut_to (P := Tryd.prog) 28 54 .i64 Tryd.underlying28 hi029 (some ad206) l0.length c0 a1 (of_decide_eq_true (by first | (with_reducible assumption) | assumption)) q29 hroom29
             have hr29 := Kd.C_take (m := (a1 : Int).toNat) hC29 (by omega)
             have hy29 : y207.length = (a1 : Int).toNat := (by rw [Ny207.out, List.length_take]; omega)
             rw [← Ny207.out] at hr29
             rw [← hy29] at hcut29
             have HR210 := Aside0.mk hr29
             have HC210 := Aside0.mk (show y207.length ≤ c0 from by omega)
             clear hr29 hC29 hroom29 hi029 hsz29
             have KY29 := Aside0.mk hy29
             clear hy29
             replace q29 := eq_true q29
             go_wp2_with (first | ((with_reducible refine gate_callee (f := 119) rfl ?_); refine goesL_ (some 52) rfl rfl Tryd.func119 (by kernel_rfl) rfl #[.slice (some ad206) y207.length c0] rfl (by (try simp only [List.map_toArray, List.map_cons, List.map_nil]); first | done | rfl | (simp only [List.length_drop, List.length_take]; rfl)) ?_; (with_reducible refine (spec_l2Copy.calls _ _ y207 t211 _ ?side1 ?side2 A23.out).mono ?_); (case side1 => repeat (first | exact (Kd.C_below HR210.out HB.out) | (with_reducible refine Kd.C_alloc ?_ _) | (with_reducible refine Kd.C_drewN ?_ _) | (with_reducible refine Kd.C_drew ?_))); (case side2 => exact HC210.out); rintro e w30 ⟨v212, rfl, ho0, hb⟩; refine ⟨_, rfl, ?_⟩; have n0_ := Aside0.mk (Kd.R_lower ho0 (below_size (hbD HB))); have n1_ := Aside0.mk (blk_below (bkD BK202) hb); have n2_ := Aside0.mk (below_step (hbD HB) hb); clear BK202 HB; have HO213 := n0_; have BK202 := n1_; have HB := n2_; clear n0_ n1_ n2_; (try clear hb); (try clear hb2); (try clear hk); (try clear hi); (try clear ho0); have hcz31_0 : w30.cell? ⟨gb202, 0, none⟩ = some (.int .i64 a2_0) := (blk_cell BK202.out 0).trans rfl; have hcz31_1 : w30.cell? ⟨gb202, 1, none⟩ = some (.int .i64 a2_1) := (blk_cell BK202.out 1).trans rfl; have hcz31_2 : w30.cell? ⟨gb202, 2, none⟩ = some (.int .i64 a2_2) := (blk_cell BK202.out 2).trans rfl; have hfz31_0 := blk_frozen BK202.out 0; have hfz31_1 := blk_frozen BK202.out 1; have hfz31_2 := blk_frozen BK202.out 2) | ((with_reducible refine gate_builtin (b := .append) (xs := #[.tmp 53, .tmp 57]) rfl ?_); at_builtin; refine Kd.R_append k54 (w0 := w) w.heap.size rfl (.tmp 53) (.tmp 57) 28 54 (.agg #[(.int .i64 0), (.int .i64 0), (.int .i64 0), (.int .i64 0)]) 32 rfl Tryd.underlying28 info54 rfl (by decide) (by omega) v212 t211 (⟨(⟨a2_0, a2_1, a2_2⟩ : S50), wrap64 (((rd_T54 l0 a1).f1) + 1)⟩ : S54) [.int .i64 a2_0, .int .i64 a2_1, .int .i64 a2_2, .int .i64 (wrap64 (((rd_T54 l0 a1).f1) + 1))] (fun _ => True) (fun _ => False) rfl rfl ?aP (fun _ hk => hk.elim) ?aF ?aO ?aB ?aS ?aL ?_; (case aP => exact k54_mkM _ _ _ (⟨(⟨a2_0, a2_1, a2_2⟩ : S50), wrap64 (((rd_T54 l0 a1).f1) + 1)⟩ : S54)); (case aB => exact (hbD HB)); (case aF => exact (fun _ _ => trivial)); (case aO => exact (rD HO213.out)); (case aS => exact (below_size (hbD HB))); (case aL => have := LMc24.out; omega); intro v215 w32 ho hb hg hat; rw [← Ny214.out] at ho; have n0_ := Aside0.mk (blk_grown (g := gb202) (o := .cells #[.int .i64 a2_0, .int .i64 a2_1, .int .i64 a2_2] 50 (0, 0)) (bkD BK202) hg (Kd.R_ne HO213.out BK202.out (by decide))); have n1_ := Aside0.mk (hb); have n2_ := Aside0.mk (ho); clear BK202 HB HO213; have BK202 := n0_; have HB := n1_; have HO216 := n2_; clear n0_ n1_ n2_ ho hb hg hat; have q33 : (a1 : Int) ≤ ((l0.length : Int) : Int) := of_decide_eq_true (by first | (with_reducible assumption) | assumption); obtain ⟨i033, hi033, _, hsz33, _⟩ := info_parts info54; have hroom33 : l0.length ≤ c0 := HC0.out; have hC33 : Kd.C k54 _ (some ad206) l0.length l0 := HR0.out; have q033 : (0 : Int) ≤ (a1 : Int) := of_decide_eq_true (by first | (with_reducible assumption) | assumption); have hcut33 := cut_from (P := Tryd.prog) 28 54 .i64 Tryd.underlying28 hi033 4 hsz33 (some ad206) l0.length c0 a1 q033 q33; have hr33 := Kd.C_drop (m := (a1 : Int).toNat) (c := c0) hC33 (by omega) hroom33; obtain ⟨A33, hA33⟩ : ∃ A1, A1 = (if c0 = (a1 : Int).toNat then (some ad206) else ((some ad206) : Option Addr).map (·.add ((a1 : Int).toNat * 4))) := ⟨_, rfl⟩; obtain ⟨c33, hc33⟩ : ∃ c1, c1 = c0 - (a1 : Int).toNat := ⟨_, rfl⟩; have hy33 : y217.length = l0.length - (a1 : Int).toNat := (by rw [Ny217.out, List.length_drop] <;> omega); rw [show (l0).drop (a1 : Int).toNat = y217 from Ny217.out.symm] at hr33; replace hr33 : Kd.C k54 _ A33 y217.length y217 := (by rw [hA33]; exact hr33); rw [← hy33, ← hA33, ← hc33] at hcut33; have HR220 := Aside0.mk hr33; have HC220 := Aside0.mk (show y217.length ≤ c33 from by rw [hy33, hc33]; exact Nat.sub_le_sub_right hroom33 _); clear hr33 hC33 hroom33 hi033 hsz33 hc33; have KY33 := Aside0.mk hy33; have KA33 := Aside0.mk hA33; clear hy33 hA33; replace q33 := eq_true q33) | ((with_reducible refine gate_builtin (b := .append) (xs := #[.tmp 59, .tmp 62]) rfl ?_); at_builtin; refine Kd.R_append_rows k54 (w0 := w) w.heap.size rfl (.tmp 59) (.tmp 62) 28 54 (.agg #[(.int .i64 0), (.int .i64 0), (.int .i64 0), (.int .i64 0)]) 32 rfl Tryd.underlying28 info54 rfl (by decide) (by omega) v215 y214 y217 _ _ _ (fun _ => True) (fun _ => False) rfl rfl ?aO ?aR (fun _ _ h => h) (fun _ h => h.elim) ?aF ?aB ?aS ?aL ?_; (case aR => repeat (first | exact (Kd.C_below HR220.out HB.out) | (with_reducible refine Kd.C_alloc ?_ _) | (with_reducible refine Kd.C_drewN ?_ _) | (with_reducible refine Kd.C_drew ?_))); (case aB => exact (hbD HB)); (case aF => exact (fun _ _ => trivial)); (case aO => exact (rD HO216.out)); (case aS => exact (below_size (hbD HB))); (case aL => have := LMc27.out; omega); intro v222 w34 ho hb hg hat; rw [← Ny221.out] at ho; have n0_ := Aside0.mk (blk_grown (g := gb202) (o := .cells #[.int .i64 a2_0, .int .i64 a2_1, .int .i64 a2_2] 50 (0, 0)) (bkD BK202) hg (Kd.R_ne HO216.out BK202.out (by decide))); have n1_ := Aside0.mk (hb); have n2_ := Aside0.mk (ho); clear BK202 HB HO216; have BK202 := n0_; have HB := n1_; have HO223 := n2_; clear n0_ n1_ n2_ ho hb hg hat; obtain ⟨Ao35, co35, eo35⟩ := Kd.R_slice HO223.out; subst eo35) | ((with_reducible refine gate_callee (f := 120) rfl ?_); refine goesL_ (some 65) rfl rfl Tryd.func120 (by kernel_rfl) rfl #[.slice Ao35 y221.length co35] rfl (by (try simp only [List.map_toArray, List.map_cons, List.map_nil]); first | done | rfl | (simp only [List.length_drop, List.length_take]; rfl)) ?_; (with_reducible refine (spec_l2Repair.calls kj14 (fun k_ => some k_ = (.slice Ao35 y221.length co35 : Value).ownBlock) (.slice Ao35 y221.length co35) y221 t224 w _ ?side1 ?side2 A28.out).mono ?_); (case side1 => repeat (first | (with_reducible first | exact HB.out | apply below_alloc | apply pw_below_drewN | apply below_drew1 | refine below_set ?_ GE202.out) | exact HB.out)); (case side2 => exact Kd.R_tight rfl HO223.out); rintro e w36 ⟨rfl, hy0, hb, hkp⟩; refine ⟨_, rfl, ?_⟩; have n0_ := Aside0.mk (blk_kept (bkD BK202) hkp (fun hs_ => (fun e_ => (Kd.R_ne HO223.out BK202.out (by decide)) e_) hs_)); have n1_ := Aside0.mk (Kd.R_reok rfl hy0 (fun k_ e_ => HO223.out.1 k_ e_)); have n2_ := Aside0.mk (hb); clear BK202 HO223 HB; have BK202 := n0_; have HO223 := n1_; have HB := n2_; clear n0_ n1_ n2_; (try clear hb); (try clear hkp); (try clear hy0)))
             go_ret
             exact ⟨_, by first | rfl | (simp [errW_none, errW_some] <;> rfl) | (simp [*, errW_none, errW_some] <;> rfl), by (with_reducible repeat (first | apply Kd.R_alloc | apply Kd.R_drewN | apply Kd.R_drew)); exact HO223.out, by repeat (first | (with_reducible first | exact HB.out | apply below_alloc | apply pw_below_drewN | apply below_drew1 | refine below_set ?_ GE202.out) | exact HB.out)⟩
            ·rw [if_neg c27] at H
             exact absurd H (by simp)
           ·rw [if_neg c24] at H
            exact absurd H (by simp)
          ·rw [if_neg c22] at H
           exact absurd H (by simp)
         ·rw [if_neg c20] at H
          exact absurd H (by simp)
        ·rw [if_neg c19] at H
         exact absurd H (by simp)
       ·replace c18 := Bool.eq_false_iff.mpr c18
        subst c18
        have H1 : (if 0 ≤ a1 then (if a1 ≤ (l0.length : Int) then ((spec_l2Copy.f (l0.take (a1 : Int).toNat)).bind fun t229 => (if t229.length < 4398046511104 then ((some (t229 ++ [(⟨(⟨a2_0, a2_1, a2_2⟩ : S50), x7_9⟩ : S54)] : List (S54))).bind fun y232 => ((some (l0.drop (a1 : Int).toNat : List (S54))).bind fun y235 => (if y232.length + y235.length < 4398046511104 then ((spec_l2Repair.f kj14 (y232 ++ y235)).bind fun t242 => (some t242)) else (none)))) else (none))) else (none)) else (none)) = some r := by rw [if_neg (show ¬ (false = true) by decide)] at H; exact H
        clear H
        have H := H1
        clear H1
        by_cases c37 : 0 ≤ a1
        ·rw [if_pos c37] at H
         have c37b0 := eq_true c37
         have c37b1 : decide (0 ≤ a1) = true := decide_eq_true c37
         clear c37
         by_cases c38 : a1 ≤ (l0.length : Int)
         ·rw [if_pos c38] at H
          have c38b0 := eq_true c38
          have c38b1 : decide (a1 ≤ (l0.length : Int)) = true := decide_eq_true c38
          clear c38
          obtain ⟨y225, hy225⟩ : ∃ y_ : List (S54), y_ = (l0.take (a1 : Int).toNat) := ⟨_, rfl⟩
          replace H : ((spec_l2Copy.f y225).bind fun t229 => (if t229.length < 4398046511104 then ((some (t229 ++ [(⟨(⟨a2_0, a2_1, a2_2⟩ : S50), x7_9⟩ : S54)] : List (S54))).bind fun y232 => ((some (l0.drop (a1 : Int).toNat : List (S54))).bind fun y235 => (if y232.length + y235.length < 4398046511104 then ((spec_l2Repair.f kj14 (y232 ++ y235)).bind fun t242 => (some t242)) else (none)))) else (none))) = some r := by first | (rw [hy225]; with_reducible exact H) | (have H2_ := (Option.bind_some _ _).symm.trans H; rw [hy225]; with_reducible exact H2_) | (have H2_ := (Option.bind_some _ _).symm.trans H; with_reducible exact H2_) | with_reducible exact H | (rw [hy225]; exact H) | exact H
          have Ny225 := Aside0.mk hy225
          clear hy225
          replace H := Option.bind_eq_some_iff.mp H
          obtain ⟨t229, A390, H⟩ := H
          replace H : (if t229.length < 4398046511104 then ((some (t229 ++ [(⟨(⟨a2_0, a2_1, a2_2⟩ : S50), x7_9⟩ : S54)] : List (S54))).bind fun y232 => ((some (l0.drop (a1 : Int).toNat : List (S54))).bind fun y235 => (if y232.length + y235.length < 4398046511104 then ((spec_l2Repair.f kj14 (y232 ++ y235)).bind fun t242 => (some t242)) else (none)))) else (none)) = some r := H
          have A39 := Aside0.mk A390
          clear A390
          by_cases c40 : t229.length < 4398046511104
          ·rw [if_pos c40] at H
           have LMc40 := Aside0.mk c40
           clear c40
           obtain ⟨y232, hy232⟩ : ∃ y_ : List (S54), y_ = (t229 ++ [(⟨(⟨a2_0, a2_1, a2_2⟩ : S50), x7_9⟩ : S54)]) := ⟨_, rfl⟩
           replace H : ((some (l0.drop (a1 : Int).toNat : List (S54))).bind fun y235 => (if y232.length + y235.length < 4398046511104 then ((spec_l2Repair.f kj14 (y232 ++ y235)).bind fun t242 => (some t242)) else (none))) = some r := by first | (rw [hy232]; with_reducible exact H) | (have H2_ := (Option.bind_some _ _).symm.trans H; rw [hy232]; with_reducible exact H2_) | (have H2_ := (Option.bind_some _ _).symm.trans H; with_reducible exact H2_) | with_reducible exact H | (rw [hy232]; exact H) | exact H
           have Ny232 := Aside0.mk hy232
           clear hy232
           have c41b0 := eq_true (of_decide_eq_true (by first | (with_reducible assumption) | assumption) : 0 ≤ a1)
           have c42b0 := eq_true (of_decide_eq_true (by first | (with_reducible assumption) | assumption) : a1 ≤ (l0.length : Int))
           obtain ⟨y235, hy235⟩ : ∃ y_ : List (S54), y_ = (l0.drop (a1 : Int).toNat) := ⟨_, rfl⟩
           replace H : (if y232.length + y235.length < 4398046511104 then ((spec_l2Repair.f kj14 (y232 ++ y235)).bind fun t242 => (some t242)) else (none)) = some r := by first | (rw [hy235]; with_reducible exact H) | (have H2_ := (Option.bind_some _ _).symm.trans H; rw [hy235]; with_reducible exact H2_) | (have H2_ := (Option.bind_some _ _).symm.trans H; with_reducible exact H2_) | with_reducible exact H | (rw [hy235]; exact H) | exact H
           have Ny235 := Aside0.mk hy235
           clear hy235
           by_cases c43 : y232.length + y235.length < 4398046511104
           ·rw [if_pos c43] at H
            have LMc43 := Aside0.mk c43
            clear c43
            obtain ⟨y239, hy239⟩ : ∃ y_ : List (S54), y_ = (y232 ++ y235) := ⟨_, rfl⟩
            replace H : ((spec_l2Repair.f kj14 y239).bind fun t242 => (some t242)) = some r := by first | (rw [hy239]; with_reducible exact H) | (have H2_ := (Option.bind_some _ _).symm.trans H; rw [hy239]; with_reducible exact H2_) | (have H2_ := (Option.bind_some _ _).symm.trans H; with_reducible exact H2_) | with_reducible exact H | (rw [hy239]; exact H) | exact H
            have Ny239 := Aside0.mk hy239
            clear hy239
            replace H := Option.bind_eq_some_iff.mp H
            obtain ⟨t242, A440, H⟩ := H
            replace H : (some t242) = some r := H
            have A44 := Aside0.mk A440
            clear A440
            obtain rfl := Option.some.inj H
            have q45 : (a1 : Int) ≤ ((l0.length : Int) : Int) := of_decide_eq_true (by first | (with_reducible assumption) | assumption)
            obtain ⟨i045, hi045, _, hsz45, _⟩ := info_parts info54
            have hroom45 : l0.length ≤ c0 := HC0.out
            have hC45 : Kd.C k54 _ A0 l0.length l0 := HR0.out
            have hcut45 := cut_to (P := Tryd.prog) 28 54 .i64 Tryd.underlying28 hi045 A0 l0.length c0 a1 (of_decide_eq_true (by first | (with_reducible assumption) | assumption)) q45 hroom45
            have hr45 := Kd.C_take (m := (a1 : Int).toNat) hC45 (by omega)
            have hy45 : y225.length = (a1 : Int).toNat := (by rw [Ny225.out, List.length_take]; omega)
            rw [← Ny225.out] at hr45
            rw [← hy45] at hcut45
            have HR228 := Aside0.mk hr45
            have HC228 := Aside0.mk (show y225.length ≤ c0 from by omega)
            clear hr45 hC45 hroom45 hi045 hsz45
            have KY45 := Aside0.mk hy45
            clear hy45
            replace q45 := eq_true q45
            go_wp2_with (first | ((with_reducible refine gate_callee (f := 119) rfl ?_); refine goesL_ (some 52) rfl rfl Tryd.func119 (by kernel_rfl) rfl #[.slice A0 y225.length c0] rfl (by (try simp only [List.map_toArray, List.map_cons, List.map_nil]); first | done | rfl | (simp only [List.length_drop, List.length_take]; rfl)) ?_; (with_reducible refine (spec_l2Copy.calls _ _ y225 t229 _ ?side1 ?side2 A39.out).mono ?_); (case side1 => repeat (first | exact (Kd.C_below HR228.out HB.out) | (with_reducible refine Kd.C_alloc ?_ _) | (with_reducible refine Kd.C_drewN ?_ _) | (with_reducible refine Kd.C_drew ?_))); (case side2 => exact HC228.out); rintro e w46 ⟨v230, rfl, ho0, hb⟩; refine ⟨_, rfl, ?_⟩; have n0_ := Aside0.mk (Kd.R_lower ho0 (below_size (hbD HB))); have n1_ := Aside0.mk (blk_below (bkD BK202) hb); have n2_ := Aside0.mk (below_step (hbD HB) hb); clear BK202 HB; have HO231 := n0_; have BK202 := n1_; have HB := n2_; clear n0_ n1_ n2_; (try clear hb); (try clear hb2); (try clear hk); (try clear hi); (try clear ho0); have hcz47_0 : w46.cell? ⟨gb202, 0, none⟩ = some (.int .i64 a2_0) := (blk_cell BK202.out 0).trans rfl; have hcz47_1 : w46.cell? ⟨gb202, 1, none⟩ = some (.int .i64 a2_1) := (blk_cell BK202.out 1).trans rfl; have hcz47_2 : w46.cell? ⟨gb202, 2, none⟩ = some (.int .i64 a2_2) := (blk_cell BK202.out 2).trans rfl; have hfz47_0 := blk_frozen BK202.out 0; have hfz47_1 := blk_frozen BK202.out 1; have hfz47_2 := blk_frozen BK202.out 2) | ((with_reducible refine gate_builtin (b := .append) (xs := #[.tmp 53, .tmp 57]) rfl ?_); at_builtin; refine Kd.R_append k54 (w0 := w) w.heap.size rfl (.tmp 53) (.tmp 57) 28 54 (.agg #[(.int .i64 0), (.int .i64 0), (.int .i64 0), (.int .i64 0)]) 32 rfl Tryd.underlying28 info54 rfl (by decide) (by omega) v230 t229 (⟨(⟨a2_0, a2_1, a2_2⟩ : S50), x7_9⟩ : S54) [.int .i64 a2_0, .int .i64 a2_1, .int .i64 a2_2, .int .i64 x7_9] (fun _ => True) (fun _ => False) rfl rfl ?aP (fun _ hk => hk.elim) ?aF ?aO ?aB ?aS ?aL ?_; (case aP => exact k54_mkM _ _ _ (⟨(⟨a2_0, a2_1, a2_2⟩ : S50), x7_9⟩ : S54)); (case aB => exact (hbD HB)); (case aF => exact (fun _ _ => trivial)); (case aO => exact (rD HO231.out)); (case aS => exact (below_size (hbD HB))); (case aL => have := LMc40.out; omega); intro v233 w48 ho hb hg hat; rw [← Ny232.out] at ho; have n0_ := Aside0.mk (blk_grown (g := gb202) (o := .cells #[.int .i64 a2_0, .int .i64 a2_1, .int .i64 a2_2] 50 (0, 0)) (bkD BK202) hg (Kd.R_ne HO231.out BK202.out (by decide))); have n1_ := Aside0.mk (hb); have n2_ := Aside0.mk (ho); clear BK202 HB HO231; have BK202 := n0_; have HB := n1_; have HO234 := n2_; clear n0_ n1_ n2_ ho hb hg hat; have q49 : (a1 : Int) ≤ ((l0.length : Int) : Int) := of_decide_eq_true (by first | (with_reducible assumption) | assumption); obtain ⟨i049, hi049, _, hsz49, _⟩ := info_parts info54; have hroom49 : l0.length ≤ c0 := HC0.out; have hC49 : Kd.C k54 _ A0 l0.length l0 := HR0.out; have q049 : (0 : Int) ≤ (a1 : Int) := of_decide_eq_true (by first | (with_reducible assumption) | assumption); have hcut49 := cut_from (P := Tryd.prog) 28 54 .i64 Tryd.underlying28 hi049 4 hsz49 A0 l0.length c0 a1 q049 q49; have hr49 := Kd.C_drop (m := (a1 : Int).toNat) (c := c0) hC49 (by omega) hroom49; obtain ⟨A49, hA49⟩ : ∃ A1, A1 = (if c0 = (a1 : Int).toNat then A0 else (A0 : Option Addr).map (·.add ((a1 : Int).toNat * 4))) := ⟨_, rfl⟩; obtain ⟨c49, hc49⟩ : ∃ c1, c1 = c0 - (a1 : Int).toNat := ⟨_, rfl⟩; have hy49 : y235.length = l0.length - (a1 : Int).toNat := (by rw [Ny235.out, List.length_drop] <;> omega); rw [show (l0).drop (a1 : Int).toNat = y235 from Ny235.out.symm] at hr49; replace hr49 : Kd.C k54 _ A49 y235.length y235 := (by rw [hA49]; exact hr49); rw [← hy49, ← hA49, ← hc49] at hcut49; have HR238 := Aside0.mk hr49; have HC238 := Aside0.mk (show y235.length ≤ c49 from by rw [hy49, hc49]; exact Nat.sub_le_sub_right hroom49 _); clear hr49 hC49 hroom49 hi049 hsz49 hc49; have KY49 := Aside0.mk hy49; have KA49 := Aside0.mk hA49; clear hy49 hA49; replace q49 := eq_true q49) | ((with_reducible refine gate_builtin (b := .append) (xs := #[.tmp 59, .tmp 62]) rfl ?_); at_builtin; refine Kd.R_append_rows k54 (w0 := w) w.heap.size rfl (.tmp 59) (.tmp 62) 28 54 (.agg #[(.int .i64 0), (.int .i64 0), (.int .i64 0), (.int .i64 0)]) 32 rfl Tryd.underlying28 info54 rfl (by decide) (by omega) v233 y232 y235 _ _ _ (fun _ => True) (fun _ => False) rfl rfl ?aO ?aR (fun _ _ h => h) (fun _ h => h.elim) ?aF ?aB ?aS ?aL ?_; (case aR => repeat (first | exact (Kd.C_below HR238.out HB.out) | (with_reducible refine Kd.C_alloc ?_ _) | (with_reducible refine Kd.C_drewN ?_ _) | (with_reducible refine Kd.C_drew ?_))); (case aB => exact (hbD HB)); (case aF => exact (fun _ _ => trivial)); (case aO => exact (rD HO234.out)); (case aS => exact (below_size (hbD HB))); (case aL => have := LMc43.out; omega); intro v240 w50 ho hb hg hat; rw [← Ny239.out] at ho; have n0_ := Aside0.mk (blk_grown (g := gb202) (o := .cells #[.int .i64 a2_0, .int .i64 a2_1, .int .i64 a2_2] 50 (0, 0)) (bkD BK202) hg (Kd.R_ne HO234.out BK202.out (by decide))); have n1_ := Aside0.mk (hb); have n2_ := Aside0.mk (ho); clear BK202 HB HO234; have BK202 := n0_; have HB := n1_; have HO241 := n2_; clear n0_ n1_ n2_ ho hb hg hat; obtain ⟨Ao51, co51, eo51⟩ := Kd.R_slice HO241.out; subst eo51) | ((with_reducible refine gate_callee (f := 120) rfl ?_); refine goesL_ (some 65) rfl rfl Tryd.func120 (by kernel_rfl) rfl #[.slice Ao51 y239.length co51] rfl (by (try simp only [List.map_toArray, List.map_cons, List.map_nil]); first | done | rfl | (simp only [List.length_drop, List.length_take]; rfl)) ?_; (with_reducible refine (spec_l2Repair.calls kj14 (fun k_ => some k_ = (.slice Ao51 y239.length co51 : Value).ownBlock) (.slice Ao51 y239.length co51) y239 t242 w _ ?side1 ?side2 A44.out).mono ?_); (case side1 => repeat (first | (with_reducible first | exact HB.out | apply below_alloc | apply pw_below_drewN | apply below_drew1 | refine below_set ?_ GE202.out) | exact HB.out)); (case side2 => exact Kd.R_tight rfl HO241.out); rintro e w52 ⟨rfl, hy0, hb, hkp⟩; refine ⟨_, rfl, ?_⟩; have n0_ := Aside0.mk (blk_kept (bkD BK202) hkp (fun hs_ => (fun e_ => (Kd.R_ne HO241.out BK202.out (by decide)) e_) hs_)); have n1_ := Aside0.mk (Kd.R_reok rfl hy0 (fun k_ e_ => HO241.out.1 k_ e_)); have n2_ := Aside0.mk (hb); clear BK202 HO241 HB; have BK202 := n0_; have HO241 := n1_; have HB := n2_; clear n0_ n1_ n2_; (try clear hb); (try clear hkp); (try clear hy0)))
            go_ret
            exact ⟨_, by first | rfl | (simp [errW_none, errW_some] <;> rfl) | (simp [*, errW_none, errW_some] <;> rfl), by (with_reducible repeat (first | apply Kd.R_alloc | apply Kd.R_drewN | apply Kd.R_drew)); exact HO241.out, by repeat (first | (with_reducible first | exact HB.out | apply below_alloc | apply pw_below_drewN | apply below_drew1 | refine below_set ?_ GE202.out) | exact HB.out)⟩
           ·rw [if_neg c43] at H
            exact absurd H (by simp)
          ·rw [if_neg c40] at H
           exact absurd H (by simp)
         ·rw [if_neg c38] at H
          exact absurd H (by simp)
        ·rw [if_neg c37] at H
         exact absurd H (by simp)

end Go.Proofs.YtciabhncmdpeeaaDoor.QFnExactTreeInsert
