/- What the law FnExactTreeJoin reaches: each function as a plain function, and that the machine's call does it (written by a program). The condition, where there is one: errors.errorType reads as laid. -/
import Derived.Test.YtciabhncmdpeeaaDoorQFnExactTreeJoinx0
import Derived.Test.YtciabhncmdpeeaaDoorQFnExactTreeJoinx4
import Derived.Test.YtciabhncmdpeeaaDoorQFnExactTreeJoinx5
import Derived.Test.YtciabhncmdpeeaaDoorSq
namespace Go.Proofs.YtciabhncmdpeeaaDoor.QFnExactTreeJoin
open Go.Proofs.YtciabhncmdpeeaaDoor.Er Go.Proofs.YtciabhncmdpeeaaDoor.Sq
open Go.RowKit Go.Proofs.YtciabhncmdpeeaaDoorW.PrintWords Go.Proofs.YtciabhncmdpeeaaDoorW.PrintLast Go.Proofs.YtciabhncmdpeeaaDoorW.PrintMore
attribute [local go_sem] max2_int min2_int max_two min_two max_three min_three max_four min_four   -- for this text's walks alone
set_option linter.unusedVariables false
set_option linter.unusedSimpArgs false

mutual
def spec_l2Repair.l0 : Nat → List (S54) → Int → Option ((List (S54)))
 | 0, _, _ => none
 | k + 1, x0, x2 => if x2 ≤ (wrap64 ((wrap64 (2 * (x0.length : Int))) + 2)) then (spec_l2Repair.l1 k x0 x2 (-1) (x0.length : Int) 0) else (some x0)
def spec_l2Repair.l1 : Nat → List (S54) → Int → Int → Int → Int → Option ((List (S54)))
 | 0, _, _, _, _, _ => none
 | k + 1, x0, x2, x3, x25, x26 => if x26 < x25 then ((spec_l2Range.f k x0 x26).bind fun bt196 => ((spec_l2Height.f k x0 bt196.1 x26).bind fun t198 => ((spec_l2Height.f k x0 (wrap64 (x26 + 1)) bt196.2).bind fun t199 => (if (wrap64 (t198 - t199)) ≥ 2 then (spec_l2Repair.j2 k x0 x2 x3 x26 x25 x26 true) else (spec_l2Repair.j2 k x0 x2 x3 x26 x25 x26 (decide ((wrap64 (t198 - t199)) ≤ (-2)))))))) else (if x3 < 0 then (some x0) else ((spec_l2Range.f k x0 x3).bind fun bt202 => ((spec_l2Height.f k x0 bt202.1 x3).bind fun t204 => ((spec_l2Height.f k x0 (wrap64 (x3 + 1)) bt202.2).bind fun t205 => ((spec_l2Child.f k x0 (wrap64 (x3 + 1)) bt202.2).bind fun t206 => (if t204 > t205 then ((spec_l2Child.f k x0 bt202.1 x3).bind fun t207 => (spec_l2Repair.j3 k x0 x2 x3 (decide (t204 > t205)) t207)) else (spec_l2Repair.j3 k x0 x2 x3 (decide (t204 > t205)) t206)))))))
def spec_l2Repair.j2 : Nat → List (S54) → Int → Int → Int → Int → Int → Bool → Option ((List (S54)))
 | 0, _, _, _, _, _, _, _ => none
 | k + 1, x0, x2, x3, x4, x25, x26, x50 => if x50 = true then (if x3 < 0 then (spec_l2Repair.l1 k x0 x2 x4 x25 (wrap64 (x26 + 1))) else (if 0 ≤ x4 then (if x4 < (x0.length : Int) then (if 0 ≤ x3 then (if x3 < (x0.length : Int) then (if ((rd_T54 x0 x4).f1) > ((rd_T54 x0 x3).f1) then (spec_l2Repair.l1 k x0 x2 x4 x25 (wrap64 (x26 + 1))) else (spec_l2Repair.l1 k x0 x2 x3 x25 (wrap64 (x26 + 1)))) else (none)) else (none)) else (none)) else (none))) else (spec_l2Repair.l1 k x0 x2 x3 x25 (wrap64 (x26 + 1)))
def spec_l2Repair.j3 : Nat → List (S54) → Int → Int → Bool → Int → Option ((List (S54)))
 | 0, _, _, _, _, _ => none
 | k + 1, x0, x2, x3, x10, x11 => (spec_l2Range.f k x0 x11).bind fun bt208 => ((spec_l2Height.f k x0 (wrap64 (x11 + 1)) bt208.2).bind fun t210 => ((spec_l2Height.f k x0 bt208.1 x11).bind fun t211 => (if x10 = true then (spec_l2Repair.j4 k x0 x2 x3 x10 x11 t211 t210) else (spec_l2Repair.j4 k x0 x2 x3 x10 x11 t210 t211))))
def spec_l2Repair.j4 : Nat → List (S54) → Int → Int → Bool → Int → Int → Int → Option ((List (S54)))
 | 0, _, _, _, _, _, _, _ => none
 | k + 1, x0, x2, x3, x10, x11, x14, x15 => if x14 < x15 then ((spec_l2Turn.f k x0 x11 (!x10)).bind fun t212 => ((spec_l2Turn.f k t212 x3 x10).bind fun t213 => (spec_l2Repair.l0 k t213 (wrap64 (x2 + 1))))) else ((spec_l2Turn.f k x0 x3 x10).bind fun t214 => (spec_l2Repair.l0 k t214 (wrap64 (x2 + 1))))
end
def spec_l2Repair.f (k : Nat) (l0 : List (S54)) : Option ((List (S54))) := spec_l2Repair.l0 k l0 0
theorem spec_l2Repair.mono_l : ∀ k, (∀ y0 y1, LeO (spec_l2Repair.l0 k y0 y1) (spec_l2Repair.l0 (k + 1) y0 y1)) ∧ (∀ y0 y1 y2 y3 y4, LeO (spec_l2Repair.l1 k y0 y1 y2 y3 y4) (spec_l2Repair.l1 (k + 1) y0 y1 y2 y3 y4)) ∧ (∀ y0 y1 y2 y3 y4 y5 y6, LeO (spec_l2Repair.j2 k y0 y1 y2 y3 y4 y5 y6) (spec_l2Repair.j2 (k + 1) y0 y1 y2 y3 y4 y5 y6)) ∧ (∀ y0 y1 y2 y3 y4, LeO (spec_l2Repair.j3 k y0 y1 y2 y3 y4) (spec_l2Repair.j3 (k + 1) y0 y1 y2 y3 y4)) ∧ (∀ y0 y1 y2 y3 y4 y5 y6, LeO (spec_l2Repair.j4 k y0 y1 y2 y3 y4 y5 y6) (spec_l2Repair.j4 (k + 1) y0 y1 y2 y3 y4 y5 y6))
 | 0 => ⟨fun _ _ r h => by simp [spec_l2Repair.l0] at h, fun _ _ _ _ _ r h => by simp [spec_l2Repair.l1] at h, fun _ _ _ _ _ _ _ r h => by simp [spec_l2Repair.j2] at h, fun _ _ _ _ _ r h => by simp [spec_l2Repair.j3] at h, fun _ _ _ _ _ _ _ r h => by simp [spec_l2Repair.j4] at h⟩
 | k + 1 => by
  obtain ⟨ih0, ih1, ih2, ih3, ih4⟩ := spec_l2Repair.mono_l k; refine ⟨?_, ?_, ?_, ?_, ?_⟩
  ·intro y0 y1
   unfold spec_l2Repair.l0
   repeat' first
   | (with_reducible exact ih0 _ _)
   | (with_reducible exact ih1 _ _ _ _ _)
   | (with_reducible exact ih2 _ _ _ _ _ _ _)
   | (with_reducible exact ih3 _ _ _ _ _)
   | (with_reducible exact ih4 _ _ _ _ _ _ _)
   | (with_reducible exact spec_l2Child.mono _ _ _ _)
   | (with_reducible exact spec_l2Height.mono _ _ _ _)
   | (with_reducible exact spec_l2Range.mono _ _ _)
   | (with_reducible exact spec_l2Turn.mono _ _ _ _)
   | (with_reducible exact LeO.refl _)
   | (with_reducible exact LeO.none _)
   | (with_reducible refine LeO.ite ?_ ?_)
   | (with_reducible refine LeO.bind ?_ (fun _ => ?_))
   | exact ih0 _ _
   | exact ih1 _ _ _ _ _
   | exact ih2 _ _ _ _ _ _ _
   | exact ih3 _ _ _ _ _
   | exact ih4 _ _ _ _ _ _ _
   | exact spec_l2Child.mono _ _ _ _
   | exact spec_l2Height.mono _ _ _ _
   | exact spec_l2Range.mono _ _ _
   | exact spec_l2Turn.mono _ _ _ _
   | exact LeO.none _
   | refine LeO.ite ?_ ?_
   | refine LeO.bind ?_ (fun _ => ?_)
  ·intro y0 y1 y2 y3 y4
   unfold spec_l2Repair.l1
   repeat' first
   | (with_reducible exact ih0 _ _)
   | (with_reducible exact ih1 _ _ _ _ _)
   | (with_reducible exact ih2 _ _ _ _ _ _ _)
   | (with_reducible exact ih3 _ _ _ _ _)
   | (with_reducible exact ih4 _ _ _ _ _ _ _)
   | (with_reducible exact spec_l2Child.mono _ _ _ _)
   | (with_reducible exact spec_l2Height.mono _ _ _ _)
   | (with_reducible exact spec_l2Range.mono _ _ _)
   | (with_reducible exact spec_l2Turn.mono _ _ _ _)
   | (with_reducible exact LeO.refl _)
   | (with_reducible exact LeO.none _)
   | (with_reducible refine LeO.ite ?_ ?_)
   | (with_reducible refine LeO.bind ?_ (fun _ => ?_))
   | exact ih0 _ _
   | exact ih1 _ _ _ _ _
   | exact ih2 _ _ _ _ _ _ _
   | exact ih3 _ _ _ _ _
   | exact ih4 _ _ _ _ _ _ _
   | exact spec_l2Child.mono _ _ _ _
   | exact spec_l2Height.mono _ _ _ _
   | exact spec_l2Range.mono _ _ _
   | exact spec_l2Turn.mono _ _ _ _
   | exact LeO.none _
   | refine LeO.ite ?_ ?_
   | refine LeO.bind ?_ (fun _ => ?_)
  ·intro y0 y1 y2 y3 y4 y5 y6
   unfold spec_l2Repair.j2
   repeat' first
   | (with_reducible exact ih0 _ _)
   | (with_reducible exact ih1 _ _ _ _ _)
   | (with_reducible exact ih2 _ _ _ _ _ _ _)
   | (with_reducible exact ih3 _ _ _ _ _)
   | (with_reducible exact ih4 _ _ _ _ _ _ _)
   | (with_reducible exact spec_l2Child.mono _ _ _ _)
   | (with_reducible exact spec_l2Height.mono _ _ _ _)
   | (with_reducible exact spec_l2Range.mono _ _ _)
   | (with_reducible exact spec_l2Turn.mono _ _ _ _)
   | (with_reducible exact LeO.refl _)
   | (with_reducible exact LeO.none _)
   | (with_reducible refine LeO.ite ?_ ?_)
   | (with_reducible refine LeO.bind ?_ (fun _ => ?_))
   | exact ih0 _ _
   | exact ih1 _ _ _ _ _
   | exact ih2 _ _ _ _ _ _ _
   | exact ih3 _ _ _ _ _
   | exact ih4 _ _ _ _ _ _ _
   | exact spec_l2Child.mono _ _ _ _
   | exact spec_l2Height.mono _ _ _ _
   | exact spec_l2Range.mono _ _ _
   | exact spec_l2Turn.mono _ _ _ _
   | exact LeO.none _
   | refine LeO.ite ?_ ?_
   | refine LeO.bind ?_ (fun _ => ?_)
  ·intro y0 y1 y2 y3 y4
   unfold spec_l2Repair.j3
   repeat' first
   | (with_reducible exact ih0 _ _)
   | (with_reducible exact ih1 _ _ _ _ _)
   | (with_reducible exact ih2 _ _ _ _ _ _ _)
   | (with_reducible exact ih3 _ _ _ _ _)
   | (with_reducible exact ih4 _ _ _ _ _ _ _)
   | (with_reducible exact spec_l2Child.mono _ _ _ _)
   | (with_reducible exact spec_l2Height.mono _ _ _ _)
   | (with_reducible exact spec_l2Range.mono _ _ _)
   | (with_reducible exact spec_l2Turn.mono _ _ _ _)
   | (with_reducible exact LeO.refl _)
   | (with_reducible exact LeO.none _)
   | (with_reducible refine LeO.ite ?_ ?_)
   | (with_reducible refine LeO.bind ?_ (fun _ => ?_))
   | exact ih0 _ _
   | exact ih1 _ _ _ _ _
   | exact ih2 _ _ _ _ _ _ _
   | exact ih3 _ _ _ _ _
   | exact ih4 _ _ _ _ _ _ _
   | exact spec_l2Child.mono _ _ _ _
   | exact spec_l2Height.mono _ _ _ _
   | exact spec_l2Range.mono _ _ _
   | exact spec_l2Turn.mono _ _ _ _
   | exact LeO.none _
   | refine LeO.ite ?_ ?_
   | refine LeO.bind ?_ (fun _ => ?_)
  ·intro y0 y1 y2 y3 y4 y5 y6
   unfold spec_l2Repair.j4
   repeat' first
   | (with_reducible exact ih0 _ _)
   | (with_reducible exact ih1 _ _ _ _ _)
   | (with_reducible exact ih2 _ _ _ _ _ _ _)
   | (with_reducible exact ih3 _ _ _ _ _)
   | (with_reducible exact ih4 _ _ _ _ _ _ _)
   | (with_reducible exact spec_l2Child.mono _ _ _ _)
   | (with_reducible exact spec_l2Height.mono _ _ _ _)
   | (with_reducible exact spec_l2Range.mono _ _ _)
   | (with_reducible exact spec_l2Turn.mono _ _ _ _)
   | (with_reducible exact LeO.refl _)
   | (with_reducible exact LeO.none _)
   | (with_reducible refine LeO.ite ?_ ?_)
   | (with_reducible refine LeO.bind ?_ (fun _ => ?_))
   | exact ih0 _ _
   | exact ih1 _ _ _ _ _
   | exact ih2 _ _ _ _ _ _ _
   | exact ih3 _ _ _ _ _
   | exact ih4 _ _ _ _ _ _ _
   | exact spec_l2Child.mono _ _ _ _
   | exact spec_l2Height.mono _ _ _ _
   | exact spec_l2Range.mono _ _ _
   | exact spec_l2Turn.mono _ _ _ _
   | exact LeO.none _
   | refine LeO.ite ?_ ?_
   | refine LeO.bind ?_ (fun _ => ?_)
theorem spec_l2Repair.mono : ∀ a0 k, LeO (spec_l2Repair.f k a0) (spec_l2Repair.f (k + 1) a0) := by
 intro a0 k; obtain ⟨ih0, ih1, ih2, ih3, ih4⟩ := spec_l2Repair.mono_l k; unfold spec_l2Repair.f
 repeat' first
   | (with_reducible exact ih0 _ _)
   | (with_reducible exact ih1 _ _ _ _ _)
   | (with_reducible exact ih2 _ _ _ _ _ _ _)
   | (with_reducible exact ih3 _ _ _ _ _)
   | (with_reducible exact ih4 _ _ _ _ _ _ _)
   | (with_reducible exact spec_l2Child.mono _ _ _ _)
   | (with_reducible exact spec_l2Height.mono _ _ _ _)
   | (with_reducible exact spec_l2Range.mono _ _ _)
   | (with_reducible exact spec_l2Turn.mono _ _ _ _)
   | (with_reducible exact LeO.refl _)
   | (with_reducible exact LeO.none _)
   | (with_reducible refine LeO.ite ?_ ?_)
   | (with_reducible refine LeO.bind ?_ (fun _ => ?_))
   | exact ih0 _ _
   | exact ih1 _ _ _ _ _
   | exact ih2 _ _ _ _ _ _ _
   | exact ih3 _ _ _ _ _
   | exact ih4 _ _ _ _ _ _ _
   | exact spec_l2Child.mono _ _ _ _
   | exact spec_l2Height.mono _ _ _ _
   | exact spec_l2Range.mono _ _ _
   | exact spec_l2Turn.mono _ _ _ _
   | exact LeO.none _
   | refine LeO.ite ?_ ?_
   | refine LeO.bind ?_ (fun _ => ?_)
set_option maxHeartbeats 8000000 in
set_option maxRecDepth 100000 in
theorem spec_l2Repair.calls (k : Nat) (P0_ : Nat → Prop) (u9000_ : Value) (l0 : List (S54)) (r : List (S54)) (w0 w : World) (hB : Below w0.heap.size w0 w) (ho0 : Kd.R k54 54 w w0.heap.size P0_ u9000_ l0) (h : spec_l2Repair.f k l0 = some r) :
  Calls Tryd.prog 120 #[u9000_] w fun e w' => e = .returned (.tuple #[]) ∧ Kd.R k54 54 w' w0.heap.size (fun k_ => (P0_ k_ ∨ w.heap.size ≤ k_)) u9000_ r ∧ Below w0.heap.size w0 w' ∧ Kept w w' (fun k_ => P0_ k_) := by
 have HO0 := Aside0.mk (show Kd.R k54 54 w w0.heap.size (fun k_ => (P0_ k_ ∨ w.heap.size ≤ k_)) u9000_ l0 from Kd.R_mono ho0 (fun k_ hk => (.inl hk))); have HK := Aside0.mk (Kept.refl w (fun k_ => P0_ k_)); have HW0 := Aside0.mk hB.size; have HB := Aside0.mk hB; clear hB; have H : (spec_l2Repair.l0 k l0 0) = some r := h; clear h; have H' := Aside0.mk H; clear H; go_enter Tryd.func120, Tryd.ntmps120; go_wp2; repeat (go_quiet (fail); try go_wp2)
 go_loopg [2] k (fun kq v2 w' => ∃ (x0_1 : List (S54)) (x2_1 : Int), v2 = .int .i64 x2_1 ∧ Aside0 (spec_l2Repair.l0 kq x0_1 x2_1 = some r) ∧ Aside0 (kq ≤ k) ∧ Aside0 (Kd.R k54 54 w' w0.heap.size (fun k_ => (P0_ k_ ∨ w.heap.size ≤ k_)) u9000_ x0_1) ∧ Aside0 (Kept w w' (fun k_ => P0_ k_)) ∧ Aside0 (Below w0.heap.size w0 w'))
 case atStart => exact ⟨(l0), (0), (by first | rfl | (simp; done) | (simp [*]; done)), H', ⟨Nat.le_refl _⟩, ⟨by (with_reducible repeat (first | apply Kd.R_alloc | apply Kd.R_drewN | apply Kd.R_drew)); exact HO0.out⟩, ⟨by repeat (first | (with_reducible first | exact HK.out | apply Kept.alloc | apply Kept.drewN | apply Kept.drew) | exact HK.out)⟩, ⟨by repeat (first | (with_reducible first | exact HB.out | apply below_alloc | apply pw_below_drewN | apply below_drew1) | exact HB.out)⟩⟩
 case round =>
  clear H'; (try clear c1); obtain ⟨x0_1, x2_1, rfl, HA, HK1, HO_0, HK, HB⟩ := hrel
  cases gk with
  | zero => exact absurd HA.out (by simp [spec_l2Repair.l0])
  | succ k1 =>
   have H := HA.out; clear HA; simp only [spec_l2Repair.l0] at H; by_cases c2 : x2_1 ≤ (wrap64 ((wrap64 (2 * (x0_1.length : Int))) + 2))
   ·rw [if_pos c2] at H
    have c2b0 : decide (x2_1 ≤ (wrap64 ((wrap64 (2 * (x0_1.length : Int))) + 2))) = true := decide_eq_true c2; clear c2; have H' := Aside0.mk H; clear H; obtain ⟨Ao3, co3, eo3⟩ := Kd.R_slice HO_0.out; subst eo3; go_wp2; repeat (go_quiet (fail); try go_wp2)
    go_loopg [3, 26] k1 (fun kq v3 v26 w' => ∃ (x3_2 : Int) (x26_2 : Int), v3 = .int .i64 x3_2 ∧ v26 = .int .i64 x26_2 ∧ Aside0 (spec_l2Repair.l1 kq x0_1 x2_1 x3_2 (x0_1.length : Int) x26_2 = some r) ∧ Aside0 (kq ≤ k1) ∧ Aside0 (Kd.R k54 54 w' w0.heap.size (fun k_ => (P0_ k_ ∨ w.heap.size ≤ k_)) (.slice Ao3 x0_1.length co3) x0_1) ∧ Aside0 (Kept w w' (fun k_ => P0_ k_)) ∧ Aside0 (Below w0.heap.size w0 w'))
    case atStart => exact ⟨((-1)), (0), (by first | rfl | (simp; done) | (simp [*]; done)), (by first | rfl | (simp; done) | (simp [*]; done)), H', ⟨Nat.le_refl _⟩, ⟨by (with_reducible repeat (first | apply Kd.R_alloc | apply Kd.R_drewN | apply Kd.R_drew)); exact HO_0.out⟩, ⟨by repeat (first | (with_reducible first | exact HK.out | apply Kept.alloc | apply Kept.drewN | apply Kept.drew) | exact HK.out)⟩, ⟨by repeat (first | (with_reducible first | exact HB.out | apply below_alloc | apply pw_below_drewN | apply below_drew1) | exact HB.out)⟩⟩
    case round =>
     clear H'; (try clear c1); (try clear c2); (try clear c2b0); (try clear p2); obtain ⟨x3_2, x26_2, rfl, rfl, HA, HK2, HO_0, HK, HB⟩ := hrel
     cases gk with
     | zero => exact absurd HA.out (by simp [spec_l2Repair.l1])
     | succ k2 =>
      have H := HA.out; clear HA; simp only [spec_l2Repair.l1] at H; by_cases c4 : x26_2 < (x0_1.length : Int)
      ·rw [if_pos c4] at H
       have c4b0 : decide (x26_2 < (x0_1.length : Int)) = true := decide_eq_true c4; clear c4; replace H := Option.bind_eq_some_iff.mp H; obtain ⟨⟨t196, t197⟩, A50, H⟩ := H; replace H : ((spec_l2Height.f k2 x0_1 t196 x26_2).bind fun t198 => ((spec_l2Height.f k2 x0_1 (wrap64 (x26_2 + 1)) t197).bind fun t199 => (if (wrap64 (t198 - t199)) ≥ 2 then (spec_l2Repair.j2 k2 x0_1 x2_1 x3_2 x26_2 (x0_1.length : Int) x26_2 true) else (spec_l2Repair.j2 k2 x0_1 x2_1 x3_2 x26_2 (x0_1.length : Int) x26_2 (decide ((wrap64 (t198 - t199)) ≤ (-2))))))) = some r := H; have A5 := Aside0.mk A50; clear A50; replace H := Option.bind_eq_some_iff.mp H; obtain ⟨t198, A60, H⟩ := H; replace H : ((spec_l2Height.f k2 x0_1 (wrap64 (x26_2 + 1)) t197).bind fun t199 => (if (wrap64 (t198 - t199)) ≥ 2 then (spec_l2Repair.j2 k2 x0_1 x2_1 x3_2 x26_2 (x0_1.length : Int) x26_2 true) else (spec_l2Repair.j2 k2 x0_1 x2_1 x3_2 x26_2 (x0_1.length : Int) x26_2 (decide ((wrap64 (t198 - t199)) ≤ (-2)))))) = some r := H; have A6 := Aside0.mk A60; clear A60; replace H := Option.bind_eq_some_iff.mp H; obtain ⟨t199, A70, H⟩ := H; replace H : (if (wrap64 (t198 - t199)) ≥ 2 then (spec_l2Repair.j2 k2 x0_1 x2_1 x3_2 x26_2 (x0_1.length : Int) x26_2 true) else (spec_l2Repair.j2 k2 x0_1 x2_1 x3_2 x26_2 (x0_1.length : Int) x26_2 (decide ((wrap64 (t198 - t199)) ≤ (-2))))) = some r := H; have A7 := Aside0.mk A70; clear A70; have HC8 := Aside0.mk H; clear H; go_upto_region 9 with (first | (go_at_call 121; (with_reducible refine (spec_l2Range.calls k2 _ _ x0_1 x26_2 t196 t197 _ ?side1 ?side2 A5.out).mono ?_); (case side1 => exact cD (Kd.R_reads' HO_0.out).2.2); (case side2 => exact (Kd.R_reads' HO_0.out).2.1); rintro e w' ⟨rfl, ⟨nd, rfl⟩⟩; (try first | exact ⟨rfl, _, World.drewN_drewN _ _ _⟩ | exact ⟨rfl, _, Eq.trans (World.drewN_drewN _ _ _) (congrArg (World.drewN _) (Nat.add_assoc _ _ _))⟩)) | (go_at_call 138; (with_reducible refine (spec_l2Height.calls k2 _ _ x0_1 t196 x26_2 t198 _ ?side1 ?side2 A6.out).mono ?_); (case side1 => exact cD (Kd.R_reads' HO_0.out).2.2); (case side2 => exact (Kd.R_reads' HO_0.out).2.1); rintro e w' ⟨rfl, ⟨nd, rfl⟩⟩; (try first | exact ⟨rfl, _, World.drewN_drewN _ _ _⟩ | exact ⟨rfl, _, Eq.trans (World.drewN_drewN _ _ _) (congrArg (World.drewN _) (Nat.add_assoc _ _ _))⟩)) | (go_at_call 138; (with_reducible refine (spec_l2Height.calls k2 _ _ x0_1 (wrap64 (x26_2 + 1)) t197 t199 _ ?side1 ?side2 A7.out).mono ?_); (case side1 => exact cD (Kd.R_reads' HO_0.out).2.2); (case side2 => exact (Kd.R_reads' HO_0.out).2.1); rintro e w' ⟨rfl, ⟨nd, rfl⟩⟩; (try first | exact ⟨rfl, _, World.drewN_drewN _ _ _⟩ | exact ⟨rfl, _, Eq.trans (World.drewN_drewN _ _ _) (congrArg (World.drewN _) (Nat.add_assoc _ _ _))⟩)))
       repeat (go_quiet (first | (go_at_call 121; (with_reducible refine (spec_l2Range.calls k2 _ _ x0_1 x26_2 t196 t197 _ ?side1 ?side2 A5.out).mono ?_); (case side1 => exact cD (Kd.R_reads' HO_0.out).2.2); (case side2 => exact (Kd.R_reads' HO_0.out).2.1); rintro e w' ⟨rfl, ⟨nd, rfl⟩⟩; (try first | exact ⟨rfl, _, World.drewN_drewN _ _ _⟩ | exact ⟨rfl, _, Eq.trans (World.drewN_drewN _ _ _) (congrArg (World.drewN _) (Nat.add_assoc _ _ _))⟩)) | (go_at_call 138; (with_reducible refine (spec_l2Height.calls k2 _ _ x0_1 t196 x26_2 t198 _ ?side1 ?side2 A6.out).mono ?_); (case side1 => exact cD (Kd.R_reads' HO_0.out).2.2); (case side2 => exact (Kd.R_reads' HO_0.out).2.1); rintro e w' ⟨rfl, ⟨nd, rfl⟩⟩; (try first | exact ⟨rfl, _, World.drewN_drewN _ _ _⟩ | exact ⟨rfl, _, Eq.trans (World.drewN_drewN _ _ _) (congrArg (World.drewN _) (Nat.add_assoc _ _ _))⟩)) | (go_at_call 138; (with_reducible refine (spec_l2Height.calls k2 _ _ x0_1 (wrap64 (x26_2 + 1)) t197 t199 _ ?side1 ?side2 A7.out).mono ?_); (case side1 => exact cD (Kd.R_reads' HO_0.out).2.2); (case side2 => exact (Kd.R_reads' HO_0.out).2.1); rintro e w' ⟨rfl, ⟨nd, rfl⟩⟩; (try first | exact ⟨rfl, _, World.drewN_drewN _ _ _⟩ | exact ⟨rfl, _, Eq.trans (World.drewN_drewN _ _ _) (congrArg (World.drewN _) (Nat.add_assoc _ _ _))⟩))); go_upto_region 9 with (first | (go_at_call 121; (with_reducible refine (spec_l2Range.calls k2 _ _ x0_1 x26_2 t196 t197 _ ?side1 ?side2 A5.out).mono ?_); (case side1 => exact cD (Kd.R_reads' HO_0.out).2.2); (case side2 => exact (Kd.R_reads' HO_0.out).2.1); rintro e w' ⟨rfl, ⟨nd, rfl⟩⟩; (try first | exact ⟨rfl, _, World.drewN_drewN _ _ _⟩ | exact ⟨rfl, _, Eq.trans (World.drewN_drewN _ _ _) (congrArg (World.drewN _) (Nat.add_assoc _ _ _))⟩)) | (go_at_call 138; (with_reducible refine (spec_l2Height.calls k2 _ _ x0_1 t196 x26_2 t198 _ ?side1 ?side2 A6.out).mono ?_); (case side1 => exact cD (Kd.R_reads' HO_0.out).2.2); (case side2 => exact (Kd.R_reads' HO_0.out).2.1); rintro e w' ⟨rfl, ⟨nd, rfl⟩⟩; (try first | exact ⟨rfl, _, World.drewN_drewN _ _ _⟩ | exact ⟨rfl, _, Eq.trans (World.drewN_drewN _ _ _) (congrArg (World.drewN _) (Nat.add_assoc _ _ _))⟩)) | (go_at_call 138; (with_reducible refine (spec_l2Height.calls k2 _ _ x0_1 (wrap64 (x26_2 + 1)) t197 t199 _ ?side1 ?side2 A7.out).mono ?_); (case side1 => exact cD (Kd.R_reads' HO_0.out).2.2); (case side2 => exact (Kd.R_reads' HO_0.out).2.1); rintro e w' ⟨rfl, ⟨nd, rfl⟩⟩; (try first | exact ⟨rfl, _, World.drewN_drewN _ _ _⟩ | exact ⟨rfl, _, Eq.trans (World.drewN_drewN _ _ _) (congrArg (World.drewN _) (Nat.add_assoc _ _ _))⟩))))
       (try simp only [Act.put, zA_, zZ_, zS_]); go_cut [50] (fun v50 wc => ∃ (kq : Nat) (x50_7 : Bool), v50 = .bool x50_7 ∧ Aside0 (spec_l2Repair.j2 kq x0_1 x2_1 x3_2 x26_2 (x0_1.length : Int) x26_2 x50_7 = some r) ∧ Aside0 (kq ≤ k2) ∧ Aside0 (Kd.R k54 54 wc w0.heap.size (fun k_ => (P0_ k_ ∨ w.heap.size ≤ k_)) (.slice Ao3 x0_1.length co3) x0_1) ∧ Aside0 (Kept w wc (fun k_ => P0_ k_)) ∧ Aside0 (Below w0.heap.size w0 wc))
       case first =>
        have H := HC8.out; clear HC8; by_cases c9 : (wrap64 (t198 - t199)) ≥ 2
        ·rw [if_pos c9] at H
         have c9b0 : decide (2 ≤ (wrap64 (t198 - t199))) = true := decide_eq_true c9; clear c9; (first | rw [c9b0] | (simp only [i64_w, i32_w]; rw [c9b0]) | skip); have H' := Aside0.mk H; clear H; go_wp2; repeat (go_quiet (fail); try go_wp2)
         go_meet
         case rel => exact ⟨_, (true), (by first | rfl | (simp; done) | (simp [*]; done)), H', ⟨by have := HK1.out; have := HK2.out; first | omega | exact Nat.le_refl _⟩, ⟨by (with_reducible repeat (first | apply Kd.R_alloc | apply Kd.R_drewN | apply Kd.R_drew)); exact HO_0.out⟩, ⟨by repeat (first | (with_reducible first | exact HK.out | apply Kept.alloc | apply Kept.drewN | apply Kept.drew) | exact HK.out)⟩, ⟨by repeat (first | (with_reducible first | exact HB.out | apply below_alloc | apply pw_below_drewN | apply below_drew1) | exact HB.out)⟩⟩
        ·rw [if_neg c9] at H
         have c9b0 : decide (2 ≤ (wrap64 (t198 - t199))) = false := decide_eq_false c9; clear c9; (first | rw [c9b0] | (simp only [i64_w, i32_w]; rw [c9b0]) | skip); have H' := Aside0.mk H; clear H; go_wp2; repeat (go_quiet (fail); try go_wp2)
         go_meet
         case rel => exact ⟨_, (decide ((wrap64 (t198 - t199)) ≤ (-2))), (by first | rfl | (simp; done) | (simp [*]; done)), H', ⟨by have := HK1.out; have := HK2.out; first | omega | exact Nat.le_refl _⟩, ⟨by (with_reducible repeat (first | apply Kd.R_alloc | apply Kd.R_drewN | apply Kd.R_drew)); exact HO_0.out⟩, ⟨by repeat (first | (with_reducible first | exact HK.out | apply Kept.alloc | apply Kept.drewN | apply Kept.drew) | exact HK.out)⟩, ⟨by repeat (first | (with_reducible first | exact HB.out | apply below_alloc | apply pw_below_drewN | apply below_drew1) | exact HB.out)⟩⟩
       case rest =>
        clear HC8; (try clear c1); (try clear c2); (try clear c2b0); (try clear p2); (try clear c4); (try clear c4b0); (try clear p6); (try clear c9); (try clear c9b0); (try clear p2); obtain ⟨kq, x50_7, rfl, HA, HJ7, HO_0, HK, HB⟩ := hcut
        cases kq with
        | zero => exact absurd HA.out (by simp [spec_l2Repair.j2])
        | succ kj7 =>
         have H := HA.out; clear HA; simp only [spec_l2Repair.j2] at H; by_cases c10 : x50_7 = true
         ·subst c10
          have H1 : (if x3_2 < 0 then (spec_l2Repair.l1 kj7 x0_1 x2_1 x26_2 (x0_1.length : Int) (wrap64 (x26_2 + 1))) else (if 0 ≤ x26_2 then (if x26_2 < (x0_1.length : Int) then (if 0 ≤ x3_2 then (if x3_2 < (x0_1.length : Int) then (if ((rd_T54 x0_1 x26_2).f1) > ((rd_T54 x0_1 x3_2).f1) then (spec_l2Repair.l1 kj7 x0_1 x2_1 x26_2 (x0_1.length : Int) (wrap64 (x26_2 + 1))) else (spec_l2Repair.l1 kj7 x0_1 x2_1 x3_2 (x0_1.length : Int) (wrap64 (x26_2 + 1)))) else (none)) else (none)) else (none)) else (none))) = some r := by rw [if_pos rfl] at H; exact H
          clear H; have H := H1; clear H1; by_cases c11 : x3_2 < 0
          ·rw [if_pos c11] at H
           have c11b0 : decide (x3_2 < 0) = true := decide_eq_true c11; clear c11; have H' := Aside0.mk H; clear H; go_wp2; repeat (go_quiet (fail); try go_wp2)
           go_roundg kj7
           case measure => have := HK1.out; have := HK2.out; have := HJ7.out; omega
           case rel => exact ⟨(x26_2), (wrap64 (x26_2 + 1)), (by first | rfl | (simp; done) | (simp [*]; done)), (by first | rfl | (simp; done) | (simp [*]; done)), H', ⟨by have := HK1.out; have := HK2.out; have := HJ7.out; omega⟩, ⟨by (with_reducible repeat (first | apply Kd.R_alloc | apply Kd.R_drewN | apply Kd.R_drew)); exact HO_0.out⟩, ⟨by repeat (first | (with_reducible first | exact HK.out | apply Kept.alloc | apply Kept.drewN | apply Kept.drew) | exact HK.out)⟩, ⟨by repeat (first | (with_reducible first | exact HB.out | apply below_alloc | apply pw_below_drewN | apply below_drew1) | exact HB.out)⟩⟩
          ·rw [if_neg c11] at H
           have c11b0 : decide (x3_2 < 0) = false := decide_eq_false c11; clear c11; by_cases c12 : 0 ≤ x26_2
           ·rw [if_pos c12] at H
            have c12b0 : decide (0 ≤ x26_2) = true := decide_eq_true c12; clear c12; by_cases c13 : x26_2 < (x0_1.length : Int)
            ·rw [if_pos c13] at H
             have c13b0 : decide (x26_2 < (x0_1.length : Int)) = true := decide_eq_true c13; clear c13; by_cases c14 : 0 ≤ x3_2
             ·rw [if_pos c14] at H
              have c14b0 : decide (0 ≤ x3_2) = true := decide_eq_true c14; clear c14; by_cases c15 : x3_2 < (x0_1.length : Int)
              ·rw [if_pos c15] at H
               have c15b0 : decide (x3_2 < (x0_1.length : Int)) = true := decide_eq_true c15; clear c15; by_cases c16 : ((rd_T54 x0_1 x26_2).f1) > ((rd_T54 x0_1 x3_2).f1)
               ·rw [if_pos c16] at H
                have c16b0 : decide (((rd_T54 x0_1 x3_2).f1) < ((rd_T54 x0_1 x26_2).f1)) = true := decide_eq_true c16; clear c16; have H' := Aside0.mk H; clear H; have p200 : 0 ≤ (x26_2 : Int) := of_decide_eq_true (by first | (with_reducible assumption) | assumption); have q200 : x26_2 < (x0_1.length : Int) := of_decide_eq_true (by first | (with_reducible assumption) | assumption); obtain ⟨ad200, e200, hx200_0, hx200_1, hx200_2, hx200_3⟩ := at_T54 (Kd.R_reads' HO_0.out).2.2 x26_2 p200 q200
                cases e200
                replace p200 := eq_true p200; replace q200 := eq_true q200; have p201 : 0 ≤ (x3_2 : Int) := of_decide_eq_true (by first | (with_reducible assumption) | assumption); have q201 : x3_2 < (x0_1.length : Int) := of_decide_eq_true (by first | (with_reducible assumption) | assumption); obtain ⟨ad201, e201, hx201_0, hx201_1, hx201_2, hx201_3⟩ := at_T54 (Kd.R_reads' HO_0.out).2.2 x3_2 p201 q201; obtain rfl : ad200 = ad201 := (by injection e201); replace p201 := eq_true p201; replace q201 := eq_true q201; go_wp2; repeat (go_quiet (fail); try go_wp2)
                go_roundg kj7
                case measure => have := HK1.out; have := HK2.out; have := HJ7.out; omega
                case rel => exact ⟨(x26_2), (wrap64 (x26_2 + 1)), (by first | rfl | (simp; done) | (simp [*]; done)), (by first | rfl | (simp; done) | (simp [*]; done)), H', ⟨by have := HK1.out; have := HK2.out; have := HJ7.out; omega⟩, ⟨by (with_reducible repeat (first | apply Kd.R_alloc | apply Kd.R_drewN | apply Kd.R_drew)); exact HO_0.out⟩, ⟨by repeat (first | (with_reducible first | exact HK.out | apply Kept.alloc | apply Kept.drewN | apply Kept.drew) | exact HK.out)⟩, ⟨by repeat (first | (with_reducible first | exact HB.out | apply below_alloc | apply pw_below_drewN | apply below_drew1) | exact HB.out)⟩⟩
               ·rw [if_neg c16] at H
                have c16b0 : decide (((rd_T54 x0_1 x3_2).f1) < ((rd_T54 x0_1 x26_2).f1)) = false := decide_eq_false c16; clear c16; have H' := Aside0.mk H; clear H; have p200 : 0 ≤ (x26_2 : Int) := of_decide_eq_true (by first | (with_reducible assumption) | assumption); have q200 : x26_2 < (x0_1.length : Int) := of_decide_eq_true (by first | (with_reducible assumption) | assumption); obtain ⟨ad200, e200, hx200_0, hx200_1, hx200_2, hx200_3⟩ := at_T54 (Kd.R_reads' HO_0.out).2.2 x26_2 p200 q200
                cases e200
                replace p200 := eq_true p200; replace q200 := eq_true q200; have p201 : 0 ≤ (x3_2 : Int) := of_decide_eq_true (by first | (with_reducible assumption) | assumption); have q201 : x3_2 < (x0_1.length : Int) := of_decide_eq_true (by first | (with_reducible assumption) | assumption); obtain ⟨ad201, e201, hx201_0, hx201_1, hx201_2, hx201_3⟩ := at_T54 (Kd.R_reads' HO_0.out).2.2 x3_2 p201 q201; obtain rfl : ad200 = ad201 := (by injection e201); replace p201 := eq_true p201; replace q201 := eq_true q201; go_wp2; repeat (go_quiet (fail); try go_wp2)
                go_roundg kj7
                case measure => have := HK1.out; have := HK2.out; have := HJ7.out; omega
                case rel => exact ⟨(x3_2), (wrap64 (x26_2 + 1)), (by first | rfl | (simp; done) | (simp [*]; done)), (by first | rfl | (simp; done) | (simp [*]; done)), H', ⟨by have := HK1.out; have := HK2.out; have := HJ7.out; omega⟩, ⟨by (with_reducible repeat (first | apply Kd.R_alloc | apply Kd.R_drewN | apply Kd.R_drew)); exact HO_0.out⟩, ⟨by repeat (first | (with_reducible first | exact HK.out | apply Kept.alloc | apply Kept.drewN | apply Kept.drew) | exact HK.out)⟩, ⟨by repeat (first | (with_reducible first | exact HB.out | apply below_alloc | apply pw_below_drewN | apply below_drew1) | exact HB.out)⟩⟩
              ·rw [if_neg c15] at H
               exact absurd H (by simp)
             ·rw [if_neg c14] at H
              exact absurd H (by simp)
            ·rw [if_neg c13] at H
             exact absurd H (by simp)
           ·rw [if_neg c12] at H
            exact absurd H (by simp)
         ·replace c10 := Bool.eq_false_iff.mpr c10
          subst c10; have H1 : (spec_l2Repair.l1 kj7 x0_1 x2_1 x3_2 (x0_1.length : Int) (wrap64 (x26_2 + 1))) = some r := by rw [if_neg (show ¬ (false = true) by decide)] at H; exact H
          clear H; have H := H1; clear H1; have H' := Aside0.mk H; clear H; go_wp2; repeat (go_quiet (fail); try go_wp2)
          go_roundg kj7
          case measure => have := HK1.out; have := HK2.out; have := HJ7.out; omega
          case rel => exact ⟨(x3_2), (wrap64 (x26_2 + 1)), (by first | rfl | (simp; done) | (simp [*]; done)), (by first | rfl | (simp; done) | (simp [*]; done)), H', ⟨by have := HK1.out; have := HK2.out; have := HJ7.out; omega⟩, ⟨by (with_reducible repeat (first | apply Kd.R_alloc | apply Kd.R_drewN | apply Kd.R_drew)); exact HO_0.out⟩, ⟨by repeat (first | (with_reducible first | exact HK.out | apply Kept.alloc | apply Kept.drewN | apply Kept.drew) | exact HK.out)⟩, ⟨by repeat (first | (with_reducible first | exact HB.out | apply below_alloc | apply pw_below_drewN | apply below_drew1) | exact HB.out)⟩⟩
      ·rw [if_neg c4] at H
       have c4b0 : decide (x26_2 < (x0_1.length : Int)) = false := decide_eq_false c4; clear c4; by_cases c17 : x3_2 < 0
       ·rw [if_pos c17] at H
        have c17b0 : decide (x3_2 < 0) = true := decide_eq_true c17; clear c17; obtain rfl := Option.some.inj H; go_wp2; repeat (go_quiet (fail); try go_wp2)
        first | go_end0 | ((try simp only [Exit.inBlock, Exit.then]); refine bodyPost_ret (results_none rfl _ _ _) rfl ?_)
        exact ⟨by first | rfl | (simp [errW_none, errW_some] <;> rfl) | (simp [*, errW_none, errW_some] <;> rfl), by (with_reducible repeat (first | apply Kd.R_alloc | apply Kd.R_drewN | apply Kd.R_drew)); exact HO_0.out, by repeat (first | (with_reducible first | exact HB.out | apply below_alloc | apply pw_below_drewN | apply below_drew1) | exact HB.out), by repeat (first | (with_reducible first | exact HK.out | apply Kept.alloc | apply Kept.drewN | apply Kept.drew) | exact HK.out)⟩
       ·rw [if_neg c17] at H
        have c17b0 : decide (x3_2 < 0) = false := decide_eq_false c17; clear c17; replace H := Option.bind_eq_some_iff.mp H; obtain ⟨⟨t202, t203⟩, A180, H⟩ := H; replace H : ((spec_l2Height.f k2 x0_1 t202 x3_2).bind fun t204 => ((spec_l2Height.f k2 x0_1 (wrap64 (x3_2 + 1)) t203).bind fun t205 => ((spec_l2Child.f k2 x0_1 (wrap64 (x3_2 + 1)) t203).bind fun t206 => (if t204 > t205 then ((spec_l2Child.f k2 x0_1 t202 x3_2).bind fun t207 => (spec_l2Repair.j3 k2 x0_1 x2_1 x3_2 (decide (t204 > t205)) t207)) else (spec_l2Repair.j3 k2 x0_1 x2_1 x3_2 (decide (t204 > t205)) t206))))) = some r := H; have A18 := Aside0.mk A180; clear A180; replace H := Option.bind_eq_some_iff.mp H; obtain ⟨t204, A190, H⟩ := H; replace H : ((spec_l2Height.f k2 x0_1 (wrap64 (x3_2 + 1)) t203).bind fun t205 => ((spec_l2Child.f k2 x0_1 (wrap64 (x3_2 + 1)) t203).bind fun t206 => (if t204 > t205 then ((spec_l2Child.f k2 x0_1 t202 x3_2).bind fun t207 => (spec_l2Repair.j3 k2 x0_1 x2_1 x3_2 (decide (t204 > t205)) t207)) else (spec_l2Repair.j3 k2 x0_1 x2_1 x3_2 (decide (t204 > t205)) t206)))) = some r := H; have A19 := Aside0.mk A190; clear A190; replace H := Option.bind_eq_some_iff.mp H; obtain ⟨t205, A200, H⟩ := H; replace H : ((spec_l2Child.f k2 x0_1 (wrap64 (x3_2 + 1)) t203).bind fun t206 => (if t204 > t205 then ((spec_l2Child.f k2 x0_1 t202 x3_2).bind fun t207 => (spec_l2Repair.j3 k2 x0_1 x2_1 x3_2 (decide (t204 > t205)) t207)) else (spec_l2Repair.j3 k2 x0_1 x2_1 x3_2 (decide (t204 > t205)) t206))) = some r := H; have A20 := Aside0.mk A200; clear A200; replace H := Option.bind_eq_some_iff.mp H; obtain ⟨t206, A210, H⟩ := H; replace H : (if t204 > t205 then ((spec_l2Child.f k2 x0_1 t202 x3_2).bind fun t207 => (spec_l2Repair.j3 k2 x0_1 x2_1 x3_2 (decide (t204 > t205)) t207)) else (spec_l2Repair.j3 k2 x0_1 x2_1 x3_2 (decide (t204 > t205)) t206)) = some r := H; have A21 := Aside0.mk A210; clear A210; have HC22 := Aside0.mk H; clear H; go_upto_if 91 with (first | (go_at_call 121; (with_reducible refine (spec_l2Range.calls k2 _ _ x0_1 x3_2 t202 t203 _ ?side1 ?side2 A18.out).mono ?_); (case side1 => exact cD (Kd.R_reads' HO_0.out).2.2); (case side2 => exact (Kd.R_reads' HO_0.out).2.1); rintro e w' ⟨rfl, ⟨nd, rfl⟩⟩; (try first | exact ⟨rfl, _, World.drewN_drewN _ _ _⟩ | exact ⟨rfl, _, Eq.trans (World.drewN_drewN _ _ _) (congrArg (World.drewN _) (Nat.add_assoc _ _ _))⟩)) | (go_at_call 138; (with_reducible refine (spec_l2Height.calls k2 _ _ x0_1 t202 x3_2 t204 _ ?side1 ?side2 A19.out).mono ?_); (case side1 => exact cD (Kd.R_reads' HO_0.out).2.2); (case side2 => exact (Kd.R_reads' HO_0.out).2.1); rintro e w' ⟨rfl, ⟨nd, rfl⟩⟩; (try first | exact ⟨rfl, _, World.drewN_drewN _ _ _⟩ | exact ⟨rfl, _, Eq.trans (World.drewN_drewN _ _ _) (congrArg (World.drewN _) (Nat.add_assoc _ _ _))⟩)) | (go_at_call 138; (with_reducible refine (spec_l2Height.calls k2 _ _ x0_1 (wrap64 (x3_2 + 1)) t203 t205 _ ?side1 ?side2 A20.out).mono ?_); (case side1 => exact cD (Kd.R_reads' HO_0.out).2.2); (case side2 => exact (Kd.R_reads' HO_0.out).2.1); rintro e w' ⟨rfl, ⟨nd, rfl⟩⟩; (try first | exact ⟨rfl, _, World.drewN_drewN _ _ _⟩ | exact ⟨rfl, _, Eq.trans (World.drewN_drewN _ _ _) (congrArg (World.drewN _) (Nat.add_assoc _ _ _))⟩)) | (go_at_call 122; (with_reducible refine (spec_l2Child.calls k2 _ _ x0_1 (wrap64 (x3_2 + 1)) t203 t206 _ ?side1 ?side2 A21.out).mono ?_); (case side1 => exact cD (Kd.R_reads' HO_0.out).2.2); (case side2 => exact (Kd.R_reads' HO_0.out).2.1); rintro e w' ⟨rfl, ⟨nd, rfl⟩⟩; (try first | exact ⟨rfl, _, World.drewN_drewN _ _ _⟩ | exact ⟨rfl, _, Eq.trans (World.drewN_drewN _ _ _) (congrArg (World.drewN _) (Nat.add_assoc _ _ _))⟩)))
        repeat (go_quiet (first | (go_at_call 121; (with_reducible refine (spec_l2Range.calls k2 _ _ x0_1 x3_2 t202 t203 _ ?side1 ?side2 A18.out).mono ?_); (case side1 => exact cD (Kd.R_reads' HO_0.out).2.2); (case side2 => exact (Kd.R_reads' HO_0.out).2.1); rintro e w' ⟨rfl, ⟨nd, rfl⟩⟩; (try first | exact ⟨rfl, _, World.drewN_drewN _ _ _⟩ | exact ⟨rfl, _, Eq.trans (World.drewN_drewN _ _ _) (congrArg (World.drewN _) (Nat.add_assoc _ _ _))⟩)) | (go_at_call 138; (with_reducible refine (spec_l2Height.calls k2 _ _ x0_1 t202 x3_2 t204 _ ?side1 ?side2 A19.out).mono ?_); (case side1 => exact cD (Kd.R_reads' HO_0.out).2.2); (case side2 => exact (Kd.R_reads' HO_0.out).2.1); rintro e w' ⟨rfl, ⟨nd, rfl⟩⟩; (try first | exact ⟨rfl, _, World.drewN_drewN _ _ _⟩ | exact ⟨rfl, _, Eq.trans (World.drewN_drewN _ _ _) (congrArg (World.drewN _) (Nat.add_assoc _ _ _))⟩)) | (go_at_call 138; (with_reducible refine (spec_l2Height.calls k2 _ _ x0_1 (wrap64 (x3_2 + 1)) t203 t205 _ ?side1 ?side2 A20.out).mono ?_); (case side1 => exact cD (Kd.R_reads' HO_0.out).2.2); (case side2 => exact (Kd.R_reads' HO_0.out).2.1); rintro e w' ⟨rfl, ⟨nd, rfl⟩⟩; (try first | exact ⟨rfl, _, World.drewN_drewN _ _ _⟩ | exact ⟨rfl, _, Eq.trans (World.drewN_drewN _ _ _) (congrArg (World.drewN _) (Nat.add_assoc _ _ _))⟩)) | (go_at_call 122; (with_reducible refine (spec_l2Child.calls k2 _ _ x0_1 (wrap64 (x3_2 + 1)) t203 t206 _ ?side1 ?side2 A21.out).mono ?_); (case side1 => exact cD (Kd.R_reads' HO_0.out).2.2); (case side2 => exact (Kd.R_reads' HO_0.out).2.1); rintro e w' ⟨rfl, ⟨nd, rfl⟩⟩; (try first | exact ⟨rfl, _, World.drewN_drewN _ _ _⟩ | exact ⟨rfl, _, Eq.trans (World.drewN_drewN _ _ _) (congrArg (World.drewN _) (Nat.add_assoc _ _ _))⟩))); go_upto_if 91 with (first | (go_at_call 121; (with_reducible refine (spec_l2Range.calls k2 _ _ x0_1 x3_2 t202 t203 _ ?side1 ?side2 A18.out).mono ?_); (case side1 => exact cD (Kd.R_reads' HO_0.out).2.2); (case side2 => exact (Kd.R_reads' HO_0.out).2.1); rintro e w' ⟨rfl, ⟨nd, rfl⟩⟩; (try first | exact ⟨rfl, _, World.drewN_drewN _ _ _⟩ | exact ⟨rfl, _, Eq.trans (World.drewN_drewN _ _ _) (congrArg (World.drewN _) (Nat.add_assoc _ _ _))⟩)) | (go_at_call 138; (with_reducible refine (spec_l2Height.calls k2 _ _ x0_1 t202 x3_2 t204 _ ?side1 ?side2 A19.out).mono ?_); (case side1 => exact cD (Kd.R_reads' HO_0.out).2.2); (case side2 => exact (Kd.R_reads' HO_0.out).2.1); rintro e w' ⟨rfl, ⟨nd, rfl⟩⟩; (try first | exact ⟨rfl, _, World.drewN_drewN _ _ _⟩ | exact ⟨rfl, _, Eq.trans (World.drewN_drewN _ _ _) (congrArg (World.drewN _) (Nat.add_assoc _ _ _))⟩)) | (go_at_call 138; (with_reducible refine (spec_l2Height.calls k2 _ _ x0_1 (wrap64 (x3_2 + 1)) t203 t205 _ ?side1 ?side2 A20.out).mono ?_); (case side1 => exact cD (Kd.R_reads' HO_0.out).2.2); (case side2 => exact (Kd.R_reads' HO_0.out).2.1); rintro e w' ⟨rfl, ⟨nd, rfl⟩⟩; (try first | exact ⟨rfl, _, World.drewN_drewN _ _ _⟩ | exact ⟨rfl, _, Eq.trans (World.drewN_drewN _ _ _) (congrArg (World.drewN _) (Nat.add_assoc _ _ _))⟩)) | (go_at_call 122; (with_reducible refine (spec_l2Child.calls k2 _ _ x0_1 (wrap64 (x3_2 + 1)) t203 t206 _ ?side1 ?side2 A21.out).mono ?_); (case side1 => exact cD (Kd.R_reads' HO_0.out).2.2); (case side2 => exact (Kd.R_reads' HO_0.out).2.1); rintro e w' ⟨rfl, ⟨nd, rfl⟩⟩; (try first | exact ⟨rfl, _, World.drewN_drewN _ _ _⟩ | exact ⟨rfl, _, Eq.trans (World.drewN_drewN _ _ _) (congrArg (World.drewN _) (Nat.add_assoc _ _ _))⟩))))
        (try simp only [Act.put, zA_, zZ_, zS_]); go_cut [10, 11] (fun v10 v11 wc => ∃ (kq : Nat) (x11_21 : Int), v10 = .bool (decide (t204 > t205)) ∧ v11 = .int .i64 x11_21 ∧ Aside0 (spec_l2Repair.j3 kq x0_1 x2_1 x3_2 (decide (t204 > t205)) x11_21 = some r) ∧ Aside0 (kq ≤ k2) ∧ Aside0 (Kd.R k54 54 wc w0.heap.size (fun k_ => (P0_ k_ ∨ w.heap.size ≤ k_)) (.slice Ao3 x0_1.length co3) x0_1) ∧ Aside0 (Kept w wc (fun k_ => P0_ k_)) ∧ Aside0 (Below w0.heap.size w0 wc))
        case first =>
         have H := HC22.out; clear HC22; by_cases c23 : t204 > t205
         ·rw [if_pos c23] at H
          have c23b0 : decide (t205 < t204) = true := decide_eq_true c23; clear c23; (first | rw [c23b0] | (simp only [i64_w, i32_w]; rw [c23b0]) | skip); replace H := Option.bind_eq_some_iff.mp H; obtain ⟨t207, A240, H⟩ := H; replace H : (spec_l2Repair.j3 k2 x0_1 x2_1 x3_2 (decide (t204 > t205)) t207) = some r := H; have A24 := Aside0.mk A240; clear A240; have H' := Aside0.mk H; clear H; go_wp2_with (first | (go_at_call 122; (with_reducible refine (spec_l2Child.calls k2 _ _ x0_1 t202 x3_2 t207 _ ?side1 ?side2 A24.out).mono ?_); (case side1 => exact cD (Kd.R_reads' HO_0.out).2.2); (case side2 => exact (Kd.R_reads' HO_0.out).2.1); rintro e w' ⟨rfl, ⟨nd, rfl⟩⟩; (try first | exact ⟨rfl, _, World.drewN_drewN _ _ _⟩ | exact ⟨rfl, _, Eq.trans (World.drewN_drewN _ _ _) (congrArg (World.drewN _) (Nat.add_assoc _ _ _))⟩))); repeat (go_quiet (first | (go_at_call 122; (with_reducible refine (spec_l2Child.calls k2 _ _ x0_1 t202 x3_2 t207 _ ?side1 ?side2 A24.out).mono ?_); (case side1 => exact cD (Kd.R_reads' HO_0.out).2.2); (case side2 => exact (Kd.R_reads' HO_0.out).2.1); rintro e w' ⟨rfl, ⟨nd, rfl⟩⟩; (try first | exact ⟨rfl, _, World.drewN_drewN _ _ _⟩ | exact ⟨rfl, _, Eq.trans (World.drewN_drewN _ _ _) (congrArg (World.drewN _) (Nat.add_assoc _ _ _))⟩))); try go_wp2_with (first | (go_at_call 122; (with_reducible refine (spec_l2Child.calls k2 _ _ x0_1 t202 x3_2 t207 _ ?side1 ?side2 A24.out).mono ?_); (case side1 => exact cD (Kd.R_reads' HO_0.out).2.2); (case side2 => exact (Kd.R_reads' HO_0.out).2.1); rintro e w' ⟨rfl, ⟨nd, rfl⟩⟩; (try first | exact ⟨rfl, _, World.drewN_drewN _ _ _⟩ | exact ⟨rfl, _, Eq.trans (World.drewN_drewN _ _ _) (congrArg (World.drewN _) (Nat.add_assoc _ _ _))⟩))))
          go_meet
          case rel => exact ⟨_, (t207), (congrArg Value.bool c23b0.symm), (by first | rfl | (simp; done) | (simp [*]; done)), H', ⟨by have := HK1.out; have := HK2.out; first | omega | exact Nat.le_refl _⟩, ⟨by (with_reducible repeat (first | apply Kd.R_alloc | apply Kd.R_drewN | apply Kd.R_drew)); exact HO_0.out⟩, ⟨by repeat (first | (with_reducible first | exact HK.out | apply Kept.alloc | apply Kept.drewN | apply Kept.drew) | exact HK.out)⟩, ⟨by repeat (first | (with_reducible first | exact HB.out | apply below_alloc | apply pw_below_drewN | apply below_drew1) | exact HB.out)⟩⟩
         ·rw [if_neg c23] at H
          have c23b0 : decide (t205 < t204) = false := decide_eq_false c23; clear c23; (first | rw [c23b0] | (simp only [i64_w, i32_w]; rw [c23b0]) | skip); have H' := Aside0.mk H; clear H; go_wp2; repeat (go_quiet (fail); try go_wp2)
          go_meet
          case rel => exact ⟨_, (t206), (congrArg Value.bool c23b0.symm), (by first | rfl | (simp; done) | (simp [*]; done)), H', ⟨by have := HK1.out; have := HK2.out; first | omega | exact Nat.le_refl _⟩, ⟨by (with_reducible repeat (first | apply Kd.R_alloc | apply Kd.R_drewN | apply Kd.R_drew)); exact HO_0.out⟩, ⟨by repeat (first | (with_reducible first | exact HK.out | apply Kept.alloc | apply Kept.drewN | apply Kept.drew) | exact HK.out)⟩, ⟨by repeat (first | (with_reducible first | exact HB.out | apply below_alloc | apply pw_below_drewN | apply below_drew1) | exact HB.out)⟩⟩
        case rest =>
         clear HC22; (try clear c1); (try clear c2); (try clear c2b0); (try clear p2); (try clear q2); (try clear hx2); (try clear c4); (try clear c4b0); (try clear p6); (try clear c9); (try clear c9b0); (try clear c10); (try clear c11); (try clear c11b0); (try clear c12); (try clear c12b0); (try clear c13); (try clear c13b0); (try clear c14); (try clear c14b0); (try clear c15); (try clear c15b0); (try clear c16); (try clear c16b0); (try clear c17); (try clear c17b0); (try clear p20); (try clear q20); (try clear hx20); (try clear c23); (try clear c23b0); (try clear hx200_0); (try clear hx200_1); (try clear hx200_2); (try clear hx200_3); (try clear hx201_0); (try clear hx201_1); (try clear hx201_2); (try clear hx201_3); (try clear p2); (try clear p200); (try clear p201); (try clear p6); (try clear q200); (try clear q201); obtain ⟨kq, x11_21, rfl, rfl, HA, HJ21, HO_0, HK, HB⟩ := hcut
         cases kq with
         | zero => exact absurd HA.out (by simp [spec_l2Repair.j3])
         | succ kj21 =>
          have H := HA.out; clear HA; simp only [spec_l2Repair.j3] at H; replace H := Option.bind_eq_some_iff.mp H; obtain ⟨⟨t208, t209⟩, A250, H⟩ := H; replace H : ((spec_l2Height.f kj21 x0_1 (wrap64 (x11_21 + 1)) t209).bind fun t210 => ((spec_l2Height.f kj21 x0_1 t208 x11_21).bind fun t211 => (if (decide (t204 > t205)) = true then (spec_l2Repair.j4 kj21 x0_1 x2_1 x3_2 (decide (t204 > t205)) x11_21 t211 t210) else (spec_l2Repair.j4 kj21 x0_1 x2_1 x3_2 (decide (t204 > t205)) x11_21 t210 t211)))) = some r := H; have A25 := Aside0.mk A250; clear A250; replace H := Option.bind_eq_some_iff.mp H; obtain ⟨t210, A260, H⟩ := H; replace H : ((spec_l2Height.f kj21 x0_1 t208 x11_21).bind fun t211 => (if (decide (t204 > t205)) = true then (spec_l2Repair.j4 kj21 x0_1 x2_1 x3_2 (decide (t204 > t205)) x11_21 t211 t210) else (spec_l2Repair.j4 kj21 x0_1 x2_1 x3_2 (decide (t204 > t205)) x11_21 t210 t211))) = some r := H; have A26 := Aside0.mk A260; clear A260; replace H := Option.bind_eq_some_iff.mp H; obtain ⟨t211, A270, H⟩ := H; replace H : (if (decide (t204 > t205)) = true then (spec_l2Repair.j4 kj21 x0_1 x2_1 x3_2 (decide (t204 > t205)) x11_21 t211 t210) else (spec_l2Repair.j4 kj21 x0_1 x2_1 x3_2 (decide (t204 > t205)) x11_21 t210 t211)) = some r := H; have A27 := Aside0.mk A270; clear A270; have HC28 := Aside0.mk H; clear H; go_upto_if 111 with (first | (go_at_call 121; (with_reducible refine (spec_l2Range.calls kj21 _ _ x0_1 x11_21 t208 t209 _ ?side1 ?side2 A25.out).mono ?_); (case side1 => exact cD (Kd.R_reads' HO_0.out).2.2); (case side2 => exact (Kd.R_reads' HO_0.out).2.1); rintro e w' ⟨rfl, ⟨nd, rfl⟩⟩; (try first | exact ⟨rfl, _, World.drewN_drewN _ _ _⟩ | exact ⟨rfl, _, Eq.trans (World.drewN_drewN _ _ _) (congrArg (World.drewN _) (Nat.add_assoc _ _ _))⟩)) | (go_at_call 138; (with_reducible refine (spec_l2Height.calls kj21 _ _ x0_1 (wrap64 (x11_21 + 1)) t209 t210 _ ?side1 ?side2 A26.out).mono ?_); (case side1 => exact cD (Kd.R_reads' HO_0.out).2.2); (case side2 => exact (Kd.R_reads' HO_0.out).2.1); rintro e w' ⟨rfl, ⟨nd, rfl⟩⟩; (try first | exact ⟨rfl, _, World.drewN_drewN _ _ _⟩ | exact ⟨rfl, _, Eq.trans (World.drewN_drewN _ _ _) (congrArg (World.drewN _) (Nat.add_assoc _ _ _))⟩)) | (go_at_call 138; (with_reducible refine (spec_l2Height.calls kj21 _ _ x0_1 t208 x11_21 t211 _ ?side1 ?side2 A27.out).mono ?_); (case side1 => exact cD (Kd.R_reads' HO_0.out).2.2); (case side2 => exact (Kd.R_reads' HO_0.out).2.1); rintro e w' ⟨rfl, ⟨nd, rfl⟩⟩; (try first | exact ⟨rfl, _, World.drewN_drewN _ _ _⟩ | exact ⟨rfl, _, Eq.trans (World.drewN_drewN _ _ _) (congrArg (World.drewN _) (Nat.add_assoc _ _ _))⟩)))
          repeat (go_quiet (first | (go_at_call 121; (with_reducible refine (spec_l2Range.calls kj21 _ _ x0_1 x11_21 t208 t209 _ ?side1 ?side2 A25.out).mono ?_); (case side1 => exact cD (Kd.R_reads' HO_0.out).2.2); (case side2 => exact (Kd.R_reads' HO_0.out).2.1); rintro e w' ⟨rfl, ⟨nd, rfl⟩⟩; (try first | exact ⟨rfl, _, World.drewN_drewN _ _ _⟩ | exact ⟨rfl, _, Eq.trans (World.drewN_drewN _ _ _) (congrArg (World.drewN _) (Nat.add_assoc _ _ _))⟩)) | (go_at_call 138; (with_reducible refine (spec_l2Height.calls kj21 _ _ x0_1 (wrap64 (x11_21 + 1)) t209 t210 _ ?side1 ?side2 A26.out).mono ?_); (case side1 => exact cD (Kd.R_reads' HO_0.out).2.2); (case side2 => exact (Kd.R_reads' HO_0.out).2.1); rintro e w' ⟨rfl, ⟨nd, rfl⟩⟩; (try first | exact ⟨rfl, _, World.drewN_drewN _ _ _⟩ | exact ⟨rfl, _, Eq.trans (World.drewN_drewN _ _ _) (congrArg (World.drewN _) (Nat.add_assoc _ _ _))⟩)) | (go_at_call 138; (with_reducible refine (spec_l2Height.calls kj21 _ _ x0_1 t208 x11_21 t211 _ ?side1 ?side2 A27.out).mono ?_); (case side1 => exact cD (Kd.R_reads' HO_0.out).2.2); (case side2 => exact (Kd.R_reads' HO_0.out).2.1); rintro e w' ⟨rfl, ⟨nd, rfl⟩⟩; (try first | exact ⟨rfl, _, World.drewN_drewN _ _ _⟩ | exact ⟨rfl, _, Eq.trans (World.drewN_drewN _ _ _) (congrArg (World.drewN _) (Nat.add_assoc _ _ _))⟩))); go_upto_if 111 with (first | (go_at_call 121; (with_reducible refine (spec_l2Range.calls kj21 _ _ x0_1 x11_21 t208 t209 _ ?side1 ?side2 A25.out).mono ?_); (case side1 => exact cD (Kd.R_reads' HO_0.out).2.2); (case side2 => exact (Kd.R_reads' HO_0.out).2.1); rintro e w' ⟨rfl, ⟨nd, rfl⟩⟩; (try first | exact ⟨rfl, _, World.drewN_drewN _ _ _⟩ | exact ⟨rfl, _, Eq.trans (World.drewN_drewN _ _ _) (congrArg (World.drewN _) (Nat.add_assoc _ _ _))⟩)) | (go_at_call 138; (with_reducible refine (spec_l2Height.calls kj21 _ _ x0_1 (wrap64 (x11_21 + 1)) t209 t210 _ ?side1 ?side2 A26.out).mono ?_); (case side1 => exact cD (Kd.R_reads' HO_0.out).2.2); (case side2 => exact (Kd.R_reads' HO_0.out).2.1); rintro e w' ⟨rfl, ⟨nd, rfl⟩⟩; (try first | exact ⟨rfl, _, World.drewN_drewN _ _ _⟩ | exact ⟨rfl, _, Eq.trans (World.drewN_drewN _ _ _) (congrArg (World.drewN _) (Nat.add_assoc _ _ _))⟩)) | (go_at_call 138; (with_reducible refine (spec_l2Height.calls kj21 _ _ x0_1 t208 x11_21 t211 _ ?side1 ?side2 A27.out).mono ?_); (case side1 => exact cD (Kd.R_reads' HO_0.out).2.2); (case side2 => exact (Kd.R_reads' HO_0.out).2.1); rintro e w' ⟨rfl, ⟨nd, rfl⟩⟩; (try first | exact ⟨rfl, _, World.drewN_drewN _ _ _⟩ | exact ⟨rfl, _, Eq.trans (World.drewN_drewN _ _ _) (congrArg (World.drewN _) (Nat.add_assoc _ _ _))⟩))))
          (try simp only [Act.put, zA_, zZ_, zS_]); go_cut [10, 14, 15] (fun v10 v14 v15 wc => ∃ (kq : Nat) (x14_27 : Int) (x15_27 : Int), v10 = .bool (decide (t204 > t205)) ∧ v14 = .int .i64 x14_27 ∧ v15 = .int .i64 x15_27 ∧ Aside0 (spec_l2Repair.j4 kq x0_1 x2_1 x3_2 (decide (t204 > t205)) x11_21 x14_27 x15_27 = some r) ∧ Aside0 (kq ≤ kj21) ∧ Aside0 (Kd.R k54 54 wc w0.heap.size (fun k_ => (P0_ k_ ∨ w.heap.size ≤ k_)) (.slice Ao3 x0_1.length co3) x0_1) ∧ Aside0 (Kept w wc (fun k_ => P0_ k_)) ∧ Aside0 (Below w0.heap.size w0 wc))
          case first =>
           have H := HC28.out; clear HC28; by_cases c29 : (decide (t204 > t205)) = true
           ·rw [if_pos c29] at H
            have c29b0 : (decide (t204 > t205)) = true := c29; clear c29; (first | rw [c29b0] | (simp only [i64_w, i32_w]; rw [c29b0]) | skip); have H' := Aside0.mk H; clear H; go_wp2; repeat (go_quiet (fail); try go_wp2)
            go_meet
            case rel => exact ⟨_, (t211), (t210), (congrArg Value.bool c29b0.symm), (by first | rfl | (simp; done) | (simp [*]; done)), (by first | rfl | (simp; done) | (simp [*]; done)), H', ⟨by have := HK1.out; have := HK2.out; have := HJ21.out; first | omega | exact Nat.le_refl _⟩, ⟨by (with_reducible repeat (first | apply Kd.R_alloc | apply Kd.R_drewN | apply Kd.R_drew)); exact HO_0.out⟩, ⟨by repeat (first | (with_reducible first | exact HK.out | apply Kept.alloc | apply Kept.drewN | apply Kept.drew) | exact HK.out)⟩, ⟨by repeat (first | (with_reducible first | exact HB.out | apply below_alloc | apply pw_below_drewN | apply below_drew1) | exact HB.out)⟩⟩
           ·rw [if_neg c29] at H
            have c29b0 : (decide (t204 > t205)) = false := by simpa using c29
            clear c29; (first | rw [c29b0] | (simp only [i64_w, i32_w]; rw [c29b0]) | skip); have H' := Aside0.mk H; clear H; go_wp2; repeat (go_quiet (fail); try go_wp2)
            go_meet
            case rel => exact ⟨_, (t210), (t211), (congrArg Value.bool c29b0.symm), (by first | rfl | (simp; done) | (simp [*]; done)), (by first | rfl | (simp; done) | (simp [*]; done)), H', ⟨by have := HK1.out; have := HK2.out; have := HJ21.out; first | omega | exact Nat.le_refl _⟩, ⟨by (with_reducible repeat (first | apply Kd.R_alloc | apply Kd.R_drewN | apply Kd.R_drew)); exact HO_0.out⟩, ⟨by repeat (first | (with_reducible first | exact HK.out | apply Kept.alloc | apply Kept.drewN | apply Kept.drew) | exact HK.out)⟩, ⟨by repeat (first | (with_reducible first | exact HB.out | apply below_alloc | apply pw_below_drewN | apply below_drew1) | exact HB.out)⟩⟩
          case rest =>
           clear HC28; (try clear c1); (try clear c2); (try clear c2b0); (try clear p2); (try clear q2); (try clear hx2); (try clear c4); (try clear c4b0); (try clear p6); (try clear c9); (try clear c9b0); (try clear c10); (try clear c11); (try clear c11b0); (try clear c12); (try clear c12b0); (try clear c13); (try clear c13b0); (try clear c14); (try clear c14b0); (try clear c15); (try clear c15b0); (try clear c16); (try clear c16b0); (try clear c17); (try clear c17b0); (try clear p20); (try clear q20); (try clear hx20); (try clear c23); (try clear c23b0); (try clear c29); (try clear c29b0); (try clear hx200_0); (try clear hx200_1); (try clear hx200_2); (try clear hx200_3); (try clear hx201_0); (try clear hx201_1); (try clear hx201_2); (try clear hx201_3); (try clear p2); (try clear p20); (try clear p200); (try clear p201); (try clear p6); (try clear q2); (try clear q20); (try clear q200); (try clear q201); obtain ⟨kq, x14_27, x15_27, rfl, rfl, rfl, HA, HJ27, HO_0, HK, HB⟩ := hcut
           cases kq with
           | zero => exact absurd HA.out (by simp [spec_l2Repair.j4])
           | succ kj27 =>
            have H := HA.out; clear HA; simp only [spec_l2Repair.j4] at H; by_cases c30 : x14_27 < x15_27
            ·rw [if_pos c30] at H
             have c30b0 : decide (x14_27 < x15_27) = true := decide_eq_true c30; clear c30; replace H := Option.bind_eq_some_iff.mp H; obtain ⟨t212, A310, H⟩ := H; replace H : ((spec_l2Turn.f kj27 t212 x3_2 (decide (t204 > t205))).bind fun t213 => (spec_l2Repair.l0 kj27 t213 (wrap64 (x2_1 + 1)))) = some r := H; have A31 := Aside0.mk A310; clear A310; replace H := Option.bind_eq_some_iff.mp H; obtain ⟨t213, A320, H⟩ := H; replace H : (spec_l2Repair.l0 kj27 t213 (wrap64 (x2_1 + 1))) = some r := H; have A32 := Aside0.mk A320; clear A320; have H' := Aside0.mk H; clear H; go_wp2_with (first | (go_at_call 139; (with_reducible refine (spec_l2Turn.calls kj27 (fun k_ => some k_ = (.slice Ao3 x0_1.length co3 : Value).ownBlock) (.slice Ao3 x0_1.length co3) x0_1 x11_21 (!(decide (t204 > t205))) t212 w0 _ ?side1 ?side2 A31.out).mono ?_); (case side1 => repeat (first | (with_reducible first | exact HB.out | apply below_alloc | apply pw_below_drewN | apply below_drew1) | exact HB.out)); (case side2 => exact Kd.R_tight rfl HO_0.out); rintro e w33 ⟨rfl, hy0, hb, hkp⟩; replace HK := Aside0.mk (Kept.then_ (S := (fun k_ => P0_ k_)) (by repeat (first | (with_reducible first | exact HK.out | apply Kept.alloc | apply Kept.drewN | apply Kept.drew) | exact HK.out)) hkp (fun k_ hs_ => (fun e_ => (HO_0.out.1 k_ e_.symm)) hs_)); replace HO_0 := Aside0.mk (Kd.R_reok rfl hy0 (fun k_ e_ => HO_0.out.1 k_ e_)); replace HB := Aside0.mk (hb); (try clear hb); (try clear hkp); (try clear hy0)) | (go_at_call 139; (with_reducible refine (spec_l2Turn.calls kj27 (fun k_ => some k_ = (.slice Ao3 x0_1.length co3 : Value).ownBlock) (.slice Ao3 x0_1.length co3) t212 x3_2 (decide (t204 > t205)) t213 w0 _ ?side1 ?side2 A32.out).mono ?_); (case side1 => repeat (first | (with_reducible first | exact HB.out | apply below_alloc | apply pw_below_drewN | apply below_drew1) | exact HB.out)); (case side2 => exact Kd.R_tight rfl HO_0.out); rintro e w34 ⟨rfl, hy0, hb, hkp⟩; replace HK := Aside0.mk (Kept.then_ (S := (fun k_ => P0_ k_)) (by repeat (first | (with_reducible first | exact HK.out | apply Kept.alloc | apply Kept.drewN | apply Kept.drew) | exact HK.out)) hkp (fun k_ hs_ => (fun e_ => (HO_0.out.1 k_ e_.symm)) hs_)); replace HO_0 := Aside0.mk (Kd.R_reok rfl hy0 (fun k_ e_ => HO_0.out.1 k_ e_)); replace HB := Aside0.mk (hb); (try clear hb); (try clear hkp); (try clear hy0))); repeat (go_quiet (first | (go_at_call 139; (with_reducible refine (spec_l2Turn.calls kj27 (fun k_ => some k_ = (.slice Ao3 x0_1.length co3 : Value).ownBlock) (.slice Ao3 x0_1.length co3) x0_1 x11_21 (!(decide (t204 > t205))) t212 w0 _ ?side1 ?side2 A31.out).mono ?_); (case side1 => repeat (first | (with_reducible first | exact HB.out | apply below_alloc | apply pw_below_drewN | apply below_drew1) | exact HB.out)); (case side2 => exact Kd.R_tight rfl HO_0.out); rintro e w33 ⟨rfl, hy0, hb, hkp⟩; replace HK := Aside0.mk (Kept.then_ (S := (fun k_ => P0_ k_)) (by repeat (first | (with_reducible first | exact HK.out | apply Kept.alloc | apply Kept.drewN | apply Kept.drew) | exact HK.out)) hkp (fun k_ hs_ => (fun e_ => (HO_0.out.1 k_ e_.symm)) hs_)); replace HO_0 := Aside0.mk (Kd.R_reok rfl hy0 (fun k_ e_ => HO_0.out.1 k_ e_)); replace HB := Aside0.mk (hb); (try clear hb); (try clear hkp); (try clear hy0)) | (go_at_call 139; (with_reducible refine (spec_l2Turn.calls kj27 (fun k_ => some k_ = (.slice Ao3 x0_1.length co3 : Value).ownBlock) (.slice Ao3 x0_1.length co3) t212 x3_2 (decide (t204 > t205)) t213 w0 _ ?side1 ?side2 A32.out).mono ?_); (case side1 => repeat (first | (with_reducible first | exact HB.out | apply below_alloc | apply pw_below_drewN | apply below_drew1) | exact HB.out)); (case side2 => exact Kd.R_tight rfl HO_0.out); rintro e w34 ⟨rfl, hy0, hb, hkp⟩; replace HK := Aside0.mk (Kept.then_ (S := (fun k_ => P0_ k_)) (by repeat (first | (with_reducible first | exact HK.out | apply Kept.alloc | apply Kept.drewN | apply Kept.drew) | exact HK.out)) hkp (fun k_ hs_ => (fun e_ => (HO_0.out.1 k_ e_.symm)) hs_)); replace HO_0 := Aside0.mk (Kd.R_reok rfl hy0 (fun k_ e_ => HO_0.out.1 k_ e_)); replace HB := Aside0.mk (hb); (try clear hb); (try clear hkp); (try clear hy0))); try go_wp2_with (first | (go_at_call 139; (with_reducible refine (spec_l2Turn.calls kj27 (fun k_ => some k_ = (.slice Ao3 x0_1.length co3 : Value).ownBlock) (.slice Ao3 x0_1.length co3) x0_1 x11_21 (!(decide (t204 > t205))) t212 w0 _ ?side1 ?side2 A31.out).mono ?_); (case side1 => repeat (first | (with_reducible first | exact HB.out | apply below_alloc | apply pw_below_drewN | apply below_drew1) | exact HB.out)); (case side2 => exact Kd.R_tight rfl HO_0.out); rintro e w33 ⟨rfl, hy0, hb, hkp⟩; replace HK := Aside0.mk (Kept.then_ (S := (fun k_ => P0_ k_)) (by repeat (first | (with_reducible first | exact HK.out | apply Kept.alloc | apply Kept.drewN | apply Kept.drew) | exact HK.out)) hkp (fun k_ hs_ => (fun e_ => (HO_0.out.1 k_ e_.symm)) hs_)); replace HO_0 := Aside0.mk (Kd.R_reok rfl hy0 (fun k_ e_ => HO_0.out.1 k_ e_)); replace HB := Aside0.mk (hb); (try clear hb); (try clear hkp); (try clear hy0)) | (go_at_call 139; (with_reducible refine (spec_l2Turn.calls kj27 (fun k_ => some k_ = (.slice Ao3 x0_1.length co3 : Value).ownBlock) (.slice Ao3 x0_1.length co3) t212 x3_2 (decide (t204 > t205)) t213 w0 _ ?side1 ?side2 A32.out).mono ?_); (case side1 => repeat (first | (with_reducible first | exact HB.out | apply below_alloc | apply pw_below_drewN | apply below_drew1) | exact HB.out)); (case side2 => exact Kd.R_tight rfl HO_0.out); rintro e w34 ⟨rfl, hy0, hb, hkp⟩; replace HK := Aside0.mk (Kept.then_ (S := (fun k_ => P0_ k_)) (by repeat (first | (with_reducible first | exact HK.out | apply Kept.alloc | apply Kept.drewN | apply Kept.drew) | exact HK.out)) hkp (fun k_ hs_ => (fun e_ => (HO_0.out.1 k_ e_.symm)) hs_)); replace HO_0 := Aside0.mk (Kd.R_reok rfl hy0 (fun k_ e_ => HO_0.out.1 k_ e_)); replace HB := Aside0.mk (hb); (try clear hb); (try clear hkp); (try clear hy0))))
             go_roundg kj27
             case measure => have := HK1.out; have := HK2.out; have := HJ21.out; have := HJ27.out; omega
             case rel => exact ⟨(t213), (wrap64 (x2_1 + 1)), (by first | rfl | (simp; done) | (simp [*]; done)), H', ⟨by have := HK1.out; have := HK2.out; have := HJ21.out; have := HJ27.out; omega⟩, ⟨by (with_reducible repeat (first | apply Kd.R_alloc | apply Kd.R_drewN | apply Kd.R_drew)); exact HO_0.out⟩, ⟨by repeat (first | (with_reducible first | exact HK.out | apply Kept.alloc | apply Kept.drewN | apply Kept.drew) | exact HK.out)⟩, ⟨by repeat (first | (with_reducible first | exact HB.out | apply below_alloc | apply pw_below_drewN | apply below_drew1) | exact HB.out)⟩⟩
            ·rw [if_neg c30] at H
             have c30b0 : decide (x14_27 < x15_27) = false := decide_eq_false c30; clear c30; replace H := Option.bind_eq_some_iff.mp H; obtain ⟨t214, A350, H⟩ := H; replace H : (spec_l2Repair.l0 kj27 t214 (wrap64 (x2_1 + 1))) = some r := H; have A35 := Aside0.mk A350; clear A350; have H' := Aside0.mk H; clear H; go_wp2_with (first | (go_at_call 139; (with_reducible refine (spec_l2Turn.calls kj27 (fun k_ => some k_ = (.slice Ao3 x0_1.length co3 : Value).ownBlock) (.slice Ao3 x0_1.length co3) x0_1 x3_2 (decide (t204 > t205)) t214 w0 _ ?side1 ?side2 A35.out).mono ?_); (case side1 => repeat (first | (with_reducible first | exact HB.out | apply below_alloc | apply pw_below_drewN | apply below_drew1) | exact HB.out)); (case side2 => exact Kd.R_tight rfl HO_0.out); rintro e w36 ⟨rfl, hy0, hb, hkp⟩; replace HK := Aside0.mk (Kept.then_ (S := (fun k_ => P0_ k_)) (by repeat (first | (with_reducible first | exact HK.out | apply Kept.alloc | apply Kept.drewN | apply Kept.drew) | exact HK.out)) hkp (fun k_ hs_ => (fun e_ => (HO_0.out.1 k_ e_.symm)) hs_)); replace HO_0 := Aside0.mk (Kd.R_reok rfl hy0 (fun k_ e_ => HO_0.out.1 k_ e_)); replace HB := Aside0.mk (hb); (try clear hb); (try clear hkp); (try clear hy0))); repeat (go_quiet (first | (go_at_call 139; (with_reducible refine (spec_l2Turn.calls kj27 (fun k_ => some k_ = (.slice Ao3 x0_1.length co3 : Value).ownBlock) (.slice Ao3 x0_1.length co3) x0_1 x3_2 (decide (t204 > t205)) t214 w0 _ ?side1 ?side2 A35.out).mono ?_); (case side1 => repeat (first | (with_reducible first | exact HB.out | apply below_alloc | apply pw_below_drewN | apply below_drew1) | exact HB.out)); (case side2 => exact Kd.R_tight rfl HO_0.out); rintro e w36 ⟨rfl, hy0, hb, hkp⟩; replace HK := Aside0.mk (Kept.then_ (S := (fun k_ => P0_ k_)) (by repeat (first | (with_reducible first | exact HK.out | apply Kept.alloc | apply Kept.drewN | apply Kept.drew) | exact HK.out)) hkp (fun k_ hs_ => (fun e_ => (HO_0.out.1 k_ e_.symm)) hs_)); replace HO_0 := Aside0.mk (Kd.R_reok rfl hy0 (fun k_ e_ => HO_0.out.1 k_ e_)); replace HB := Aside0.mk (hb); (try clear hb); (try clear hkp); (try clear hy0))); try go_wp2_with (first | (go_at_call 139; (with_reducible refine (spec_l2Turn.calls kj27 (fun k_ => some k_ = (.slice Ao3 x0_1.length co3 : Value).ownBlock) (.slice Ao3 x0_1.length co3) x0_1 x3_2 (decide (t204 > t205)) t214 w0 _ ?side1 ?side2 A35.out).mono ?_); (case side1 => repeat (first | (with_reducible first | exact HB.out | apply below_alloc | apply pw_below_drewN | apply below_drew1) | exact HB.out)); (case side2 => exact Kd.R_tight rfl HO_0.out); rintro e w36 ⟨rfl, hy0, hb, hkp⟩; replace HK := Aside0.mk (Kept.then_ (S := (fun k_ => P0_ k_)) (by repeat (first | (with_reducible first | exact HK.out | apply Kept.alloc | apply Kept.drewN | apply Kept.drew) | exact HK.out)) hkp (fun k_ hs_ => (fun e_ => (HO_0.out.1 k_ e_.symm)) hs_)); replace HO_0 := Aside0.mk (Kd.R_reok rfl hy0 (fun k_ e_ => HO_0.out.1 k_ e_)); replace HB := Aside0.mk (hb); (try clear hb); (try clear hkp); (try clear hy0))))
             go_roundg kj27
             case measure => have := HK1.out; have := HK2.out; have := HJ21.out; have := HJ27.out; omega
             case rel => exact ⟨(t214), (wrap64 (x2_1 + 1)), (by first | rfl | (simp; done) | (simp [*]; done)), H', ⟨by have := HK1.out; have := HK2.out; have := HJ21.out; have := HJ27.out; omega⟩, ⟨by (with_reducible repeat (first | apply Kd.R_alloc | apply Kd.R_drewN | apply Kd.R_drew)); exact HO_0.out⟩, ⟨by repeat (first | (with_reducible first | exact HK.out | apply Kept.alloc | apply Kept.drewN | apply Kept.drew) | exact HK.out)⟩, ⟨by repeat (first | (with_reducible first | exact HB.out | apply below_alloc | apply pw_below_drewN | apply below_drew1) | exact HB.out)⟩⟩
   ·rw [if_neg c2] at H
    have c2b0 : decide (x2_1 ≤ (wrap64 ((wrap64 (2 * (x0_1.length : Int))) + 2))) = false := decide_eq_false c2; clear c2; obtain rfl := Option.some.inj H; obtain ⟨Ao37, co37, eo37⟩ := Kd.R_slice HO_0.out; subst eo37; go_wp2; repeat (go_quiet (fail); try go_wp2)
    first | go_end0 | ((try simp only [Exit.inBlock, Exit.then]); refine bodyPost_ret (results_none rfl _ _ _) rfl ?_)
    exact ⟨by first | rfl | (simp [errW_none, errW_some] <;> rfl) | (simp [*, errW_none, errW_some] <;> rfl), by (with_reducible repeat (first | apply Kd.R_alloc | apply Kd.R_drewN | apply Kd.R_drew)); exact HO_0.out, by repeat (first | (with_reducible first | exact HB.out | apply below_alloc | apply pw_below_drewN | apply below_drew1) | exact HB.out), by repeat (first | (with_reducible first | exact HK.out | apply Kept.alloc | apply Kept.drewN | apply Kept.drew) | exact HK.out)⟩

end Go.Proofs.YtciabhncmdpeeaaDoor.QFnExactTreeJoin
