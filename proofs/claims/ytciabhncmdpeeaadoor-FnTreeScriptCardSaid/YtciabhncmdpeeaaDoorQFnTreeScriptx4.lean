/- What the law FnTreeScript reaches: each function as a plain function, and that the machine's call does it (written by a program). The condition, where there is one: errors.errorType reads as laid. -/
import Derived.Test.YtciabhncmdpeeaaDoorQFnTreeScriptx0
import Derived.Test.YtciabhncmdpeeaaDoorQFnTreeScriptx2
import Derived.Test.YtciabhncmdpeeaaDoorQFnTreeScriptx3
import Derived.Test.YtciabhncmdpeeaaDoorSq
namespace Go.Proofs.YtciabhncmdpeeaaDoor.QFnTreeScript
open Go.Proofs.YtciabhncmdpeeaaDoor.Er Go.Proofs.YtciabhncmdpeeaaDoor.Sq
open Go.RowKit Go.Proofs.YtciabhncmdpeeaaDoorW.PrintWords Go.Proofs.YtciabhncmdpeeaaDoorW.PrintLast Go.Proofs.YtciabhncmdpeeaaDoorW.PrintMore
attribute [local go_sem] max2_int min2_int max_two min_two max_three min_three max_four min_four   -- for this text's walks alone
set_option linter.unusedVariables false
set_option linter.unusedSimpArgs false

/-! ### spec_l2Shape: function 74 -/
mutual
def spec_l2Shape.l0 : Nat → List (S54) → Int → Int → Int → Int → Int → Option (Int)
 | 0, _, _, _, _, _, _ => none
 | k + 1, x0, x1, x2, x3, x9, x10 => if x10 < x2 then (if 0 ≤ x10 then (if x10 < (x0.length : Int) then (if ((rd_T54 x0 x10).f1) < x3 then (some (-1)) else (if ((rd_T54 x0 x10).f1) = x3 then (if x9 ≥ 0 then (some (-1)) else (spec_l2Shape.l0 k x0 x1 x2 x3 x10 (wrap64 (x10 + 1)))) else (spec_l2Shape.l0 k x0 x1 x2 x3 x9 (wrap64 (x10 + 1))))) else (none)) else (none)) else (if x9 < 0 then (some (-1)) else ((spec_l2Shape.f k x0 x1 x9 (wrap64 (x3 + 1))).bind fun t234 => (if t234 < 0 then (some (-1)) else ((spec_l2Shape.f k x0 (wrap64 (x9 + 1)) x2 (wrap64 (x3 + 1))).bind fun t235 => (if t235 < 0 then (spec_l2Shape.j1 k t234 t235 true) else (if (wrap64 (t234 - t235)) > 1 then (spec_l2Shape.j1 k t234 t235 true) else (spec_l2Shape.j1 k t234 t235 (decide ((wrap64 (t235 - t234)) > 1)))))))))
def spec_l2Shape.j1 : Nat → Int → Int → Bool → Option (Int)
 | 0, _, _, _ => none
 | k + 1, x11, x12, x71 => if x71 = true then (some (-1)) else (if x12 > x11 then (some (wrap64 (x12 + 1))) else (some (wrap64 (x11 + 1))))
def spec_l2Shape.f : Nat → List (S54) → Int → Int → Int → Option (Int)
 | 0, _, _, _, _ => none
 | k + 1, l0, a1, a2, a3 => if a1 ≥ a2 then (some 0) else (if a3 > 40 then (some (-1)) else (spec_l2Shape.l0 k l0 a1 a2 a3 (-1) a1))
end
theorem spec_l2Shape.mono_l : ∀ k, (∀ y0 y1 y2 y3, LeO (spec_l2Shape.f k y0 y1 y2 y3) (spec_l2Shape.f (k + 1) y0 y1 y2 y3)) ∧ (∀ y0 y1 y2 y3 y4 y5, LeO (spec_l2Shape.l0 k y0 y1 y2 y3 y4 y5) (spec_l2Shape.l0 (k + 1) y0 y1 y2 y3 y4 y5)) ∧ (∀ y0 y1 y2, LeO (spec_l2Shape.j1 k y0 y1 y2) (spec_l2Shape.j1 (k + 1) y0 y1 y2))
 | 0 => ⟨fun _ _ _ _ r h => by simp [spec_l2Shape.f] at h, fun _ _ _ _ _ _ r h => by simp [spec_l2Shape.l0] at h, fun _ _ _ r h => by simp [spec_l2Shape.j1] at h⟩
 | k + 1 => by
  obtain ⟨ih0, ih1, ih2⟩ := spec_l2Shape.mono_l k; refine ⟨?_, ?_, ?_⟩
  ·intro y0 y1 y2 y3
   unfold spec_l2Shape.f
   repeat' first
   | (with_reducible exact ih0 _ _ _ _)
   | (with_reducible exact ih1 _ _ _ _ _ _)
   | (with_reducible exact ih2 _ _ _)
   | (with_reducible exact LeO.refl _)
   | (with_reducible exact LeO.none _)
   | (with_reducible refine LeO.ite ?_ ?_)
   | (with_reducible refine LeO.bind ?_ (fun _ => ?_))
   | exact ih0 _ _ _ _
   | exact ih1 _ _ _ _ _ _
   | exact ih2 _ _ _
   | exact LeO.none _
   | refine LeO.ite ?_ ?_
   | refine LeO.bind ?_ (fun _ => ?_)
  ·intro y0 y1 y2 y3 y4 y5
   unfold spec_l2Shape.l0
   repeat' first
   | (with_reducible exact ih0 _ _ _ _)
   | (with_reducible exact ih1 _ _ _ _ _ _)
   | (with_reducible exact ih2 _ _ _)
   | (with_reducible exact LeO.refl _)
   | (with_reducible exact LeO.none _)
   | (with_reducible refine LeO.ite ?_ ?_)
   | (with_reducible refine LeO.bind ?_ (fun _ => ?_))
   | exact ih0 _ _ _ _
   | exact ih1 _ _ _ _ _ _
   | exact ih2 _ _ _
   | exact LeO.none _
   | refine LeO.ite ?_ ?_
   | refine LeO.bind ?_ (fun _ => ?_)
  ·intro y0 y1 y2
   unfold spec_l2Shape.j1
   repeat' first
   | (with_reducible exact ih0 _ _ _ _)
   | (with_reducible exact ih1 _ _ _ _ _ _)
   | (with_reducible exact ih2 _ _ _)
   | (with_reducible exact LeO.refl _)
   | (with_reducible exact LeO.none _)
   | (with_reducible refine LeO.ite ?_ ?_)
   | (with_reducible refine LeO.bind ?_ (fun _ => ?_))
   | exact ih0 _ _ _ _
   | exact ih1 _ _ _ _ _ _
   | exact ih2 _ _ _
   | exact LeO.none _
   | refine LeO.ite ?_ ?_
   | refine LeO.bind ?_ (fun _ => ?_)
theorem spec_l2Shape.mono : ∀ a0 a1 a2 a3 k, LeO (spec_l2Shape.f k a0 a1 a2 a3) (spec_l2Shape.f (k + 1) a0 a1 a2 a3) := by
 intro a0 a1 a2 a3 k; obtain ⟨ih0, ih1, ih2⟩ := spec_l2Shape.mono_l k; exact ih0 a0 a1 a2 a3
set_option maxHeartbeats 8000000 in
set_option maxRecDepth 100000 in
theorem spec_l2Shape.calls (k : Nat) : ∀ (A0 : Option Addr) (c0 : Nat) (l0 : List (S54)) (a1 : Int) (a2 : Int) (a3 : Int) (r : Int) (w : World) (hr0 : Kd.C k54 w A0 l0.length l0) (hc0 : l0.length ≤ c0) (h : spec_l2Shape.f k l0 a1 a2 a3 = some r),
  Calls Tryd.prog 74 #[.slice A0 l0.length c0, .int .i64 a1, .int .i64 a2, .int .i64 a3] w fun e w' => e = .returned (.int .i64 r) ∧ Drawn0 w w' := by
 induction k using Nat.strongRecOn with
 | _ k ih =>
 intro A0 c0 l0 a1 a2 a3 r w hr0 hc0 h
 cases k with
 | zero => exact absurd h (by simp [spec_l2Shape.f])
 | succ k =>
 simp only [spec_l2Shape.f] at h; have HR0 := Aside0.mk hr0; have HC0 := Aside0.mk hc0; clear hr0 hc0; have H : (if a1 ≥ a2 then (some 0) else (if a3 > 40 then (some (-1)) else (spec_l2Shape.l0 k l0 a1 a2 a3 (-1) a1))) = some r := h; clear h; by_cases c5 : a1 ≥ a2
 ·rw [if_pos c5] at H
  have c5b0 : decide (a2 ≤ a1) = true := decide_eq_true c5; clear c5; obtain rfl := Option.some.inj H; go_enter Tryd.func74, Tryd.ntmps74; go_wp2; go_ret; exact ⟨by first | rfl | (simp; done) | (simp [*]; done), by repeat (first | exact Drawn0.refl _ | apply Drawn0.step)⟩
 ·rw [if_neg c5] at H
  have c5b0 : decide (a2 ≤ a1) = false := decide_eq_false c5; clear c5; by_cases c6 : a3 > 40
  ·rw [if_pos c6] at H
   have c6b0 : decide (40 < a3) = true := decide_eq_true c6; clear c6; obtain rfl := Option.some.inj H; go_enter Tryd.func74, Tryd.ntmps74; go_wp2; go_ret; exact ⟨by first | rfl | (simp; done) | (simp [*]; done), by repeat (first | exact Drawn0.refl _ | apply Drawn0.step)⟩
  ·rw [if_neg c6] at H
   have c6b0 : decide (40 < a3) = false := decide_eq_false c6; clear c6; have H' := Aside0.mk H; clear H; go_enter Tryd.func74, Tryd.ntmps74; go_wp2; go_loopg [9, 10] k (fun kq v9 v10 w' => ∃ (x9_1 : Int) (x10_1 : Int), v9 = .int .i64 x9_1 ∧ v10 = .int .i64 x10_1 ∧ Aside0 (spec_l2Shape.l0 kq l0 a1 a2 a3 x9_1 x10_1 = some r) ∧ Aside0 (kq ≤ k) ∧ Drawn0 w w')
   case atStart => exact ⟨((-1)), (a1), (by first | rfl | (simp; done) | (simp [*]; done)), (by first | rfl | (simp; done) | (simp [*]; done)), H', ⟨Nat.le_refl _⟩, by repeat (first | exact Drawn0.refl _ | apply Drawn0.step)⟩
   case round =>
    clear H'; (try clear p2); (try clear c5); (try clear c5b0); (try clear c6); (try clear c6b0); obtain ⟨x9_1, x10_1, rfl, rfl, HA, HK1, ⟨m1, rfl⟩⟩ := hrel
    cases gk with
    | zero => exact absurd HA.out (by simp [spec_l2Shape.l0])
    | succ k1 =>
     have H := HA.out; clear HA; simp only [spec_l2Shape.l0] at H; by_cases c7 : x10_1 < a2
     ·rw [if_pos c7] at H
      have c7b0 : decide (x10_1 < a2) = true := decide_eq_true c7; clear c7; by_cases c8 : 0 ≤ x10_1
      ·rw [if_pos c8] at H
       have c8b0 : decide (0 ≤ x10_1) = true := decide_eq_true c8; clear c8; by_cases c9 : x10_1 < (l0.length : Int)
       ·rw [if_pos c9] at H
        have c9b0 : decide (x10_1 < (l0.length : Int)) = true := decide_eq_true c9; clear c9; by_cases c10 : ((rd_T54 l0 x10_1).f1) < a3
        ·rw [if_pos c10] at H
         have c10b0 : decide (((rd_T54 l0 x10_1).f1) < a3) = true := decide_eq_true c10; clear c10; obtain rfl := Option.some.inj H; have p232 : 0 ≤ (x10_1 : Int) := of_decide_eq_true (by first | (with_reducible assumption) | assumption); have q232 : x10_1 < (l0.length : Int) := of_decide_eq_true (by first | (with_reducible assumption) | assumption); obtain ⟨ad232, e232, hx232_0, hx232_1, hx232_2, hx232_3⟩ := at_T54 HR0.out x10_1 p232 q232
         cases e232
         replace p232 := eq_true p232; replace q232 := eq_true q232; go_wp2; go_ret; exact ⟨by first | rfl | (simp; done) | (simp [*]; done), by repeat (first | exact Drawn0.refl _ | apply Drawn0.step)⟩
        ·rw [if_neg c10] at H
         have c10b0 : decide (((rd_T54 l0 x10_1).f1) < a3) = false := decide_eq_false c10; clear c10; by_cases c11 : ((rd_T54 l0 x10_1).f1) = a3
         ·rw [if_pos c11] at H
          have c11b0 : (((rd_T54 l0 x10_1).f1) == a3) = true := beq_iff_eq.mpr c11; have c11b1 : (((rd_T54 l0 x10_1).f1) != a3) = false := bne_eq_false_iff_eq.mpr c11; clear c11; by_cases c12 : x9_1 ≥ 0
          ·rw [if_pos c12] at H
           have c12b0 : decide (0 ≤ x9_1) = true := decide_eq_true c12; clear c12; obtain rfl := Option.some.inj H; have p232 : 0 ≤ (x10_1 : Int) := of_decide_eq_true (by first | (with_reducible assumption) | assumption); have q232 : x10_1 < (l0.length : Int) := of_decide_eq_true (by first | (with_reducible assumption) | assumption); obtain ⟨ad232, e232, hx232_0, hx232_1, hx232_2, hx232_3⟩ := at_T54 HR0.out x10_1 p232 q232
           cases e232
           replace p232 := eq_true p232; replace q232 := eq_true q232; have p233 : 0 ≤ (x10_1 : Int) := of_decide_eq_true (by first | (with_reducible assumption) | assumption); have q233 : x10_1 < (l0.length : Int) := of_decide_eq_true (by first | (with_reducible assumption) | assumption); obtain ⟨ad233, e233, hx233_0, hx233_1, hx233_2, hx233_3⟩ := at_T54 HR0.out x10_1 p233 q233; obtain rfl : ad232 = ad233 := (by injection e233); replace p233 := eq_true p233; replace q233 := eq_true q233; go_wp2; go_ret; exact ⟨by first | rfl | (simp; done) | (simp [*]; done), by repeat (first | exact Drawn0.refl _ | apply Drawn0.step)⟩
          ·rw [if_neg c12] at H
           have c12b0 : decide (0 ≤ x9_1) = false := decide_eq_false c12; clear c12; have H' := Aside0.mk H; clear H; have p232 : 0 ≤ (x10_1 : Int) := of_decide_eq_true (by first | (with_reducible assumption) | assumption); have q232 : x10_1 < (l0.length : Int) := of_decide_eq_true (by first | (with_reducible assumption) | assumption); obtain ⟨ad232, e232, hx232_0, hx232_1, hx232_2, hx232_3⟩ := at_T54 HR0.out x10_1 p232 q232
           cases e232
           replace p232 := eq_true p232; replace q232 := eq_true q232; have p233 : 0 ≤ (x10_1 : Int) := of_decide_eq_true (by first | (with_reducible assumption) | assumption); have q233 : x10_1 < (l0.length : Int) := of_decide_eq_true (by first | (with_reducible assumption) | assumption); obtain ⟨ad233, e233, hx233_0, hx233_1, hx233_2, hx233_3⟩ := at_T54 HR0.out x10_1 p233 q233; obtain rfl : ad232 = ad233 := (by injection e233); replace p233 := eq_true p233; replace q233 := eq_true q233; go_wp2; go_roundg k1
           case measure => have := HK1.out; omega
           case rel => exact ⟨(x10_1), (wrap64 (x10_1 + 1)), (by first | rfl | (simp; done) | (simp [*]; done)), (by first | rfl | (simp; done) | (simp [*]; done)), H', ⟨by have := HK1.out; omega⟩, by repeat (first | exact Drawn0.refl _ | apply Drawn0.step)⟩
         ·rw [if_neg c11] at H
          have c11b0 : (((rd_T54 l0 x10_1).f1) == a3) = false := beq_eq_false_iff_ne.mpr c11; have c11b1 : (((rd_T54 l0 x10_1).f1) != a3) = true := bne_iff_ne.mpr c11; have H' := Aside0.mk H; clear H; have p232 : 0 ≤ (x10_1 : Int) := of_decide_eq_true (by first | (with_reducible assumption) | assumption); have q232 : x10_1 < (l0.length : Int) := of_decide_eq_true (by first | (with_reducible assumption) | assumption); obtain ⟨ad232, e232, hx232_0, hx232_1, hx232_2, hx232_3⟩ := at_T54 HR0.out x10_1 p232 q232
          cases e232
          replace p232 := eq_true p232; replace q232 := eq_true q232; have p233 : 0 ≤ (x10_1 : Int) := of_decide_eq_true (by first | (with_reducible assumption) | assumption); have q233 : x10_1 < (l0.length : Int) := of_decide_eq_true (by first | (with_reducible assumption) | assumption); obtain ⟨ad233, e233, hx233_0, hx233_1, hx233_2, hx233_3⟩ := at_T54 HR0.out x10_1 p233 q233; obtain rfl : ad232 = ad233 := (by injection e233); replace p233 := eq_true p233; replace q233 := eq_true q233; go_wp2; go_roundg k1
          case measure => have := HK1.out; omega
          case rel => exact ⟨(x9_1), (wrap64 (x10_1 + 1)), (by first | rfl | (simp; done) | (simp [*]; done)), (by first | rfl | (simp; done) | (simp [*]; done)), H', ⟨by have := HK1.out; omega⟩, by repeat (first | exact Drawn0.refl _ | apply Drawn0.step)⟩
       ·rw [if_neg c9] at H
        exact absurd H (by simp)
      ·rw [if_neg c8] at H
       exact absurd H (by simp)
     ·rw [if_neg c7] at H
      have c7b0 : decide (x10_1 < a2) = false := decide_eq_false c7; clear c7; by_cases c13 : x9_1 < 0
      ·rw [if_pos c13] at H
       have c13b0 : decide (x9_1 < 0) = true := decide_eq_true c13; clear c13; obtain rfl := Option.some.inj H; go_wp2; go_ret; exact ⟨by first | rfl | (simp; done) | (simp [*]; done), by repeat (first | exact Drawn0.refl _ | apply Drawn0.step)⟩
      ·rw [if_neg c13] at H
       have c13b0 : decide (x9_1 < 0) = false := decide_eq_false c13; clear c13; replace H := Option.bind_eq_some_iff.mp H; obtain ⟨t234, A140, H⟩ := H; replace H : (if t234 < 0 then (some (-1)) else ((spec_l2Shape.f k1 l0 (wrap64 (x9_1 + 1)) a2 (wrap64 (a3 + 1))).bind fun t235 => (if t235 < 0 then (spec_l2Shape.j1 k1 t234 t235 true) else (if (wrap64 (t234 - t235)) > 1 then (spec_l2Shape.j1 k1 t234 t235 true) else (spec_l2Shape.j1 k1 t234 t235 (decide ((wrap64 (t235 - t234)) > 1))))))) = some r := H; have A14 := Aside0.mk A140; clear A140; by_cases c15 : t234 < 0
       ·rw [if_pos c15] at H
        have c15b0 : decide (t234 < 0) = true := decide_eq_true c15; clear c15; obtain rfl := Option.some.inj H; go_wp2_with (first | ((with_reducible refine gate_callee (f := 74) rfl ?_); refine goesL_ (some 48) rfl rfl Tryd.func74 (by kernel_rfl) rfl #[.slice A0 l0.length c0, .int .i64 a1, .int .i64 x9_1, .int .i64 (wrap64 (a3 + 1))] rfl (by (try simp only [List.map_toArray, List.map_cons, List.map_nil]); first | done | rfl | (simp only [List.length_drop, List.length_take]; rfl)) ?_; (with_reducible refine (ih k1 (by have := HK1.out; omega) _ _ l0 a1 x9_1 (wrap64 (a3 + 1)) t234 _ ?side1 ?side2 A14.out).mono ?_); (case side1 => repeat (first | exact HR0.out | (with_reducible refine Kd.C_alloc ?_ _) | (with_reducible refine Kd.C_drewN ?_ _) | (with_reducible refine Kd.C_drew ?_))); (case side2 => exact HC0.out); rintro e w' ⟨rfl, ⟨nd, rfl⟩⟩; refine ⟨_, rfl, ?_⟩)); go_ret; exact ⟨by first | rfl | (simp; done) | (simp [*]; done), by repeat (first | exact Drawn0.refl _ | apply Drawn0.step)⟩
       ·rw [if_neg c15] at H
        have c15b0 : decide (t234 < 0) = false := decide_eq_false c15; clear c15; replace H := Option.bind_eq_some_iff.mp H; obtain ⟨t235, A160, H⟩ := H; replace H : (if t235 < 0 then (spec_l2Shape.j1 k1 t234 t235 true) else (if (wrap64 (t234 - t235)) > 1 then (spec_l2Shape.j1 k1 t234 t235 true) else (spec_l2Shape.j1 k1 t234 t235 (decide ((wrap64 (t235 - t234)) > 1))))) = some r := H; have A16 := Aside0.mk A160; clear A160; have HC17 := Aside0.mk H; clear H; go_upto_region 21 with (first | ((with_reducible refine gate_callee (f := 74) rfl ?_); refine goesL_ (some 48) rfl rfl Tryd.func74 (by kernel_rfl) rfl #[.slice A0 l0.length c0, .int .i64 a1, .int .i64 x9_1, .int .i64 (wrap64 (a3 + 1))] rfl (by (try simp only [List.map_toArray, List.map_cons, List.map_nil]); first | done | rfl | (simp only [List.length_drop, List.length_take]; rfl)) ?_; (with_reducible refine (ih k1 (by have := HK1.out; omega) _ _ l0 a1 x9_1 (wrap64 (a3 + 1)) t234 _ ?side1 ?side2 A14.out).mono ?_); (case side1 => repeat (first | exact HR0.out | (with_reducible refine Kd.C_alloc ?_ _) | (with_reducible refine Kd.C_drewN ?_ _) | (with_reducible refine Kd.C_drew ?_))); (case side2 => exact HC0.out); rintro e w' ⟨rfl, ⟨nd, rfl⟩⟩; refine ⟨_, rfl, ?_⟩) | ((with_reducible refine gate_callee (f := 74) rfl ?_); refine goesL_ (some 57) rfl rfl Tryd.func74 (by kernel_rfl) rfl #[.slice A0 l0.length c0, .int .i64 (wrap64 (x9_1 + 1)), .int .i64 a2, .int .i64 (wrap64 (a3 + 1))] rfl (by (try simp only [List.map_toArray, List.map_cons, List.map_nil]); first | done | rfl | (simp only [List.length_drop, List.length_take]; rfl)) ?_; (with_reducible refine (ih k1 (by have := HK1.out; omega) _ _ l0 (wrap64 (x9_1 + 1)) a2 (wrap64 (a3 + 1)) t235 _ ?side1 ?side2 A16.out).mono ?_); (case side1 => repeat (first | exact HR0.out | (with_reducible refine Kd.C_alloc ?_ _) | (with_reducible refine Kd.C_drewN ?_ _) | (with_reducible refine Kd.C_drew ?_))); (case side2 => exact HC0.out); rintro e w' ⟨rfl, ⟨nd, rfl⟩⟩; refine ⟨_, rfl, ?_⟩))
        (try simp only [Act.put, List.setIfInBounds_toArray, List.set_cons_zero, List.set_cons_succ]); go_cut [71] (fun v71 wc => ∃ (kq : Nat) (x71_16 : Bool), v71 = .bool x71_16 ∧ Aside0 (spec_l2Shape.j1 kq t234 t235 x71_16 = some r) ∧ Aside0 (kq ≤ k1) ∧ Drawn0 w wc)
        case first =>
         have H := HC17.out; clear HC17; by_cases c18 : t235 < 0
         ·rw [if_pos c18] at H
          have c18b0 : decide (t235 < 0) = true := decide_eq_true c18; clear c18; (first | rw [c18b0] | (simp only [i64_w, i32_w]; rw [c18b0]) | skip); have H' := Aside0.mk H; clear H; go_wp2; go_meet
          case rel => exact ⟨_, (true), (by first | rfl | (simp; done) | (simp [*]; done)), H', ⟨by have := HK1.out; first | omega | exact Nat.le_refl _⟩, by repeat (first | exact Drawn0.refl _ | apply Drawn0.step)⟩
         ·rw [if_neg c18] at H
          have c18b0 : decide (t235 < 0) = false := decide_eq_false c18; clear c18; (first | rw [c18b0] | (simp only [i64_w, i32_w]; rw [c18b0]) | skip); by_cases c19 : (wrap64 (t234 - t235)) > 1
          ·rw [if_pos c19] at H
           have c19b0 : decide (1 < (wrap64 (t234 - t235))) = true := decide_eq_true c19; clear c19; have H' := Aside0.mk H; clear H; go_wp2; go_meet
           case rel => exact ⟨_, (true), (by first | rfl | (simp; done) | (simp [*]; done)), H', ⟨by have := HK1.out; first | omega | exact Nat.le_refl _⟩, by repeat (first | exact Drawn0.refl _ | apply Drawn0.step)⟩
          ·rw [if_neg c19] at H
           have c19b0 : decide (1 < (wrap64 (t234 - t235))) = false := decide_eq_false c19; clear c19; have H' := Aside0.mk H; clear H; go_wp2; go_meet
           case rel => exact ⟨_, (decide ((wrap64 (t235 - t234)) > 1)), (by first | rfl | (simp; done) | (simp [*]; done)), H', ⟨by have := HK1.out; first | omega | exact Nat.le_refl _⟩, by repeat (first | exact Drawn0.refl _ | apply Drawn0.step)⟩
        case rest =>
         clear HC17; (try clear c1); (try clear p2); (try clear q2); (try clear hx2); (try clear c5); (try clear c5b0); (try clear c6); (try clear c6b0); (try clear p6); (try clear c7); (try clear c7b0); (try clear c8); (try clear c8b0); (try clear c9); (try clear c9b0); (try clear c10); (try clear c10b0); (try clear c11); (try clear c11b0); (try clear c11b1); (try clear c12); (try clear c12b0); (try clear c13); (try clear c13b0); (try clear c15); (try clear c15b0); (try clear c18); (try clear c18b0); (try clear c19); (try clear c19b0); (try clear hx232_0); (try clear hx232_1); (try clear hx232_2); (try clear hx232_3); (try clear hx233_0); (try clear hx233_1); (try clear hx233_2); (try clear hx233_3); (try clear p2); (try clear p232); (try clear p233); (try clear q232); (try clear q233); obtain ⟨kq, x71_16, rfl, HA, HJ16, ⟨mc16, rfl⟩⟩ := hcut
         cases kq with
         | zero => exact absurd HA.out (by simp [spec_l2Shape.j1])
         | succ kj16 =>
          have H := HA.out; clear HA; simp only [spec_l2Shape.j1] at H; by_cases c20 : x71_16 = true
          ·subst c20
           have H1 : (some (-1)) = some r := by rw [if_pos rfl] at H; exact H
           clear H; have H := H1; clear H1; obtain rfl := Option.some.inj H; go_wp2; go_ret; exact ⟨by first | rfl | (simp; done) | (simp [*]; done), by repeat (first | exact Drawn0.refl _ | apply Drawn0.step)⟩
          ·replace c20 := Bool.eq_false_iff.mpr c20
           subst c20; have H1 : (if t235 > t234 then (some (wrap64 (t235 + 1))) else (some (wrap64 (t234 + 1)))) = some r := by rw [if_neg (show ¬ (false = true) by decide)] at H; exact H
           clear H; have H := H1; clear H1; by_cases c21 : t235 > t234
           ·rw [if_pos c21] at H
            have c21b0 : decide (t234 < t235) = true := decide_eq_true c21; clear c21; obtain rfl := Option.some.inj H; go_wp2; go_ret; exact ⟨by first | rfl | (simp; done) | (simp [*]; done), by repeat (first | exact Drawn0.refl _ | apply Drawn0.step)⟩
           ·rw [if_neg c21] at H
            have c21b0 : decide (t234 < t235) = false := decide_eq_false c21; clear c21; obtain rfl := Option.some.inj H; go_wp2; go_ret; exact ⟨by first | rfl | (simp; done) | (simp [*]; done), by repeat (first | exact Drawn0.refl _ | apply Drawn0.step)⟩

/-! ### spec_L2Valid: function 28 -/
def spec_L2Valid.l0 : Nat → List (S54) → Int → Int → List (S54) → Option (Bool)
 | 0, _, _, _, _ => none
 | k + 1, x10, x11, x12, x237000 => if x12 < x11 then (if 0 ≤ x12 then (if x12 < (x10.length : Int) then ((spec_l2PieceOk.f ((rd_T54 x10 x12).f0.f0) ((rd_T54 x10 x12).f0.f1) ((rd_T54 x10 x12).f0.f2)).bind fun t239 => (if t239 = true then (spec_L2Valid.l0 k x10 x11 (wrap64 (x12 + 1)) x237000) else (some false))) else (none)) else (none)) else ((spec_l2Total.f k x237000).bind fun t240 => (if t240 ≤ 8192 then ((spec_l2Shape.f k x237000 0 (x237000.length : Int) 0).bind fun t241 => (some (decide (t241 ≥ 0)))) else (some false)))
def spec_L2Valid.f (k : Nat) (l0_0 : List (S54)) : Option (Bool) := if (l0_0.length : Int) > 8192 then (some false) else (spec_L2Valid.l0 k l0_0 (l0_0.length : Int) 0 l0_0)
theorem spec_L2Valid.mono_l : ∀ k, (∀ y0 y1 y2 y3, LeO (spec_L2Valid.l0 k y0 y1 y2 y3) (spec_L2Valid.l0 (k + 1) y0 y1 y2 y3))
 | 0 => fun _ _ _ _ r h => by simp [spec_L2Valid.l0] at h
 | k + 1 => by
  have ih0 := spec_L2Valid.mono_l k
  ·intro y0 y1 y2 y3
   unfold spec_L2Valid.l0
   repeat' first
   | (with_reducible exact ih0 _ _ _ _)
   | (with_reducible exact spec_l2Shape.mono _ _ _ _ _)
   | (with_reducible exact spec_l2Total.mono _ _)
   | (with_reducible exact LeO.refl _)
   | (with_reducible exact LeO.none _)
   | (with_reducible refine LeO.ite ?_ ?_)
   | (with_reducible refine LeO.bind ?_ (fun _ => ?_))
   | exact ih0 _ _ _ _
   | exact spec_l2Shape.mono _ _ _ _ _
   | exact spec_l2Total.mono _ _
   | exact LeO.none _
   | refine LeO.ite ?_ ?_
   | refine LeO.bind ?_ (fun _ => ?_)
theorem spec_L2Valid.mono : ∀ a0 k, LeO (spec_L2Valid.f k a0) (spec_L2Valid.f (k + 1) a0) := by
 intro a0 k; have ih0 := spec_L2Valid.mono_l k; unfold spec_L2Valid.f
 repeat' first
   | (with_reducible exact ih0 _ _ _ _)
   | (with_reducible exact spec_l2Shape.mono _ _ _ _ _)
   | (with_reducible exact spec_l2Total.mono _ _)
   | (with_reducible exact LeO.refl _)
   | (with_reducible exact LeO.none _)
   | (with_reducible refine LeO.ite ?_ ?_)
   | (with_reducible refine LeO.bind ?_ (fun _ => ?_))
   | exact ih0 _ _ _ _
   | exact spec_l2Shape.mono _ _ _ _ _
   | exact spec_l2Total.mono _ _
   | exact LeO.none _
   | refine LeO.ite ?_ ?_
   | refine LeO.bind ?_ (fun _ => ?_)
set_option maxHeartbeats 8000000 in
set_option maxRecDepth 100000 in
theorem spec_L2Valid.calls (k : Nat) (A0_0 : Option Addr) (c0_0 : Nat) (l0_0 : List (S54)) (r : Bool) (w : World) (hr0_0 : Kd.C k54 w A0_0 l0_0.length l0_0) (hc0_0 : l0_0.length ≤ c0_0) (h : spec_L2Valid.f k l0_0 = some r) :
  Calls Tryd.prog 28 #[.agg #[.slice A0_0 l0_0.length c0_0]] w fun e w' => e = .returned (.bool r) ∧ Below w.heap.size w w' := by
 have hu30 := Tryd.underlying30; have hu54 := Tryd.underlying54; have hu50 := Tryd.underlying50; have HR0_0 := Aside0.mk hr0_0; have HC0_0 := Aside0.mk hc0_0; clear hr0_0 hc0_0; have HB := Aside0.mk (Below.refl w.heap.size w); have H : (if (l0_0.length : Int) > 8192 then (some false) else (spec_L2Valid.l0 k l0_0 (l0_0.length : Int) 0 l0_0)) = some r := h; clear h; by_cases c2 : (l0_0.length : Int) > 8192
 ·rw [if_pos c2] at H
  have c2b0 : decide (8192 < (l0_0.length : Int)) = true := decide_eq_true c2; have c2b1 : decide (8192 < l0_0.length) = true := decide_eq_true (by omega); clear c2; obtain rfl := Option.some.inj H; go_enter Tryd.func28, Tryd.ntmps28; go_wp2_with (first | ((with_reducible refine gate_dst (N := 1) rfl ?_); (try (refine gate_guard (by rfl) ?_; dsimp only)); refine box_event ?hg (N := 1) ?hd (cs := #[.slice A0_0 l0_0.length c0_0]) (t := 30) ?hr ?_; (case hd => rfl); (case hg => rfl); (case hr => first | (go_simp; done) | (go_simp; rfl)); intro gb236 hg w3 hbox hb; have n0_ := Aside0.mk (below_step (hbD HB) hb); have n1_ := Aside0.mk (hbox); have n2_ := Aside0.mk ((by rw [hg]; exact (below_size (hbD HB)) : w.heap.size ≤ gb236)); have n3_ := n2_; clear HB; have HB := n0_; have BK236 := n1_; have GW236 := n2_; have GE236 := n3_; clear n0_ n1_ n2_ n3_ hb hbox hg; have hcz4_0 : w3.cell? ⟨gb236, 0, none⟩ = some (.slice A0_0 l0_0.length c0_0) := (blk_cell BK236.out 0).trans rfl; have hfz4_0 := blk_frozen BK236.out 0)); go_ret; exact ⟨by first | rfl | (simp [errW_none, errW_some] <;> rfl) | (simp [*, errW_none, errW_some] <;> rfl), by repeat (first | (with_reducible first | exact HB.out | apply below_alloc | apply pw_below_drewN | apply below_drew1 | refine below_set ?_ GE236.out) | exact HB.out)⟩
 ·rw [if_neg c2] at H
  have c2b0 : decide (8192 < (l0_0.length : Int)) = false := decide_eq_false c2; have c2b1 : decide (8192 < l0_0.length) = false := decide_eq_false (by omega); clear c2; have H' := Aside0.mk H; clear H; go_enter Tryd.func28, Tryd.ntmps28; go_wp2_with (first | ((with_reducible refine gate_dst (N := 1) rfl ?_); (try (refine gate_guard (by rfl) ?_; dsimp only)); refine box_event ?hg (N := 1) ?hd (cs := #[.slice A0_0 l0_0.length c0_0]) (t := 30) ?hr ?_; (case hd => rfl); (case hg => rfl); (case hr => first | (go_simp; done) | (go_simp; rfl)); intro gb236 hg w5 hbox hb; have n0_ := Aside0.mk (below_step (hbD HB) hb); have n1_ := Aside0.mk (hbox); have n2_ := Aside0.mk ((by rw [hg]; exact (below_size (hbD HB)) : w.heap.size ≤ gb236)); have n3_ := n2_; clear HB; have HB := n0_; have BK236 := n1_; have GW236 := n2_; have GE236 := n3_; clear n0_ n1_ n2_ n3_ hb hbox hg; have hcz6_0 : w5.cell? ⟨gb236, 0, none⟩ = some (.slice A0_0 l0_0.length c0_0) := (blk_cell BK236.out 0).trans rfl; have hfz6_0 := blk_frozen BK236.out 0)); go_loopg [12] k (fun kq v12 w' => ∃ (x12_1 : Int), v12 = .int .i64 x12_1 ∧ Aside0 (spec_L2Valid.l0 kq l0_0 (l0_0.length : Int) x12_1 l0_0 = some r) ∧ Aside0 (kq ≤ k) ∧ Aside0 (w'.heap[gb236]? = some (.cells #[(.slice A0_0 l0_0.length c0_0)] 30 (0, 0))) ∧ Aside0 (Below w.heap.size w w'))
  case atStart => exact ⟨(0), (by first | rfl | (simp; done) | (simp [*]; done)), H', ⟨Nat.le_refl _⟩, ⟨by (with_reducible repeat (first | refine blk_drewN ?_ _ | refine blk_drew ?_ | refine blk_alloc ?_ _)); exact BK236.out⟩, ⟨by repeat (first | (with_reducible first | exact HB.out | apply below_alloc | apply pw_below_drewN | apply below_drew1 | refine below_set ?_ GE236.out) | exact HB.out)⟩⟩
  case round =>
   clear H'; (try clear c2); (try clear c2b0); (try clear c2b1); (try clear p2); (try clear hcz4_0); (try clear hcz6_0); (try clear hfz4_0); (try clear hfz6_0); obtain ⟨x12_1, rfl, HA, HK1, BK236, HB⟩ := hrel
   cases gk with
   | zero => exact absurd HA.out (by simp [spec_L2Valid.l0])
   | succ k1 =>
    have H := HA.out; clear HA; simp only [spec_L2Valid.l0] at H; by_cases c7 : x12_1 < (l0_0.length : Int)
    ·rw [if_pos c7] at H
     have c7b0 : decide (x12_1 < (l0_0.length : Int)) = true := decide_eq_true c7; clear c7; by_cases c8 : 0 ≤ x12_1
     ·rw [if_pos c8] at H
      have c8b0 : decide (0 ≤ x12_1) = true := decide_eq_true c8; clear c8; by_cases c9 : x12_1 < (l0_0.length : Int)
      ·rw [if_pos c9] at H
       have c9b0 : decide (x12_1 < (l0_0.length : Int)) = true := decide_eq_true c9; clear c9; replace H := Option.bind_eq_some_iff.mp H; obtain ⟨t239, A100, H⟩ := H; replace H : (if t239 = true then (spec_L2Valid.l0 k1 l0_0 (l0_0.length : Int) (wrap64 (x12_1 + 1)) l0_0) else (some false)) = some r := H; have A10 := Aside0.mk A100; clear A100; by_cases c11 : t239 = true
       ·subst c11
        have H1 : (spec_L2Valid.l0 k1 l0_0 (l0_0.length : Int) (wrap64 (x12_1 + 1)) l0_0) = some r := by rw [if_pos rfl] at H; exact H
        clear H; have H := H1; clear H1; have H' := Aside0.mk H; clear H; have p237 : 0 ≤ (x12_1 : Int) := of_decide_eq_true (by first | (with_reducible assumption) | assumption); have q237 : x12_1 < (l0_0.length : Int) := of_decide_eq_true (by first | (with_reducible assumption) | assumption); obtain ⟨ad237, e237, hx237_0, hx237_1, hx237_2, hx237_3⟩ := at_T54 HR0_0.out x12_1 p237 q237
        cases e237
        replace hx237_0 := (HB.out.cell (World.block_lt_of_cell? w _ hx237_0)).trans hx237_0; replace hx237_1 := (HB.out.cell (World.block_lt_of_cell? w _ hx237_1)).trans hx237_1; replace hx237_2 := (HB.out.cell (World.block_lt_of_cell? w _ hx237_2)).trans hx237_2; replace hx237_3 := (HB.out.cell (World.block_lt_of_cell? w _ hx237_3)).trans hx237_3; replace p237 := eq_true p237; replace q237 := eq_true q237; go_wp2_with (first | ((with_reducible refine gate_dst (N := 4) rfl ?_); (try (refine gate_guard (by rfl) ?_; dsimp only)); refine box_event ?hg (N := 4) ?hd (cs := #[.int .i64 0, .int .i64 0, .int .i64 0, .int .i64 0]) (t := 54) ?hr ?_; (case hd => rfl); (case hg => rfl); (case hr => first | (go_simp; done) | (go_simp; rfl)); intro gb238 hg w12 hbox hb; have n0_ := Aside0.mk (blk_below (g := gb236) (o := .cells #[.slice (some ad237) l0_0.length c0_0] 30 (0, 0)) (bkD BK236) hb); have n1_ := Aside0.mk (below_step (hbD HB) hb); have n2_ := Aside0.mk (hbox); have n3_ := Aside0.mk ((by rw [hg]; exact (below_size (hbD HB)) : w.heap.size ≤ gb238)); have n4_ := n3_; have n5_ := Aside0.mk ((by rw [hg]; exact Nat.ne_of_lt (blk_lt (g := gb236) (o := .cells #[.slice (some ad237) l0_0.length c0_0] 30 (0, 0)) (bkD BK236)) : gb236 ≠ gb238)); have n6_ := Aside0.mk ((by rw [hg]; exact Nat.ne_of_gt (blk_lt (g := gb236) (o := .cells #[.slice (some ad237) l0_0.length c0_0] 30 (0, 0)) (bkD BK236)) : gb238 ≠ gb236)); clear BK236 HB; have BK236 := n0_; have HB := n1_; have BK238 := n2_; have GW238 := n3_; have GE238 := n4_; have NB236_238 := n5_; have NB238_236 := n6_; clear n0_ n1_ n2_ n3_ n4_ n5_ n6_ hb hbox hg; have hnb13 := NB238_236.out; have hnc13 := NB236_238.out; have hcz14_0 : w12.cell? ⟨gb238, 0, none⟩ = some (.int .i64 0) := (blk_cell BK238.out 0).trans rfl; have hcz14_1 : w12.cell? ⟨gb238, 1, none⟩ = some (.int .i64 0) := (blk_cell BK238.out 1).trans rfl; have hcz14_2 : w12.cell? ⟨gb238, 2, none⟩ = some (.int .i64 0) := (blk_cell BK238.out 2).trans rfl; have hcz14_3 : w12.cell? ⟨gb238, 3, none⟩ = some (.int .i64 0) := (blk_cell BK238.out 3).trans rfl; have hfz14_0 := blk_frozen BK238.out 0; have hfz14_1 := blk_frozen BK238.out 1; have hfz14_2 := blk_frozen BK238.out 2; have hfz14_3 := blk_frozen BK238.out 3) | ((with_reducible refine gate_callee (f := 73) rfl ?_); refine goesL_ (some 18) rfl rfl Tryd.func73 (by kernel_rfl) rfl #[.agg #[.int .i64 ((rd_T54 l0_0 x12_1).f0.f0), .int .i64 ((rd_T54 l0_0 x12_1).f0.f1), .int .i64 ((rd_T54 l0_0 x12_1).f0.f2)]] rfl (by (try simp only [List.map_toArray, List.map_cons, List.map_nil]); first | done | rfl | (simp only [List.length_drop, List.length_take]; rfl)) ?_; (with_reducible refine (spec_l2PieceOk.calls ((rd_T54 l0_0 x12_1).f0.f0) ((rd_T54 l0_0 x12_1).f0.f1) ((rd_T54 l0_0 x12_1).f0.f2) true _ A10.out).mono ?_); rintro e w15 ⟨rfl, hb⟩; refine ⟨_, rfl, ?_⟩; replace BK236 := Aside0.mk (blk_below (g := gb236) (o := .cells #[.slice (some ad237) l0_0.length c0_0] 30 (0, 0)) (by (with_reducible repeat (first | refine blk_drewN ?_ _ | refine blk_drew ?_ | refine blk_alloc ?_ _)); refine blk_far ?_ NB236_238.out _; (with_reducible repeat (first | refine blk_drewN ?_ _ | refine blk_drew ?_ | refine blk_alloc ?_ _)); refine blk_far ?_ NB236_238.out _; (with_reducible repeat (first | refine blk_drewN ?_ _ | refine blk_drew ?_ | refine blk_alloc ?_ _)); refine blk_far ?_ NB236_238.out _; (with_reducible repeat (first | refine blk_drewN ?_ _ | refine blk_drew ?_ | refine blk_alloc ?_ _)); refine blk_far ?_ NB236_238.out _; (with_reducible repeat (first | refine blk_drewN ?_ _ | refine blk_drew ?_ | refine blk_alloc ?_ _)); exact BK236.out) hb); replace BK238 := Aside0.mk (blk_below (g := gb238) (o := .cells #[.int .i64 ((rd_T54 l0_0 x12_1).f0.f0), .int .i64 ((rd_T54 l0_0 x12_1).f0.f1), .int .i64 ((rd_T54 l0_0 x12_1).f0.f2), .int .i64 ((rd_T54 l0_0 x12_1).f1)] 54 (0, 0)) (by (with_reducible repeat (first | refine blk_drewN ?_ _ | refine blk_drew ?_ | refine blk_alloc ?_ _)); refine blk_put (cs := #[.int .i64 ((rd_T54 l0_0 x12_1).f0.f0), .int .i64 ((rd_T54 l0_0 x12_1).f0.f1), .int .i64 ((rd_T54 l0_0 x12_1).f0.f2), .int .i64 0]) ?_ 3 _ rfl; (with_reducible repeat (first | refine blk_drewN ?_ _ | refine blk_drew ?_ | refine blk_alloc ?_ _)); refine blk_put (cs := #[.int .i64 ((rd_T54 l0_0 x12_1).f0.f0), .int .i64 ((rd_T54 l0_0 x12_1).f0.f1), .int .i64 0, .int .i64 0]) ?_ 2 _ rfl; (with_reducible repeat (first | refine blk_drewN ?_ _ | refine blk_drew ?_ | refine blk_alloc ?_ _)); refine blk_put (cs := #[.int .i64 ((rd_T54 l0_0 x12_1).f0.f0), .int .i64 0, .int .i64 0, .int .i64 0]) ?_ 1 _ rfl; (with_reducible repeat (first | refine blk_drewN ?_ _ | refine blk_drew ?_ | refine blk_alloc ?_ _)); refine blk_put (cs := #[.int .i64 0, .int .i64 0, .int .i64 0, .int .i64 0]) ?_ 0 _ rfl; (with_reducible repeat (first | refine blk_drewN ?_ _ | refine blk_drew ?_ | refine blk_alloc ?_ _)); exact BK238.out) hb); replace HB := Aside0.mk (below_step (hbD HB) hb); (try clear hb); (try clear hb2); (try clear hk); (try clear hi))); go_roundg k1
        case measure => have := HK1.out; omega
        case rel => exact ⟨(wrap64 (x12_1 + 1)), (by first | rfl | (simp; done) | (simp [*]; done)), H', ⟨by have := HK1.out; omega⟩, ⟨by (with_reducible repeat (first | refine blk_drewN ?_ _ | refine blk_drew ?_ | refine blk_alloc ?_ _)); exact BK236.out⟩, ⟨by repeat (first | (with_reducible first | exact HB.out | apply below_alloc | apply pw_below_drewN | apply below_drew1 | refine below_set ?_ GE236.out | refine below_set ?_ GE238.out) | exact HB.out)⟩⟩
       ·replace c11 := Bool.eq_false_iff.mpr c11
        subst c11; have H1 : (some false) = some r := by rw [if_neg (show ¬ (false = true) by decide)] at H; exact H
        clear H; have H := H1; clear H1; obtain rfl := Option.some.inj H; have p237 : 0 ≤ (x12_1 : Int) := of_decide_eq_true (by first | (with_reducible assumption) | assumption); have q237 : x12_1 < (l0_0.length : Int) := of_decide_eq_true (by first | (with_reducible assumption) | assumption); obtain ⟨ad237, e237, hx237_0, hx237_1, hx237_2, hx237_3⟩ := at_T54 HR0_0.out x12_1 p237 q237
        cases e237
        replace hx237_0 := (HB.out.cell (World.block_lt_of_cell? w _ hx237_0)).trans hx237_0; replace hx237_1 := (HB.out.cell (World.block_lt_of_cell? w _ hx237_1)).trans hx237_1; replace hx237_2 := (HB.out.cell (World.block_lt_of_cell? w _ hx237_2)).trans hx237_2; replace hx237_3 := (HB.out.cell (World.block_lt_of_cell? w _ hx237_3)).trans hx237_3; replace p237 := eq_true p237; replace q237 := eq_true q237; go_wp2_with (first | ((with_reducible refine gate_dst (N := 4) rfl ?_); (try (refine gate_guard (by rfl) ?_; dsimp only)); refine box_event ?hg (N := 4) ?hd (cs := #[.int .i64 0, .int .i64 0, .int .i64 0, .int .i64 0]) (t := 54) ?hr ?_; (case hd => rfl); (case hg => rfl); (case hr => first | (go_simp; done) | (go_simp; rfl)); intro gb238 hg w16 hbox hb; have n0_ := Aside0.mk (blk_below (g := gb236) (o := .cells #[.slice (some ad237) l0_0.length c0_0] 30 (0, 0)) (bkD BK236) hb); have n1_ := Aside0.mk (below_step (hbD HB) hb); have n2_ := Aside0.mk (hbox); have n3_ := Aside0.mk ((by rw [hg]; exact (below_size (hbD HB)) : w.heap.size ≤ gb238)); have n4_ := n3_; have n5_ := Aside0.mk ((by rw [hg]; exact Nat.ne_of_lt (blk_lt (g := gb236) (o := .cells #[.slice (some ad237) l0_0.length c0_0] 30 (0, 0)) (bkD BK236)) : gb236 ≠ gb238)); have n6_ := Aside0.mk ((by rw [hg]; exact Nat.ne_of_gt (blk_lt (g := gb236) (o := .cells #[.slice (some ad237) l0_0.length c0_0] 30 (0, 0)) (bkD BK236)) : gb238 ≠ gb236)); clear BK236 HB; have BK236 := n0_; have HB := n1_; have BK238 := n2_; have GW238 := n3_; have GE238 := n4_; have NB236_238 := n5_; have NB238_236 := n6_; clear n0_ n1_ n2_ n3_ n4_ n5_ n6_ hb hbox hg; have hnb17 := NB238_236.out; have hnc17 := NB236_238.out; have hcz18_0 : w16.cell? ⟨gb238, 0, none⟩ = some (.int .i64 0) := (blk_cell BK238.out 0).trans rfl; have hcz18_1 : w16.cell? ⟨gb238, 1, none⟩ = some (.int .i64 0) := (blk_cell BK238.out 1).trans rfl; have hcz18_2 : w16.cell? ⟨gb238, 2, none⟩ = some (.int .i64 0) := (blk_cell BK238.out 2).trans rfl; have hcz18_3 : w16.cell? ⟨gb238, 3, none⟩ = some (.int .i64 0) := (blk_cell BK238.out 3).trans rfl; have hfz18_0 := blk_frozen BK238.out 0; have hfz18_1 := blk_frozen BK238.out 1; have hfz18_2 := blk_frozen BK238.out 2; have hfz18_3 := blk_frozen BK238.out 3) | ((with_reducible refine gate_callee (f := 73) rfl ?_); refine goesL_ (some 18) rfl rfl Tryd.func73 (by kernel_rfl) rfl #[.agg #[.int .i64 ((rd_T54 l0_0 x12_1).f0.f0), .int .i64 ((rd_T54 l0_0 x12_1).f0.f1), .int .i64 ((rd_T54 l0_0 x12_1).f0.f2)]] rfl (by (try simp only [List.map_toArray, List.map_cons, List.map_nil]); first | done | rfl | (simp only [List.length_drop, List.length_take]; rfl)) ?_; (with_reducible refine (spec_l2PieceOk.calls ((rd_T54 l0_0 x12_1).f0.f0) ((rd_T54 l0_0 x12_1).f0.f1) ((rd_T54 l0_0 x12_1).f0.f2) false _ A10.out).mono ?_); rintro e w19 ⟨rfl, hb⟩; refine ⟨_, rfl, ?_⟩; replace BK236 := Aside0.mk (blk_below (g := gb236) (o := .cells #[.slice (some ad237) l0_0.length c0_0] 30 (0, 0)) (by (with_reducible repeat (first | refine blk_drewN ?_ _ | refine blk_drew ?_ | refine blk_alloc ?_ _)); refine blk_far ?_ NB236_238.out _; (with_reducible repeat (first | refine blk_drewN ?_ _ | refine blk_drew ?_ | refine blk_alloc ?_ _)); refine blk_far ?_ NB236_238.out _; (with_reducible repeat (first | refine blk_drewN ?_ _ | refine blk_drew ?_ | refine blk_alloc ?_ _)); refine blk_far ?_ NB236_238.out _; (with_reducible repeat (first | refine blk_drewN ?_ _ | refine blk_drew ?_ | refine blk_alloc ?_ _)); refine blk_far ?_ NB236_238.out _; (with_reducible repeat (first | refine blk_drewN ?_ _ | refine blk_drew ?_ | refine blk_alloc ?_ _)); exact BK236.out) hb); replace BK238 := Aside0.mk (blk_below (g := gb238) (o := .cells #[.int .i64 ((rd_T54 l0_0 x12_1).f0.f0), .int .i64 ((rd_T54 l0_0 x12_1).f0.f1), .int .i64 ((rd_T54 l0_0 x12_1).f0.f2), .int .i64 ((rd_T54 l0_0 x12_1).f1)] 54 (0, 0)) (by (with_reducible repeat (first | refine blk_drewN ?_ _ | refine blk_drew ?_ | refine blk_alloc ?_ _)); refine blk_put (cs := #[.int .i64 ((rd_T54 l0_0 x12_1).f0.f0), .int .i64 ((rd_T54 l0_0 x12_1).f0.f1), .int .i64 ((rd_T54 l0_0 x12_1).f0.f2), .int .i64 0]) ?_ 3 _ rfl; (with_reducible repeat (first | refine blk_drewN ?_ _ | refine blk_drew ?_ | refine blk_alloc ?_ _)); refine blk_put (cs := #[.int .i64 ((rd_T54 l0_0 x12_1).f0.f0), .int .i64 ((rd_T54 l0_0 x12_1).f0.f1), .int .i64 0, .int .i64 0]) ?_ 2 _ rfl; (with_reducible repeat (first | refine blk_drewN ?_ _ | refine blk_drew ?_ | refine blk_alloc ?_ _)); refine blk_put (cs := #[.int .i64 ((rd_T54 l0_0 x12_1).f0.f0), .int .i64 0, .int .i64 0, .int .i64 0]) ?_ 1 _ rfl; (with_reducible repeat (first | refine blk_drewN ?_ _ | refine blk_drew ?_ | refine blk_alloc ?_ _)); refine blk_put (cs := #[.int .i64 0, .int .i64 0, .int .i64 0, .int .i64 0]) ?_ 0 _ rfl; (with_reducible repeat (first | refine blk_drewN ?_ _ | refine blk_drew ?_ | refine blk_alloc ?_ _)); exact BK238.out) hb); replace HB := Aside0.mk (below_step (hbD HB) hb); (try clear hb); (try clear hb2); (try clear hk); (try clear hi))); go_ret; exact ⟨by first | rfl | (simp [errW_none, errW_some] <;> rfl) | (simp [*, errW_none, errW_some] <;> rfl), by repeat (first | (with_reducible first | exact HB.out | apply below_alloc | apply pw_below_drewN | apply below_drew1 | refine below_set ?_ GE236.out | refine below_set ?_ GE238.out) | exact HB.out)⟩
      ·rw [if_neg c9] at H
       exact absurd H (by simp)
     ·rw [if_neg c8] at H
      exact absurd H (by simp)
    ·rw [if_neg c7] at H
     have c7b0 : decide (x12_1 < (l0_0.length : Int)) = false := decide_eq_false c7; clear c7; replace H := Option.bind_eq_some_iff.mp H; obtain ⟨t240, A200, H⟩ := H; replace H : (if t240 ≤ 8192 then ((spec_l2Shape.f k1 l0_0 0 (l0_0.length : Int) 0).bind fun t241 => (some (decide (t241 ≥ 0)))) else (some false)) = some r := H; have A20 := Aside0.mk A200; clear A200; by_cases c21 : t240 ≤ 8192
     ·rw [if_pos c21] at H
      have c21b0 : decide (t240 ≤ 8192) = true := decide_eq_true c21; clear c21; replace H := Option.bind_eq_some_iff.mp H; obtain ⟨t241, A220, H⟩ := H; replace H : (some (decide (t241 ≥ 0))) = some r := H; have A22 := Aside0.mk A220; clear A220; obtain rfl := Option.some.inj H; have hcz23_0 : wr.cell? ⟨gb236, 0, none⟩ = some (.slice A0_0 l0_0.length c0_0) := (blk_cell BK236.out 0).trans rfl; have hfz23_0 := blk_frozen BK236.out 0; go_wp2_with (first | ((with_reducible refine gate_callee (f := 65) rfl ?_); refine goesL_ (some 23) rfl rfl Tryd.func65 (by kernel_rfl) rfl #[.slice A0_0 l0_0.length c0_0] rfl (by (try simp only [List.map_toArray, List.map_cons, List.map_nil]); first | done | rfl | (simp only [List.length_drop, List.length_take]; rfl)) ?_; (with_reducible refine (spec_l2Total.calls k1 _ _ l0_0 t240 _ ?side1 ?side2 A20.out).mono ?_); (case side1 => exact cD (Kd.C_below HR0_0.out HB.out)); (case side2 => exact HC0_0.out); rintro e w24 ⟨rfl, hb⟩; refine ⟨_, rfl, ?_⟩; replace BK236 := bb BK236 hb; replace HB := Aside0.mk (below_step (hbD HB) hb); (try clear hb); (try clear hb2); (try clear hk); (try clear hi); have hcz25_0 : w24.cell? ⟨gb236, 0, none⟩ = some (.slice A0_0 l0_0.length c0_0) := (blk_cell BK236.out 0).trans rfl; have hfz25_0 := blk_frozen BK236.out 0) | (go_at_call 74; (with_reducible refine (spec_l2Shape.calls k1 _ _ l0_0 0 (l0_0.length : Int) 0 t241 _ ?side1 ?side2 A22.out).mono ?_); (case side1 => exact cD (Kd.C_below HR0_0.out HB.out)); (case side2 => exact HC0_0.out); rintro e w' ⟨rfl, ⟨nd, rfl⟩⟩)); go_ret; exact ⟨by first | rfl | (simp [errW_none, errW_some] <;> rfl) | (simp [*, errW_none, errW_some] <;> rfl), by repeat (first | (with_reducible first | exact HB.out | apply below_alloc | apply pw_below_drewN | apply below_drew1 | refine below_set ?_ GE236.out) | exact HB.out)⟩
     ·rw [if_neg c21] at H
      have c21b0 : decide (t240 ≤ 8192) = false := decide_eq_false c21; clear c21; obtain rfl := Option.some.inj H; have hcz26_0 : wr.cell? ⟨gb236, 0, none⟩ = some (.slice A0_0 l0_0.length c0_0) := (blk_cell BK236.out 0).trans rfl; have hfz26_0 := blk_frozen BK236.out 0; go_wp2_with (first | ((with_reducible refine gate_callee (f := 65) rfl ?_); refine goesL_ (some 23) rfl rfl Tryd.func65 (by kernel_rfl) rfl #[.slice A0_0 l0_0.length c0_0] rfl (by (try simp only [List.map_toArray, List.map_cons, List.map_nil]); first | done | rfl | (simp only [List.length_drop, List.length_take]; rfl)) ?_; (with_reducible refine (spec_l2Total.calls k1 _ _ l0_0 t240 _ ?side1 ?side2 A20.out).mono ?_); (case side1 => exact cD (Kd.C_below HR0_0.out HB.out)); (case side2 => exact HC0_0.out); rintro e w27 ⟨rfl, hb⟩; refine ⟨_, rfl, ?_⟩; replace BK236 := bb BK236 hb; replace HB := Aside0.mk (below_step (hbD HB) hb); (try clear hb); (try clear hb2); (try clear hk); (try clear hi))); go_ret; exact ⟨by first | rfl | (simp [errW_none, errW_some] <;> rfl) | (simp [*, errW_none, errW_some] <;> rfl), by repeat (first | (with_reducible first | exact HB.out | apply below_alloc | apply pw_below_drewN | apply below_drew1 | refine below_set ?_ GE236.out) | exact HB.out)⟩

/-! ### impl_TreeJoin: function 29 -/
def impl_TreeJoin.f (l0_0 : List (S54)) (l1_0 : List (S54)) : Option ((List (S54)) × Int) := if l0_0.length ≤ 1048576 ∧ l1_0.length ≤ 1048576 then some ((treeJoinV (l0_0.map cv) (l1_0.map cv)).1.map cb, (treeJoinV (l0_0.map cv) (l1_0.map cv)).2) else none
set_option maxHeartbeats 8000000 in
set_option maxRecDepth 100000 in
theorem impl_TreeJoin.calls (A0_0 : Option Addr) (c0_0 : Nat) (l0_0 : List (S54)) (A1_0 : Option Addr) (c1_0 : Nat) (l1_0 : List (S54)) (r1 : List (S54)) (r2 : Int) (w : World) (hr0_0 : Kd.C k54 w A0_0 l0_0.length l0_0) (hc0_0 : l0_0.length ≤ c0_0) (hr1_0 : Kd.C k54 w A1_0 l1_0.length l1_0) (hc1_0 : l1_0.length ≤ c1_0)  (hgG_ : HG w) (h : impl_TreeJoin.f l0_0 l1_0 = some (r1, r2)) :
  Calls Tryd.prog 29 #[.agg #[.slice A0_0 l0_0.length c0_0], .agg #[.slice A1_0 l1_0.length c1_0]] w (fun e w' => ∃ v0_ : Value, e = .returned (.tuple #[.agg #[v0_], .int .i64 r2]) ∧ Kd.R k54 54 w' w.heap.size (fun _ => True) v0_ r1 ∧ Below w.heap.size w w') := by
 unfold impl_TreeJoin.f at h; by_cases hl : l0_0.length ≤ 1048576 ∧ l1_0.length ≤ 1048576
 ·rw [if_pos hl] at h
  have hh := treeJoin_any w (l0_0.map cv) (l1_0.map cv) A0_0 A1_0 c0_0 c1_0 (by rw [List.length_map]; exact hl.1) (by rw [List.length_map]; exact hl.2) (by rw [List.length_map]; exact C_cv hr0_0) (by rw [List.length_map]; exact C_cv hr1_0) (by rw [List.length_map]; exact hc0_0) (by rw [List.length_map]; exact hc1_0) hgG_; rw [List.length_map, List.length_map] at hh; refine hh.mono ?_; rintro e w' ⟨v, he, hR, hb⟩; simp only [Option.some.injEq, Prod.mk.injEq] at h; obtain ⟨rfl, rfl⟩ := h; exact ⟨v, he, R_cb hR, hb⟩
 ·rw [if_neg hl] at h; cases h

/-! ### spec_l1Src_N: function 30 -/
def spec_l1Src_N.f (s0_0 : List Int) (s0_1 : Int) (s0_2 : Int) (a1 : Int) : Option (Int × Int × Int) := (spec_l1Src_n.f s0_0 s0_1 s0_2 a1).bind fun bt242 => (some (bt242.1, bt242.2.1, bt242.2.2))
set_option maxHeartbeats 8000000 in
set_option maxRecDepth 100000 in
theorem spec_l1Src_N.calls (g : Nat) (s0_0 : List Int) (s0_1 : Int) (s0_2 : Int) (a1 : Int) (r1 : Int) (r2 : Int) (r3 : Int) (w0 w : World) (hI : IsS141 w0 w g s0_0 s0_1 s0_2) (hB : Below w0.heap.size w0 w) (h : spec_l1Src_N.f s0_0 s0_1 s0_2 a1 = some (r1, r2, r3)) :
  Calls Tryd.prog 30 #[.pointer (some ⟨g, 0, none⟩), .int .i64 a1] w fun e w' => e = .returned (.int .i64 r1) ∧ IsS141 w0 w' g s0_0 r2 r3 ∧ Below w0.heap.size w0 w' ∧ KeepBut w w' g none := by
 have HI0 := Aside0.mk hI; have HK := Aside0.mk (KeepBut.refl w g none); have HL := Aside0.mk hB.size; clear hI; have HW0 := Aside0.mk hB.size; have HB := Aside0.mk hB; clear hB; have H : ((spec_l1Src_n.f s0_0 s0_1 s0_2 a1).bind fun bt242 => (some (bt242.1, bt242.2.1, bt242.2.2))) = some (r1, r2, r3) := h; clear h; replace H := Option.bind_eq_some_iff.mp H; obtain ⟨⟨t242, t243, t244⟩, A30, H⟩ := H; replace H : (some (t242, t243, t244)) = some (r1, r2, r3) := H; have A3 := Aside0.mk A30; clear A30; simp only [Option.some.injEq, Prod.mk.injEq] at H; obtain ⟨rfl, rfl, rfl⟩ := H; go_enter Tryd.func30, Tryd.ntmps30; go_wp2_with (first | ((with_reducible refine gate_callee (f := 76) rfl ?_); refine goesL_ (some 7) rfl rfl Tryd.func76 (by kernel_rfl) rfl #[.pointer (some ⟨g, 0, none⟩), .int .i64 a1] rfl (by (try simp only [List.map_toArray, List.map_cons, List.map_nil]); first | done | rfl | (simp only [List.length_drop, List.length_take]; rfl)) ?_; (with_reducible refine (spec_l1Src_n.calls g s0_0 s0_1 s0_2 a1 t242 t243 t244 w0 _ ?side1 ?side2 A3.out).mono ?_); (case side1 => repeat (first | (with_reducible first | exact HI0.out | apply IsS141.alloc | apply IsS141.drewN | apply IsS141.drew | apply IsS141.set_1 | apply IsS141.set_2) | exact HI0.out)); (case side2 => repeat (first | (with_reducible first | exact HB.out | apply below_alloc | apply pw_below_drewN | apply below_drew1 | refine below_set ?_ (IsS141.ge HI0.out)) | exact HB.out)); rintro e w4 ⟨rfl, hi, hb, hk⟩; refine ⟨_, rfl, ?_⟩; replace HK := Aside0.mk (KeepBut.trans (by repeat (first | (with_reducible first | exact HK.out | apply KeepBut.set_ | apply keep_drewN | apply keep_drew | apply keep_alloc) | exact HK.out)) hk (.inl rfl)); replace HB := Aside0.mk (hb); replace HI0 := Aside0.mk (hi); (try clear hb); (try clear hb2); (try clear hk); (try clear hi))); go_ret; exact ⟨by first | rfl | (simp [errW_none, errW_some] <;> rfl) | (simp [*, errW_none, errW_some] <;> rfl), by repeat (first | (with_reducible first | exact HI0.out | apply IsS141.alloc | apply IsS141.drewN | apply IsS141.drew | apply IsS141.set_1 | apply IsS141.set_2) | exact HI0.out), by repeat (first | (with_reducible first | exact HB.out | apply below_alloc | apply pw_below_drewN | apply below_drew1 | refine below_set ?_ (IsS141.ge HI0.out)) | exact HB.out), by repeat (first | (with_reducible first | exact HK.out | apply KeepBut.set_ | apply keep_drewN | apply keep_drew | apply keep_alloc) | exact HK.out)⟩

/-! ### impl_TreeInsert: function 32 -/
def impl_TreeInsert.f (l0_0 : List (S54)) (a1 : Int) (a2_0 : Int) (a2_1 : Int) (a2_2 : Int) : Option ((List (S54)) × Int) := if l0_0.length ≤ 1048576 then some ((treeInsertV (l0_0.map cv) a1 ⟨a2_0, a2_1, a2_2⟩).1.map cb, (treeInsertV (l0_0.map cv) a1 ⟨a2_0, a2_1, a2_2⟩).2) else none
set_option maxHeartbeats 8000000 in
set_option maxRecDepth 100000 in
theorem impl_TreeInsert.calls (A0_0 : Option Addr) (c0_0 : Nat) (l0_0 : List (S54)) (a1 : Int) (a2_0 : Int) (a2_1 : Int) (a2_2 : Int) (r1 : List (S54)) (r2 : Int) (w : World) (hr0_0 : Kd.C k54 w A0_0 l0_0.length l0_0) (hc0_0 : l0_0.length ≤ c0_0)  (hgG_ : HG w) (h : impl_TreeInsert.f l0_0 a1 a2_0 a2_1 a2_2 = some (r1, r2)) :
  Calls Tryd.prog 32 #[.agg #[.slice A0_0 l0_0.length c0_0], .int .i64 a1, .agg #[.int .i64 a2_0, .int .i64 a2_1, .int .i64 a2_2]] w (fun e w' => ∃ v0_ : Value, e = .returned (.tuple #[.agg #[v0_], .int .i64 r2]) ∧ Kd.R k54 54 w' w.heap.size (fun _ => True) v0_ r1 ∧ Below w.heap.size w w') := by
 unfold impl_TreeInsert.f at h; by_cases hl : l0_0.length ≤ 1048576
 ·rw [if_pos hl] at h
  have hh := treeInsert_any w (l0_0.map cv) A0_0 c0_0 a1 ⟨a2_0, a2_1, a2_2⟩ (by rw [List.length_map]; exact hl) (by rw [List.length_map]; exact C_cv hr0_0) (by rw [List.length_map]; exact hc0_0) hgG_; rw [List.length_map] at hh; refine hh.mono ?_; rintro e w' ⟨v, he, hR, hb⟩; simp only [Option.some.injEq, Prod.mk.injEq] at h; obtain ⟨rfl, rfl⟩ := h; exact ⟨v, he, R_cb hR, hb⟩
 ·rw [if_neg hl] at h; cases h

/-! ### impl_TreeDelete: function 33 -/
def impl_TreeDelete.f (l0_0 : List (S54)) (a1 : Int) : Option ((List (S54)) × Int) := if l0_0.length ≤ 1048576 then some ((treeDeleteV (l0_0.map cv) a1).1.map cb, (treeDeleteV (l0_0.map cv) a1).2) else none
set_option maxHeartbeats 8000000 in
set_option maxRecDepth 100000 in
theorem impl_TreeDelete.calls (A0_0 : Option Addr) (c0_0 : Nat) (l0_0 : List (S54)) (a1 : Int) (r1 : List (S54)) (r2 : Int) (w : World) (hr0_0 : Kd.C k54 w A0_0 l0_0.length l0_0) (hc0_0 : l0_0.length ≤ c0_0)  (hgG_ : HG w) (h : impl_TreeDelete.f l0_0 a1 = some (r1, r2)) :
  Calls Tryd.prog 33 #[.agg #[.slice A0_0 l0_0.length c0_0], .int .i64 a1] w (fun e w' => ∃ v0_ : Value, e = .returned (.tuple #[.agg #[v0_], .int .i64 r2]) ∧ Kd.R k54 54 w' w.heap.size (fun _ => True) v0_ r1 ∧ Below w.heap.size w w') := by
 unfold impl_TreeDelete.f at h; by_cases hl : l0_0.length ≤ 1048576
 ·rw [if_pos hl] at h
  have hh := treeDelete_any w (l0_0.map cv) A0_0 c0_0 a1 (by rw [List.length_map]; exact hl) (by rw [List.length_map]; exact C_cv hr0_0) (by rw [List.length_map]; exact hc0_0) hgG_; rw [List.length_map] at hh; refine hh.mono ?_; rintro e w' ⟨v, he, hR, hb⟩; simp only [Option.some.injEq, Prod.mk.injEq] at h; obtain ⟨rfl, rfl⟩ := h; exact ⟨v, he, R_cb hR, hb⟩
 ·rw [if_neg hl] at h; cases h

/-! ### spec_l1Size: function 81 -/
def spec_l1Size.f (l0 : List Int) (a1 : Int) : Option (Int) := if (wrap64 (2 + (wrap64 ((l0.length : Int) / 2)))) > a1 then (some a1) else (some (wrap64 (2 + (wrap64 ((l0.length : Int) / 2)))))
set_option maxHeartbeats 8000000 in
set_option maxRecDepth 100000 in
theorem spec_l1Size.calls (A0 : Option Addr) (c0 : Nat) (l0 : List Int) (a1 : Int) (r : Int) (w : World) (hr0 : Kd.C (Kd.int .u8) w A0 l0.length l0) (hc0 : l0.length ≤ c0) (h : spec_l1Size.f l0 a1 = some r) :
  Calls Tryd.prog 81 #[.slice A0 l0.length c0, .int .i64 a1] w fun e w' => e = .returned (.int .i64 r) ∧ Drawn0 w w' := by
 have HR0 := Aside0.mk hr0; have HC0 := Aside0.mk hc0; clear hr0 hc0; have H : (if (wrap64 (2 + (wrap64 ((l0.length : Int) / 2)))) > a1 then (some a1) else (some (wrap64 (2 + (wrap64 ((l0.length : Int) / 2)))))) = some r := h; clear h; by_cases c3 : (wrap64 (2 + (wrap64 ((l0.length : Int) / 2)))) > a1
 ·rw [if_pos c3] at H
  have c3b0 : decide (a1 < (wrap64 (2 + (wrap64 ((l0.length : Int) / 2))))) = true := decide_eq_true c3; clear c3; obtain rfl := Option.some.inj H; go_enter Tryd.func81, Tryd.ntmps81; go_wp2; go_ret; exact ⟨by first | rfl | (simp; done) | (simp [*]; done), by repeat (first | exact Drawn0.refl _ | apply Drawn0.step)⟩
 ·rw [if_neg c3] at H
  have c3b0 : decide (a1 < (wrap64 (2 + (wrap64 ((l0.length : Int) / 2))))) = false := decide_eq_false c3; clear c3; obtain rfl := Option.some.inj H; go_enter Tryd.func81, Tryd.ntmps81; go_wp2; go_ret; exact ⟨by first | rfl | (simp; done) | (simp [*]; done), by repeat (first | exact Drawn0.refl _ | apply Drawn0.step)⟩

/-! ### spec_L1Size: function 34 -/
def spec_L1Size.f (l0 : List Int) (a1 : Int) : Option (Int) := (spec_l1Size.f l0 a1).bind fun t245 => (some t245)
set_option maxHeartbeats 8000000 in
set_option maxRecDepth 100000 in
theorem spec_L1Size.calls (A0 : Option Addr) (c0 : Nat) (l0 : List Int) (a1 : Int) (r : Int) (w : World) (hr0 : Kd.C (Kd.int .u8) w A0 l0.length l0) (hc0 : l0.length ≤ c0) (h : spec_L1Size.f l0 a1 = some r) :
  Calls Tryd.prog 34 #[.slice A0 l0.length c0, .int .i64 a1] w fun e w' => e = .returned (.int .i64 r) ∧ Drawn0 w w' := by
 have HR0 := Aside0.mk hr0; have HC0 := Aside0.mk hc0; clear hr0 hc0; have H : ((spec_l1Size.f l0 a1).bind fun t245 => (some t245)) = some r := h; clear h; replace H := Option.bind_eq_some_iff.mp H; obtain ⟨t245, A30, H⟩ := H; replace H : (some t245) = some r := H; have A3 := Aside0.mk A30; clear A30; obtain rfl := Option.some.inj H; go_enter Tryd.func34, Tryd.ntmps34; go_wp2_with (first | ((with_reducible refine gate_callee (f := 81) rfl ?_); refine goesL_ (some 7) rfl rfl Tryd.func81 (by kernel_rfl) rfl #[.slice A0 l0.length c0, .int .i64 a1] rfl (by (try simp only [List.map_toArray, List.map_cons, List.map_nil]); first | done | rfl | (simp only [List.length_drop, List.length_take]; rfl)) ?_; (with_reducible refine (spec_l1Size.calls _ _ l0 a1 t245 _ ?side1 ?side2 A3.out).mono ?_); (case side1 => repeat (first | exact HR0.out | (with_reducible refine Kd.C_alloc ?_ _) | (with_reducible refine Kd.C_drewN ?_ _) | (with_reducible refine Kd.C_drew ?_))); (case side2 => exact HC0.out); rintro e w' ⟨rfl, ⟨nd, rfl⟩⟩; refine ⟨_, rfl, ?_⟩)); go_ret; exact ⟨by first | rfl | (simp; done) | (simp [*]; done), by repeat (first | exact Drawn0.refl _ | apply Drawn0.step)⟩

end Go.Proofs.YtciabhncmdpeeaaDoor.QFnTreeScript
