/- What the law FnExactPieceInsert reaches: each function as a plain function, and that the machine's call does it (written by a program). The condition, where there is one: errors.errorType reads as laid. -/
import Derived.Test.YtnomidpnofhjdaaGreatDoorQFnExactPieceInsertx0
import Derived.Test.YtnomidpnofhjdaaGreatDoorSq
namespace Go.Proofs.YtnomidpnofhjdaaGreatDoor.QFnExactPieceInsert
open Go.Proofs.YtnomidpnofhjdaaGreatDoor.Er Go.Proofs.YtnomidpnofhjdaaGreatDoor.Sq
open Go.RowKit Go.Proofs.YtnomidpnofhjdaaGreatDoorW.PrintWords Go.Proofs.YtnomidpnofhjdaaGreatDoorW.PrintLast Go.Proofs.YtnomidpnofhjdaaGreatDoorW.PrintMore
set_option maxRecDepth 100000
attribute [local go_sem] max2_int min2_int max_two min_two max_three min_three max_four min_four   -- for this text's walks alone
set_option linter.unusedVariables false
set_option linter.unusedSimpArgs false

def laws_heldInt32S.l0 : Nat → List Int → Int → Int → Option (Int)
 | 0, _, _, _ => none
 | k + 1, x0, x1, x5 => if x5 < (x0.length : Int) then (if 0 ≤ x5 then (if (rd x0 x5) = (wrap32 (x1)) then (laws_heldInt32S.l0 k x0 (wrap64 (x1 + 1)) (wrap64 (x5 + 1))) else (some (-1))) else (none)) else (some x1)
def laws_heldInt32S.f (k : Nat) (l0 : List Int) (a1 : Int) : Option (Int) := laws_heldInt32S.l0 k l0 a1 0
theorem laws_heldInt32S.mono_l : ∀ k, (∀ y0 y1 y2, LeO (laws_heldInt32S.l0 k y0 y1 y2) (laws_heldInt32S.l0 (k + 1) y0 y1 y2))
 | 0 => fun _ _ _ r h => by simp [laws_heldInt32S.l0] at h
 | k + 1 => by
  have ih0 := laws_heldInt32S.mono_l k
  ·intro y0 y1 y2
   unfold laws_heldInt32S.l0
   repeat' first
   | (with_reducible first | exact ih0 _ _ _ | exact lR _ | exact lN _ | refine lI ?_ ?_ | refine lB ?_ (fun _ => ?_)) | exact ih0 _ _ _ | exact lN _ | refine lI ?_ ?_ | refine lB ?_ (fun _ => ?_)
theorem laws_heldInt32S.mono : ∀ a0 a1 k, LeO (laws_heldInt32S.f k a0 a1) (laws_heldInt32S.f (k + 1) a0 a1) := by
 intro a0 a1 k; have ih0 := laws_heldInt32S.mono_l k; unfold laws_heldInt32S.f
 repeat' first
   | (with_reducible first | exact ih0 _ _ _ | exact lR _ | exact lN _ | refine lI ?_ ?_ | refine lB ?_ (fun _ => ?_)) | exact ih0 _ _ _ | exact lN _ | refine lI ?_ ?_ | refine lB ?_ (fun _ => ?_)
set_option maxHeartbeats 8000000 in
theorem laws_heldInt32S.calls (k : Nat) (A0 : Option Addr) (c0 : Nat) (l0 : List Int) (a1 : Int) (r : Int) (w : World) (hr0 : Kd.C (Kd.int .i32) w A0 l0.length l0) (hc0 : l0.length ≤ c0) (h : laws_heldInt32S.f k l0 a1 = some r) :
  Calls Tryz.prog 41 #[.slice A0 l0.length c0, .int .i64 a1] w fun e w' => e = .returned (.int .i64 r) ∧ Drawn0 w w' := by
 have HR0 := Aside0.mk hr0; have HC0 := Aside0.mk hc0; clear hr0 hc0; have H : (laws_heldInt32S.l0 k l0 a1 0) = some r := h; clear h; have H' := Aside0.mk H; clear H; go_enter Tryz.func41, Tryz.ntmps41; go_wp2; go_loopg [1, 5] k (fun kq v1 v5 w' => ∃ (x1_1 : Int) (x5_1 : Int), v1 = .int .i64 x1_1 ∧ v5 = .int .i64 x5_1 ∧ Aside0 (laws_heldInt32S.l0 kq l0 x1_1 x5_1 = some r) ∧ Aside0 (kq ≤ k) ∧ Drawn0 w w')
 case atStart => exact ⟨(a1), (0), eV, eV, H', ⟨Nat.le_refl _⟩, by repeat (first | exact Drawn0.refl _ | apply Drawn0.step)⟩
 case round =>
  clear H'; (try clear p2); obtain ⟨x1_1, x5_1, rfl, rfl, HA, HK1, ⟨m1, rfl⟩⟩ := hrel
  cases gk with
  | zero => exact absurd HA.out (by simp [laws_heldInt32S.l0])
  | succ k1 =>
   have H := HA.out; clear HA; simp only [laws_heldInt32S.l0] at H; by_cases c3 : x5_1 < (l0.length : Int)
   ·rw [if_pos c3] at H
    have c3b0 : decide (x5_1 < (l0.length : Int)) = true := decide_eq_true c3; clear c3; by_cases c4 : 0 ≤ x5_1
    ·rw [if_pos c4] at H
     have c4b0 : decide (0 ≤ x5_1) = true := decide_eq_true c4; clear c4; by_cases c5 : (rd l0 x5_1) = (wrap32 (x1_1))
     ·rw [if_pos c5] at H
      have c5b0 : ((rd l0 x5_1) == (wrap32 (x1_1))) = true := beq_iff_eq.mpr c5; have c5b1 : ((rd l0 x5_1) != (wrap32 (x1_1))) = false := bne_eq_false_iff_eq.mpr c5; clear c5; have H' := Aside0.mk H; clear H; have p366 : 0 ≤ (x5_1 : Int) := oD; have q366 : x5_1 < (l0.length : Int) := oD; obtain ⟨ad366, e366, hx366_0⟩ := Kd.at_int HR0.out x5_1 p366 q366
      cases e366
      replace p366 := eq_true p366; replace q366 := eq_true q366; go_wp2; go_roundg k1
      case measure => have := HK1.out; omega
      case rel => exact ⟨(wrap64 (x1_1 + 1)), (wrap64 (x5_1 + 1)), eV, eV, H', ⟨by have := HK1.out; omega⟩, by repeat (first | exact Drawn0.refl _ | apply Drawn0.step)⟩
     ·rw [if_neg c5] at H
      have c5b0 : ((rd l0 x5_1) == (wrap32 (x1_1))) = false := beq_eq_false_iff_ne.mpr c5; have c5b1 : ((rd l0 x5_1) != (wrap32 (x1_1))) = true := bne_iff_ne.mpr c5; obtain rfl := Option.some.inj H; have p366 : 0 ≤ (x5_1 : Int) := oD; have q366 : x5_1 < (l0.length : Int) := oD; obtain ⟨ad366, e366, hx366_0⟩ := Kd.at_int HR0.out x5_1 p366 q366
      cases e366
      replace p366 := eq_true p366; replace q366 := eq_true q366; go_wp2; go_ret; exact ⟨by first | rfl | (simp; done) | (simp [*]; done), by repeat (first | exact Drawn0.refl _ | apply Drawn0.step)⟩
    ·rw [if_neg c4] at H
     exact absurd H (by simp)
   ·rw [if_neg c3] at H
    have c3b0 : decide (x5_1 < (l0.length : Int)) = false := decide_eq_false c3; clear c3; obtain rfl := Option.some.inj H; go_wp2; go_ret; exact ⟨by first | rfl | (simp; done) | (simp [*]; done), by repeat (first | exact Drawn0.refl _ | apply Drawn0.step)⟩

def laws_heldItemS.l0 : Nat → List (S86) → Int → Int → Option (Int)
 | 0, _, _, _ => none
 | k + 1, x0, x1, x5 => if x5 < (x0.length : Int) then (if 0 ≤ x5 then (if ((rd_T86 x0 x5).f0.f0) = x1 then (if ((rd_T86 x0 x5).f0.f1) = (wrap64 (x1 + 1)) then (if ((rd_T86 x0 x5).f0.f2) = (wrap64 ((wrap64 (x1 + 1)) + 1)) then (if ((rd_T86 x0 x5).f1) = (wrap64 ((wrap64 ((wrap64 (x1 + 1)) + 1)) + 1)) then (laws_heldItemS.l0 k x0 (wrap64 ((wrap64 ((wrap64 ((wrap64 (x1 + 1)) + 1)) + 1)) + 1)) (wrap64 (x5 + 1))) else (some (-1))) else (some (-1))) else (some (-1))) else (some (-1))) else (none)) else (some x1)
def laws_heldItemS.f (k : Nat) (l0 : List (S86)) (a1 : Int) : Option (Int) := laws_heldItemS.l0 k l0 a1 0
theorem laws_heldItemS.mono_l : ∀ k, (∀ y0 y1 y2, LeO (laws_heldItemS.l0 k y0 y1 y2) (laws_heldItemS.l0 (k + 1) y0 y1 y2))
 | 0 => fun _ _ _ r h => by simp [laws_heldItemS.l0] at h
 | k + 1 => by
  have ih0 := laws_heldItemS.mono_l k
  ·intro y0 y1 y2
   unfold laws_heldItemS.l0
   repeat' first
   | (with_reducible first | exact ih0 _ _ _ | exact lR _ | exact lN _ | refine lI ?_ ?_ | refine lB ?_ (fun _ => ?_)) | exact ih0 _ _ _ | exact lN _ | refine lI ?_ ?_ | refine lB ?_ (fun _ => ?_)
theorem laws_heldItemS.mono : ∀ a0 a1 k, LeO (laws_heldItemS.f k a0 a1) (laws_heldItemS.f (k + 1) a0 a1) := by
 intro a0 a1 k; have ih0 := laws_heldItemS.mono_l k; unfold laws_heldItemS.f
 repeat' first
   | (with_reducible first | exact ih0 _ _ _ | exact lR _ | exact lN _ | refine lI ?_ ?_ | refine lB ?_ (fun _ => ?_)) | exact ih0 _ _ _ | exact lN _ | refine lI ?_ ?_ | refine lB ?_ (fun _ => ?_)
set_option maxHeartbeats 8000000 in
theorem laws_heldItemS.calls (k : Nat) (A0 : Option Addr) (c0 : Nat) (l0 : List (S86)) (a1 : Int) (r : Int) (w : World) (hr0 : Kd.C k86 w A0 l0.length l0) (hc0 : l0.length ≤ c0) (h : laws_heldItemS.f k l0 a1 = some r) :
  Calls Tryz.prog 75 #[.slice A0 l0.length c0, .int .i64 a1] w fun e w' => e = .returned (.int .i64 r) ∧ Drawn0 w w' := by
 have HR0 := Aside0.mk hr0; have HC0 := Aside0.mk hc0; clear hr0 hc0; have H : (laws_heldItemS.l0 k l0 a1 0) = some r := h; clear h; have H' := Aside0.mk H; clear H; go_enter Tryz.func75, Tryz.ntmps75; go_wp2; go_loopg [1, 5] k (fun kq v1 v5 w' => ∃ (x1_1 : Int) (x5_1 : Int), v1 = .int .i64 x1_1 ∧ v5 = .int .i64 x5_1 ∧ Aside0 (laws_heldItemS.l0 kq l0 x1_1 x5_1 = some r) ∧ Aside0 (kq ≤ k) ∧ Drawn0 w w')
 case atStart => exact ⟨(a1), (0), eV, eV, H', ⟨Nat.le_refl _⟩, by repeat (first | exact Drawn0.refl _ | apply Drawn0.step)⟩
 case round =>
  clear H'; (try clear p2); obtain ⟨x1_1, x5_1, rfl, rfl, HA, HK1, ⟨m1, rfl⟩⟩ := hrel
  cases gk with
  | zero => exact absurd HA.out (by simp [laws_heldItemS.l0])
  | succ k1 =>
   have H := HA.out; clear HA; simp only [laws_heldItemS.l0] at H; by_cases c3 : x5_1 < (l0.length : Int)
   ·rw [if_pos c3] at H
    have c3b0 : decide (x5_1 < (l0.length : Int)) = true := decide_eq_true c3; clear c3; by_cases c4 : 0 ≤ x5_1
    ·rw [if_pos c4] at H
     have c4b0 : decide (0 ≤ x5_1) = true := decide_eq_true c4; clear c4; by_cases c5 : ((rd_T86 l0 x5_1).f0.f0) = x1_1
     ·rw [if_pos c5] at H
      have c5b0 : (((rd_T86 l0 x5_1).f0.f0) == x1_1) = true := beq_iff_eq.mpr c5; have c5b1 : (((rd_T86 l0 x5_1).f0.f0) != x1_1) = false := bne_eq_false_iff_eq.mpr c5; clear c5; by_cases c6 : ((rd_T86 l0 x5_1).f0.f1) = (wrap64 (x1_1 + 1))
      ·rw [if_pos c6] at H
       have c6b0 : (((rd_T86 l0 x5_1).f0.f1) == (wrap64 (x1_1 + 1))) = true := beq_iff_eq.mpr c6; have c6b1 : (((rd_T86 l0 x5_1).f0.f1) != (wrap64 (x1_1 + 1))) = false := bne_eq_false_iff_eq.mpr c6; clear c6; by_cases c7 : ((rd_T86 l0 x5_1).f0.f2) = (wrap64 ((wrap64 (x1_1 + 1)) + 1))
       ·rw [if_pos c7] at H
        have c7b0 : (((rd_T86 l0 x5_1).f0.f2) == (wrap64 ((wrap64 (x1_1 + 1)) + 1))) = true := beq_iff_eq.mpr c7; have c7b1 : (((rd_T86 l0 x5_1).f0.f2) != (wrap64 ((wrap64 (x1_1 + 1)) + 1))) = false := bne_eq_false_iff_eq.mpr c7; clear c7; by_cases c8 : ((rd_T86 l0 x5_1).f1) = (wrap64 ((wrap64 ((wrap64 (x1_1 + 1)) + 1)) + 1))
        ·rw [if_pos c8] at H
         have c8b0 : (((rd_T86 l0 x5_1).f1) == (wrap64 ((wrap64 ((wrap64 (x1_1 + 1)) + 1)) + 1))) = true := beq_iff_eq.mpr c8; have c8b1 : (((rd_T86 l0 x5_1).f1) != (wrap64 ((wrap64 ((wrap64 (x1_1 + 1)) + 1)) + 1))) = false := bne_eq_false_iff_eq.mpr c8; clear c8; have H' := Aside0.mk H; clear H; have p367 : 0 ≤ (x5_1 : Int) := oD; have q367 : x5_1 < (l0.length : Int) := oD; obtain ⟨ad367, e367, hx367_0, hx367_1, hx367_2, hx367_3⟩ := at_T86 HR0.out x5_1 p367 q367
         cases e367
         replace p367 := eq_true p367; replace q367 := eq_true q367; have p368 : 0 ≤ (x5_1 : Int) := oD; have q368 : x5_1 < (l0.length : Int) := oD; obtain ⟨ad368, e368, hx368_0, hx368_1, hx368_2, hx368_3⟩ := at_T86 HR0.out x5_1 p368 q368; obtain rfl : ad367 = ad368 := (by injection e368); replace p368 := eq_true p368; replace q368 := eq_true q368; have p369 : 0 ≤ (x5_1 : Int) := oD; have q369 : x5_1 < (l0.length : Int) := oD; obtain ⟨ad369, e369, hx369_0, hx369_1, hx369_2, hx369_3⟩ := at_T86 HR0.out x5_1 p369 q369; obtain rfl : ad367 = ad369 := (by injection e369); replace p369 := eq_true p369; replace q369 := eq_true q369; have p370 : 0 ≤ (x5_1 : Int) := oD; have q370 : x5_1 < (l0.length : Int) := oD; obtain ⟨ad370, e370, hx370_0, hx370_1, hx370_2, hx370_3⟩ := at_T86 HR0.out x5_1 p370 q370; obtain rfl : ad367 = ad370 := (by injection e370); replace p370 := eq_true p370; replace q370 := eq_true q370; go_wp2; go_roundg k1
         case measure => have := HK1.out; omega
         case rel => exact ⟨(wrap64 ((wrap64 ((wrap64 ((wrap64 (x1_1 + 1)) + 1)) + 1)) + 1)), (wrap64 (x5_1 + 1)), eV, eV, H', ⟨by have := HK1.out; omega⟩, by repeat (first | exact Drawn0.refl _ | apply Drawn0.step)⟩
        ·rw [if_neg c8] at H
         have c8b0 : (((rd_T86 l0 x5_1).f1) == (wrap64 ((wrap64 ((wrap64 (x1_1 + 1)) + 1)) + 1))) = false := beq_eq_false_iff_ne.mpr c8; have c8b1 : (((rd_T86 l0 x5_1).f1) != (wrap64 ((wrap64 ((wrap64 (x1_1 + 1)) + 1)) + 1))) = true := bne_iff_ne.mpr c8; obtain rfl := Option.some.inj H; have p367 : 0 ≤ (x5_1 : Int) := oD; have q367 : x5_1 < (l0.length : Int) := oD; obtain ⟨ad367, e367, hx367_0, hx367_1, hx367_2, hx367_3⟩ := at_T86 HR0.out x5_1 p367 q367
         cases e367
         replace p367 := eq_true p367; replace q367 := eq_true q367; have p368 : 0 ≤ (x5_1 : Int) := oD; have q368 : x5_1 < (l0.length : Int) := oD; obtain ⟨ad368, e368, hx368_0, hx368_1, hx368_2, hx368_3⟩ := at_T86 HR0.out x5_1 p368 q368; obtain rfl : ad367 = ad368 := (by injection e368); replace p368 := eq_true p368; replace q368 := eq_true q368; have p369 : 0 ≤ (x5_1 : Int) := oD; have q369 : x5_1 < (l0.length : Int) := oD; obtain ⟨ad369, e369, hx369_0, hx369_1, hx369_2, hx369_3⟩ := at_T86 HR0.out x5_1 p369 q369; obtain rfl : ad367 = ad369 := (by injection e369); replace p369 := eq_true p369; replace q369 := eq_true q369; have p370 : 0 ≤ (x5_1 : Int) := oD; have q370 : x5_1 < (l0.length : Int) := oD; obtain ⟨ad370, e370, hx370_0, hx370_1, hx370_2, hx370_3⟩ := at_T86 HR0.out x5_1 p370 q370; obtain rfl : ad367 = ad370 := (by injection e370); replace p370 := eq_true p370; replace q370 := eq_true q370; go_wp2; go_ret; exact ⟨by first | rfl | (simp; done) | (simp [*]; done), by repeat (first | exact Drawn0.refl _ | apply Drawn0.step)⟩
       ·rw [if_neg c7] at H
        have c7b0 : (((rd_T86 l0 x5_1).f0.f2) == (wrap64 ((wrap64 (x1_1 + 1)) + 1))) = false := beq_eq_false_iff_ne.mpr c7; have c7b1 : (((rd_T86 l0 x5_1).f0.f2) != (wrap64 ((wrap64 (x1_1 + 1)) + 1))) = true := bne_iff_ne.mpr c7; obtain rfl := Option.some.inj H; have p367 : 0 ≤ (x5_1 : Int) := oD; have q367 : x5_1 < (l0.length : Int) := oD; obtain ⟨ad367, e367, hx367_0, hx367_1, hx367_2, hx367_3⟩ := at_T86 HR0.out x5_1 p367 q367
        cases e367
        replace p367 := eq_true p367; replace q367 := eq_true q367; have p368 : 0 ≤ (x5_1 : Int) := oD; have q368 : x5_1 < (l0.length : Int) := oD; obtain ⟨ad368, e368, hx368_0, hx368_1, hx368_2, hx368_3⟩ := at_T86 HR0.out x5_1 p368 q368; obtain rfl : ad367 = ad368 := (by injection e368); replace p368 := eq_true p368; replace q368 := eq_true q368; have p369 : 0 ≤ (x5_1 : Int) := oD; have q369 : x5_1 < (l0.length : Int) := oD; obtain ⟨ad369, e369, hx369_0, hx369_1, hx369_2, hx369_3⟩ := at_T86 HR0.out x5_1 p369 q369; obtain rfl : ad367 = ad369 := (by injection e369); replace p369 := eq_true p369; replace q369 := eq_true q369; go_wp2; go_ret; exact ⟨by first | rfl | (simp; done) | (simp [*]; done), by repeat (first | exact Drawn0.refl _ | apply Drawn0.step)⟩
      ·rw [if_neg c6] at H
       have c6b0 : (((rd_T86 l0 x5_1).f0.f1) == (wrap64 (x1_1 + 1))) = false := beq_eq_false_iff_ne.mpr c6; have c6b1 : (((rd_T86 l0 x5_1).f0.f1) != (wrap64 (x1_1 + 1))) = true := bne_iff_ne.mpr c6; obtain rfl := Option.some.inj H; have p367 : 0 ≤ (x5_1 : Int) := oD; have q367 : x5_1 < (l0.length : Int) := oD; obtain ⟨ad367, e367, hx367_0, hx367_1, hx367_2, hx367_3⟩ := at_T86 HR0.out x5_1 p367 q367
       cases e367
       replace p367 := eq_true p367; replace q367 := eq_true q367; have p368 : 0 ≤ (x5_1 : Int) := oD; have q368 : x5_1 < (l0.length : Int) := oD; obtain ⟨ad368, e368, hx368_0, hx368_1, hx368_2, hx368_3⟩ := at_T86 HR0.out x5_1 p368 q368; obtain rfl : ad367 = ad368 := (by injection e368); replace p368 := eq_true p368; replace q368 := eq_true q368; go_wp2; go_ret; exact ⟨by first | rfl | (simp; done) | (simp [*]; done), by repeat (first | exact Drawn0.refl _ | apply Drawn0.step)⟩
     ·rw [if_neg c5] at H
      have c5b0 : (((rd_T86 l0 x5_1).f0.f0) == x1_1) = false := beq_eq_false_iff_ne.mpr c5; have c5b1 : (((rd_T86 l0 x5_1).f0.f0) != x1_1) = true := bne_iff_ne.mpr c5; obtain rfl := Option.some.inj H; have p367 : 0 ≤ (x5_1 : Int) := oD; have q367 : x5_1 < (l0.length : Int) := oD; obtain ⟨ad367, e367, hx367_0, hx367_1, hx367_2, hx367_3⟩ := at_T86 HR0.out x5_1 p367 q367
      cases e367
      replace p367 := eq_true p367; replace q367 := eq_true q367; go_wp2; go_ret; exact ⟨by first | rfl | (simp; done) | (simp [*]; done), by repeat (first | exact Drawn0.refl _ | apply Drawn0.step)⟩
    ·rw [if_neg c4] at H
     exact absurd H (by simp)
   ·rw [if_neg c3] at H
    have c3b0 : decide (x5_1 < (l0.length : Int)) = false := decide_eq_false c3; clear c3; obtain rfl := Option.some.inj H; go_wp2; go_ret; exact ⟨by first | rfl | (simp; done) | (simp [*]; done), by repeat (first | exact Drawn0.refl _ | apply Drawn0.step)⟩

def laws_heldTree.f (k : Nat) (l0_0 : List (S86)) (a1 : Int) : Option (Int) := (laws_heldItemS.f k l0_0 a1).bind fun t372 => (if t372 < 0 then (some (-1)) else (some t372))
theorem laws_heldTree.mono : ∀ a0 a1 k, LeO (laws_heldTree.f k a0 a1) (laws_heldTree.f (k + 1) a0 a1) := by
 intro a0 a1 k; unfold laws_heldTree.f
 repeat' first
   | (with_reducible first | exact laws_heldItemS.mono _ _ _ | exact lR _ | exact lN _ | refine lI ?_ ?_ | refine lB ?_ (fun _ => ?_)) | exact laws_heldItemS.mono _ _ _ | exact lN _ | refine lI ?_ ?_ | refine lB ?_ (fun _ => ?_)
set_option maxHeartbeats 8000000 in
theorem laws_heldTree.calls (k : Nat) (A0_0 : Option Addr) (c0_0 : Nat) (l0_0 : List (S86)) (a1 : Int) (r : Int) (w : World) (hr0_0 : Kd.C k86 w A0_0 l0_0.length l0_0) (hc0_0 : l0_0.length ≤ c0_0) (h : laws_heldTree.f k l0_0 a1 = some r) :
  Calls Tryz.prog 42 #[.agg #[.slice A0_0 l0_0.length c0_0], .int .i64 a1] w fun e w' => e = .returned (.int .i64 r) ∧ Below w.heap.size w w' := by
 have hu31 := Tryz.underlying31; have HR0_0 := Aside0.mk hr0_0; have HC0_0 := Aside0.mk hc0_0; clear hr0_0 hc0_0; have HB := Aside0.mk (Below.refl w.heap.size w); have H : ((laws_heldItemS.f k l0_0 a1).bind fun t372 => (if t372 < 0 then (some (-1)) else (some t372))) = some r := h; clear h; replace H := Option.bind_eq_some_iff.mp H; obtain ⟨t372, A30, H⟩ := H; replace H : (if t372 < 0 then (some (-1)) else (some t372)) = some r := H; have A3 := Aside0.mk A30; clear A30; by_cases c4 : t372 < 0
 ·rw [if_pos c4] at H
  have c4b0 : decide (t372 < 0) = true := decide_eq_true c4; clear c4; obtain rfl := Option.some.inj H; go_enter Tryz.func42, Tryz.ntmps42; go_wp2_with (first | ((with_reducible refine gate_dst (N := 2) rfl ?_); refine bxE (N := 2) (cs := #[.slice A0_0 l0_0.length c0_0]) (t := 31) ?_; intro gb371 hg w5 hbox hb; have BK371 := Aside0.mk (hbox); have GW371 := gS hg HB; have GE371 := GW371; replace HB := bS HB hb; clear hb hbox hg; have hcz6_0 := cq (v := .slice A0_0 l0_0.length c0_0) BK371 0; have hfz6_0 := fz BK371 0) | ((with_reducible refine gate_callee (f := 75) rfl ?_); refine goA (some 8) Tryz.func75 #[.slice A0_0 l0_0.length c0_0, .int .i64 a1] ?_; (with_reducible refine (laws_heldItemS.calls k _ _ l0_0 a1 t372 _ ?side1 ?side2 A3.out).mono ?_); (case side1 => exact cD (Kd.C_below HR0_0.out HB.out)); (case side2 => exact HC0_0.out); rintro e w' ⟨rfl, ⟨nd, rfl⟩⟩; refine ⟨_, rfl, ?_⟩)); go_ret; exact ⟨eW, hbD HB⟩
 ·rw [if_neg c4] at H
  have c4b0 : decide (t372 < 0) = false := decide_eq_false c4; clear c4; obtain rfl := Option.some.inj H; go_enter Tryz.func42, Tryz.ntmps42; go_wp2_with (first | ((with_reducible refine gate_dst (N := 2) rfl ?_); refine bxE (N := 2) (cs := #[.slice A0_0 l0_0.length c0_0]) (t := 31) ?_; intro gb371 hg w7 hbox hb; have BK371 := Aside0.mk (hbox); have GW371 := gS hg HB; have GE371 := GW371; replace HB := bS HB hb; clear hb hbox hg; have hcz8_0 := cq (v := .slice A0_0 l0_0.length c0_0) BK371 0; have hfz8_0 := fz BK371 0) | ((with_reducible refine gate_callee (f := 75) rfl ?_); refine goA (some 8) Tryz.func75 #[.slice A0_0 l0_0.length c0_0, .int .i64 a1] ?_; (with_reducible refine (laws_heldItemS.calls k _ _ l0_0 a1 t372 _ ?side1 ?side2 A3.out).mono ?_); (case side1 => exact cD (Kd.C_below HR0_0.out HB.out)); (case side2 => exact HC0_0.out); rintro e w' ⟨rfl, ⟨nd, rfl⟩⟩; refine ⟨_, rfl, ?_⟩)); go_ret; exact ⟨eW, hbD HB⟩

def laws_heldPieceBuf.f (k : Nat) (l0_0 : List Int) (l0_1 : List (S86)) (a1 : Int) : Option (Int) := (laws_heldInt32S.f k l0_0 a1).bind fun t374 => (if t374 < 0 then (some (-1)) else ((laws_heldTree.f k l0_1 t374).bind fun t375 => (if t375 < 0 then (some (-1)) else (some t375))))
theorem laws_heldPieceBuf.mono : ∀ a0 a1 a2 k, LeO (laws_heldPieceBuf.f k a0 a1 a2) (laws_heldPieceBuf.f (k + 1) a0 a1 a2) := by
 intro a0 a1 a2 k; unfold laws_heldPieceBuf.f
 repeat' first
   | (with_reducible first | exact laws_heldInt32S.mono _ _ _ | exact laws_heldTree.mono _ _ _ | exact lR _ | exact lN _ | refine lI ?_ ?_ | refine lB ?_ (fun _ => ?_)) | exact laws_heldInt32S.mono _ _ _ | exact laws_heldTree.mono _ _ _ | exact lN _ | refine lI ?_ ?_ | refine lB ?_ (fun _ => ?_)
set_option maxHeartbeats 8000000 in
theorem laws_heldPieceBuf.calls (k : Nat) (A0_0 : Option Addr) (c0_0 : Nat) (l0_0 : List Int) (A0_1 : Option Addr) (c0_1 : Nat) (l0_1 : List (S86)) (a1 : Int) (r : Int) (w : World) (hr0_0 : Kd.C (Kd.int .i32) w A0_0 l0_0.length l0_0) (hc0_0 : l0_0.length ≤ c0_0) (hr0_1 : Kd.C k86 w A0_1 l0_1.length l0_1) (hc0_1 : l0_1.length ≤ c0_1) (h : laws_heldPieceBuf.f k l0_0 l0_1 a1 = some r) :
  Calls Tryz.prog 15 #[.agg #[.slice A0_0 l0_0.length c0_0, .slice A0_1 l0_1.length c0_1], .int .i64 a1] w fun e w' => e = .returned (.int .i64 r) ∧ Below w.heap.size w w' := by
 have hu33 := Tryz.underlying33; have hu31 := Tryz.underlying31; have HR0_0 := Aside0.mk hr0_0; have HC0_0 := Aside0.mk hc0_0; clear hr0_0 hc0_0; have HR0_1 := Aside0.mk hr0_1; have HC0_1 := Aside0.mk hc0_1; clear hr0_1 hc0_1; have HB := Aside0.mk (Below.refl w.heap.size w); have H : ((laws_heldInt32S.f k l0_0 a1).bind fun t374 => (if t374 < 0 then (some (-1)) else ((laws_heldTree.f k l0_1 t374).bind fun t375 => (if t375 < 0 then (some (-1)) else (some t375))))) = some r := h; clear h; replace H := Option.bind_eq_some_iff.mp H; obtain ⟨t374, A30, H⟩ := H; replace H : (if t374 < 0 then (some (-1)) else ((laws_heldTree.f k l0_1 t374).bind fun t375 => (if t375 < 0 then (some (-1)) else (some t375)))) = some r := H; have A3 := Aside0.mk A30; clear A30; by_cases c4 : t374 < 0
 ·rw [if_pos c4] at H
  have c4b0 : decide (t374 < 0) = true := decide_eq_true c4; clear c4; obtain rfl := Option.some.inj H; go_enter Tryz.func15, Tryz.ntmps15; go_wp2_with (first | ((with_reducible refine gate_dst (N := 2) rfl ?_); refine bxE (N := 2) (cs := #[.slice A0_0 l0_0.length c0_0, .slice A0_1 l0_1.length c0_1]) (t := 33) ?_; intro gb373 hg w5 hbox hb; have BK373 := Aside0.mk (hbox); have GW373 := gS hg HB; have GE373 := GW373; replace HB := bS HB hb; clear hb hbox hg; have hcz6_0 := cq (v := .slice A0_0 l0_0.length c0_0) BK373 0; have hcz6_1 := cq (v := .slice A0_1 l0_1.length c0_1) BK373 1; have hfz6_0 := fz BK373 0; have hfz6_1 := fz BK373 1) | ((with_reducible refine gate_callee (f := 41) rfl ?_); refine goA (some 8) Tryz.func41 #[.slice A0_0 l0_0.length c0_0, .int .i64 a1] ?_; (with_reducible refine (laws_heldInt32S.calls k _ _ l0_0 a1 t374 _ ?side1 ?side2 A3.out).mono ?_); (case side1 => exact cD (Kd.C_below HR0_0.out HB.out)); (case side2 => exact HC0_0.out); rintro e w' ⟨rfl, ⟨nd, rfl⟩⟩; refine ⟨_, rfl, ?_⟩)); go_ret; exact ⟨eW, hbD HB⟩
 ·rw [if_neg c4] at H
  have c4b0 : decide (t374 < 0) = false := decide_eq_false c4; clear c4; replace H := Option.bind_eq_some_iff.mp H; obtain ⟨t375, A70, H⟩ := H; replace H : (if t375 < 0 then (some (-1)) else (some t375)) = some r := H; have A7 := Aside0.mk A70; clear A70; by_cases c8 : t375 < 0
  ·rw [if_pos c8] at H
   have c8b0 : decide (t375 < 0) = true := decide_eq_true c8; clear c8; obtain rfl := Option.some.inj H; go_enter Tryz.func15, Tryz.ntmps15; go_wp2_with (first | ((with_reducible refine gate_dst (N := 2) rfl ?_); refine bxE (N := 2) (cs := #[.slice A0_0 l0_0.length c0_0, .slice A0_1 l0_1.length c0_1]) (t := 33) ?_; intro gb373 hg w9 hbox hb; have BK373 := Aside0.mk (hbox); have GW373 := gS hg HB; have GE373 := GW373; replace HB := bS HB hb; clear hb hbox hg; have hcz10_0 := cq (v := .slice A0_0 l0_0.length c0_0) BK373 0; have hcz10_1 := cq (v := .slice A0_1 l0_1.length c0_1) BK373 1; have hfz10_0 := fz BK373 0; have hfz10_1 := fz BK373 1) | ((with_reducible refine gate_callee (f := 41) rfl ?_); refine goA (some 8) Tryz.func41 #[.slice A0_0 l0_0.length c0_0, .int .i64 a1] ?_; (with_reducible refine (laws_heldInt32S.calls k _ _ l0_0 a1 t374 _ ?side1 ?side2 A3.out).mono ?_); (case side1 => exact cD (Kd.C_below HR0_0.out HB.out)); (case side2 => exact HC0_0.out); rintro e w' ⟨rfl, ⟨nd, rfl⟩⟩; refine ⟨_, rfl, ?_⟩) | ((with_reducible refine gate_callee (f := 42) rfl ?_); refine goA (some 14) Tryz.func42 #[.agg #[.slice A0_1 l0_1.length c0_1], .int .i64 t374] ?_; (with_reducible refine (laws_heldTree.calls k _ _ l0_1 t374 t375 _ ?side1 ?side2 A7.out).mono ?_); (case side1 => repeat (first | exact (Kd.C_below HR0_1.out (hbD HB)) | (with_reducible refine Kd.C_alloc ?_ _) | (with_reducible refine Kd.C_drewN ?_ _) | (with_reducible refine Kd.C_drew ?_))); (case side2 => exact HC0_1.out); rintro e w11 ⟨rfl, hb⟩; refine ⟨_, rfl, ?_⟩; replace BK373 := bb BK373 hb; replace HB := bS HB hb; (try clear hb); (try clear hb2); (try clear hk); (try clear hi))); go_ret; exact ⟨eW, hbD HB⟩
  ·rw [if_neg c8] at H
   have c8b0 : decide (t375 < 0) = false := decide_eq_false c8; clear c8; obtain rfl := Option.some.inj H; go_enter Tryz.func15, Tryz.ntmps15; go_wp2_with (first | ((with_reducible refine gate_dst (N := 2) rfl ?_); refine bxE (N := 2) (cs := #[.slice A0_0 l0_0.length c0_0, .slice A0_1 l0_1.length c0_1]) (t := 33) ?_; intro gb373 hg w12 hbox hb; have BK373 := Aside0.mk (hbox); have GW373 := gS hg HB; have GE373 := GW373; replace HB := bS HB hb; clear hb hbox hg; have hcz13_0 := cq (v := .slice A0_0 l0_0.length c0_0) BK373 0; have hcz13_1 := cq (v := .slice A0_1 l0_1.length c0_1) BK373 1; have hfz13_0 := fz BK373 0; have hfz13_1 := fz BK373 1) | ((with_reducible refine gate_callee (f := 41) rfl ?_); refine goA (some 8) Tryz.func41 #[.slice A0_0 l0_0.length c0_0, .int .i64 a1] ?_; (with_reducible refine (laws_heldInt32S.calls k _ _ l0_0 a1 t374 _ ?side1 ?side2 A3.out).mono ?_); (case side1 => exact cD (Kd.C_below HR0_0.out HB.out)); (case side2 => exact HC0_0.out); rintro e w' ⟨rfl, ⟨nd, rfl⟩⟩; refine ⟨_, rfl, ?_⟩) | ((with_reducible refine gate_callee (f := 42) rfl ?_); refine goA (some 14) Tryz.func42 #[.agg #[.slice A0_1 l0_1.length c0_1], .int .i64 t374] ?_; (with_reducible refine (laws_heldTree.calls k _ _ l0_1 t374 t375 _ ?side1 ?side2 A7.out).mono ?_); (case side1 => repeat (first | exact (Kd.C_below HR0_1.out (hbD HB)) | (with_reducible refine Kd.C_alloc ?_ _) | (with_reducible refine Kd.C_drewN ?_ _) | (with_reducible refine Kd.C_drew ?_))); (case side2 => exact HC0_1.out); rintro e w14 ⟨rfl, hb⟩; refine ⟨_, rfl, ?_⟩; replace BK373 := bb BK373 hb; replace HB := bS HB hb; (try clear hb); (try clear hb2); (try clear hk); (try clear hi))); go_ret; exact ⟨eW, hbD HB⟩

end Go.Proofs.YtnomidpnofhjdaaGreatDoor.QFnExactPieceInsert
