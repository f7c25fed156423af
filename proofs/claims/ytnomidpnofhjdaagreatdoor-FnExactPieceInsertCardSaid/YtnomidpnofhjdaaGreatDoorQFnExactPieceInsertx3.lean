/- What the law FnExactPieceInsert reaches: each function as a plain function, and that the machine's call does it (written by a program). The condition, where there is one: errors.errorType reads as laid. -/
import Derived.Test.YtnomidpnofhjdaaGreatDoorQFnExactPieceInsertx0
import Derived.Test.YtnomidpnofhjdaaGreatDoorSq
namespace Go.Proofs.YtnomidpnofhjdaaGreatDoor.QFnExactPieceInsert
open Go.Proofs.YtnomidpnofhjdaaGreatDoor.Er Go.Proofs.YtnomidpnofhjdaaGreatDoor.Sq
open Go.RowKit Go.Proofs.YtnomidpnofhjdaaGreatDoorW.PrintWords Go.Proofs.YtnomidpnofhjdaaGreatDoorW.PrintLast Go.Proofs.YtnomidpnofhjdaaGreatDoorW.PrintMore
set_option maxRecDepth 100000
attribute [local go_sem] max2_int min2_int max_two min_two max_three min_three max_four min_four   -- for this text's walks alone
set_option linter.unusedVariables false
set_option linter.unusedSimpArgs false

def spec_l2Child.l0 : Nat → List (S86) → Int → Int → Int → Option (Int)
 | 0, _, _, _, _ => none
 | k + 1, x0, x2, x7, x8 => if x8 < x2 then (if 0 ≤ x8 then (if x8 < (x0.length : Int) then (if 0 ≤ x7 then (if x7 < (x0.length : Int) then (if ((rd_T86 x0 x8).f1) < ((rd_T86 x0 x7).f1) then (spec_l2Child.l0 k x0 x2 x8 (wrap64 (x8 + 1))) else (spec_l2Child.l0 k x0 x2 x7 (wrap64 (x8 + 1)))) else (none)) else (none)) else (none)) else (none)) else (some x7)
def spec_l2Child.f (k : Nat) (l0 : List (S86)) (a1 : Int) (a2 : Int) : Option (Int) := spec_l2Child.l0 k l0 a2 a1 a1
theorem spec_l2Child.mono_l : ∀ k, (∀ y0 y1 y2 y3, LeO (spec_l2Child.l0 k y0 y1 y2 y3) (spec_l2Child.l0 (k + 1) y0 y1 y2 y3))
 | 0 => fun _ _ _ _ r h => by simp [spec_l2Child.l0] at h
 | k + 1 => by
  have ih0 := spec_l2Child.mono_l k
  ·intro y0 y1 y2 y3
   unfold spec_l2Child.l0
   repeat' first
   | (with_reducible first | exact ih0 _ _ _ _ | exact lR _ | exact lN _ | refine lI ?_ ?_ | refine lB ?_ (fun _ => ?_)) | exact ih0 _ _ _ _ | exact lN _ | refine lI ?_ ?_ | refine lB ?_ (fun _ => ?_)
theorem spec_l2Child.mono : ∀ a0 a1 a2 k, LeO (spec_l2Child.f k a0 a1 a2) (spec_l2Child.f (k + 1) a0 a1 a2) := by
 intro a0 a1 a2 k; have ih0 := spec_l2Child.mono_l k; unfold spec_l2Child.f
 repeat' first
   | (with_reducible first | exact ih0 _ _ _ _ | exact lR _ | exact lN _ | refine lI ?_ ?_ | refine lB ?_ (fun _ => ?_)) | exact ih0 _ _ _ _ | exact lN _ | refine lI ?_ ?_ | refine lB ?_ (fun _ => ?_)
set_option maxHeartbeats 8000000 in
theorem spec_l2Child.calls (k : Nat) (A0 : Option Addr) (c0 : Nat) (l0 : List (S86)) (a1 : Int) (a2 : Int) (r : Int) (w : World) (hr0 : Kd.C k86 w A0 l0.length l0) (hc0 : l0.length ≤ c0) (h : spec_l2Child.f k l0 a1 a2 = some r) :
  Calls Tryz.prog 104 #[.slice A0 l0.length c0, .int .i64 a1, .int .i64 a2] w fun e w' => e = .returned (.int .i64 r) ∧ Drawn0 w w' := by
 have HR0 := Aside0.mk hr0; have HC0 := Aside0.mk hc0; clear hr0 hc0; have H : (spec_l2Child.l0 k l0 a2 a1 a1) = some r := h; clear h; have H' := Aside0.mk H; clear H; go_enter Tryz.func104, Tryz.ntmps104; go_wp2; repeat (go_quiet (fail); try go_wp2)
 go_loopg [7, 8] k (fun kq v7 v8 w' => ∃ (x7_1 : Int) (x8_1 : Int), v7 = .int .i64 x7_1 ∧ v8 = .int .i64 x8_1 ∧ Aside0 (spec_l2Child.l0 kq l0 a2 x7_1 x8_1 = some r) ∧ Aside0 (kq ≤ k) ∧ Drawn0 w w')
 case atStart => exact ⟨(a1), (a1), eV, eV, H', ⟨Nat.le_refl _⟩, by repeat (first | exact Drawn0.refl _ | apply Drawn0.step)⟩
 case round =>
  clear H'; (try clear c1); (try clear p2); obtain ⟨x7_1, x8_1, rfl, rfl, HA, HK1, ⟨m1, rfl⟩⟩ := hrel
  cases gk with
  | zero => exact absurd HA.out (by simp [spec_l2Child.l0])
  | succ k1 =>
   have H := HA.out; clear HA; simp only [spec_l2Child.l0] at H; by_cases c4 : x8_1 < a2
   ·rw [if_pos c4] at H
    have c4b0 : decide (x8_1 < a2) = true := decide_eq_true c4; clear c4; by_cases c5 : 0 ≤ x8_1
    ·rw [if_pos c5] at H
     have c5b0 : decide (0 ≤ x8_1) = true := decide_eq_true c5; clear c5; by_cases c6 : x8_1 < (l0.length : Int)
     ·rw [if_pos c6] at H
      have c6b0 : decide (x8_1 < (l0.length : Int)) = true := decide_eq_true c6; clear c6; by_cases c7 : 0 ≤ x7_1
      ·rw [if_pos c7] at H
       have c7b0 : decide (0 ≤ x7_1) = true := decide_eq_true c7; clear c7; by_cases c8 : x7_1 < (l0.length : Int)
       ·rw [if_pos c8] at H
        have c8b0 : decide (x7_1 < (l0.length : Int)) = true := decide_eq_true c8; clear c8; by_cases c9 : ((rd_T86 l0 x8_1).f1) < ((rd_T86 l0 x7_1).f1)
        ·rw [if_pos c9] at H
         have c9b0 : decide (((rd_T86 l0 x8_1).f1) < ((rd_T86 l0 x7_1).f1)) = true := decide_eq_true c9; clear c9; have H' := Aside0.mk H; clear H; have p136 : 0 ≤ (x8_1 : Int) := oD; have q136 : x8_1 < (l0.length : Int) := oD; obtain ⟨ad136, e136, hx136_0, hx136_1, hx136_2, hx136_3⟩ := at_T86 HR0.out x8_1 p136 q136
         cases e136
         replace p136 := eq_true p136; replace q136 := eq_true q136; have p137 : 0 ≤ (x7_1 : Int) := oD; have q137 : x7_1 < (l0.length : Int) := oD; obtain ⟨ad137, e137, hx137_0, hx137_1, hx137_2, hx137_3⟩ := at_T86 HR0.out x7_1 p137 q137; obtain rfl : ad136 = ad137 := (by injection e137); replace p137 := eq_true p137; replace q137 := eq_true q137; go_wp2; repeat (go_quiet (fail); try go_wp2)
         go_roundg k1
         case measure => have := HK1.out; omega
         case rel => exact ⟨(x8_1), (wrap64 (x8_1 + 1)), eV, eV, H', ⟨by have := HK1.out; omega⟩, by repeat (first | exact Drawn0.refl _ | apply Drawn0.step)⟩
        ·rw [if_neg c9] at H
         have c9b0 : decide (((rd_T86 l0 x8_1).f1) < ((rd_T86 l0 x7_1).f1)) = false := decide_eq_false c9; clear c9; have H' := Aside0.mk H; clear H; have p136 : 0 ≤ (x8_1 : Int) := oD; have q136 : x8_1 < (l0.length : Int) := oD; obtain ⟨ad136, e136, hx136_0, hx136_1, hx136_2, hx136_3⟩ := at_T86 HR0.out x8_1 p136 q136
         cases e136
         replace p136 := eq_true p136; replace q136 := eq_true q136; have p137 : 0 ≤ (x7_1 : Int) := oD; have q137 : x7_1 < (l0.length : Int) := oD; obtain ⟨ad137, e137, hx137_0, hx137_1, hx137_2, hx137_3⟩ := at_T86 HR0.out x7_1 p137 q137; obtain rfl : ad136 = ad137 := (by injection e137); replace p137 := eq_true p137; replace q137 := eq_true q137; go_wp2; repeat (go_quiet (fail); try go_wp2)
         go_roundg k1
         case measure => have := HK1.out; omega
         case rel => exact ⟨(x7_1), (wrap64 (x8_1 + 1)), eV, eV, H', ⟨by have := HK1.out; omega⟩, by repeat (first | exact Drawn0.refl _ | apply Drawn0.step)⟩
       ·rw [if_neg c8] at H
        exact absurd H (by simp)
      ·rw [if_neg c7] at H
       exact absurd H (by simp)
     ·rw [if_neg c6] at H
      exact absurd H (by simp)
    ·rw [if_neg c5] at H
     exact absurd H (by simp)
   ·rw [if_neg c4] at H
    have c4b0 : decide (x8_1 < a2) = false := decide_eq_false c4; clear c4; obtain rfl := Option.some.inj H; go_wp2; repeat (go_quiet (fail); try go_wp2)
    go_ret; exact ⟨by first | rfl | (simp; done) | (simp [*]; done), by repeat (first | exact Drawn0.refl _ | apply Drawn0.step)⟩

mutual
def spec_l2Range.j1 : Nat → List (S86) → Int → Int → Option (Int × Int)
 | 0, _, _, _ => none
 | k + 1, x0, x1, x6 => spec_l2Range.l1 k x0 x1 x6 (wrap64 (x1 + 1))
def spec_l2Range.l1 : Nat → List (S86) → Int → Int → Int → Option (Int × Int)
 | 0, _, _, _, _ => none
 | k + 1, x0, x1, x6, x7 => if x7 < (x0.length : Int) then (if 0 ≤ x7 then (if 0 ≤ x1 then (if x1 < (x0.length : Int) then (if ((rd_T86 x0 x7).f1) > ((rd_T86 x0 x1).f1) then (spec_l2Range.l1 k x0 x1 x6 (wrap64 (x7 + 1))) else (some (x6, x7))) else (none)) else (none)) else (none)) else (some (x6, x7))
def spec_l2Range.l0 : Nat → List (S86) → Int → Int → Option (Int × Int)
 | 0, _, _, _ => none
 | k + 1, x0, x1, x6 => if x6 > 0 then (if 0 ≤ (wrap64 (x6 - 1)) then (if (wrap64 (x6 - 1)) < (x0.length : Int) then (if 0 ≤ x1 then (if x1 < (x0.length : Int) then (if ((rd_T86 x0 (wrap64 (x6 - 1))).f1) > ((rd_T86 x0 x1).f1) then (spec_l2Range.l0 k x0 x1 (wrap64 (x6 - 1))) else (spec_l2Range.j1 k x0 x1 x6)) else (none)) else (none)) else (none)) else (none)) else (spec_l2Range.j1 k x0 x1 x6)
end
def spec_l2Range.f (k : Nat) (l0 : List (S86)) (a1 : Int) : Option (Int × Int) := spec_l2Range.l0 k l0 a1 a1
theorem spec_l2Range.mono_l : ∀ k, (∀ y0 y1 y2, LeO (spec_l2Range.j1 k y0 y1 y2) (spec_l2Range.j1 (k + 1) y0 y1 y2)) ∧ (∀ y0 y1 y2 y3, LeO (spec_l2Range.l1 k y0 y1 y2 y3) (spec_l2Range.l1 (k + 1) y0 y1 y2 y3)) ∧ (∀ y0 y1 y2, LeO (spec_l2Range.l0 k y0 y1 y2) (spec_l2Range.l0 (k + 1) y0 y1 y2))
 | 0 => ⟨fun _ _ _ r h => by simp [spec_l2Range.j1] at h, fun _ _ _ _ r h => by simp [spec_l2Range.l1] at h, fun _ _ _ r h => by simp [spec_l2Range.l0] at h⟩
 | k + 1 => by
  obtain ⟨ih0, ih1, ih2⟩ := spec_l2Range.mono_l k; refine ⟨?_, ?_, ?_⟩
  ·intro y0 y1 y2
   unfold spec_l2Range.j1
   repeat' first
   | (with_reducible first | exact ih0 _ _ _ | exact ih1 _ _ _ _ | exact ih2 _ _ _ | exact lR _ | exact lN _ | refine lI ?_ ?_ | refine lB ?_ (fun _ => ?_)) | exact ih0 _ _ _ | exact ih1 _ _ _ _ | exact ih2 _ _ _ | exact lN _ | refine lI ?_ ?_ | refine lB ?_ (fun _ => ?_)
  ·intro y0 y1 y2 y3
   unfold spec_l2Range.l1
   repeat' first
   | (with_reducible first | exact ih0 _ _ _ | exact ih1 _ _ _ _ | exact ih2 _ _ _ | exact lR _ | exact lN _ | refine lI ?_ ?_ | refine lB ?_ (fun _ => ?_)) | exact ih0 _ _ _ | exact ih1 _ _ _ _ | exact ih2 _ _ _ | exact lN _ | refine lI ?_ ?_ | refine lB ?_ (fun _ => ?_)
  ·intro y0 y1 y2
   unfold spec_l2Range.l0
   repeat' first
   | (with_reducible first | exact ih0 _ _ _ | exact ih1 _ _ _ _ | exact ih2 _ _ _ | exact lR _ | exact lN _ | refine lI ?_ ?_ | refine lB ?_ (fun _ => ?_)) | exact ih0 _ _ _ | exact ih1 _ _ _ _ | exact ih2 _ _ _ | exact lN _ | refine lI ?_ ?_ | refine lB ?_ (fun _ => ?_)
theorem spec_l2Range.mono : ∀ a0 a1 k, LeO (spec_l2Range.f k a0 a1) (spec_l2Range.f (k + 1) a0 a1) := by
 intro a0 a1 k; obtain ⟨ih0, ih1, ih2⟩ := spec_l2Range.mono_l k; unfold spec_l2Range.f
 repeat' first
   | (with_reducible first | exact ih0 _ _ _ | exact ih1 _ _ _ _ | exact ih2 _ _ _ | exact lR _ | exact lN _ | refine lI ?_ ?_ | refine lB ?_ (fun _ => ?_)) | exact ih0 _ _ _ | exact ih1 _ _ _ _ | exact ih2 _ _ _ | exact lN _ | refine lI ?_ ?_ | refine lB ?_ (fun _ => ?_)
set_option maxHeartbeats 8000000 in
theorem spec_l2Range.calls (k : Nat) (A0 : Option Addr) (c0 : Nat) (l0 : List (S86)) (a1 : Int) (r1 : Int) (r2 : Int) (w : World) (hr0 : Kd.C k86 w A0 l0.length l0) (hc0 : l0.length ≤ c0) (h : spec_l2Range.f k l0 a1 = some (r1, r2)) :
  Calls Tryz.prog 107 #[.slice A0 l0.length c0, .int .i64 a1] w fun e w' => e = .returned (.tuple #[.int .i64 r1, .int .i64 r2]) ∧ Drawn0 w w' := by
 have HR0 := Aside0.mk hr0; have HC0 := Aside0.mk hc0; clear hr0 hc0; have H : (spec_l2Range.l0 k l0 a1 a1) = some (r1, r2) := h; clear h; have HC3 := Aside0.mk H; clear H; go_enter Tryz.func107, Tryz.ntmps107; go_upto_block 0 with (fail)
 repeat (go_quiet (fail); go_upto_block 0 with (fail))
 go_cut [6] (fun v6 wc => ∃ (kq : Nat) (x6_2 : Int), v6 = .int .i64 x6_2 ∧ Aside0 (spec_l2Range.j1 kq l0 a1 x6_2 = some (r1, r2)) ∧ Aside0 (kq ≤ k) ∧ Drawn0 w wc)
 case first =>
  have H := HC3.out; clear HC3; have H' := Aside0.mk H; clear H; go_wp2; repeat (go_quiet (fail); try go_wp2)
  go_loopg [6] k (fun kq v6 w' => ∃ (x6_1 : Int), v6 = .int .i64 x6_1 ∧ Aside0 (spec_l2Range.l0 kq l0 a1 x6_1 = some (r1, r2)) ∧ Aside0 (kq ≤ k) ∧ Drawn0 w w')
  case atStart => exact ⟨(a1), eV, H', ⟨Nat.le_refl _⟩, by repeat (first | exact Drawn0.refl _ | apply Drawn0.step)⟩
  case round =>
   clear H'; (try clear c1); (try clear p2); obtain ⟨x6_1, rfl, HA, HK1, ⟨m1, rfl⟩⟩ := hrel
   cases gk with
   | zero => exact absurd HA.out (by simp [spec_l2Range.l0])
   | succ k1 =>
    have H := HA.out; clear HA; simp only [spec_l2Range.l0] at H; by_cases c4 : x6_1 > 0
    ·rw [if_pos c4] at H
     have c4b0 : decide (0 < x6_1) = true := decide_eq_true c4; clear c4; (first | rw [c4b0] | (simp only [i64_w, i32_w]; rw [c4b0]) | skip); obtain ⟨ji5, hji5⟩ : ∃ j_ : Int, (wrap64 (x6_1 - 1)) = j_ := ⟨_, rfl⟩; replace H : (if 0 ≤ (ji5) then (if (ji5) < (l0.length : Int) then (if 0 ≤ a1 then (if a1 < (l0.length : Int) then (if ((rd_T86 l0 (ji5)).f1) > ((rd_T86 l0 a1).f1) then (spec_l2Range.l0 k1 l0 a1 ji5) else (spec_l2Range.j1 k1 l0 a1 x6_1)) else (none)) else (none)) else (none)) else (none)) = some (r1, r2) := by first | (rw [hji5] at H; exact H) | (simp only [hji5] at H ⊢; exact H)
     have hji5w : (IntKind.i64.wrap (x6_1 - 1)) = ji5 := (i64_w _).trans hji5; by_cases c6 : 0 ≤ (ji5)
     ·rw [if_pos c6] at H
      have c6b0 : decide (0 ≤ (ji5)) = true := decide_eq_true c6; clear c6; by_cases c7 : (ji5) < (l0.length : Int)
      ·rw [if_pos c7] at H
       have c7b0 : decide ((ji5) < (l0.length : Int)) = true := decide_eq_true c7; clear c7; by_cases c8 : 0 ≤ a1
       ·rw [if_pos c8] at H
        have c8b0 : decide (0 ≤ a1) = true := decide_eq_true c8; clear c8; by_cases c9 : a1 < (l0.length : Int)
        ·rw [if_pos c9] at H
         have c9b0 : decide (a1 < (l0.length : Int)) = true := decide_eq_true c9; clear c9; by_cases c10 : ((rd_T86 l0 (ji5)).f1) > ((rd_T86 l0 a1).f1)
         ·rw [if_pos c10] at H
          have c10b0 : decide (((rd_T86 l0 a1).f1) < ((rd_T86 l0 (ji5)).f1)) = true := decide_eq_true c10; clear c10; have H' := Aside0.mk H; clear H; have p138 : 0 ≤ ((ji5) : Int) := oD; have q138 : (ji5) < (l0.length : Int) := oD; obtain ⟨ad138, e138, hx138_0, hx138_1, hx138_2, hx138_3⟩ := at_T86 HR0.out (ji5) p138 q138
          cases e138
          replace p138 := eq_true p138; replace q138 := eq_true q138; have p139 : 0 ≤ (a1 : Int) := oD; have q139 : a1 < (l0.length : Int) := oD; obtain ⟨ad139, e139, hx139_0, hx139_1, hx139_2, hx139_3⟩ := at_T86 HR0.out a1 p139 q139; obtain rfl : ad138 = ad139 := (by injection e139); replace p139 := eq_true p139; replace q139 := eq_true q139; go_wp2; repeat (go_quiet (fail); try go_wp2)
          go_roundg k1
          case measure => have := HK1.out; omega
          case rel => exact ⟨(ji5), (by first | rfl | (simp; done) | (simp only [← hji5] <;> (first | rfl | simp)) | (simp [*]; done)), H', ⟨by have := HK1.out; omega⟩, by repeat (first | exact Drawn0.refl _ | apply Drawn0.step)⟩
         ·rw [if_neg c10] at H
          have c10b0 : decide (((rd_T86 l0 a1).f1) < ((rd_T86 l0 (ji5)).f1)) = false := decide_eq_false c10; clear c10; have H' := Aside0.mk H; clear H; have p138 : 0 ≤ ((ji5) : Int) := oD; have q138 : (ji5) < (l0.length : Int) := oD; obtain ⟨ad138, e138, hx138_0, hx138_1, hx138_2, hx138_3⟩ := at_T86 HR0.out (ji5) p138 q138
          cases e138
          replace p138 := eq_true p138; replace q138 := eq_true q138; have p139 : 0 ≤ (a1 : Int) := oD; have q139 : a1 < (l0.length : Int) := oD; obtain ⟨ad139, e139, hx139_0, hx139_1, hx139_2, hx139_3⟩ := at_T86 HR0.out a1 p139 q139; obtain rfl : ad138 = ad139 := (by injection e139); replace p139 := eq_true p139; replace q139 := eq_true q139; go_wp2; repeat (go_quiet (fail); try go_wp2)
          go_meet
          case rel => exact ⟨_, (x6_1), eV, H', ⟨by have := HK1.out; first | omega | exact Nat.le_refl _⟩, by repeat (first | exact Drawn0.refl _ | apply Drawn0.step)⟩
        ·rw [if_neg c9] at H
         exact absurd H (by simp)
       ·rw [if_neg c8] at H
        exact absurd H (by simp)
      ·rw [if_neg c7] at H
       exact absurd H (by simp)
     ·rw [if_neg c6] at H
      exact absurd H (by simp)
    ·rw [if_neg c4] at H
     have c4b0 : decide (0 < x6_1) = false := decide_eq_false c4; clear c4; (first | rw [c4b0] | (simp only [i64_w, i32_w]; rw [c4b0]) | skip); have H' := Aside0.mk H; clear H; go_wp2; repeat (go_quiet (fail); try go_wp2)
     go_meet
     case rel => exact ⟨_, (x6_1), eV, H', ⟨by have := HK1.out; first | omega | exact Nat.le_refl _⟩, by repeat (first | exact Drawn0.refl _ | apply Drawn0.step)⟩
 case rest =>
  clear HC3; (try clear c1); (try clear p1); (try clear q1); (try clear hx1); (try clear p2); (try clear c4); (try clear c4b0); (try clear c6); (try clear c6b0); (try clear p6); (try clear c7); (try clear c7b0); (try clear c8); (try clear c8b0); (try clear c9); (try clear c9b0); (try clear c10); (try clear c10b0); (try clear hx138_0); (try clear hx138_1); (try clear hx138_2); (try clear hx138_3); (try clear hx139_0); (try clear hx139_1); (try clear hx139_2); (try clear hx139_3); (try clear p138); (try clear p139); (try clear p2); (try clear q138); (try clear q139); obtain ⟨kq, x6_2, rfl, HA, HJ2, ⟨mc2, rfl⟩⟩ := hcut
  cases kq with
  | zero => exact absurd HA.out (by simp [spec_l2Range.j1])
  | succ kj2 =>
   have H := HA.out; clear HA; simp only [spec_l2Range.j1] at H; have H' := Aside0.mk H; clear H; go_wp2; repeat (go_quiet (fail); try go_wp2)
   go_loopg [7] kj2 (fun kq v7 w' => ∃ (x7_2 : Int), v7 = .int .i64 x7_2 ∧ Aside0 (spec_l2Range.l1 kq l0 a1 x6_2 x7_2 = some (r1, r2)) ∧ Aside0 (kq ≤ kj2) ∧ Drawn0 w w')
   case atStart => exact ⟨(wrap64 (a1 + 1)), eV, H', ⟨Nat.le_refl _⟩, by repeat (first | exact Drawn0.refl _ | apply Drawn0.step)⟩
   case round =>
    clear H'; (try clear c1); (try clear p1); (try clear q1); (try clear hx1); (try clear c2); (try clear p2); (try clear c4); (try clear c4b0); (try clear c6); (try clear c6b0); (try clear p6); (try clear c7); (try clear c7b0); (try clear c8); (try clear c8b0); (try clear c9); (try clear c9b0); (try clear c10); (try clear c10b0); (try clear hx138_0); (try clear hx138_1); (try clear hx138_2); (try clear hx138_3); (try clear hx139_0); (try clear hx139_1); (try clear hx139_2); (try clear hx139_3); (try clear p1); (try clear p138); (try clear p139); (try clear p2); (try clear p6); (try clear q1); (try clear q138); (try clear q139); obtain ⟨x7_2, rfl, HA, HK2, ⟨m2, rfl⟩⟩ := hrel
    cases gk with
    | zero => exact absurd HA.out (by simp [spec_l2Range.l1])
    | succ k2 =>
     have H := HA.out; clear HA; simp only [spec_l2Range.l1] at H; by_cases c11 : x7_2 < (l0.length : Int)
     ·rw [if_pos c11] at H
      have c11b0 : decide (x7_2 < (l0.length : Int)) = true := decide_eq_true c11; clear c11; by_cases c12 : 0 ≤ x7_2
      ·rw [if_pos c12] at H
       have c12b0 : decide (0 ≤ x7_2) = true := decide_eq_true c12; clear c12; by_cases c13 : 0 ≤ a1
       ·rw [if_pos c13] at H
        have c13b0 : decide (0 ≤ a1) = true := decide_eq_true c13; clear c13; by_cases c14 : a1 < (l0.length : Int)
        ·rw [if_pos c14] at H
         have c14b0 : decide (a1 < (l0.length : Int)) = true := decide_eq_true c14; clear c14; by_cases c15 : ((rd_T86 l0 x7_2).f1) > ((rd_T86 l0 a1).f1)
         ·rw [if_pos c15] at H
          have c15b0 : decide (((rd_T86 l0 a1).f1) < ((rd_T86 l0 x7_2).f1)) = true := decide_eq_true c15; clear c15; have H' := Aside0.mk H; clear H; have p140 : 0 ≤ (x7_2 : Int) := oD; have q140 : x7_2 < (l0.length : Int) := oD; obtain ⟨ad140, e140, hx140_0, hx140_1, hx140_2, hx140_3⟩ := at_T86 HR0.out x7_2 p140 q140
          cases e140
          replace p140 := eq_true p140; replace q140 := eq_true q140; have p141 : 0 ≤ (a1 : Int) := oD; have q141 : a1 < (l0.length : Int) := oD; obtain ⟨ad141, e141, hx141_0, hx141_1, hx141_2, hx141_3⟩ := at_T86 HR0.out a1 p141 q141; obtain rfl : ad140 = ad141 := (by injection e141); replace p141 := eq_true p141; replace q141 := eq_true q141; go_wp2; repeat (go_quiet (fail); try go_wp2)
          go_roundg k2
          case measure => have := HJ2.out; have := HK2.out; omega
          case rel => exact ⟨(wrap64 (x7_2 + 1)), eV, H', ⟨by have := HJ2.out; have := HK2.out; omega⟩, by repeat (first | exact Drawn0.refl _ | apply Drawn0.step)⟩
         ·rw [if_neg c15] at H
          have c15b0 : decide (((rd_T86 l0 a1).f1) < ((rd_T86 l0 x7_2).f1)) = false := decide_eq_false c15; clear c15; simp only [Option.some.injEq, Prod.mk.injEq] at H; obtain ⟨rfl, rfl⟩ := H; have p140 : 0 ≤ (x7_2 : Int) := oD; have q140 : x7_2 < (l0.length : Int) := oD; obtain ⟨ad140, e140, hx140_0, hx140_1, hx140_2, hx140_3⟩ := at_T86 HR0.out x7_2 p140 q140
          cases e140
          replace p140 := eq_true p140; replace q140 := eq_true q140; have p141 : 0 ≤ (a1 : Int) := oD; have q141 : a1 < (l0.length : Int) := oD; obtain ⟨ad141, e141, hx141_0, hx141_1, hx141_2, hx141_3⟩ := at_T86 HR0.out a1 p141 q141; obtain rfl : ad140 = ad141 := (by injection e141); replace p141 := eq_true p141; replace q141 := eq_true q141; go_wp2; repeat (go_quiet (fail); try go_wp2)
          go_ret2; exact ⟨by first | rfl | (simp; done) | (simp [*]; done), by repeat (first | exact Drawn0.refl _ | apply Drawn0.step)⟩
        ·rw [if_neg c14] at H
         exact absurd H (by simp)
       ·rw [if_neg c13] at H
        exact absurd H (by simp)
      ·rw [if_neg c12] at H
       exact absurd H (by simp)
     ·rw [if_neg c11] at H
      have c11b0 : decide (x7_2 < (l0.length : Int)) = false := decide_eq_false c11; clear c11; simp only [Option.some.injEq, Prod.mk.injEq] at H; obtain ⟨rfl, rfl⟩ := H; go_wp2; repeat (go_quiet (fail); try go_wp2)
      go_ret2; exact ⟨by first | rfl | (simp; done) | (simp [*]; done), by repeat (first | exact Drawn0.refl _ | apply Drawn0.step)⟩

def spec_l2Height.l0 : Nat → List (S86) → Int → Int → Int → Int → Option (Int)
 | 0, _, _, _, _, _ => none
 | k + 1, x0, x2, x7, x8, x9 => if x9 < x2 then (if 0 ≤ x9 then (if x9 < (x0.length : Int) then (if ((rd_T86 x0 x9).f1) < x7 then (if ((rd_T86 x0 x9).f1) > x8 then (spec_l2Height.l0 k x0 x2 ((rd_T86 x0 x9).f1) ((rd_T86 x0 x9).f1) (wrap64 (x9 + 1))) else (spec_l2Height.l0 k x0 x2 ((rd_T86 x0 x9).f1) x8 (wrap64 (x9 + 1)))) else (if ((rd_T86 x0 x9).f1) > x8 then (spec_l2Height.l0 k x0 x2 x7 ((rd_T86 x0 x9).f1) (wrap64 (x9 + 1))) else (spec_l2Height.l0 k x0 x2 x7 x8 (wrap64 (x9 + 1))))) else (none)) else (none)) else (some (wrap64 ((wrap64 (x8 - x7)) + 1)))
def spec_l2Height.f (k : Nat) (l0 : List (S86)) (a1 : Int) (a2 : Int) : Option (Int) := if a1 ≥ a2 then (some 0) else (if 0 ≤ a1 then (if a1 < (l0.length : Int) then (spec_l2Height.l0 k l0 a2 ((rd_T86 l0 a1).f1) ((rd_T86 l0 a1).f1) a1) else (none)) else (none))
theorem spec_l2Height.mono_l : ∀ k, (∀ y0 y1 y2 y3 y4, LeO (spec_l2Height.l0 k y0 y1 y2 y3 y4) (spec_l2Height.l0 (k + 1) y0 y1 y2 y3 y4))
 | 0 => fun _ _ _ _ _ r h => by simp [spec_l2Height.l0] at h
 | k + 1 => by
  have ih0 := spec_l2Height.mono_l k
  ·intro y0 y1 y2 y3 y4
   unfold spec_l2Height.l0
   repeat' first
   | (with_reducible first | exact ih0 _ _ _ _ _ | exact lR _ | exact lN _ | refine lI ?_ ?_ | refine lB ?_ (fun _ => ?_)) | exact ih0 _ _ _ _ _ | exact lN _ | refine lI ?_ ?_ | refine lB ?_ (fun _ => ?_)
theorem spec_l2Height.mono : ∀ a0 a1 a2 k, LeO (spec_l2Height.f k a0 a1 a2) (spec_l2Height.f (k + 1) a0 a1 a2) := by
 intro a0 a1 a2 k; have ih0 := spec_l2Height.mono_l k; unfold spec_l2Height.f
 repeat' first
   | (with_reducible first | exact ih0 _ _ _ _ _ | exact lR _ | exact lN _ | refine lI ?_ ?_ | refine lB ?_ (fun _ => ?_)) | exact ih0 _ _ _ _ _ | exact lN _ | refine lI ?_ ?_ | refine lB ?_ (fun _ => ?_)
set_option maxHeartbeats 8000000 in
theorem spec_l2Height.calls (k : Nat) (A0 : Option Addr) (c0 : Nat) (l0 : List (S86)) (a1 : Int) (a2 : Int) (r : Int) (w : World) (hr0 : Kd.C k86 w A0 l0.length l0) (hc0 : l0.length ≤ c0) (h : spec_l2Height.f k l0 a1 a2 = some r) :
  Calls Tryz.prog 110 #[.slice A0 l0.length c0, .int .i64 a1, .int .i64 a2] w fun e w' => e = .returned (.int .i64 r) ∧ Drawn0 w w' := by
 have HR0 := Aside0.mk hr0; have HC0 := Aside0.mk hc0; clear hr0 hc0; have H : (if a1 ≥ a2 then (some 0) else (if 0 ≤ a1 then (if a1 < (l0.length : Int) then (spec_l2Height.l0 k l0 a2 ((rd_T86 l0 a1).f1) ((rd_T86 l0 a1).f1) a1) else (none)) else (none))) = some r := h; clear h; by_cases c4 : a1 ≥ a2
 ·rw [if_pos c4] at H
  have c4b0 : decide (a2 ≤ a1) = true := decide_eq_true c4; clear c4; obtain rfl := Option.some.inj H; go_enter Tryz.func110, Tryz.ntmps110; go_wp2; go_ret; exact ⟨by first | rfl | (simp; done) | (simp [*]; done), by repeat (first | exact Drawn0.refl _ | apply Drawn0.step)⟩
 ·rw [if_neg c4] at H
  have c4b0 : decide (a2 ≤ a1) = false := decide_eq_false c4; clear c4; by_cases c5 : 0 ≤ a1
  ·rw [if_pos c5] at H
   have c5b0 : decide (0 ≤ a1) = true := decide_eq_true c5; clear c5; by_cases c6 : a1 < (l0.length : Int)
   ·rw [if_pos c6] at H
    have c6b0 : decide (a1 < (l0.length : Int)) = true := decide_eq_true c6; clear c6; have H' := Aside0.mk H; clear H; have p142 : 0 ≤ (a1 : Int) := oD; have q142 : a1 < (l0.length : Int) := oD; obtain ⟨ad142, e142, hx142_0, hx142_1, hx142_2, hx142_3⟩ := at_T86 HR0.out a1 p142 q142
    cases e142
    replace p142 := eq_true p142; replace q142 := eq_true q142; have p143 : 0 ≤ (a1 : Int) := oD; have q143 : a1 < (l0.length : Int) := oD; obtain ⟨ad143, e143, hx143_0, hx143_1, hx143_2, hx143_3⟩ := at_T86 HR0.out a1 p143 q143; obtain rfl : ad142 = ad143 := (by injection e143); replace p143 := eq_true p143; replace q143 := eq_true q143; go_enter Tryz.func110, Tryz.ntmps110; go_wp2; go_loopg [7, 8, 9] k (fun kq v7 v8 v9 w' => ∃ (x7_1 : Int) (x8_1 : Int) (x9_1 : Int), v7 = .int .i64 x7_1 ∧ v8 = .int .i64 x8_1 ∧ v9 = .int .i64 x9_1 ∧ Aside0 (spec_l2Height.l0 kq l0 a2 x7_1 x8_1 x9_1 = some r) ∧ Aside0 (kq ≤ k) ∧ Drawn0 w w')
    case atStart => exact ⟨((rd_T86 l0 a1).f1), ((rd_T86 l0 a1).f1), (a1), eV, eV, eV, H', ⟨Nat.le_refl _⟩, by repeat (first | exact Drawn0.refl _ | apply Drawn0.step)⟩
    case round =>
     clear H'; (try clear c1); (try clear p1); (try clear q1); (try clear hx1); (try clear p2); (try clear c4); (try clear c4b0); (try clear c5); (try clear c5b0); (try clear c6); (try clear c6b0); (try clear hx142_0); (try clear hx142_1); (try clear hx142_2); (try clear hx142_3); (try clear hx143_0); (try clear hx143_1); (try clear hx143_2); (try clear hx143_3); (try clear p142); (try clear p143); (try clear q142); (try clear q143); obtain ⟨x7_1, x8_1, x9_1, rfl, rfl, rfl, HA, HK1, ⟨m1, rfl⟩⟩ := hrel
     cases gk with
     | zero => exact absurd HA.out (by simp [spec_l2Height.l0])
     | succ k1 =>
      have H := HA.out; clear HA; simp only [spec_l2Height.l0] at H; by_cases c7 : x9_1 < a2
      ·rw [if_pos c7] at H
       have c7b0 : decide (x9_1 < a2) = true := decide_eq_true c7; clear c7; by_cases c8 : 0 ≤ x9_1
       ·rw [if_pos c8] at H
        have c8b0 : decide (0 ≤ x9_1) = true := decide_eq_true c8; clear c8; by_cases c9 : x9_1 < (l0.length : Int)
        ·rw [if_pos c9] at H
         have c9b0 : decide (x9_1 < (l0.length : Int)) = true := decide_eq_true c9; clear c9; by_cases c10 : ((rd_T86 l0 x9_1).f1) < x7_1
         ·rw [if_pos c10] at H
          have c10b0 : decide (((rd_T86 l0 x9_1).f1) < x7_1) = true := decide_eq_true c10; clear c10; by_cases c11 : ((rd_T86 l0 x9_1).f1) > x8_1
          ·rw [if_pos c11] at H
           have c11b0 : decide (x8_1 < ((rd_T86 l0 x9_1).f1)) = true := decide_eq_true c11; clear c11; have H' := Aside0.mk H; clear H; have p144 : 0 ≤ (x9_1 : Int) := oD; have q144 : x9_1 < (l0.length : Int) := oD; obtain ⟨ad144, e144, hx144_0, hx144_1, hx144_2, hx144_3⟩ := at_T86 HR0.out x9_1 p144 q144; obtain rfl : ad142 = ad144 := (by injection e144); replace p144 := eq_true p144; replace q144 := eq_true q144; have p145 : 0 ≤ (x9_1 : Int) := oD; have q145 : x9_1 < (l0.length : Int) := oD; obtain ⟨ad145, e145, hx145_0, hx145_1, hx145_2, hx145_3⟩ := at_T86 HR0.out x9_1 p145 q145; obtain rfl : ad142 = ad145 := (by injection e145); replace p145 := eq_true p145; replace q145 := eq_true q145; have p146 : 0 ≤ (x9_1 : Int) := oD; have q146 : x9_1 < (l0.length : Int) := oD; obtain ⟨ad146, e146, hx146_0, hx146_1, hx146_2, hx146_3⟩ := at_T86 HR0.out x9_1 p146 q146; obtain rfl : ad142 = ad146 := (by injection e146); replace p146 := eq_true p146; replace q146 := eq_true q146; have p147 : 0 ≤ (x9_1 : Int) := oD; have q147 : x9_1 < (l0.length : Int) := oD; obtain ⟨ad147, e147, hx147_0, hx147_1, hx147_2, hx147_3⟩ := at_T86 HR0.out x9_1 p147 q147; obtain rfl : ad142 = ad147 := (by injection e147); replace p147 := eq_true p147; replace q147 := eq_true q147; go_wp2; go_roundg k1
           case measure => have := HK1.out; omega
           case rel => exact ⟨((rd_T86 l0 x9_1).f1), ((rd_T86 l0 x9_1).f1), (wrap64 (x9_1 + 1)), eV, eV, eV, H', ⟨by have := HK1.out; omega⟩, by repeat (first | exact Drawn0.refl _ | apply Drawn0.step)⟩
          ·rw [if_neg c11] at H
           have c11b0 : decide (x8_1 < ((rd_T86 l0 x9_1).f1)) = false := decide_eq_false c11; clear c11; have H' := Aside0.mk H; clear H; have p144 : 0 ≤ (x9_1 : Int) := oD; have q144 : x9_1 < (l0.length : Int) := oD; obtain ⟨ad144, e144, hx144_0, hx144_1, hx144_2, hx144_3⟩ := at_T86 HR0.out x9_1 p144 q144; obtain rfl : ad142 = ad144 := (by injection e144); replace p144 := eq_true p144; replace q144 := eq_true q144; have p145 : 0 ≤ (x9_1 : Int) := oD; have q145 : x9_1 < (l0.length : Int) := oD; obtain ⟨ad145, e145, hx145_0, hx145_1, hx145_2, hx145_3⟩ := at_T86 HR0.out x9_1 p145 q145; obtain rfl : ad142 = ad145 := (by injection e145); replace p145 := eq_true p145; replace q145 := eq_true q145; have p146 : 0 ≤ (x9_1 : Int) := oD; have q146 : x9_1 < (l0.length : Int) := oD; obtain ⟨ad146, e146, hx146_0, hx146_1, hx146_2, hx146_3⟩ := at_T86 HR0.out x9_1 p146 q146; obtain rfl : ad142 = ad146 := (by injection e146); replace p146 := eq_true p146; replace q146 := eq_true q146; go_wp2; go_roundg k1
           case measure => have := HK1.out; omega
           case rel => exact ⟨((rd_T86 l0 x9_1).f1), (x8_1), (wrap64 (x9_1 + 1)), eV, eV, eV, H', ⟨by have := HK1.out; omega⟩, by repeat (first | exact Drawn0.refl _ | apply Drawn0.step)⟩
         ·rw [if_neg c10] at H
          have c10b0 : decide (((rd_T86 l0 x9_1).f1) < x7_1) = false := decide_eq_false c10; clear c10; by_cases c12 : ((rd_T86 l0 x9_1).f1) > x8_1
          ·rw [if_pos c12] at H
           have c12b0 : decide (x8_1 < ((rd_T86 l0 x9_1).f1)) = true := decide_eq_true c12; clear c12; have H' := Aside0.mk H; clear H; have p144 : 0 ≤ (x9_1 : Int) := oD; have q144 : x9_1 < (l0.length : Int) := oD; obtain ⟨ad144, e144, hx144_0, hx144_1, hx144_2, hx144_3⟩ := at_T86 HR0.out x9_1 p144 q144; obtain rfl : ad142 = ad144 := (by injection e144); replace p144 := eq_true p144; replace q144 := eq_true q144; have p148 : 0 ≤ (x9_1 : Int) := oD; have q148 : x9_1 < (l0.length : Int) := oD; obtain ⟨ad148, e148, hx148_0, hx148_1, hx148_2, hx148_3⟩ := at_T86 HR0.out x9_1 p148 q148; obtain rfl : ad142 = ad148 := (by injection e148); replace p148 := eq_true p148; replace q148 := eq_true q148; have p149 : 0 ≤ (x9_1 : Int) := oD; have q149 : x9_1 < (l0.length : Int) := oD; obtain ⟨ad149, e149, hx149_0, hx149_1, hx149_2, hx149_3⟩ := at_T86 HR0.out x9_1 p149 q149; obtain rfl : ad142 = ad149 := (by injection e149); replace p149 := eq_true p149; replace q149 := eq_true q149; go_wp2; go_roundg k1
           case measure => have := HK1.out; omega
           case rel => exact ⟨(x7_1), ((rd_T86 l0 x9_1).f1), (wrap64 (x9_1 + 1)), eV, eV, eV, H', ⟨by have := HK1.out; omega⟩, by repeat (first | exact Drawn0.refl _ | apply Drawn0.step)⟩
          ·rw [if_neg c12] at H
           have c12b0 : decide (x8_1 < ((rd_T86 l0 x9_1).f1)) = false := decide_eq_false c12; clear c12; have H' := Aside0.mk H; clear H; have p144 : 0 ≤ (x9_1 : Int) := oD; have q144 : x9_1 < (l0.length : Int) := oD; obtain ⟨ad144, e144, hx144_0, hx144_1, hx144_2, hx144_3⟩ := at_T86 HR0.out x9_1 p144 q144; obtain rfl : ad142 = ad144 := (by injection e144); replace p144 := eq_true p144; replace q144 := eq_true q144; have p148 : 0 ≤ (x9_1 : Int) := oD; have q148 : x9_1 < (l0.length : Int) := oD; obtain ⟨ad148, e148, hx148_0, hx148_1, hx148_2, hx148_3⟩ := at_T86 HR0.out x9_1 p148 q148; obtain rfl : ad142 = ad148 := (by injection e148); replace p148 := eq_true p148; replace q148 := eq_true q148; go_wp2; go_roundg k1
           case measure => have := HK1.out; omega
           case rel => exact ⟨(x7_1), (x8_1), (wrap64 (x9_1 + 1)), eV, eV, eV, H', ⟨by have := HK1.out; omega⟩, by repeat (first | exact Drawn0.refl _ | apply Drawn0.step)⟩
        ·rw [if_neg c9] at H
         exact absurd H (by simp)
       ·rw [if_neg c8] at H
        exact absurd H (by simp)
      ·rw [if_neg c7] at H
       have c7b0 : decide (x9_1 < a2) = false := decide_eq_false c7; clear c7; obtain rfl := Option.some.inj H; go_wp2; go_ret; exact ⟨by first | rfl | (simp; done) | (simp [*]; done), by repeat (first | exact Drawn0.refl _ | apply Drawn0.step)⟩
   ·rw [if_neg c6] at H
    exact absurd H (by simp)
  ·rw [if_neg c5] at H
   exact absurd H (by simp)

end Go.Proofs.YtnomidpnofhjdaaGreatDoor.QFnExactPieceInsert
