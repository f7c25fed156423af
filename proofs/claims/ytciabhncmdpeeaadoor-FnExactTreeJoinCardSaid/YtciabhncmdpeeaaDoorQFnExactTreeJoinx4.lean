/- What the law FnExactTreeJoin reaches: each function as a plain function, and that the machine's call does it (written by a program). The condition, where there is one: errors.errorType reads as laid. -/
import Derived.Test.YtciabhncmdpeeaaDoorQFnExactTreeJoinx0
import Derived.Test.YtciabhncmdpeeaaDoorSq
namespace Go.Proofs.YtciabhncmdpeeaaDoor.QFnExactTreeJoin
open Go.Proofs.YtciabhncmdpeeaaDoor.Er Go.Proofs.YtciabhncmdpeeaaDoor.Sq
open Go.RowKit Go.Proofs.YtciabhncmdpeeaaDoorW.PrintWords Go.Proofs.YtciabhncmdpeeaaDoorW.PrintLast Go.Proofs.YtciabhncmdpeeaaDoorW.PrintMore
set_option maxRecDepth 100000
attribute [local go_sem] max2_int min2_int max_two min_two max_three min_three max_four min_four   -- for this text's walks alone
set_option linter.unusedVariables false
set_option linter.unusedSimpArgs false

mutual
def spec_l2Range.j1 : Nat → List (S54) → Int → Int → Option (Int × Int)
 | 0, _, _, _ => none
 | k + 1, x0, x1, x6 => spec_l2Range.l1 k x0 x1 x6 (wrap64 (x1 + 1))
def spec_l2Range.l1 : Nat → List (S54) → Int → Int → Int → Option (Int × Int)
 | 0, _, _, _, _ => none
 | k + 1, x0, x1, x6, x7 => if x7 < (x0.length : Int) then (if 0 ≤ x7 then (if 0 ≤ x1 then (if x1 < (x0.length : Int) then (if ((rd_T54 x0 x7).f1) > ((rd_T54 x0 x1).f1) then (spec_l2Range.l1 k x0 x1 x6 (wrap64 (x7 + 1))) else (some (x6, x7))) else (none)) else (none)) else (none)) else (some (x6, x7))
def spec_l2Range.l0 : Nat → List (S54) → Int → Int → Option (Int × Int)
 | 0, _, _, _ => none
 | k + 1, x0, x1, x6 => if x6 > 0 then (if 0 ≤ (wrap64 (x6 - 1)) then (if (wrap64 (x6 - 1)) < (x0.length : Int) then (if 0 ≤ x1 then (if x1 < (x0.length : Int) then (if ((rd_T54 x0 (wrap64 (x6 - 1))).f1) > ((rd_T54 x0 x1).f1) then (spec_l2Range.l0 k x0 x1 (wrap64 (x6 - 1))) else (spec_l2Range.j1 k x0 x1 x6)) else (none)) else (none)) else (none)) else (none)) else (spec_l2Range.j1 k x0 x1 x6)
end
def spec_l2Range.f (k : Nat) (l0 : List (S54)) (a1 : Int) : Option (Int × Int) := spec_l2Range.l0 k l0 a1 a1
theorem spec_l2Range.mono_l : ∀ k, (∀ y0 y1 y2, LeO (spec_l2Range.j1 k y0 y1 y2) (spec_l2Range.j1 (k + 1) y0 y1 y2)) ∧ (∀ y0 y1 y2 y3, LeO (spec_l2Range.l1 k y0 y1 y2 y3) (spec_l2Range.l1 (k + 1) y0 y1 y2 y3)) ∧ (∀ y0 y1 y2, LeO (spec_l2Range.l0 k y0 y1 y2) (spec_l2Range.l0 (k + 1) y0 y1 y2))
 | 0 => ⟨fun _ _ _ r h => by simp [spec_l2Range.j1] at h, fun _ _ _ _ r h => by simp [spec_l2Range.l1] at h, fun _ _ _ r h => by simp [spec_l2Range.l0] at h⟩
 | k + 1 => by
  obtain ⟨ih0, ih1, ih2⟩ := spec_l2Range.mono_l k; refine ⟨?_, ?_, ?_⟩
  ·intro y0 y1 y2
   unfold spec_l2Range.j1
   repeat' first
   | (with_reducible exact ih0 _ _ _)
   | (with_reducible exact ih1 _ _ _ _)
   | (with_reducible exact ih2 _ _ _)
   | (with_reducible exact LeO.refl _)
   | (with_reducible exact LeO.none _)
   | (with_reducible refine LeO.ite ?_ ?_)
   | (with_reducible refine LeO.bind ?_ (fun _ => ?_))
   | exact ih0 _ _ _
   | exact ih1 _ _ _ _
   | exact ih2 _ _ _
   | exact LeO.none _
   | refine LeO.ite ?_ ?_
   | refine LeO.bind ?_ (fun _ => ?_)
  ·intro y0 y1 y2 y3
   unfold spec_l2Range.l1
   repeat' first
   | (with_reducible exact ih0 _ _ _)
   | (with_reducible exact ih1 _ _ _ _)
   | (with_reducible exact ih2 _ _ _)
   | (with_reducible exact LeO.refl _)
   | (with_reducible exact LeO.none _)
   | (with_reducible refine LeO.ite ?_ ?_)
   | (with_reducible refine LeO.bind ?_ (fun _ => ?_))
   | exact ih0 _ _ _
   | exact ih1 _ _ _ _
   | exact ih2 _ _ _
   | exact LeO.none _
   | refine LeO.ite ?_ ?_
   | refine LeO.bind ?_ (fun _ => ?_)
  ·intro y0 y1 y2
   unfold spec_l2Range.l0
   repeat' first
   | (with_reducible exact ih0 _ _ _)
   | (with_reducible exact ih1 _ _ _ _)
   | (with_reducible exact ih2 _ _ _)
   | (with_reducible exact LeO.refl _)
   | (with_reducible exact LeO.none _)
   | (with_reducible refine LeO.ite ?_ ?_)
   | (with_reducible refine LeO.bind ?_ (fun _ => ?_))
   | exact ih0 _ _ _
   | exact ih1 _ _ _ _
   | exact ih2 _ _ _
   | exact LeO.none _
   | refine LeO.ite ?_ ?_
   | refine LeO.bind ?_ (fun _ => ?_)
theorem spec_l2Range.mono : ∀ a0 a1 k, LeO (spec_l2Range.f k a0 a1) (spec_l2Range.f (k + 1) a0 a1) := by
 intro a0 a1 k; obtain ⟨ih0, ih1, ih2⟩ := spec_l2Range.mono_l k; unfold spec_l2Range.f
 repeat' first
   | (with_reducible exact ih0 _ _ _)
   | (with_reducible exact ih1 _ _ _ _)
   | (with_reducible exact ih2 _ _ _)
   | (with_reducible exact LeO.refl _)
   | (with_reducible exact LeO.none _)
   | (with_reducible refine LeO.ite ?_ ?_)
   | (with_reducible refine LeO.bind ?_ (fun _ => ?_))
   | exact ih0 _ _ _
   | exact ih1 _ _ _ _
   | exact ih2 _ _ _
   | exact LeO.none _
   | refine LeO.ite ?_ ?_
   | refine LeO.bind ?_ (fun _ => ?_)
set_option maxHeartbeats 8000000 in
theorem spec_l2Range.calls (k : Nat) (A0 : Option Addr) (c0 : Nat) (l0 : List (S54)) (a1 : Int) (r1 : Int) (r2 : Int) (w : World) (hr0 : Kd.C k54 w A0 l0.length l0) (hc0 : l0.length ≤ c0) (h : spec_l2Range.f k l0 a1 = some (r1, r2)) :
  Calls Tryd.prog 121 #[.slice A0 l0.length c0, .int .i64 a1] w fun e w' => e = .returned (.tuple #[.int .i64 r1, .int .i64 r2]) ∧ Drawn0 w w' := by
 have HR0 := Aside0.mk hr0; have HC0 := Aside0.mk hc0; clear hr0 hc0; have H : (spec_l2Range.l0 k l0 a1 a1) = some (r1, r2) := h; clear h; have HC3 := Aside0.mk H; clear H; go_enter Tryd.func121, Tryd.ntmps121; go_upto_block 0 with (fail)
 repeat (go_quiet (fail); go_upto_block 0 with (fail))
 go_cut [6] (fun v6 wc => ∃ (kq : Nat) (x6_2 : Int), v6 = .int .i64 x6_2 ∧ Aside0 (spec_l2Range.j1 kq l0 a1 x6_2 = some (r1, r2)) ∧ Aside0 (kq ≤ k) ∧ Drawn0 w wc)
 case first =>
  have H := HC3.out; clear HC3; have H' := Aside0.mk H; clear H; go_wp2; repeat (go_quiet (fail); try go_wp2)
  go_loopg [6] k (fun kq v6 w' => ∃ (x6_1 : Int), v6 = .int .i64 x6_1 ∧ Aside0 (spec_l2Range.l0 kq l0 a1 x6_1 = some (r1, r2)) ∧ Aside0 (kq ≤ k) ∧ Drawn0 w w')
  case atStart => exact ⟨(a1), (by first | rfl | (simp; done) | (simp [*]; done)), H', ⟨Nat.le_refl _⟩, by repeat (first | exact Drawn0.refl _ | apply Drawn0.step)⟩
  case round =>
   clear H'; (try clear c1); (try clear p2); obtain ⟨x6_1, rfl, HA, HK1, ⟨m1, rfl⟩⟩ := hrel
   cases gk with
   | zero => exact absurd HA.out (by simp [spec_l2Range.l0])
   | succ k1 =>
    have H := HA.out; clear HA; simp only [spec_l2Range.l0] at H; by_cases c4 : x6_1 > 0
    ·rw [if_pos c4] at H
     have c4b0 : decide (0 < x6_1) = true := decide_eq_true c4; clear c4; (first | rw [c4b0] | (simp only [i64_w, i32_w]; rw [c4b0]) | skip); obtain ⟨ji5, hji5⟩ : ∃ j_ : Int, (wrap64 (x6_1 - 1)) = j_ := ⟨_, rfl⟩; replace H : (if 0 ≤ (ji5) then (if (ji5) < (l0.length : Int) then (if 0 ≤ a1 then (if a1 < (l0.length : Int) then (if ((rd_T54 l0 (ji5)).f1) > ((rd_T54 l0 a1).f1) then (spec_l2Range.l0 k1 l0 a1 ji5) else (spec_l2Range.j1 k1 l0 a1 x6_1)) else (none)) else (none)) else (none)) else (none)) = some (r1, r2) := by first | (rw [hji5] at H; exact H) | (simp only [hji5] at H ⊢; exact H)
     have hji5w : (IntKind.i64.wrap (x6_1 - 1)) = ji5 := (i64_w _).trans hji5; by_cases c6 : 0 ≤ (ji5)
     ·rw [if_pos c6] at H
      have c6b0 : decide (0 ≤ (ji5)) = true := decide_eq_true c6; clear c6; by_cases c7 : (ji5) < (l0.length : Int)
      ·rw [if_pos c7] at H
       have c7b0 : decide ((ji5) < (l0.length : Int)) = true := decide_eq_true c7; clear c7; by_cases c8 : 0 ≤ a1
       ·rw [if_pos c8] at H
        have c8b0 : decide (0 ≤ a1) = true := decide_eq_true c8; clear c8; by_cases c9 : a1 < (l0.length : Int)
        ·rw [if_pos c9] at H
         have c9b0 : decide (a1 < (l0.length : Int)) = true := decide_eq_true c9; clear c9; by_cases c10 : ((rd_T54 l0 (ji5)).f1) > ((rd_T54 l0 a1).f1)
         ·rw [if_pos c10] at H
          have c10b0 : decide (((rd_T54 l0 a1).f1) < ((rd_T54 l0 (ji5)).f1)) = true := decide_eq_true c10; clear c10; have H' := Aside0.mk H; clear H; have p170 : 0 ≤ ((ji5) : Int) := of_decide_eq_true (by first | (with_reducible assumption) | assumption); have q170 : (ji5) < (l0.length : Int) := of_decide_eq_true (by first | (with_reducible assumption) | assumption); obtain ⟨ad170, e170, hx170_0, hx170_1, hx170_2, hx170_3⟩ := at_T54 HR0.out (ji5) p170 q170
          cases e170
          replace p170 := eq_true p170; replace q170 := eq_true q170; have p171 : 0 ≤ (a1 : Int) := of_decide_eq_true (by first | (with_reducible assumption) | assumption); have q171 : a1 < (l0.length : Int) := of_decide_eq_true (by first | (with_reducible assumption) | assumption); obtain ⟨ad171, e171, hx171_0, hx171_1, hx171_2, hx171_3⟩ := at_T54 HR0.out a1 p171 q171; obtain rfl : ad170 = ad171 := (by injection e171); replace p171 := eq_true p171; replace q171 := eq_true q171; go_wp2; repeat (go_quiet (fail); try go_wp2)
          go_roundg k1
          case measure => have := HK1.out; omega
          case rel => exact ⟨(ji5), (by first | rfl | (simp; done) | (simp only [← hji5] <;> (first | rfl | simp)) | (simp [*]; done)), H', ⟨by have := HK1.out; omega⟩, by repeat (first | exact Drawn0.refl _ | apply Drawn0.step)⟩
         ·rw [if_neg c10] at H
          have c10b0 : decide (((rd_T54 l0 a1).f1) < ((rd_T54 l0 (ji5)).f1)) = false := decide_eq_false c10; clear c10; have H' := Aside0.mk H; clear H; have p170 : 0 ≤ ((ji5) : Int) := of_decide_eq_true (by first | (with_reducible assumption) | assumption); have q170 : (ji5) < (l0.length : Int) := of_decide_eq_true (by first | (with_reducible assumption) | assumption); obtain ⟨ad170, e170, hx170_0, hx170_1, hx170_2, hx170_3⟩ := at_T54 HR0.out (ji5) p170 q170
          cases e170
          replace p170 := eq_true p170; replace q170 := eq_true q170; have p171 : 0 ≤ (a1 : Int) := of_decide_eq_true (by first | (with_reducible assumption) | assumption); have q171 : a1 < (l0.length : Int) := of_decide_eq_true (by first | (with_reducible assumption) | assumption); obtain ⟨ad171, e171, hx171_0, hx171_1, hx171_2, hx171_3⟩ := at_T54 HR0.out a1 p171 q171; obtain rfl : ad170 = ad171 := (by injection e171); replace p171 := eq_true p171; replace q171 := eq_true q171; go_wp2; repeat (go_quiet (fail); try go_wp2)
          go_meet
          case rel => exact ⟨_, (x6_1), (by first | rfl | (simp; done) | (simp [*]; done)), H', ⟨by have := HK1.out; first | omega | exact Nat.le_refl _⟩, by repeat (first | exact Drawn0.refl _ | apply Drawn0.step)⟩
        ·rw [if_neg c9] at H
         exact absurd H (by simp)
       ·rw [if_neg c8] at H
        exact absurd H (by simp)
      ·rw [if_neg c7] at H
       exact absurd H (by simp)
     ·rw [if_neg c6] at H
      exact absurd H (by simp)
    ·rw [if_neg c4] at H
     have c4b0 : decide (0 < x6_1) = false := decide_eq_false c4; clear c4; (first | rw [c4b0] | (simp only [i64_w, i32_w]; rw [c4b0]) | skip); have H' := Aside0.mk H; clear H; go_wp2; repeat (go_quiet (fail); try go_wp2)
     go_meet
     case rel => exact ⟨_, (x6_1), (by first | rfl | (simp; done) | (simp [*]; done)), H', ⟨by have := HK1.out; first | omega | exact Nat.le_refl _⟩, by repeat (first | exact Drawn0.refl _ | apply Drawn0.step)⟩
 case rest =>
  clear HC3; (try clear c1); (try clear p1); (try clear q1); (try clear hx1); (try clear p2); (try clear c4); (try clear c4b0); (try clear c6); (try clear c6b0); (try clear p6); (try clear c7); (try clear c7b0); (try clear c8); (try clear c8b0); (try clear c9); (try clear c9b0); (try clear c10); (try clear c10b0); (try clear hx170_0); (try clear hx170_1); (try clear hx170_2); (try clear hx170_3); (try clear hx171_0); (try clear hx171_1); (try clear hx171_2); (try clear hx171_3); (try clear p170); (try clear p171); (try clear p2); (try clear q170); (try clear q171); obtain ⟨kq, x6_2, rfl, HA, HJ2, ⟨mc2, rfl⟩⟩ := hcut
  cases kq with
  | zero => exact absurd HA.out (by simp [spec_l2Range.j1])
  | succ kj2 =>
   have H := HA.out; clear HA; simp only [spec_l2Range.j1] at H; have H' := Aside0.mk H; clear H; go_wp2; repeat (go_quiet (fail); try go_wp2)
   go_loopg [7] kj2 (fun kq v7 w' => ∃ (x7_2 : Int), v7 = .int .i64 x7_2 ∧ Aside0 (spec_l2Range.l1 kq l0 a1 x6_2 x7_2 = some (r1, r2)) ∧ Aside0 (kq ≤ kj2) ∧ Drawn0 w w')
   case atStart => exact ⟨(wrap64 (a1 + 1)), (by first | rfl | (simp; done) | (simp [*]; done)), H', ⟨Nat.le_refl _⟩, by repeat (first | exact Drawn0.refl _ | apply Drawn0.step)⟩
   case round =>
    clear H'; (try clear c1); (try clear p1); (try clear q1); (try clear hx1); (try clear c2); (try clear p2); (try clear c4); (try clear c4b0); (try clear c6); (try clear c6b0); (try clear p6); (try clear c7); (try clear c7b0); (try clear c8); (try clear c8b0); (try clear c9); (try clear c9b0); (try clear c10); (try clear c10b0); (try clear hx170_0); (try clear hx170_1); (try clear hx170_2); (try clear hx170_3); (try clear hx171_0); (try clear hx171_1); (try clear hx171_2); (try clear hx171_3); (try clear p1); (try clear p170); (try clear p171); (try clear p2); (try clear p6); (try clear q1); (try clear q170); (try clear q171); obtain ⟨x7_2, rfl, HA, HK2, ⟨m2, rfl⟩⟩ := hrel
    cases gk with
    | zero => exact absurd HA.out (by simp [spec_l2Range.l1])
    | succ k2 =>
     have H := HA.out; clear HA; simp only [spec_l2Range.l1] at H; by_cases c11 : x7_2 < (l0.length : Int)
     ·rw [if_pos c11] at H
      have c11b0 : decide (x7_2 < (l0.length : Int)) = true := decide_eq_true c11; clear c11; by_cases c12 : 0 ≤ x7_2
      ·rw [if_pos c12] at H
       have c12b0 : decide (0 ≤ x7_2) = true := decide_eq_true c12; clear c12; by_cases c13 : 0 ≤ a1
       ·rw [if_pos c13] at H
        have c13b0 : decide (0 ≤ a1) = true := decide_eq_true c13; clear c13; by_cases c14 : a1 < (l0.length : Int)
        ·rw [if_pos c14] at H
         have c14b0 : decide (a1 < (l0.length : Int)) = true := decide_eq_true c14; clear c14; by_cases c15 : ((rd_T54 l0 x7_2).f1) > ((rd_T54 l0 a1).f1)
         ·rw [if_pos c15] at H
          have c15b0 : decide (((rd_T54 l0 a1).f1) < ((rd_T54 l0 x7_2).f1)) = true := decide_eq_true c15; clear c15; have H' := Aside0.mk H; clear H; have p172 : 0 ≤ (x7_2 : Int) := of_decide_eq_true (by first | (with_reducible assumption) | assumption); have q172 : x7_2 < (l0.length : Int) := of_decide_eq_true (by first | (with_reducible assumption) | assumption); obtain ⟨ad172, e172, hx172_0, hx172_1, hx172_2, hx172_3⟩ := at_T54 HR0.out x7_2 p172 q172
          cases e172
          replace p172 := eq_true p172; replace q172 := eq_true q172; have p173 : 0 ≤ (a1 : Int) := of_decide_eq_true (by first | (with_reducible assumption) | assumption); have q173 : a1 < (l0.length : Int) := of_decide_eq_true (by first | (with_reducible assumption) | assumption); obtain ⟨ad173, e173, hx173_0, hx173_1, hx173_2, hx173_3⟩ := at_T54 HR0.out a1 p173 q173; obtain rfl : ad172 = ad173 := (by injection e173); replace p173 := eq_true p173; replace q173 := eq_true q173; go_wp2; repeat (go_quiet (fail); try go_wp2)
          go_roundg k2
          case measure => have := HJ2.out; have := HK2.out; omega
          case rel => exact ⟨(wrap64 (x7_2 + 1)), (by first | rfl | (simp; done) | (simp [*]; done)), H', ⟨by have := HJ2.out; have := HK2.out; omega⟩, by repeat (first | exact Drawn0.refl _ | apply Drawn0.step)⟩
         ·rw [if_neg c15] at H
          have c15b0 : decide (((rd_T54 l0 a1).f1) < ((rd_T54 l0 x7_2).f1)) = false := decide_eq_false c15; clear c15; simp only [Option.some.injEq, Prod.mk.injEq] at H; obtain ⟨rfl, rfl⟩ := H; have p172 : 0 ≤ (x7_2 : Int) := of_decide_eq_true (by first | (with_reducible assumption) | assumption); have q172 : x7_2 < (l0.length : Int) := of_decide_eq_true (by first | (with_reducible assumption) | assumption); obtain ⟨ad172, e172, hx172_0, hx172_1, hx172_2, hx172_3⟩ := at_T54 HR0.out x7_2 p172 q172
          cases e172
          replace p172 := eq_true p172; replace q172 := eq_true q172; have p173 : 0 ≤ (a1 : Int) := of_decide_eq_true (by first | (with_reducible assumption) | assumption); have q173 : a1 < (l0.length : Int) := of_decide_eq_true (by first | (with_reducible assumption) | assumption); obtain ⟨ad173, e173, hx173_0, hx173_1, hx173_2, hx173_3⟩ := at_T54 HR0.out a1 p173 q173; obtain rfl : ad172 = ad173 := (by injection e173); replace p173 := eq_true p173; replace q173 := eq_true q173; go_wp2; repeat (go_quiet (fail); try go_wp2)
          go_ret2; exact ⟨by first | rfl | (simp; done) | (simp [*]; done), by repeat (first | exact Drawn0.refl _ | apply Drawn0.step)⟩
        ·rw [if_neg c14] at H
         exact absurd H (by simp)
       ·rw [if_neg c13] at H
        exact absurd H (by simp)
      ·rw [if_neg c12] at H
       exact absurd H (by simp)
     ·rw [if_neg c11] at H
      have c11b0 : decide (x7_2 < (l0.length : Int)) = false := decide_eq_false c11; clear c11; simp only [Option.some.injEq, Prod.mk.injEq] at H; obtain ⟨rfl, rfl⟩ := H; go_wp2; repeat (go_quiet (fail); try go_wp2)
      go_ret2; exact ⟨by first | rfl | (simp; done) | (simp [*]; done), by repeat (first | exact Drawn0.refl _ | apply Drawn0.step)⟩

def spec_l2Child.l0 : Nat → List (S54) → Int → Int → Int → Option (Int)
 | 0, _, _, _, _ => none
 | k + 1, x0, x2, x7, x8 => if x8 < x2 then (if 0 ≤ x8 then (if x8 < (x0.length : Int) then (if 0 ≤ x7 then (if x7 < (x0.length : Int) then (if ((rd_T54 x0 x8).f1) < ((rd_T54 x0 x7).f1) then (spec_l2Child.l0 k x0 x2 x8 (wrap64 (x8 + 1))) else (spec_l2Child.l0 k x0 x2 x7 (wrap64 (x8 + 1)))) else (none)) else (none)) else (none)) else (none)) else (some x7)
def spec_l2Child.f (k : Nat) (l0 : List (S54)) (a1 : Int) (a2 : Int) : Option (Int) := spec_l2Child.l0 k l0 a2 a1 a1
theorem spec_l2Child.mono_l : ∀ k, (∀ y0 y1 y2 y3, LeO (spec_l2Child.l0 k y0 y1 y2 y3) (spec_l2Child.l0 (k + 1) y0 y1 y2 y3))
 | 0 => fun _ _ _ _ r h => by simp [spec_l2Child.l0] at h
 | k + 1 => by
  have ih0 := spec_l2Child.mono_l k
  ·intro y0 y1 y2 y3
   unfold spec_l2Child.l0
   repeat' first
   | (with_reducible exact ih0 _ _ _ _)
   | (with_reducible exact LeO.refl _)
   | (with_reducible exact LeO.none _)
   | (with_reducible refine LeO.ite ?_ ?_)
   | (with_reducible refine LeO.bind ?_ (fun _ => ?_))
   | exact ih0 _ _ _ _
   | exact LeO.none _
   | refine LeO.ite ?_ ?_
   | refine LeO.bind ?_ (fun _ => ?_)
theorem spec_l2Child.mono : ∀ a0 a1 a2 k, LeO (spec_l2Child.f k a0 a1 a2) (spec_l2Child.f (k + 1) a0 a1 a2) := by
 intro a0 a1 a2 k; have ih0 := spec_l2Child.mono_l k; unfold spec_l2Child.f
 repeat' first
   | (with_reducible exact ih0 _ _ _ _)
   | (with_reducible exact LeO.refl _)
   | (with_reducible exact LeO.none _)
   | (with_reducible refine LeO.ite ?_ ?_)
   | (with_reducible refine LeO.bind ?_ (fun _ => ?_))
   | exact ih0 _ _ _ _
   | exact LeO.none _
   | refine LeO.ite ?_ ?_
   | refine LeO.bind ?_ (fun _ => ?_)
set_option maxHeartbeats 8000000 in
theorem spec_l2Child.calls (k : Nat) (A0 : Option Addr) (c0 : Nat) (l0 : List (S54)) (a1 : Int) (a2 : Int) (r : Int) (w : World) (hr0 : Kd.C k54 w A0 l0.length l0) (hc0 : l0.length ≤ c0) (h : spec_l2Child.f k l0 a1 a2 = some r) :
  Calls Tryd.prog 122 #[.slice A0 l0.length c0, .int .i64 a1, .int .i64 a2] w fun e w' => e = .returned (.int .i64 r) ∧ Drawn0 w w' := by
 have HR0 := Aside0.mk hr0; have HC0 := Aside0.mk hc0; clear hr0 hc0; have H : (spec_l2Child.l0 k l0 a2 a1 a1) = some r := h; clear h; have H' := Aside0.mk H; clear H; go_enter Tryd.func122, Tryd.ntmps122; go_wp2; repeat (go_quiet (fail); try go_wp2)
 go_loopg [7, 8] k (fun kq v7 v8 w' => ∃ (x7_1 : Int) (x8_1 : Int), v7 = .int .i64 x7_1 ∧ v8 = .int .i64 x8_1 ∧ Aside0 (spec_l2Child.l0 kq l0 a2 x7_1 x8_1 = some r) ∧ Aside0 (kq ≤ k) ∧ Drawn0 w w')
 case atStart => exact ⟨(a1), (a1), (by first | rfl | (simp; done) | (simp [*]; done)), (by first | rfl | (simp; done) | (simp [*]; done)), H', ⟨Nat.le_refl _⟩, by repeat (first | exact Drawn0.refl _ | apply Drawn0.step)⟩
 case round =>
  clear H'; (try clear c1); (try clear p2); obtain ⟨x7_1, x8_1, rfl, rfl, HA, HK1, ⟨m1, rfl⟩⟩ := hrel
  cases gk with
  | zero => exact absurd HA.out (by simp [spec_l2Child.l0])
  | succ k1 =>
   have H := HA.out; clear HA; simp only [spec_l2Child.l0] at H; by_cases c4 : x8_1 < a2
   ·rw [if_pos c4] at H
    have c4b0 : decide (x8_1 < a2) = true := decide_eq_true c4; clear c4; by_cases c5 : 0 ≤ x8_1
    ·rw [if_pos c5] at H
     have c5b0 : decide (0 ≤ x8_1) = true := decide_eq_true c5; clear c5; by_cases c6 : x8_1 < (l0.length : Int)
     ·rw [if_pos c6] at H
      have c6b0 : decide (x8_1 < (l0.length : Int)) = true := decide_eq_true c6; clear c6; by_cases c7 : 0 ≤ x7_1
      ·rw [if_pos c7] at H
       have c7b0 : decide (0 ≤ x7_1) = true := decide_eq_true c7; clear c7; by_cases c8 : x7_1 < (l0.length : Int)
       ·rw [if_pos c8] at H
        have c8b0 : decide (x7_1 < (l0.length : Int)) = true := decide_eq_true c8; clear c8; by_cases c9 : ((rd_T54 l0 x8_1).f1) < ((rd_T54 l0 x7_1).f1)
        ·rw [if_pos c9] at H
         have c9b0 : decide (((rd_T54 l0 x8_1).f1) < ((rd_T54 l0 x7_1).f1)) = true := decide_eq_true c9; clear c9; have H' := Aside0.mk H; clear H; have p174 : 0 ≤ (x8_1 : Int) := of_decide_eq_true (by first | (with_reducible assumption) | assumption); have q174 : x8_1 < (l0.length : Int) := of_decide_eq_true (by first | (with_reducible assumption) | assumption); obtain ⟨ad174, e174, hx174_0, hx174_1, hx174_2, hx174_3⟩ := at_T54 HR0.out x8_1 p174 q174
         cases e174
         replace p174 := eq_true p174; replace q174 := eq_true q174; have p175 : 0 ≤ (x7_1 : Int) := of_decide_eq_true (by first | (with_reducible assumption) | assumption); have q175 : x7_1 < (l0.length : Int) := of_decide_eq_true (by first | (with_reducible assumption) | assumption); obtain ⟨ad175, e175, hx175_0, hx175_1, hx175_2, hx175_3⟩ := at_T54 HR0.out x7_1 p175 q175; obtain rfl : ad174 = ad175 := (by injection e175); replace p175 := eq_true p175; replace q175 := eq_true q175; go_wp2; repeat (go_quiet (fail); try go_wp2)
         go_roundg k1
         case measure => have := HK1.out; omega
         case rel => exact ⟨(x8_1), (wrap64 (x8_1 + 1)), (by first | rfl | (simp; done) | (simp [*]; done)), (by first | rfl | (simp; done) | (simp [*]; done)), H', ⟨by have := HK1.out; omega⟩, by repeat (first | exact Drawn0.refl _ | apply Drawn0.step)⟩
        ·rw [if_neg c9] at H
         have c9b0 : decide (((rd_T54 l0 x8_1).f1) < ((rd_T54 l0 x7_1).f1)) = false := decide_eq_false c9; clear c9; have H' := Aside0.mk H; clear H; have p174 : 0 ≤ (x8_1 : Int) := of_decide_eq_true (by first | (with_reducible assumption) | assumption); have q174 : x8_1 < (l0.length : Int) := of_decide_eq_true (by first | (with_reducible assumption) | assumption); obtain ⟨ad174, e174, hx174_0, hx174_1, hx174_2, hx174_3⟩ := at_T54 HR0.out x8_1 p174 q174
         cases e174
         replace p174 := eq_true p174; replace q174 := eq_true q174; have p175 : 0 ≤ (x7_1 : Int) := of_decide_eq_true (by first | (with_reducible assumption) | assumption); have q175 : x7_1 < (l0.length : Int) := of_decide_eq_true (by first | (with_reducible assumption) | assumption); obtain ⟨ad175, e175, hx175_0, hx175_1, hx175_2, hx175_3⟩ := at_T54 HR0.out x7_1 p175 q175; obtain rfl : ad174 = ad175 := (by injection e175); replace p175 := eq_true p175; replace q175 := eq_true q175; go_wp2; repeat (go_quiet (fail); try go_wp2)
         go_roundg k1
         case measure => have := HK1.out; omega
         case rel => exact ⟨(x7_1), (wrap64 (x8_1 + 1)), (by first | rfl | (simp; done) | (simp [*]; done)), (by first | rfl | (simp; done) | (simp [*]; done)), H', ⟨by have := HK1.out; omega⟩, by repeat (first | exact Drawn0.refl _ | apply Drawn0.step)⟩
       ·rw [if_neg c8] at H
        exact absurd H (by simp)
      ·rw [if_neg c7] at H
       exact absurd H (by simp)
     ·rw [if_neg c6] at H
      exact absurd H (by simp)
    ·rw [if_neg c5] at H
     exact absurd H (by simp)
   ·rw [if_neg c4] at H
    have c4b0 : decide (x8_1 < a2) = false := decide_eq_false c4; clear c4; obtain rfl := Option.some.inj H; go_wp2; repeat (go_quiet (fail); try go_wp2)
    go_ret; exact ⟨by first | rfl | (simp; done) | (simp [*]; done), by repeat (first | exact Drawn0.refl _ | apply Drawn0.step)⟩

def spec_l2Height.l0 : Nat → List (S54) → Int → Int → Int → Int → Option (Int)
 | 0, _, _, _, _, _ => none
 | k + 1, x0, x2, x7, x8, x9 => if x9 < x2 then (if 0 ≤ x9 then (if x9 < (x0.length : Int) then (if ((rd_T54 x0 x9).f1) < x7 then (if ((rd_T54 x0 x9).f1) > x8 then (spec_l2Height.l0 k x0 x2 ((rd_T54 x0 x9).f1) ((rd_T54 x0 x9).f1) (wrap64 (x9 + 1))) else (spec_l2Height.l0 k x0 x2 ((rd_T54 x0 x9).f1) x8 (wrap64 (x9 + 1)))) else (if ((rd_T54 x0 x9).f1) > x8 then (spec_l2Height.l0 k x0 x2 x7 ((rd_T54 x0 x9).f1) (wrap64 (x9 + 1))) else (spec_l2Height.l0 k x0 x2 x7 x8 (wrap64 (x9 + 1))))) else (none)) else (none)) else (some (wrap64 ((wrap64 (x8 - x7)) + 1)))
def spec_l2Height.f (k : Nat) (l0 : List (S54)) (a1 : Int) (a2 : Int) : Option (Int) := if a1 ≥ a2 then (some 0) else (if 0 ≤ a1 then (if a1 < (l0.length : Int) then (spec_l2Height.l0 k l0 a2 ((rd_T54 l0 a1).f1) ((rd_T54 l0 a1).f1) a1) else (none)) else (none))
theorem spec_l2Height.mono_l : ∀ k, (∀ y0 y1 y2 y3 y4, LeO (spec_l2Height.l0 k y0 y1 y2 y3 y4) (spec_l2Height.l0 (k + 1) y0 y1 y2 y3 y4))
 | 0 => fun _ _ _ _ _ r h => by simp [spec_l2Height.l0] at h
 | k + 1 => by
  have ih0 := spec_l2Height.mono_l k
  ·intro y0 y1 y2 y3 y4
   unfold spec_l2Height.l0
   repeat' first
   | (with_reducible exact ih0 _ _ _ _ _)
   | (with_reducible exact LeO.refl _)
   | (with_reducible exact LeO.none _)
   | (with_reducible refine LeO.ite ?_ ?_)
   | (with_reducible refine LeO.bind ?_ (fun _ => ?_))
   | exact ih0 _ _ _ _ _
   | exact LeO.none _
   | refine LeO.ite ?_ ?_
   | refine LeO.bind ?_ (fun _ => ?_)
theorem spec_l2Height.mono : ∀ a0 a1 a2 k, LeO (spec_l2Height.f k a0 a1 a2) (spec_l2Height.f (k + 1) a0 a1 a2) := by
 intro a0 a1 a2 k; have ih0 := spec_l2Height.mono_l k; unfold spec_l2Height.f
 repeat' first
   | (with_reducible exact ih0 _ _ _ _ _)
   | (with_reducible exact LeO.refl _)
   | (with_reducible exact LeO.none _)
   | (with_reducible refine LeO.ite ?_ ?_)
   | (with_reducible refine LeO.bind ?_ (fun _ => ?_))
   | exact ih0 _ _ _ _ _
   | exact LeO.none _
   | refine LeO.ite ?_ ?_
   | refine LeO.bind ?_ (fun _ => ?_)
set_option maxHeartbeats 8000000 in
theorem spec_l2Height.calls (k : Nat) (A0 : Option Addr) (c0 : Nat) (l0 : List (S54)) (a1 : Int) (a2 : Int) (r : Int) (w : World) (hr0 : Kd.C k54 w A0 l0.length l0) (hc0 : l0.length ≤ c0) (h : spec_l2Height.f k l0 a1 a2 = some r) :
  Calls Tryd.prog 138 #[.slice A0 l0.length c0, .int .i64 a1, .int .i64 a2] w fun e w' => e = .returned (.int .i64 r) ∧ Drawn0 w w' := by
 have HR0 := Aside0.mk hr0; have HC0 := Aside0.mk hc0; clear hr0 hc0; have H : (if a1 ≥ a2 then (some 0) else (if 0 ≤ a1 then (if a1 < (l0.length : Int) then (spec_l2Height.l0 k l0 a2 ((rd_T54 l0 a1).f1) ((rd_T54 l0 a1).f1) a1) else (none)) else (none))) = some r := h; clear h; by_cases c4 : a1 ≥ a2
 ·rw [if_pos c4] at H
  have c4b0 : decide (a2 ≤ a1) = true := decide_eq_true c4; clear c4; obtain rfl := Option.some.inj H; go_enter Tryd.func138, Tryd.ntmps138; go_wp2; go_ret; exact ⟨by first | rfl | (simp; done) | (simp [*]; done), by repeat (first | exact Drawn0.refl _ | apply Drawn0.step)⟩
 ·rw [if_neg c4] at H
  have c4b0 : decide (a2 ≤ a1) = false := decide_eq_false c4; clear c4; by_cases c5 : 0 ≤ a1
  ·rw [if_pos c5] at H
   have c5b0 : decide (0 ≤ a1) = true := decide_eq_true c5; clear c5; by_cases c6 : a1 < (l0.length : Int)
   ·rw [if_pos c6] at H
    have c6b0 : decide (a1 < (l0.length : Int)) = true := decide_eq_true c6; clear c6; have H' := Aside0.mk H; clear H; have p176 : 0 ≤ (a1 : Int) := of_decide_eq_true (by first | (with_reducible assumption) | assumption); have q176 : a1 < (l0.length : Int) := of_decide_eq_true (by first | (with_reducible assumption) | assumption); obtain ⟨ad176, e176, hx176_0, hx176_1, hx176_2, hx176_3⟩ := at_T54 HR0.out a1 p176 q176
    cases e176
    replace p176 := eq_true p176; replace q176 := eq_true q176; have p177 : 0 ≤ (a1 : Int) := of_decide_eq_true (by first | (with_reducible assumption) | assumption); have q177 : a1 < (l0.length : Int) := of_decide_eq_true (by first | (with_reducible assumption) | assumption); obtain ⟨ad177, e177, hx177_0, hx177_1, hx177_2, hx177_3⟩ := at_T54 HR0.out a1 p177 q177; obtain rfl : ad176 = ad177 := (by injection e177); replace p177 := eq_true p177; replace q177 := eq_true q177; go_enter Tryd.func138, Tryd.ntmps138; go_wp2; go_loopg [7, 8, 9] k (fun kq v7 v8 v9 w' => ∃ (x7_1 : Int) (x8_1 : Int) (x9_1 : Int), v7 = .int .i64 x7_1 ∧ v8 = .int .i64 x8_1 ∧ v9 = .int .i64 x9_1 ∧ Aside0 (spec_l2Height.l0 kq l0 a2 x7_1 x8_1 x9_1 = some r) ∧ Aside0 (kq ≤ k) ∧ Drawn0 w w')
    case atStart => exact ⟨((rd_T54 l0 a1).f1), ((rd_T54 l0 a1).f1), (a1), (by first | rfl | (simp; done) | (simp [*]; done)), (by first | rfl | (simp; done) | (simp [*]; done)), (by first | rfl | (simp; done) | (simp [*]; done)), H', ⟨Nat.le_refl _⟩, by repeat (first | exact Drawn0.refl _ | apply Drawn0.step)⟩
    case round =>
     clear H'; (try clear c1); (try clear p1); (try clear q1); (try clear hx1); (try clear p2); (try clear c4); (try clear c4b0); (try clear c5); (try clear c5b0); (try clear c6); (try clear c6b0); (try clear hx176_0); (try clear hx176_1); (try clear hx176_2); (try clear hx176_3); (try clear hx177_0); (try clear hx177_1); (try clear hx177_2); (try clear hx177_3); (try clear p176); (try clear p177); (try clear q176); (try clear q177); obtain ⟨x7_1, x8_1, x9_1, rfl, rfl, rfl, HA, HK1, ⟨m1, rfl⟩⟩ := hrel
     cases gk with
     | zero => exact absurd HA.out (by simp [spec_l2Height.l0])
     | succ k1 =>
      have H := HA.out; clear HA; simp only [spec_l2Height.l0] at H; by_cases c7 : x9_1 < a2
      ·rw [if_pos c7] at H
       have c7b0 : decide (x9_1 < a2) = true := decide_eq_true c7; clear c7; by_cases c8 : 0 ≤ x9_1
       ·rw [if_pos c8] at H
        have c8b0 : decide (0 ≤ x9_1) = true := decide_eq_true c8; clear c8; by_cases c9 : x9_1 < (l0.length : Int)
        ·rw [if_pos c9] at H
         have c9b0 : decide (x9_1 < (l0.length : Int)) = true := decide_eq_true c9; clear c9; by_cases c10 : ((rd_T54 l0 x9_1).f1) < x7_1
         ·rw [if_pos c10] at H
          have c10b0 : decide (((rd_T54 l0 x9_1).f1) < x7_1) = true := decide_eq_true c10; clear c10; by_cases c11 : ((rd_T54 l0 x9_1).f1) > x8_1
          ·rw [if_pos c11] at H
           have c11b0 : decide (x8_1 < ((rd_T54 l0 x9_1).f1)) = true := decide_eq_true c11; clear c11; have H' := Aside0.mk H; clear H; have p178 : 0 ≤ (x9_1 : Int) := of_decide_eq_true (by first | (with_reducible assumption) | assumption); have q178 : x9_1 < (l0.length : Int) := of_decide_eq_true (by first | (with_reducible assumption) | assumption); obtain ⟨ad178, e178, hx178_0, hx178_1, hx178_2, hx178_3⟩ := at_T54 HR0.out x9_1 p178 q178; obtain rfl : ad176 = ad178 := (by injection e178); replace p178 := eq_true p178; replace q178 := eq_true q178; have p179 : 0 ≤ (x9_1 : Int) := of_decide_eq_true (by first | (with_reducible assumption) | assumption); have q179 : x9_1 < (l0.length : Int) := of_decide_eq_true (by first | (with_reducible assumption) | assumption); obtain ⟨ad179, e179, hx179_0, hx179_1, hx179_2, hx179_3⟩ := at_T54 HR0.out x9_1 p179 q179; obtain rfl : ad176 = ad179 := (by injection e179); replace p179 := eq_true p179; replace q179 := eq_true q179; have p180 : 0 ≤ (x9_1 : Int) := of_decide_eq_true (by first | (with_reducible assumption) | assumption); have q180 : x9_1 < (l0.length : Int) := of_decide_eq_true (by first | (with_reducible assumption) | assumption); obtain ⟨ad180, e180, hx180_0, hx180_1, hx180_2, hx180_3⟩ := at_T54 HR0.out x9_1 p180 q180; obtain rfl : ad176 = ad180 := (by injection e180); replace p180 := eq_true p180; replace q180 := eq_true q180; have p181 : 0 ≤ (x9_1 : Int) := of_decide_eq_true (by first | (with_reducible assumption) | assumption); have q181 : x9_1 < (l0.length : Int) := of_decide_eq_true (by first | (with_reducible assumption) | assumption); obtain ⟨ad181, e181, hx181_0, hx181_1, hx181_2, hx181_3⟩ := at_T54 HR0.out x9_1 p181 q181; obtain rfl : ad176 = ad181 := (by injection e181); replace p181 := eq_true p181; replace q181 := eq_true q181; go_wp2; go_roundg k1
           case measure => have := HK1.out; omega
           case rel => exact ⟨((rd_T54 l0 x9_1).f1), ((rd_T54 l0 x9_1).f1), (wrap64 (x9_1 + 1)), (by first | rfl | (simp; done) | (simp [*]; done)), (by first | rfl | (simp; done) | (simp [*]; done)), (by first | rfl | (simp; done) | (simp [*]; done)), H', ⟨by have := HK1.out; omega⟩, by repeat (first | exact Drawn0.refl _ | apply Drawn0.step)⟩
          ·rw [if_neg c11] at H
           have c11b0 : decide (x8_1 < ((rd_T54 l0 x9_1).f1)) = false := decide_eq_false c11; clear c11; have H' := Aside0.mk H; clear H; have p178 : 0 ≤ (x9_1 : Int) := of_decide_eq_true (by first | (with_reducible assumption) | assumption); have q178 : x9_1 < (l0.length : Int) := of_decide_eq_true (by first | (with_reducible assumption) | assumption); obtain ⟨ad178, e178, hx178_0, hx178_1, hx178_2, hx178_3⟩ := at_T54 HR0.out x9_1 p178 q178; obtain rfl : ad176 = ad178 := (by injection e178); replace p178 := eq_true p178; replace q178 := eq_true q178; have p179 : 0 ≤ (x9_1 : Int) := of_decide_eq_true (by first | (with_reducible assumption) | assumption); have q179 : x9_1 < (l0.length : Int) := of_decide_eq_true (by first | (with_reducible assumption) | assumption); obtain ⟨ad179, e179, hx179_0, hx179_1, hx179_2, hx179_3⟩ := at_T54 HR0.out x9_1 p179 q179; obtain rfl : ad176 = ad179 := (by injection e179); replace p179 := eq_true p179; replace q179 := eq_true q179; have p180 : 0 ≤ (x9_1 : Int) := of_decide_eq_true (by first | (with_reducible assumption) | assumption); have q180 : x9_1 < (l0.length : Int) := of_decide_eq_true (by first | (with_reducible assumption) | assumption); obtain ⟨ad180, e180, hx180_0, hx180_1, hx180_2, hx180_3⟩ := at_T54 HR0.out x9_1 p180 q180; obtain rfl : ad176 = ad180 := (by injection e180); replace p180 := eq_true p180; replace q180 := eq_true q180; go_wp2; go_roundg k1
           case measure => have := HK1.out; omega
           case rel => exact ⟨((rd_T54 l0 x9_1).f1), (x8_1), (wrap64 (x9_1 + 1)), (by first | rfl | (simp; done) | (simp [*]; done)), (by first | rfl | (simp; done) | (simp [*]; done)), (by first | rfl | (simp; done) | (simp [*]; done)), H', ⟨by have := HK1.out; omega⟩, by repeat (first | exact Drawn0.refl _ | apply Drawn0.step)⟩
         ·rw [if_neg c10] at H
          have c10b0 : decide (((rd_T54 l0 x9_1).f1) < x7_1) = false := decide_eq_false c10; clear c10; by_cases c12 : ((rd_T54 l0 x9_1).f1) > x8_1
          ·rw [if_pos c12] at H
           have c12b0 : decide (x8_1 < ((rd_T54 l0 x9_1).f1)) = true := decide_eq_true c12; clear c12; have H' := Aside0.mk H; clear H; have p178 : 0 ≤ (x9_1 : Int) := of_decide_eq_true (by first | (with_reducible assumption) | assumption); have q178 : x9_1 < (l0.length : Int) := of_decide_eq_true (by first | (with_reducible assumption) | assumption); obtain ⟨ad178, e178, hx178_0, hx178_1, hx178_2, hx178_3⟩ := at_T54 HR0.out x9_1 p178 q178; obtain rfl : ad176 = ad178 := (by injection e178); replace p178 := eq_true p178; replace q178 := eq_true q178; have p182 : 0 ≤ (x9_1 : Int) := of_decide_eq_true (by first | (with_reducible assumption) | assumption); have q182 : x9_1 < (l0.length : Int) := of_decide_eq_true (by first | (with_reducible assumption) | assumption); obtain ⟨ad182, e182, hx182_0, hx182_1, hx182_2, hx182_3⟩ := at_T54 HR0.out x9_1 p182 q182; obtain rfl : ad176 = ad182 := (by injection e182); replace p182 := eq_true p182; replace q182 := eq_true q182; have p183 : 0 ≤ (x9_1 : Int) := of_decide_eq_true (by first | (with_reducible assumption) | assumption); have q183 : x9_1 < (l0.length : Int) := of_decide_eq_true (by first | (with_reducible assumption) | assumption); obtain ⟨ad183, e183, hx183_0, hx183_1, hx183_2, hx183_3⟩ := at_T54 HR0.out x9_1 p183 q183; obtain rfl : ad176 = ad183 := (by injection e183); replace p183 := eq_true p183; replace q183 := eq_true q183; go_wp2; go_roundg k1
           case measure => have := HK1.out; omega
           case rel => exact ⟨(x7_1), ((rd_T54 l0 x9_1).f1), (wrap64 (x9_1 + 1)), (by first | rfl | (simp; done) | (simp [*]; done)), (by first | rfl | (simp; done) | (simp [*]; done)), (by first | rfl | (simp; done) | (simp [*]; done)), H', ⟨by have := HK1.out; omega⟩, by repeat (first | exact Drawn0.refl _ | apply Drawn0.step)⟩
          ·rw [if_neg c12] at H
           have c12b0 : decide (x8_1 < ((rd_T54 l0 x9_1).f1)) = false := decide_eq_false c12; clear c12; have H' := Aside0.mk H; clear H; have p178 : 0 ≤ (x9_1 : Int) := of_decide_eq_true (by first | (with_reducible assumption) | assumption); have q178 : x9_1 < (l0.length : Int) := of_decide_eq_true (by first | (with_reducible assumption) | assumption); obtain ⟨ad178, e178, hx178_0, hx178_1, hx178_2, hx178_3⟩ := at_T54 HR0.out x9_1 p178 q178; obtain rfl : ad176 = ad178 := (by injection e178); replace p178 := eq_true p178; replace q178 := eq_true q178; have p182 : 0 ≤ (x9_1 : Int) := of_decide_eq_true (by first | (with_reducible assumption) | assumption); have q182 : x9_1 < (l0.length : Int) := of_decide_eq_true (by first | (with_reducible assumption) | assumption); obtain ⟨ad182, e182, hx182_0, hx182_1, hx182_2, hx182_3⟩ := at_T54 HR0.out x9_1 p182 q182; obtain rfl : ad176 = ad182 := (by injection e182); replace p182 := eq_true p182; replace q182 := eq_true q182; go_wp2; go_roundg k1
           case measure => have := HK1.out; omega
           case rel => exact ⟨(x7_1), (x8_1), (wrap64 (x9_1 + 1)), (by first | rfl | (simp; done) | (simp [*]; done)), (by first | rfl | (simp; done) | (simp [*]; done)), (by first | rfl | (simp; done) | (simp [*]; done)), H', ⟨by have := HK1.out; omega⟩, by repeat (first | exact Drawn0.refl _ | apply Drawn0.step)⟩
        ·rw [if_neg c9] at H
         exact absurd H (by simp)
       ·rw [if_neg c8] at H
        exact absurd H (by simp)
      ·rw [if_neg c7] at H
       have c7b0 : decide (x9_1 < a2) = false := decide_eq_false c7; clear c7; obtain rfl := Option.some.inj H; go_wp2; go_ret; exact ⟨by first | rfl | (simp; done) | (simp [*]; done), by repeat (first | exact Drawn0.refl _ | apply Drawn0.step)⟩
   ·rw [if_neg c6] at H
    exact absurd H (by simp)
  ·rw [if_neg c5] at H
   exact absurd H (by simp)

end Go.Proofs.YtciabhncmdpeeaaDoor.QFnExactTreeJoin
