/- What the law FnStore reaches: each function as a plain function, and that the machine's call does it (written by a program). The condition, where there is one: errors.errorType reads as laid. -/
import Derived.Test.YtefdjajmnkmbgaaDoorQFnStorex0
import Derived.Test.YtefdjajmnkmbgaaDoorQFnStorex2
namespace Go.Proofs.YtefdjajmnkmbgaaDoor.QFnStore
open Go.Proofs.YtefdjajmnkmbgaaDoor.Er
open Go.RowKit Go.Proofs.YtefdjajmnkmbgaaDoorW.PrintWords Go.Proofs.YtefdjajmnkmbgaaDoorW.PrintLast Go.Proofs.YtefdjajmnkmbgaaDoorW.PrintMore
attribute [local go_sem] max2_int min2_int max_two min_two max_three min_three max_four min_four   -- for this text's walks alone
set_option linter.unusedVariables false
set_option linter.unusedSimpArgs false

/-! ### spec_l1Same: function 85 -/
def spec_l1Same.f (l0 : List Int) (l1 : List Int) : Option (Bool) := some ((strOfNums l0).toList == (strOfNums l1).toList)
set_option maxHeartbeats 8000000 in
set_option maxRecDepth 100000 in
theorem spec_l1Same.calls (A0 : Option Addr) (c0 : Nat) (l0 : List Int) (A1 : Option Addr) (c1 : Nat) (l1 : List Int) (r : Bool) (w : World) (hr0 : Kd.C (Kd.int .u8) w A0 l0.length l0) (hc0 : l0.length ≤ c0) (hr1 : Kd.C (Kd.int .u8) w A1 l1.length l1) (hc1 : l1.length ≤ c1) (h : spec_l1Same.f l0 l1 = some r) :
    Calls Tryd.prog 85 #[.slice A0 l0.length c0, .slice A1 l1.length c1] w fun e w' => e = .returned (.bool r) ∧ Drawn0 w w' := by
  have HR0 := Aside0.mk hr0
  have HC0 := Aside0.mk hc0
  clear hr0 hc0
  have HR1 := Aside0.mk hr1
  have HC1 := Aside0.mk hc1
  clear hr1 hc1
  have H : (some ((strOfNums l0).toList == (strOfNums l1).toList)) = some r := h
  clear h
  obtain rfl := Option.some.inj H
  have hcv3 := Kd.C_string (P := Tryd.prog) (A := A0) (c := c0) Tryd.underlying24 Tryd.underlying5 Tryd.underlying9 HR0.out
  have hcv4 := Kd.C_string (P := Tryd.prog) (A := A1) (c := c1) Tryd.underlying24 Tryd.underlying5 Tryd.underlying9 HR1.out
  go_enter Tryd.func85, Tryd.ntmps85
  go_wp2
  go_ret
  exact ⟨by first | rfl | (simp; done) | (simp [*]; done), by repeat (first | exact Drawn0.refl _ | apply Drawn0.step)⟩

/-! ### spec_l1Form: function 73 -/
def spec_l1Form.j0 : Nat → List Int → Int → Option (Int × Bool)
  | 0, _, _ => none
  | k + 1, x0, x4 => if x4 < 0 then (some (0, false)) else ((spec_l1Bytes.f k x4).bind fun t291 => ((spec_l1Same.f t291 x0).bind fun t294 => (some (x4, t294))))
def spec_l1Form.f (k : Nat) (l0 : List Int) : Option (Int × Bool) := if (l0.length : Int) = 1 then (if 0 < (l0.length : Int) then (spec_l1Form.j0 k l0 (wrap64 (rd l0 0))) else (none)) else (if (l0.length : Int) = 2 then (if 0 < (l0.length : Int) then (if 1 < (l0.length : Int) then (spec_l1Form.j0 k l0 (wrap64 ((wrap64 ((wrap64 ((wrap64 ((wrap64 (rd l0 0)) - 192)) * 64)) + (wrap64 (rd l0 1)))) - 128))) else (none)) else (none)) else (if (l0.length : Int) = 3 then (if 0 < (l0.length : Int) then (if 1 < (l0.length : Int) then (if 2 < (l0.length : Int) then (spec_l1Form.j0 k l0 (wrap64 ((wrap64 ((wrap64 ((wrap64 ((wrap64 ((wrap64 (rd l0 0)) - 224)) * 4096)) + (wrap64 ((wrap64 ((wrap64 (rd l0 1)) - 128)) * 64)))) + (wrap64 (rd l0 2)))) - 128))) else (none)) else (none)) else (none)) else (if (l0.length : Int) = 4 then (if 0 < (l0.length : Int) then (if 1 < (l0.length : Int) then (if 2 < (l0.length : Int) then (if 3 < (l0.length : Int) then (spec_l1Form.j0 k l0 (wrap64 ((wrap64 ((wrap64 ((wrap64 ((wrap64 ((wrap64 ((wrap64 (rd l0 0)) - 240)) * 262144)) + (wrap64 ((wrap64 ((wrap64 (rd l0 1)) - 128)) * 4096)))) + (wrap64 ((wrap64 ((wrap64 (rd l0 2)) - 128)) * 64)))) + (wrap64 (rd l0 3)))) - 128))) else (none)) else (none)) else (none)) else (none)) else (spec_l1Form.j0 k l0 (-1)))))
theorem spec_l1Form.mono_l : ∀ k, (∀ y0 y1, LeO (spec_l1Form.j0 k y0 y1) (spec_l1Form.j0 (k + 1) y0 y1))
  | 0 => fun _ _ r h => by simp [spec_l1Form.j0] at h
  | k + 1 => by
    have ih0 := spec_l1Form.mono_l k
    · intro y0 y1
      unfold spec_l1Form.j0
      repeat' first
      | (with_reducible exact ih0 _ _)
      | (with_reducible exact spec_l1Bytes.mono _ _)
      | (with_reducible exact LeO.refl _)
      | (with_reducible exact LeO.none _)
      | (with_reducible refine LeO.ite ?_ ?_)
      | (with_reducible refine LeO.bind ?_ (fun _ => ?_))
      | exact ih0 _ _
      | exact spec_l1Bytes.mono _ _
      | exact LeO.none _
      | refine LeO.ite ?_ ?_
      | refine LeO.bind ?_ (fun _ => ?_)
theorem spec_l1Form.mono : ∀ a0 k, LeO (spec_l1Form.f k a0) (spec_l1Form.f (k + 1) a0) := by
  intro a0 k
  have ih0 := spec_l1Form.mono_l k
  unfold spec_l1Form.f
  repeat' first
      | (with_reducible exact ih0 _ _)
      | (with_reducible exact spec_l1Bytes.mono _ _)
      | (with_reducible exact LeO.refl _)
      | (with_reducible exact LeO.none _)
      | (with_reducible refine LeO.ite ?_ ?_)
      | (with_reducible refine LeO.bind ?_ (fun _ => ?_))
      | exact ih0 _ _
      | exact spec_l1Bytes.mono _ _
      | exact LeO.none _
      | refine LeO.ite ?_ ?_
      | refine LeO.bind ?_ (fun _ => ?_)
set_option maxHeartbeats 8000000 in
set_option maxRecDepth 100000 in
theorem spec_l1Form.calls (k : Nat) (A0 : Option Addr) (c0 : Nat) (l0 : List Int) (r1 : Int) (r2 : Bool) (w : World) (hr0 : Kd.C (Kd.int .u8) w A0 l0.length l0) (hc0 : l0.length ≤ c0) (h : spec_l1Form.f k l0 = some (r1, r2)) :
    Calls Tryd.prog 73 #[.slice A0 l0.length c0] w fun e w' => e = .returned (.tuple #[.int .i64 r1, .bool r2]) ∧ Below w.heap.size w w' := by
  have HR0 := Aside0.mk hr0
  have HC0 := Aside0.mk hc0
  clear hr0 hc0
  have HB := Aside0.mk (Below.refl w.heap.size w)
  have H : (if (l0.length : Int) = 1 then (if 0 < (l0.length : Int) then (spec_l1Form.j0 k l0 (wrap64 (rd l0 0))) else (none)) else (if (l0.length : Int) = 2 then (if 0 < (l0.length : Int) then (if 1 < (l0.length : Int) then (spec_l1Form.j0 k l0 (wrap64 ((wrap64 ((wrap64 ((wrap64 ((wrap64 (rd l0 0)) - 192)) * 64)) + (wrap64 (rd l0 1)))) - 128))) else (none)) else (none)) else (if (l0.length : Int) = 3 then (if 0 < (l0.length : Int) then (if 1 < (l0.length : Int) then (if 2 < (l0.length : Int) then (spec_l1Form.j0 k l0 (wrap64 ((wrap64 ((wrap64 ((wrap64 ((wrap64 ((wrap64 (rd l0 0)) - 224)) * 4096)) + (wrap64 ((wrap64 ((wrap64 (rd l0 1)) - 128)) * 64)))) + (wrap64 (rd l0 2)))) - 128))) else (none)) else (none)) else (none)) else (if (l0.length : Int) = 4 then (if 0 < (l0.length : Int) then (if 1 < (l0.length : Int) then (if 2 < (l0.length : Int) then (if 3 < (l0.length : Int) then (spec_l1Form.j0 k l0 (wrap64 ((wrap64 ((wrap64 ((wrap64 ((wrap64 ((wrap64 ((wrap64 (rd l0 0)) - 240)) * 262144)) + (wrap64 ((wrap64 ((wrap64 (rd l0 1)) - 128)) * 4096)))) + (wrap64 ((wrap64 ((wrap64 (rd l0 2)) - 128)) * 64)))) + (wrap64 (rd l0 3)))) - 128))) else (none)) else (none)) else (none)) else (none)) else (spec_l1Form.j0 k l0 (-1)))))) = some (r1, r2) := h
  clear h
  have HC2 := Aside0.mk H
  clear H
  go_enter Tryd.func73, Tryd.ntmps73
  go_upto_block 0 with (fail)
  repeat (go_quiet (fail); go_upto_block 0 with (fail))
  go_cut [4] (fun v4 wc => ∃ (kq : Nat) (x4_1 : Int), v4 = .int .i64 x4_1 ∧ Aside0 (spec_l1Form.j0 kq l0 x4_1 = some (r1, r2)) ∧ Aside0 (kq ≤ k) ∧ Aside0 (Below w.heap.size w wc))
  case first =>
    have H := HC2.out
    clear HC2
    by_cases c3 : (l0.length : Int) = 1
    · rw [if_pos c3] at H
      have c3b0 : ((l0.length : Int) == 1) = true := beq_iff_eq.mpr c3
      have c3b1 : ((l0.length : Int) != 1) = false := bne_eq_false_iff_eq.mpr c3
      clear c3
      (first | rw [c3b0] | (simp only [i64_w, i32_w]; rw [c3b0]) | skip)
      by_cases c4 : 0 < (l0.length : Int)
      · rw [if_pos c4] at H
        have c4b0 : decide (0 < (l0.length : Int)) = true := decide_eq_true c4
        have c4b1 : decide (0 < l0.length) = true := decide_eq_true (by omega)
        clear c4
        have H' := Aside0.mk H
        clear H
        have p281 : 0 ≤ (0 : Int) := (by omega)
        have q281 : 0 < (l0.length : Int) := of_decide_eq_true (by first | (with_reducible assumption) | assumption)
        obtain ⟨ad281, e281, hx281_0⟩ := Kd.at_int HR0.out 0 p281 q281
        cases e281
        have qi281 : (0 < l0.length) = True := eq_true (by omega)
        (try rw [show ((0 : Int)).toNat = 0 from rfl] at hx281_0)
        (try rw [Addr.add_zero'] at hx281_0)
        replace hx281_0 := (HB.out.cell (World.block_lt_of_cell? w _ hx281_0)).trans hx281_0
        replace p281 := eq_true p281
        replace q281 := eq_true q281
        go_wp2
        repeat (go_quiet (fail); try go_wp2)
        go_meet
        case rel => exact ⟨_, (wrap64 (rd l0 0)), (by first | rfl | (simp; done) | (simp [*]; done)), H', ⟨by first | omega | exact Nat.le_refl _⟩, ⟨by repeat (first | (with_reducible first | exact HB.out | apply below_alloc | apply pw_below_drewN | apply below_drew1) | exact HB.out)⟩⟩
      · rw [if_neg c4] at H
        exact absurd H (by simp)
    · rw [if_neg c3] at H
      have c3b0 : ((l0.length : Int) == 1) = false := beq_eq_false_iff_ne.mpr c3
      have c3b1 : ((l0.length : Int) != 1) = true := bne_iff_ne.mpr c3
      (first | rw [c3b0] | (simp only [i64_w, i32_w]; rw [c3b0]) | skip)
      by_cases c5 : (l0.length : Int) = 2
      · rw [if_pos c5] at H
        have c5b0 : ((l0.length : Int) == 2) = true := beq_iff_eq.mpr c5
        have c5b1 : ((l0.length : Int) != 2) = false := bne_eq_false_iff_eq.mpr c5
        clear c5
        by_cases c6 : 0 < (l0.length : Int)
        · rw [if_pos c6] at H
          have c6b0 : decide (0 < (l0.length : Int)) = true := decide_eq_true c6
          have c6b1 : decide (0 < l0.length) = true := decide_eq_true (by omega)
          clear c6
          by_cases c7 : 1 < (l0.length : Int)
          · rw [if_pos c7] at H
            have c7b0 : decide (1 < (l0.length : Int)) = true := decide_eq_true c7
            have c7b1 : decide (1 < l0.length) = true := decide_eq_true (by omega)
            clear c7
            have H' := Aside0.mk H
            clear H
            have p282 : 0 ≤ (0 : Int) := (by omega)
            have q282 : 0 < (l0.length : Int) := of_decide_eq_true (by first | (with_reducible assumption) | assumption)
            obtain ⟨ad282, e282, hx282_0⟩ := Kd.at_int HR0.out 0 p282 q282
            cases e282
            have qi282 : (0 < l0.length) = True := eq_true (by omega)
            (try rw [show ((0 : Int)).toNat = 0 from rfl] at hx282_0)
            (try rw [Addr.add_zero'] at hx282_0)
            replace hx282_0 := (HB.out.cell (World.block_lt_of_cell? w _ hx282_0)).trans hx282_0
            replace p282 := eq_true p282
            replace q282 := eq_true q282
            have p283 : 0 ≤ (1 : Int) := (by omega)
            have q283 : 1 < (l0.length : Int) := of_decide_eq_true (by first | (with_reducible assumption) | assumption)
            obtain ⟨ad283, e283, hx283_0⟩ := Kd.at_int HR0.out 1 p283 q283
            obtain rfl : ad282 = ad283 := (by injection e283)
            (try simp only [show (1 : Int).toNat = 1 from rfl, Nat.reduceMul, Nat.reduceEqDiff, Go.Addr.add, ↓reduceIte] at hx283_0)
            have qi283 : (1 < l0.length) = True := eq_true (by omega)
            (try rw [show ((1 : Int)).toNat = 1 from rfl] at hx283_0)
            replace hx283_0 := (HB.out.cell (World.block_lt_of_cell? w _ hx283_0)).trans hx283_0
            replace p283 := eq_true p283
            replace q283 := eq_true q283
            go_wp2
            repeat (go_quiet (fail); try go_wp2)
            go_meet
            case rel => exact ⟨_, (wrap64 ((wrap64 ((wrap64 ((wrap64 ((wrap64 (rd l0 0)) - 192)) * 64)) + (wrap64 (rd l0 1)))) - 128)), (by first | rfl | (simp; done) | (simp [*]; done)), H', ⟨by first | omega | exact Nat.le_refl _⟩, ⟨by repeat (first | (with_reducible first | exact HB.out | apply below_alloc | apply pw_below_drewN | apply below_drew1) | exact HB.out)⟩⟩
          · rw [if_neg c7] at H
            exact absurd H (by simp)
        · rw [if_neg c6] at H
          exact absurd H (by simp)
      · rw [if_neg c5] at H
        have c5b0 : ((l0.length : Int) == 2) = false := beq_eq_false_iff_ne.mpr c5
        have c5b1 : ((l0.length : Int) != 2) = true := bne_iff_ne.mpr c5
        by_cases c8 : (l0.length : Int) = 3
        · rw [if_pos c8] at H
          have c8b0 : ((l0.length : Int) == 3) = true := beq_iff_eq.mpr c8
          have c8b1 : ((l0.length : Int) != 3) = false := bne_eq_false_iff_eq.mpr c8
          clear c8
          by_cases c9 : 0 < (l0.length : Int)
          · rw [if_pos c9] at H
            have c9b0 : decide (0 < (l0.length : Int)) = true := decide_eq_true c9
            have c9b1 : decide (0 < l0.length) = true := decide_eq_true (by omega)
            clear c9
            by_cases c10 : 1 < (l0.length : Int)
            · rw [if_pos c10] at H
              have c10b0 : decide (1 < (l0.length : Int)) = true := decide_eq_true c10
              have c10b1 : decide (1 < l0.length) = true := decide_eq_true (by omega)
              clear c10
              by_cases c11 : 2 < (l0.length : Int)
              · rw [if_pos c11] at H
                have c11b0 : decide (2 < (l0.length : Int)) = true := decide_eq_true c11
                have c11b1 : decide (2 < l0.length) = true := decide_eq_true (by omega)
                clear c11
                have H' := Aside0.mk H
                clear H
                have p284 : 0 ≤ (0 : Int) := (by omega)
                have q284 : 0 < (l0.length : Int) := of_decide_eq_true (by first | (with_reducible assumption) | assumption)
                obtain ⟨ad284, e284, hx284_0⟩ := Kd.at_int HR0.out 0 p284 q284
                cases e284
                have qi284 : (0 < l0.length) = True := eq_true (by omega)
                (try rw [show ((0 : Int)).toNat = 0 from rfl] at hx284_0)
                (try rw [Addr.add_zero'] at hx284_0)
                replace hx284_0 := (HB.out.cell (World.block_lt_of_cell? w _ hx284_0)).trans hx284_0
                replace p284 := eq_true p284
                replace q284 := eq_true q284
                have p285 : 0 ≤ (1 : Int) := (by omega)
                have q285 : 1 < (l0.length : Int) := of_decide_eq_true (by first | (with_reducible assumption) | assumption)
                obtain ⟨ad285, e285, hx285_0⟩ := Kd.at_int HR0.out 1 p285 q285
                obtain rfl : ad284 = ad285 := (by injection e285)
                (try simp only [show (1 : Int).toNat = 1 from rfl, Nat.reduceMul, Nat.reduceEqDiff, Go.Addr.add, ↓reduceIte] at hx285_0)
                have qi285 : (1 < l0.length) = True := eq_true (by omega)
                (try rw [show ((1 : Int)).toNat = 1 from rfl] at hx285_0)
                replace hx285_0 := (HB.out.cell (World.block_lt_of_cell? w _ hx285_0)).trans hx285_0
                replace p285 := eq_true p285
                replace q285 := eq_true q285
                have p286 : 0 ≤ (2 : Int) := (by omega)
                have q286 : 2 < (l0.length : Int) := of_decide_eq_true (by first | (with_reducible assumption) | assumption)
                obtain ⟨ad286, e286, hx286_0⟩ := Kd.at_int HR0.out 2 p286 q286
                obtain rfl : ad284 = ad286 := (by injection e286)
                (try simp only [show (2 : Int).toNat = 2 from rfl, Nat.reduceMul, Nat.reduceEqDiff, Go.Addr.add, ↓reduceIte] at hx286_0)
                have qi286 : (2 < l0.length) = True := eq_true (by omega)
                (try rw [show ((2 : Int)).toNat = 2 from rfl] at hx286_0)
                replace hx286_0 := (HB.out.cell (World.block_lt_of_cell? w _ hx286_0)).trans hx286_0
                replace p286 := eq_true p286
                replace q286 := eq_true q286
                go_wp2
                repeat (go_quiet (fail); try go_wp2)
                go_meet
                case rel => exact ⟨_, (wrap64 ((wrap64 ((wrap64 ((wrap64 ((wrap64 ((wrap64 (rd l0 0)) - 224)) * 4096)) + (wrap64 ((wrap64 ((wrap64 (rd l0 1)) - 128)) * 64)))) + (wrap64 (rd l0 2)))) - 128)), (by first | rfl | (simp; done) | (simp [*]; done)), H', ⟨by first | omega | exact Nat.le_refl _⟩, ⟨by repeat (first | (with_reducible first | exact HB.out | apply below_alloc | apply pw_below_drewN | apply below_drew1) | exact HB.out)⟩⟩
              · rw [if_neg c11] at H
                exact absurd H (by simp)
            · rw [if_neg c10] at H
              exact absurd H (by simp)
          · rw [if_neg c9] at H
            exact absurd H (by simp)
        · rw [if_neg c8] at H
          have c8b0 : ((l0.length : Int) == 3) = false := beq_eq_false_iff_ne.mpr c8
          have c8b1 : ((l0.length : Int) != 3) = true := bne_iff_ne.mpr c8
          by_cases c12 : (l0.length : Int) = 4
          · rw [if_pos c12] at H
            have c12b0 : ((l0.length : Int) == 4) = true := beq_iff_eq.mpr c12
            have c12b1 : ((l0.length : Int) != 4) = false := bne_eq_false_iff_eq.mpr c12
            clear c12
            by_cases c13 : 0 < (l0.length : Int)
            · rw [if_pos c13] at H
              have c13b0 : decide (0 < (l0.length : Int)) = true := decide_eq_true c13
              have c13b1 : decide (0 < l0.length) = true := decide_eq_true (by omega)
              clear c13
              by_cases c14 : 1 < (l0.length : Int)
              · rw [if_pos c14] at H
                have c14b0 : decide (1 < (l0.length : Int)) = true := decide_eq_true c14
                have c14b1 : decide (1 < l0.length) = true := decide_eq_true (by omega)
                clear c14
                by_cases c15 : 2 < (l0.length : Int)
                · rw [if_pos c15] at H
                  have c15b0 : decide (2 < (l0.length : Int)) = true := decide_eq_true c15
                  have c15b1 : decide (2 < l0.length) = true := decide_eq_true (by omega)
                  clear c15
                  by_cases c16 : 3 < (l0.length : Int)
                  · rw [if_pos c16] at H
                    have c16b0 : decide (3 < (l0.length : Int)) = true := decide_eq_true c16
                    have c16b1 : decide (3 < l0.length) = true := decide_eq_true (by omega)
                    clear c16
                    have H' := Aside0.mk H
                    clear H
                    have p287 : 0 ≤ (0 : Int) := (by omega)
                    have q287 : 0 < (l0.length : Int) := of_decide_eq_true (by first | (with_reducible assumption) | assumption)
                    obtain ⟨ad287, e287, hx287_0⟩ := Kd.at_int HR0.out 0 p287 q287
                    cases e287
                    have qi287 : (0 < l0.length) = True := eq_true (by omega)
                    (try rw [show ((0 : Int)).toNat = 0 from rfl] at hx287_0)
                    (try rw [Addr.add_zero'] at hx287_0)
                    replace hx287_0 := (HB.out.cell (World.block_lt_of_cell? w _ hx287_0)).trans hx287_0
                    replace p287 := eq_true p287
                    replace q287 := eq_true q287
                    have p288 : 0 ≤ (1 : Int) := (by omega)
                    have q288 : 1 < (l0.length : Int) := of_decide_eq_true (by first | (with_reducible assumption) | assumption)
                    obtain ⟨ad288, e288, hx288_0⟩ := Kd.at_int HR0.out 1 p288 q288
                    obtain rfl : ad287 = ad288 := (by injection e288)
                    (try simp only [show (1 : Int).toNat = 1 from rfl, Nat.reduceMul, Nat.reduceEqDiff, Go.Addr.add, ↓reduceIte] at hx288_0)
                    have qi288 : (1 < l0.length) = True := eq_true (by omega)
                    (try rw [show ((1 : Int)).toNat = 1 from rfl] at hx288_0)
                    replace hx288_0 := (HB.out.cell (World.block_lt_of_cell? w _ hx288_0)).trans hx288_0
                    replace p288 := eq_true p288
                    replace q288 := eq_true q288
                    have p289 : 0 ≤ (2 : Int) := (by omega)
                    have q289 : 2 < (l0.length : Int) := of_decide_eq_true (by first | (with_reducible assumption) | assumption)
                    obtain ⟨ad289, e289, hx289_0⟩ := Kd.at_int HR0.out 2 p289 q289
                    obtain rfl : ad287 = ad289 := (by injection e289)
                    (try simp only [show (2 : Int).toNat = 2 from rfl, Nat.reduceMul, Nat.reduceEqDiff, Go.Addr.add, ↓reduceIte] at hx289_0)
                    have qi289 : (2 < l0.length) = True := eq_true (by omega)
                    (try rw [show ((2 : Int)).toNat = 2 from rfl] at hx289_0)
                    replace hx289_0 := (HB.out.cell (World.block_lt_of_cell? w _ hx289_0)).trans hx289_0
                    replace p289 := eq_true p289
                    replace q289 := eq_true q289
                    have p290 : 0 ≤ (3 : Int) := (by omega)
                    have q290 : 3 < (l0.length : Int) := of_decide_eq_true (by first | (with_reducible assumption) | assumption)
                    obtain ⟨ad290, e290, hx290_0⟩ := Kd.at_int HR0.out 3 p290 q290
                    obtain rfl : ad287 = ad290 := (by injection e290)
                    (try simp only [show (3 : Int).toNat = 3 from rfl, Nat.reduceMul, Nat.reduceEqDiff, Go.Addr.add, ↓reduceIte] at hx290_0)
                    have qi290 : (3 < l0.length) = True := eq_true (by omega)
                    (try rw [show ((3 : Int)).toNat = 3 from rfl] at hx290_0)
                    replace hx290_0 := (HB.out.cell (World.block_lt_of_cell? w _ hx290_0)).trans hx290_0
                    replace p290 := eq_true p290
                    replace q290 := eq_true q290
                    go_wp2
                    repeat (go_quiet (fail); try go_wp2)
                    go_meet
                    case rel => exact ⟨_, (wrap64 ((wrap64 ((wrap64 ((wrap64 ((wrap64 ((wrap64 ((wrap64 (rd l0 0)) - 240)) * 262144)) + (wrap64 ((wrap64 ((wrap64 (rd l0 1)) - 128)) * 4096)))) + (wrap64 ((wrap64 ((wrap64 (rd l0 2)) - 128)) * 64)))) + (wrap64 (rd l0 3)))) - 128)), (by first | rfl | (simp; done) | (simp [*]; done)), H', ⟨by first | omega | exact Nat.le_refl _⟩, ⟨by repeat (first | (with_reducible first | exact HB.out | apply below_alloc | apply pw_below_drewN | apply below_drew1) | exact HB.out)⟩⟩
                  · rw [if_neg c16] at H
                    exact absurd H (by simp)
                · rw [if_neg c15] at H
                  exact absurd H (by simp)
              · rw [if_neg c14] at H
                exact absurd H (by simp)
            · rw [if_neg c13] at H
              exact absurd H (by simp)
          · rw [if_neg c12] at H
            have c12b0 : ((l0.length : Int) == 4) = false := beq_eq_false_iff_ne.mpr c12
            have c12b1 : ((l0.length : Int) != 4) = true := bne_iff_ne.mpr c12
            have H' := Aside0.mk H
            clear H
            go_wp2
            repeat (go_quiet (fail); try go_wp2)
            go_meet
            case rel => exact ⟨_, ((-1)), (by first | rfl | (simp; done) | (simp [*]; done)), H', ⟨by first | omega | exact Nat.le_refl _⟩, ⟨by repeat (first | (with_reducible first | exact HB.out | apply below_alloc | apply pw_below_drewN | apply below_drew1) | exact HB.out)⟩⟩
  case rest =>
    clear HC2
    try clear c1
    try clear p2
    try clear q2
    try clear hx2
    try clear qi2
    try clear c3
    try clear c3b0
    try clear c3b1
    try clear c4
    try clear c4b0
    try clear c4b1
    try clear c5
    try clear c5b0
    try clear c5b1
    try clear c6
    try clear c6b0
    try clear c6b1
    try clear p6
    try clear c7
    try clear c7b0
    try clear c7b1
    try clear c8
    try clear c8b0
    try clear c8b1
    try clear c9
    try clear c9b0
    try clear c9b1
    try clear c10
    try clear c10b0
    try clear c10b1
    try clear c11
    try clear c11b0
    try clear c11b1
    try clear c12
    try clear c12b0
    try clear c12b1
    try clear c13
    try clear c13b0
    try clear c13b1
    try clear c14
    try clear c14b0
    try clear c14b1
    try clear c15
    try clear c15b0
    try clear c15b1
    try clear c16
    try clear c16b0
    try clear c16b1
    try clear hx281_0
    try clear hx282_0
    try clear hx283_0
    try clear hx284_0
    try clear hx285_0
    try clear hx286_0
    try clear hx287_0
    try clear hx288_0
    try clear hx289_0
    try clear hx290_0
    try clear p281
    try clear p282
    try clear p283
    try clear p284
    try clear p285
    try clear p286
    try clear p287
    try clear p288
    try clear p289
    try clear p290
    try clear q281
    try clear q282
    try clear q283
    try clear q284
    try clear q285
    try clear q286
    try clear q287
    try clear q288
    try clear q289
    try clear q290
    obtain ⟨kq, x4_1, rfl, HA, HJ1, HB⟩ := hcut
    cases kq with
    | zero => exact absurd HA.out (by simp [spec_l1Form.j0])
    | succ kj1 =>
      have H := HA.out
      clear HA
      simp only [spec_l1Form.j0] at H
      by_cases c17 : x4_1 < 0
      · rw [if_pos c17] at H
        have c17b0 : decide (x4_1 < 0) = true := decide_eq_true c17
        clear c17
        simp only [Option.some.injEq, Prod.mk.injEq] at H
        obtain ⟨rfl, rfl⟩ := H
        go_wp2
        repeat (go_quiet (fail); try go_wp2)
        go_ret2
        exact ⟨by first | rfl | (simp [errW_none, errW_some] <;> rfl) | (simp [*, errW_none, errW_some] <;> rfl), by repeat (first | (with_reducible first | exact HB.out | apply below_alloc | apply pw_below_drewN | apply below_drew1) | exact HB.out)⟩
      · rw [if_neg c17] at H
        have c17b0 : decide (x4_1 < 0) = false := decide_eq_false c17
        clear c17
        replace H := Option.bind_eq_some_iff.mp H
        obtain ⟨t291, A180, H⟩ := H
        replace H : ((spec_l1Same.f t291 l0).bind fun t294 => (some (x4_1, t294))) = some (r1, r2) := H
        have A18 := Aside0.mk A180
        clear A180
        replace H := Option.bind_eq_some_iff.mp H
        obtain ⟨t294, A190, H⟩ := H
        replace H : (some (x4_1, t294)) = some (r1, r2) := H
        have A19 := Aside0.mk A190
        clear A190
        simp only [Option.some.injEq, Prod.mk.injEq] at H
        obtain ⟨rfl, rfl⟩ := H
        go_wp2_with (first | (go_at_call 70; (with_reducible refine (spec_l1Bytes.calls kj1 x4_1 t291 _ A18.out).mono ?_); rintro e w20 ⟨v292, rfl, ho0, hb⟩; have n0_ := Aside0.mk (Kd.R_lower ho0 (below_size (by repeat (first | (with_reducible first | exact HB.out | apply below_alloc | apply pw_below_drewN | apply below_drew1) | exact HB.out)))); have n1_ := Aside0.mk (below_step (by repeat (first | (with_reducible first | exact HB.out | apply below_alloc | apply pw_below_drewN | apply below_drew1) | exact HB.out)) hb); clear HB; have HO293 := n0_; have HB := n1_; clear n0_ n1_; (try clear hb); (try clear hb2); (try clear hk); (try clear hi); (try clear ho0); obtain ⟨Ao21, co21, eo21⟩ := Kd.R_slice HO293.out; subst eo21) | (go_at_call 85; (with_reducible refine (spec_l1Same.calls _ _ t291 _ _ l0 t294 _ ?side1 ?side2 ?side3 ?side4 A19.out).mono ?_); (case side1 => repeat (first | exact (Kd.R_reads' HO293.out).2.2 | (with_reducible refine Kd.C_alloc ?_ _) | (with_reducible refine Kd.C_drewN ?_ _) | (with_reducible refine Kd.C_drew ?_))); (case side2 => exact (Kd.R_reads' HO293.out).2.1); (case side3 => repeat (first | exact (Kd.C_below HR0.out HB.out) | (with_reducible refine Kd.C_alloc ?_ _) | (with_reducible refine Kd.C_drewN ?_ _) | (with_reducible refine Kd.C_drew ?_))); (case side4 => exact HC0.out); rintro e w' ⟨rfl, ⟨nd, rfl⟩⟩; (try first | exact ⟨rfl, _, World.drewN_drewN _ _ _⟩ | exact ⟨rfl, _, Eq.trans (World.drewN_drewN _ _ _) (congrArg (World.drewN _) (Nat.add_assoc _ _ _))⟩)))
        repeat (go_quiet (first | (go_at_call 70; (with_reducible refine (spec_l1Bytes.calls kj1 x4_1 t291 _ A18.out).mono ?_); rintro e w20 ⟨v292, rfl, ho0, hb⟩; have n0_ := Aside0.mk (Kd.R_lower ho0 (below_size (by repeat (first | (with_reducible first | exact HB.out | apply below_alloc | apply pw_below_drewN | apply below_drew1) | exact HB.out)))); have n1_ := Aside0.mk (below_step (by repeat (first | (with_reducible first | exact HB.out | apply below_alloc | apply pw_below_drewN | apply below_drew1) | exact HB.out)) hb); clear HB; have HO293 := n0_; have HB := n1_; clear n0_ n1_; (try clear hb); (try clear hb2); (try clear hk); (try clear hi); (try clear ho0); obtain ⟨Ao21, co21, eo21⟩ := Kd.R_slice HO293.out; subst eo21) | (go_at_call 85; (with_reducible refine (spec_l1Same.calls _ _ t291 _ _ l0 t294 _ ?side1 ?side2 ?side3 ?side4 A19.out).mono ?_); (case side1 => repeat (first | exact (Kd.R_reads' HO293.out).2.2 | (with_reducible refine Kd.C_alloc ?_ _) | (with_reducible refine Kd.C_drewN ?_ _) | (with_reducible refine Kd.C_drew ?_))); (case side2 => exact (Kd.R_reads' HO293.out).2.1); (case side3 => repeat (first | exact (Kd.C_below HR0.out HB.out) | (with_reducible refine Kd.C_alloc ?_ _) | (with_reducible refine Kd.C_drewN ?_ _) | (with_reducible refine Kd.C_drew ?_))); (case side4 => exact HC0.out); rintro e w' ⟨rfl, ⟨nd, rfl⟩⟩; (try first | exact ⟨rfl, _, World.drewN_drewN _ _ _⟩ | exact ⟨rfl, _, Eq.trans (World.drewN_drewN _ _ _) (congrArg (World.drewN _) (Nat.add_assoc _ _ _))⟩))); try go_wp2_with (first | (go_at_call 70; (with_reducible refine (spec_l1Bytes.calls kj1 x4_1 t291 _ A18.out).mono ?_); rintro e w20 ⟨v292, rfl, ho0, hb⟩; have n0_ := Aside0.mk (Kd.R_lower ho0 (below_size (by repeat (first | (with_reducible first | exact HB.out | apply below_alloc | apply pw_below_drewN | apply below_drew1) | exact HB.out)))); have n1_ := Aside0.mk (below_step (by repeat (first | (with_reducible first | exact HB.out | apply below_alloc | apply pw_below_drewN | apply below_drew1) | exact HB.out)) hb); clear HB; have HO293 := n0_; have HB := n1_; clear n0_ n1_; (try clear hb); (try clear hb2); (try clear hk); (try clear hi); (try clear ho0); obtain ⟨Ao21, co21, eo21⟩ := Kd.R_slice HO293.out; subst eo21) | (go_at_call 85; (with_reducible refine (spec_l1Same.calls _ _ t291 _ _ l0 t294 _ ?side1 ?side2 ?side3 ?side4 A19.out).mono ?_); (case side1 => repeat (first | exact (Kd.R_reads' HO293.out).2.2 | (with_reducible refine Kd.C_alloc ?_ _) | (with_reducible refine Kd.C_drewN ?_ _) | (with_reducible refine Kd.C_drew ?_))); (case side2 => exact (Kd.R_reads' HO293.out).2.1); (case side3 => repeat (first | exact (Kd.C_below HR0.out HB.out) | (with_reducible refine Kd.C_alloc ?_ _) | (with_reducible refine Kd.C_drewN ?_ _) | (with_reducible refine Kd.C_drew ?_))); (case side4 => exact HC0.out); rintro e w' ⟨rfl, ⟨nd, rfl⟩⟩; (try first | exact ⟨rfl, _, World.drewN_drewN _ _ _⟩ | exact ⟨rfl, _, Eq.trans (World.drewN_drewN _ _ _) (congrArg (World.drewN _) (Nat.add_assoc _ _ _))⟩))))
        go_ret2
        exact ⟨by first | rfl | (simp [errW_none, errW_some] <;> rfl) | (simp [*, errW_none, errW_some] <;> rfl), by repeat (first | (with_reducible first | exact HB.out | apply below_alloc | apply pw_below_drewN | apply below_drew1) | exact HB.out)⟩

/-! ### spec_l1Begins: function 74 -/
mutual
def spec_l1Begins.l0 : Nat → List Int → Int → Option (Bool)
  | 0, _, _ => none
  | k + 1, x0, x3 => if x3 ≤ 4 then (spec_l1Begins.l1 k x0 x3 128) else (some false)
def spec_l1Begins.l1 : Nat → List Int → Int → Int → Option (Bool)
  | 0, _, _, _ => none
  | k + 1, x0, x3, x4 => if x4 < 192 then ((some (([] : List Int) : List Int)).bind fun y295 => (if y295.length + x0.length < 140737488355328 then ((some (y295 ++ x0 : List Int)).bind fun y298 => (if (y298.length : Int) = 1 then (if y298.length < 140737488355328 then (spec_l1Begins.j2 k x0 x3 x4 (y298 ++ [(x4) % 256])) else (none)) else (spec_l1Begins.j2 k x0 x3 x4 y298))) else (none))) else (spec_l1Begins.l0 k x0 (wrap64 (x3 + 1)))
def spec_l1Begins.j2 : Nat → List Int → Int → Int → List Int → Option (Bool)
  | 0, _, _, _, _ => none
  | k + 1, x0, x3, x4, x5 => spec_l1Begins.l2 k x0 x3 x4 x5
def spec_l1Begins.l2 : Nat → List Int → Int → Int → List Int → Option (Bool)
  | 0, _, _, _, _ => none
  | k + 1, x0, x3, x4, x5 => if (x5.length : Int) < x3 then (if x5.length < 140737488355328 then (spec_l1Begins.l2 k x0 x3 x4 (x5 ++ [128])) else (none)) else ((spec_l1Form.f k x5).bind fun bt307 => (if bt307.2 = true then (some true) else (if (x0.length : Int) > 1 then (spec_l1Begins.l0 k x0 (wrap64 (x3 + 1))) else (spec_l1Begins.l1 k x0 x3 (wrap64 (x4 + 1))))))
end
def spec_l1Begins.f (k : Nat) (l0 : List Int) : Option (Bool) := spec_l1Begins.l0 k l0 (wrap64 ((l0.length : Int) + 1))
theorem spec_l1Begins.mono_l : ∀ k, (∀ y0 y1, LeO (spec_l1Begins.l0 k y0 y1) (spec_l1Begins.l0 (k + 1) y0 y1)) ∧ (∀ y0 y1 y2, LeO (spec_l1Begins.l1 k y0 y1 y2) (spec_l1Begins.l1 (k + 1) y0 y1 y2)) ∧ (∀ y0 y1 y2 y3, LeO (spec_l1Begins.j2 k y0 y1 y2 y3) (spec_l1Begins.j2 (k + 1) y0 y1 y2 y3)) ∧ (∀ y0 y1 y2 y3, LeO (spec_l1Begins.l2 k y0 y1 y2 y3) (spec_l1Begins.l2 (k + 1) y0 y1 y2 y3))
  | 0 => ⟨fun _ _ r h => by simp [spec_l1Begins.l0] at h, fun _ _ _ r h => by simp [spec_l1Begins.l1] at h, fun _ _ _ _ r h => by simp [spec_l1Begins.j2] at h, fun _ _ _ _ r h => by simp [spec_l1Begins.l2] at h⟩
  | k + 1 => by
    obtain ⟨ih0, ih1, ih2, ih3⟩ := spec_l1Begins.mono_l k
    refine ⟨?_, ?_, ?_, ?_⟩
    · intro y0 y1
      unfold spec_l1Begins.l0
      repeat' first
      | (with_reducible exact ih0 _ _)
      | (with_reducible exact ih1 _ _ _)
      | (with_reducible exact ih2 _ _ _ _)
      | (with_reducible exact ih3 _ _ _ _)
      | (with_reducible exact spec_l1Form.mono _ _)
      | (with_reducible exact LeO.refl _)
      | (with_reducible exact LeO.none _)
      | (with_reducible refine LeO.ite ?_ ?_)
      | (with_reducible refine LeO.bind ?_ (fun _ => ?_))
      | exact ih0 _ _
      | exact ih1 _ _ _
      | exact ih2 _ _ _ _
      | exact ih3 _ _ _ _
      | exact spec_l1Form.mono _ _
      | exact LeO.none _
      | refine LeO.ite ?_ ?_
      | refine LeO.bind ?_ (fun _ => ?_)
    · intro y0 y1 y2
      unfold spec_l1Begins.l1
      repeat' first
      | (with_reducible exact ih0 _ _)
      | (with_reducible exact ih1 _ _ _)
      | (with_reducible exact ih2 _ _ _ _)
      | (with_reducible exact ih3 _ _ _ _)
      | (with_reducible exact spec_l1Form.mono _ _)
      | (with_reducible exact LeO.refl _)
      | (with_reducible exact LeO.none _)
      | (with_reducible refine LeO.ite ?_ ?_)
      | (with_reducible refine LeO.bind ?_ (fun _ => ?_))
      | exact ih0 _ _
      | exact ih1 _ _ _
      | exact ih2 _ _ _ _
      | exact ih3 _ _ _ _
      | exact spec_l1Form.mono _ _
      | exact LeO.none _
      | refine LeO.ite ?_ ?_
      | refine LeO.bind ?_ (fun _ => ?_)
    · intro y0 y1 y2 y3
      unfold spec_l1Begins.j2
      repeat' first
      | (with_reducible exact ih0 _ _)
      | (with_reducible exact ih1 _ _ _)
      | (with_reducible exact ih2 _ _ _ _)
      | (with_reducible exact ih3 _ _ _ _)
      | (with_reducible exact spec_l1Form.mono _ _)
      | (with_reducible exact LeO.refl _)
      | (with_reducible exact LeO.none _)
      | (with_reducible refine LeO.ite ?_ ?_)
      | (with_reducible refine LeO.bind ?_ (fun _ => ?_))
      | exact ih0 _ _
      | exact ih1 _ _ _
      | exact ih2 _ _ _ _
      | exact ih3 _ _ _ _
      | exact spec_l1Form.mono _ _
      | exact LeO.none _
      | refine LeO.ite ?_ ?_
      | refine LeO.bind ?_ (fun _ => ?_)
    · intro y0 y1 y2 y3
      unfold spec_l1Begins.l2
      repeat' first
      | (with_reducible exact ih0 _ _)
      | (with_reducible exact ih1 _ _ _)
      | (with_reducible exact ih2 _ _ _ _)
      | (with_reducible exact ih3 _ _ _ _)
      | (with_reducible exact spec_l1Form.mono _ _)
      | (with_reducible exact LeO.refl _)
      | (with_reducible exact LeO.none _)
      | (with_reducible refine LeO.ite ?_ ?_)
      | (with_reducible refine LeO.bind ?_ (fun _ => ?_))
      | exact ih0 _ _
      | exact ih1 _ _ _
      | exact ih2 _ _ _ _
      | exact ih3 _ _ _ _
      | exact spec_l1Form.mono _ _
      | exact LeO.none _
      | refine LeO.ite ?_ ?_
      | refine LeO.bind ?_ (fun _ => ?_)
theorem spec_l1Begins.mono : ∀ a0 k, LeO (spec_l1Begins.f k a0) (spec_l1Begins.f (k + 1) a0) := by
  intro a0 k
  obtain ⟨ih0, ih1, ih2, ih3⟩ := spec_l1Begins.mono_l k
  unfold spec_l1Begins.f
  repeat' first
      | (with_reducible exact ih0 _ _)
      | (with_reducible exact ih1 _ _ _)
      | (with_reducible exact ih2 _ _ _ _)
      | (with_reducible exact ih3 _ _ _ _)
      | (with_reducible exact spec_l1Form.mono _ _)
      | (with_reducible exact LeO.refl _)
      | (with_reducible exact LeO.none _)
      | (with_reducible refine LeO.ite ?_ ?_)
      | (with_reducible refine LeO.bind ?_ (fun _ => ?_))
      | exact ih0 _ _
      | exact ih1 _ _ _
      | exact ih2 _ _ _ _
      | exact ih3 _ _ _ _
      | exact spec_l1Form.mono _ _
      | exact LeO.none _
      | refine LeO.ite ?_ ?_
      | refine LeO.bind ?_ (fun _ => ?_)
set_option maxHeartbeats 8000000 in
set_option maxRecDepth 100000 in
theorem spec_l1Begins.calls (k : Nat) (A0 : Option Addr) (c0 : Nat) (l0 : List Int) (r : Bool) (w : World) (hr0 : Kd.C (Kd.int .u8) w A0 l0.length l0) (hc0 : l0.length ≤ c0) (h : spec_l1Begins.f k l0 = some r) :
    Calls Tryd.prog 74 #[.slice A0 l0.length c0] w fun e w' => e = .returned (.bool r) ∧ Below w.heap.size w w' := by
  have HR0 := Aside0.mk hr0
  have HC0 := Aside0.mk hc0
  clear hr0 hc0
  have HB := Aside0.mk (Below.refl w.heap.size w)
  have H : (spec_l1Begins.l0 k l0 (wrap64 ((l0.length : Int) + 1))) = some r := h
  clear h
  have H' := Aside0.mk H
  clear H
  go_enter Tryd.func74, Tryd.ntmps74
  go_wp2
  go_loopg [3] k (fun kq v3 w' => ∃ (x3_1 : Int), v3 = .int .i64 x3_1 ∧ Aside0 (spec_l1Begins.l0 kq l0 x3_1 = some r) ∧ Aside0 (kq ≤ k) ∧ Aside0 (Below w.heap.size w w'))
  case atStart => exact ⟨(wrap64 ((l0.length : Int) + 1)), (by first | rfl | (simp; done) | (simp [*]; done)), H', ⟨Nat.le_refl _⟩, ⟨by repeat (first | (with_reducible first | exact HB.out | apply below_alloc | apply pw_below_drewN | apply below_drew1) | exact HB.out)⟩⟩
  case round =>
    clear H'
    obtain ⟨x3_1, rfl, HA, HK1, HB⟩ := hrel
    cases gk with
    | zero => exact absurd HA.out (by simp [spec_l1Begins.l0])
    | succ k1 =>
      have H := HA.out
      clear HA
      simp only [spec_l1Begins.l0] at H
      by_cases c2 : x3_1 ≤ 4
      · rw [if_pos c2] at H
        have c2b0 : decide (x3_1 ≤ 4) = true := decide_eq_true c2
        clear c2
        have H' := Aside0.mk H
        clear H
        go_wp2
        go_loopg [4] k1 (fun kq v4 w' => ∃ (x4_2 : Int), v4 = .int .i64 x4_2 ∧ Aside0 (spec_l1Begins.l1 kq l0 x3_1 x4_2 = some r) ∧ Aside0 (kq ≤ k1) ∧ Aside0 (Below w.heap.size w w'))
        case atStart => exact ⟨(128), (by first | rfl | (simp; done) | (simp [*]; done)), H', ⟨Nat.le_refl _⟩, ⟨by repeat (first | (with_reducible first | exact HB.out | apply below_alloc | apply pw_below_drewN | apply below_drew1) | exact HB.out)⟩⟩
        case round =>
          clear H'
          try clear c2
          try clear c2b0
          try clear p2
          obtain ⟨x4_2, rfl, HA, HK2, HB⟩ := hrel
          cases gk with
          | zero => exact absurd HA.out (by simp [spec_l1Begins.l1])
          | succ k2 =>
            have H := HA.out
            clear HA
            simp only [spec_l1Begins.l1] at H
            by_cases c3 : x4_2 < 192
            · rw [if_pos c3] at H
              have c3b0 : decide (x4_2 < 192) = true := decide_eq_true c3
              clear c3
              obtain ⟨y295, hy295⟩ : ∃ y_ : List Int, y_ = (([] : List Int)) := ⟨_, rfl⟩
              replace H : (if y295.length + l0.length < 140737488355328 then ((some (y295 ++ l0 : List Int)).bind fun y298 => (if (y298.length : Int) = 1 then (if y298.length < 140737488355328 then (spec_l1Begins.j2 k2 l0 x3_1 x4_2 (y298 ++ [(x4_2) % 256])) else (none)) else (spec_l1Begins.j2 k2 l0 x3_1 x4_2 y298))) else (none)) = some r := by first | (rw [hy295]; with_reducible exact H) | (have H2_ := (Option.bind_some _ _).symm.trans H; rw [hy295]; with_reducible exact H2_) | (have H2_ := (Option.bind_some _ _).symm.trans H; with_reducible exact H2_) | with_reducible exact H | (rw [hy295]; exact H) | exact H
              have Ny295 := Aside0.mk hy295
              clear hy295
              by_cases c4 : y295.length + l0.length < 140737488355328
              · rw [if_pos c4] at H
                have LMc4 := Aside0.mk c4
                clear c4
                obtain ⟨y298, hy298⟩ : ∃ y_ : List Int, y_ = (y295 ++ l0) := ⟨_, rfl⟩
                replace H : (if (y298.length : Int) = 1 then (if y298.length < 140737488355328 then (spec_l1Begins.j2 k2 l0 x3_1 x4_2 (y298 ++ [(x4_2) % 256])) else (none)) else (spec_l1Begins.j2 k2 l0 x3_1 x4_2 y298)) = some r := by first | (rw [hy298]; with_reducible exact H) | (have H2_ := (Option.bind_some _ _).symm.trans H; rw [hy298]; with_reducible exact H2_) | (have H2_ := (Option.bind_some _ _).symm.trans H; with_reducible exact H2_) | with_reducible exact H | (rw [hy298]; exact H) | exact H
                have Ny298 := Aside0.mk hy298
                clear hy298
                have HC5 := Aside0.mk H
                clear H
                go_upto_if 24 with (first | ((with_reducible refine gate_dst (N := 19) rfl ?_); refine Kd.R_lit (Kd.int .u8) _ 5 ?hg (N := 19) ?hd (xs := ([] : List Int)) (inner := []) (ok := fun _ => True) (okp := fun _ => True) ?hr ?hp (fun _ hk => hk) trivial (Below.refl _ _) (Nat.le_refl _) (by simp) ?_; (case hd => rfl); (case hg => rfl); (case hr => first | (go_simp; done) | (go_simp; rfl)); (case hp => exact (Reps.none _ _)); intro v296 w6 ho7 hb hg_ hnew_; clear hg_ hnew_; (first | rw [← Ny295.out] at ho7 | (simp only [Int.reduceToNat] at ho7; rw [← Ny295.out] at ho7)); have n0_ := Aside0.mk (Kd.R_lower ho7 (below_size (by repeat (first | (with_reducible first | exact HB.out | apply below_alloc | apply pw_below_drewN | apply below_drew1) | exact HB.out)))); have n1_ := Aside0.mk (below_step (by repeat (first | (with_reducible first | exact HB.out | apply below_alloc | apply pw_below_drewN | apply below_drew1) | exact HB.out)) hb); clear HB; have HO297 := n0_; have HB := n1_; clear n0_ n1_; clear hb ho7) | ((with_reducible refine gate_builtin (b := .append) (xs := #[.tmp 19, .tmp 20]) rfl ?_); at_builtin; refine Kd.R_append_rows (Kd.int .u8) (w0 := w) w.heap.size rfl (.tmp 19) (.tmp 20) 24 5 (.int .u8 0) 1 rfl Tryd.underlying24 info5 rfl (by decide) (by omega) v296 y295 l0 _ _ _ (fun _ => True) (fun _ => False) rfl rfl ?aO ?aR (fun _ _ h => h) (fun _ h => h.elim) ?aF ?aB ?aS ?aL ?_; (case aR => repeat (first | exact (Kd.C_below HR0.out HB.out) | (with_reducible refine Kd.C_alloc ?_ _) | (with_reducible refine Kd.C_drewN ?_ _) | (with_reducible refine Kd.C_drew ?_))); (case aB => exact (by repeat (first | (with_reducible first | exact HB.out | apply below_alloc | apply pw_below_drewN | apply below_drew1) | exact HB.out))); (case aF => exact (fun _ _ => trivial)); (case aO => exact (by (with_reducible repeat (first | apply Kd.R_alloc | apply Kd.R_drewN | apply Kd.R_drew)); exact HO297.out)); (case aS => exact (below_size (by repeat (first | (with_reducible first | exact HB.out | apply below_alloc | apply pw_below_drewN | apply below_drew1) | exact HB.out)))); (case aL => have := LMc4.out; omega); intro v299 w8 ho hb hg hat; rw [← Ny298.out] at ho; have n0_ := Aside0.mk (hb); have n1_ := Aside0.mk (ho); clear HB; clear HO297; have HB := n0_; have HO300 := n1_; clear n0_ n1_; clear ho hb hg hat; obtain ⟨Ao9, co9, eo9⟩ := Kd.R_slice HO300.out; subst eo9))
                (try simp only [Act.put, List.setIfInBounds_toArray, List.set_cons_zero, List.set_cons_succ])
                go_cut [5] (fun v5 wc => ∃ (kq : Nat) (x5_4 : List Int), Aside0 (spec_l1Begins.j2 kq l0 x3_1 x4_2 x5_4 = some r) ∧ Aside0 (kq ≤ k2) ∧ Aside0 (Kd.R (Kd.int .u8) 5 wc w.heap.size (fun _ => True) v5 x5_4) ∧ Aside0 (Below w.heap.size w wc))
                case first =>
                  have H := HC5.out
                  clear HC5
                  by_cases c10 : (y298.length : Int) = 1
                  · rw [if_pos c10] at H
                    have c10b0 : ((y298.length : Int) == 1) = true := beq_iff_eq.mpr c10
                    have c10b1 : ((y298.length : Int) != 1) = false := bne_eq_false_iff_eq.mpr c10
                    clear c10
                    (first | rw [c10b0] | (simp only [i64_w, i32_w]; rw [c10b0]) | skip)
                    by_cases c11 : y298.length < 140737488355328
                    · rw [if_pos c11] at H
                      have LMc11 := Aside0.mk c11
                      clear c11
                      obtain ⟨y301, hy301⟩ : ∃ y_ : List Int, y_ = (y298 ++ [(x4_2) % 256]) := ⟨_, rfl⟩
                      replace H : (spec_l1Begins.j2 k2 l0 x3_1 x4_2 y301) = some r := by first | (rw [hy301]; with_reducible exact H) | (have H2_ := (Option.bind_some _ _).symm.trans H; rw [hy301]; with_reducible exact H2_) | (have H2_ := (Option.bind_some _ _).symm.trans H; with_reducible exact H2_) | with_reducible exact H | (rw [hy301]; exact H) | exact H
                      have Ny301 := Aside0.mk hy301
                      clear hy301
                      have H' := Aside0.mk H
                      clear H
                      go_wp2_with (first | ((with_reducible refine gate_builtin (b := .append) (xs := #[.tmp 25, .tmp 28]) rfl ?_); at_builtin; refine Kd.R_append (Kd.int .u8) (w0 := w) w.heap.size rfl (.tmp 25) (.tmp 28) 24 5 (.int .u8 0) 1 rfl Tryd.underlying24 info5 rfl (by decide) (by omega) (.slice Ao9 y298.length co9) y298 ((x4_2) % 256) [.int .u8 ((x4_2) % 256)] (fun _ => True) (fun _ => False) rfl rfl ?aP (fun _ hk => hk.elim) ?aF ?aO ?aB ?aS ?aL ?_; (case aP => exact rfl); (case aB => exact (by repeat (first | (with_reducible first | exact HB.out | apply below_alloc | apply pw_below_drewN | apply below_drew1) | exact HB.out))); (case aF => exact (fun _ _ => trivial)); (case aO => exact (by (with_reducible repeat (first | apply Kd.R_alloc | apply Kd.R_drewN | apply Kd.R_drew)); exact HO300.out)); (case aS => exact (below_size (by repeat (first | (with_reducible first | exact HB.out | apply below_alloc | apply pw_below_drewN | apply below_drew1) | exact HB.out)))); (case aL => have := LMc11.out; omega); intro v302 w12 ho hb hg hat; rw [← Ny301.out] at ho; have n0_ := Aside0.mk (hb); have n1_ := Aside0.mk (ho); clear HB; clear HO300; have HB := n0_; have HO303 := n1_; clear n0_ n1_; clear ho hb hg hat))
                      go_meet
                      case rel => exact ⟨_, (y301), H', ⟨by have := HK1.out; have := HK2.out; first | omega | exact Nat.le_refl _⟩, ⟨by (with_reducible repeat (first | apply Kd.R_alloc | apply Kd.R_drewN | apply Kd.R_drew)); exact HO303.out⟩, ⟨by repeat (first | (with_reducible first | exact HB.out | apply below_alloc | apply pw_below_drewN | apply below_drew1) | exact HB.out)⟩⟩
                    · rw [if_neg c11] at H
                      exact absurd H (by simp)
                  · rw [if_neg c10] at H
                    have c10b0 : ((y298.length : Int) == 1) = false := beq_eq_false_iff_ne.mpr c10
                    have c10b1 : ((y298.length : Int) != 1) = true := bne_iff_ne.mpr c10
                    (first | rw [c10b0] | (simp only [i64_w, i32_w]; rw [c10b0]) | skip)
                    have H' := Aside0.mk H
                    clear H
                    go_wp2
                    go_meet
                    case rel => exact ⟨_, (y298), H', ⟨by have := HK1.out; have := HK2.out; first | omega | exact Nat.le_refl _⟩, ⟨by (with_reducible repeat (first | apply Kd.R_alloc | apply Kd.R_drewN | apply Kd.R_drew)); exact HO300.out⟩, ⟨by repeat (first | (with_reducible first | exact HB.out | apply below_alloc | apply pw_below_drewN | apply below_drew1) | exact HB.out)⟩⟩
                case rest =>
                  clear HC5
                  try clear c1
                  try clear c2
                  try clear c2b0
                  try clear p2
                  try clear c3
                  try clear c3b0
                  try clear c4
                  try clear p6
                  try clear c7
                  try clear c10
                  try clear c10b0
                  try clear c10b1
                  try clear c11
                  try clear p2
                  obtain ⟨kq, x5_4, HA, HJ4, HO_5, HB⟩ := hcut
                  cases kq with
                  | zero => exact absurd HA.out (by simp [spec_l1Begins.j2])
                  | succ kj4 =>
                    have H := HA.out
                    clear HA
                    simp only [spec_l1Begins.j2] at H
                    have H' := Aside0.mk H
                    clear H
                    go_wp2
                    go_loopg [5] kj4 (fun kq v5 w' => ∃ (x5_4 : List Int), Aside0 (spec_l1Begins.l2 kq l0 x3_1 x4_2 x5_4 = some r) ∧ Aside0 (kq ≤ kj4) ∧ Aside0 (Kd.R (Kd.int .u8) 5 w' w.heap.size (fun _ => True) v5 x5_4) ∧ Aside0 (Below w.heap.size w w'))
                    case atStart => exact ⟨(x5_4), H', ⟨Nat.le_refl _⟩, ⟨by (with_reducible repeat (first | apply Kd.R_alloc | apply Kd.R_drewN | apply Kd.R_drew)); exact HO_5.out⟩, ⟨by repeat (first | (with_reducible first | exact HB.out | apply below_alloc | apply pw_below_drewN | apply below_drew1) | exact HB.out)⟩⟩
                    case round =>
                      clear H'
                      try clear c1
                      try clear c2
                      try clear c2b0
                      try clear p2
                      try clear c3
                      try clear c3b0
                      try clear c4
                      try clear p6
                      try clear c7
                      try clear c10
                      try clear c10b0
                      try clear c10b1
                      try clear c11
                      try clear p2
                      try clear p6
                      obtain ⟨x5_4, HA, HK4, HO_5, HB⟩ := hrel
                      cases gk with
                      | zero => exact absurd HA.out (by simp [spec_l1Begins.l2])
                      | succ k4 =>
                        have H := HA.out
                        clear HA
                        simp only [spec_l1Begins.l2] at H
                        by_cases c13 : (x5_4.length : Int) < x3_1
                        · rw [if_pos c13] at H
                          have c13b0 : decide ((x5_4.length : Int) < x3_1) = true := decide_eq_true c13
                          clear c13
                          by_cases c14 : x5_4.length < 140737488355328
                          · rw [if_pos c14] at H
                            have LMc14 := Aside0.mk c14
                            clear c14
                            obtain ⟨y304, hy304⟩ : ∃ y_ : List Int, y_ = (x5_4 ++ [128]) := ⟨_, rfl⟩
                            replace H : (spec_l1Begins.l2 k4 l0 x3_1 x4_2 y304) = some r := by first | (rw [hy304]; with_reducible exact H) | (have H2_ := (Option.bind_some _ _).symm.trans H; rw [hy304]; with_reducible exact H2_) | (have H2_ := (Option.bind_some _ _).symm.trans H; with_reducible exact H2_) | with_reducible exact H | (rw [hy304]; exact H) | exact H
                            have Ny304 := Aside0.mk hy304
                            clear hy304
                            have H' := Aside0.mk H
                            clear H
                            obtain ⟨Ao15, co15, eo15⟩ := Kd.R_slice HO_5.out
                            subst eo15
                            go_wp2_with (first | ((with_reducible refine gate_builtin (b := .append) (xs := #[.tmp 34, .tmp 35]) rfl ?_); at_builtin; refine Kd.R_append (Kd.int .u8) (w0 := w) w.heap.size rfl (.tmp 34) (.tmp 35) 24 5 (.int .u8 0) 1 rfl Tryd.underlying24 info5 rfl (by decide) (by omega) (.slice Ao15 x5_4.length co15) x5_4 128 [.int .u8 128] (fun _ => True) (fun _ => False) rfl rfl ?aP (fun _ hk => hk.elim) ?aF ?aO ?aB ?aS ?aL ?_; (case aP => exact rfl); (case aB => exact (by repeat (first | (with_reducible first | exact HB.out | apply below_alloc | apply pw_below_drewN | apply below_drew1) | exact HB.out))); (case aF => exact (fun _ _ => trivial)); (case aO => exact (by (with_reducible repeat (first | apply Kd.R_alloc | apply Kd.R_drewN | apply Kd.R_drew)); exact HO_5.out)); (case aS => exact (below_size (by repeat (first | (with_reducible first | exact HB.out | apply below_alloc | apply pw_below_drewN | apply below_drew1) | exact HB.out)))); (case aL => have := LMc14.out; omega); intro v305 w16 ho hb hg hat; rw [← Ny304.out] at ho; have n0_ := Aside0.mk (hb); have n1_ := Aside0.mk (ho); clear HB; clear HO_5; have HB := n0_; have HO306 := n1_; clear n0_ n1_; clear ho hb hg hat))
                            go_roundg k4
                            case measure => have := HK1.out; have := HK2.out; have := HJ4.out; have := HK4.out; omega
                            case rel => exact ⟨(y304), H', ⟨by have := HK1.out; have := HK2.out; have := HJ4.out; have := HK4.out; omega⟩, ⟨by (with_reducible repeat (first | apply Kd.R_alloc | apply Kd.R_drewN | apply Kd.R_drew)); exact HO306.out⟩, ⟨by repeat (first | (with_reducible first | exact HB.out | apply below_alloc | apply pw_below_drewN | apply below_drew1) | exact HB.out)⟩⟩
                          · rw [if_neg c14] at H
                            exact absurd H (by simp)
                        · rw [if_neg c13] at H
                          have c13b0 : decide ((x5_4.length : Int) < x3_1) = false := decide_eq_false c13
                          clear c13
                          replace H := Option.bind_eq_some_iff.mp H
                          obtain ⟨⟨t307, t308⟩, A170, H⟩ := H
                          replace H : (if t308 = true then (some true) else (if (l0.length : Int) > 1 then (spec_l1Begins.l0 k4 l0 (wrap64 (x3_1 + 1))) else (spec_l1Begins.l1 k4 l0 x3_1 (wrap64 (x4_2 + 1))))) = some r := H
                          have A17 := Aside0.mk A170
                          clear A170
                          by_cases c18 : t308 = true
                          · subst c18
                            have H1 : (some true) = some r := by rw [if_pos rfl] at H; exact H
                            clear H
                            have H := H1
                            clear H1
                            obtain rfl := Option.some.inj H
                            obtain ⟨Ao19, co19, eo19⟩ := Kd.R_slice HO_5.out
                            subst eo19
                            go_wp2_with (first | ((with_reducible refine gate_callee (f := 73) rfl ?_); refine goesL_ (some 39) rfl rfl Tryd.func73 (by kernel_rfl) rfl #[.slice Ao19 x5_4.length co19] rfl (by (try simp only [List.map_toArray, List.map_cons, List.map_nil]); first | done | rfl | (simp only [List.length_drop, List.length_take]; rfl)) ?_; (with_reducible refine (spec_l1Form.calls k4 _ _ x5_4 t307 true _ ?side1 ?side2 A17.out).mono ?_); (case side1 => repeat (first | exact (Kd.R_reads' HO_5.out).2.2 | (with_reducible refine Kd.C_alloc ?_ _) | (with_reducible refine Kd.C_drewN ?_ _) | (with_reducible refine Kd.C_drew ?_))); (case side2 => exact (Kd.R_reads' HO_5.out).2.1); rintro e w20 ⟨rfl, hb⟩; refine ⟨_, rfl, ?_⟩; have n0_ := Aside0.mk (Kd.R_below (by (with_reducible repeat (first | apply Kd.R_alloc | apply Kd.R_drewN | apply Kd.R_drew)); exact HO_5.out) hb); have n1_ := Aside0.mk (below_step (by repeat (first | (with_reducible first | exact HB.out | apply below_alloc | apply pw_below_drewN | apply below_drew1) | exact HB.out)) hb); clear HO_5; clear HB; have HO_5 := n0_; have HB := n1_; clear n0_ n1_; (try clear hb); (try clear hb2); (try clear hk); (try clear hi)))
                            go_ret
                            exact ⟨by first | rfl | (simp [errW_none, errW_some] <;> rfl) | (simp [*, errW_none, errW_some] <;> rfl), by repeat (first | (with_reducible first | exact HB.out | apply below_alloc | apply pw_below_drewN | apply below_drew1) | exact HB.out)⟩
                          · replace c18 := Bool.eq_false_iff.mpr c18
                            subst c18
                            have H1 : (if (l0.length : Int) > 1 then (spec_l1Begins.l0 k4 l0 (wrap64 (x3_1 + 1))) else (spec_l1Begins.l1 k4 l0 x3_1 (wrap64 (x4_2 + 1)))) = some r := by rw [if_neg (show ¬ (false = true) by decide)] at H; exact H
                            clear H
                            have H := H1
                            clear H1
                            by_cases c21 : (l0.length : Int) > 1
                            · rw [if_pos c21] at H
                              have c21b0 : decide (1 < (l0.length : Int)) = true := decide_eq_true c21
                              have c21b1 : decide (1 < l0.length) = true := decide_eq_true (by omega)
                              clear c21
                              have H' := Aside0.mk H
                              clear H
                              obtain ⟨Ao22, co22, eo22⟩ := Kd.R_slice HO_5.out
                              subst eo22
                              go_wp2_with (first | ((with_reducible refine gate_callee (f := 73) rfl ?_); refine goesL_ (some 39) rfl rfl Tryd.func73 (by kernel_rfl) rfl #[.slice Ao22 x5_4.length co22] rfl (by (try simp only [List.map_toArray, List.map_cons, List.map_nil]); first | done | rfl | (simp only [List.length_drop, List.length_take]; rfl)) ?_; (with_reducible refine (spec_l1Form.calls k4 _ _ x5_4 t307 false _ ?side1 ?side2 A17.out).mono ?_); (case side1 => repeat (first | exact (Kd.R_reads' HO_5.out).2.2 | (with_reducible refine Kd.C_alloc ?_ _) | (with_reducible refine Kd.C_drewN ?_ _) | (with_reducible refine Kd.C_drew ?_))); (case side2 => exact (Kd.R_reads' HO_5.out).2.1); rintro e w23 ⟨rfl, hb⟩; refine ⟨_, rfl, ?_⟩; have n0_ := Aside0.mk (Kd.R_below (by (with_reducible repeat (first | apply Kd.R_alloc | apply Kd.R_drewN | apply Kd.R_drew)); exact HO_5.out) hb); have n1_ := Aside0.mk (below_step (by repeat (first | (with_reducible first | exact HB.out | apply below_alloc | apply pw_below_drewN | apply below_drew1) | exact HB.out)) hb); clear HO_5; clear HB; have HO_5 := n0_; have HB := n1_; clear n0_ n1_; (try clear hb); (try clear hb2); (try clear hk); (try clear hi)))
                              go_roundg k4
                              case measure => have := HK1.out; have := HK2.out; have := HJ4.out; have := HK4.out; omega
                              case rel => exact ⟨(wrap64 (x3_1 + 1)), (by first | rfl | (simp; done) | (simp [*]; done)), H', ⟨by have := HK1.out; have := HK2.out; have := HJ4.out; have := HK4.out; omega⟩, ⟨by repeat (first | (with_reducible first | exact HB.out | apply below_alloc | apply pw_below_drewN | apply below_drew1) | exact HB.out)⟩⟩
                            · rw [if_neg c21] at H
                              have c21b0 : decide (1 < (l0.length : Int)) = false := decide_eq_false c21
                              have c21b1 : decide (1 < l0.length) = false := decide_eq_false (by omega)
                              clear c21
                              have H' := Aside0.mk H
                              clear H
                              obtain ⟨Ao24, co24, eo24⟩ := Kd.R_slice HO_5.out
                              subst eo24
                              go_wp2_with (first | ((with_reducible refine gate_callee (f := 73) rfl ?_); refine goesL_ (some 39) rfl rfl Tryd.func73 (by kernel_rfl) rfl #[.slice Ao24 x5_4.length co24] rfl (by (try simp only [List.map_toArray, List.map_cons, List.map_nil]); first | done | rfl | (simp only [List.length_drop, List.length_take]; rfl)) ?_; (with_reducible refine (spec_l1Form.calls k4 _ _ x5_4 t307 false _ ?side1 ?side2 A17.out).mono ?_); (case side1 => repeat (first | exact (Kd.R_reads' HO_5.out).2.2 | (with_reducible refine Kd.C_alloc ?_ _) | (with_reducible refine Kd.C_drewN ?_ _) | (with_reducible refine Kd.C_drew ?_))); (case side2 => exact (Kd.R_reads' HO_5.out).2.1); rintro e w25 ⟨rfl, hb⟩; refine ⟨_, rfl, ?_⟩; have n0_ := Aside0.mk (Kd.R_below (by (with_reducible repeat (first | apply Kd.R_alloc | apply Kd.R_drewN | apply Kd.R_drew)); exact HO_5.out) hb); have n1_ := Aside0.mk (below_step (by repeat (first | (with_reducible first | exact HB.out | apply below_alloc | apply pw_below_drewN | apply below_drew1) | exact HB.out)) hb); clear HO_5; clear HB; have HO_5 := n0_; have HB := n1_; clear n0_ n1_; (try clear hb); (try clear hb2); (try clear hk); (try clear hi)))
                              go_roundg k4
                              case measure => have := HK1.out; have := HK2.out; have := HJ4.out; have := HK4.out; omega
                              case rel => exact ⟨(wrap64 (x4_2 + 1)), (by first | rfl | (simp; done) | (simp [*]; done)), H', ⟨by have := HK1.out; have := HK2.out; have := HJ4.out; have := HK4.out; omega⟩, ⟨by repeat (first | (with_reducible first | exact HB.out | apply below_alloc | apply pw_below_drewN | apply below_drew1) | exact HB.out)⟩⟩
              · rw [if_neg c4] at H
                exact absurd H (by simp)
            · rw [if_neg c3] at H
              have c3b0 : decide (x4_2 < 192) = false := decide_eq_false c3
              clear c3
              have H' := Aside0.mk H
              clear H
              go_wp2
              go_roundg k2
              case measure => have := HK1.out; have := HK2.out; omega
              case rel => exact ⟨(wrap64 (x3_1 + 1)), (by first | rfl | (simp; done) | (simp [*]; done)), H', ⟨by have := HK1.out; have := HK2.out; omega⟩, ⟨by repeat (first | (with_reducible first | exact HB.out | apply below_alloc | apply pw_below_drewN | apply below_drew1) | exact HB.out)⟩⟩
      · rw [if_neg c2] at H
        have c2b0 : decide (x3_1 ≤ 4) = false := decide_eq_false c2
        clear c2
        obtain rfl := Option.some.inj H
        go_wp2
        go_ret
        exact ⟨by first | rfl | (simp [errW_none, errW_some] <;> rfl) | (simp [*, errW_none, errW_some] <;> rfl), by repeat (first | (with_reducible first | exact HB.out | apply below_alloc | apply pw_below_drewN | apply below_drew1) | exact HB.out)⟩

end Go.Proofs.YtefdjajmnkmbgaaDoor.QFnStore
