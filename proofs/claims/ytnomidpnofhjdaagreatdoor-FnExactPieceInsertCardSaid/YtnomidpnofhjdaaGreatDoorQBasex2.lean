/- What the law Base reaches: each function as a plain function, and that the machine's call does it (written by a program). The condition, where there is one: errors.errorType reads as laid. -/
import Derived.Test.YtnomidpnofhjdaaGreatDoorQBasex0
import Derived.Test.YtnomidpnofhjdaaGreatDoorQBasex1
import Derived.Test.YtnomidpnofhjdaaGreatDoorSq
namespace Go.Proofs.YtnomidpnofhjdaaGreatDoor.QBase
open Go.RowKit Go.Proofs.YtnomidpnofhjdaaGreatDoorW.PrintWords Go.Proofs.YtnomidpnofhjdaaGreatDoorW.PrintLast Go.Proofs.YtnomidpnofhjdaaGreatDoorW.PrintMore Go.Proofs.YtnomidpnofhjdaaGreatDoor.Sq
attribute [local go_sem] max2_int min2_int max_two min_two max_three min_three max_four min_four   -- for this text's walks alone
set_option linter.unusedVariables false
set_option linter.unusedSimpArgs false

attribute [local go_sem high] eqA84
/-! ### impl_within_int: function 34 -/
def impl_within_int.f (a0 : Int) (a1 : Int) (a2 : Int) : Option (Bool) := if a1 ≤ a0 then (some (decide (a0 ≤ a2))) else (some false)
set_option maxHeartbeats 8000000 in
set_option maxRecDepth 100000 in
theorem impl_within_int.calls (a0 : Int) (a1 : Int) (a2 : Int) (r : Bool) (w : World) (h : impl_within_int.f a0 a1 a2 = some r) :
  Calls Tryz.prog 34 #[.int .i64 a0, .int .i64 a1, .int .i64 a2] w fun e w' => e = .returned (.bool r) ∧ Drawn0 w w' := by
 have H : (if a1 ≤ a0 then (some (decide (a0 ≤ a2))) else (some false)) = some r := h
 clear h
 by_cases c4 : a1 ≤ a0
 ·rw [if_pos c4] at H
  have c4b0 : decide (a1 ≤ a0) = true := decide_eq_true c4
  clear c4
  obtain rfl := Option.some.inj H
  go_enter Tryz.func34, Tryz.ntmps34
  go_wp2
  go_ret
  exact ⟨by first | rfl | (simp; done) | (simp [*]; done), by repeat (first | exact Drawn0.refl _ | apply Drawn0.step)⟩
 ·rw [if_neg c4] at H
  have c4b0 : decide (a1 ≤ a0) = false := decide_eq_false c4
  clear c4
  obtain rfl := Option.some.inj H
  go_enter Tryz.func34, Tryz.ntmps34
  go_wp2
  go_ret
  exact ⟨by first | rfl | (simp; done) | (simp [*]; done), by repeat (first | exact Drawn0.refl _ | apply Drawn0.step)⟩

/-! ### impl_goodPiece: function 91 -/
def impl_goodPiece.f (a0_0 : Int) (a0_1 : Int) (a0_2 : Int) : Option (Bool) := if (!(a0_0 == 0) || (!(a0_1 == 0) || (!(a0_2 == 0)))) = true then ((impl_within_int.f a0_0 0 220000).bind fun t102 => (if t102 = true then ((impl_within_int.f a0_1 1 8192).bind fun t103 => (if t103 = true then (if (wrap64 (a0_0 + a0_1)) ≤ 220000 then ((impl_within_int.f a0_2 0 a0_1).bind fun t104 => (some t104)) else (some false)) else (some false))) else (some false))) else (some false)
set_option maxHeartbeats 8000000 in
set_option maxRecDepth 100000 in
theorem impl_goodPiece.calls (a0_0 : Int) (a0_1 : Int) (a0_2 : Int) (r : Bool) (w : World) (h : impl_goodPiece.f a0_0 a0_1 a0_2 = some r) :
  Calls Tryz.prog 91 #[.agg #[.int .i64 a0_0, .int .i64 a0_1, .int .i64 a0_2]] w fun e w' => e = .returned (.bool r) ∧ Below w.heap.size w w' := by
 have hu84 := Tryz.underlying84
 have HB := Aside0.mk (Below.refl w.heap.size w)
 have H : (if (!(a0_0 == 0) || (!(a0_1 == 0) || (!(a0_2 == 0)))) = true then ((impl_within_int.f a0_0 0 220000).bind fun t102 => (if t102 = true then ((impl_within_int.f a0_1 1 8192).bind fun t103 => (if t103 = true then (if (wrap64 (a0_0 + a0_1)) ≤ 220000 then ((impl_within_int.f a0_2 0 a0_1).bind fun t104 => (some t104)) else (some false)) else (some false))) else (some false))) else (some false)) = some r := h
 clear h
 by_cases c2 : (!(a0_0 == 0) || (!(a0_1 == 0) || (!(a0_2 == 0)))) = true
 ·rw [if_pos c2] at H
  have c2b0 : (!(a0_0 == 0) || (!(a0_1 == 0) || (!(a0_2 == 0)))) = true := c2
  clear c2
  replace H := Option.bind_eq_some_iff.mp H
  obtain ⟨t102, A30, H⟩ := H
  replace H : (if t102 = true then ((impl_within_int.f a0_1 1 8192).bind fun t103 => (if t103 = true then (if (wrap64 (a0_0 + a0_1)) ≤ 220000 then ((impl_within_int.f a0_2 0 a0_1).bind fun t104 => (some t104)) else (some false)) else (some false))) else (some false)) = some r := H
  have A3 := Aside0.mk A30
  clear A30
  by_cases c4 : t102 = true
  ·subst c4
   have H1 : ((impl_within_int.f a0_1 1 8192).bind fun t103 => (if t103 = true then (if (wrap64 (a0_0 + a0_1)) ≤ 220000 then ((impl_within_int.f a0_2 0 a0_1).bind fun t104 => (some t104)) else (some false)) else (some false))) = some r := by rw [if_pos rfl] at H; exact H
   clear H
   have H := H1
   clear H1
   replace H := Option.bind_eq_some_iff.mp H
   obtain ⟨t103, A50, H⟩ := H
   replace H : (if t103 = true then (if (wrap64 (a0_0 + a0_1)) ≤ 220000 then ((impl_within_int.f a0_2 0 a0_1).bind fun t104 => (some t104)) else (some false)) else (some false)) = some r := H
   have A5 := Aside0.mk A50
   clear A50
   by_cases c6 : t103 = true
   ·subst c6
    have H1 : (if (wrap64 (a0_0 + a0_1)) ≤ 220000 then ((impl_within_int.f a0_2 0 a0_1).bind fun t104 => (some t104)) else (some false)) = some r := by rw [if_pos rfl] at H; exact H
    clear H
    have H := H1
    clear H1
    by_cases c7 : (wrap64 (a0_0 + a0_1)) ≤ 220000
    ·rw [if_pos c7] at H
     have c7b0 : decide ((wrap64 (a0_0 + a0_1)) ≤ 220000) = true := decide_eq_true c7
     clear c7
     replace H := Option.bind_eq_some_iff.mp H
     obtain ⟨t104, A80, H⟩ := H
     replace H : (some t104) = some r := H
     have A8 := Aside0.mk A80
     clear A80
     obtain rfl := Option.some.inj H
     go_enter Tryz.func91, Tryz.ntmps91
     go_wp2_with (first | ((with_reducible refine gate_dst (N := 1) rfl ?_); refine bxE (N := 1) (cs := #[.int .i64 a0_0, .int .i64 a0_1, .int .i64 a0_2]) (t := 84) ?_; intro gb101 hg w9 hbox hb; have n0_ := bS HB hb; have n1_ := Aside0.mk (hbox); have n2_ := gS hg HB; have n3_ := n2_; clear HB; have HB := n0_; have BK101 := n1_; have GW101 := n2_; have GE101 := n3_; clear n0_ n1_ n2_ n3_ hb hbox hg; have hcz10_0 := cq (v := .int .i64 a0_0) BK101 0; have hcz10_1 := cq (v := .int .i64 a0_1) BK101 1; have hcz10_2 := cq (v := .int .i64 a0_2) BK101 2; have hfz10_0 := fz BK101 0; have hfz10_1 := fz BK101 1; have hfz10_2 := fz BK101 2) | (go_at_call 34; (with_reducible refine (impl_within_int.calls a0_0 0 220000 true _ A3.out).mono ?_); rintro e w' ⟨rfl, ⟨nd, rfl⟩⟩) | (go_at_call 34; (with_reducible refine (impl_within_int.calls a0_1 1 8192 true _ A5.out).mono ?_); rintro e w' ⟨rfl, ⟨nd, rfl⟩⟩) | (go_at_call 34; (with_reducible refine (impl_within_int.calls a0_2 0 a0_1 t104 _ A8.out).mono ?_); rintro e w' ⟨rfl, ⟨nd, rfl⟩⟩))
     go_ret
     exact ⟨eW, hbD HB⟩
    ·rw [if_neg c7] at H
     have c7b0 : decide ((wrap64 (a0_0 + a0_1)) ≤ 220000) = false := decide_eq_false c7
     clear c7
     obtain rfl := Option.some.inj H
     go_enter Tryz.func91, Tryz.ntmps91
     go_wp2_with (first | ((with_reducible refine gate_dst (N := 1) rfl ?_); refine bxE (N := 1) (cs := #[.int .i64 a0_0, .int .i64 a0_1, .int .i64 a0_2]) (t := 84) ?_; intro gb101 hg w11 hbox hb; have n0_ := bS HB hb; have n1_ := Aside0.mk (hbox); have n2_ := gS hg HB; have n3_ := n2_; clear HB; have HB := n0_; have BK101 := n1_; have GW101 := n2_; have GE101 := n3_; clear n0_ n1_ n2_ n3_ hb hbox hg; have hcz12_0 := cq (v := .int .i64 a0_0) BK101 0; have hcz12_1 := cq (v := .int .i64 a0_1) BK101 1; have hcz12_2 := cq (v := .int .i64 a0_2) BK101 2; have hfz12_0 := fz BK101 0; have hfz12_1 := fz BK101 1; have hfz12_2 := fz BK101 2) | (go_at_call 34; (with_reducible refine (impl_within_int.calls a0_0 0 220000 true _ A3.out).mono ?_); rintro e w' ⟨rfl, ⟨nd, rfl⟩⟩) | (go_at_call 34; (with_reducible refine (impl_within_int.calls a0_1 1 8192 true _ A5.out).mono ?_); rintro e w' ⟨rfl, ⟨nd, rfl⟩⟩))
     go_ret
     exact ⟨eW, hbD HB⟩
   ·replace c6 := Bool.eq_false_iff.mpr c6
    subst c6
    have H1 : (some false) = some r := by rw [if_neg (show ¬ (false = true) by decide)] at H; exact H
    clear H
    have H := H1
    clear H1
    obtain rfl := Option.some.inj H
    go_enter Tryz.func91, Tryz.ntmps91
    go_wp2_with (first | ((with_reducible refine gate_dst (N := 1) rfl ?_); refine bxE (N := 1) (cs := #[.int .i64 a0_0, .int .i64 a0_1, .int .i64 a0_2]) (t := 84) ?_; intro gb101 hg w13 hbox hb; have n0_ := bS HB hb; have n1_ := Aside0.mk (hbox); have n2_ := gS hg HB; have n3_ := n2_; clear HB; have HB := n0_; have BK101 := n1_; have GW101 := n2_; have GE101 := n3_; clear n0_ n1_ n2_ n3_ hb hbox hg; have hcz14_0 := cq (v := .int .i64 a0_0) BK101 0; have hcz14_1 := cq (v := .int .i64 a0_1) BK101 1; have hcz14_2 := cq (v := .int .i64 a0_2) BK101 2; have hfz14_0 := fz BK101 0; have hfz14_1 := fz BK101 1; have hfz14_2 := fz BK101 2) | (go_at_call 34; (with_reducible refine (impl_within_int.calls a0_0 0 220000 true _ A3.out).mono ?_); rintro e w' ⟨rfl, ⟨nd, rfl⟩⟩) | (go_at_call 34; (with_reducible refine (impl_within_int.calls a0_1 1 8192 false _ A5.out).mono ?_); rintro e w' ⟨rfl, ⟨nd, rfl⟩⟩))
    go_ret
    exact ⟨eW, hbD HB⟩
  ·replace c4 := Bool.eq_false_iff.mpr c4
   subst c4
   have H1 : (some false) = some r := by rw [if_neg (show ¬ (false = true) by decide)] at H; exact H
   clear H
   have H := H1
   clear H1
   obtain rfl := Option.some.inj H
   go_enter Tryz.func91, Tryz.ntmps91
   go_wp2_with (first | ((with_reducible refine gate_dst (N := 1) rfl ?_); refine bxE (N := 1) (cs := #[.int .i64 a0_0, .int .i64 a0_1, .int .i64 a0_2]) (t := 84) ?_; intro gb101 hg w15 hbox hb; have n0_ := bS HB hb; have n1_ := Aside0.mk (hbox); have n2_ := gS hg HB; have n3_ := n2_; clear HB; have HB := n0_; have BK101 := n1_; have GW101 := n2_; have GE101 := n3_; clear n0_ n1_ n2_ n3_ hb hbox hg; have hcz16_0 := cq (v := .int .i64 a0_0) BK101 0; have hcz16_1 := cq (v := .int .i64 a0_1) BK101 1; have hcz16_2 := cq (v := .int .i64 a0_2) BK101 2; have hfz16_0 := fz BK101 0; have hfz16_1 := fz BK101 1; have hfz16_2 := fz BK101 2) | (go_at_call 34; (with_reducible refine (impl_within_int.calls a0_0 0 220000 false _ A3.out).mono ?_); rintro e w' ⟨rfl, ⟨nd, rfl⟩⟩))
   go_ret
   exact ⟨eW, hbD HB⟩
 ·rw [if_neg c2] at H
  have c2b0 : (!(a0_0 == 0) || (!(a0_1 == 0) || (!(a0_2 == 0)))) = false := by simpa using c2
  clear c2
  obtain rfl := Option.some.inj H
  go_enter Tryz.func91, Tryz.ntmps91
  go_wp2_with (first | ((with_reducible refine gate_dst (N := 1) rfl ?_); refine bxE (N := 1) (cs := #[.int .i64 a0_0, .int .i64 a0_1, .int .i64 a0_2]) (t := 84) ?_; intro gb101 hg w17 hbox hb; have n0_ := bS HB hb; have n1_ := Aside0.mk (hbox); have n2_ := gS hg HB; have n3_ := n2_; clear HB; have HB := n0_; have BK101 := n1_; have GW101 := n2_; have GE101 := n3_; clear n0_ n1_ n2_ n3_ hb hbox hg; have hcz18_0 := cq (v := .int .i64 a0_0) BK101 0; have hcz18_1 := cq (v := .int .i64 a0_1) BK101 1; have hcz18_2 := cq (v := .int .i64 a0_2) BK101 2; have hfz18_0 := fz BK101 0; have hfz18_1 := fz BK101 1; have hfz18_2 := fz BK101 2))
  go_ret
  exact ⟨eW, hbD HB⟩

/-! ### impl_breaksIn: function 94 -/
def impl_breaksIn.l0 : Nat → Int → List Int → Int → Int → Option (Int)
 | 0, _, _, _, _ => none
 | k + 1, x3, x6, x7, x8 => if x8 < x7 then (if 0 ≤ x8 then (if x8 < (x6.length : Int) then (if (rd x6 x8) = 10 then (impl_breaksIn.l0 k (wrap64 (x3 + 1)) x6 x7 (wrap64 (x8 + 1))) else (impl_breaksIn.l0 k x3 x6 x7 (wrap64 (x8 + 1)))) else (none)) else (none)) else (some x3)
def impl_breaksIn.f (k : Nat) (l0 : List Int) : Option (Int) := impl_breaksIn.l0 k 0 l0 (l0.length : Int) 0
set_option maxHeartbeats 8000000 in
set_option maxRecDepth 100000 in
theorem impl_breaksIn.calls (k : Nat) (A0 : Option Addr) (c0 : Nat) (l0 : List Int) (r : Int) (w : World) (hr0 : Kd.C (Kd.int .i32) w A0 l0.length l0) (hc0 : l0.length ≤ c0) (h : impl_breaksIn.f k l0 = some r) :
  Calls Tryz.prog 94 #[.slice A0 l0.length c0] w fun e w' => e = .returned (.int .i64 r) ∧ Drawn0 w w' := by
 have HR0 := Aside0.mk hr0
 have HC0 := Aside0.mk hc0
 clear hr0 hc0
 have H : (impl_breaksIn.l0 k 0 l0 (l0.length : Int) 0) = some r := h
 clear h
 have H' := Aside0.mk H
 clear H
 go_enter Tryz.func94, Tryz.ntmps94
 go_wp2
 go_loopg [3, 8] k (fun kq v3 v8 w' => ∃ (x3_1 : Int) (x8_1 : Int), v3 = .int .i64 x3_1 ∧ v8 = .int .i64 x8_1 ∧ Aside0 (impl_breaksIn.l0 kq x3_1 l0 (l0.length : Int) x8_1 = some r) ∧ Aside0 (kq ≤ k) ∧ Drawn0 w w')
 case atStart => exact ⟨(0), (0), eV, eV, H', ⟨Nat.le_refl _⟩, by repeat (first | exact Drawn0.refl _ | apply Drawn0.step)⟩
 case round =>
  clear H'
  obtain ⟨x3_1, x8_1, rfl, rfl, HA, HK1, ⟨m1, rfl⟩⟩ := hrel
  cases gk with
  | zero => exact absurd HA.out (by simp [impl_breaksIn.l0])
  | succ k1 =>
   have H := HA.out
   clear HA
   simp only [impl_breaksIn.l0] at H
   by_cases c2 : x8_1 < (l0.length : Int)
   ·rw [if_pos c2] at H
    have c2b0 : decide (x8_1 < (l0.length : Int)) = true := decide_eq_true c2
    clear c2
    by_cases c3 : 0 ≤ x8_1
    ·rw [if_pos c3] at H
     have c3b0 : decide (0 ≤ x8_1) = true := decide_eq_true c3
     clear c3
     by_cases c4 : x8_1 < (l0.length : Int)
     ·rw [if_pos c4] at H
      have c4b0 : decide (x8_1 < (l0.length : Int)) = true := decide_eq_true c4
      clear c4
      by_cases c5 : (rd l0 x8_1) = 10
      ·rw [if_pos c5] at H
       have c5b0 : ((rd l0 x8_1) == 10) = true := beq_iff_eq.mpr c5
       have c5b1 : ((rd l0 x8_1) != 10) = false := bne_eq_false_iff_eq.mpr c5
       clear c5
       have H' := Aside0.mk H
       clear H
       have p105 : 0 ≤ (x8_1 : Int) := oD
       have q105 : x8_1 < (l0.length : Int) := oD
       obtain ⟨ad105, e105, hx105_0⟩ := Kd.at_int HR0.out x8_1 p105 q105
       cases e105
       replace p105 := eq_true p105
       replace q105 := eq_true q105
       go_wp2
       go_roundg k1
       case measure => have := HK1.out; omega
       case rel => exact ⟨(wrap64 (x3_1 + 1)), (wrap64 (x8_1 + 1)), eV, eV, H', ⟨by have := HK1.out; omega⟩, by repeat (first | exact Drawn0.refl _ | apply Drawn0.step)⟩
      ·rw [if_neg c5] at H
       have c5b0 : ((rd l0 x8_1) == 10) = false := beq_eq_false_iff_ne.mpr c5
       have c5b1 : ((rd l0 x8_1) != 10) = true := bne_iff_ne.mpr c5
       have H' := Aside0.mk H
       clear H
       have p105 : 0 ≤ (x8_1 : Int) := oD
       have q105 : x8_1 < (l0.length : Int) := oD
       obtain ⟨ad105, e105, hx105_0⟩ := Kd.at_int HR0.out x8_1 p105 q105
       cases e105
       replace p105 := eq_true p105
       replace q105 := eq_true q105
       go_wp2
       go_roundg k1
       case measure => have := HK1.out; omega
       case rel => exact ⟨(x3_1), (wrap64 (x8_1 + 1)), eV, eV, H', ⟨by have := HK1.out; omega⟩, by repeat (first | exact Drawn0.refl _ | apply Drawn0.step)⟩
     ·rw [if_neg c4] at H
      exact absurd H (by simp)
    ·rw [if_neg c3] at H
     exact absurd H (by simp)
   ·rw [if_neg c2] at H
    have c2b0 : decide (x8_1 < (l0.length : Int)) = false := decide_eq_false c2
    clear c2
    obtain rfl := Option.some.inj H
    go_wp2
    go_ret
    exact ⟨by first | rfl | (simp; done) | (simp [*]; done), by repeat (first | exact Drawn0.refl _ | apply Drawn0.step)⟩

/-! ### spec_l2Total: function 28 -/
def spec_l2Total.l0 : Nat → Int → List (S86) → Int → Int → Option (Int)
 | 0, _, _, _, _ => none
 | k + 1, x3, x6, x7, x8 => if x8 < x7 then (if 0 ≤ x8 then (if x8 < (x6.length : Int) then (spec_l2Total.l0 k (wrap64 (x3 + ((rd_T86 x6 x8).f0.f1))) x6 x7 (wrap64 (x8 + 1))) else (none)) else (none)) else (some x3)
def spec_l2Total.f (k : Nat) (l0 : List (S86)) : Option (Int) := spec_l2Total.l0 k 0 l0 (l0.length : Int) 0
theorem spec_l2Total.mono_l : ∀ k, (∀ y0 y1 y2 y3, LeO (spec_l2Total.l0 k y0 y1 y2 y3) (spec_l2Total.l0 (k + 1) y0 y1 y2 y3))
 | 0 => fun _ _ _ _ r h => by simp [spec_l2Total.l0] at h
 | k + 1 => by
  have ih0 := spec_l2Total.mono_l k
  ·intro y0 y1 y2 y3
   unfold spec_l2Total.l0
   repeat' first
   | (with_reducible first | exact ih0 _ _ _ _ | exact lR _ | exact lN _ | refine lI ?_ ?_ | refine lB ?_ (fun _ => ?_)) | exact ih0 _ _ _ _ | exact lN _ | refine lI ?_ ?_ | refine lB ?_ (fun _ => ?_)
theorem spec_l2Total.mono : ∀ a0 k, LeO (spec_l2Total.f k a0) (spec_l2Total.f (k + 1) a0) := by
 intro a0 k
 have ih0 := spec_l2Total.mono_l k
 unfold spec_l2Total.f
 repeat' first
   | (with_reducible first | exact ih0 _ _ _ _ | exact lR _ | exact lN _ | refine lI ?_ ?_ | refine lB ?_ (fun _ => ?_)) | exact ih0 _ _ _ _ | exact lN _ | refine lI ?_ ?_ | refine lB ?_ (fun _ => ?_)
set_option maxHeartbeats 8000000 in
set_option maxRecDepth 100000 in
theorem spec_l2Total.calls (k : Nat) (A0 : Option Addr) (c0 : Nat) (l0 : List (S86)) (r : Int) (w : World) (hr0 : Kd.C k86 w A0 l0.length l0) (hc0 : l0.length ≤ c0) (h : spec_l2Total.f k l0 = some r) :
  Calls Tryz.prog 28 #[.slice A0 l0.length c0] w fun e w' => e = .returned (.int .i64 r) ∧ Below w.heap.size w w' := by
 have hu86 := Tryz.underlying86
 have HR0 := Aside0.mk hr0
 have HC0 := Aside0.mk hc0
 clear hr0 hc0
 have HB := Aside0.mk (Below.refl w.heap.size w)
 have H : (spec_l2Total.l0 k 0 l0 (l0.length : Int) 0) = some r := h
 clear h
 have H' := Aside0.mk H
 clear H
 go_enter Tryz.func28, Tryz.ntmps28
 go_wp2
 go_loopg [3, 8] k (fun kq v3 v8 w' => ∃ (x3_1 : Int) (x8_1 : Int), v3 = .int .i64 x3_1 ∧ v8 = .int .i64 x8_1 ∧ Aside0 (spec_l2Total.l0 kq x3_1 l0 (l0.length : Int) x8_1 = some r) ∧ Aside0 (kq ≤ k) ∧ Aside0 (Below w.heap.size w w'))
 case atStart => exact ⟨(0), (0), eV, eV, H', ⟨Nat.le_refl _⟩, ⟨hbD HB⟩⟩
 case round =>
  clear H'
  obtain ⟨x3_1, x8_1, rfl, rfl, HA, HK1, HB⟩ := hrel
  cases gk with
  | zero => exact absurd HA.out (by simp [spec_l2Total.l0])
  | succ k1 =>
   have H := HA.out
   clear HA
   simp only [spec_l2Total.l0] at H
   by_cases c2 : x8_1 < (l0.length : Int)
   ·rw [if_pos c2] at H
    have c2b0 : decide (x8_1 < (l0.length : Int)) = true := decide_eq_true c2
    clear c2
    by_cases c3 : 0 ≤ x8_1
    ·rw [if_pos c3] at H
     have c3b0 : decide (0 ≤ x8_1) = true := decide_eq_true c3
     clear c3
     by_cases c4 : x8_1 < (l0.length : Int)
     ·rw [if_pos c4] at H
      have c4b0 : decide (x8_1 < (l0.length : Int)) = true := decide_eq_true c4
      clear c4
      have H' := Aside0.mk H
      clear H
      have p106 : 0 ≤ (x8_1 : Int) := oD
      have q106 : x8_1 < (l0.length : Int) := oD
      obtain ⟨ad106, e106, hx106_0, hx106_1, hx106_2, hx106_3⟩ := at_T86 HR0.out x8_1 p106 q106
      cases e106
      replace hx106_0 := (HB.out.cell (World.block_lt_of_cell? w _ hx106_0)).trans hx106_0
      replace hx106_1 := (HB.out.cell (World.block_lt_of_cell? w _ hx106_1)).trans hx106_1
      replace hx106_2 := (HB.out.cell (World.block_lt_of_cell? w _ hx106_2)).trans hx106_2
      replace hx106_3 := (HB.out.cell (World.block_lt_of_cell? w _ hx106_3)).trans hx106_3
      replace p106 := eq_true p106
      replace q106 := eq_true q106
      go_wp2_with (first | ((with_reducible refine gate_dst (N := 5) rfl ?_); refine bxE (N := 5) (cs := #[.int .i64 0, .int .i64 0, .int .i64 0, .int .i64 0]) (t := 86) ?_; intro gb107 hg w5 hbox hb; have n0_ := bS HB hb; have n1_ := Aside0.mk (hbox); have n2_ := gS hg HB; have n3_ := n2_; clear HB; have HB := n0_; have BK107 := n1_; have GW107 := n2_; have GE107 := n3_; clear n0_ n1_ n2_ n3_ hb hbox hg; have hcz6_0 := cq (v := .int .i64 0) BK107 0; have hcz6_1 := cq (v := .int .i64 0) BK107 1; have hcz6_2 := cq (v := .int .i64 0) BK107 2; have hcz6_3 := cq (v := .int .i64 0) BK107 3; have hfz6_0 := fz BK107 0; have hfz6_1 := fz BK107 1; have hfz6_2 := fz BK107 2; have hfz6_3 := fz BK107 3))
      go_roundg k1
      case measure => have := HK1.out; omega
      case rel => exact ⟨(wrap64 (x3_1 + ((rd_T86 l0 x8_1).f0.f1))), (wrap64 (x8_1 + 1)), eV, eV, H', ⟨by have := HK1.out; omega⟩, ⟨hbD HB⟩⟩
     ·rw [if_neg c4] at H
      exact absurd H (by simp)
    ·rw [if_neg c3] at H
     exact absurd H (by simp)
   ·rw [if_neg c2] at H
    have c2b0 : decide (x8_1 < (l0.length : Int)) = false := decide_eq_false c2
    clear c2
    obtain rfl := Option.some.inj H
    go_wp2
    go_ret
    exact ⟨eW, hbD HB⟩

/-! ### impl_unless: function 33 -/
def impl_unless.f (a0 : Bool) (a1 : Int) : Option (Option Int) := if a0 = true then (some none) else (some (some a1))
set_option maxHeartbeats 8000000 in
set_option maxRecDepth 100000 in
theorem impl_unless.calls (a0 : Bool) (a1 : Int) (r : Option Int) (w : World) (h : impl_unless.f a0 a1 = some r) :
  Calls Tryz.prog 33 #[.bool a0, .int .i64 a1] w fun e w' => e = .returned (errW r) ∧ Drawn0 w w' := by
 have hu60 := Tryz.underlying60
 have hu98 := Tryz.underlying98
 have H : (if a0 = true then (some none) else (some (some a1))) = some r := h
 clear h
 by_cases c3 : a0 = true
 ·subst c3
  have H1 : (some none) = some r := by rw [if_pos rfl] at H; exact H
  clear H
  have H := H1
  clear H1
  obtain rfl := Option.some.inj H
  go_enter Tryz.func33, Tryz.ntmps33
  go_wp2
  go_ret
  exact ⟨by first | rfl | (simp; done) | (simp [*]; done), by repeat (first | exact Drawn0.refl _ | apply Drawn0.step)⟩
 ·replace c3 := Bool.eq_false_iff.mpr c3
  subst c3
  have H1 : (some (some a1)) = some r := by rw [if_neg (show ¬ (false = true) by decide)] at H; exact H
  clear H
  have H := H1
  clear H1
  obtain rfl := Option.some.inj H
  go_enter Tryz.func33, Tryz.ntmps33
  go_wp2
  go_ret
  exact ⟨by first | rfl | (simp; done) | (simp [*]; done), by repeat (first | exact Drawn0.refl _ | apply Drawn0.step)⟩

end Go.Proofs.YtnomidpnofhjdaaGreatDoor.QBase
