/- What the law FnExactPieceInsert reaches: each function as a plain function, and that the machine's call does it (written by a program). The condition, where there is one: errors.errorType reads as laid. -/
import Derived.Test.YtnomidpnofhjdaaGreatDoorQFnExactPieceInsertx0
import Derived.Test.YtnomidpnofhjdaaGreatDoorSq
namespace Go.Proofs.YtnomidpnofhjdaaGreatDoor.QFnExactPieceInsert
open Go.Proofs.YtnomidpnofhjdaaGreatDoor.Er Go.Proofs.YtnomidpnofhjdaaGreatDoor.Sq
open Go.RowKit Go.Proofs.YtnomidpnofhjdaaGreatDoorW.PrintWords Go.Proofs.YtnomidpnofhjdaaGreatDoorW.PrintLast Go.Proofs.YtnomidpnofhjdaaGreatDoorW.PrintMore
set_option maxRecDepth 100000
attribute [local go_sem] max2_int min2_int max_two min_two max_three min_three max_four min_four   -- for this text's walks alone
set_option linter.unusedVariables false
set_option linter.unusedSimpArgs false

def laws_szInt32S.f (l0 : List Int) (a1 : Int) : Option (Int) := if (wrap64 (a1 - (l0.length : Int))) < 0 then (some (-1)) else (some (wrap64 (a1 - (l0.length : Int))))
set_option maxHeartbeats 8000000 in
theorem laws_szInt32S.calls (A0 : Option Addr) (c0 : Nat) (l0 : List Int) (a1 : Int) (r : Int) (w : World) (hr0 : Kd.C (Kd.int .i32) w A0 l0.length l0) (hc0 : l0.length ≤ c0) (h : laws_szInt32S.f l0 a1 = some r) :
  Calls Tryz.prog 26 #[.slice A0 l0.length c0, .int .i64 a1] w fun e w' => e = .returned (.int .i64 r) ∧ Drawn0 w w' := by
 have HR0 := Aside0.mk hr0; have HC0 := Aside0.mk hc0; clear hr0 hc0; have H : (if (wrap64 (a1 - (l0.length : Int))) < 0 then (some (-1)) else (some (wrap64 (a1 - (l0.length : Int))))) = some r := h; clear h; by_cases c3 : (wrap64 (a1 - (l0.length : Int))) < 0
 ·rw [if_pos c3] at H
  have c3b0 : decide ((wrap64 (a1 - (l0.length : Int))) < 0) = true := decide_eq_true c3; clear c3; obtain rfl := Option.some.inj H; go_enter Tryz.func26, Tryz.ntmps26; go_wp2; go_ret; exact ⟨by first | rfl | (simp; done) | (simp [*]; done), by repeat (first | exact Drawn0.refl _ | apply Drawn0.step)⟩
 ·rw [if_neg c3] at H
  have c3b0 : decide ((wrap64 (a1 - (l0.length : Int))) < 0) = false := decide_eq_false c3; clear c3; obtain rfl := Option.some.inj H; go_enter Tryz.func26, Tryz.ntmps26; go_wp2; go_ret; exact ⟨by first | rfl | (simp; done) | (simp [*]; done), by repeat (first | exact Drawn0.refl _ | apply Drawn0.step)⟩

def laws_szItemS.f (l0 : List (S133)) (a1 : Int) : Option (Int) := if (wrap64 (a1 - (l0.length : Int))) < 0 then (some (-1)) else (some (wrap64 (a1 - (l0.length : Int))))
set_option maxHeartbeats 8000000 in
theorem laws_szItemS.calls (A0 : Option Addr) (c0 : Nat) (l0 : List (S133)) (a1 : Int) (r : Int) (w : World) (hr0 : Kd.C k133 w A0 l0.length l0) (hc0 : l0.length ≤ c0) (h : laws_szItemS.f l0 a1 = some r) :
  Calls Tryz.prog 56 #[.slice A0 l0.length c0, .int .i64 a1] w fun e w' => e = .returned (.int .i64 r) ∧ Drawn0 w w' := by
 have HR0 := Aside0.mk hr0; have HC0 := Aside0.mk hc0; clear hr0 hc0; have H : (if (wrap64 (a1 - (l0.length : Int))) < 0 then (some (-1)) else (some (wrap64 (a1 - (l0.length : Int))))) = some r := h; clear h; by_cases c3 : (wrap64 (a1 - (l0.length : Int))) < 0
 ·rw [if_pos c3] at H
  have c3b0 : decide ((wrap64 (a1 - (l0.length : Int))) < 0) = true := decide_eq_true c3; clear c3; obtain rfl := Option.some.inj H; go_enter Tryz.func56, Tryz.ntmps56; go_wp2; go_ret; exact ⟨by first | rfl | (simp; done) | (simp [*]; done), by repeat (first | exact Drawn0.refl _ | apply Drawn0.step)⟩
 ·rw [if_neg c3] at H
  have c3b0 : decide ((wrap64 (a1 - (l0.length : Int))) < 0) = false := decide_eq_false c3; clear c3; obtain rfl := Option.some.inj H; go_enter Tryz.func56, Tryz.ntmps56; go_wp2; go_ret; exact ⟨by first | rfl | (simp; done) | (simp [*]; done), by repeat (first | exact Drawn0.refl _ | apply Drawn0.step)⟩

def laws_szTree.f (l0_0 : List (S133)) (a1 : Int) : Option (Int) := (laws_szItemS.f l0_0 a1).bind fun t102 => (if t102 < 0 then (some (-1)) else (some t102))
set_option maxHeartbeats 8000000 in
theorem laws_szTree.calls (A0_0 : Option Addr) (c0_0 : Nat) (l0_0 : List (S133)) (a1 : Int) (r : Int) (w : World) (hr0_0 : Kd.C k133 w A0_0 l0_0.length l0_0) (hc0_0 : l0_0.length ≤ c0_0) (h : laws_szTree.f l0_0 a1 = some r) :
  Calls Tryz.prog 27 #[.agg #[.slice A0_0 l0_0.length c0_0], .int .i64 a1] w fun e w' => e = .returned (.int .i64 r) ∧ Below w.heap.size w w' := by
 have hu25 := Tryz.underlying25; have HR0_0 := Aside0.mk hr0_0; have HC0_0 := Aside0.mk hc0_0; clear hr0_0 hc0_0; have HB := Aside0.mk (Below.refl w.heap.size w); have H : ((laws_szItemS.f l0_0 a1).bind fun t102 => (if t102 < 0 then (some (-1)) else (some t102))) = some r := h; clear h; replace H := Option.bind_eq_some_iff.mp H; obtain ⟨t102, A30, H⟩ := H; replace H : (if t102 < 0 then (some (-1)) else (some t102)) = some r := H; have A3 := Aside0.mk A30; clear A30; by_cases c4 : t102 < 0
 ·rw [if_pos c4] at H
  have c4b0 : decide (t102 < 0) = true := decide_eq_true c4; clear c4; obtain rfl := Option.some.inj H; go_enter Tryz.func27, Tryz.ntmps27; go_wp2_with (first | ((with_reducible refine gate_dst (N := 2) rfl ?_); refine bxE (N := 2) (cs := #[.slice A0_0 l0_0.length c0_0]) (t := 25) ?_; intro gb101 hg w5 hbox hb; have BK101 := Aside0.mk (hbox); have GW101 := gS hg HB; have GE101 := GW101; replace HB := bS HB hb; clear hb hbox hg; have hcz6_0 := cq (v := .slice A0_0 l0_0.length c0_0) BK101 0; have hfz6_0 := fz BK101 0) | ((with_reducible refine gate_callee (f := 56) rfl ?_); refine goA (some 8) Tryz.func56 #[.slice A0_0 l0_0.length c0_0, .int .i64 a1] ?_; (with_reducible refine (laws_szItemS.calls _ _ l0_0 a1 t102 _ ?side1 ?side2 A3.out).mono ?_); (case side1 => exact cD (Kd.C_below HR0_0.out HB.out)); (case side2 => exact HC0_0.out); rintro e w' ⟨rfl, ⟨nd, rfl⟩⟩; refine ⟨_, rfl, ?_⟩)); go_ret; exact ⟨eW, hbD HB⟩
 ·rw [if_neg c4] at H
  have c4b0 : decide (t102 < 0) = false := decide_eq_false c4; clear c4; obtain rfl := Option.some.inj H; go_enter Tryz.func27, Tryz.ntmps27; go_wp2_with (first | ((with_reducible refine gate_dst (N := 2) rfl ?_); refine bxE (N := 2) (cs := #[.slice A0_0 l0_0.length c0_0]) (t := 25) ?_; intro gb101 hg w7 hbox hb; have BK101 := Aside0.mk (hbox); have GW101 := gS hg HB; have GE101 := GW101; replace HB := bS HB hb; clear hb hbox hg; have hcz8_0 := cq (v := .slice A0_0 l0_0.length c0_0) BK101 0; have hfz8_0 := fz BK101 0) | ((with_reducible refine gate_callee (f := 56) rfl ?_); refine goA (some 8) Tryz.func56 #[.slice A0_0 l0_0.length c0_0, .int .i64 a1] ?_; (with_reducible refine (laws_szItemS.calls _ _ l0_0 a1 t102 _ ?side1 ?side2 A3.out).mono ?_); (case side1 => exact cD (Kd.C_below HR0_0.out HB.out)); (case side2 => exact HC0_0.out); rintro e w' ⟨rfl, ⟨nd, rfl⟩⟩; refine ⟨_, rfl, ?_⟩)); go_ret; exact ⟨eW, hbD HB⟩

def laws_szPieceBuf.f (l0_0 : List Int) (l0_1 : List (S133)) (a1 : Int) : Option (Int) := (laws_szInt32S.f l0_0 a1).bind fun t104 => (if t104 < 0 then (some (-1)) else ((laws_szTree.f l0_1 t104).bind fun t105 => (if t105 < 0 then (some (-1)) else (some t105))))
set_option maxHeartbeats 8000000 in
theorem laws_szPieceBuf.calls (A0_0 : Option Addr) (c0_0 : Nat) (l0_0 : List Int) (A0_1 : Option Addr) (c0_1 : Nat) (l0_1 : List (S133)) (a1 : Int) (r : Int) (w : World) (hr0_0 : Kd.C (Kd.int .i32) w A0_0 l0_0.length l0_0) (hc0_0 : l0_0.length ≤ c0_0) (hr0_1 : Kd.C k133 w A0_1 l0_1.length l0_1) (hc0_1 : l0_1.length ≤ c0_1) (h : laws_szPieceBuf.f l0_0 l0_1 a1 = some r) :
  Calls Tryz.prog 6 #[.agg #[.slice A0_0 l0_0.length c0_0, .slice A0_1 l0_1.length c0_1], .int .i64 a1] w fun e w' => e = .returned (.int .i64 r) ∧ Below w.heap.size w w' := by
 have hu27 := Tryz.underlying27; have hu25 := Tryz.underlying25; have HR0_0 := Aside0.mk hr0_0; have HC0_0 := Aside0.mk hc0_0; clear hr0_0 hc0_0; have HR0_1 := Aside0.mk hr0_1; have HC0_1 := Aside0.mk hc0_1; clear hr0_1 hc0_1; have HB := Aside0.mk (Below.refl w.heap.size w); have H : ((laws_szInt32S.f l0_0 a1).bind fun t104 => (if t104 < 0 then (some (-1)) else ((laws_szTree.f l0_1 t104).bind fun t105 => (if t105 < 0 then (some (-1)) else (some t105))))) = some r := h; clear h; replace H := Option.bind_eq_some_iff.mp H; obtain ⟨t104, A30, H⟩ := H; replace H : (if t104 < 0 then (some (-1)) else ((laws_szTree.f l0_1 t104).bind fun t105 => (if t105 < 0 then (some (-1)) else (some t105)))) = some r := H; have A3 := Aside0.mk A30; clear A30; by_cases c4 : t104 < 0
 ·rw [if_pos c4] at H
  have c4b0 : decide (t104 < 0) = true := decide_eq_true c4; clear c4; obtain rfl := Option.some.inj H; go_enter Tryz.func6, Tryz.ntmps6; go_wp2_with (first | ((with_reducible refine gate_dst (N := 2) rfl ?_); refine bxE (N := 2) (cs := #[.slice A0_0 l0_0.length c0_0, .slice A0_1 l0_1.length c0_1]) (t := 27) ?_; intro gb103 hg w5 hbox hb; have BK103 := Aside0.mk (hbox); have GW103 := gS hg HB; have GE103 := GW103; replace HB := bS HB hb; clear hb hbox hg; have hcz6_0 := cq (v := .slice A0_0 l0_0.length c0_0) BK103 0; have hcz6_1 := cq (v := .slice A0_1 l0_1.length c0_1) BK103 1; have hfz6_0 := fz BK103 0; have hfz6_1 := fz BK103 1) | ((with_reducible refine gate_callee (f := 26) rfl ?_); refine goA (some 8) Tryz.func26 #[.slice A0_0 l0_0.length c0_0, .int .i64 a1] ?_; (with_reducible refine (laws_szInt32S.calls _ _ l0_0 a1 t104 _ ?side1 ?side2 A3.out).mono ?_); (case side1 => exact cD (Kd.C_below HR0_0.out HB.out)); (case side2 => exact HC0_0.out); rintro e w' ⟨rfl, ⟨nd, rfl⟩⟩; refine ⟨_, rfl, ?_⟩)); go_ret; exact ⟨eW, hbD HB⟩
 ·rw [if_neg c4] at H
  have c4b0 : decide (t104 < 0) = false := decide_eq_false c4; clear c4; replace H := Option.bind_eq_some_iff.mp H; obtain ⟨t105, A70, H⟩ := H; replace H : (if t105 < 0 then (some (-1)) else (some t105)) = some r := H; have A7 := Aside0.mk A70; clear A70; by_cases c8 : t105 < 0
  ·rw [if_pos c8] at H
   have c8b0 : decide (t105 < 0) = true := decide_eq_true c8; clear c8; obtain rfl := Option.some.inj H; go_enter Tryz.func6, Tryz.ntmps6; go_wp2_with (first | ((with_reducible refine gate_dst (N := 2) rfl ?_); refine bxE (N := 2) (cs := #[.slice A0_0 l0_0.length c0_0, .slice A0_1 l0_1.length c0_1]) (t := 27) ?_; intro gb103 hg w9 hbox hb; have BK103 := Aside0.mk (hbox); have GW103 := gS hg HB; have GE103 := GW103; replace HB := bS HB hb; clear hb hbox hg; have hcz10_0 := cq (v := .slice A0_0 l0_0.length c0_0) BK103 0; have hcz10_1 := cq (v := .slice A0_1 l0_1.length c0_1) BK103 1; have hfz10_0 := fz BK103 0; have hfz10_1 := fz BK103 1) | ((with_reducible refine gate_callee (f := 26) rfl ?_); refine goA (some 8) Tryz.func26 #[.slice A0_0 l0_0.length c0_0, .int .i64 a1] ?_; (with_reducible refine (laws_szInt32S.calls _ _ l0_0 a1 t104 _ ?side1 ?side2 A3.out).mono ?_); (case side1 => exact cD (Kd.C_below HR0_0.out HB.out)); (case side2 => exact HC0_0.out); rintro e w' ⟨rfl, ⟨nd, rfl⟩⟩; refine ⟨_, rfl, ?_⟩) | ((with_reducible refine gate_callee (f := 27) rfl ?_); refine goA (some 14) Tryz.func27 #[.agg #[.slice A0_1 l0_1.length c0_1], .int .i64 t104] ?_; (with_reducible refine (laws_szTree.calls _ _ l0_1 t104 t105 _ ?side1 ?side2 A7.out).mono ?_); (case side1 => repeat (first | exact (Kd.C_below HR0_1.out (hbD HB)) | (with_reducible refine Kd.C_alloc ?_ _) | (with_reducible refine Kd.C_drewN ?_ _) | (with_reducible refine Kd.C_drew ?_))); (case side2 => exact HC0_1.out); rintro e w11 ⟨rfl, hb⟩; refine ⟨_, rfl, ?_⟩; replace BK103 := bb BK103 hb; replace HB := bS HB hb; (try clear hb); (try clear hb2); (try clear hk); (try clear hi))); go_ret; exact ⟨eW, hbD HB⟩
  ·rw [if_neg c8] at H
   have c8b0 : decide (t105 < 0) = false := decide_eq_false c8; clear c8; obtain rfl := Option.some.inj H; go_enter Tryz.func6, Tryz.ntmps6; go_wp2_with (first | ((with_reducible refine gate_dst (N := 2) rfl ?_); refine bxE (N := 2) (cs := #[.slice A0_0 l0_0.length c0_0, .slice A0_1 l0_1.length c0_1]) (t := 27) ?_; intro gb103 hg w12 hbox hb; have BK103 := Aside0.mk (hbox); have GW103 := gS hg HB; have GE103 := GW103; replace HB := bS HB hb; clear hb hbox hg; have hcz13_0 := cq (v := .slice A0_0 l0_0.length c0_0) BK103 0; have hcz13_1 := cq (v := .slice A0_1 l0_1.length c0_1) BK103 1; have hfz13_0 := fz BK103 0; have hfz13_1 := fz BK103 1) | ((with_reducible refine gate_callee (f := 26) rfl ?_); refine goA (some 8) Tryz.func26 #[.slice A0_0 l0_0.length c0_0, .int .i64 a1] ?_; (with_reducible refine (laws_szInt32S.calls _ _ l0_0 a1 t104 _ ?side1 ?side2 A3.out).mono ?_); (case side1 => exact cD (Kd.C_below HR0_0.out HB.out)); (case side2 => exact HC0_0.out); rintro e w' ⟨rfl, ⟨nd, rfl⟩⟩; refine ⟨_, rfl, ?_⟩) | ((with_reducible refine gate_callee (f := 27) rfl ?_); refine goA (some 14) Tryz.func27 #[.agg #[.slice A0_1 l0_1.length c0_1], .int .i64 t104] ?_; (with_reducible refine (laws_szTree.calls _ _ l0_1 t104 t105 _ ?side1 ?side2 A7.out).mono ?_); (case side1 => repeat (first | exact (Kd.C_below HR0_1.out (hbD HB)) | (with_reducible refine Kd.C_alloc ?_ _) | (with_reducible refine Kd.C_drewN ?_ _) | (with_reducible refine Kd.C_drew ?_))); (case side2 => exact HC0_1.out); rintro e w14 ⟨rfl, hb⟩; refine ⟨_, rfl, ?_⟩; replace BK103 := bb BK103 hb; replace HB := bS HB hb; (try clear hb); (try clear hb2); (try clear hk); (try clear hi))); go_ret; exact ⟨eW, hbD HB⟩

def spec_l2Total.l0 : Nat → Int → List (S86) → Int → Int → Option (Int)
 | 0, _, _, _, _ => none
 | k + 1, x3, x6, x7, x8 => if x8 < x7 then (if 0 ≤ x8 then (if x8 < (x6.length : Int) then (spec_l2Total.l0 k (wrap64 (x3 + ((rd_T86 x6 x8).f0.f1))) x6 x7 (wrap64 (x8 + 1))) else (none)) else (none)) else (some x3)
def spec_l2Total.f (k : Nat) (l0 : List (S86)) : Option (Int) := spec_l2Total.l0 k 0 l0 (l0.length : Int) 0
theorem spec_l2Total.mono_l : ∀ k, (∀ y0 y1 y2 y3, LeO (spec_l2Total.l0 k y0 y1 y2 y3) (spec_l2Total.l0 (k + 1) y0 y1 y2 y3))
 | 0 => fun _ _ _ _ r h => by simp [spec_l2Total.l0] at h
 | k + 1 => by
  have ih0 := spec_l2Total.mono_l k
  ·intro y0 y1 y2 y3
   unfold spec_l2Total.l0
   repeat' first
   | (with_reducible first | exact ih0 _ _ _ _ | exact lR _ | exact lN _ | refine lI ?_ ?_ | refine lB ?_ (fun _ => ?_)) | exact ih0 _ _ _ _ | exact lN _ | refine lI ?_ ?_ | refine lB ?_ (fun _ => ?_)
theorem spec_l2Total.mono : ∀ a0 k, LeO (spec_l2Total.f k a0) (spec_l2Total.f (k + 1) a0) := by
 intro a0 k; have ih0 := spec_l2Total.mono_l k; unfold spec_l2Total.f
 repeat' first
   | (with_reducible first | exact ih0 _ _ _ _ | exact lR _ | exact lN _ | refine lI ?_ ?_ | refine lB ?_ (fun _ => ?_)) | exact ih0 _ _ _ _ | exact lN _ | refine lI ?_ ?_ | refine lB ?_ (fun _ => ?_)
set_option maxHeartbeats 8000000 in
theorem spec_l2Total.calls (k : Nat) (A0 : Option Addr) (c0 : Nat) (l0 : List (S86)) (r : Int) (w : World) (hr0 : Kd.C k86 w A0 l0.length l0) (hc0 : l0.length ≤ c0) (h : spec_l2Total.f k l0 = some r) :
  Calls Tryz.prog 28 #[.slice A0 l0.length c0] w fun e w' => e = .returned (.int .i64 r) ∧ Below w.heap.size w w' := by
 have hu86 := Tryz.underlying86; have HR0 := Aside0.mk hr0; have HC0 := Aside0.mk hc0; clear hr0 hc0; have HB := Aside0.mk (Below.refl w.heap.size w); have H : (spec_l2Total.l0 k 0 l0 (l0.length : Int) 0) = some r := h; clear h; have H' := Aside0.mk H; clear H; go_enter Tryz.func28, Tryz.ntmps28; go_wp2; go_loopg [3, 8] k (fun kq v3 v8 w' => ∃ (x3_1 : Int) (x8_1 : Int), v3 = .int .i64 x3_1 ∧ v8 = .int .i64 x8_1 ∧ Aside0 (spec_l2Total.l0 kq x3_1 l0 (l0.length : Int) x8_1 = some r) ∧ Aside0 (kq ≤ k) ∧ Aside0 (Below w.heap.size w w'))
 case atStart => exact ⟨(0), (0), eV, eV, H', ⟨Nat.le_refl _⟩, ⟨hbD HB⟩⟩
 case round =>
  clear H'; obtain ⟨x3_1, x8_1, rfl, rfl, HA, HK1, HB⟩ := hrel
  cases gk with
  | zero => exact absurd HA.out (by simp [spec_l2Total.l0])
  | succ k1 =>
   have H := HA.out; clear HA; simp only [spec_l2Total.l0] at H; by_cases c2 : x8_1 < (l0.length : Int)
   ·rw [if_pos c2] at H
    have c2b0 : decide (x8_1 < (l0.length : Int)) = true := decide_eq_true c2; clear c2; by_cases c3 : 0 ≤ x8_1
    ·rw [if_pos c3] at H
     have c3b0 : decide (0 ≤ x8_1) = true := decide_eq_true c3; clear c3; by_cases c4 : x8_1 < (l0.length : Int)
     ·rw [if_pos c4] at H
      have c4b0 : decide (x8_1 < (l0.length : Int)) = true := decide_eq_true c4; clear c4; have H' := Aside0.mk H; clear H; have p106 : 0 ≤ (x8_1 : Int) := oD; have q106 : x8_1 < (l0.length : Int) := oD; obtain ⟨ad106, e106, hx106_0, hx106_1, hx106_2, hx106_3⟩ := at_T86 HR0.out x8_1 p106 q106
      cases e106
      replace hx106_0 := (HB.out.cell (World.block_lt_of_cell? w _ hx106_0)).trans hx106_0; replace hx106_1 := (HB.out.cell (World.block_lt_of_cell? w _ hx106_1)).trans hx106_1; replace hx106_2 := (HB.out.cell (World.block_lt_of_cell? w _ hx106_2)).trans hx106_2; replace hx106_3 := (HB.out.cell (World.block_lt_of_cell? w _ hx106_3)).trans hx106_3; replace p106 := eq_true p106; replace q106 := eq_true q106; go_wp2_with (first | ((with_reducible refine gate_dst (N := 5) rfl ?_); refine bxE (N := 5) (cs := #[.int .i64 0, .int .i64 0, .int .i64 0, .int .i64 0]) (t := 86) ?_; intro gb107 hg w5 hbox hb; have BK107 := Aside0.mk (hbox); have GW107 := gS hg HB; have GE107 := GW107; replace HB := bS HB hb; clear hb hbox hg; have hcz6_0 := cq (v := .int .i64 0) BK107 0; have hcz6_1 := cq (v := .int .i64 0) BK107 1; have hcz6_2 := cq (v := .int .i64 0) BK107 2; have hcz6_3 := cq (v := .int .i64 0) BK107 3; have hfz6_0 := fz BK107 0; have hfz6_1 := fz BK107 1; have hfz6_2 := fz BK107 2; have hfz6_3 := fz BK107 3)); go_roundg k1
      case measure => have := HK1.out; omega
      case rel => exact ⟨(wrap64 (x3_1 + ((rd_T86 l0 x8_1).f0.f1))), (wrap64 (x8_1 + 1)), eV, eV, H', ⟨by have := HK1.out; omega⟩, ⟨hbD HB⟩⟩
     ·rw [if_neg c4] at H
      exact absurd H (by simp)
    ·rw [if_neg c3] at H
     exact absurd H (by simp)
   ·rw [if_neg c2] at H
    have c2b0 : decide (x8_1 < (l0.length : Int)) = false := decide_eq_false c2; clear c2; obtain rfl := Option.some.inj H; go_wp2; go_ret; exact ⟨eW, hbD HB⟩

def spec_l2PieceOk.f (a0_0 : Int) (a0_1 : Int) (a0_2 : Int) : Option (Bool) := if a0_1 < 1 then (some false) else (if a0_1 > 8192 then (some false) else (if a0_0 < 0 then (some false) else (if a0_0 > 220000 then (some false) else (if (wrap64 (a0_0 + a0_1)) ≤ 220000 then (if a0_2 ≥ 0 then (some (decide (a0_2 ≤ a0_1))) else (some false)) else (some false)))))
set_option maxHeartbeats 8000000 in
theorem spec_l2PieceOk.calls (a0_0 : Int) (a0_1 : Int) (a0_2 : Int) (r : Bool) (w : World) (h : spec_l2PieceOk.f a0_0 a0_1 a0_2 = some r) :
  Calls Tryz.prog 87 #[.agg #[.int .i64 a0_0, .int .i64 a0_1, .int .i64 a0_2]] w fun e w' => e = .returned (.bool r) ∧ Below w.heap.size w w' := by
 have hu84 := Tryz.underlying84; have HB := Aside0.mk (Below.refl w.heap.size w); have H : (if a0_1 < 1 then (some false) else (if a0_1 > 8192 then (some false) else (if a0_0 < 0 then (some false) else (if a0_0 > 220000 then (some false) else (if (wrap64 (a0_0 + a0_1)) ≤ 220000 then (if a0_2 ≥ 0 then (some (decide (a0_2 ≤ a0_1))) else (some false)) else (some false)))))) = some r := h; clear h; by_cases c2 : a0_1 < 1
 ·rw [if_pos c2] at H
  have c2b0 : decide (a0_1 < 1) = true := decide_eq_true c2; clear c2; obtain rfl := Option.some.inj H; go_enter Tryz.func87, Tryz.ntmps87; go_wp2_with (first | ((with_reducible refine gate_dst (N := 1) rfl ?_); refine bxE (N := 1) (cs := #[.int .i64 a0_0, .int .i64 a0_1, .int .i64 a0_2]) (t := 84) ?_; intro gb108 hg w3 hbox hb; have BK108 := Aside0.mk (hbox); have GW108 := gS hg HB; have GE108 := GW108; replace HB := bS HB hb; clear hb hbox hg; have hcz4_0 := cq (v := .int .i64 a0_0) BK108 0; have hcz4_1 := cq (v := .int .i64 a0_1) BK108 1; have hcz4_2 := cq (v := .int .i64 a0_2) BK108 2; have hfz4_0 := fz BK108 0; have hfz4_1 := fz BK108 1; have hfz4_2 := fz BK108 2)); go_ret; exact ⟨eW, hbD HB⟩
 ·rw [if_neg c2] at H
  have c2b0 : decide (a0_1 < 1) = false := decide_eq_false c2; clear c2; by_cases c5 : a0_1 > 8192
  ·rw [if_pos c5] at H
   have c5b0 : decide (8192 < a0_1) = true := decide_eq_true c5; clear c5; obtain rfl := Option.some.inj H; go_enter Tryz.func87, Tryz.ntmps87; go_wp2_with (first | ((with_reducible refine gate_dst (N := 1) rfl ?_); refine bxE (N := 1) (cs := #[.int .i64 a0_0, .int .i64 a0_1, .int .i64 a0_2]) (t := 84) ?_; intro gb108 hg w6 hbox hb; have BK108 := Aside0.mk (hbox); have GW108 := gS hg HB; have GE108 := GW108; replace HB := bS HB hb; clear hb hbox hg; have hcz7_0 := cq (v := .int .i64 a0_0) BK108 0; have hcz7_1 := cq (v := .int .i64 a0_1) BK108 1; have hcz7_2 := cq (v := .int .i64 a0_2) BK108 2; have hfz7_0 := fz BK108 0; have hfz7_1 := fz BK108 1; have hfz7_2 := fz BK108 2)); go_ret; exact ⟨eW, hbD HB⟩
  ·rw [if_neg c5] at H
   have c5b0 : decide (8192 < a0_1) = false := decide_eq_false c5; clear c5; by_cases c8 : a0_0 < 0
   ·rw [if_pos c8] at H
    have c8b0 : decide (a0_0 < 0) = true := decide_eq_true c8; clear c8; obtain rfl := Option.some.inj H; go_enter Tryz.func87, Tryz.ntmps87; go_wp2_with (first | ((with_reducible refine gate_dst (N := 1) rfl ?_); refine bxE (N := 1) (cs := #[.int .i64 a0_0, .int .i64 a0_1, .int .i64 a0_2]) (t := 84) ?_; intro gb108 hg w9 hbox hb; have BK108 := Aside0.mk (hbox); have GW108 := gS hg HB; have GE108 := GW108; replace HB := bS HB hb; clear hb hbox hg; have hcz10_0 := cq (v := .int .i64 a0_0) BK108 0; have hcz10_1 := cq (v := .int .i64 a0_1) BK108 1; have hcz10_2 := cq (v := .int .i64 a0_2) BK108 2; have hfz10_0 := fz BK108 0; have hfz10_1 := fz BK108 1; have hfz10_2 := fz BK108 2)); go_ret; exact ⟨eW, hbD HB⟩
   ·rw [if_neg c8] at H
    have c8b0 : decide (a0_0 < 0) = false := decide_eq_false c8; clear c8; by_cases c11 : a0_0 > 220000
    ·rw [if_pos c11] at H
     have c11b0 : decide (220000 < a0_0) = true := decide_eq_true c11; clear c11; obtain rfl := Option.some.inj H; go_enter Tryz.func87, Tryz.ntmps87; go_wp2_with (first | ((with_reducible refine gate_dst (N := 1) rfl ?_); refine bxE (N := 1) (cs := #[.int .i64 a0_0, .int .i64 a0_1, .int .i64 a0_2]) (t := 84) ?_; intro gb108 hg w12 hbox hb; have BK108 := Aside0.mk (hbox); have GW108 := gS hg HB; have GE108 := GW108; replace HB := bS HB hb; clear hb hbox hg; have hcz13_0 := cq (v := .int .i64 a0_0) BK108 0; have hcz13_1 := cq (v := .int .i64 a0_1) BK108 1; have hcz13_2 := cq (v := .int .i64 a0_2) BK108 2; have hfz13_0 := fz BK108 0; have hfz13_1 := fz BK108 1; have hfz13_2 := fz BK108 2)); go_ret; exact ⟨eW, hbD HB⟩
    ·rw [if_neg c11] at H
     have c11b0 : decide (220000 < a0_0) = false := decide_eq_false c11; clear c11; by_cases c14 : (wrap64 (a0_0 + a0_1)) ≤ 220000
     ·rw [if_pos c14] at H
      have c14b0 : decide ((wrap64 (a0_0 + a0_1)) ≤ 220000) = true := decide_eq_true c14; clear c14; by_cases c15 : a0_2 ≥ 0
      ·rw [if_pos c15] at H
       have c15b0 : decide (0 ≤ a0_2) = true := decide_eq_true c15; clear c15; obtain rfl := Option.some.inj H; go_enter Tryz.func87, Tryz.ntmps87; go_wp2_with (first | ((with_reducible refine gate_dst (N := 1) rfl ?_); refine bxE (N := 1) (cs := #[.int .i64 a0_0, .int .i64 a0_1, .int .i64 a0_2]) (t := 84) ?_; intro gb108 hg w16 hbox hb; have BK108 := Aside0.mk (hbox); have GW108 := gS hg HB; have GE108 := GW108; replace HB := bS HB hb; clear hb hbox hg; have hcz17_0 := cq (v := .int .i64 a0_0) BK108 0; have hcz17_1 := cq (v := .int .i64 a0_1) BK108 1; have hcz17_2 := cq (v := .int .i64 a0_2) BK108 2; have hfz17_0 := fz BK108 0; have hfz17_1 := fz BK108 1; have hfz17_2 := fz BK108 2)); go_ret; exact ⟨eW, hbD HB⟩
      ·rw [if_neg c15] at H
       have c15b0 : decide (0 ≤ a0_2) = false := decide_eq_false c15; clear c15; obtain rfl := Option.some.inj H; go_enter Tryz.func87, Tryz.ntmps87; go_wp2_with (first | ((with_reducible refine gate_dst (N := 1) rfl ?_); refine bxE (N := 1) (cs := #[.int .i64 a0_0, .int .i64 a0_1, .int .i64 a0_2]) (t := 84) ?_; intro gb108 hg w18 hbox hb; have BK108 := Aside0.mk (hbox); have GW108 := gS hg HB; have GE108 := GW108; replace HB := bS HB hb; clear hb hbox hg; have hcz19_0 := cq (v := .int .i64 a0_0) BK108 0; have hcz19_1 := cq (v := .int .i64 a0_1) BK108 1; have hcz19_2 := cq (v := .int .i64 a0_2) BK108 2; have hfz19_0 := fz BK108 0; have hfz19_1 := fz BK108 1; have hfz19_2 := fz BK108 2)); go_ret; exact ⟨eW, hbD HB⟩
     ·rw [if_neg c14] at H
      have c14b0 : decide ((wrap64 (a0_0 + a0_1)) ≤ 220000) = false := decide_eq_false c14; clear c14; obtain rfl := Option.some.inj H; go_enter Tryz.func87, Tryz.ntmps87; go_wp2_with (first | ((with_reducible refine gate_dst (N := 1) rfl ?_); refine bxE (N := 1) (cs := #[.int .i64 a0_0, .int .i64 a0_1, .int .i64 a0_2]) (t := 84) ?_; intro gb108 hg w20 hbox hb; have BK108 := Aside0.mk (hbox); have GW108 := gS hg HB; have GE108 := GW108; replace HB := bS HB hb; clear hb hbox hg; have hcz21_0 := cq (v := .int .i64 a0_0) BK108 0; have hcz21_1 := cq (v := .int .i64 a0_1) BK108 1; have hcz21_2 := cq (v := .int .i64 a0_2) BK108 2; have hfz21_0 := fz BK108 0; have hfz21_1 := fz BK108 1; have hfz21_2 := fz BK108 2)); go_ret; exact ⟨eW, hbD HB⟩

mutual
def spec_l2Shape.l0 : Nat → List (S86) → Int → Int → Int → Int → Int → Option (Int)
 | 0, _, _, _, _, _, _ => none
 | k + 1, x0, x1, x2, x3, x9, x10 => if x10 < x2 then (if 0 ≤ x10 then (if x10 < (x0.length : Int) then (if ((rd_T86 x0 x10).f1) < x3 then (some (-1)) else (if ((rd_T86 x0 x10).f1) = x3 then (if x9 ≥ 0 then (some (-1)) else (spec_l2Shape.l0 k x0 x1 x2 x3 x10 (wrap64 (x10 + 1)))) else (spec_l2Shape.l0 k x0 x1 x2 x3 x9 (wrap64 (x10 + 1))))) else (none)) else (none)) else (if x9 < 0 then (some (-1)) else ((spec_l2Shape.f k x0 x1 x9 (wrap64 (x3 + 1))).bind fun t111 => (if t111 < 0 then (some (-1)) else ((spec_l2Shape.f k x0 (wrap64 (x9 + 1)) x2 (wrap64 (x3 + 1))).bind fun t112 => (if t112 < 0 then (spec_l2Shape.j1 k t111 t112 true) else (if (wrap64 (t111 - t112)) > 1 then (spec_l2Shape.j1 k t111 t112 true) else (spec_l2Shape.j1 k t111 t112 (decide ((wrap64 (t112 - t111)) > 1)))))))))
def spec_l2Shape.j1 : Nat → Int → Int → Bool → Option (Int)
 | 0, _, _, _ => none
 | k + 1, x11, x12, x71 => if x71 = true then (some (-1)) else (if x12 > x11 then (some (wrap64 (x12 + 1))) else (some (wrap64 (x11 + 1))))
def spec_l2Shape.f : Nat → List (S86) → Int → Int → Int → Option (Int)
 | 0, _, _, _, _ => none
 | k + 1, l0, a1, a2, a3 => if a1 ≥ a2 then (some 0) else (if a3 > 40 then (some (-1)) else (spec_l2Shape.l0 k l0 a1 a2 a3 (-1) a1))
end
theorem spec_l2Shape.mono_l : ∀ k, (∀ y0 y1 y2 y3, LeO (spec_l2Shape.f k y0 y1 y2 y3) (spec_l2Shape.f (k + 1) y0 y1 y2 y3)) ∧ (∀ y0 y1 y2 y3 y4 y5, LeO (spec_l2Shape.l0 k y0 y1 y2 y3 y4 y5) (spec_l2Shape.l0 (k + 1) y0 y1 y2 y3 y4 y5)) ∧ (∀ y0 y1 y2, LeO (spec_l2Shape.j1 k y0 y1 y2) (spec_l2Shape.j1 (k + 1) y0 y1 y2))
 | 0 => ⟨fun _ _ _ _ r h => by simp [spec_l2Shape.f] at h, fun _ _ _ _ _ _ r h => by simp [spec_l2Shape.l0] at h, fun _ _ _ r h => by simp [spec_l2Shape.j1] at h⟩
 | k + 1 => by
  obtain ⟨ih0, ih1, ih2⟩ := spec_l2Shape.mono_l k; refine ⟨?_, ?_, ?_⟩
  ·intro y0 y1 y2 y3
   unfold spec_l2Shape.f
   repeat' first
   | (with_reducible first | exact ih0 _ _ _ _ | exact ih1 _ _ _ _ _ _ | exact ih2 _ _ _ | exact lR _ | exact lN _ | refine lI ?_ ?_ | refine lB ?_ (fun _ => ?_)) | exact ih0 _ _ _ _ | exact ih1 _ _ _ _ _ _ | exact ih2 _ _ _ | exact lN _ | refine lI ?_ ?_ | refine lB ?_ (fun _ => ?_)
  ·intro y0 y1 y2 y3 y4 y5
   unfold spec_l2Shape.l0
   repeat' first
   | (with_reducible first | exact ih0 _ _ _ _ | exact ih1 _ _ _ _ _ _ | exact ih2 _ _ _ | exact lR _ | exact lN _ | refine lI ?_ ?_ | refine lB ?_ (fun _ => ?_)) | exact ih0 _ _ _ _ | exact ih1 _ _ _ _ _ _ | exact ih2 _ _ _ | exact lN _ | refine lI ?_ ?_ | refine lB ?_ (fun _ => ?_)
  ·intro y0 y1 y2
   unfold spec_l2Shape.j1
   repeat' first
   | (with_reducible first | exact ih0 _ _ _ _ | exact ih1 _ _ _ _ _ _ | exact ih2 _ _ _ | exact lR _ | exact lN _ | refine lI ?_ ?_ | refine lB ?_ (fun _ => ?_)) | exact ih0 _ _ _ _ | exact ih1 _ _ _ _ _ _ | exact ih2 _ _ _ | exact lN _ | refine lI ?_ ?_ | refine lB ?_ (fun _ => ?_)
theorem spec_l2Shape.mono : ∀ a0 a1 a2 a3 k, LeO (spec_l2Shape.f k a0 a1 a2 a3) (spec_l2Shape.f (k + 1) a0 a1 a2 a3) := by
 intro a0 a1 a2 a3 k; obtain ⟨ih0, ih1, ih2⟩ := spec_l2Shape.mono_l k; exact ih0 a0 a1 a2 a3
set_option maxHeartbeats 8000000 in
theorem spec_l2Shape.calls (k : Nat) : ∀ (A0 : Option Addr) (c0 : Nat) (l0 : List (S86)) (a1 : Int) (a2 : Int) (a3 : Int) (r : Int) (w : World) (hr0 : Kd.C k86 w A0 l0.length l0) (hc0 : l0.length ≤ c0) (h : spec_l2Shape.f k l0 a1 a2 a3 = some r),
  Calls Tryz.prog 88 #[.slice A0 l0.length c0, .int .i64 a1, .int .i64 a2, .int .i64 a3] w fun e w' => e = .returned (.int .i64 r) ∧ Drawn0 w w' := by
 induction k using Nat.strongRecOn with
 | _ k ih =>
 intro A0 c0 l0 a1 a2 a3 r w hr0 hc0 h
 cases k with
 | zero => exact absurd h (by simp [spec_l2Shape.f])
 | succ k =>
 simp only [spec_l2Shape.f] at h; have HR0 := Aside0.mk hr0; have HC0 := Aside0.mk hc0; clear hr0 hc0; have H : (if a1 ≥ a2 then (some 0) else (if a3 > 40 then (some (-1)) else (spec_l2Shape.l0 k l0 a1 a2 a3 (-1) a1))) = some r := h; clear h; by_cases c5 : a1 ≥ a2
 ·rw [if_pos c5] at H
  have c5b0 : decide (a2 ≤ a1) = true := decide_eq_true c5; clear c5; obtain rfl := Option.some.inj H; go_enter Tryz.func88, Tryz.ntmps88; go_wp2; go_ret; exact ⟨by first | rfl | (simp; done) | (simp [*]; done), by repeat (first | exact Drawn0.refl _ | apply Drawn0.step)⟩
 ·rw [if_neg c5] at H
  have c5b0 : decide (a2 ≤ a1) = false := decide_eq_false c5; clear c5; by_cases c6 : a3 > 40
  ·rw [if_pos c6] at H
   have c6b0 : decide (40 < a3) = true := decide_eq_true c6; clear c6; obtain rfl := Option.some.inj H; go_enter Tryz.func88, Tryz.ntmps88; go_wp2; go_ret; exact ⟨by first | rfl | (simp; done) | (simp [*]; done), by repeat (first | exact Drawn0.refl _ | apply Drawn0.step)⟩
  ·rw [if_neg c6] at H
   have c6b0 : decide (40 < a3) = false := decide_eq_false c6; clear c6; have H' := Aside0.mk H; clear H; go_enter Tryz.func88, Tryz.ntmps88; go_wp2; go_loopg [9, 10] k (fun kq v9 v10 w' => ∃ (x9_1 : Int) (x10_1 : Int), v9 = .int .i64 x9_1 ∧ v10 = .int .i64 x10_1 ∧ Aside0 (spec_l2Shape.l0 kq l0 a1 a2 a3 x9_1 x10_1 = some r) ∧ Aside0 (kq ≤ k) ∧ Drawn0 w w')
   case atStart => exact ⟨((-1)), (a1), eV, eV, H', ⟨Nat.le_refl _⟩, by repeat (first | exact Drawn0.refl _ | apply Drawn0.step)⟩
   case round =>
    clear H'; (try clear p2); (try clear c5); (try clear c5b0); (try clear c6); (try clear c6b0); obtain ⟨x9_1, x10_1, rfl, rfl, HA, HK1, ⟨m1, rfl⟩⟩ := hrel
    cases gk with
    | zero => exact absurd HA.out (by simp [spec_l2Shape.l0])
    | succ k1 =>
     have H := HA.out; clear HA; simp only [spec_l2Shape.l0] at H; by_cases c7 : x10_1 < a2
     ·rw [if_pos c7] at H
      have c7b0 : decide (x10_1 < a2) = true := decide_eq_true c7; clear c7; by_cases c8 : 0 ≤ x10_1
      ·rw [if_pos c8] at H
       have c8b0 : decide (0 ≤ x10_1) = true := decide_eq_true c8; clear c8; by_cases c9 : x10_1 < (l0.length : Int)
       ·rw [if_pos c9] at H
        have c9b0 : decide (x10_1 < (l0.length : Int)) = true := decide_eq_true c9; clear c9; by_cases c10 : ((rd_T86 l0 x10_1).f1) < a3
        ·rw [if_pos c10] at H
         have c10b0 : decide (((rd_T86 l0 x10_1).f1) < a3) = true := decide_eq_true c10; clear c10; obtain rfl := Option.some.inj H; have p109 : 0 ≤ (x10_1 : Int) := oD; have q109 : x10_1 < (l0.length : Int) := oD; obtain ⟨ad109, e109, hx109_0, hx109_1, hx109_2, hx109_3⟩ := at_T86 HR0.out x10_1 p109 q109
         cases e109
         replace p109 := eq_true p109; replace q109 := eq_true q109; go_wp2; go_ret; exact ⟨by first | rfl | (simp; done) | (simp [*]; done), by repeat (first | exact Drawn0.refl _ | apply Drawn0.step)⟩
        ·rw [if_neg c10] at H
         have c10b0 : decide (((rd_T86 l0 x10_1).f1) < a3) = false := decide_eq_false c10; clear c10; by_cases c11 : ((rd_T86 l0 x10_1).f1) = a3
         ·rw [if_pos c11] at H
          have c11b0 : (((rd_T86 l0 x10_1).f1) == a3) = true := beq_iff_eq.mpr c11; have c11b1 : (((rd_T86 l0 x10_1).f1) != a3) = false := bne_eq_false_iff_eq.mpr c11; clear c11; by_cases c12 : x9_1 ≥ 0
          ·rw [if_pos c12] at H
           have c12b0 : decide (0 ≤ x9_1) = true := decide_eq_true c12; clear c12; obtain rfl := Option.some.inj H; have p109 : 0 ≤ (x10_1 : Int) := oD; have q109 : x10_1 < (l0.length : Int) := oD; obtain ⟨ad109, e109, hx109_0, hx109_1, hx109_2, hx109_3⟩ := at_T86 HR0.out x10_1 p109 q109
           cases e109
           replace p109 := eq_true p109; replace q109 := eq_true q109; have p110 : 0 ≤ (x10_1 : Int) := oD; have q110 : x10_1 < (l0.length : Int) := oD; obtain ⟨ad110, e110, hx110_0, hx110_1, hx110_2, hx110_3⟩ := at_T86 HR0.out x10_1 p110 q110; obtain rfl : ad109 = ad110 := (by injection e110); replace p110 := eq_true p110; replace q110 := eq_true q110; go_wp2; go_ret; exact ⟨by first | rfl | (simp; done) | (simp [*]; done), by repeat (first | exact Drawn0.refl _ | apply Drawn0.step)⟩
          ·rw [if_neg c12] at H
           have c12b0 : decide (0 ≤ x9_1) = false := decide_eq_false c12; clear c12; have H' := Aside0.mk H; clear H; have p109 : 0 ≤ (x10_1 : Int) := oD; have q109 : x10_1 < (l0.length : Int) := oD; obtain ⟨ad109, e109, hx109_0, hx109_1, hx109_2, hx109_3⟩ := at_T86 HR0.out x10_1 p109 q109
           cases e109
           replace p109 := eq_true p109; replace q109 := eq_true q109; have p110 : 0 ≤ (x10_1 : Int) := oD; have q110 : x10_1 < (l0.length : Int) := oD; obtain ⟨ad110, e110, hx110_0, hx110_1, hx110_2, hx110_3⟩ := at_T86 HR0.out x10_1 p110 q110; obtain rfl : ad109 = ad110 := (by injection e110); replace p110 := eq_true p110; replace q110 := eq_true q110; go_wp2; go_roundg k1
           case measure => have := HK1.out; omega
           case rel => exact ⟨(x10_1), (wrap64 (x10_1 + 1)), eV, eV, H', ⟨by have := HK1.out; omega⟩, by repeat (first | exact Drawn0.refl _ | apply Drawn0.step)⟩
         ·rw [if_neg c11] at H
          have c11b0 : (((rd_T86 l0 x10_1).f1) == a3) = false := beq_eq_false_iff_ne.mpr c11; have c11b1 : (((rd_T86 l0 x10_1).f1) != a3) = true := bne_iff_ne.mpr c11; have H' := Aside0.mk H; clear H; have p109 : 0 ≤ (x10_1 : Int) := oD; have q109 : x10_1 < (l0.length : Int) := oD; obtain ⟨ad109, e109, hx109_0, hx109_1, hx109_2, hx109_3⟩ := at_T86 HR0.out x10_1 p109 q109
          cases e109
          replace p109 := eq_true p109; replace q109 := eq_true q109; have p110 : 0 ≤ (x10_1 : Int) := oD; have q110 : x10_1 < (l0.length : Int) := oD; obtain ⟨ad110, e110, hx110_0, hx110_1, hx110_2, hx110_3⟩ := at_T86 HR0.out x10_1 p110 q110; obtain rfl : ad109 = ad110 := (by injection e110); replace p110 := eq_true p110; replace q110 := eq_true q110; go_wp2; go_roundg k1
          case measure => have := HK1.out; omega
          case rel => exact ⟨(x9_1), (wrap64 (x10_1 + 1)), eV, eV, H', ⟨by have := HK1.out; omega⟩, by repeat (first | exact Drawn0.refl _ | apply Drawn0.step)⟩
       ·rw [if_neg c9] at H
        exact absurd H (by simp)
      ·rw [if_neg c8] at H
       exact absurd H (by simp)
     ·rw [if_neg c7] at H
      have c7b0 : decide (x10_1 < a2) = false := decide_eq_false c7; clear c7; by_cases c13 : x9_1 < 0
      ·rw [if_pos c13] at H
       have c13b0 : decide (x9_1 < 0) = true := decide_eq_true c13; clear c13; obtain rfl := Option.some.inj H; go_wp2; go_ret; exact ⟨by first | rfl | (simp; done) | (simp [*]; done), by repeat (first | exact Drawn0.refl _ | apply Drawn0.step)⟩
      ·rw [if_neg c13] at H
       have c13b0 : decide (x9_1 < 0) = false := decide_eq_false c13; clear c13; replace H := Option.bind_eq_some_iff.mp H; obtain ⟨t111, A140, H⟩ := H; replace H : (if t111 < 0 then (some (-1)) else ((spec_l2Shape.f k1 l0 (wrap64 (x9_1 + 1)) a2 (wrap64 (a3 + 1))).bind fun t112 => (if t112 < 0 then (spec_l2Shape.j1 k1 t111 t112 true) else (if (wrap64 (t111 - t112)) > 1 then (spec_l2Shape.j1 k1 t111 t112 true) else (spec_l2Shape.j1 k1 t111 t112 (decide ((wrap64 (t112 - t111)) > 1))))))) = some r := H; have A14 := Aside0.mk A140; clear A140; by_cases c15 : t111 < 0
       ·rw [if_pos c15] at H
        have c15b0 : decide (t111 < 0) = true := decide_eq_true c15; clear c15; obtain rfl := Option.some.inj H; go_wp2_with (first | ((with_reducible refine gate_callee (f := 88) rfl ?_); refine goA (some 48) Tryz.func88 #[.slice A0 l0.length c0, .int .i64 a1, .int .i64 x9_1, .int .i64 (wrap64 (a3 + 1))] ?_; (with_reducible refine (ih k1 (by have := HK1.out; omega) _ _ l0 a1 x9_1 (wrap64 (a3 + 1)) t111 _ ?side1 ?side2 A14.out).mono ?_); (case side1 => repeat (first | exact HR0.out | (with_reducible refine Kd.C_alloc ?_ _) | (with_reducible refine Kd.C_drewN ?_ _) | (with_reducible refine Kd.C_drew ?_))); (case side2 => exact HC0.out); rintro e w' ⟨rfl, ⟨nd, rfl⟩⟩; refine ⟨_, rfl, ?_⟩)); go_ret; exact ⟨by first | rfl | (simp; done) | (simp [*]; done), by repeat (first | exact Drawn0.refl _ | apply Drawn0.step)⟩
       ·rw [if_neg c15] at H
        have c15b0 : decide (t111 < 0) = false := decide_eq_false c15; clear c15; replace H := Option.bind_eq_some_iff.mp H; obtain ⟨t112, A160, H⟩ := H; replace H : (if t112 < 0 then (spec_l2Shape.j1 k1 t111 t112 true) else (if (wrap64 (t111 - t112)) > 1 then (spec_l2Shape.j1 k1 t111 t112 true) else (spec_l2Shape.j1 k1 t111 t112 (decide ((wrap64 (t112 - t111)) > 1))))) = some r := H; have A16 := Aside0.mk A160; clear A160; have HC17 := Aside0.mk H; clear H; go_upto_region 21 with (first | ((with_reducible refine gate_callee (f := 88) rfl ?_); refine goA (some 48) Tryz.func88 #[.slice A0 l0.length c0, .int .i64 a1, .int .i64 x9_1, .int .i64 (wrap64 (a3 + 1))] ?_; (with_reducible refine (ih k1 (by have := HK1.out; omega) _ _ l0 a1 x9_1 (wrap64 (a3 + 1)) t111 _ ?side1 ?side2 A14.out).mono ?_); (case side1 => repeat (first | exact HR0.out | (with_reducible refine Kd.C_alloc ?_ _) | (with_reducible refine Kd.C_drewN ?_ _) | (with_reducible refine Kd.C_drew ?_))); (case side2 => exact HC0.out); rintro e w' ⟨rfl, ⟨nd, rfl⟩⟩; refine ⟨_, rfl, ?_⟩) | ((with_reducible refine gate_callee (f := 88) rfl ?_); refine goA (some 57) Tryz.func88 #[.slice A0 l0.length c0, .int .i64 (wrap64 (x9_1 + 1)), .int .i64 a2, .int .i64 (wrap64 (a3 + 1))] ?_; (with_reducible refine (ih k1 (by have := HK1.out; omega) _ _ l0 (wrap64 (x9_1 + 1)) a2 (wrap64 (a3 + 1)) t112 _ ?side1 ?side2 A16.out).mono ?_); (case side1 => repeat (first | exact HR0.out | (with_reducible refine Kd.C_alloc ?_ _) | (with_reducible refine Kd.C_drewN ?_ _) | (with_reducible refine Kd.C_drew ?_))); (case side2 => exact HC0.out); rintro e w' ⟨rfl, ⟨nd, rfl⟩⟩; refine ⟨_, rfl, ?_⟩))
        (try simp only [Act.put, zA_, zZ_, zS_]); go_cut [71] (fun v71 wc => ∃ (kq : Nat) (x71_16 : Bool), v71 = .bool x71_16 ∧ Aside0 (spec_l2Shape.j1 kq t111 t112 x71_16 = some r) ∧ Aside0 (kq ≤ k1) ∧ Drawn0 w wc)
        case first =>
         have H := HC17.out; clear HC17; by_cases c18 : t112 < 0
         ·rw [if_pos c18] at H
          have c18b0 : decide (t112 < 0) = true := decide_eq_true c18; clear c18; (first | rw [c18b0] | (simp only [i64_w, i32_w]; rw [c18b0]) | skip); have H' := Aside0.mk H; clear H; go_wp2; go_meet
          case rel => exact ⟨_, (true), eV, H', ⟨by have := HK1.out; first | omega | exact Nat.le_refl _⟩, by repeat (first | exact Drawn0.refl _ | apply Drawn0.step)⟩
         ·rw [if_neg c18] at H
          have c18b0 : decide (t112 < 0) = false := decide_eq_false c18; clear c18; (first | rw [c18b0] | (simp only [i64_w, i32_w]; rw [c18b0]) | skip); by_cases c19 : (wrap64 (t111 - t112)) > 1
          ·rw [if_pos c19] at H
           have c19b0 : decide (1 < (wrap64 (t111 - t112))) = true := decide_eq_true c19; clear c19; have H' := Aside0.mk H; clear H; go_wp2; go_meet
           case rel => exact ⟨_, (true), eV, H', ⟨by have := HK1.out; first | omega | exact Nat.le_refl _⟩, by repeat (first | exact Drawn0.refl _ | apply Drawn0.step)⟩
          ·rw [if_neg c19] at H
           have c19b0 : decide (1 < (wrap64 (t111 - t112))) = false := decide_eq_false c19; clear c19; have H' := Aside0.mk H; clear H; go_wp2; go_meet
           case rel => exact ⟨_, (decide ((wrap64 (t112 - t111)) > 1)), eV, H', ⟨by have := HK1.out; first | omega | exact Nat.le_refl _⟩, by repeat (first | exact Drawn0.refl _ | apply Drawn0.step)⟩
        case rest =>
         clear HC17; (try clear c1); (try clear p1); (try clear q1); (try clear hx1); (try clear p2); (try clear c5); (try clear c5b0); (try clear c6); (try clear c6b0); (try clear p6); (try clear c7); (try clear c7b0); (try clear c8); (try clear c8b0); (try clear c9); (try clear c9b0); (try clear c10); (try clear c10b0); (try clear p10); (try clear q10); (try clear hx10); (try clear c11); (try clear c11b0); (try clear c11b1); (try clear p11); (try clear q11); (try clear hx11); (try clear c12); (try clear c12b0); (try clear c13); (try clear c13b0); (try clear c15); (try clear c15b0); (try clear c18); (try clear c18b0); (try clear c19); (try clear c19b0); (try clear hx109_0); (try clear hx109_1); (try clear hx109_2); (try clear hx109_3); (try clear hx110_0); (try clear hx110_1); (try clear hx110_2); (try clear hx110_3); (try clear p109); (try clear p110); (try clear p2); (try clear q109); (try clear q110); obtain ⟨kq, x71_16, rfl, HA, HJ16, ⟨mc16, rfl⟩⟩ := hcut
         cases kq with
         | zero => exact absurd HA.out (by simp [spec_l2Shape.j1])
         | succ kj16 =>
          have H := HA.out; clear HA; simp only [spec_l2Shape.j1] at H; by_cases c20 : x71_16 = true
          ·subst c20
           have H1 : (some (-1)) = some r := by rw [if_pos rfl] at H; exact H
           clear H; have H := H1; clear H1; obtain rfl := Option.some.inj H; go_wp2; go_ret; exact ⟨by first | rfl | (simp; done) | (simp [*]; done), by repeat (first | exact Drawn0.refl _ | apply Drawn0.step)⟩
          ·replace c20 := Bool.eq_false_iff.mpr c20
           subst c20; have H1 : (if t112 > t111 then (some (wrap64 (t112 + 1))) else (some (wrap64 (t111 + 1)))) = some r := by rw [if_neg (show ¬ (false = true) by decide)] at H; exact H
           clear H; have H := H1; clear H1; by_cases c21 : t112 > t111
           ·rw [if_pos c21] at H
            have c21b0 : decide (t111 < t112) = true := decide_eq_true c21; clear c21; obtain rfl := Option.some.inj H; go_wp2; go_ret; exact ⟨by first | rfl | (simp; done) | (simp [*]; done), by repeat (first | exact Drawn0.refl _ | apply Drawn0.step)⟩
           ·rw [if_neg c21] at H
            have c21b0 : decide (t111 < t112) = false := decide_eq_false c21; clear c21; obtain rfl := Option.some.inj H; go_wp2; go_ret; exact ⟨by first | rfl | (simp; done) | (simp [*]; done), by repeat (first | exact Drawn0.refl _ | apply Drawn0.step)⟩

end Go.Proofs.YtnomidpnofhjdaaGreatDoor.QFnExactPieceInsert
