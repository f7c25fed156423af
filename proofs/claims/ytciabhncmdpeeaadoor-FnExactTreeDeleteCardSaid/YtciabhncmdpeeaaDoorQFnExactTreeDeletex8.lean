/- What the law FnExactTreeDelete reaches: each function as a plain function, and that the machine's call does it (written by a program). The condition, where there is one: errors.errorType reads as laid. -/
import Derived.Test.YtciabhncmdpeeaaDoorQFnExactTreeDeletex0
import Derived.Test.YtciabhncmdpeeaaDoorQFnExactTreeDeletex1
import Derived.Test.YtciabhncmdpeeaaDoorQFnExactTreeDeletex2
import Derived.Test.YtciabhncmdpeeaaDoorSq
import Derived.Test.YtciabhncmdpeeaaDoorQFnExactTreeDeletex3
import Derived.Test.YtciabhncmdpeeaaDoorQFnExactTreeDeletex4
import Derived.Test.YtciabhncmdpeeaaDoorQFnExactTreeDeletex6
namespace Go.Proofs.YtciabhncmdpeeaaDoor.QFnExactTreeDelete
open Go.Proofs.YtciabhncmdpeeaaDoor.Er Go.Proofs.YtciabhncmdpeeaaDoor.Sq
open Go.RowKit Go.Proofs.YtciabhncmdpeeaaDoorW.PrintWords Go.Proofs.YtciabhncmdpeeaaDoorW.PrintLast Go.Proofs.YtciabhncmdpeeaaDoorW.PrintMore
attribute [local go_sem] max2_int min2_int max_two min_two max_three min_three max_four min_four   -- for this text's walks alone
set_option linter.unusedVariables false
set_option linter.unusedSimpArgs false

/-! ### spec_l2Delete: function 98 -/
mutual
def spec_l2Delete.j0 : Nat → Int → List (S54) → Int → Bool → Option ((List (S54)))
 | 0, _, _, _, _ => none
 | k + 1, x1, x5, x8, x28 => if x28 = true then (if 0 ≤ (wrap64 (x1 + 1)) then (if (wrap64 (x1 + 1)) < (x5.length : Int) then (if 0 ≤ x1 then (if x1 < (x5.length : Int) then (spec_l2Delete.j1 k (x5.set (x1 : Int).toNat (⟨(⟨(rd_T54 x5 (wrap64 (x1 + 1))).f0.f0, (rd_T54 x5 (wrap64 (x1 + 1))).f0.f1, (rd_T54 x5 (wrap64 (x1 + 1))).f0.f2⟩ : S50), (rd_T54 x5 x1).f1⟩ : S54)) (wrap64 (x1 + 1))) else (none)) else (none)) else (none)) else (none)) else (spec_l2Delete.j1 k x5 x8)
def spec_l2Delete.j1 : Nat → List (S54) → Int → Option ((List (S54)))
 | 0, _, _ => none
 | k + 1, x5, x8 => (spec_l2Range.f k x5 x8).bind fun bt222 => (spec_l2Delete.l0 k x5 bt222.2 x8 bt222.1)
def spec_l2Delete.l0 : Nat → List (S54) → Int → Int → Int → Option ((List (S54)))
 | 0, _, _, _, _ => none
 | k + 1, x5, x7, x8, x9 => if x9 < x7 then (if x9 = x8 then (spec_l2Delete.l0 k x5 x7 x8 (wrap64 (x9 + 1))) else (if 0 ≤ x9 then (if x9 < (x5.length : Int) then (spec_l2Delete.l0 k (x5.set (x9 : Int).toNat (⟨(⟨(rd_T54 x5 x9).f0.f0, (rd_T54 x5 x9).f0.f1, (rd_T54 x5 x9).f0.f2⟩ : S50), wrap64 (((rd_T54 x5 x9).f1) - 1)⟩ : S54)) x7 x8 (wrap64 (x9 + 1))) else (none)) else (none))) else (if 0 ≤ x8 then (if x8 ≤ (x5.length : Int) then ((spec_l2Copy.f (x5.take (x8 : Int).toNat)).bind fun t230 => (if 0 ≤ (wrap64 (x8 + 1)) then (if (wrap64 (x8 + 1)) ≤ (x5.length : Int) then ((some (x5.drop ((wrap64 (x8 + 1)) : Int).toNat : List (S54))).bind fun y233 => (if t230.length + y233.length < 4398046511104 then ((spec_l2Repair.f k (t230 ++ y233)).bind fun t240 => (some t240)) else (none))) else (none)) else (none))) else (none)) else (none))
end
def spec_l2Delete.f (k : Nat) (l0 : List (S54)) (a1 : Int) : Option ((List (S54))) := (spec_l2Copy.f l0).bind fun t215 => ((spec_l2Range.f k t215 a1).bind fun bt218 => (if bt218.1 < a1 then (spec_l2Delete.j0 k a1 t215 a1 (decide ((wrap64 (a1 + 1)) < bt218.2))) else (spec_l2Delete.j0 k a1 t215 a1 false)))
theorem spec_l2Delete.mono_l : ∀ k, (∀ y0 y1 y2 y3, LeO (spec_l2Delete.j0 k y0 y1 y2 y3) (spec_l2Delete.j0 (k + 1) y0 y1 y2 y3)) ∧ (∀ y0 y1, LeO (spec_l2Delete.j1 k y0 y1) (spec_l2Delete.j1 (k + 1) y0 y1)) ∧ (∀ y0 y1 y2 y3, LeO (spec_l2Delete.l0 k y0 y1 y2 y3) (spec_l2Delete.l0 (k + 1) y0 y1 y2 y3))
 | 0 => ⟨fun _ _ _ _ r h => by simp [spec_l2Delete.j0] at h, fun _ _ r h => by simp [spec_l2Delete.j1] at h, fun _ _ _ _ r h => by simp [spec_l2Delete.l0] at h⟩
 | k + 1 => by
  obtain ⟨ih0, ih1, ih2⟩ := spec_l2Delete.mono_l k
  refine ⟨?_, ?_, ?_⟩
  ·intro y0 y1 y2 y3
   unfold spec_l2Delete.j0
   repeat' first
   | (with_reducible exact ih0 _ _ _ _)
   | (with_reducible exact ih1 _ _)
   | (with_reducible exact ih2 _ _ _ _)
   | (with_reducible exact spec_l2Range.mono _ _ _)
   | (with_reducible exact spec_l2Repair.mono _ _)
   | (with_reducible exact LeO.refl _)
   | (with_reducible exact LeO.none _)
   | (with_reducible refine LeO.ite ?_ ?_)
   | (with_reducible refine LeO.bind ?_ (fun _ => ?_))
   | exact ih0 _ _ _ _
   | exact ih1 _ _
   | exact ih2 _ _ _ _
   | exact spec_l2Range.mono _ _ _
   | exact spec_l2Repair.mono _ _
   | exact LeO.none _
   | refine LeO.ite ?_ ?_
   | refine LeO.bind ?_ (fun _ => ?_)
  ·intro y0 y1
   unfold spec_l2Delete.j1
   repeat' first
   | (with_reducible exact ih0 _ _ _ _)
   | (with_reducible exact ih1 _ _)
   | (with_reducible exact ih2 _ _ _ _)
   | (with_reducible exact spec_l2Range.mono _ _ _)
   | (with_reducible exact spec_l2Repair.mono _ _)
   | (with_reducible exact LeO.refl _)
   | (with_reducible exact LeO.none _)
   | (with_reducible refine LeO.ite ?_ ?_)
   | (with_reducible refine LeO.bind ?_ (fun _ => ?_))
   | exact ih0 _ _ _ _
   | exact ih1 _ _
   | exact ih2 _ _ _ _
   | exact spec_l2Range.mono _ _ _
   | exact spec_l2Repair.mono _ _
   | exact LeO.none _
   | refine LeO.ite ?_ ?_
   | refine LeO.bind ?_ (fun _ => ?_)
  ·intro y0 y1 y2 y3
   unfold spec_l2Delete.l0
   repeat' first
   | (with_reducible exact ih0 _ _ _ _)
   | (with_reducible exact ih1 _ _)
   | (with_reducible exact ih2 _ _ _ _)
   | (with_reducible exact spec_l2Range.mono _ _ _)
   | (with_reducible exact spec_l2Repair.mono _ _)
   | (with_reducible exact LeO.refl _)
   | (with_reducible exact LeO.none _)
   | (with_reducible refine LeO.ite ?_ ?_)
   | (with_reducible refine LeO.bind ?_ (fun _ => ?_))
   | exact ih0 _ _ _ _
   | exact ih1 _ _
   | exact ih2 _ _ _ _
   | exact spec_l2Range.mono _ _ _
   | exact spec_l2Repair.mono _ _
   | exact LeO.none _
   | refine LeO.ite ?_ ?_
   | refine LeO.bind ?_ (fun _ => ?_)
theorem spec_l2Delete.mono : ∀ a0 a1 k, LeO (spec_l2Delete.f k a0 a1) (spec_l2Delete.f (k + 1) a0 a1) := by
 intro a0 a1 k
 obtain ⟨ih0, ih1, ih2⟩ := spec_l2Delete.mono_l k
 unfold spec_l2Delete.f
 repeat' first
   | (with_reducible exact ih0 _ _ _ _)
   | (with_reducible exact ih1 _ _)
   | (with_reducible exact ih2 _ _ _ _)
   | (with_reducible exact spec_l2Range.mono _ _ _)
   | (with_reducible exact spec_l2Repair.mono _ _)
   | (with_reducible exact LeO.refl _)
   | (with_reducible exact LeO.none _)
   | (with_reducible refine LeO.ite ?_ ?_)
   | (with_reducible refine LeO.bind ?_ (fun _ => ?_))
   | exact ih0 _ _ _ _
   | exact ih1 _ _
   | exact ih2 _ _ _ _
   | exact spec_l2Range.mono _ _ _
   | exact spec_l2Repair.mono _ _
   | exact LeO.none _
   | refine LeO.ite ?_ ?_
   | refine LeO.bind ?_ (fun _ => ?_)
set_option maxHeartbeats 8000000 in
set_option maxRecDepth 100000 in
theorem spec_l2Delete.calls (k : Nat) (A0 : Option Addr) (c0 : Nat) (l0 : List (S54)) (a1 : Int) (r : List (S54)) (w : World) (hr0 : Kd.C k54 w A0 l0.length l0) (hc0 : l0.length ≤ c0) (h : spec_l2Delete.f k l0 a1 = some r) :
  Calls Tryd.prog 98 #[.slice A0 l0.length c0, .int .i64 a1] w fun e w' => ∃ v0_ : Value, e = .returned (v0_) ∧ Kd.R k54 54 w' w.heap.size (fun _ => True) v0_ r ∧ Below w.heap.size w w' := by
 have hu50 := Tryd.underlying50
 have HR0 := Aside0.mk hr0
 have HC0 := Aside0.mk hc0
 clear hr0 hc0
 have HB := Aside0.mk (Below.refl w.heap.size w)
 have H : ((spec_l2Copy.f l0).bind fun t215 => ((spec_l2Range.f k t215 a1).bind fun bt218 => (if bt218.1 < a1 then (spec_l2Delete.j0 k a1 t215 a1 (decide ((wrap64 (a1 + 1)) < bt218.2))) else (spec_l2Delete.j0 k a1 t215 a1 false)))) = some r := h
 clear h
 replace H := Option.bind_eq_some_iff.mp H
 obtain ⟨t215, A30, H⟩ := H
 replace H : ((spec_l2Range.f k t215 a1).bind fun bt218 => (if bt218.1 < a1 then (spec_l2Delete.j0 k a1 t215 a1 (decide ((wrap64 (a1 + 1)) < bt218.2))) else (spec_l2Delete.j0 k a1 t215 a1 false))) = some r := H
 have A3 := Aside0.mk A30
 clear A30
 replace H := Option.bind_eq_some_iff.mp H
 obtain ⟨⟨t218, t219⟩, A40, H⟩ := H
 replace H : (if t218 < a1 then (spec_l2Delete.j0 k a1 t215 a1 (decide ((wrap64 (a1 + 1)) < t219))) else (spec_l2Delete.j0 k a1 t215 a1 false)) = some r := H
 have A4 := Aside0.mk A40
 clear A40
 have HC5 := Aside0.mk H
 clear H
 go_enter Tryd.func98, Tryd.ntmps98
 go_upto_region 4 with (first | ((with_reducible refine gate_callee (f := 119) rfl ?_); refine goesL_ (some 12) rfl rfl Tryd.func119 (by kernel_rfl) rfl #[.slice A0 l0.length c0] rfl (by (try simp only [List.map_toArray, List.map_cons, List.map_nil]); first | done | rfl | (simp only [List.length_drop, List.length_take]; rfl)) ?_; (with_reducible refine (spec_l2Copy.calls _ _ l0 t215 _ ?side1 ?side2 A3.out).mono ?_); (case side1 => repeat (first | exact HR0.out | (with_reducible refine Kd.C_alloc ?_ _) | (with_reducible refine Kd.C_drewN ?_ _) | (with_reducible refine Kd.C_drew ?_))); (case side2 => exact HC0.out); rintro e w6 ⟨v216, rfl, ho0, hb⟩; refine ⟨_, rfl, ?_⟩; have n0_ := Aside0.mk (Kd.R_lower ho0 (below_size (hbD HB))); have n1_ := Aside0.mk (below_step (hbD HB) hb); clear HB; have HO217 := n0_; have HB := n1_; clear n0_ n1_; (try clear hb); (try clear hb2); (try clear hk); (try clear hi); (try clear ho0); obtain ⟨Ao7, co7, eo7⟩ := Kd.R_slice HO217.out; subst eo7) | ((with_reducible refine gate_callee (f := 121) rfl ?_); refine goesL_ (some 16) rfl rfl Tryd.func121 (by kernel_rfl) rfl #[.slice Ao7 t215.length co7, .int .i64 a1] rfl (by (try simp only [List.map_toArray, List.map_cons, List.map_nil]); first | done | rfl | (simp only [List.length_drop, List.length_take]; rfl)) ?_; (with_reducible refine (spec_l2Range.calls k _ _ t215 a1 t218 t219 _ ?side1 ?side2 A4.out).mono ?_); (case side1 => repeat (first | exact (Kd.R_reads' HO217.out).2.2 | (with_reducible refine Kd.C_alloc ?_ _) | (with_reducible refine Kd.C_drewN ?_ _) | (with_reducible refine Kd.C_drew ?_))); (case side2 => exact (Kd.R_reads' HO217.out).2.1); rintro e w' ⟨rfl, ⟨nd, rfl⟩⟩; refine ⟨_, rfl, ?_⟩))
 (try simp only [Act.put, List.setIfInBounds_toArray, List.set_cons_zero, List.set_cons_succ])
 go_cut [28] (fun v28 wc => ∃ (kq : Nat) (x28_4 : Bool), v28 = .bool x28_4 ∧ Aside0 (spec_l2Delete.j0 kq a1 t215 a1 x28_4 = some r) ∧ Aside0 (kq ≤ k) ∧ Aside0 (Kd.R k54 54 wc w.heap.size (fun _ => True) (.slice Ao7 t215.length co7) t215) ∧ Aside0 (Below w.heap.size w wc))
 case first =>
  have H := HC5.out
  clear HC5
  by_cases c8 : t218 < a1
  ·rw [if_pos c8] at H
   have c8b0 : decide (t218 < a1) = true := decide_eq_true c8
   clear c8
   (first | rw [c8b0] | (simp only [i64_w, i32_w]; rw [c8b0]) | skip)
   have H' := Aside0.mk H
   clear H
   go_wp2
   go_meet
   case rel => exact ⟨_, (decide ((wrap64 (a1 + 1)) < t219)), (by first | rfl | (simp; done) | (simp [*]; done)), H', ⟨by first | omega | exact Nat.le_refl _⟩, ⟨by (with_reducible repeat (first | apply Kd.R_alloc | apply Kd.R_drewN | apply Kd.R_drew)); exact HO217.out⟩, ⟨by repeat (first | (with_reducible first | exact HB.out | apply below_alloc | apply pw_below_drewN | apply below_drew1) | exact HB.out)⟩⟩
  ·rw [if_neg c8] at H
   have c8b0 : decide (t218 < a1) = false := decide_eq_false c8
   clear c8
   (first | rw [c8b0] | (simp only [i64_w, i32_w]; rw [c8b0]) | skip)
   have H' := Aside0.mk H
   clear H
   go_wp2
   go_meet
   case rel => exact ⟨_, (false), (by first | rfl | (simp; done) | (simp [*]; done)), H', ⟨by first | omega | exact Nat.le_refl _⟩, ⟨by (with_reducible repeat (first | apply Kd.R_alloc | apply Kd.R_drewN | apply Kd.R_drew)); exact HO217.out⟩, ⟨by repeat (first | (with_reducible first | exact HB.out | apply below_alloc | apply pw_below_drewN | apply below_drew1) | exact HB.out)⟩⟩
 case rest =>
  clear HC5
  try clear c1
  try clear p2
  try clear p6
  try clear c8
  try clear c8b0
  obtain ⟨kq, x28_4, rfl, HA, HJ4, HO_5, HB⟩ := hcut
  cases kq with
  | zero => exact absurd HA.out (by simp [spec_l2Delete.j0])
  | succ kj4 =>
   have H := HA.out
   clear HA
   simp only [spec_l2Delete.j0] at H
   have HC9 := Aside0.mk H
   clear H
   go_upto_if 28 with (fail)
   go_cut [8] (fun v8 wc => ∃ (kq : Nat) (x5_8 : List (S54)) (x8_8 : Int), v8 = .int .i64 x8_8 ∧ Aside0 (spec_l2Delete.j1 kq x5_8 x8_8 = some r) ∧ Aside0 (kq ≤ kj4) ∧ Aside0 (Kd.R k54 54 wc w.heap.size (fun _ => True) (.slice Ao7 t215.length co7) x5_8) ∧ Aside0 (Below w.heap.size w wc))
   case first =>
    have H := HC9.out
    clear HC9
    by_cases c10 : x28_4 = true
    ·subst c10
     have H1 : (if 0 ≤ (wrap64 (a1 + 1)) then (if (wrap64 (a1 + 1)) < (t215.length : Int) then (if 0 ≤ a1 then (if a1 < (t215.length : Int) then (spec_l2Delete.j1 kj4 (t215.set (a1 : Int).toNat (⟨(⟨(rd_T54 t215 (wrap64 (a1 + 1))).f0.f0, (rd_T54 t215 (wrap64 (a1 + 1))).f0.f1, (rd_T54 t215 (wrap64 (a1 + 1))).f0.f2⟩ : S50), (rd_T54 t215 a1).f1⟩ : S54)) (wrap64 (a1 + 1))) else (none)) else (none)) else (none)) else (none)) = some r := by rw [if_pos rfl] at H; exact H
     clear H
     have H := H1
     clear H1
     obtain ⟨ji11, hji11⟩ : ∃ j_ : Int, (wrap64 (a1 + 1)) = j_ := ⟨_, rfl⟩
     replace H : (if 0 ≤ (ji11) then (if (ji11) < (t215.length : Int) then (if 0 ≤ a1 then (if a1 < (t215.length : Int) then (spec_l2Delete.j1 kj4 (t215.set (a1 : Int).toNat (⟨(⟨(rd_T54 t215 (ji11)).f0.f0, (rd_T54 t215 (ji11)).f0.f1, (rd_T54 t215 (ji11)).f0.f2⟩ : S50), (rd_T54 t215 a1).f1⟩ : S54)) ji11) else (none)) else (none)) else (none)) else (none)) = some r := by first | (rw [hji11] at H; exact H) | (simp only [hji11] at H ⊢; exact H)
     have hji11w : (IntKind.i64.wrap (a1 + 1)) = ji11 := (i64_w _).trans hji11
     by_cases c12 : 0 ≤ (ji11)
     ·rw [if_pos c12] at H
      have c12b0 : decide (0 ≤ (ji11)) = true := decide_eq_true c12
      clear c12
      (first | rw [c12b0] | (simp only [i64_w, i32_w]; rw [c12b0]) | skip)
      by_cases c13 : (ji11) < (t215.length : Int)
      ·rw [if_pos c13] at H
       have c13b0 : decide ((ji11) < (t215.length : Int)) = true := decide_eq_true c13
       clear c13
       by_cases c14 : 0 ≤ a1
       ·rw [if_pos c14] at H
        have c14b0 : decide (0 ≤ a1) = true := decide_eq_true c14
        clear c14
        by_cases c15 : a1 < (t215.length : Int)
        ·rw [if_pos c15] at H
         have c15b0 : decide (a1 < (t215.length : Int)) = true := decide_eq_true c15
         clear c15
         obtain ⟨y221, hy221⟩ : ∃ y_ : List (S54), y_ = (t215.set (a1 : Int).toNat (⟨(⟨(rd_T54 t215 (ji11)).f0.f0, (rd_T54 t215 (ji11)).f0.f1, (rd_T54 t215 (ji11)).f0.f2⟩ : S50), (rd_T54 t215 a1).f1⟩ : S54)) := ⟨_, rfl⟩
         replace H : (spec_l2Delete.j1 kj4 y221 ji11) = some r := by first | (rw [hy221]; with_reducible exact H) | (have H2_ := (Option.bind_some _ _).symm.trans H; rw [hy221]; with_reducible exact H2_) | (have H2_ := (Option.bind_some _ _).symm.trans H; with_reducible exact H2_) | with_reducible exact H | (rw [hy221]; exact H) | exact H
         have Ny221 := Aside0.mk hy221
         clear hy221
         have H' := Aside0.mk H
         clear H
         have p220 : 0 ≤ ((ji11) : Int) := of_decide_eq_true (by first | (with_reducible assumption) | assumption)
         have q220 : (ji11) < (t215.length : Int) := of_decide_eq_true (by first | (with_reducible assumption) | assumption)
         obtain ⟨ad220, e220, hx220_0, hx220_1, hx220_2, hx220_3⟩ := at_T54 (Kd.R_reads' HO_5.out).2.2 (ji11) p220 q220
         cases e220
         replace p220 := eq_true p220
         replace q220 := eq_true q220
         have p16 : 0 ≤ (a1 : Int) := of_decide_eq_true (by first | (with_reducible assumption) | assumption)
         have q16 : (a1 : Int) < ((t215.length : Int) : Int) := of_decide_eq_true (by first | (with_reducible assumption) | assumption)
         obtain ⟨go16, co16, eo16, gb16, gl16, cl16, HG16⟩ := Kd.R_form HO_5.out (by omega)
         (first | cases eo16 | (injection eo16 with ea_ en_ ec_; (first | subst ea_ | (injection ea_ with ea_; subst ea_)); subst ec_; clear en_))
         have GB16 := Aside0.mk gb16
         have GG16 := Aside0.mk HG16
         clear gb16 gl16 HG16
         (first | simp only [add_plain] at hx220_0 | skip)
         (first | simp only [add_plain] at hx220_1 | skip)
         (first | simp only [add_plain] at hx220_2 | skip)
         (first | simp only [add_plain] at hx220_3 | skip)
         obtain ⟨ce16, hcl16, hM16, hcc16, hfr16⟩ := Kd.R_elem HO_5.out z54 (a1 : Int) p16 q16
         obtain rfl := k54_openM hM16
         have hx16_0 : wc.cell? ⟨go16, (a1 : Int).toNat * 4, none⟩ = some (.int .i64 ((rd_T54 t215 a1).f0.f0)) := hcc16 0 _ rfl
         have hx16_1 : wc.cell? ⟨go16, (a1 : Int).toNat * 4 + 1, none⟩ = some (.int .i64 ((rd_T54 t215 a1).f0.f1)) := hcc16 1 _ rfl
         have hx16_2 : wc.cell? ⟨go16, (a1 : Int).toNat * 4 + 2, none⟩ = some (.int .i64 ((rd_T54 t215 a1).f0.f2)) := hcc16 2 _ rfl
         have hx16_3 : wc.cell? ⟨go16, (a1 : Int).toNat * 4 + 3, none⟩ = some (.int .i64 ((rd_T54 t215 a1).f1)) := hcc16 3 _ rfl
         have hf16_0 : wc.frozen? ⟨go16, (a1 : Int).toNat * 4, none⟩ = false := hfr16 0
         have hf16_1 : wc.frozen? ⟨go16, (a1 : Int).toNat * 4 + 1, none⟩ = false := hfr16 1
         have hf16_2 : wc.frozen? ⟨go16, (a1 : Int).toNat * 4 + 2, none⟩ = false := hfr16 2
         have hf16_3 : wc.frozen? ⟨go16, (a1 : Int).toNat * 4 + 3, none⟩ = false := hfr16 3
         clear hcl16 hcc16 hfr16 hM16
         replace p16 := eq_true p16
         replace q16 := eq_true q16
         have HX17 := Aside0.mk (show Kd.R k54 54 wc w.heap.size (fun _ => True) (.slice (some ⟨go16, 0, none⟩) t215.length co7) t215 from (rD HO_5.out))
         obtain ⟨ce17, hcl17, hM17, hcc17, hfr17⟩ := Kd.R_elem HX17.out z54 (a1 : Int) (of_decide_eq_true (by first | (with_reducible assumption) | assumption)) (by have h_ : (a1 : Int) < ((t215.length : Int) : Int) := of_decide_eq_true (by first | (with_reducible assumption) | assumption); first | exact h_ | (have e_ := (Kd.R_reads' HO_5.out).1; omega) | simpa using h_)
         obtain rfl := k54_openM hM17
         have HP17 := Kd.R_seg HX17.out (a1 : Int) (of_decide_eq_true (by first | (with_reducible assumption) | assumption)) (by have h_ : (a1 : Int) < ((t215.length : Int) : Int) := of_decide_eq_true (by first | (with_reducible assumption) | assumption); first | exact h_ | (have e_ := (Kd.R_reads' HO_5.out).1; omega) | simpa using h_) (seg := [.int .i64 ((rd_T54 t215 (ji11)).f0.f0), .int .i64 ((rd_T54 t215 (ji11)).f0.f1), .int .i64 ((rd_T54 t215 (ji11)).f0.f2)]) (j := 0) hcl17 hcc17 (show 3 ≤ 4 from by decide) (x' := (⟨(⟨(rd_T54 t215 (ji11)).f0.f0, (rd_T54 t215 (ji11)).f0.f1, (rd_T54 t215 (ji11)).f0.f2⟩ : S50), (rd_T54 t215 a1).f1⟩ : S54)) (k54_mkM _ _ _ (⟨(⟨(rd_T54 t215 (ji11)).f0.f0, (rd_T54 t215 (ji11)).f0.f1, (rd_T54 t215 (ji11)).f0.f2⟩ : S50), (rd_T54 t215 a1).f1⟩ : S54) ) (fun _ hk => hk)
         have hx17_0 := hcc17 0 _ rfl
         (try simp only [show (k54).sz = 4 from rfl, Nat.mul_one, Nat.add_zero] at hx17_0)
         have hf17_0 := hfr17 0
         (try simp only [show (k54).sz = 4 from rfl, Nat.mul_one, Nat.add_zero] at hf17_0)
         have hx17_1 := hcc17 1 _ rfl
         (try simp only [show (k54).sz = 4 from rfl, Nat.mul_one, Nat.add_zero] at hx17_1)
         have hf17_1 := hfr17 1
         (try simp only [show (k54).sz = 4 from rfl, Nat.mul_one, Nat.add_zero] at hf17_1)
         have hx17_2 := hcc17 2 _ rfl
         (try simp only [show (k54).sz = 4 from rfl, Nat.mul_one, Nat.add_zero] at hx17_2)
         have hf17_2 := hfr17 2
         (try simp only [show (k54).sz = 4 from rfl, Nat.mul_one, Nat.add_zero] at hf17_2)
         clear hcl17 hcc17 hfr17 hM17
         go_wp2_with (first | ((with_reducible refine gate_store (t := 50) (p := 39) rfl ?_); refine store_event (t := 50) (p := 39) (v := ?vo_w18) (w1 := (((wc.setCell ⟨go16, (a1 : Int).toNat * 4, none⟩ (.int .i64 ((rd_T54 t215 (ji11)).f0.f0))).setCell ⟨go16, (a1 : Int).toNat * 4 + 1, none⟩ (.int .i64 ((rd_T54 t215 (ji11)).f0.f1))).setCell ⟨go16, (a1 : Int).toNat * 4 + 2, none⟩ (.int .i64 ((rd_T54 t215 (ji11)).f0.f2)))) ?hg ?ho ?hn ?hr ?_; (case ho => rfl); (case hg => rfl); (case hn => rfl); (case hr => first | (go_simp; done) | (go_simp; rfl)); intro w18 hw; have hg : wc.grownBy w18 (some go16) := (by rw [hw]; exact HP17.2); have hp_ : Kd.R k54 54 w18 w.heap.size (fun _ => True) (.slice (some ⟨go16, 0, none⟩) t215.length co7) y221 := (by rw [hw, Ny221.out]; exact HP17.1); clear HP17; have n0_ := Aside0.mk (hp_); have n1_ := Aside0.mk ((by rw [hw]; exact below_set (below_set (below_set (HB.out) GB16.out) GB16.out) GB16.out : Below w.heap.size w w18)); clear HO_5 HB; have HO_5 := n0_; have HB := n1_; clear n0_ n1_ hg hw hp_))
         go_meet
         case rel => exact ⟨_, (y221), (ji11), (by first | rfl | (simp; done) | (simp only [← hji11] <;> (first | rfl | simp)) | (simp [*]; done)), H', ⟨by have := HJ4.out; first | omega | exact Nat.le_refl _⟩, ⟨by (with_reducible repeat (first | apply Kd.R_alloc | apply Kd.R_drewN | apply Kd.R_drew)); exact HO_5.out⟩, ⟨by repeat (first | (with_reducible first | exact HB.out | apply below_alloc | apply pw_below_drewN | apply below_drew1) | exact HB.out)⟩⟩
        ·rw [if_neg c15] at H
         exact absurd H (by simp)
       ·rw [if_neg c14] at H
        exact absurd H (by simp)
      ·rw [if_neg c13] at H
       exact absurd H (by simp)
     ·rw [if_neg c12] at H
      exact absurd H (by simp)
    ·replace c10 := Bool.eq_false_iff.mpr c10
     subst c10
     have H1 : (spec_l2Delete.j1 kj4 t215 a1) = some r := by rw [if_neg (show ¬ (false = true) by decide)] at H; exact H
     clear H
     have H := H1
     clear H1
     have H' := Aside0.mk H
     clear H
     go_wp2
     go_meet
     case rel => exact ⟨_, (t215), (a1), (by first | rfl | (simp; done) | (simp [*]; done)), H', ⟨by have := HJ4.out; first | omega | exact Nat.le_refl _⟩, ⟨by (with_reducible repeat (first | apply Kd.R_alloc | apply Kd.R_drewN | apply Kd.R_drew)); exact HO_5.out⟩, ⟨by repeat (first | (with_reducible first | exact HB.out | apply below_alloc | apply pw_below_drewN | apply below_drew1) | exact HB.out)⟩⟩
   case rest =>
    clear HC9
    try clear c1
    try clear p1
    try clear q1
    try clear hx1
    try clear p2
    try clear q2
    try clear hx2
    try clear p6
    try clear c8
    try clear c8b0
    try clear c9
    try clear c10
    try clear c11
    try clear c12
    try clear c12b0
    try clear c13
    try clear c13b0
    try clear c14
    try clear c14b0
    try clear c15
    try clear c15b0
    try clear c16
    try clear p16
    try clear q16
    try clear hx16
    try clear hf16
    try clear c17
    try clear hx17
    try clear hf17
    try clear hx16_0
    try clear hx16_1
    try clear hx16_2
    try clear hx16_3
    try clear hx17_0
    try clear hx17_1
    try clear hx17_2
    try clear hx220_0
    try clear hx220_1
    try clear hx220_2
    try clear hx220_3
    try clear p16
    try clear p2
    try clear p220
    try clear p6
    try clear q16
    try clear q220
    obtain ⟨kq, x5_8, x8_8, rfl, HA, HJ8, HO_5, HB⟩ := hcut
    have hl5_8 := (Kd.R_reads' HO_5.out).1
    rw [hl5_8] at HO_5
    (try simp only [hl5_8])
    cases kq with
    | zero => exact absurd HA.out (by simp [spec_l2Delete.j1])
    | succ kj8 =>
     have H := HA.out
     clear HA
     simp only [spec_l2Delete.j1] at H
     replace H := Option.bind_eq_some_iff.mp H
     obtain ⟨⟨t222, t223⟩, A190, H⟩ := H
     replace H : (spec_l2Delete.l0 kj8 x5_8 t223 x8_8 t222) = some r := H
     have A19 := Aside0.mk A190
     clear A190
     have H' := Aside0.mk H
     clear H
     go_wp2_with (first | ((with_reducible refine gate_callee (f := 121) rfl ?_); refine goesL_ (some 43) rfl rfl Tryd.func121 (by kernel_rfl) rfl #[.slice Ao7 x5_8.length co7, .int .i64 x8_8] rfl (by (try simp only [List.map_toArray, List.map_cons, List.map_nil]); first | done | rfl | (simp only [List.length_drop, List.length_take]; rfl)) ?_; (with_reducible refine (spec_l2Range.calls kj8 _ _ x5_8 x8_8 t222 t223 _ ?side1 ?side2 A19.out).mono ?_); (case side1 => repeat (first | exact (Kd.R_reads' HO_5.out).2.2 | (with_reducible refine Kd.C_alloc ?_ _) | (with_reducible refine Kd.C_drewN ?_ _) | (with_reducible refine Kd.C_drew ?_))); (case side2 => exact (Kd.R_reads' HO_5.out).2.1); rintro e w' ⟨rfl, ⟨nd, rfl⟩⟩; refine ⟨_, rfl, ?_⟩))
     go_loopg [9] kj8 (fun kq v9 w' => ∃ (x5_3 : List (S54)) (x9_3 : Int), v9 = .int .i64 x9_3 ∧ Aside0 (spec_l2Delete.l0 kq x5_3 t223 x8_8 x9_3 = some r) ∧ Aside0 (kq ≤ kj8) ∧ Aside0 (Kd.R k54 54 w' w.heap.size (fun _ => True) (.slice Ao7 x5_8.length co7) x5_3) ∧ Aside0 (Below w.heap.size w w'))
     case atStart => exact ⟨(x5_8), (t222), (by first | rfl | (simp; done) | (simp [*]; done)), H', ⟨Nat.le_refl _⟩, ⟨by (try simp only [hl5_8]); (with_reducible repeat (first | apply Kd.R_alloc | apply Kd.R_drewN | apply Kd.R_drew)); exact HO_5.out⟩, ⟨by repeat (first | (with_reducible first | exact HB.out | apply below_alloc | apply pw_below_drewN | apply below_drew1) | exact HB.out)⟩⟩
     case round =>
      clear H'
      try clear c1
      try clear p1
      try clear q1
      try clear hx1
      try clear p2
      try clear q2
      try clear hx2
      try clear p6
      try clear c8
      try clear c8b0
      try clear c9
      try clear c10
      try clear c11
      try clear c12
      try clear c12b0
      try clear c13
      try clear c13b0
      try clear c14
      try clear c14b0
      try clear c15
      try clear c15b0
      try clear c16
      try clear p16
      try clear q16
      try clear hx16
      try clear hf16
      try clear c17
      try clear hx17
      try clear hf17
      try clear hx16_0
      try clear hx16_1
      try clear hx16_2
      try clear hx16_3
      try clear hx17_0
      try clear hx17_1
      try clear hx17_2
      try clear hx220_0
      try clear hx220_1
      try clear hx220_2
      try clear hx220_3
      try clear p1
      try clear p16
      try clear p2
      try clear p220
      try clear p6
      try clear q1
      try clear q16
      try clear q2
      try clear q220
      obtain ⟨x5_3, x9_3, rfl, HA, HK3, HO_5, HB⟩ := hrel
      have hl5_3 := (Kd.R_reads' HO_5.out).1
      rw [hl5_3] at HO_5
      (try simp only [hl5_3])
      cases gk with
      | zero => exact absurd HA.out (by simp [spec_l2Delete.l0])
      | succ k3 =>
       have H := HA.out
       clear HA
       simp only [spec_l2Delete.l0] at H
       by_cases c20 : x9_3 < t223
       ·rw [if_pos c20] at H
        have c20b0 : decide (x9_3 < t223) = true := decide_eq_true c20
        clear c20
        by_cases c21 : x9_3 = x8_8
        ·rw [if_pos c21] at H
         have c21b0 : (x9_3 == x8_8) = true := beq_iff_eq.mpr c21
         have c21b1 : (x9_3 != x8_8) = false := bne_eq_false_iff_eq.mpr c21
         clear c21
         have H' := Aside0.mk H
         clear H
         go_wp2
         (try simp only [← hl5_3])
         go_roundg k3
         case measure => have := HJ4.out; have := HJ8.out; have := HK3.out; omega
         case rel => exact ⟨(x5_3), (wrap64 (x9_3 + 1)), (by first | rfl | (simp; done) | (simp [*]; done)), H', ⟨by have := HJ4.out; have := HJ8.out; have := HK3.out; omega⟩, ⟨by (try simp only [hl5_8]); (try simp only [hl5_3]); (with_reducible repeat (first | apply Kd.R_alloc | apply Kd.R_drewN | apply Kd.R_drew)); exact HO_5.out⟩, ⟨by repeat (first | (with_reducible first | exact HB.out | apply below_alloc | apply pw_below_drewN | apply below_drew1) | exact HB.out)⟩⟩
        ·rw [if_neg c21] at H
         have c21b0 : (x9_3 == x8_8) = false := beq_eq_false_iff_ne.mpr c21
         have c21b1 : (x9_3 != x8_8) = true := bne_iff_ne.mpr c21
         by_cases c22 : 0 ≤ x9_3
         ·rw [if_pos c22] at H
          have c22b0 : decide (0 ≤ x9_3) = true := decide_eq_true c22
          clear c22
          by_cases c23 : x9_3 < (x5_3.length : Int)
          ·rw [if_pos c23] at H
           have c23b0 : decide (x9_3 < (x5_3.length : Int)) = true := decide_eq_true c23
           clear c23
           obtain ⟨y225, hy225⟩ : ∃ y_ : List (S54), y_ = (x5_3.set (x9_3 : Int).toNat (⟨(⟨(rd_T54 x5_3 x9_3).f0.f0, (rd_T54 x5_3 x9_3).f0.f1, (rd_T54 x5_3 x9_3).f0.f2⟩ : S50), wrap64 (((rd_T54 x5_3 x9_3).f1) - 1)⟩ : S54)) := ⟨_, rfl⟩
           replace H : (spec_l2Delete.l0 k3 y225 t223 x8_8 (wrap64 (x9_3 + 1))) = some r := by first | (rw [hy225]; with_reducible exact H) | (have H2_ := (Option.bind_some _ _).symm.trans H; rw [hy225]; with_reducible exact H2_) | (have H2_ := (Option.bind_some _ _).symm.trans H; with_reducible exact H2_) | with_reducible exact H | (rw [hy225]; exact H) | exact H
           have Ny225 := Aside0.mk hy225
           clear hy225
           have H' := Aside0.mk H
           clear H
           have p224 : 0 ≤ (x9_3 : Int) := of_decide_eq_true (by first | (with_reducible assumption) | assumption)
           have q224 : x9_3 < (x5_3.length : Int) := of_decide_eq_true (by first | (with_reducible assumption) | assumption)
           obtain ⟨ad224, e224, hx224_0, hx224_1, hx224_2, hx224_3⟩ := at_T54 (Kd.R_reads' HO_5.out).2.2 x9_3 p224 q224
           cases e224
           replace p224 := eq_true p224
           replace q224 := eq_true q224
           have p24 : 0 ≤ (x9_3 : Int) := of_decide_eq_true (by first | (with_reducible assumption) | assumption)
           have q24 : (x9_3 : Int) < ((x5_3.length : Int) : Int) := of_decide_eq_true (by first | (with_reducible assumption) | assumption)
           obtain ⟨go24, co24, eo24, gb24, gl24, cl24, HG24⟩ := Kd.R_form HO_5.out (by omega)
           (first | cases eo24 | (injection eo24 with ea_ en_ ec_; (first | subst ea_ | (injection ea_ with ea_; subst ea_)); subst ec_; clear en_))
           have GB24 := Aside0.mk gb24
           have GG24 := Aside0.mk HG24
           clear gb24 gl24 HG24
           (first | simp only [add_plain] at hx224_0 | skip)
           (first | simp only [add_plain] at hx224_1 | skip)
           (first | simp only [add_plain] at hx224_2 | skip)
           (first | simp only [add_plain] at hx224_3 | skip)
           obtain ⟨ce24, hcl24, hM24, hcc24, hfr24⟩ := Kd.R_elem HO_5.out z54 (x9_3 : Int) p24 q24
           obtain rfl := k54_openM hM24
           have hx24_0 : wr.cell? ⟨go24, (x9_3 : Int).toNat * 4, none⟩ = some (.int .i64 ((rd_T54 x5_3 x9_3).f0.f0)) := hcc24 0 _ rfl
           have hx24_1 : wr.cell? ⟨go24, (x9_3 : Int).toNat * 4 + 1, none⟩ = some (.int .i64 ((rd_T54 x5_3 x9_3).f0.f1)) := hcc24 1 _ rfl
           have hx24_2 : wr.cell? ⟨go24, (x9_3 : Int).toNat * 4 + 2, none⟩ = some (.int .i64 ((rd_T54 x5_3 x9_3).f0.f2)) := hcc24 2 _ rfl
           have hx24_3 : wr.cell? ⟨go24, (x9_3 : Int).toNat * 4 + 3, none⟩ = some (.int .i64 ((rd_T54 x5_3 x9_3).f1)) := hcc24 3 _ rfl
           have hf24_0 : wr.frozen? ⟨go24, (x9_3 : Int).toNat * 4, none⟩ = false := hfr24 0
           have hf24_1 : wr.frozen? ⟨go24, (x9_3 : Int).toNat * 4 + 1, none⟩ = false := hfr24 1
           have hf24_2 : wr.frozen? ⟨go24, (x9_3 : Int).toNat * 4 + 2, none⟩ = false := hfr24 2
           have hf24_3 : wr.frozen? ⟨go24, (x9_3 : Int).toNat * 4 + 3, none⟩ = false := hfr24 3
           clear hcl24 hcc24 hfr24 hM24
           replace p24 := eq_true p24
           replace q24 := eq_true q24
           have HX25 := Aside0.mk (show Kd.R k54 54 wr w.heap.size (fun _ => True) (.slice (some ⟨go24, 0, none⟩) x5_3.length co7) x5_3 from (rD HO_5.out))
           obtain ⟨ce25, hcl25, hM25, hcc25, hfr25⟩ := Kd.R_elem HX25.out z54 (x9_3 : Int) (of_decide_eq_true (by first | (with_reducible assumption) | assumption)) (by have h_ : (x9_3 : Int) < ((x5_3.length : Int) : Int) := of_decide_eq_true (by first | (with_reducible assumption) | assumption); first | exact h_ | (have e_ := (Kd.R_reads' HO_5.out).1; omega) | simpa using h_)
           obtain rfl := k54_openM hM25
           have HP25 := Kd.R_seg HX25.out (x9_3 : Int) (of_decide_eq_true (by first | (with_reducible assumption) | assumption)) (by have h_ : (x9_3 : Int) < ((x5_3.length : Int) : Int) := of_decide_eq_true (by first | (with_reducible assumption) | assumption); first | exact h_ | (have e_ := (Kd.R_reads' HO_5.out).1; omega) | simpa using h_) (seg := [.int .i64 (wrap64 (((rd_T54 x5_3 x9_3).f1) - 1))]) (j := 3) hcl25 hcc25 (show 4 ≤ 4 from by decide) (x' := (⟨(⟨(rd_T54 x5_3 x9_3).f0.f0, (rd_T54 x5_3 x9_3).f0.f1, (rd_T54 x5_3 x9_3).f0.f2⟩ : S50), wrap64 (((rd_T54 x5_3 x9_3).f1) - 1)⟩ : S54)) (k54_mkM _ _ _ (⟨(⟨(rd_T54 x5_3 x9_3).f0.f0, (rd_T54 x5_3 x9_3).f0.f1, (rd_T54 x5_3 x9_3).f0.f2⟩ : S50), wrap64 (((rd_T54 x5_3 x9_3).f1) - 1)⟩ : S54) ) (fun _ hk => hk)
           have hx25_3 := hcc25 3 _ rfl
           (try simp only [show (k54).sz = 4 from rfl, Nat.mul_one, Nat.add_zero] at hx25_3)
           have hf25_3 := hfr25 3
           (try simp only [show (k54).sz = 4 from rfl, Nat.mul_one, Nat.add_zero] at hf25_3)
           clear hcl25 hcc25 hfr25 hM25
           go_wp2_with (first | ((with_reducible refine gate_store (t := 3) (p := 62) rfl ?_); refine store_event (t := 3) (p := 62) (v := ?vo_w26) (w1 := (wr.setCell ⟨go24, (x9_3 : Int).toNat * 4 + 3, none⟩ (.int .i64 (wrap64 (((rd_T54 x5_3 x9_3).f1) - 1))))) ?hg ?ho ?hn ?hr ?_; (case ho => rfl); (case hg => rfl); (case hn => rfl); (case hr => first | (go_simp; done) | (go_simp; rfl)); intro w26 hw; have hg : wr.grownBy w26 (some go24) := (by rw [hw]; exact HP25.2); have hp_ : Kd.R k54 54 w26 w.heap.size (fun _ => True) (.slice (some ⟨go24, 0, none⟩) x5_3.length co7) y225 := (by rw [hw, Ny225.out]; exact HP25.1); clear HP25; have n0_ := Aside0.mk (hp_); have n1_ := Aside0.mk ((by rw [hw]; exact below_set (HB.out) GB24.out : Below w.heap.size w w26)); clear HO_5 HB; have HO_5 := n0_; have HB := n1_; clear n0_ n1_ hg hw hp_))
           (try simp only [← hl5_3])
           go_roundg k3
           case measure => have := HJ4.out; have := HJ8.out; have := HK3.out; omega
           case rel => exact ⟨(y225), (wrap64 (x9_3 + 1)), (by first | rfl | (simp; done) | (simp [*]; done)), H', ⟨by have := HJ4.out; have := HJ8.out; have := HK3.out; omega⟩, ⟨by (try simp only [hl5_8]); (try simp only [hl5_3]); (with_reducible repeat (first | apply Kd.R_alloc | apply Kd.R_drewN | apply Kd.R_drew)); exact HO_5.out⟩, ⟨by repeat (first | (with_reducible first | exact HB.out | apply below_alloc | apply pw_below_drewN | apply below_drew1) | exact HB.out)⟩⟩
          ·rw [if_neg c23] at H
           exact absurd H (by simp)
         ·rw [if_neg c22] at H
          exact absurd H (by simp)
       ·rw [if_neg c20] at H
        have c20b0 : decide (x9_3 < t223) = false := decide_eq_false c20
        clear c20
        by_cases c27 : 0 ≤ x8_8
        ·rw [if_pos c27] at H
         have c27b0 := eq_true c27
         have c27b1 : decide (0 ≤ x8_8) = true := decide_eq_true c27
         clear c27
         by_cases c28 : x8_8 ≤ (x5_3.length : Int)
         ·rw [if_pos c28] at H
          have c28b0 := eq_true c28
          have c28b1 : decide (x8_8 ≤ (x5_3.length : Int)) = true := decide_eq_true c28
          clear c28
          obtain ⟨y226, hy226⟩ : ∃ y_ : List (S54), y_ = (x5_3.take (x8_8 : Int).toNat) := ⟨_, rfl⟩
          replace H : ((spec_l2Copy.f y226).bind fun t230 => (if 0 ≤ (wrap64 (x8_8 + 1)) then (if (wrap64 (x8_8 + 1)) ≤ (x5_3.length : Int) then ((some (x5_3.drop ((wrap64 (x8_8 + 1)) : Int).toNat : List (S54))).bind fun y233 => (if t230.length + y233.length < 4398046511104 then ((spec_l2Repair.f k3 (t230 ++ y233)).bind fun t240 => (some t240)) else (none))) else (none)) else (none))) = some r := by first | (rw [hy226]; with_reducible exact H) | (have H2_ := (Option.bind_some _ _).symm.trans H; rw [hy226]; with_reducible exact H2_) | (have H2_ := (Option.bind_some _ _).symm.trans H; with_reducible exact H2_) | with_reducible exact H | (rw [hy226]; exact H) | exact H
          have Ny226 := Aside0.mk hy226
          clear hy226
          replace H := Option.bind_eq_some_iff.mp H
          obtain ⟨t230, A290, H⟩ := H
          replace H : (if 0 ≤ (wrap64 (x8_8 + 1)) then (if (wrap64 (x8_8 + 1)) ≤ (x5_3.length : Int) then ((some (x5_3.drop ((wrap64 (x8_8 + 1)) : Int).toNat : List (S54))).bind fun y233 => (if t230.length + y233.length < 4398046511104 then ((spec_l2Repair.f k3 (t230 ++ y233)).bind fun t240 => (some t240)) else (none))) else (none)) else (none)) = some r := H
          have A29 := Aside0.mk A290
          clear A290
          obtain ⟨ji30, hji30⟩ : ∃ j_ : Int, (wrap64 (x8_8 + 1)) = j_ := ⟨_, rfl⟩
          replace H : (if 0 ≤ (ji30) then (if (ji30) ≤ (x5_3.length : Int) then ((some (x5_3.drop ((ji30) : Int).toNat : List (S54))).bind fun y233 => (if t230.length + y233.length < 4398046511104 then ((spec_l2Repair.f k3 (t230 ++ y233)).bind fun t240 => (some t240)) else (none))) else (none)) else (none)) = some r := by first | (rw [hji30] at H; exact H) | (simp only [hji30] at H ⊢; exact H)
          (try rw [hji30] at A29)
          have hji30w : (IntKind.i64.wrap (x8_8 + 1)) = ji30 := (i64_w _).trans hji30
          by_cases c31 : 0 ≤ (ji30)
          ·rw [if_pos c31] at H
           have c31b0 := eq_true c31
           have c31b1 : decide (0 ≤ (ji30)) = true := decide_eq_true c31
           clear c31
           by_cases c32 : (ji30) ≤ (x5_3.length : Int)
           ·rw [if_pos c32] at H
            have c32b0 := eq_true c32
            have c32b1 : decide ((ji30) ≤ (x5_3.length : Int)) = true := decide_eq_true c32
            clear c32
            obtain ⟨y233, hy233⟩ : ∃ y_ : List (S54), y_ = (x5_3.drop ((ji30) : Int).toNat) := ⟨_, rfl⟩
            replace H : (if t230.length + y233.length < 4398046511104 then ((spec_l2Repair.f k3 (t230 ++ y233)).bind fun t240 => (some t240)) else (none)) = some r := by first | (rw [hy233]; with_reducible exact H) | (have H2_ := (Option.bind_some _ _).symm.trans H; rw [hy233]; with_reducible exact H2_) | (have H2_ := (Option.bind_some _ _).symm.trans H; with_reducible exact H2_) | with_reducible exact H | (rw [hy233]; exact H) | exact H
            have Ny233 := Aside0.mk hy233
            clear hy233
            by_cases c33 : t230.length + y233.length < 4398046511104
            ·rw [if_pos c33] at H
             have LMc33 := Aside0.mk c33
             clear c33
             obtain ⟨y237, hy237⟩ : ∃ y_ : List (S54), y_ = (t230 ++ y233) := ⟨_, rfl⟩
             replace H : ((spec_l2Repair.f k3 y237).bind fun t240 => (some t240)) = some r := by first | (rw [hy237]; with_reducible exact H) | (have H2_ := (Option.bind_some _ _).symm.trans H; rw [hy237]; with_reducible exact H2_) | (have H2_ := (Option.bind_some _ _).symm.trans H; with_reducible exact H2_) | with_reducible exact H | (rw [hy237]; exact H) | exact H
             have Ny237 := Aside0.mk hy237
             clear hy237
             replace H := Option.bind_eq_some_iff.mp H
             obtain ⟨t240, A340, H⟩ := H
             replace H : (some t240) = some r := H
             have A34 := Aside0.mk A340
             clear A340
             obtain rfl := Option.some.inj H
             have q35 : (x8_8 : Int) ≤ ((x5_3.length : Int) : Int) := of_decide_eq_true (by first | (with_reducible assumption) | assumption)
             obtain ⟨i035, hi035, _, hsz35, _⟩ := info_parts info54
             have hroom35 : x5_3.length ≤ co7 := (Kd.R_reads' HO_5.out).2.1
             have hC35 : Kd.C k54 _ Ao7 x5_3.length x5_3 := (Kd.R_reads' HO_5.out).2.2
             have hcut35 := cut_to (P := Tryd.prog) 28 54 .i64 Tryd.underlying28 hi035 Ao7 x5_3.length co7 x8_8 (of_decide_eq_true (by first | (with_reducible assumption) | assumption)) q35 hroom35
             have hr35 := Kd.C_take (m := (x8_8 : Int).toNat) hC35 (by omega)
             have hy35 : y226.length = (x8_8 : Int).toNat := (by rw [Ny226.out, List.length_take]; omega)
             rw [← Ny226.out] at hr35
             rw [← hy35] at hcut35
             have HR229 := Aside0.mk hr35
             have HC229 := Aside0.mk (show y226.length ≤ co7 from by omega)
             clear hr35 hC35 hroom35 hi035 hsz35
             have KY35 := Aside0.mk hy35
             clear hy35
             have KL35 := Aside0.mk (show (x8_8 : Int).toNat ≤ x5_3.length from by omega)
             replace q35 := eq_true q35
             go_wp2_with (first | ((with_reducible refine gate_callee (f := 119) rfl ?_); refine goesL_ (some 66) rfl rfl Tryd.func119 (by kernel_rfl) rfl #[.slice Ao7 y226.length co7] rfl (by (try simp only [List.map_toArray, List.map_cons, List.map_nil]); first | done | rfl | (simp only [List.length_drop, List.length_take]; rfl)) ?_; (with_reducible refine (spec_l2Copy.calls _ _ y226 t230 _ ?side1 ?side2 A29.out).mono ?_); (case side1 => repeat (first | exact (by repeat (first | (with_reducible exact HR229.out) | (with_reducible refine Kd.C_alloc ?_ _) | (with_reducible refine Kd.C_drewN ?_ _) | (with_reducible refine Kd.C_drew ?_) | exact HR229.out)) | (with_reducible refine Kd.C_alloc ?_ _) | (with_reducible refine Kd.C_drewN ?_ _) | (with_reducible refine Kd.C_drew ?_))); (case side2 => exact HC229.out); rintro e w36 ⟨v231, rfl, ho0, hb⟩; refine ⟨_, rfl, ?_⟩; have n0_ := Aside0.mk (Kd.R_elder' (rD HO_5.out) (Kd.R_base ho0) hb); have n1_ := Aside0.mk (Kd.R_lower (Kd.R_new' ho0 (Kd.R_lt (rD HO_5.out))) (below_size (hbD HB))); have n2_ := Aside0.mk (Kd.C_below (by repeat (first | (with_reducible exact HR229.out) | (with_reducible refine Kd.C_alloc ?_ _) | (with_reducible refine Kd.C_drewN ?_ _) | (with_reducible refine Kd.C_drew ?_) | exact HR229.out)) hb); have n3_ := Aside0.mk (below_step (hbD HB) hb); clear HO_5 HR229 HB; have HO_5 := n0_; have HO232 := n1_; have HR229 := n2_; have HB := n3_; clear n0_ n1_ n2_ n3_; (try clear hb); (try clear hb2); (try clear hk); (try clear hi); (try clear ho0); have q37 : ((ji30) : Int) ≤ ((x5_3.length : Int) : Int) := of_decide_eq_true (by first | (with_reducible assumption) | assumption); obtain ⟨i037, hi037, _, hsz37, _⟩ := info_parts info54; have hroom37 : x5_3.length ≤ co7 := (Kd.R_reads' HO_5.out).2.1; have hC37 : Kd.C k54 _ Ao7 x5_3.length x5_3 := (Kd.R_reads' HO_5.out).2.2; have q037 : (0 : Int) ≤ ((ji30) : Int) := of_decide_eq_true (by first | (with_reducible assumption) | assumption); have hcut37 := cut_from (P := Tryd.prog) 28 54 .i64 Tryd.underlying28 hi037 4 hsz37 Ao7 x5_3.length co7 (ji30) q037 q37; have hr37 := Kd.C_drop (m := ((ji30) : Int).toNat) (c := co7) hC37 (by omega) hroom37; obtain ⟨A37, hA37⟩ : ∃ A1, A1 = (if co7 = ((ji30) : Int).toNat then Ao7 else (Ao7 : Option Addr).map (·.add (((ji30) : Int).toNat * 4))) := ⟨_, rfl⟩; obtain ⟨c37, hc37⟩ : ∃ c1, c1 = co7 - ((ji30) : Int).toNat := ⟨_, rfl⟩; have hy37 : y233.length = x5_3.length - ((ji30) : Int).toNat := (by rw [Ny233.out, List.length_drop] <;> omega); rw [show (x5_3).drop ((ji30) : Int).toNat = y233 from Ny233.out.symm] at hr37; replace hr37 : Kd.C k54 _ A37 y233.length y233 := (by rw [hA37]; exact hr37); rw [← hy37, ← hA37, ← hc37] at hcut37; have HR236 := Aside0.mk hr37; have HC236 := Aside0.mk (show y233.length ≤ c37 from by rw [hy37, hc37]; exact Nat.sub_le_sub_right hroom37 _); clear hr37 hC37 hroom37 hi037 hsz37 hc37; have KY37 := Aside0.mk hy37; have KA37 := Aside0.mk hA37; clear hy37 hA37; have KL37 := Aside0.mk (show ((ji30) : Int).toNat ≤ x5_3.length from by omega); replace q37 := eq_true q37) | ((with_reducible refine gate_builtin (b := .append) (xs := #[.tmp 67, .tmp 71]) rfl ?_); at_builtin; refine Kd.R_append_rows k54 (w0 := w) w.heap.size rfl (.tmp 67) (.tmp 71) 28 54 (.agg #[(.int .i64 0), (.int .i64 0), (.int .i64 0), (.int .i64 0)]) 32 rfl Tryd.underlying28 info54 rfl (by decide) (by omega) v231 t230 y233 _ _ _ (fun k_ => some k_ ≠ (.slice Ao7 x5_3.length co7 : Value).ownBlock) (fun _ => False) rfl rfl ?aO ?aR (fun _ _ h => h) (fun _ h => h.elim) ?aF ?aB ?aS ?aL ?_; (case aR => repeat (first | exact (by repeat (first | (with_reducible exact HR236.out) | (with_reducible refine Kd.C_alloc ?_ _) | (with_reducible refine Kd.C_drewN ?_ _) | (with_reducible refine Kd.C_drew ?_) | exact HR236.out)) | (with_reducible refine Kd.C_alloc ?_ _) | (with_reducible refine Kd.C_drewN ?_ _) | (with_reducible refine Kd.C_drew ?_))); (case aB => exact (hbD HB)); (case aF => exact (fun k_ hk => Kd.fresh' (Kd.R_lt (rD HO_5.out)) k_ hk)); (case aO => exact (rD (Kd.R_mono HO232.out (fun _ hk => hk.2)))); (case aS => exact (below_size (hbD HB))); (case aL => have := LMc33.out; omega); intro v238 w38 ho hb hg hat; rw [← Ny237.out] at ho; have n0_ := Aside0.mk (Kd.R_after (ok := (fun _ => True)) (rD HO_5.out) hg hat); have n1_ := Aside0.mk (hb); have n2_ := Aside0.mk ((show Kd.C k54 w38 Ao7 y226.length y226 from by rw [Ny226.out]; exact Kd.C_take (m := (x8_8 : Int).toNat) ((Kd.R_reads' (Kd.R_after (ok := (fun _ => True)) (rD HO_5.out) hg hat)).2.2) KL35.out)); have n3_ := Aside0.mk ((show Kd.C k54 w38 A37 y233.length y233 from by rw [Ny233.out, KA37.out]; exact Kd.C_drop (m := ((ji30) : Int).toNat) (c := co7) ((Kd.R_reads' (Kd.R_after (ok := (fun _ => True)) (rD HO_5.out) hg hat)).2.2) KL37.out ((Kd.R_reads' (Kd.R_after (ok := (fun _ => True)) (rD HO_5.out) hg hat)).2.1))); have n4_ := Aside0.mk (ho); clear HO_5 HB HR229 HR236 HO232; have HO_5 := n0_; have HB := n1_; have HR229 := n2_; have HR236 := n3_; have HO239 := n4_; clear n0_ n1_ n2_ n3_ n4_ ho hb hg hat; obtain ⟨Ao39, co39, eo39⟩ := Kd.R_slice HO239.out; subst eo39) | ((with_reducible refine gate_callee (f := 120) rfl ?_); refine goesL_ (some 74) rfl rfl Tryd.func120 (by kernel_rfl) rfl #[.slice Ao39 y237.length co39] rfl (by (try simp only [List.map_toArray, List.map_cons, List.map_nil]); first | done | rfl | (simp only [List.length_drop, List.length_take]; rfl)) ?_; (with_reducible refine (spec_l2Repair.calls k3 (fun k_ => some k_ = (.slice Ao39 y237.length co39 : Value).ownBlock) (.slice Ao39 y237.length co39) y237 t240 w _ ?side1 ?side2 A34.out).mono ?_); (case side1 => repeat (first | (with_reducible first | exact HB.out | apply below_alloc | apply pw_below_drewN | apply below_drew1) | exact HB.out)); (case side2 => exact Kd.R_tight rfl HO239.out); rintro e w40 ⟨rfl, hy0, hb, hkp⟩; refine ⟨_, rfl, ?_⟩; have n0_ := Aside0.mk (Kd.R_mono (ok' := fun k_ => some k_ ≠ (.slice Ao39 y237.length co39 : Value).ownBlock) (Kd.R_keptB (HO_5.out) hkp (fun k_ hk_ hs_ => (hk_.2) hs_)) (fun k_ hk_ => hk_.1.2)); have n1_ := Aside0.mk (Kd.R_reok rfl hy0 (fun k_ e_ => HO239.out.1 k_ e_)); have n2_ := Aside0.mk (hb); clear HO_5 HO239 HB; have HO_5 := n0_; have HO239 := n1_; have HB := n2_; clear n0_ n1_ n2_; (try clear hb); (try clear hkp); (try clear hy0)))
             go_ret
             exact ⟨_, by first | rfl | (simp [errW_none, errW_some] <;> rfl) | (simp only [← hji30]; first | rfl | (simp [errW_none, errW_some] <;> rfl)) | (simp [*, errW_none, errW_some] <;> rfl), by (with_reducible repeat (first | apply Kd.R_alloc | apply Kd.R_drewN | apply Kd.R_drew)); exact Kd.R_mono HO239.out (fun _ hk => trivial), by repeat (first | (with_reducible first | exact HB.out | apply below_alloc | apply pw_below_drewN | apply below_drew1) | exact HB.out)⟩
            ·rw [if_neg c33] at H
             exact absurd H (by simp)
           ·rw [if_neg c32] at H
            exact absurd H (by simp)
          ·rw [if_neg c31] at H
           exact absurd H (by simp)
         ·rw [if_neg c28] at H
          exact absurd H (by simp)
        ·rw [if_neg c27] at H
         exact absurd H (by simp)

/-! ### spec_TreeDelete: function 52 -/
def spec_TreeDelete.f (k : Nat) (l0_0 : List (S54)) (a1 : Int) : Option ((List (S54)) × Int) := (spec_L2Valid.f k l0_0).bind fun t243 => (if t243 = true then (if a1 < 0 then (some (([] : List (S54)), 2)) else (if a1 ≥ (l0_0.length : Int) then (some (([] : List (S54)), 2)) else ((spec_l2Delete.f k l0_0 a1).bind fun t244 => (some (t244, 0))))) else (some (([] : List (S54)), 1)))
theorem spec_TreeDelete.mono : ∀ a0 a1 k, LeO (spec_TreeDelete.f k a0 a1) (spec_TreeDelete.f (k + 1) a0 a1) := by
 intro a0 a1 k
 unfold spec_TreeDelete.f
 repeat' first
   | (with_reducible exact spec_L2Valid.mono _ _)
   | (with_reducible exact spec_l2Delete.mono _ _ _)
   | (with_reducible exact LeO.refl _)
   | (with_reducible exact LeO.none _)
   | (with_reducible refine LeO.ite ?_ ?_)
   | (with_reducible refine LeO.bind ?_ (fun _ => ?_))
   | exact spec_L2Valid.mono _ _
   | exact spec_l2Delete.mono _ _ _
   | exact LeO.none _
   | refine LeO.ite ?_ ?_
   | refine LeO.bind ?_ (fun _ => ?_)
set_option maxHeartbeats 8000000 in
set_option maxRecDepth 100000 in
theorem spec_TreeDelete.calls (k : Nat) (A0_0 : Option Addr) (c0_0 : Nat) (l0_0 : List (S54)) (a1 : Int) (r1 : List (S54)) (r2 : Int) (w : World) (hr0_0 : Kd.C k54 w A0_0 l0_0.length l0_0) (hc0_0 : l0_0.length ≤ c0_0) (h : spec_TreeDelete.f k l0_0 a1 = some (r1, r2)) :
  Calls Tryd.prog 52 #[.agg #[.slice A0_0 l0_0.length c0_0], .int .i64 a1] w fun e w' => ∃ v0_ : Value, e = .returned (.tuple #[.agg #[v0_], .int .i64 r2]) ∧ Kd.R k54 54 w' w.heap.size (fun _ => True) v0_ r1 ∧ Below w.heap.size w w' := by
 have hu30 := Tryd.underlying30
 have HR0_0 := Aside0.mk hr0_0
 have HC0_0 := Aside0.mk hc0_0
 clear hr0_0 hc0_0
 have HB := Aside0.mk (Below.refl w.heap.size w)
 have H : ((spec_L2Valid.f k l0_0).bind fun t243 => (if t243 = true then (if a1 < 0 then (some (([] : List (S54)), 2)) else (if a1 ≥ (l0_0.length : Int) then (some (([] : List (S54)), 2)) else ((spec_l2Delete.f k l0_0 a1).bind fun t244 => (some (t244, 0))))) else (some (([] : List (S54)), 1)))) = some (r1, r2) := h
 clear h
 replace H := Option.bind_eq_some_iff.mp H
 obtain ⟨t243, A30, H⟩ := H
 replace H : (if t243 = true then (if a1 < 0 then (some (([] : List (S54)), 2)) else (if a1 ≥ (l0_0.length : Int) then (some (([] : List (S54)), 2)) else ((spec_l2Delete.f k l0_0 a1).bind fun t244 => (some (t244, 0))))) else (some (([] : List (S54)), 1))) = some (r1, r2) := H
 have A3 := Aside0.mk A30
 clear A30
 by_cases c4 : t243 = true
 ·subst c4
  have H1 : (if a1 < 0 then (some (([] : List (S54)), 2)) else (if a1 ≥ (l0_0.length : Int) then (some (([] : List (S54)), 2)) else ((spec_l2Delete.f k l0_0 a1).bind fun t244 => (some (t244, 0))))) = some (r1, r2) := by rw [if_pos rfl] at H; exact H
  clear H
  have H := H1
  clear H1
  by_cases c5 : a1 < 0
  ·rw [if_pos c5] at H
   have c5b0 : decide (a1 < 0) = true := decide_eq_true c5
   clear c5
   simp only [Option.some.injEq, Prod.mk.injEq] at H
   obtain ⟨rfl, rfl⟩ := H
   go_enter Tryd.func52, Tryd.ntmps52
   go_wp2_with (first | ((with_reducible refine gate_dst (N := 2) rfl ?_); (try (refine gate_guard (by rfl) ?_; dsimp only)); refine box_event ?hg (N := 2) ?hd (cs := #[.slice A0_0 l0_0.length c0_0]) (t := 30) ?hr ?_; (case hd => rfl); (case hg => rfl); (case hr => first | (go_simp; done) | (go_simp; rfl)); intro gb241 hg w6 hbox hb; have n0_ := Aside0.mk (below_step (hbD HB) hb); have n1_ := Aside0.mk (hbox); have n2_ := Aside0.mk ((by rw [hg]; exact (below_size (hbD HB)) : w.heap.size ≤ gb241)); have n3_ := n2_; clear HB; have HB := n0_; have BK241 := n1_; have GW241 := n2_; have GE241 := n3_; clear n0_ n1_ n2_ n3_ hb hbox hg) | ((with_reducible refine gate_dst (N := 4) rfl ?_); (try (refine gate_guard (by rfl) ?_; dsimp only)); refine box_event ?hg (N := 4) ?hd (cs := #[.slice none 0 0]) (t := 30) ?hr ?_; (case hd => rfl); (case hg => rfl); (case hr => first | (go_simp; done) | (go_simp; rfl)); intro gb242 hg w7 hbox hb; have n0_ := Aside0.mk (blk_below (bkD BK241) hb); have n1_ := Aside0.mk (below_step (hbD HB) hb); have n2_ := Aside0.mk (hbox); have n3_ := Aside0.mk ((by rw [hg]; exact (below_size (hbD HB)) : w.heap.size ≤ gb242)); have n4_ := n3_; have n5_ := Aside0.mk ((by rw [hg]; exact Nat.ne_of_lt (blk_lt (bkD BK241)) : gb241 ≠ gb242)); have n6_ := Aside0.mk ((by rw [hg]; exact Nat.ne_of_gt (blk_lt (bkD BK241)) : gb242 ≠ gb241)); clear BK241 HB; have BK241 := n0_; have HB := n1_; have BK242 := n2_; have GW242 := n3_; have GE242 := n4_; have NB241_242 := n5_; have NB242_241 := n6_; clear n0_ n1_ n2_ n3_ n4_ n5_ n6_ hb hbox hg; have hnb8 := NB241_242.out; have hnc8 := NB242_241.out; have hcz9_0 : w7.cell? ⟨gb241, 0, none⟩ = some (.slice A0_0 l0_0.length c0_0) := (blk_cell BK241.out 0).trans rfl; have hfz9_0 := blk_frozen BK241.out 0) | ((with_reducible refine gate_callee (f := 28) rfl ?_); refine goesL_ (some 7) rfl rfl Tryd.func28 (by kernel_rfl) rfl #[.agg #[.slice A0_0 l0_0.length c0_0]] rfl (by (try simp only [List.map_toArray, List.map_cons, List.map_nil]); first | done | rfl | (simp only [List.length_drop, List.length_take]; rfl)) ?_; (with_reducible refine (spec_L2Valid.calls k _ _ l0_0 true _ ?side1 ?side2 A3.out).mono ?_); (case side1 => repeat (first | exact (Kd.C_below HR0_0.out HB.out) | (with_reducible refine Kd.C_alloc ?_ _) | (with_reducible refine Kd.C_drewN ?_ _) | (with_reducible refine Kd.C_drew ?_))); (case side2 => exact HC0_0.out); rintro e w10 ⟨rfl, hb⟩; refine ⟨_, rfl, ?_⟩; have n0_ := Aside0.mk (blk_below (bkD BK241) hb); have n1_ := Aside0.mk (blk_below (bkD BK242) hb); have n2_ := Aside0.mk (below_step (hbD HB) hb); clear BK241 BK242 HB; have BK241 := n0_; have BK242 := n1_; have HB := n2_; clear n0_ n1_ n2_; (try clear hb); (try clear hb2); (try clear hk); (try clear hi); have hcz11_0 : w10.cell? ⟨gb242, 0, none⟩ = some (.slice none 0 0) := (blk_cell BK242.out 0).trans rfl; have hfz11_0 := blk_frozen BK242.out 0))
   refine bodyPost_ret (results_ct rfl _ _ gb242 30 #[.slice none 0 0] (0, 0) _ rfl (by (with_reducible repeat (first | refine blk_drewN ?_ _ | refine blk_drew ?_ | refine blk_alloc ?_ _)); refine blk_put (cs := #[.slice none 0 0]) ?_ 0 _ rfl; (with_reducible repeat (first | refine blk_drewN ?_ _ | refine blk_drew ?_ | refine blk_alloc ?_ _)); exact BK242.out) Tryd.underlying30 rfl (by kernel_rfl)) rfl ?_
   exact ⟨_, by first | rfl | (simp [errW_none, errW_some] <;> rfl) | (simp [*, errW_none, errW_some] <;> rfl), by first | exact Kd.R_nil _ _ _ _ _ | exact Kd.N_nil _ _ _ _ _ | exact Kd.V_nil _ _ _ _ _ | exact Kd.Q_nil _ _ _ _ _ | exact Kd.S_nil _ _ _ _ _, by repeat (first | (with_reducible first | exact HB.out | apply below_alloc | apply pw_below_drewN | apply below_drew1 | refine below_set ?_ GE241.out | refine below_set ?_ GE242.out) | exact HB.out)⟩
  ·rw [if_neg c5] at H
   have c5b0 : decide (a1 < 0) = false := decide_eq_false c5
   clear c5
   by_cases c12 : a1 ≥ (l0_0.length : Int)
   ·rw [if_pos c12] at H
    have c12b0 : decide ((l0_0.length : Int) ≤ a1) = true := decide_eq_true c12
    clear c12
    simp only [Option.some.injEq, Prod.mk.injEq] at H
    obtain ⟨rfl, rfl⟩ := H
    go_enter Tryd.func52, Tryd.ntmps52
    go_wp2_with (first | ((with_reducible refine gate_dst (N := 2) rfl ?_); (try (refine gate_guard (by rfl) ?_; dsimp only)); refine box_event ?hg (N := 2) ?hd (cs := #[.slice A0_0 l0_0.length c0_0]) (t := 30) ?hr ?_; (case hd => rfl); (case hg => rfl); (case hr => first | (go_simp; done) | (go_simp; rfl)); intro gb241 hg w13 hbox hb; have n0_ := Aside0.mk (below_step (hbD HB) hb); have n1_ := Aside0.mk (hbox); have n2_ := Aside0.mk ((by rw [hg]; exact (below_size (hbD HB)) : w.heap.size ≤ gb241)); have n3_ := n2_; clear HB; have HB := n0_; have BK241 := n1_; have GW241 := n2_; have GE241 := n3_; clear n0_ n1_ n2_ n3_ hb hbox hg) | ((with_reducible refine gate_dst (N := 4) rfl ?_); (try (refine gate_guard (by rfl) ?_; dsimp only)); refine box_event ?hg (N := 4) ?hd (cs := #[.slice none 0 0]) (t := 30) ?hr ?_; (case hd => rfl); (case hg => rfl); (case hr => first | (go_simp; done) | (go_simp; rfl)); intro gb242 hg w14 hbox hb; have n0_ := Aside0.mk (blk_below (bkD BK241) hb); have n1_ := Aside0.mk (below_step (hbD HB) hb); have n2_ := Aside0.mk (hbox); have n3_ := Aside0.mk ((by rw [hg]; exact (below_size (hbD HB)) : w.heap.size ≤ gb242)); have n4_ := n3_; have n5_ := Aside0.mk ((by rw [hg]; exact Nat.ne_of_lt (blk_lt (bkD BK241)) : gb241 ≠ gb242)); have n6_ := Aside0.mk ((by rw [hg]; exact Nat.ne_of_gt (blk_lt (bkD BK241)) : gb242 ≠ gb241)); clear BK241 HB; have BK241 := n0_; have HB := n1_; have BK242 := n2_; have GW242 := n3_; have GE242 := n4_; have NB241_242 := n5_; have NB242_241 := n6_; clear n0_ n1_ n2_ n3_ n4_ n5_ n6_ hb hbox hg; have hnb15 := NB241_242.out; have hnc15 := NB242_241.out; have hcz16_0 : w14.cell? ⟨gb241, 0, none⟩ = some (.slice A0_0 l0_0.length c0_0) := (blk_cell BK241.out 0).trans rfl; have hfz16_0 := blk_frozen BK241.out 0) | ((with_reducible refine gate_callee (f := 28) rfl ?_); refine goesL_ (some 7) rfl rfl Tryd.func28 (by kernel_rfl) rfl #[.agg #[.slice A0_0 l0_0.length c0_0]] rfl (by (try simp only [List.map_toArray, List.map_cons, List.map_nil]); first | done | rfl | (simp only [List.length_drop, List.length_take]; rfl)) ?_; (with_reducible refine (spec_L2Valid.calls k _ _ l0_0 true _ ?side1 ?side2 A3.out).mono ?_); (case side1 => repeat (first | exact (Kd.C_below HR0_0.out HB.out) | (with_reducible refine Kd.C_alloc ?_ _) | (with_reducible refine Kd.C_drewN ?_ _) | (with_reducible refine Kd.C_drew ?_))); (case side2 => exact HC0_0.out); rintro e w17 ⟨rfl, hb⟩; refine ⟨_, rfl, ?_⟩; have n0_ := Aside0.mk (blk_below (bkD BK241) hb); have n1_ := Aside0.mk (blk_below (bkD BK242) hb); have n2_ := Aside0.mk (below_step (hbD HB) hb); clear BK241 BK242 HB; have BK241 := n0_; have BK242 := n1_; have HB := n2_; clear n0_ n1_ n2_; (try clear hb); (try clear hb2); (try clear hk); (try clear hi); have hcz18_0 : w17.cell? ⟨gb241, 0, none⟩ = some (.slice A0_0 l0_0.length c0_0) := (blk_cell BK241.out 0).trans rfl; have hfz18_0 := blk_frozen BK241.out 0; have hcz19_0 : w17.cell? ⟨gb242, 0, none⟩ = some (.slice none 0 0) := (blk_cell BK242.out 0).trans rfl; have hfz19_0 := blk_frozen BK242.out 0))
    refine bodyPost_ret (results_ct rfl _ _ gb242 30 #[.slice none 0 0] (0, 0) _ rfl (by (with_reducible repeat (first | refine blk_drewN ?_ _ | refine blk_drew ?_ | refine blk_alloc ?_ _)); refine blk_put (cs := #[.slice none 0 0]) ?_ 0 _ rfl; (with_reducible repeat (first | refine blk_drewN ?_ _ | refine blk_drew ?_ | refine blk_alloc ?_ _)); exact BK242.out) Tryd.underlying30 rfl (by kernel_rfl)) rfl ?_
    exact ⟨_, by first | rfl | (simp [errW_none, errW_some] <;> rfl) | (simp [*, errW_none, errW_some] <;> rfl), by first | exact Kd.R_nil _ _ _ _ _ | exact Kd.N_nil _ _ _ _ _ | exact Kd.V_nil _ _ _ _ _ | exact Kd.Q_nil _ _ _ _ _ | exact Kd.S_nil _ _ _ _ _, by repeat (first | (with_reducible first | exact HB.out | apply below_alloc | apply pw_below_drewN | apply below_drew1 | refine below_set ?_ GE241.out | refine below_set ?_ GE242.out) | exact HB.out)⟩
   ·rw [if_neg c12] at H
    have c12b0 : decide ((l0_0.length : Int) ≤ a1) = false := decide_eq_false c12
    clear c12
    replace H := Option.bind_eq_some_iff.mp H
    obtain ⟨t244, A200, H⟩ := H
    replace H : (some (t244, 0)) = some (r1, r2) := H
    have A20 := Aside0.mk A200
    clear A200
    simp only [Option.some.injEq, Prod.mk.injEq] at H
    obtain ⟨rfl, rfl⟩ := H
    go_enter Tryd.func52, Tryd.ntmps52
    go_wp2_with (first | ((with_reducible refine gate_dst (N := 2) rfl ?_); (try (refine gate_guard (by rfl) ?_; dsimp only)); refine box_event ?hg (N := 2) ?hd (cs := #[.slice A0_0 l0_0.length c0_0]) (t := 30) ?hr ?_; (case hd => rfl); (case hg => rfl); (case hr => first | (go_simp; done) | (go_simp; rfl)); intro gb241 hg w21 hbox hb; have n0_ := Aside0.mk (below_step (hbD HB) hb); have n1_ := Aside0.mk (hbox); have n2_ := Aside0.mk ((by rw [hg]; exact (below_size (hbD HB)) : w.heap.size ≤ gb241)); have n3_ := n2_; clear HB; have HB := n0_; have BK241 := n1_; have GW241 := n2_; have GE241 := n3_; clear n0_ n1_ n2_ n3_ hb hbox hg) | ((with_reducible refine gate_dst (N := 4) rfl ?_); (try (refine gate_guard (by rfl) ?_; dsimp only)); refine box_event ?hg (N := 4) ?hd (cs := #[.slice none 0 0]) (t := 30) ?hr ?_; (case hd => rfl); (case hg => rfl); (case hr => first | (go_simp; done) | (go_simp; rfl)); intro gb242 hg w22 hbox hb; have n0_ := Aside0.mk (blk_below (bkD BK241) hb); have n1_ := Aside0.mk (below_step (hbD HB) hb); have n2_ := Aside0.mk (hbox); have n3_ := Aside0.mk ((by rw [hg]; exact (below_size (hbD HB)) : w.heap.size ≤ gb242)); have n4_ := n3_; have n5_ := Aside0.mk ((by rw [hg]; exact Nat.ne_of_lt (blk_lt (bkD BK241)) : gb241 ≠ gb242)); have n6_ := Aside0.mk ((by rw [hg]; exact Nat.ne_of_gt (blk_lt (bkD BK241)) : gb242 ≠ gb241)); clear BK241 HB; have BK241 := n0_; have HB := n1_; have BK242 := n2_; have GW242 := n3_; have GE242 := n4_; have NB241_242 := n5_; have NB242_241 := n6_; clear n0_ n1_ n2_ n3_ n4_ n5_ n6_ hb hbox hg; have hnb23 := NB241_242.out; have hnc23 := NB242_241.out; have hcz24_0 : w22.cell? ⟨gb241, 0, none⟩ = some (.slice A0_0 l0_0.length c0_0) := (blk_cell BK241.out 0).trans rfl; have hfz24_0 := blk_frozen BK241.out 0) | ((with_reducible refine gate_callee (f := 28) rfl ?_); refine goesL_ (some 7) rfl rfl Tryd.func28 (by kernel_rfl) rfl #[.agg #[.slice A0_0 l0_0.length c0_0]] rfl (by (try simp only [List.map_toArray, List.map_cons, List.map_nil]); first | done | rfl | (simp only [List.length_drop, List.length_take]; rfl)) ?_; (with_reducible refine (spec_L2Valid.calls k _ _ l0_0 true _ ?side1 ?side2 A3.out).mono ?_); (case side1 => repeat (first | exact (Kd.C_below HR0_0.out HB.out) | (with_reducible refine Kd.C_alloc ?_ _) | (with_reducible refine Kd.C_drewN ?_ _) | (with_reducible refine Kd.C_drew ?_))); (case side2 => exact HC0_0.out); rintro e w25 ⟨rfl, hb⟩; refine ⟨_, rfl, ?_⟩; have n0_ := Aside0.mk (blk_below (bkD BK241) hb); have n1_ := Aside0.mk (blk_below (bkD BK242) hb); have n2_ := Aside0.mk (below_step (hbD HB) hb); clear BK241 BK242 HB; have BK241 := n0_; have BK242 := n1_; have HB := n2_; clear n0_ n1_ n2_; (try clear hb); (try clear hb2); (try clear hk); (try clear hi); have hcz26_0 : w25.cell? ⟨gb241, 0, none⟩ = some (.slice A0_0 l0_0.length c0_0) := (blk_cell BK241.out 0).trans rfl; have hfz26_0 := blk_frozen BK241.out 0) | ((with_reducible refine gate_callee (f := 98) rfl ?_); refine goesL_ (some 23) rfl rfl Tryd.func98 (by kernel_rfl) rfl #[.slice A0_0 l0_0.length c0_0, .int .i64 a1] rfl (by (try simp only [List.map_toArray, List.map_cons, List.map_nil]); first | done | rfl | (simp only [List.length_drop, List.length_take]; rfl)) ?_; (with_reducible refine (spec_l2Delete.calls k _ _ l0_0 a1 t244 _ ?side1 ?side2 A20.out).mono ?_); (case side1 => repeat (first | exact (Kd.C_below HR0_0.out HB.out) | (with_reducible refine Kd.C_alloc ?_ _) | (with_reducible refine Kd.C_drewN ?_ _) | (with_reducible refine Kd.C_drew ?_))); (case side2 => exact HC0_0.out); rintro e w27 ⟨v245, rfl, ho0, hb⟩; refine ⟨_, rfl, ?_⟩; have n0_ := Aside0.mk (Kd.R_lower ho0 (below_size (hbD HB))); have n1_ := Aside0.mk (blk_below (bkD BK241) hb); have n2_ := Aside0.mk (blk_below (bkD BK242) hb); have n3_ := Aside0.mk (below_step (hbD HB) hb); clear BK241 BK242 HB; have HO246 := n0_; have BK241 := n1_; have BK242 := n2_; have HB := n3_; clear n0_ n1_ n2_ n3_; (try clear hb); (try clear hb2); (try clear hk); (try clear hi); (try clear ho0); obtain ⟨Ao28, co28, eo28⟩ := Kd.R_slice HO246.out; subst eo28; have hcz29_0 : w27.cell? ⟨gb242, 0, none⟩ = some (.slice none 0 0) := (blk_cell BK242.out 0).trans rfl; have hfz29_0 := blk_frozen BK242.out 0))
    refine bodyPost_ret (results_ct rfl _ _ gb242 30 #[.slice Ao28 t244.length co28] (0, 0) _ rfl (by (with_reducible repeat (first | refine blk_drewN ?_ _ | refine blk_drew ?_ | refine blk_alloc ?_ _)); refine blk_put (cs := #[.slice none 0 0]) ?_ 0 _ rfl; (with_reducible repeat (first | refine blk_drewN ?_ _ | refine blk_drew ?_ | refine blk_alloc ?_ _)); exact BK242.out) Tryd.underlying30 rfl (by kernel_rfl)) rfl ?_
    exact ⟨_, by first | rfl | (simp [errW_none, errW_some] <;> rfl) | (simp [*, errW_none, errW_some] <;> rfl), by (with_reducible repeat (first | apply Kd.R_alloc | apply Kd.R_drewN | apply Kd.R_drew)); exact Kd.R_mono (Kd.R_far (p := ⟨gb242, 0, none⟩) (Kd.R_types HO246.out BK242.out (by decide)) (fun _ hk => hk.2) (.slice Ao28 t244.length co28)) (fun _ hk => trivial), by repeat (first | (with_reducible first | exact HB.out | apply below_alloc | apply pw_below_drewN | apply below_drew1 | refine below_set ?_ GE241.out | refine below_set ?_ GE242.out) | exact HB.out)⟩
 ·replace c4 := Bool.eq_false_iff.mpr c4
  subst c4
  have H1 : (some (([] : List (S54)), 1)) = some (r1, r2) := by rw [if_neg (show ¬ (false = true) by decide)] at H; exact H
  clear H
  have H := H1
  clear H1
  simp only [Option.some.injEq, Prod.mk.injEq] at H
  obtain ⟨rfl, rfl⟩ := H
  go_enter Tryd.func52, Tryd.ntmps52
  go_wp2_with (first | ((with_reducible refine gate_dst (N := 2) rfl ?_); (try (refine gate_guard (by rfl) ?_; dsimp only)); refine box_event ?hg (N := 2) ?hd (cs := #[.slice A0_0 l0_0.length c0_0]) (t := 30) ?hr ?_; (case hd => rfl); (case hg => rfl); (case hr => first | (go_simp; done) | (go_simp; rfl)); intro gb241 hg w30 hbox hb; have n0_ := Aside0.mk (below_step (hbD HB) hb); have n1_ := Aside0.mk (hbox); have n2_ := Aside0.mk ((by rw [hg]; exact (below_size (hbD HB)) : w.heap.size ≤ gb241)); have n3_ := n2_; clear HB; have HB := n0_; have BK241 := n1_; have GW241 := n2_; have GE241 := n3_; clear n0_ n1_ n2_ n3_ hb hbox hg) | ((with_reducible refine gate_dst (N := 4) rfl ?_); (try (refine gate_guard (by rfl) ?_; dsimp only)); refine box_event ?hg (N := 4) ?hd (cs := #[.slice none 0 0]) (t := 30) ?hr ?_; (case hd => rfl); (case hg => rfl); (case hr => first | (go_simp; done) | (go_simp; rfl)); intro gb242 hg w31 hbox hb; have n0_ := Aside0.mk (blk_below (bkD BK241) hb); have n1_ := Aside0.mk (below_step (hbD HB) hb); have n2_ := Aside0.mk (hbox); have n3_ := Aside0.mk ((by rw [hg]; exact (below_size (hbD HB)) : w.heap.size ≤ gb242)); have n4_ := n3_; have n5_ := Aside0.mk ((by rw [hg]; exact Nat.ne_of_lt (blk_lt (bkD BK241)) : gb241 ≠ gb242)); have n6_ := Aside0.mk ((by rw [hg]; exact Nat.ne_of_gt (blk_lt (bkD BK241)) : gb242 ≠ gb241)); clear BK241 HB; have BK241 := n0_; have HB := n1_; have BK242 := n2_; have GW242 := n3_; have GE242 := n4_; have NB241_242 := n5_; have NB242_241 := n6_; clear n0_ n1_ n2_ n3_ n4_ n5_ n6_ hb hbox hg; have hnb32 := NB241_242.out; have hnc32 := NB242_241.out; have hcz33_0 : w31.cell? ⟨gb241, 0, none⟩ = some (.slice A0_0 l0_0.length c0_0) := (blk_cell BK241.out 0).trans rfl; have hfz33_0 := blk_frozen BK241.out 0) | ((with_reducible refine gate_callee (f := 28) rfl ?_); refine goesL_ (some 7) rfl rfl Tryd.func28 (by kernel_rfl) rfl #[.agg #[.slice A0_0 l0_0.length c0_0]] rfl (by (try simp only [List.map_toArray, List.map_cons, List.map_nil]); first | done | rfl | (simp only [List.length_drop, List.length_take]; rfl)) ?_; (with_reducible refine (spec_L2Valid.calls k _ _ l0_0 false _ ?side1 ?side2 A3.out).mono ?_); (case side1 => repeat (first | exact (Kd.C_below HR0_0.out HB.out) | (with_reducible refine Kd.C_alloc ?_ _) | (with_reducible refine Kd.C_drewN ?_ _) | (with_reducible refine Kd.C_drew ?_))); (case side2 => exact HC0_0.out); rintro e w34 ⟨rfl, hb⟩; refine ⟨_, rfl, ?_⟩; have n0_ := Aside0.mk (blk_below (bkD BK241) hb); have n1_ := Aside0.mk (blk_below (bkD BK242) hb); have n2_ := Aside0.mk (below_step (hbD HB) hb); clear BK241 BK242 HB; have BK241 := n0_; have BK242 := n1_; have HB := n2_; clear n0_ n1_ n2_; (try clear hb); (try clear hb2); (try clear hk); (try clear hi); have hcz35_0 : w34.cell? ⟨gb242, 0, none⟩ = some (.slice none 0 0) := (blk_cell BK242.out 0).trans rfl; have hfz35_0 := blk_frozen BK242.out 0))
  refine bodyPost_ret (results_ct rfl _ _ gb242 30 #[.slice none 0 0] (0, 0) _ rfl (by (with_reducible repeat (first | refine blk_drewN ?_ _ | refine blk_drew ?_ | refine blk_alloc ?_ _)); refine blk_put (cs := #[.slice none 0 0]) ?_ 0 _ rfl; (with_reducible repeat (first | refine blk_drewN ?_ _ | refine blk_drew ?_ | refine blk_alloc ?_ _)); exact BK242.out) Tryd.underlying30 rfl (by kernel_rfl)) rfl ?_
  exact ⟨_, by first | rfl | (simp [errW_none, errW_some] <;> rfl) | (simp [*, errW_none, errW_some] <;> rfl), by first | exact Kd.R_nil _ _ _ _ _ | exact Kd.N_nil _ _ _ _ _ | exact Kd.V_nil _ _ _ _ _ | exact Kd.Q_nil _ _ _ _ _ | exact Kd.S_nil _ _ _ _ _, by repeat (first | (with_reducible first | exact HB.out | apply below_alloc | apply pw_below_drewN | apply below_drew1 | refine below_set ?_ GE241.out | refine below_set ?_ GE242.out) | exact HB.out)⟩

end Go.Proofs.YtciabhncmdpeeaaDoor.QFnExactTreeDelete
namespace Go.Proofs.YtciabhncmdpeeaaDoor.QFnExactTreeDelete
open Go.Proofs.YtciabhncmdpeeaaDoor.Er Go.Proofs.YtciabhncmdpeeaaDoor.Sq
open Go.RowKit Go.Proofs.YtciabhncmdpeeaaDoorW.PrintWords Go.Proofs.YtciabhncmdpeeaaDoorW.PrintLast Go.Proofs.YtciabhncmdpeeaaDoorW.PrintMore
attribute [local go_sem] max2_int min2_int max_two min_two max_three min_three max_four min_four   -- for this text's walks alone
set_option linter.unusedVariables false
set_option linter.unusedSimpArgs false

/-! ### laws_FnExactTreeDelete: function 12 -/
mutual
def laws_FnExactTreeDelete.j0 : Nat → Int → Int → Int → Bool → List (S128) → List (S54) → List (S54) → List (S54) → Option (Bool)
 | 0, _, _, _, _, _, _, _, _ => none
 | k + 1, x1, x7, x10, x44, x248000, x257000, x261000, x266000 => if x44 = true then (some false) else ((laws_toTree.f k x248000).bind fun t267 => ((laws_eqTree.f k x261000 t267).bind fun t270 => (if t270 = true then ((laws_markTree.f k x261000 1).bind fun bt271 => (if bt271.1 < 0 then (laws_FnExactTreeDelete.j1 k x1 x7 true x248000 x257000 x266000) else ((laws_eqTree.f k x266000 x257000).bind fun t273 => (if t273 = true then (laws_FnExactTreeDelete.j1 k x1 x7 (x10 != x7) x248000 x257000 x266000) else (laws_FnExactTreeDelete.j1 k x1 x7 true x248000 x257000 x266000))))) else (some false))))
def laws_FnExactTreeDelete.j1 : Nat → Int → Int → Bool → List (S128) → List (S54) → List (S54) → Option (Bool)
 | 0, _, _, _, _, _, _ => none
 | k + 1, x1, x7, x65, x248000, x257000, x266000 => if x65 = true then (some false) else ((laws_markTree.f k x266000 1).bind fun bt274 => ((laws_heldTree.f k bt274.2 1).bind fun t276 => (if t276 < 0 then (some false) else (if t276 = bt274.1 then ((laws_toTree.f k x248000).bind fun t277 => ((impl_TreeDelete.f t277 x1).bind fun bt280 => ((laws_eqTree.f k bt280.1 x257000).bind fun t285 => (if t285 = true then (laws_FnExactTreeDelete.j2 k bt274.1 (bt280.2 != x7) bt274.2) else (laws_FnExactTreeDelete.j2 k bt274.1 true bt274.2))))) else (some false)))))
def laws_FnExactTreeDelete.j2 : Nat → Int → Bool → List (S54) → Option (Bool)
 | 0, _, _, _ => none
 | k + 1, x12, x92, x266000 => if x92 = true then (some false) else ((laws_heldTree.f k x266000 1).bind fun t286 => (if t286 < 0 then (some false) else (if t286 = x12 then (some true) else (some false))))
end
def laws_FnExactTreeDelete.f (k : Nat) (l0_0 : List (S128)) (a1 : Int) : Option (Bool) := (laws_szTree.f l0_0 1048576).bind fun t248 => (if t248 < 0 then (some true) else ((laws_toTree.f k l0_0).bind fun t249 => ((spec_TreeDelete.f k t249 a1).bind fun bt252 => ((laws_toTree.f k l0_0).bind fun t257 => ((impl_TreeDelete.f t257 a1).bind fun bt261 => ((laws_eqTree.f k bt261.1 bt252.1).bind fun t266 => (if t266 = true then (laws_FnExactTreeDelete.j0 k a1 bt252.2 bt261.2 (bt261.2 != bt252.2) l0_0 bt252.1 t257 bt261.1) else (laws_FnExactTreeDelete.j0 k a1 bt252.2 bt261.2 true l0_0 bt252.1 t257 bt261.1))))))))
theorem laws_FnExactTreeDelete.mono_l : ∀ k, (∀ y0 y1 y2 y3 y4 y5 y6 y7, LeO (laws_FnExactTreeDelete.j0 k y0 y1 y2 y3 y4 y5 y6 y7) (laws_FnExactTreeDelete.j0 (k + 1) y0 y1 y2 y3 y4 y5 y6 y7)) ∧ (∀ y0 y1 y2 y3 y4 y5, LeO (laws_FnExactTreeDelete.j1 k y0 y1 y2 y3 y4 y5) (laws_FnExactTreeDelete.j1 (k + 1) y0 y1 y2 y3 y4 y5)) ∧ (∀ y0 y1 y2, LeO (laws_FnExactTreeDelete.j2 k y0 y1 y2) (laws_FnExactTreeDelete.j2 (k + 1) y0 y1 y2))
 | 0 => ⟨fun _ _ _ _ _ _ _ _ r h => by simp [laws_FnExactTreeDelete.j0] at h, fun _ _ _ _ _ _ r h => by simp [laws_FnExactTreeDelete.j1] at h, fun _ _ _ r h => by simp [laws_FnExactTreeDelete.j2] at h⟩
 | k + 1 => by
  obtain ⟨ih0, ih1, ih2⟩ := laws_FnExactTreeDelete.mono_l k
  refine ⟨?_, ?_, ?_⟩
  ·intro y0 y1 y2 y3 y4 y5 y6 y7
   unfold laws_FnExactTreeDelete.j0
   repeat' first
   | (with_reducible exact ih0 _ _ _ _ _ _ _ _)
   | (with_reducible exact ih1 _ _ _ _ _ _)
   | (with_reducible exact ih2 _ _ _)
   | (with_reducible exact laws_eqTree.mono _ _ _)
   | (with_reducible exact laws_heldTree.mono _ _ _)
   | (with_reducible exact laws_markTree.mono _ _ _)
   | (with_reducible exact laws_toTree.mono _ _)
   | (with_reducible exact spec_TreeDelete.mono _ _ _)
   | (with_reducible exact LeO.refl _)
   | (with_reducible exact LeO.none _)
   | (with_reducible refine LeO.ite ?_ ?_)
   | (with_reducible refine LeO.bind ?_ (fun _ => ?_))
   | exact ih0 _ _ _ _ _ _ _ _
   | exact ih1 _ _ _ _ _ _
   | exact ih2 _ _ _
   | exact laws_eqTree.mono _ _ _
   | exact laws_heldTree.mono _ _ _
   | exact laws_markTree.mono _ _ _
   | exact laws_toTree.mono _ _
   | exact spec_TreeDelete.mono _ _ _
   | exact LeO.none _
   | refine LeO.ite ?_ ?_
   | refine LeO.bind ?_ (fun _ => ?_)
  ·intro y0 y1 y2 y3 y4 y5
   unfold laws_FnExactTreeDelete.j1
   repeat' first
   | (with_reducible exact ih0 _ _ _ _ _ _ _ _)
   | (with_reducible exact ih1 _ _ _ _ _ _)
   | (with_reducible exact ih2 _ _ _)
   | (with_reducible exact laws_eqTree.mono _ _ _)
   | (with_reducible exact laws_heldTree.mono _ _ _)
   | (with_reducible exact laws_markTree.mono _ _ _)
   | (with_reducible exact laws_toTree.mono _ _)
   | (with_reducible exact spec_TreeDelete.mono _ _ _)
   | (with_reducible exact LeO.refl _)
   | (with_reducible exact LeO.none _)
   | (with_reducible refine LeO.ite ?_ ?_)
   | (with_reducible refine LeO.bind ?_ (fun _ => ?_))
   | exact ih0 _ _ _ _ _ _ _ _
   | exact ih1 _ _ _ _ _ _
   | exact ih2 _ _ _
   | exact laws_eqTree.mono _ _ _
   | exact laws_heldTree.mono _ _ _
   | exact laws_markTree.mono _ _ _
   | exact laws_toTree.mono _ _
   | exact spec_TreeDelete.mono _ _ _
   | exact LeO.none _
   | refine LeO.ite ?_ ?_
   | refine LeO.bind ?_ (fun _ => ?_)
  ·intro y0 y1 y2
   unfold laws_FnExactTreeDelete.j2
   repeat' first
   | (with_reducible exact ih0 _ _ _ _ _ _ _ _)
   | (with_reducible exact ih1 _ _ _ _ _ _)
   | (with_reducible exact ih2 _ _ _)
   | (with_reducible exact laws_eqTree.mono _ _ _)
   | (with_reducible exact laws_heldTree.mono _ _ _)
   | (with_reducible exact laws_markTree.mono _ _ _)
   | (with_reducible exact laws_toTree.mono _ _)
   | (with_reducible exact spec_TreeDelete.mono _ _ _)
   | (with_reducible exact LeO.refl _)
   | (with_reducible exact LeO.none _)
   | (with_reducible refine LeO.ite ?_ ?_)
   | (with_reducible refine LeO.bind ?_ (fun _ => ?_))
   | exact ih0 _ _ _ _ _ _ _ _
   | exact ih1 _ _ _ _ _ _
   | exact ih2 _ _ _
   | exact laws_eqTree.mono _ _ _
   | exact laws_heldTree.mono _ _ _
   | exact laws_markTree.mono _ _ _
   | exact laws_toTree.mono _ _
   | exact spec_TreeDelete.mono _ _ _
   | exact LeO.none _
   | refine LeO.ite ?_ ?_
   | refine LeO.bind ?_ (fun _ => ?_)
theorem laws_FnExactTreeDelete.mono : ∀ a0 a1 k, LeO (laws_FnExactTreeDelete.f k a0 a1) (laws_FnExactTreeDelete.f (k + 1) a0 a1) := by
 intro a0 a1 k
 obtain ⟨ih0, ih1, ih2⟩ := laws_FnExactTreeDelete.mono_l k
 unfold laws_FnExactTreeDelete.f
 repeat' first
   | (with_reducible exact ih0 _ _ _ _ _ _ _ _)
   | (with_reducible exact ih1 _ _ _ _ _ _)
   | (with_reducible exact ih2 _ _ _)
   | (with_reducible exact laws_eqTree.mono _ _ _)
   | (with_reducible exact laws_heldTree.mono _ _ _)
   | (with_reducible exact laws_markTree.mono _ _ _)
   | (with_reducible exact laws_toTree.mono _ _)
   | (with_reducible exact spec_TreeDelete.mono _ _ _)
   | (with_reducible exact LeO.refl _)
   | (with_reducible exact LeO.none _)
   | (with_reducible refine LeO.ite ?_ ?_)
   | (with_reducible refine LeO.bind ?_ (fun _ => ?_))
   | exact ih0 _ _ _ _ _ _ _ _
   | exact ih1 _ _ _ _ _ _
   | exact ih2 _ _ _
   | exact laws_eqTree.mono _ _ _
   | exact laws_heldTree.mono _ _ _
   | exact laws_markTree.mono _ _ _
   | exact laws_toTree.mono _ _
   | exact spec_TreeDelete.mono _ _ _
   | exact LeO.none _
   | refine LeO.ite ?_ ?_
   | refine LeO.bind ?_ (fun _ => ?_)
set_option maxHeartbeats 8000000 in
set_option maxRecDepth 100000 in
theorem laws_FnExactTreeDelete.calls (k : Nat) (A0_0 : Option Addr) (c0_0 : Nat) (l0_0 : List (S128)) (a1 : Int) (r : Bool) (w : World) (hr0_0 : Kd.C k128 w A0_0 l0_0.length l0_0) (hc0_0 : l0_0.length ≤ c0_0)  (hgG_ : HG w) (h : laws_FnExactTreeDelete.f k l0_0 a1 = some r) :
  Calls Tryd.prog 12 #[.agg #[.slice A0_0 l0_0.length c0_0], .int .i64 a1] w fun e w' => e = .returned (.bool r) ∧ Below w.heap.size w w' := by
 have hu24 := Tryd.underlying24
 have hu30 := Tryd.underlying30
 have HR0_0 := Aside0.mk hr0_0
 have HC0_0 := Aside0.mk hc0_0
 clear hr0_0 hc0_0
 have HB := Aside0.mk (Below.refl w.heap.size w)
 have H : ((laws_szTree.f l0_0 1048576).bind fun t248 => (if t248 < 0 then (some true) else ((laws_toTree.f k l0_0).bind fun t249 => ((spec_TreeDelete.f k t249 a1).bind fun bt252 => ((laws_toTree.f k l0_0).bind fun t257 => ((impl_TreeDelete.f t257 a1).bind fun bt261 => ((laws_eqTree.f k bt261.1 bt252.1).bind fun t266 => (if t266 = true then (laws_FnExactTreeDelete.j0 k a1 bt252.2 bt261.2 (bt261.2 != bt252.2) l0_0 bt252.1 t257 bt261.1) else (laws_FnExactTreeDelete.j0 k a1 bt252.2 bt261.2 true l0_0 bt252.1 t257 bt261.1))))))))) = some r := h
 clear h
 replace H := Option.bind_eq_some_iff.mp H
 obtain ⟨t248, A30, H⟩ := H
 replace H : (if t248 < 0 then (some true) else ((laws_toTree.f k l0_0).bind fun t249 => ((spec_TreeDelete.f k t249 a1).bind fun bt252 => ((laws_toTree.f k l0_0).bind fun t257 => ((impl_TreeDelete.f t257 a1).bind fun bt261 => ((laws_eqTree.f k bt261.1 bt252.1).bind fun t266 => (if t266 = true then (laws_FnExactTreeDelete.j0 k a1 bt252.2 bt261.2 (bt261.2 != bt252.2) l0_0 bt252.1 t257 bt261.1) else (laws_FnExactTreeDelete.j0 k a1 bt252.2 bt261.2 true l0_0 bt252.1 t257 bt261.1)))))))) = some r := H
 have A3 := Aside0.mk A30
 clear A30
 by_cases c4 : t248 < 0
 ·rw [if_pos c4] at H
  have c4b0 : decide (t248 < 0) = true := decide_eq_true c4
  clear c4
  obtain rfl := Option.some.inj H
  go_enter Tryd.func12, Tryd.ntmps12
  go_wp2_with (first | ((with_reducible refine gate_dst (N := 2) rfl ?_); refine box_event ?hg (N := 2) ?hd (cs := #[.slice A0_0 l0_0.length c0_0]) (t := 24) ?hr ?_; (case hd => rfl); (case hg => rfl); (case hr => first | (go_simp; done) | (go_simp; rfl)); intro gb247 hg w5 hbox hb; have n0_ := Aside0.mk (below_step (hbD HB) hb); have n1_ := Aside0.mk (hbox); have n2_ := Aside0.mk ((by rw [hg]; exact (below_size (hbD HB)) : w.heap.size ≤ gb247)); have n3_ := n2_; clear HB; have HB := n0_; have BK247 := n1_; have GW247 := n2_; have GE247 := n3_; clear n0_ n1_ n2_ n3_ hb hbox hg; have hcz6_0 : w5.cell? ⟨gb247, 0, none⟩ = some (.slice A0_0 l0_0.length c0_0) := (blk_cell BK247.out 0).trans rfl; have hfz6_0 := blk_frozen BK247.out 0) | ((with_reducible refine gate_callee (f := 15) rfl ?_); refine goesL_ (some 18) rfl rfl Tryd.func15 (by kernel_rfl) rfl #[.agg #[.slice A0_0 l0_0.length c0_0], .int .i64 1048576] rfl (by (try simp only [List.map_toArray, List.map_cons, List.map_nil]); first | done | rfl | (simp only [List.length_drop, List.length_take]; rfl)) ?_; (with_reducible refine (laws_szTree.calls _ _ l0_0 1048576 t248 _ ?side1 ?side2 A3.out).mono ?_); (case side1 => repeat (first | exact (Kd.C_below HR0_0.out HB.out) | (with_reducible refine Kd.C_alloc ?_ _) | (with_reducible refine Kd.C_drewN ?_ _) | (with_reducible refine Kd.C_drew ?_))); (case side2 => exact HC0_0.out); rintro e w7 ⟨rfl, hb⟩; refine ⟨_, rfl, ?_⟩; have n0_ := Aside0.mk (blk_below (bkD BK247) hb); have n1_ := Aside0.mk (below_step (hbD HB) hb); clear BK247 HB; have BK247 := n0_; have HB := n1_; clear n0_ n1_; (try clear hb); (try clear hb2); (try clear hk); (try clear hi)))
  go_ret
  exact ⟨by first | rfl | (simp [errW_none, errW_some] <;> rfl) | (simp [*, errW_none, errW_some] <;> rfl), by repeat (first | (with_reducible first | exact HB.out | apply below_alloc | apply pw_below_drewN | apply below_drew1 | refine below_set ?_ GE247.out) | exact HB.out)⟩
 ·rw [if_neg c4] at H
  have c4b0 : decide (t248 < 0) = false := decide_eq_false c4
  clear c4
  replace H := Option.bind_eq_some_iff.mp H
  obtain ⟨t249, A80, H⟩ := H
  replace H : ((spec_TreeDelete.f k t249 a1).bind fun bt252 => ((laws_toTree.f k l0_0).bind fun t257 => ((impl_TreeDelete.f t257 a1).bind fun bt261 => ((laws_eqTree.f k bt261.1 bt252.1).bind fun t266 => (if t266 = true then (laws_FnExactTreeDelete.j0 k a1 bt252.2 bt261.2 (bt261.2 != bt252.2) l0_0 bt252.1 t257 bt261.1) else (laws_FnExactTreeDelete.j0 k a1 bt252.2 bt261.2 true l0_0 bt252.1 t257 bt261.1)))))) = some r := H
  have A8 := Aside0.mk A80
  clear A80
  replace H := Option.bind_eq_some_iff.mp H
  obtain ⟨⟨t252, t255⟩, A90, H⟩ := H
  replace H : ((laws_toTree.f k l0_0).bind fun t257 => ((impl_TreeDelete.f t257 a1).bind fun bt261 => ((laws_eqTree.f k bt261.1 t252).bind fun t266 => (if t266 = true then (laws_FnExactTreeDelete.j0 k a1 t255 bt261.2 (bt261.2 != t255) l0_0 t252 t257 bt261.1) else (laws_FnExactTreeDelete.j0 k a1 t255 bt261.2 true l0_0 t252 t257 bt261.1))))) = some r := H
  have A9 := Aside0.mk A90
  clear A90
  replace H := Option.bind_eq_some_iff.mp H
  obtain ⟨t257, A100, H⟩ := H
  replace H : ((impl_TreeDelete.f t257 a1).bind fun bt261 => ((laws_eqTree.f k bt261.1 t252).bind fun t266 => (if t266 = true then (laws_FnExactTreeDelete.j0 k a1 t255 bt261.2 (bt261.2 != t255) l0_0 t252 t257 bt261.1) else (laws_FnExactTreeDelete.j0 k a1 t255 bt261.2 true l0_0 t252 t257 bt261.1)))) = some r := H
  have A10 := Aside0.mk A100
  clear A100
  replace H := Option.bind_eq_some_iff.mp H
  obtain ⟨⟨t261, t264⟩, A110, H⟩ := H
  replace H : ((laws_eqTree.f k t261 t252).bind fun t266 => (if t266 = true then (laws_FnExactTreeDelete.j0 k a1 t255 t264 (t264 != t255) l0_0 t252 t257 t261) else (laws_FnExactTreeDelete.j0 k a1 t255 t264 true l0_0 t252 t257 t261))) = some r := H
  have A11 := Aside0.mk A110
  clear A110
  have HC12 := Aside0.mk H
  clear H
  go_enter Tryd.func12, Tryd.ntmps12
  go_upto_region 8 with (first | ((with_reducible refine gate_dst (N := 2) rfl ?_); refine box_event ?hg (N := 2) ?hd (cs := #[.slice A0_0 l0_0.length c0_0]) (t := 24) ?hr ?_; (case hd => rfl); (case hg => rfl); (case hr => first | (go_simp; done) | (go_simp; rfl)); intro gb247 hg w13 hbox hb; have n0_ := Aside0.mk (below_step (hbD HB) hb); have n1_ := Aside0.mk (hbox); have n2_ := Aside0.mk ((by rw [hg]; exact (below_size (hbD HB)) : w.heap.size ≤ gb247)); have n3_ := n2_; clear HB; have HB := n0_; have BK247 := n1_; have GW247 := n2_; have GE247 := n3_; clear n0_ n1_ n2_ n3_ hb hbox hg; have hcz14_0 : w13.cell? ⟨gb247, 0, none⟩ = some (.slice A0_0 l0_0.length c0_0) := (blk_cell BK247.out 0).trans rfl; have hfz14_0 := blk_frozen BK247.out 0) | ((with_reducible refine gate_callee (f := 15) rfl ?_); refine goesL_ (some 18) rfl rfl Tryd.func15 (by kernel_rfl) rfl #[.agg #[.slice A0_0 l0_0.length c0_0], .int .i64 1048576] rfl (by (try simp only [List.map_toArray, List.map_cons, List.map_nil]); first | done | rfl | (simp only [List.length_drop, List.length_take]; rfl)) ?_; (with_reducible refine (laws_szTree.calls _ _ l0_0 1048576 t248 _ ?side1 ?side2 A3.out).mono ?_); (case side1 => repeat (first | exact (Kd.C_below HR0_0.out HB.out) | (with_reducible refine Kd.C_alloc ?_ _) | (with_reducible refine Kd.C_drewN ?_ _) | (with_reducible refine Kd.C_drew ?_))); (case side2 => exact HC0_0.out); rintro e w15 ⟨rfl, hb⟩; refine ⟨_, rfl, ?_⟩; have n0_ := Aside0.mk (blk_below (bkD BK247) hb); have n1_ := Aside0.mk (below_step (hbD HB) hb); clear BK247 HB; have BK247 := n0_; have HB := n1_; clear n0_ n1_; (try clear hb); (try clear hb2); (try clear hk); (try clear hi); have hcz16_0 : w15.cell? ⟨gb247, 0, none⟩ = some (.slice A0_0 l0_0.length c0_0) := (blk_cell BK247.out 0).trans rfl; have hfz16_0 := blk_frozen BK247.out 0) | ((with_reducible refine gate_callee (f := 17) rfl ?_); refine goesL_ (some 23) rfl rfl Tryd.func17 (by kernel_rfl) rfl #[.agg #[.slice A0_0 l0_0.length c0_0]] rfl (by (try simp only [List.map_toArray, List.map_cons, List.map_nil]); first | done | rfl | (simp only [List.length_drop, List.length_take]; rfl)) ?_; (with_reducible refine (laws_toTree.calls k _ _ l0_0 t249 _ ?side1 ?side2 A8.out).mono ?_); (case side1 => repeat (first | exact (Kd.C_below HR0_0.out HB.out) | (with_reducible refine Kd.C_alloc ?_ _) | (with_reducible refine Kd.C_drewN ?_ _) | (with_reducible refine Kd.C_drew ?_))); (case side2 => exact HC0_0.out); rintro e w17 ⟨v250, rfl, ho0, hb⟩; refine ⟨_, rfl, ?_⟩; have n0_ := Aside0.mk (Kd.R_lower ho0 (below_size (hbD HB))); have n1_ := Aside0.mk (blk_below (bkD BK247) hb); have n2_ := Aside0.mk (below_step (hbD HB) hb); clear BK247 HB; have HO251 := n0_; have BK247 := n1_; have HB := n2_; clear n0_ n1_ n2_; (try clear hb); (try clear hb2); (try clear hk); (try clear hi); (try clear ho0); obtain ⟨Ao18, co18, eo18⟩ := Kd.R_slice HO251.out; subst eo18) | ((with_reducible refine gate_callee (f := 52) rfl ?_); refine goesL_ (some 25) rfl rfl Tryd.func52 (by kernel_rfl) rfl #[.agg #[.slice Ao18 t249.length co18], .int .i64 a1] rfl (by (try simp only [List.map_toArray, List.map_cons, List.map_nil]); first | done | rfl | (simp only [List.length_drop, List.length_take]; rfl)) ?_; (with_reducible refine (spec_TreeDelete.calls k _ _ t249 a1 t252 t255 _ ?side1 ?side2 A9.out).mono ?_); (case side1 => repeat (first | exact (Kd.R_reads' HO251.out).2.2 | (with_reducible refine Kd.C_alloc ?_ _) | (with_reducible refine Kd.C_drewN ?_ _) | (with_reducible refine Kd.C_drew ?_))); (case side2 => exact (Kd.R_reads' HO251.out).2.1); rintro e w19 ⟨v253, rfl, ho0, hb⟩; refine ⟨_, rfl, ?_⟩; have n0_ := Aside0.mk (Kd.R_elder' (rD HO251.out) (Kd.R_base ho0) hb); have n1_ := Aside0.mk (Kd.R_lower (Kd.R_new' ho0 (Kd.R_lt (rD HO251.out))) (below_size (hbD HB))); have n2_ := Aside0.mk (blk_below (bkD BK247) hb); have n3_ := Aside0.mk (below_step (hbD HB) hb); clear HO251 BK247 HB; have HO251 := n0_; have HO254 := n1_; have BK247 := n2_; have HB := n3_; clear n0_ n1_ n2_ n3_; (try clear hb); (try clear hb2); (try clear hk); (try clear hi); (try clear ho0)) | ((with_reducible refine gate_dst (N := 6) rfl ?_); refine box_event ?hg (N := 6) ?hd (cs := #[.slice none 0 0]) (t := 30) ?hr ?_; (case hd => rfl); (case hg => rfl); (case hr => first | (go_simp; done) | (go_simp; rfl)); intro gb256 hg w20 hbox hb; have n0_ := Aside0.mk (Kd.R_below (rD HO251.out) hb); have n1_ := Aside0.mk (Kd.R_below (rD HO254.out) hb); have n2_ := Aside0.mk (blk_below (bkD BK247) hb); have n3_ := Aside0.mk (below_step (hbD HB) hb); have n4_ := Aside0.mk (hbox); have n5_ := Aside0.mk ((by rw [hg]; exact (below_size (hbD HB)) : w.heap.size ≤ gb256)); have n6_ := n5_; have n7_ := Aside0.mk ((by rw [hg]; exact Nat.ne_of_lt (blk_lt (bkD BK247)) : gb247 ≠ gb256)); have n8_ := Aside0.mk ((by rw [hg]; exact Nat.ne_of_gt (blk_lt (bkD BK247)) : gb256 ≠ gb247)); clear HO251 HO254 BK247 HB; have HO251 := n0_; have HO254 := n1_; have BK247 := n2_; have HB := n3_; have BK256 := n4_; have GW256 := n5_; have GE256 := n6_; have NB247_256 := n7_; have NB256_247 := n8_; clear n0_ n1_ n2_ n3_ n4_ n5_ n6_ n7_ n8_ hb hbox hg; obtain ⟨Ao21, co21, eo21⟩ := Kd.R_slice HO254.out; subst eo21; have hnb22 := NB256_247.out; have hnc22 := NB247_256.out; have hcz23_0 : w20.cell? ⟨gb256, 0, none⟩ = some (.slice none 0 0) := (blk_cell BK256.out 0).trans rfl; have hfz23_0 := blk_frozen BK256.out 0; have hcz24_0 : w20.cell? ⟨gb247, 0, none⟩ = some (.slice A0_0 l0_0.length c0_0) := (blk_cell BK247.out 0).trans rfl; have hfz24_0 := blk_frozen BK247.out 0) | ((with_reducible refine gate_callee (f := 17) rfl ?_); refine goesL_ (some 29) rfl rfl Tryd.func17 (by kernel_rfl) rfl #[.agg #[.slice A0_0 l0_0.length c0_0]] rfl (by (try simp only [List.map_toArray, List.map_cons, List.map_nil]); first | done | rfl | (simp only [List.length_drop, List.length_take]; rfl)) ?_; (with_reducible refine (laws_toTree.calls k _ _ l0_0 t257 _ ?side1 ?side2 A10.out).mono ?_); (case side1 => exact Kd.C_below HR0_0.out (hbD HB)); (case side2 => exact HC0_0.out); rintro e w25 ⟨v258, rfl, ho0, hb⟩; refine ⟨_, rfl, ?_⟩; have n0_ := Aside0.mk (Kd.R_elder' (rD ((Kd.R_mono (Kd.R_far (p := ⟨gb256, 0, none⟩) (Kd.R_types HO251.out BK256.out (by decide)) (fun _ hk => hk.2) (.slice Ao21 t252.length co21)) (fun _ h_ => h_.1)))) (Kd.R_base ho0) hb); have n1_ := Aside0.mk (Kd.R_elder' (rD ((Kd.R_mono (Kd.R_far (p := ⟨gb256, 0, none⟩) (Kd.R_types HO254.out BK256.out (by decide)) (fun _ hk => hk.2) (.slice Ao21 t252.length co21)) (fun _ h_ => h_.1)))) (Kd.R_base ho0) hb); have n2_ := Aside0.mk (Kd.R_lower (Kd.R_new' (Kd.R_new' ho0 (Kd.R_lt (rD ((Kd.R_mono (Kd.R_far (p := ⟨gb256, 0, none⟩) (Kd.R_types HO251.out BK256.out (by decide)) (fun _ hk => hk.2) (.slice Ao21 t252.length co21)) (fun _ h_ => h_.1)))))) (Kd.R_lt (rD ((Kd.R_mono (Kd.R_far (p := ⟨gb256, 0, none⟩) (Kd.R_types HO254.out BK256.out (by decide)) (fun _ hk => hk.2) (.slice Ao21 t252.length co21)) (fun _ h_ => h_.1)))))) (below_size (hbD HB))); have n3_ := Aside0.mk (blk_below (g := gb247) (o := .cells #[.slice A0_0 l0_0.length c0_0] 24 (0, 0)) (by (with_reducible repeat (first | refine blk_drewN ?_ _ | refine blk_drew ?_ | refine blk_alloc ?_ _)); refine blk_far ?_ NB247_256.out _; (with_reducible repeat (first | refine blk_drewN ?_ _ | refine blk_drew ?_ | refine blk_alloc ?_ _)); exact BK247.out) hb); have n4_ := Aside0.mk (blk_below (g := gb256) (o := .cells #[.slice Ao21 t252.length co21] 30 (0, 0)) (by (with_reducible repeat (first | refine blk_drewN ?_ _ | refine blk_drew ?_ | refine blk_alloc ?_ _)); refine blk_put (cs := #[.slice none 0 0]) ?_ 0 _ rfl; (with_reducible repeat (first | refine blk_drewN ?_ _ | refine blk_drew ?_ | refine blk_alloc ?_ _)); exact BK256.out) hb); have n5_ := Aside0.mk (below_step (hbD HB) hb); clear HO251 HO254 BK247 BK256 HB; have HO251 := n0_; have HO254 := n1_; have HO259 := n2_; have BK247 := n3_; have BK256 := n4_; have HB := n5_; clear n0_ n1_ n2_ n3_ n4_ n5_; (try clear hb); (try clear hb2); (try clear hk); (try clear hi); (try clear ho0)) | ((with_reducible refine gate_dst (N := 8) rfl ?_); refine box_event ?hg (N := 8) ?hd (cs := #[.slice none 0 0]) (t := 30) ?hr ?_; (case hd => rfl); (case hg => rfl); (case hr => first | (go_simp; done) | (go_simp; rfl)); intro gb260 hg w26 hbox hb; have n0_ := Aside0.mk (Kd.R_below (rD HO251.out) hb); have n1_ := Aside0.mk (Kd.R_below (rD HO254.out) hb); have n2_ := Aside0.mk (Kd.R_below (rD HO259.out) hb); have n3_ := Aside0.mk (blk_below (bkD BK247) hb); have n4_ := Aside0.mk (blk_below (bkD BK256) hb); have n5_ := Aside0.mk (below_step (hbD HB) hb); have n6_ := Aside0.mk (hbox); have n7_ := Aside0.mk ((by rw [hg]; exact (below_size (hbD HB)) : w.heap.size ≤ gb260)); have n8_ := n7_; have n9_ := Aside0.mk ((by rw [hg]; exact Nat.ne_of_lt (blk_lt (bkD BK247)) : gb247 ≠ gb260)); have n10_ := Aside0.mk ((by rw [hg]; exact Nat.ne_of_gt (blk_lt (bkD BK247)) : gb260 ≠ gb247)); have n11_ := Aside0.mk ((by rw [hg]; exact Nat.ne_of_lt (blk_lt (bkD BK256)) : gb256 ≠ gb260)); have n12_ := Aside0.mk ((by rw [hg]; exact Nat.ne_of_gt (blk_lt (bkD BK256)) : gb260 ≠ gb256)); clear HO251 HO254 HO259 BK247 BK256 HB; have HO251 := n0_; have HO254 := n1_; have HO259 := n2_; have BK247 := n3_; have BK256 := n4_; have HB := n5_; have BK260 := n6_; have GW260 := n7_; have GE260 := n8_; have NB247_260 := n9_; have NB260_247 := n10_; have NB256_260 := n11_; have NB260_256 := n12_; clear n0_ n1_ n2_ n3_ n4_ n5_ n6_ n7_ n8_ n9_ n10_ n11_ n12_ hb hbox hg; obtain ⟨Ao27, co27, eo27⟩ := Kd.R_slice HO259.out; subst eo27; have hnb28 := NB260_247.out; have hnc28 := NB247_260.out; have hnb29 := NB260_256.out; have hnc29 := NB256_260.out; have hcz30_0 : w26.cell? ⟨gb260, 0, none⟩ = some (.slice none 0 0) := (blk_cell BK260.out 0).trans rfl; have hfz30_0 := blk_frozen BK260.out 0) | ((with_reducible refine gate_callee (f := 33) rfl ?_); refine goesL_ (some 33) rfl rfl Tryd.func33 (by kernel_rfl) rfl #[.agg #[.slice Ao27 t257.length co27], .int .i64 a1] rfl (by (try simp only [List.map_toArray, List.map_cons, List.map_nil]); first | done | rfl | (simp only [List.length_drop, List.length_take]; rfl)) ?_; (with_reducible refine (impl_TreeDelete.calls _ _ t257 a1 t261 t264 _ ?side1 ?side2 ?side3 A11.out).mono ?_); (case side1 => refine (Kd.R_reads' (e := 54) (base := w.heap.size) (ok := fun k_ => ((True ∧ some k_ ≠ (.slice Ao18 t249.length co18 : Value).ownBlock) ∧ some k_ ≠ (.slice Ao21 t252.length co21 : Value).ownBlock)) (n := t257.length) (c := co27) ?_).2.2; exact (rD ((Kd.R_mono (Kd.R_far (p := ⟨gb260, 0, none⟩) (Kd.R_types HO259.out BK260.out (by decide)) (fun _ hk => hk.2) (.slice Ao27 t257.length co27)) (fun _ h_ => h_.1))))); (case side2 => exact (Kd.R_reads' HO259.out).2.1); (case side3 => exact HG.below hgG_ (hbD HB)); rintro e w31 ⟨v262, rfl, ho0, hb⟩; refine ⟨_, rfl, ?_⟩; have n0_ := Aside0.mk (Kd.R_elder' (rD ((Kd.R_mono (Kd.R_far (p := ⟨gb260, 0, none⟩) (Kd.R_types HO251.out BK260.out (by decide)) (fun _ hk => hk.2) (.slice Ao27 t257.length co27)) (fun _ h_ => h_.1)))) (Kd.R_base ho0) hb); have n1_ := Aside0.mk (Kd.R_elder' (rD ((Kd.R_mono (Kd.R_far (p := ⟨gb260, 0, none⟩) (Kd.R_types HO254.out BK260.out (by decide)) (fun _ hk => hk.2) (.slice Ao27 t257.length co27)) (fun _ h_ => h_.1)))) (Kd.R_base ho0) hb); have n2_ := Aside0.mk (Kd.R_elder' (rD ((Kd.R_mono (Kd.R_far (p := ⟨gb260, 0, none⟩) (Kd.R_types HO259.out BK260.out (by decide)) (fun _ hk => hk.2) (.slice Ao27 t257.length co27)) (fun _ h_ => h_.1)))) (Kd.R_base ho0) hb); have n3_ := Aside0.mk (Kd.R_lower (Kd.R_new' (Kd.R_new' (Kd.R_new' ho0 (Kd.R_lt (rD ((Kd.R_mono (Kd.R_far (p := ⟨gb260, 0, none⟩) (Kd.R_types HO251.out BK260.out (by decide)) (fun _ hk => hk.2) (.slice Ao27 t257.length co27)) (fun _ h_ => h_.1)))))) (Kd.R_lt (rD ((Kd.R_mono (Kd.R_far (p := ⟨gb260, 0, none⟩) (Kd.R_types HO254.out BK260.out (by decide)) (fun _ hk => hk.2) (.slice Ao27 t257.length co27)) (fun _ h_ => h_.1)))))) (Kd.R_lt (rD ((Kd.R_mono (Kd.R_far (p := ⟨gb260, 0, none⟩) (Kd.R_types HO259.out BK260.out (by decide)) (fun _ hk => hk.2) (.slice Ao27 t257.length co27)) (fun _ h_ => h_.1)))))) (below_size (hbD HB))); have n4_ := Aside0.mk (blk_below (g := gb247) (o := .cells #[.slice A0_0 l0_0.length c0_0] 24 (0, 0)) (by (with_reducible repeat (first | refine blk_drewN ?_ _ | refine blk_drew ?_ | refine blk_alloc ?_ _)); refine blk_far ?_ NB247_260.out _; (with_reducible repeat (first | refine blk_drewN ?_ _ | refine blk_drew ?_ | refine blk_alloc ?_ _)); exact BK247.out) hb); have n5_ := Aside0.mk (blk_below (g := gb256) (o := .cells #[.slice Ao21 t252.length co21] 30 (0, 0)) (by (with_reducible repeat (first | refine blk_drewN ?_ _ | refine blk_drew ?_ | refine blk_alloc ?_ _)); refine blk_far ?_ NB256_260.out _; (with_reducible repeat (first | refine blk_drewN ?_ _ | refine blk_drew ?_ | refine blk_alloc ?_ _)); exact BK256.out) hb); have n6_ := Aside0.mk (blk_below (g := gb260) (o := .cells #[.slice Ao27 t257.length co27] 30 (0, 0)) (by (with_reducible repeat (first | refine blk_drewN ?_ _ | refine blk_drew ?_ | refine blk_alloc ?_ _)); refine blk_put (cs := #[.slice none 0 0]) ?_ 0 _ rfl; (with_reducible repeat (first | refine blk_drewN ?_ _ | refine blk_drew ?_ | refine blk_alloc ?_ _)); exact BK260.out) hb); have n7_ := Aside0.mk (below_step (hbD HB) hb); clear HO251 HO254 HO259 BK247 BK256 BK260 HB; have HO251 := n0_; have HO254 := n1_; have HO259 := n2_; have HO263 := n3_; have BK247 := n4_; have BK256 := n5_; have BK260 := n6_; have HB := n7_; clear n0_ n1_ n2_ n3_ n4_ n5_ n6_ n7_; (try clear hb); (try clear hb2); (try clear hk); (try clear hi); (try clear ho0)) | ((with_reducible refine gate_dst (N := 9) rfl ?_); refine box_event ?hg (N := 9) ?hd (cs := #[.slice none 0 0]) (t := 30) ?hr ?_; (case hd => rfl); (case hg => rfl); (case hr => first | (go_simp; done) | (go_simp; rfl)); intro gb265 hg w32 hbox hb; have n0_ := Aside0.mk (Kd.R_below (rD HO251.out) hb); have n1_ := Aside0.mk (Kd.R_below (rD HO254.out) hb); have n2_ := Aside0.mk (Kd.R_below (rD HO259.out) hb); have n3_ := Aside0.mk (Kd.R_below (rD HO263.out) hb); have n4_ := Aside0.mk (blk_below (bkD BK247) hb); have n5_ := Aside0.mk (blk_below (bkD BK256) hb); have n6_ := Aside0.mk (blk_below (bkD BK260) hb); have n7_ := Aside0.mk (below_step (hbD HB) hb); have n8_ := Aside0.mk (hbox); have n9_ := Aside0.mk ((by rw [hg]; exact (below_size (hbD HB)) : w.heap.size ≤ gb265)); have n10_ := n9_; have n11_ := Aside0.mk ((by rw [hg]; exact Nat.ne_of_lt (blk_lt (bkD BK247)) : gb247 ≠ gb265)); have n12_ := Aside0.mk ((by rw [hg]; exact Nat.ne_of_gt (blk_lt (bkD BK247)) : gb265 ≠ gb247)); have n13_ := Aside0.mk ((by rw [hg]; exact Nat.ne_of_lt (blk_lt (bkD BK256)) : gb256 ≠ gb265)); have n14_ := Aside0.mk ((by rw [hg]; exact Nat.ne_of_gt (blk_lt (bkD BK256)) : gb265 ≠ gb256)); have n15_ := Aside0.mk ((by rw [hg]; exact Nat.ne_of_lt (blk_lt (bkD BK260)) : gb260 ≠ gb265)); have n16_ := Aside0.mk ((by rw [hg]; exact Nat.ne_of_gt (blk_lt (bkD BK260)) : gb265 ≠ gb260)); clear HO251 HO254 HO259 HO263 BK247 BK256 BK260 HB; have HO251 := n0_; have HO254 := n1_; have HO259 := n2_; have HO263 := n3_; have BK247 := n4_; have BK256 := n5_; have BK260 := n6_; have HB := n7_; have BK265 := n8_; have GW265 := n9_; have GE265 := n10_; have NB247_265 := n11_; have NB265_247 := n12_; have NB256_265 := n13_; have NB265_256 := n14_; have NB260_265 := n15_; have NB265_260 := n16_; clear n0_ n1_ n2_ n3_ n4_ n5_ n6_ n7_ n8_ n9_ n10_ n11_ n12_ n13_ n14_ n15_ n16_ hb hbox hg; obtain ⟨Ao33, co33, eo33⟩ := Kd.R_slice HO263.out; subst eo33; have hnb34 := NB265_247.out; have hnc34 := NB247_265.out; have hnb35 := NB265_256.out; have hnc35 := NB256_265.out; have hnb36 := NB265_260.out; have hnc36 := NB260_265.out; have hcz37_0 : w32.cell? ⟨gb265, 0, none⟩ = some (.slice none 0 0) := (blk_cell BK265.out 0).trans rfl; have hfz37_0 := blk_frozen BK265.out 0))
  (try simp only [Act.put, List.setIfInBounds_toArray, List.set_cons_zero, List.set_cons_succ])
  go_cut [44] (fun v44 wc => ∃ (kq : Nat) (x44_11 : Bool), v44 = .bool x44_11 ∧ Aside0 (laws_FnExactTreeDelete.j0 kq a1 t255 t264 x44_11 l0_0 t252 t257 t261 = some r) ∧ Aside0 (kq ≤ k) ∧ Aside0 (Kd.R k54 54 wc w.heap.size (fun k_ => some k_ ≠ ((.slice Ao27 t257.length co27) : Value).ownBlock ∧ some k_ ≠ ((.slice Ao33 t261.length co33) : Value).ownBlock) (.slice Ao21 t252.length co21) t252) ∧ Aside0 (Kd.R k54 54 wc w.heap.size (fun k_ => some k_ ≠ ((.slice Ao21 t252.length co21) : Value).ownBlock ∧ some k_ ≠ ((.slice Ao33 t261.length co33) : Value).ownBlock) (.slice Ao27 t257.length co27) t257) ∧ Aside0 (Kd.R k54 54 wc w.heap.size (fun k_ => some k_ ≠ ((.slice Ao21 t252.length co21) : Value).ownBlock ∧ some k_ ≠ ((.slice Ao27 t257.length co27) : Value).ownBlock) (.slice Ao33 t261.length co33) t261) ∧ Aside0 (wc.heap[gb247]? = some (.cells #[(.slice A0_0 l0_0.length c0_0)] 24 (0, 0))) ∧ Aside0 (wc.heap[gb256]? = some (.cells #[(.slice Ao21 t252.length co21)] 30 (0, 0))) ∧ Aside0 (wc.heap[gb260]? = some (.cells #[(.slice Ao27 t257.length co27)] 30 (0, 0))) ∧ Aside0 (wc.heap[gb265]? = some (.cells #[(.slice Ao33 t261.length co33)] 30 (0, 0))) ∧ Aside0 (Below w.heap.size w wc))
  case first =>
   have H := HC12.out
   clear HC12
   replace H := Option.bind_eq_some_iff.mp H
   obtain ⟨t266, A380, H⟩ := H
   replace H : (if t266 = true then (laws_FnExactTreeDelete.j0 k a1 t255 t264 (t264 != t255) l0_0 t252 t257 t261) else (laws_FnExactTreeDelete.j0 k a1 t255 t264 true l0_0 t252 t257 t261)) = some r := H
   have A38 := Aside0.mk A380
   clear A380
   by_cases c39 : t266 = true
   ·subst c39
    have H1 : (laws_FnExactTreeDelete.j0 k a1 t255 t264 (t264 != t255) l0_0 t252 t257 t261) = some r := by rw [if_pos rfl] at H; exact H
    clear H
    have H := H1
    clear H1
    have H' := Aside0.mk H
    clear H
    have hnb40 := NB265_247.out
    have hnc40 := NB247_265.out
    have hnb41 := NB265_256.out
    have hnc41 := NB256_265.out
    have hnb42 := NB265_260.out
    have hnc42 := NB260_265.out
    have hcz43_0 : w32.cell? ⟨gb265, 0, none⟩ = some (.slice none 0 0) := (blk_cell BK265.out 0).trans rfl
    have hfz43_0 := blk_frozen BK265.out 0
    have hnb44 := NB256_247.out
    have hnc44 := NB247_256.out
    have hnb45 := NB256_260.out
    have hnc45 := NB260_256.out
    have hcz46_0 : w32.cell? ⟨gb256, 0, none⟩ = some (.slice Ao21 t252.length co21) := (blk_cell BK256.out 0).trans rfl
    have hfz46_0 := blk_frozen BK256.out 0
    go_wp2_with (first | ((with_reducible refine gate_callee (f := 19) rfl ?_); refine goesL_ (some 38) rfl rfl Tryd.func19 (by kernel_rfl) rfl #[.agg #[.slice Ao33 t261.length co33], .agg #[.slice Ao21 t252.length co21]] rfl (by (try simp only [List.map_toArray, List.map_cons, List.map_nil]); first | done | rfl | (simp only [List.length_drop, List.length_take]; rfl)) ?_; (with_reducible refine (laws_eqTree.calls k _ _ t261 _ _ t252 true _ ?side1 ?side2 ?side3 ?side4 A38.out).mono ?_); (case side1 => refine (Kd.R_reads' (e := 54) (base := w.heap.size) (ok := fun k_ => (((True ∧ some k_ ≠ (.slice Ao18 t249.length co18 : Value).ownBlock) ∧ some k_ ≠ (.slice Ao21 t252.length co21 : Value).ownBlock) ∧ some k_ ≠ (.slice Ao27 t257.length co27 : Value).ownBlock)) (n := t261.length) (c := co33) ?_).2.2; exact (rD ((Kd.R_mono (Kd.R_far (p := ⟨gb265, 0, none⟩) (Kd.R_types HO263.out BK265.out (by decide)) (fun _ hk => hk.2) (.slice Ao33 t261.length co33)) (fun _ h_ => h_.1))))); (case side2 => exact (Kd.R_reads' HO263.out).2.1); (case side3 => refine (Kd.R_reads' (e := 54) (base := w.heap.size) (ok := fun k_ => (((True ∧ some k_ ≠ (.slice Ao18 t249.length co18 : Value).ownBlock) ∧ some k_ ≠ (.slice Ao27 t257.length co27 : Value).ownBlock) ∧ some k_ ≠ (.slice Ao33 t261.length co33 : Value).ownBlock)) (n := t252.length) (c := co21) ?_).2.2; exact (rD ((Kd.R_mono (Kd.R_far (p := ⟨gb265, 0, none⟩) (Kd.R_types HO254.out BK265.out (by decide)) (fun _ hk => hk.2) (.slice Ao33 t261.length co33)) (fun _ h_ => h_.1))))); (case side4 => exact (Kd.R_reads' HO254.out).2.1); rintro e w47 ⟨rfl, hb⟩; refine ⟨_, rfl, ?_⟩; have n0_ := Aside0.mk (Kd.R_below (rD ((Kd.R_mono (Kd.R_far (p := ⟨gb265, 0, none⟩) (Kd.R_types HO251.out BK265.out (by decide)) (fun _ hk => hk.2) (.slice Ao33 t261.length co33)) (fun _ h_ => h_.1)))) hb); have n1_ := Aside0.mk (Kd.R_below (rD ((Kd.R_mono (Kd.R_far (p := ⟨gb265, 0, none⟩) (Kd.R_types HO254.out BK265.out (by decide)) (fun _ hk => hk.2) (.slice Ao33 t261.length co33)) (fun _ h_ => h_.1)))) hb); have n2_ := Aside0.mk (Kd.R_below (rD ((Kd.R_mono (Kd.R_far (p := ⟨gb265, 0, none⟩) (Kd.R_types HO259.out BK265.out (by decide)) (fun _ hk => hk.2) (.slice Ao33 t261.length co33)) (fun _ h_ => h_.1)))) hb); have n3_ := Aside0.mk (Kd.R_below (rD ((Kd.R_mono (Kd.R_far (p := ⟨gb265, 0, none⟩) (Kd.R_types HO263.out BK265.out (by decide)) (fun _ hk => hk.2) (.slice Ao33 t261.length co33)) (fun _ h_ => h_.1)))) hb); have n4_ := Aside0.mk (blk_below (g := gb247) (o := .cells #[.slice A0_0 l0_0.length c0_0] 24 (0, 0)) (by (with_reducible repeat (first | refine blk_drewN ?_ _ | refine blk_drew ?_ | refine blk_alloc ?_ _)); refine blk_far ?_ NB247_265.out _; (with_reducible repeat (first | refine blk_drewN ?_ _ | refine blk_drew ?_ | refine blk_alloc ?_ _)); exact BK247.out) hb); have n5_ := Aside0.mk (blk_below (g := gb256) (o := .cells #[.slice Ao21 t252.length co21] 30 (0, 0)) (by (with_reducible repeat (first | refine blk_drewN ?_ _ | refine blk_drew ?_ | refine blk_alloc ?_ _)); refine blk_far ?_ NB256_265.out _; (with_reducible repeat (first | refine blk_drewN ?_ _ | refine blk_drew ?_ | refine blk_alloc ?_ _)); exact BK256.out) hb); have n6_ := Aside0.mk (blk_below (g := gb260) (o := .cells #[.slice Ao27 t257.length co27] 30 (0, 0)) (by (with_reducible repeat (first | refine blk_drewN ?_ _ | refine blk_drew ?_ | refine blk_alloc ?_ _)); refine blk_far ?_ NB260_265.out _; (with_reducible repeat (first | refine blk_drewN ?_ _ | refine blk_drew ?_ | refine blk_alloc ?_ _)); exact BK260.out) hb); have n7_ := Aside0.mk (blk_below (g := gb265) (o := .cells #[.slice Ao33 t261.length co33] 30 (0, 0)) (by (with_reducible repeat (first | refine blk_drewN ?_ _ | refine blk_drew ?_ | refine blk_alloc ?_ _)); refine blk_put (cs := #[.slice none 0 0]) ?_ 0 _ rfl; (with_reducible repeat (first | refine blk_drewN ?_ _ | refine blk_drew ?_ | refine blk_alloc ?_ _)); exact BK265.out) hb); have n8_ := Aside0.mk (below_step (hbD HB) hb); clear HO251 HO254 HO259 HO263 BK247 BK256 BK260 BK265 HB; have HO251 := n0_; have HO254 := n1_; have HO259 := n2_; have HO263 := n3_; have BK247 := n4_; have BK256 := n5_; have BK260 := n6_; have BK265 := n7_; have HB := n8_; clear n0_ n1_ n2_ n3_ n4_ n5_ n6_ n7_ n8_; (try clear hb); (try clear hb2); (try clear hk); (try clear hi)))
    go_meet
    case rel => exact ⟨_, ((t264 != t255)), (by first | rfl | (simp; done) | (simp [*]; done)), H', ⟨by first | omega | exact Nat.le_refl _⟩, ⟨by (with_reducible repeat (first | apply Kd.R_alloc | apply Kd.R_drewN | apply Kd.R_drew)); exact Kd.R_mono HO254.out (fun _ hk => ⟨hk.1.2, hk.2⟩)⟩, ⟨by (with_reducible repeat (first | apply Kd.R_alloc | apply Kd.R_drewN | apply Kd.R_drew)); exact Kd.R_mono HO259.out (fun _ hk => ⟨hk.1.2, hk.2⟩)⟩, ⟨by (with_reducible repeat (first | apply Kd.R_alloc | apply Kd.R_drewN | apply Kd.R_drew)); exact Kd.R_mono HO263.out (fun _ hk => ⟨hk.1.2, hk.2⟩)⟩, ⟨by (with_reducible repeat (first | refine blk_drewN ?_ _ | refine blk_drew ?_ | refine blk_alloc ?_ _)); exact BK247.out⟩, ⟨by (with_reducible repeat (first | refine blk_drewN ?_ _ | refine blk_drew ?_ | refine blk_alloc ?_ _)); exact BK256.out⟩, ⟨by (with_reducible repeat (first | refine blk_drewN ?_ _ | refine blk_drew ?_ | refine blk_alloc ?_ _)); exact BK260.out⟩, ⟨by (with_reducible repeat (first | refine blk_drewN ?_ _ | refine blk_drew ?_ | refine blk_alloc ?_ _)); exact BK265.out⟩, ⟨by repeat (first | (with_reducible first | exact HB.out | apply below_alloc | apply pw_below_drewN | apply below_drew1 | refine below_set ?_ GE247.out | refine below_set ?_ GE256.out | refine below_set ?_ GE260.out | refine below_set ?_ GE265.out) | exact HB.out)⟩⟩
   ·replace c39 := Bool.eq_false_iff.mpr c39
    subst c39
    have H1 : (laws_FnExactTreeDelete.j0 k a1 t255 t264 true l0_0 t252 t257 t261) = some r := by rw [if_neg (show ¬ (false = true) by decide)] at H; exact H
    clear H
    have H := H1
    clear H1
    have H' := Aside0.mk H
    clear H
    have hnb48 := NB265_247.out
    have hnc48 := NB247_265.out
    have hnb49 := NB265_256.out
    have hnc49 := NB256_265.out
    have hnb50 := NB265_260.out
    have hnc50 := NB260_265.out
    have hcz51_0 : w32.cell? ⟨gb265, 0, none⟩ = some (.slice none 0 0) := (blk_cell BK265.out 0).trans rfl
    have hfz51_0 := blk_frozen BK265.out 0
    have hnb52 := NB256_247.out
    have hnc52 := NB247_256.out
    have hnb53 := NB256_260.out
    have hnc53 := NB260_256.out
    have hcz54_0 : w32.cell? ⟨gb256, 0, none⟩ = some (.slice Ao21 t252.length co21) := (blk_cell BK256.out 0).trans rfl
    have hfz54_0 := blk_frozen BK256.out 0
    go_wp2_with (first | ((with_reducible refine gate_callee (f := 19) rfl ?_); refine goesL_ (some 38) rfl rfl Tryd.func19 (by kernel_rfl) rfl #[.agg #[.slice Ao33 t261.length co33], .agg #[.slice Ao21 t252.length co21]] rfl (by (try simp only [List.map_toArray, List.map_cons, List.map_nil]); first | done | rfl | (simp only [List.length_drop, List.length_take]; rfl)) ?_; (with_reducible refine (laws_eqTree.calls k _ _ t261 _ _ t252 false _ ?side1 ?side2 ?side3 ?side4 A38.out).mono ?_); (case side1 => refine (Kd.R_reads' (e := 54) (base := w.heap.size) (ok := fun k_ => (((True ∧ some k_ ≠ (.slice Ao18 t249.length co18 : Value).ownBlock) ∧ some k_ ≠ (.slice Ao21 t252.length co21 : Value).ownBlock) ∧ some k_ ≠ (.slice Ao27 t257.length co27 : Value).ownBlock)) (n := t261.length) (c := co33) ?_).2.2; exact (rD ((Kd.R_mono (Kd.R_far (p := ⟨gb265, 0, none⟩) (Kd.R_types HO263.out BK265.out (by decide)) (fun _ hk => hk.2) (.slice Ao33 t261.length co33)) (fun _ h_ => h_.1))))); (case side2 => exact (Kd.R_reads' HO263.out).2.1); (case side3 => refine (Kd.R_reads' (e := 54) (base := w.heap.size) (ok := fun k_ => (((True ∧ some k_ ≠ (.slice Ao18 t249.length co18 : Value).ownBlock) ∧ some k_ ≠ (.slice Ao27 t257.length co27 : Value).ownBlock) ∧ some k_ ≠ (.slice Ao33 t261.length co33 : Value).ownBlock)) (n := t252.length) (c := co21) ?_).2.2; exact (rD ((Kd.R_mono (Kd.R_far (p := ⟨gb265, 0, none⟩) (Kd.R_types HO254.out BK265.out (by decide)) (fun _ hk => hk.2) (.slice Ao33 t261.length co33)) (fun _ h_ => h_.1))))); (case side4 => exact (Kd.R_reads' HO254.out).2.1); rintro e w55 ⟨rfl, hb⟩; refine ⟨_, rfl, ?_⟩; have n0_ := Aside0.mk (Kd.R_below (rD ((Kd.R_mono (Kd.R_far (p := ⟨gb265, 0, none⟩) (Kd.R_types HO251.out BK265.out (by decide)) (fun _ hk => hk.2) (.slice Ao33 t261.length co33)) (fun _ h_ => h_.1)))) hb); have n1_ := Aside0.mk (Kd.R_below (rD ((Kd.R_mono (Kd.R_far (p := ⟨gb265, 0, none⟩) (Kd.R_types HO254.out BK265.out (by decide)) (fun _ hk => hk.2) (.slice Ao33 t261.length co33)) (fun _ h_ => h_.1)))) hb); have n2_ := Aside0.mk (Kd.R_below (rD ((Kd.R_mono (Kd.R_far (p := ⟨gb265, 0, none⟩) (Kd.R_types HO259.out BK265.out (by decide)) (fun _ hk => hk.2) (.slice Ao33 t261.length co33)) (fun _ h_ => h_.1)))) hb); have n3_ := Aside0.mk (Kd.R_below (rD ((Kd.R_mono (Kd.R_far (p := ⟨gb265, 0, none⟩) (Kd.R_types HO263.out BK265.out (by decide)) (fun _ hk => hk.2) (.slice Ao33 t261.length co33)) (fun _ h_ => h_.1)))) hb); have n4_ := Aside0.mk (blk_below (g := gb247) (o := .cells #[.slice A0_0 l0_0.length c0_0] 24 (0, 0)) (by (with_reducible repeat (first | refine blk_drewN ?_ _ | refine blk_drew ?_ | refine blk_alloc ?_ _)); refine blk_far ?_ NB247_265.out _; (with_reducible repeat (first | refine blk_drewN ?_ _ | refine blk_drew ?_ | refine blk_alloc ?_ _)); exact BK247.out) hb); have n5_ := Aside0.mk (blk_below (g := gb256) (o := .cells #[.slice Ao21 t252.length co21] 30 (0, 0)) (by (with_reducible repeat (first | refine blk_drewN ?_ _ | refine blk_drew ?_ | refine blk_alloc ?_ _)); refine blk_far ?_ NB256_265.out _; (with_reducible repeat (first | refine blk_drewN ?_ _ | refine blk_drew ?_ | refine blk_alloc ?_ _)); exact BK256.out) hb); have n6_ := Aside0.mk (blk_below (g := gb260) (o := .cells #[.slice Ao27 t257.length co27] 30 (0, 0)) (by (with_reducible repeat (first | refine blk_drewN ?_ _ | refine blk_drew ?_ | refine blk_alloc ?_ _)); refine blk_far ?_ NB260_265.out _; (with_reducible repeat (first | refine blk_drewN ?_ _ | refine blk_drew ?_ | refine blk_alloc ?_ _)); exact BK260.out) hb); have n7_ := Aside0.mk (blk_below (g := gb265) (o := .cells #[.slice Ao33 t261.length co33] 30 (0, 0)) (by (with_reducible repeat (first | refine blk_drewN ?_ _ | refine blk_drew ?_ | refine blk_alloc ?_ _)); refine blk_put (cs := #[.slice none 0 0]) ?_ 0 _ rfl; (with_reducible repeat (first | refine blk_drewN ?_ _ | refine blk_drew ?_ | refine blk_alloc ?_ _)); exact BK265.out) hb); have n8_ := Aside0.mk (below_step (hbD HB) hb); clear HO251 HO254 HO259 HO263 BK247 BK256 BK260 BK265 HB; have HO251 := n0_; have HO254 := n1_; have HO259 := n2_; have HO263 := n3_; have BK247 := n4_; have BK256 := n5_; have BK260 := n6_; have BK265 := n7_; have HB := n8_; clear n0_ n1_ n2_ n3_ n4_ n5_ n6_ n7_ n8_; (try clear hb); (try clear hb2); (try clear hk); (try clear hi)))
    go_meet
    case rel => exact ⟨_, (true), (by first | rfl | (simp; done) | (simp [*]; done)), H', ⟨by first | omega | exact Nat.le_refl _⟩, ⟨by (with_reducible repeat (first | apply Kd.R_alloc | apply Kd.R_drewN | apply Kd.R_drew)); exact Kd.R_mono HO254.out (fun _ hk => ⟨hk.1.2, hk.2⟩)⟩, ⟨by (with_reducible repeat (first | apply Kd.R_alloc | apply Kd.R_drewN | apply Kd.R_drew)); exact Kd.R_mono HO259.out (fun _ hk => ⟨hk.1.2, hk.2⟩)⟩, ⟨by (with_reducible repeat (first | apply Kd.R_alloc | apply Kd.R_drewN | apply Kd.R_drew)); exact Kd.R_mono HO263.out (fun _ hk => ⟨hk.1.2, hk.2⟩)⟩, ⟨by (with_reducible repeat (first | refine blk_drewN ?_ _ | refine blk_drew ?_ | refine blk_alloc ?_ _)); exact BK247.out⟩, ⟨by (with_reducible repeat (first | refine blk_drewN ?_ _ | refine blk_drew ?_ | refine blk_alloc ?_ _)); exact BK256.out⟩, ⟨by (with_reducible repeat (first | refine blk_drewN ?_ _ | refine blk_drew ?_ | refine blk_alloc ?_ _)); exact BK260.out⟩, ⟨by (with_reducible repeat (first | refine blk_drewN ?_ _ | refine blk_drew ?_ | refine blk_alloc ?_ _)); exact BK265.out⟩, ⟨by repeat (first | (with_reducible first | exact HB.out | apply below_alloc | apply pw_below_drewN | apply below_drew1 | refine below_set ?_ GE247.out | refine below_set ?_ GE256.out | refine below_set ?_ GE260.out | refine below_set ?_ GE265.out) | exact HB.out)⟩⟩
  case rest =>
   clear HC12
   try clear c1
   try clear c2
   try clear p2
   try clear c3
   try clear c4
   try clear c4b0
   try clear c5
   try clear c12
   try clear c15
   try clear c17
   try clear c19
   try clear c22
   try clear c28
   try clear c29
   try clear c33
   try clear c34
   try clear c35
   try clear c36
   try clear c39
   try clear c40
   try clear c41
   try clear c42
   try clear c44
   try clear c45
   try clear c48
   try clear c49
   try clear c50
   try clear c52
   try clear c53
   try clear hcz14_0
   try clear hcz16_0
   try clear hcz23_0
   try clear hcz24_0
   try clear hcz30_0
   try clear hcz37_0
   try clear hcz43_0
   try clear hcz46_0
   try clear hcz51_0
   try clear hcz54_0
   try clear hcz6_0
   try clear hfz14_0
   try clear hfz16_0
   try clear hfz23_0
   try clear hfz24_0
   try clear hfz30_0
   try clear hfz37_0
   try clear hfz43_0
   try clear hfz46_0
   try clear hfz51_0
   try clear hfz54_0
   try clear hfz6_0
   obtain ⟨kq, x44_11, rfl, HA, HJ11, HO_257000, HO_261000, HO_266000, BK247, BK256, BK260, BK265, HB⟩ := hcut
   cases kq with
   | zero => exact absurd HA.out (by simp [laws_FnExactTreeDelete.j0])
   | succ kj11 =>
    have H := HA.out
    clear HA
    simp only [laws_FnExactTreeDelete.j0] at H
    by_cases c56 : x44_11 = true
    ·subst c56
     have H1 : (some false) = some r := by rw [if_pos rfl] at H; exact H
     clear H
     have H := H1
     clear H1
     obtain rfl := Option.some.inj H
     go_wp2
     go_ret
     exact ⟨by first | rfl | (simp [errW_none, errW_some] <;> rfl) | (simp [*, errW_none, errW_some] <;> rfl), by repeat (first | (with_reducible first | exact HB.out | apply below_alloc | apply pw_below_drewN | apply below_drew1 | refine below_set ?_ GE247.out | refine below_set ?_ GE256.out | refine below_set ?_ GE260.out | refine below_set ?_ GE265.out) | exact HB.out)⟩
    ·replace c56 := Bool.eq_false_iff.mpr c56
     subst c56
     have H1 : ((laws_toTree.f kj11 l0_0).bind fun t267 => ((laws_eqTree.f kj11 t257 t267).bind fun t270 => (if t270 = true then ((laws_markTree.f kj11 t257 1).bind fun bt271 => (if bt271.1 < 0 then (laws_FnExactTreeDelete.j1 kj11 a1 t255 true l0_0 t252 t261) else ((laws_eqTree.f kj11 t261 t252).bind fun t273 => (if t273 = true then (laws_FnExactTreeDelete.j1 kj11 a1 t255 (t264 != t255) l0_0 t252 t261) else (laws_FnExactTreeDelete.j1 kj11 a1 t255 true l0_0 t252 t261))))) else (some false)))) = some r := by rw [if_neg (show ¬ (false = true) by decide)] at H; exact H
     clear H
     have H := H1
     clear H1
     replace H := Option.bind_eq_some_iff.mp H
     obtain ⟨t267, A570, H⟩ := H
     replace H : ((laws_eqTree.f kj11 t257 t267).bind fun t270 => (if t270 = true then ((laws_markTree.f kj11 t257 1).bind fun bt271 => (if bt271.1 < 0 then (laws_FnExactTreeDelete.j1 kj11 a1 t255 true l0_0 t252 t261) else ((laws_eqTree.f kj11 t261 t252).bind fun t273 => (if t273 = true then (laws_FnExactTreeDelete.j1 kj11 a1 t255 (t264 != t255) l0_0 t252 t261) else (laws_FnExactTreeDelete.j1 kj11 a1 t255 true l0_0 t252 t261))))) else (some false))) = some r := H
     have A57 := Aside0.mk A570
     clear A570
     replace H := Option.bind_eq_some_iff.mp H
     obtain ⟨t270, A580, H⟩ := H
     replace H : (if t270 = true then ((laws_markTree.f kj11 t257 1).bind fun bt271 => (if bt271.1 < 0 then (laws_FnExactTreeDelete.j1 kj11 a1 t255 true l0_0 t252 t261) else ((laws_eqTree.f kj11 t261 t252).bind fun t273 => (if t273 = true then (laws_FnExactTreeDelete.j1 kj11 a1 t255 (t264 != t255) l0_0 t252 t261) else (laws_FnExactTreeDelete.j1 kj11 a1 t255 true l0_0 t252 t261))))) else (some false)) = some r := H
     have A58 := Aside0.mk A580
     clear A580
     by_cases c59 : t270 = true
     ·subst c59
      have H1 : ((laws_markTree.f kj11 t257 1).bind fun bt271 => (if bt271.1 < 0 then (laws_FnExactTreeDelete.j1 kj11 a1 t255 true l0_0 t252 t261) else ((laws_eqTree.f kj11 t261 t252).bind fun t273 => (if t273 = true then (laws_FnExactTreeDelete.j1 kj11 a1 t255 (t264 != t255) l0_0 t252 t261) else (laws_FnExactTreeDelete.j1 kj11 a1 t255 true l0_0 t252 t261))))) = some r := by rw [if_pos rfl] at H; exact H
      clear H
      have H := H1
      clear H1
      replace H := Option.bind_eq_some_iff.mp H
      obtain ⟨⟨t271, t272⟩, A600, H⟩ := H
      replace H : (if t271 < 0 then (laws_FnExactTreeDelete.j1 kj11 a1 t255 true l0_0 t252 t261) else ((laws_eqTree.f kj11 t261 t252).bind fun t273 => (if t273 = true then (laws_FnExactTreeDelete.j1 kj11 a1 t255 (t264 != t255) l0_0 t252 t261) else (laws_FnExactTreeDelete.j1 kj11 a1 t255 true l0_0 t252 t261)))) = some r := H
      have A60 := Aside0.mk A600
      clear A600
      have HC61 := Aside0.mk H
      clear H
      try go_wp2
      have n0_ := Aside0.mk (Kd.R_drew HO_257000.out)
      have n1_ := Aside0.mk (Kd.R_drew HO_261000.out)
      have n2_ := Aside0.mk (Kd.R_drew HO_266000.out)
      have n3_ := Aside0.mk (blk_drew BK247.out)
      have n4_ := Aside0.mk (blk_drew BK256.out)
      have n5_ := Aside0.mk (blk_drew BK260.out)
      have n6_ := Aside0.mk (blk_drew BK265.out)
      have n7_ := Aside0.mk (below_drew1 HB.out)
      clear HO_257000 HO_261000 HO_266000 BK247 BK256 BK260 BK265 HB
      have HO_257000 := n0_
      have HO_261000 := n1_
      have HO_266000 := n2_
      have BK247 := n3_
      have BK256 := n4_
      have BK260 := n5_
      have BK265 := n6_
      have HB := n7_
      clear n0_ n1_ n2_ n3_ n4_ n5_ n6_ n7_
      refine start_ (n := 5) (S := fun w' => w'.cell? ⟨gb260, 0, none⟩ = some (.slice Ao27 t257.length co27) ∧ w'.cell? ⟨gb247, 0, none⟩ = some (.slice A0_0 l0_0.length c0_0)) (ds := []) #[false, false, false, false, false] (by kernel_rfl) rfl rfl ⟨(blk_cell BK260.out 0).trans rfl, (blk_cell BK247.out 0).trans rfl⟩ (fun hHeld => ?_)
      generalize wc.drew = w62 at HO_257000 HO_261000 HO_266000 BK247 BK256 BK260 BK265 HB hHeld ⊢
      refine take_ (i := 0) (N := some 45) (v := ?_) (a' := ?_) #[true, false, false, false, false] rfl rfl (by kernel_rfl) (fun _ _ _ h => h) (Or.inl ⟨by rfl, ?_⟩) hHeld ?_ ?_
      rotate_left
      ·rintro w' ⟨s0, s1⟩
       go_simp
       with_reducible rfl
      rotate_left
      ·simp only [Act.put, List.setIfInBounds_toArray, List.set_cons_zero, List.set_cons_succ, i64_w, i32_w]
       rfl
      refine take_ (i := 1) (N := some 46) (v := ?_) (a' := ?_) #[true, true, false, false, false] rfl rfl (by kernel_rfl) (fun _ _ _ h => h) (Or.inl ⟨by rfl, ?_⟩) hHeld ?_ ?_
      rotate_left
      ·rintro w' ⟨s0, s1⟩
       go_simp
       with_reducible rfl
      rotate_left
      ·simp only [Act.put, List.setIfInBounds_toArray, List.set_cons_zero, List.set_cons_succ, i64_w, i32_w]
       rfl
      refine one_ (i := 2) (N := some 47) #[true, true, true, false, false] rfl rfl (by kernel_rfl) (by decide) (fun K hK => ?_)
      refine goes_ Tryd.func17 (by kernel_rfl) rfl #[.agg #[.slice A0_0 l0_0.length c0_0]] (by rfl) rfl rfl (by (try simp only [List.map_toArray, List.map_cons, List.map_nil]); first | done | rfl | (simp only [List.length_drop, List.length_take]; rfl)) ?_
      with_reducible refine (laws_toTree.calls kj11 _ _ l0_0 t267 _ ?side1 ?side2 A57.out).mono ?_
      (case side1 => repeat (first | exact (Kd.C_below HR0_0.out HB.out) | (with_reducible refine Kd.C_alloc ?_ _) | (with_reducible refine Kd.C_drewN ?_ _) | (with_reducible refine Kd.C_drew ?_)))
      (case side2 => exact HC0_0.out)
      rintro e w63 ⟨v268, rfl, ho0, hb⟩
      refine ⟨_, rfl, ?_⟩
      have n0_ := Aside0.mk (Kd.R_elder' (rD HO_257000.out) (Kd.R_base ho0) hb)
      have n1_ := Aside0.mk (Kd.R_elder' (rD HO_261000.out) (Kd.R_base ho0) hb)
      have n2_ := Aside0.mk (Kd.R_elder' (rD HO_266000.out) (Kd.R_base ho0) hb)
      have n3_ := Aside0.mk (Kd.R_lower (Kd.R_new' (Kd.R_new' (Kd.R_new' ho0 (Kd.R_lt (rD HO_257000.out))) (Kd.R_lt (rD HO_261000.out))) (Kd.R_lt (rD HO_266000.out))) (below_size (hbD HB)))
      have n4_ := Aside0.mk (blk_below (bkD BK247) hb)
      have n5_ := Aside0.mk (blk_below (bkD BK256) hb)
      have n6_ := Aside0.mk (blk_below (bkD BK260) hb)
      have n7_ := Aside0.mk (blk_below (bkD BK265) hb)
      have n8_ := Aside0.mk (below_step (hbD HB) hb)
      clear HO_257000 HO_261000 HO_266000 BK247 BK256 BK260 BK265 HB
      have HO_257000 := n0_
      have HO_261000 := n1_
      have HO_266000 := n2_
      have HO269 := n3_
      have BK247 := n4_
      have BK256 := n5_
      have BK260 := n6_
      have BK265 := n7_
      have HB := n8_
      clear n0_ n1_ n2_ n3_ n4_ n5_ n6_ n7_ n8_
      (try clear hb)
      (try clear hb2)
      (try clear hk)
      (try clear hi)
      (try clear ho0)
      obtain ⟨Ao64, co64, eo64⟩ := Kd.R_slice HO269.out
      (first | subst eo64 | (injection eo64 with f1_ f2_ f3_; have f4_ := f1_.symm; have f5_ := f3_.symm; clear f1_ f2_ f3_; subst f4_; subst f5_))
      refine hK.out _ _ ⟨(blk_cell BK260.out 0).trans rfl, (blk_cell BK247.out 0).trans rfl⟩ (fun hHeld => ?_)
      clear hK K
      refine norm_ (a' := ?_) ?_ ?_
      rotate_left
      ·show Act.put _ (some 47) _ = _
       simp only [Act.put, List.setIfInBounds_toArray, List.set_cons_zero, List.set_cons_succ, i64_w, i32_w]
       rfl
      refine one_ (i := 3) (N := some 48) #[true, true, true, true, false] rfl rfl (by kernel_rfl) (by decide) (fun K hK => ?_)
      refine goes_ Tryd.func19 (by kernel_rfl) rfl #[.agg #[.slice Ao27 t257.length co27], .agg #[.slice Ao64 t267.length co64]] (by rfl) rfl rfl (by (try simp only [List.map_toArray, List.map_cons, List.map_nil]); first | done | rfl | (simp only [List.length_drop, List.length_take]; rfl)) ?_
      with_reducible refine (laws_eqTree.calls kj11 _ _ t257 _ _ t267 true _ ?side1 ?side2 ?side3 ?side4 A58.out).mono ?_
      (case side1 => repeat (first | exact (Kd.R_reads' HO_261000.out).2.2 | (with_reducible refine Kd.C_alloc ?_ _) | (with_reducible refine Kd.C_drewN ?_ _) | (with_reducible refine Kd.C_drew ?_)))
      (case side2 => exact (Kd.R_reads' HO_261000.out).2.1)
      (case side3 => repeat (first | exact (Kd.R_reads' HO269.out).2.2 | (with_reducible refine Kd.C_alloc ?_ _) | (with_reducible refine Kd.C_drewN ?_ _) | (with_reducible refine Kd.C_drew ?_)))
      (case side4 => exact (Kd.R_reads' HO269.out).2.1)
      rintro e w65 ⟨rfl, hb⟩
      refine ⟨_, rfl, ?_⟩
      have n0_ := Aside0.mk (Kd.R_below (rD HO_257000.out) hb)
      have n1_ := Aside0.mk (Kd.R_below (rD HO_261000.out) hb)
      have n2_ := Aside0.mk (Kd.R_below (rD HO_266000.out) hb)
      have n3_ := Aside0.mk (Kd.R_below (rD HO269.out) hb)
      have n4_ := Aside0.mk (blk_below (bkD BK247) hb)
      have n5_ := Aside0.mk (blk_below (bkD BK256) hb)
      have n6_ := Aside0.mk (blk_below (bkD BK260) hb)
      have n7_ := Aside0.mk (blk_below (bkD BK265) hb)
      have n8_ := Aside0.mk (below_step (hbD HB) hb)
      clear HO_257000 HO_261000 HO_266000 HO269 BK247 BK256 BK260 BK265 HB
      have HO_257000 := n0_
      have HO_261000 := n1_
      have HO_266000 := n2_
      have HO269 := n3_
      have BK247 := n4_
      have BK256 := n5_
      have BK260 := n6_
      have BK265 := n7_
      have HB := n8_
      clear n0_ n1_ n2_ n3_ n4_ n5_ n6_ n7_ n8_
      (try clear hb)
      (try clear hb2)
      (try clear hk)
      (try clear hi)
      refine hK.out _ _ ⟨(blk_cell BK260.out 0).trans rfl, (blk_cell BK247.out 0).trans rfl⟩ (fun hHeld => ?_)
      clear hK K
      refine norm_ (a' := ?_) ?_ ?_
      rotate_left
      ·show Act.put _ (some 48) _ = _
       simp only [Act.put, List.setIfInBounds_toArray, List.set_cons_zero, List.set_cons_succ, i64_w, i32_w]
       rfl
      refine pure_ (i := 4) (N := some 49) (v := ?_) (a' := ?_) #[true, true, true, true, true] rfl rfl (by kernel_rfl) (fun _ _ _ h => h) (Or.inl ⟨by rfl, ?_⟩) ?_ ?_
      rotate_left
      ·intro w'
       go_simp
       with_reducible rfl
      rotate_left
      ·simp only [Act.put, List.setIfInBounds_toArray, List.set_cons_zero, List.set_cons_succ, i64_w, i32_w]
       rfl
      refine done_ (by kernel_rfl) ?_
      have hnb66 := NB260_247.out
      have hnc66 := NB247_260.out
      have hnb67 := NB260_256.out
      have hnc67 := NB256_260.out
      have hnb68 := NB260_265.out
      have hnc68 := NB265_260.out
      have hcz69_0 : w65.cell? ⟨gb260, 0, none⟩ = some (.slice Ao27 t257.length co27) := (blk_cell BK260.out 0).trans rfl
      have hfz69_0 := blk_frozen BK260.out 0
      go_upto_region 14 with (first | ((with_reducible refine gate_callee (f := 50) rfl ?_); refine goesL_ (some 52) rfl rfl Tryd.func50 (by kernel_rfl) rfl #[.agg #[.slice Ao27 t257.length co27], .int .i64 1] rfl (by (try simp only [List.map_toArray, List.map_cons, List.map_nil]); first | done | rfl | (simp only [List.length_drop, List.length_take]; rfl)) ?_; (with_reducible refine (laws_markTree.calls kj11 (fun k_ => some k_ = (.slice Ao27 t257.length co27 : Value).ownBlock) (.slice Ao27 t257.length co27) t257 1 t271 t272 w _ ?side1 ?side2 A60.out).mono ?_); (case side1 => repeat (first | (with_reducible first | exact HB.out | apply below_alloc | apply pw_below_drewN | apply below_drew1 | refine below_set ?_ GE247.out | refine below_set ?_ GE256.out | refine below_set ?_ GE260.out | refine below_set ?_ GE265.out) | exact HB.out)); (case side2 => exact Kd.R_tight rfl HO_261000.out); rintro e w70 ⟨rfl, hy0, hb, hkp⟩; refine ⟨_, rfl, ?_⟩; have n0_ := Aside0.mk (Kd.R_mono (ok' := fun k_ => some k_ ≠ (.slice Ao27 t257.length co27 : Value).ownBlock ∧ some k_ ≠ (.slice Ao33 t261.length co33 : Value).ownBlock ∧ some k_ ≠ (.slice Ao64 t267.length co64 : Value).ownBlock) (Kd.R_keptB (HO_257000.out) hkp (fun k_ hk_ hs_ => (hk_.1.1) hs_)) (fun k_ hk_ => ⟨hk_.1.1.1, hk_.1.1.2, hk_.1.2⟩)); have n1_ := Aside0.mk (Kd.R_reok rfl hy0 (fun k_ e_ => HO_261000.out.1 k_ e_)); have n2_ := Aside0.mk (Kd.R_mono (ok' := fun k_ => some k_ ≠ (.slice Ao21 t252.length co21 : Value).ownBlock ∧ some k_ ≠ (.slice Ao27 t257.length co27 : Value).ownBlock ∧ some k_ ≠ (.slice Ao64 t267.length co64 : Value).ownBlock) (Kd.R_keptB (HO_266000.out) hkp (fun k_ hk_ hs_ => (hk_.1.2) hs_)) (fun k_ hk_ => ⟨hk_.1.1.1, hk_.1.1.2, hk_.1.2⟩)); have n3_ := Aside0.mk (blk_kept (bkD BK247) hkp (fun hs_ => (fun e_ => (Kd.R_ne HO_261000.out BK247.out (by decide)) e_) hs_)); have n4_ := Aside0.mk (blk_kept (bkD BK256) hkp (fun hs_ => (fun e_ => (Kd.R_ne HO_261000.out BK256.out (by decide)) e_) hs_)); have n5_ := Aside0.mk (blk_kept (bkD BK260) hkp (fun hs_ => (fun e_ => (Kd.R_ne HO_261000.out BK260.out (by decide)) e_) hs_)); have n6_ := Aside0.mk (blk_kept (bkD BK265) hkp (fun hs_ => (fun e_ => (Kd.R_ne HO_261000.out BK265.out (by decide)) e_) hs_)); have n7_ := Aside0.mk (Kd.R_mono (ok' := fun k_ => some k_ ≠ (.slice Ao21 t252.length co21 : Value).ownBlock ∧ some k_ ≠ (.slice Ao27 t257.length co27 : Value).ownBlock ∧ some k_ ≠ (.slice Ao33 t261.length co33 : Value).ownBlock) (Kd.R_keptB (HO269.out) hkp (fun k_ hk_ hs_ => (hk_.1.2) hs_)) (fun k_ hk_ => ⟨hk_.1.1.1.2, hk_.1.1.2, hk_.1.2⟩)); have n8_ := Aside0.mk (hb); clear HO_257000 HO_261000 HO_266000 BK247 BK256 BK260 BK265 HO269 HB; have HO_257000 := n0_; have HO_261000 := n1_; have HO_266000 := n2_; have BK247 := n3_; have BK256 := n4_; have BK260 := n5_; have BK265 := n6_; have HO269 := n7_; have HB := n8_; clear n0_ n1_ n2_ n3_ n4_ n5_ n6_ n7_ n8_; (try clear hb); (try clear hkp); (try clear hy0)))
      (try simp only [Act.put, List.setIfInBounds_toArray, List.set_cons_zero, List.set_cons_succ])
      go_cut [65] (fun v65 wc => ∃ (kq : Nat) (x65_60 : Bool), v65 = .bool x65_60 ∧ Aside0 (laws_FnExactTreeDelete.j1 kq a1 t255 x65_60 l0_0 t252 t261 = some r) ∧ Aside0 (kq ≤ kj11) ∧ Aside0 (Kd.R k54 54 wc w.heap.size (fun k_ => some k_ ≠ ((.slice Ao27 t257.length co27) : Value).ownBlock ∧ some k_ ≠ ((.slice Ao33 t261.length co33) : Value).ownBlock) (.slice Ao21 t252.length co21) t252) ∧ Aside0 (Kd.R k54 54 wc w.heap.size (fun k_ => some k_ ≠ ((.slice Ao21 t252.length co21) : Value).ownBlock ∧ some k_ ≠ ((.slice Ao33 t261.length co33) : Value).ownBlock) (.slice Ao27 t257.length co27) t272) ∧ Aside0 (Kd.R k54 54 wc w.heap.size (fun k_ => some k_ ≠ ((.slice Ao21 t252.length co21) : Value).ownBlock ∧ some k_ ≠ ((.slice Ao27 t257.length co27) : Value).ownBlock) (.slice Ao33 t261.length co33) t261) ∧ Aside0 (wc.heap[gb247]? = some (.cells #[(.slice A0_0 l0_0.length c0_0)] 24 (0, 0))) ∧ Aside0 (wc.heap[gb256]? = some (.cells #[(.slice Ao21 t252.length co21)] 30 (0, 0))) ∧ Aside0 (wc.heap[gb260]? = some (.cells #[(.slice Ao27 t257.length co27)] 30 (0, 0))) ∧ Aside0 (wc.heap[gb265]? = some (.cells #[(.slice Ao33 t261.length co33)] 30 (0, 0))) ∧ Aside0 (Below w.heap.size w wc))
      case first =>
       have H := HC61.out
       clear HC61
       by_cases c71 : t271 < 0
       ·rw [if_pos c71] at H
        have c71b0 : decide (t271 < 0) = true := decide_eq_true c71
        clear c71
        (first | rw [c71b0] | (simp only [i64_w, i32_w]; rw [c71b0]) | skip)
        have H' := Aside0.mk H
        clear H
        go_wp2
        go_meet
        case rel => exact ⟨_, (true), (by first | rfl | (simp; done) | (simp [*]; done)), H', ⟨by have := HJ11.out; first | omega | exact Nat.le_refl _⟩, ⟨by (with_reducible repeat (first | apply Kd.R_alloc | apply Kd.R_drewN | apply Kd.R_drew)); exact Kd.R_mono HO_257000.out (fun _ hk => ⟨hk.1, hk.2.1⟩)⟩, ⟨by (with_reducible repeat (first | apply Kd.R_alloc | apply Kd.R_drewN | apply Kd.R_drew)); exact Kd.R_mono HO_261000.out (fun _ hk => ⟨hk.1.1, hk.1.2⟩)⟩, ⟨by (with_reducible repeat (first | apply Kd.R_alloc | apply Kd.R_drewN | apply Kd.R_drew)); exact Kd.R_mono HO_266000.out (fun _ hk => ⟨hk.1, hk.2.1⟩)⟩, ⟨by (with_reducible repeat (first | refine blk_drewN ?_ _ | refine blk_drew ?_ | refine blk_alloc ?_ _)); exact BK247.out⟩, ⟨by (with_reducible repeat (first | refine blk_drewN ?_ _ | refine blk_drew ?_ | refine blk_alloc ?_ _)); exact BK256.out⟩, ⟨by (with_reducible repeat (first | refine blk_drewN ?_ _ | refine blk_drew ?_ | refine blk_alloc ?_ _)); exact BK260.out⟩, ⟨by (with_reducible repeat (first | refine blk_drewN ?_ _ | refine blk_drew ?_ | refine blk_alloc ?_ _)); exact BK265.out⟩, ⟨by repeat (first | (with_reducible first | exact HB.out | apply below_alloc | apply pw_below_drewN | apply below_drew1 | refine below_set ?_ GE247.out | refine below_set ?_ GE256.out | refine below_set ?_ GE260.out | refine below_set ?_ GE265.out) | exact HB.out)⟩⟩
       ·rw [if_neg c71] at H
        have c71b0 : decide (t271 < 0) = false := decide_eq_false c71
        clear c71
        (first | rw [c71b0] | (simp only [i64_w, i32_w]; rw [c71b0]) | skip)
        replace H := Option.bind_eq_some_iff.mp H
        obtain ⟨t273, A720, H⟩ := H
        replace H : (if t273 = true then (laws_FnExactTreeDelete.j1 kj11 a1 t255 (t264 != t255) l0_0 t252 t261) else (laws_FnExactTreeDelete.j1 kj11 a1 t255 true l0_0 t252 t261)) = some r := H
        have A72 := Aside0.mk A720
        clear A720
        by_cases c73 : t273 = true
        ·subst c73
         have H1 : (laws_FnExactTreeDelete.j1 kj11 a1 t255 (t264 != t255) l0_0 t252 t261) = some r := by rw [if_pos rfl] at H; exact H
         clear H
         have H := H1
         clear H1
         have H' := Aside0.mk H
         clear H
         have hnb74 := NB265_247.out
         have hnc74 := NB247_265.out
         have hnb75 := NB265_256.out
         have hnc75 := NB256_265.out
         have hnb76 := NB265_260.out
         have hnc76 := NB260_265.out
         have hcz77_0 : w70.cell? ⟨gb265, 0, none⟩ = some (.slice Ao33 t261.length co33) := (blk_cell BK265.out 0).trans rfl
         have hfz77_0 := blk_frozen BK265.out 0
         have hnb78 := NB256_247.out
         have hnc78 := NB247_256.out
         have hnb79 := NB256_260.out
         have hnc79 := NB260_256.out
         have hcz80_0 : w70.cell? ⟨gb256, 0, none⟩ = some (.slice Ao21 t252.length co21) := (blk_cell BK256.out 0).trans rfl
         have hfz80_0 := blk_frozen BK256.out 0
         go_wp2_with (first | (go_at_call 19; (with_reducible refine (laws_eqTree.calls kj11 _ _ t261 _ _ t252 true _ ?side1 ?side2 ?side3 ?side4 A72.out).mono ?_); (case side1 => repeat (first | exact (Kd.R_reads' HO_266000.out).2.2 | (with_reducible refine Kd.C_alloc ?_ _) | (with_reducible refine Kd.C_drewN ?_ _) | (with_reducible refine Kd.C_drew ?_))); (case side2 => exact (Kd.R_reads' HO_266000.out).2.1); (case side3 => repeat (first | exact (Kd.R_reads' HO_257000.out).2.2 | (with_reducible refine Kd.C_alloc ?_ _) | (with_reducible refine Kd.C_drewN ?_ _) | (with_reducible refine Kd.C_drew ?_))); (case side4 => exact (Kd.R_reads' HO_257000.out).2.1); rintro e w81 ⟨rfl, hb⟩; have n0_ := Aside0.mk (Kd.R_below (rD HO_257000.out) hb); have n1_ := Aside0.mk (Kd.R_below (rD HO_261000.out) hb); have n2_ := Aside0.mk (Kd.R_below (rD HO_266000.out) hb); have n3_ := Aside0.mk (Kd.R_below (rD HO269.out) hb); have n4_ := Aside0.mk (blk_below (bkD BK247) hb); have n5_ := Aside0.mk (blk_below (bkD BK256) hb); have n6_ := Aside0.mk (blk_below (bkD BK260) hb); have n7_ := Aside0.mk (blk_below (bkD BK265) hb); have n8_ := Aside0.mk (below_step (hbD HB) hb); clear HO_257000 HO_261000 HO_266000 HO269 BK247 BK256 BK260 BK265 HB; have HO_257000 := n0_; have HO_261000 := n1_; have HO_266000 := n2_; have HO269 := n3_; have BK247 := n4_; have BK256 := n5_; have BK260 := n6_; have BK265 := n7_; have HB := n8_; clear n0_ n1_ n2_ n3_ n4_ n5_ n6_ n7_ n8_; (try clear hb); (try clear hb2); (try clear hk); (try clear hi)))
         go_meet
         case rel => exact ⟨_, ((t264 != t255)), (by first | rfl | (simp; done) | (simp [*]; done)), H', ⟨by have := HJ11.out; first | omega | exact Nat.le_refl _⟩, ⟨by (with_reducible repeat (first | apply Kd.R_alloc | apply Kd.R_drewN | apply Kd.R_drew)); exact Kd.R_mono HO_257000.out (fun _ hk => ⟨hk.1, hk.2.1⟩)⟩, ⟨by (with_reducible repeat (first | apply Kd.R_alloc | apply Kd.R_drewN | apply Kd.R_drew)); exact Kd.R_mono HO_261000.out (fun _ hk => ⟨hk.1.1, hk.1.2⟩)⟩, ⟨by (with_reducible repeat (first | apply Kd.R_alloc | apply Kd.R_drewN | apply Kd.R_drew)); exact Kd.R_mono HO_266000.out (fun _ hk => ⟨hk.1, hk.2.1⟩)⟩, ⟨by (with_reducible repeat (first | refine blk_drewN ?_ _ | refine blk_drew ?_ | refine blk_alloc ?_ _)); exact BK247.out⟩, ⟨by (with_reducible repeat (first | refine blk_drewN ?_ _ | refine blk_drew ?_ | refine blk_alloc ?_ _)); exact BK256.out⟩, ⟨by (with_reducible repeat (first | refine blk_drewN ?_ _ | refine blk_drew ?_ | refine blk_alloc ?_ _)); exact BK260.out⟩, ⟨by (with_reducible repeat (first | refine blk_drewN ?_ _ | refine blk_drew ?_ | refine blk_alloc ?_ _)); exact BK265.out⟩, ⟨by repeat (first | (with_reducible first | exact HB.out | apply below_alloc | apply pw_below_drewN | apply below_drew1 | refine below_set ?_ GE247.out | refine below_set ?_ GE256.out | refine below_set ?_ GE260.out | refine below_set ?_ GE265.out) | exact HB.out)⟩⟩
        ·replace c73 := Bool.eq_false_iff.mpr c73
         subst c73
         have H1 : (laws_FnExactTreeDelete.j1 kj11 a1 t255 true l0_0 t252 t261) = some r := by rw [if_neg (show ¬ (false = true) by decide)] at H; exact H
         clear H
         have H := H1
         clear H1
         have H' := Aside0.mk H
         clear H
         have hnb82 := NB265_247.out
         have hnc82 := NB247_265.out
         have hnb83 := NB265_256.out
         have hnc83 := NB256_265.out
         have hnb84 := NB265_260.out
         have hnc84 := NB260_265.out
         have hcz85_0 : w70.cell? ⟨gb265, 0, none⟩ = some (.slice Ao33 t261.length co33) := (blk_cell BK265.out 0).trans rfl
         have hfz85_0 := blk_frozen BK265.out 0
         have hnb86 := NB256_247.out
         have hnc86 := NB247_256.out
         have hnb87 := NB256_260.out
         have hnc87 := NB260_256.out
         have hcz88_0 : w70.cell? ⟨gb256, 0, none⟩ = some (.slice Ao21 t252.length co21) := (blk_cell BK256.out 0).trans rfl
         have hfz88_0 := blk_frozen BK256.out 0
         go_wp2_with (first | (go_at_call 19; (with_reducible refine (laws_eqTree.calls kj11 _ _ t261 _ _ t252 false _ ?side1 ?side2 ?side3 ?side4 A72.out).mono ?_); (case side1 => repeat (first | exact (Kd.R_reads' HO_266000.out).2.2 | (with_reducible refine Kd.C_alloc ?_ _) | (with_reducible refine Kd.C_drewN ?_ _) | (with_reducible refine Kd.C_drew ?_))); (case side2 => exact (Kd.R_reads' HO_266000.out).2.1); (case side3 => repeat (first | exact (Kd.R_reads' HO_257000.out).2.2 | (with_reducible refine Kd.C_alloc ?_ _) | (with_reducible refine Kd.C_drewN ?_ _) | (with_reducible refine Kd.C_drew ?_))); (case side4 => exact (Kd.R_reads' HO_257000.out).2.1); rintro e w89 ⟨rfl, hb⟩; have n0_ := Aside0.mk (Kd.R_below (rD HO_257000.out) hb); have n1_ := Aside0.mk (Kd.R_below (rD HO_261000.out) hb); have n2_ := Aside0.mk (Kd.R_below (rD HO_266000.out) hb); have n3_ := Aside0.mk (Kd.R_below (rD HO269.out) hb); have n4_ := Aside0.mk (blk_below (bkD BK247) hb); have n5_ := Aside0.mk (blk_below (bkD BK256) hb); have n6_ := Aside0.mk (blk_below (bkD BK260) hb); have n7_ := Aside0.mk (blk_below (bkD BK265) hb); have n8_ := Aside0.mk (below_step (hbD HB) hb); clear HO_257000 HO_261000 HO_266000 HO269 BK247 BK256 BK260 BK265 HB; have HO_257000 := n0_; have HO_261000 := n1_; have HO_266000 := n2_; have HO269 := n3_; have BK247 := n4_; have BK256 := n5_; have BK260 := n6_; have BK265 := n7_; have HB := n8_; clear n0_ n1_ n2_ n3_ n4_ n5_ n6_ n7_ n8_; (try clear hb); (try clear hb2); (try clear hk); (try clear hi)))
         go_meet
         case rel => exact ⟨_, (true), (by first | rfl | (simp; done) | (simp [*]; done)), H', ⟨by have := HJ11.out; first | omega | exact Nat.le_refl _⟩, ⟨by (with_reducible repeat (first | apply Kd.R_alloc | apply Kd.R_drewN | apply Kd.R_drew)); exact Kd.R_mono HO_257000.out (fun _ hk => ⟨hk.1, hk.2.1⟩)⟩, ⟨by (with_reducible repeat (first | apply Kd.R_alloc | apply Kd.R_drewN | apply Kd.R_drew)); exact Kd.R_mono HO_261000.out (fun _ hk => ⟨hk.1.1, hk.1.2⟩)⟩, ⟨by (with_reducible repeat (first | apply Kd.R_alloc | apply Kd.R_drewN | apply Kd.R_drew)); exact Kd.R_mono HO_266000.out (fun _ hk => ⟨hk.1, hk.2.1⟩)⟩, ⟨by (with_reducible repeat (first | refine blk_drewN ?_ _ | refine blk_drew ?_ | refine blk_alloc ?_ _)); exact BK247.out⟩, ⟨by (with_reducible repeat (first | refine blk_drewN ?_ _ | refine blk_drew ?_ | refine blk_alloc ?_ _)); exact BK256.out⟩, ⟨by (with_reducible repeat (first | refine blk_drewN ?_ _ | refine blk_drew ?_ | refine blk_alloc ?_ _)); exact BK260.out⟩, ⟨by (with_reducible repeat (first | refine blk_drewN ?_ _ | refine blk_drew ?_ | refine blk_alloc ?_ _)); exact BK265.out⟩, ⟨by repeat (first | (with_reducible first | exact HB.out | apply below_alloc | apply pw_below_drewN | apply below_drew1 | refine below_set ?_ GE247.out | refine below_set ?_ GE256.out | refine below_set ?_ GE260.out | refine below_set ?_ GE265.out) | exact HB.out)⟩⟩
      case rest =>
       clear HC61
       try clear c1
       try clear c2
       try clear p2
       try clear c3
       try clear c4
       try clear c4b0
       try clear c5
       try clear c6
       try clear c7
       try clear c8
       try clear c12
       try clear c15
       try clear c17
       try clear c19
       try clear c22
       try clear c28
       try clear c29
       try clear c33
       try clear c34
       try clear c35
       try clear c36
       try clear c39
       try clear c40
       try clear c41
       try clear c42
       try clear c44
       try clear c45
       try clear c48
       try clear c49
       try clear c50
       try clear c52
       try clear c53
       try clear c56
       try clear c59
       try clear c66
       try clear c67
       try clear c68
       try clear c71
       try clear c71b0
       try clear c73
       try clear c74
       try clear c75
       try clear c76
       try clear c78
       try clear c79
       try clear c82
       try clear c83
       try clear c84
       try clear c86
       try clear c87
       try clear hcz14_0
       try clear hcz16_0
       try clear hcz23_0
       try clear hcz24_0
       try clear hcz30_0
       try clear hcz37_0
       try clear hcz43_0
       try clear hcz46_0
       try clear hcz51_0
       try clear hcz54_0
       try clear hcz69_0
       try clear hcz6_0
       try clear hcz77_0
       try clear hcz80_0
       try clear hcz85_0
       try clear hcz88_0
       try clear hfz14_0
       try clear hfz16_0
       try clear hfz23_0
       try clear hfz24_0
       try clear hfz30_0
       try clear hfz37_0
       try clear hfz43_0
       try clear hfz46_0
       try clear hfz51_0
       try clear hfz54_0
       try clear hfz69_0
       try clear hfz6_0
       try clear hfz77_0
       try clear hfz80_0
       try clear hfz85_0
       try clear hfz88_0
       try clear p2
       obtain ⟨kq, x65_60, rfl, HA, HJ60, HO_257000, HO_261000, HO_266000, BK247, BK256, BK260, BK265, HB⟩ := hcut
       have hl261000_60 := (Kd.R_reads' HO_261000.out).1
       rw [hl261000_60] at HO_261000
       (try simp only [hl261000_60])
       (try simp only [hl261000_60] at BK247)
       (try simp only [hl261000_60] at BK256)
       (try simp only [hl261000_60] at BK260)
       (try simp only [hl261000_60] at BK265)
       (try simp only [hl261000_60] at HO_257000)
       (try simp only [hl261000_60] at HO_266000)
       cases kq with
       | zero => exact absurd HA.out (by simp [laws_FnExactTreeDelete.j1])
       | succ kj60 =>
        have H := HA.out
        clear HA
        simp only [laws_FnExactTreeDelete.j1] at H
        by_cases c90 : x65_60 = true
        ·subst c90
         have H1 : (some false) = some r := by rw [if_pos rfl] at H; exact H
         clear H
         have H := H1
         clear H1
         obtain rfl := Option.some.inj H
         go_wp2
         go_ret
         exact ⟨by first | rfl | (simp [errW_none, errW_some] <;> rfl) | (simp [*, errW_none, errW_some] <;> rfl), by repeat (first | (with_reducible first | exact HB.out | apply below_alloc | apply pw_below_drewN | apply below_drew1 | refine below_set ?_ GE247.out | refine below_set ?_ GE256.out | refine below_set ?_ GE260.out | refine below_set ?_ GE265.out) | exact HB.out)⟩
        ·replace c90 := Bool.eq_false_iff.mpr c90
         subst c90
         have H1 : ((laws_markTree.f kj60 t261 1).bind fun bt274 => ((laws_heldTree.f kj60 bt274.2 1).bind fun t276 => (if t276 < 0 then (some false) else (if t276 = bt274.1 then ((laws_toTree.f kj60 l0_0).bind fun t277 => ((impl_TreeDelete.f t277 a1).bind fun bt280 => ((laws_eqTree.f kj60 bt280.1 t252).bind fun t285 => (if t285 = true then (laws_FnExactTreeDelete.j2 kj60 bt274.1 (bt280.2 != t255) bt274.2) else (laws_FnExactTreeDelete.j2 kj60 bt274.1 true bt274.2))))) else (some false))))) = some r := by rw [if_neg (show ¬ (false = true) by decide)] at H; exact H
         clear H
         have H := H1
         clear H1
         replace H := Option.bind_eq_some_iff.mp H
         obtain ⟨⟨t274, t275⟩, A910, H⟩ := H
         replace H : ((laws_heldTree.f kj60 t275 1).bind fun t276 => (if t276 < 0 then (some false) else (if t276 = t274 then ((laws_toTree.f kj60 l0_0).bind fun t277 => ((impl_TreeDelete.f t277 a1).bind fun bt280 => ((laws_eqTree.f kj60 bt280.1 t252).bind fun t285 => (if t285 = true then (laws_FnExactTreeDelete.j2 kj60 t274 (bt280.2 != t255) t275) else (laws_FnExactTreeDelete.j2 kj60 t274 true t275))))) else (some false)))) = some r := H
         have A91 := Aside0.mk A910
         clear A910
         replace H := Option.bind_eq_some_iff.mp H
         obtain ⟨t276, A920, H⟩ := H
         replace H : (if t276 < 0 then (some false) else (if t276 = t274 then ((laws_toTree.f kj60 l0_0).bind fun t277 => ((impl_TreeDelete.f t277 a1).bind fun bt280 => ((laws_eqTree.f kj60 bt280.1 t252).bind fun t285 => (if t285 = true then (laws_FnExactTreeDelete.j2 kj60 t274 (bt280.2 != t255) t275) else (laws_FnExactTreeDelete.j2 kj60 t274 true t275))))) else (some false))) = some r := H
         have A92 := Aside0.mk A920
         clear A920
         by_cases c93 : t276 < 0
         ·rw [if_pos c93] at H
          have c93b0 : decide (t276 < 0) = true := decide_eq_true c93
          clear c93
          obtain rfl := Option.some.inj H
          have hnb94 := NB265_247.out
          have hnc94 := NB247_265.out
          have hnb95 := NB265_256.out
          have hnc95 := NB256_265.out
          have hnb96 := NB265_260.out
          have hnc96 := NB260_265.out
          have hcz97_0 : wc.cell? ⟨gb265, 0, none⟩ = some (.slice Ao33 t261.length co33) := (blk_cell BK265.out 0).trans rfl
          have hfz97_0 := blk_frozen BK265.out 0
          go_wp2_with (first | ((with_reducible refine gate_callee (f := 50) rfl ?_); refine goesL_ (some 68) rfl rfl Tryd.func50 (by kernel_rfl) rfl #[.agg #[.slice Ao33 t261.length co33], .int .i64 1] rfl (by (try simp only [List.map_toArray, List.map_cons, List.map_nil]); first | done | rfl | (simp only [List.length_drop, List.length_take]; rfl)) ?_; (with_reducible refine (laws_markTree.calls kj60 (fun k_ => some k_ = (.slice Ao33 t261.length co33 : Value).ownBlock) (.slice Ao33 t261.length co33) t261 1 t274 t275 w _ ?side1 ?side2 A91.out).mono ?_); (case side1 => repeat (first | (with_reducible first | exact HB.out | apply below_alloc | apply pw_below_drewN | apply below_drew1 | refine below_set ?_ GE247.out | refine below_set ?_ GE256.out | refine below_set ?_ GE260.out | refine below_set ?_ GE265.out) | exact HB.out)); (case side2 => exact Kd.R_tight rfl HO_266000.out); rintro e w98 ⟨rfl, hy0, hb, hkp⟩; refine ⟨_, rfl, ?_⟩; have n0_ := Aside0.mk (Kd.R_mono (ok' := fun k_ => some k_ ≠ (.slice Ao27 t272.length co27 : Value).ownBlock ∧ some k_ ≠ (.slice Ao33 t261.length co33 : Value).ownBlock) (Kd.R_keptB (HO_257000.out) hkp (fun k_ hk_ hs_ => (hk_.2) hs_)) (fun k_ hk_ => ⟨hk_.1.1, hk_.1.2⟩)); have n1_ := Aside0.mk (Kd.R_mono (ok' := fun k_ => some k_ ≠ (.slice Ao21 t252.length co21 : Value).ownBlock ∧ some k_ ≠ (.slice Ao33 t261.length co33 : Value).ownBlock) (Kd.R_keptB (HO_261000.out) hkp (fun k_ hk_ hs_ => (hk_.2) hs_)) (fun k_ hk_ => ⟨hk_.1.1, hk_.1.2⟩)); have n2_ := Aside0.mk (Kd.R_reok rfl hy0 (fun k_ e_ => HO_266000.out.1 k_ e_)); have n3_ := Aside0.mk (blk_kept (bkD BK247) hkp (fun hs_ => (fun e_ => (Kd.R_ne HO_266000.out BK247.out (by decide)) e_) hs_)); have n4_ := Aside0.mk (blk_kept (bkD BK256) hkp (fun hs_ => (fun e_ => (Kd.R_ne HO_266000.out BK256.out (by decide)) e_) hs_)); have n5_ := Aside0.mk (blk_kept (bkD BK260) hkp (fun hs_ => (fun e_ => (Kd.R_ne HO_266000.out BK260.out (by decide)) e_) hs_)); have n6_ := Aside0.mk (blk_kept (bkD BK265) hkp (fun hs_ => (fun e_ => (Kd.R_ne HO_266000.out BK265.out (by decide)) e_) hs_)); have n7_ := Aside0.mk (hb); clear HO_257000 HO_261000 HO_266000 BK247 BK256 BK260 BK265 HB; have HO_257000 := n0_; have HO_261000 := n1_; have HO_266000 := n2_; have BK247 := n3_; have BK256 := n4_; have BK260 := n5_; have BK265 := n6_; have HB := n7_; clear n0_ n1_ n2_ n3_ n4_ n5_ n6_ n7_; (try clear hb); (try clear hkp); (try clear hy0); have hcz99_0 : w98.cell? ⟨gb265, 0, none⟩ = some (.slice Ao33 t261.length co33) := (blk_cell BK265.out 0).trans rfl; have hfz99_0 := blk_frozen BK265.out 0) | ((with_reducible refine gate_callee (f := 51) rfl ?_); refine goesL_ (some 71) rfl rfl Tryd.func51 (by kernel_rfl) rfl #[.agg #[.slice Ao33 t275.length co33], .int .i64 1] rfl (by (try simp only [List.map_toArray, List.map_cons, List.map_nil]); first | done | (rw [show t275.length = t261.length from (Kd.R_reads' HO_266000.out).1.symm] <;> rfl) | rfl | (simp only [List.length_drop, List.length_take]; rfl)) ?_; (with_reducible refine (laws_heldTree.calls kj60 _ _ t275 1 t276 _ ?side1 ?side2 A92.out).mono ?_); (case side1 => repeat (first | exact (Kd.R_reads' HO_266000.out).2.2 | (with_reducible refine Kd.C_alloc ?_ _) | (with_reducible refine Kd.C_drewN ?_ _) | (with_reducible refine Kd.C_drew ?_))); (case side2 => rw [show t275.length = t261.length from (Kd.R_reads' HO_266000.out).1.symm]; exact (Kd.R_reads' HO_266000.out).2.1); rintro e w100 ⟨rfl, hb⟩; refine ⟨_, rfl, ?_⟩; have n0_ := Aside0.mk (Kd.R_below (rD HO_257000.out) hb); have n1_ := Aside0.mk (Kd.R_below (rD HO_261000.out) hb); have n2_ := Aside0.mk (Kd.R_below (rD HO_266000.out) hb); have n3_ := Aside0.mk (blk_below (bkD BK247) hb); have n4_ := Aside0.mk (blk_below (bkD BK256) hb); have n5_ := Aside0.mk (blk_below (bkD BK260) hb); have n6_ := Aside0.mk (blk_below (bkD BK265) hb); have n7_ := Aside0.mk (below_step (hbD HB) hb); clear HO_257000 HO_261000 HO_266000 BK247 BK256 BK260 BK265 HB; have HO_257000 := n0_; have HO_261000 := n1_; have HO_266000 := n2_; have BK247 := n3_; have BK256 := n4_; have BK260 := n5_; have BK265 := n6_; have HB := n7_; clear n0_ n1_ n2_ n3_ n4_ n5_ n6_ n7_; (try clear hb); (try clear hb2); (try clear hk); (try clear hi)))
          go_ret
          exact ⟨by first | rfl | (simp [errW_none, errW_some] <;> rfl) | (simp [*, errW_none, errW_some] <;> rfl), by repeat (first | (with_reducible first | exact HB.out | apply below_alloc | apply pw_below_drewN | apply below_drew1 | refine below_set ?_ GE247.out | refine below_set ?_ GE256.out | refine below_set ?_ GE260.out | refine below_set ?_ GE265.out) | exact HB.out)⟩
         ·rw [if_neg c93] at H
          have c93b0 : decide (t276 < 0) = false := decide_eq_false c93
          clear c93
          by_cases c101 : t276 = t274
          ·rw [if_pos c101] at H
           have c101b0 : (t276 == t274) = true := beq_iff_eq.mpr c101
           have c101b1 : (t276 != t274) = false := bne_eq_false_iff_eq.mpr c101
           clear c101
           replace H := Option.bind_eq_some_iff.mp H
           obtain ⟨t277, A1020, H⟩ := H
           replace H : ((impl_TreeDelete.f t277 a1).bind fun bt280 => ((laws_eqTree.f kj60 bt280.1 t252).bind fun t285 => (if t285 = true then (laws_FnExactTreeDelete.j2 kj60 t274 (bt280.2 != t255) t275) else (laws_FnExactTreeDelete.j2 kj60 t274 true t275)))) = some r := H
           have A102 := Aside0.mk A1020
           clear A1020
           replace H := Option.bind_eq_some_iff.mp H
           obtain ⟨⟨t280, t283⟩, A1030, H⟩ := H
           replace H : ((laws_eqTree.f kj60 t280 t252).bind fun t285 => (if t285 = true then (laws_FnExactTreeDelete.j2 kj60 t274 (t283 != t255) t275) else (laws_FnExactTreeDelete.j2 kj60 t274 true t275))) = some r := H
           have A103 := Aside0.mk A1030
           clear A1030
           have HC104 := Aside0.mk H
           clear H
           have hnb105 := NB265_247.out
           have hnc105 := NB247_265.out
           have hnb106 := NB265_256.out
           have hnc106 := NB256_265.out
           have hnb107 := NB265_260.out
           have hnc107 := NB260_265.out
           have hcz108_0 : wc.cell? ⟨gb265, 0, none⟩ = some (.slice Ao33 t261.length co33) := (blk_cell BK265.out 0).trans rfl
           have hfz108_0 := blk_frozen BK265.out 0
           go_upto_region 25 with (first | ((with_reducible refine gate_callee (f := 50) rfl ?_); refine goesL_ (some 68) rfl rfl Tryd.func50 (by kernel_rfl) rfl #[.agg #[.slice Ao33 t261.length co33], .int .i64 1] rfl (by (try simp only [List.map_toArray, List.map_cons, List.map_nil]); first | done | rfl | (simp only [List.length_drop, List.length_take]; rfl)) ?_; (with_reducible refine (laws_markTree.calls kj60 (fun k_ => some k_ = (.slice Ao33 t261.length co33 : Value).ownBlock) (.slice Ao33 t261.length co33) t261 1 t274 t275 w _ ?side1 ?side2 A91.out).mono ?_); (case side1 => repeat (first | (with_reducible first | exact HB.out | apply below_alloc | apply pw_below_drewN | apply below_drew1 | refine below_set ?_ GE247.out | refine below_set ?_ GE256.out | refine below_set ?_ GE260.out | refine below_set ?_ GE265.out) | exact HB.out)); (case side2 => exact Kd.R_tight rfl HO_266000.out); rintro e w109 ⟨rfl, hy0, hb, hkp⟩; refine ⟨_, rfl, ?_⟩; have n0_ := Aside0.mk (Kd.R_mono (ok' := fun k_ => some k_ ≠ (.slice Ao27 t272.length co27 : Value).ownBlock ∧ some k_ ≠ (.slice Ao33 t261.length co33 : Value).ownBlock) (Kd.R_keptB (HO_257000.out) hkp (fun k_ hk_ hs_ => (hk_.2) hs_)) (fun k_ hk_ => ⟨hk_.1.1, hk_.1.2⟩)); have n1_ := Aside0.mk (Kd.R_mono (ok' := fun k_ => some k_ ≠ (.slice Ao21 t252.length co21 : Value).ownBlock ∧ some k_ ≠ (.slice Ao33 t261.length co33 : Value).ownBlock) (Kd.R_keptB (HO_261000.out) hkp (fun k_ hk_ hs_ => (hk_.2) hs_)) (fun k_ hk_ => ⟨hk_.1.1, hk_.1.2⟩)); have n2_ := Aside0.mk (Kd.R_reok rfl hy0 (fun k_ e_ => HO_266000.out.1 k_ e_)); have n3_ := Aside0.mk (blk_kept (bkD BK247) hkp (fun hs_ => (fun e_ => (Kd.R_ne HO_266000.out BK247.out (by decide)) e_) hs_)); have n4_ := Aside0.mk (blk_kept (bkD BK256) hkp (fun hs_ => (fun e_ => (Kd.R_ne HO_266000.out BK256.out (by decide)) e_) hs_)); have n5_ := Aside0.mk (blk_kept (bkD BK260) hkp (fun hs_ => (fun e_ => (Kd.R_ne HO_266000.out BK260.out (by decide)) e_) hs_)); have n6_ := Aside0.mk (blk_kept (bkD BK265) hkp (fun hs_ => (fun e_ => (Kd.R_ne HO_266000.out BK265.out (by decide)) e_) hs_)); have n7_ := Aside0.mk (hb); clear HO_257000 HO_261000 HO_266000 BK247 BK256 BK260 BK265 HB; have HO_257000 := n0_; have HO_261000 := n1_; have HO_266000 := n2_; have BK247 := n3_; have BK256 := n4_; have BK260 := n5_; have BK265 := n6_; have HB := n7_; clear n0_ n1_ n2_ n3_ n4_ n5_ n6_ n7_; (try clear hb); (try clear hkp); (try clear hy0); have hcz110_0 : w109.cell? ⟨gb265, 0, none⟩ = some (.slice Ao33 t261.length co33) := (blk_cell BK265.out 0).trans rfl; have hfz110_0 := blk_frozen BK265.out 0) | ((with_reducible refine gate_callee (f := 51) rfl ?_); refine goesL_ (some 71) rfl rfl Tryd.func51 (by kernel_rfl) rfl #[.agg #[.slice Ao33 t275.length co33], .int .i64 1] rfl (by (try simp only [List.map_toArray, List.map_cons, List.map_nil]); first | done | (rw [show t275.length = t261.length from (Kd.R_reads' HO_266000.out).1.symm] <;> rfl) | rfl | (simp only [List.length_drop, List.length_take]; rfl)) ?_; (with_reducible refine (laws_heldTree.calls kj60 _ _ t275 1 t276 _ ?side1 ?side2 A92.out).mono ?_); (case side1 => repeat (first | exact (Kd.R_reads' HO_266000.out).2.2 | (with_reducible refine Kd.C_alloc ?_ _) | (with_reducible refine Kd.C_drewN ?_ _) | (with_reducible refine Kd.C_drew ?_))); (case side2 => rw [show t275.length = t261.length from (Kd.R_reads' HO_266000.out).1.symm]; exact (Kd.R_reads' HO_266000.out).2.1); rintro e w111 ⟨rfl, hb⟩; refine ⟨_, rfl, ?_⟩; have n0_ := Aside0.mk (Kd.R_below (rD HO_257000.out) hb); have n1_ := Aside0.mk (Kd.R_below (rD HO_261000.out) hb); have n2_ := Aside0.mk (Kd.R_below (rD HO_266000.out) hb); have n3_ := Aside0.mk (blk_below (bkD BK247) hb); have n4_ := Aside0.mk (blk_below (bkD BK256) hb); have n5_ := Aside0.mk (blk_below (bkD BK260) hb); have n6_ := Aside0.mk (blk_below (bkD BK265) hb); have n7_ := Aside0.mk (below_step (hbD HB) hb); clear HO_257000 HO_261000 HO_266000 BK247 BK256 BK260 BK265 HB; have HO_257000 := n0_; have HO_261000 := n1_; have HO_266000 := n2_; have BK247 := n3_; have BK256 := n4_; have BK260 := n5_; have BK265 := n6_; have HB := n7_; clear n0_ n1_ n2_ n3_ n4_ n5_ n6_ n7_; (try clear hb); (try clear hb2); (try clear hk); (try clear hi); have hnb112 := NB247_256.out; have hnc112 := NB256_247.out; have hnb113 := NB247_260.out; have hnc113 := NB260_247.out; have hcz114_0 : w111.cell? ⟨gb247, 0, none⟩ = some (.slice A0_0 l0_0.length c0_0) := (blk_cell BK247.out 0).trans rfl; have hfz114_0 := blk_frozen BK247.out 0) | ((with_reducible refine gate_callee (f := 17) rfl ?_); refine goesL_ (some 79) rfl rfl Tryd.func17 (by kernel_rfl) rfl #[.agg #[.slice A0_0 l0_0.length c0_0]] rfl (by (try simp only [List.map_toArray, List.map_cons, List.map_nil]); first | done | rfl | (simp only [List.length_drop, List.length_take]; rfl)) ?_; (with_reducible refine (laws_toTree.calls kj60 _ _ l0_0 t277 _ ?side1 ?side2 A102.out).mono ?_); (case side1 => repeat (first | exact (Kd.C_below HR0_0.out HB.out) | (with_reducible refine Kd.C_alloc ?_ _) | (with_reducible refine Kd.C_drewN ?_ _) | (with_reducible refine Kd.C_drew ?_))); (case side2 => exact HC0_0.out); rintro e w115 ⟨v278, rfl, ho0, hb⟩; refine ⟨_, rfl, ?_⟩; have n0_ := Aside0.mk (Kd.R_elder' (rD HO_257000.out) (Kd.R_base ho0) hb); have n1_ := Aside0.mk (Kd.R_elder' (rD HO_261000.out) (Kd.R_base ho0) hb); have n2_ := Aside0.mk (Kd.R_elder' (rD HO_266000.out) (Kd.R_base ho0) hb); have n3_ := Aside0.mk (Kd.R_lower (Kd.R_new' (Kd.R_new' (Kd.R_new' ho0 (Kd.R_lt (rD HO_257000.out))) (Kd.R_lt (rD HO_261000.out))) (Kd.R_lt (rD HO_266000.out))) (below_size (hbD HB))); have n4_ := Aside0.mk (blk_below (bkD BK247) hb); have n5_ := Aside0.mk (blk_below (bkD BK256) hb); have n6_ := Aside0.mk (blk_below (bkD BK260) hb); have n7_ := Aside0.mk (blk_below (bkD BK265) hb); have n8_ := Aside0.mk (below_step (hbD HB) hb); clear HO_257000 HO_261000 HO_266000 BK247 BK256 BK260 BK265 HB; have HO_257000 := n0_; have HO_261000 := n1_; have HO_266000 := n2_; have HO279 := n3_; have BK247 := n4_; have BK256 := n5_; have BK260 := n6_; have BK265 := n7_; have HB := n8_; clear n0_ n1_ n2_ n3_ n4_ n5_ n6_ n7_ n8_; (try clear hb); (try clear hb2); (try clear hk); (try clear hi); (try clear ho0); obtain ⟨Ao116, co116, eo116⟩ := Kd.R_slice HO279.out; subst eo116) | ((with_reducible refine gate_callee (f := 33) rfl ?_); refine goesL_ (some 81) rfl rfl Tryd.func33 (by kernel_rfl) rfl #[.agg #[.slice Ao116 t277.length co116], .int .i64 a1] rfl (by (try simp only [List.map_toArray, List.map_cons, List.map_nil]); first | done | rfl | (simp only [List.length_drop, List.length_take]; rfl)) ?_; (with_reducible refine (impl_TreeDelete.calls _ _ t277 a1 t280 t283 _ ?side1 ?side2 ?side3 A103.out).mono ?_); (case side1 => repeat (first | exact (Kd.R_reads' HO279.out).2.2 | (with_reducible refine Kd.C_alloc ?_ _) | (with_reducible refine Kd.C_drewN ?_ _) | (with_reducible refine Kd.C_drew ?_))); (case side2 => exact (Kd.R_reads' HO279.out).2.1); (case side3 => exact HG.below hgG_ (hbD HB)); rintro e w117 ⟨v281, rfl, ho0, hb⟩; refine ⟨_, rfl, ?_⟩; have n0_ := Aside0.mk (Kd.R_elder' (rD HO_257000.out) (Kd.R_base ho0) hb); have n1_ := Aside0.mk (Kd.R_elder' (rD HO_261000.out) (Kd.R_base ho0) hb); have n2_ := Aside0.mk (Kd.R_elder' (rD HO_266000.out) (Kd.R_base ho0) hb); have n3_ := Aside0.mk (Kd.R_elder' (rD HO279.out) (Kd.R_base ho0) hb); have n4_ := Aside0.mk (Kd.R_lower (Kd.R_new' (Kd.R_new' (Kd.R_new' (Kd.R_new' ho0 (Kd.R_lt (rD HO_257000.out))) (Kd.R_lt (rD HO_261000.out))) (Kd.R_lt (rD HO_266000.out))) (Kd.R_lt (rD HO279.out))) (below_size (hbD HB))); have n5_ := Aside0.mk (blk_below (bkD BK247) hb); have n6_ := Aside0.mk (blk_below (bkD BK256) hb); have n7_ := Aside0.mk (blk_below (bkD BK260) hb); have n8_ := Aside0.mk (blk_below (bkD BK265) hb); have n9_ := Aside0.mk (below_step (hbD HB) hb); clear HO_257000 HO_261000 HO_266000 HO279 BK247 BK256 BK260 BK265 HB; have HO_257000 := n0_; have HO_261000 := n1_; have HO_266000 := n2_; have HO279 := n3_; have HO282 := n4_; have BK247 := n5_; have BK256 := n6_; have BK260 := n7_; have BK265 := n8_; have HB := n9_; clear n0_ n1_ n2_ n3_ n4_ n5_ n6_ n7_ n8_ n9_; (try clear hb); (try clear hb2); (try clear hk); (try clear hi); (try clear ho0)) | ((with_reducible refine gate_dst (N := 14) rfl ?_); refine box_event ?hg (N := 14) ?hd (cs := #[.slice none 0 0]) (t := 30) ?hr ?_; (case hd => rfl); (case hg => rfl); (case hr => first | (go_simp; done) | (go_simp; rfl)); intro gb284 hg w118 hbox hb; have n0_ := Aside0.mk (Kd.R_below (rD HO_257000.out) hb); have n1_ := Aside0.mk (Kd.R_below (rD HO_261000.out) hb); have n2_ := Aside0.mk (Kd.R_below (rD HO_266000.out) hb); have n3_ := Aside0.mk (Kd.R_below (rD HO279.out) hb); have n4_ := Aside0.mk (Kd.R_below (rD HO282.out) hb); have n5_ := Aside0.mk (blk_below (bkD BK247) hb); have n6_ := Aside0.mk (blk_below (bkD BK256) hb); have n7_ := Aside0.mk (blk_below (bkD BK260) hb); have n8_ := Aside0.mk (blk_below (bkD BK265) hb); have n9_ := Aside0.mk (below_step (hbD HB) hb); have n10_ := Aside0.mk (hbox); have n11_ := Aside0.mk ((by rw [hg]; exact (below_size (hbD HB)) : w.heap.size ≤ gb284)); have n12_ := n11_; have n13_ := Aside0.mk ((by rw [hg]; exact Nat.ne_of_lt (blk_lt (bkD BK247)) : gb247 ≠ gb284)); have n14_ := Aside0.mk ((by rw [hg]; exact Nat.ne_of_gt (blk_lt (bkD BK247)) : gb284 ≠ gb247)); have n15_ := Aside0.mk ((by rw [hg]; exact Nat.ne_of_lt (blk_lt (bkD BK256)) : gb256 ≠ gb284)); have n16_ := Aside0.mk ((by rw [hg]; exact Nat.ne_of_gt (blk_lt (bkD BK256)) : gb284 ≠ gb256)); have n17_ := Aside0.mk ((by rw [hg]; exact Nat.ne_of_lt (blk_lt (bkD BK260)) : gb260 ≠ gb284)); have n18_ := Aside0.mk ((by rw [hg]; exact Nat.ne_of_gt (blk_lt (bkD BK260)) : gb284 ≠ gb260)); have n19_ := Aside0.mk ((by rw [hg]; exact Nat.ne_of_lt (blk_lt (bkD BK265)) : gb265 ≠ gb284)); have n20_ := Aside0.mk ((by rw [hg]; exact Nat.ne_of_gt (blk_lt (bkD BK265)) : gb284 ≠ gb265)); clear HO_257000 HO_261000 HO_266000 HO279 HO282 BK247 BK256 BK260 BK265 HB; have HO_257000 := n0_; have HO_261000 := n1_; have HO_266000 := n2_; have HO279 := n3_; have HO282 := n4_; have BK247 := n5_; have BK256 := n6_; have BK260 := n7_; have BK265 := n8_; have HB := n9_; have BK284 := n10_; have GW284 := n11_; have GE284 := n12_; have NB247_284 := n13_; have NB284_247 := n14_; have NB256_284 := n15_; have NB284_256 := n16_; have NB260_284 := n17_; have NB284_260 := n18_; have NB265_284 := n19_; have NB284_265 := n20_; clear n0_ n1_ n2_ n3_ n4_ n5_ n6_ n7_ n8_ n9_ n10_ n11_ n12_ n13_ n14_ n15_ n16_ n17_ n18_ n19_ n20_ hb hbox hg; obtain ⟨Ao119, co119, eo119⟩ := Kd.R_slice HO282.out; subst eo119; have hnb120 := NB284_247.out; have hnc120 := NB247_284.out; have hnb121 := NB284_256.out; have hnc121 := NB256_284.out; have hnb122 := NB284_260.out; have hnc122 := NB260_284.out; have hnb123 := NB284_265.out; have hnc123 := NB265_284.out; have hcz124_0 : w118.cell? ⟨gb284, 0, none⟩ = some (.slice none 0 0) := (blk_cell BK284.out 0).trans rfl; have hfz124_0 := blk_frozen BK284.out 0))
           (try simp only [Act.put, List.setIfInBounds_toArray, List.set_cons_zero, List.set_cons_succ])
           go_cut [92] (fun v92 wc => ∃ (kq : Nat) (x92_103 : Bool), v92 = .bool x92_103 ∧ Aside0 (laws_FnExactTreeDelete.j2 kq t274 x92_103 t275 = some r) ∧ Aside0 (kq ≤ kj60) ∧ Aside0 (Kd.R k54 54 wc w.heap.size (fun k_ => some k_ ≠ ((.slice Ao27 t272.length co27) : Value).ownBlock ∧ some k_ ≠ ((.slice Ao33 t261.length co33) : Value).ownBlock ∧ some k_ ≠ ((.slice Ao119 t280.length co119) : Value).ownBlock) (.slice Ao21 t252.length co21) t252) ∧ Aside0 (Kd.R k54 54 wc w.heap.size (fun k_ => some k_ ≠ ((.slice Ao21 t252.length co21) : Value).ownBlock ∧ some k_ ≠ ((.slice Ao33 t261.length co33) : Value).ownBlock ∧ some k_ ≠ ((.slice Ao119 t280.length co119) : Value).ownBlock) (.slice Ao27 t272.length co27) t272) ∧ Aside0 (Kd.R k54 54 wc w.heap.size (fun k_ => some k_ ≠ ((.slice Ao21 t252.length co21) : Value).ownBlock ∧ some k_ ≠ ((.slice Ao27 t272.length co27) : Value).ownBlock ∧ some k_ ≠ ((.slice Ao119 t280.length co119) : Value).ownBlock) (.slice Ao33 t261.length co33) t275) ∧ Aside0 (Kd.R k54 54 wc w.heap.size (fun k_ => some k_ ≠ ((.slice Ao21 t252.length co21) : Value).ownBlock ∧ some k_ ≠ ((.slice Ao27 t272.length co27) : Value).ownBlock ∧ some k_ ≠ ((.slice Ao33 t261.length co33) : Value).ownBlock) (.slice Ao119 t280.length co119) t280) ∧ Aside0 (wc.heap[gb247]? = some (.cells #[(.slice A0_0 l0_0.length c0_0)] 24 (0, 0))) ∧ Aside0 (wc.heap[gb256]? = some (.cells #[(.slice Ao21 t252.length co21)] 30 (0, 0))) ∧ Aside0 (wc.heap[gb260]? = some (.cells #[(.slice Ao27 t272.length co27)] 30 (0, 0))) ∧ Aside0 (wc.heap[gb265]? = some (.cells #[(.slice Ao33 t261.length co33)] 30 (0, 0))) ∧ Aside0 (wc.heap[gb284]? = some (.cells #[(.slice Ao119 t280.length co119)] 30 (0, 0))) ∧ Aside0 (Below w.heap.size w wc))
           case first =>
            have H := HC104.out
            clear HC104
            replace H := Option.bind_eq_some_iff.mp H
            obtain ⟨t285, A1250, H⟩ := H
            replace H : (if t285 = true then (laws_FnExactTreeDelete.j2 kj60 t274 (t283 != t255) t275) else (laws_FnExactTreeDelete.j2 kj60 t274 true t275)) = some r := H
            have A125 := Aside0.mk A1250
            clear A1250
            by_cases c126 : t285 = true
            ·subst c126
             have H1 : (laws_FnExactTreeDelete.j2 kj60 t274 (t283 != t255) t275) = some r := by rw [if_pos rfl] at H; exact H
             clear H
             have H := H1
             clear H1
             have H' := Aside0.mk H
             clear H
             have hnb127 := NB284_247.out
             have hnc127 := NB247_284.out
             have hnb128 := NB284_256.out
             have hnc128 := NB256_284.out
             have hnb129 := NB284_260.out
             have hnc129 := NB260_284.out
             have hnb130 := NB284_265.out
             have hnc130 := NB265_284.out
             have hcz131_0 : w118.cell? ⟨gb284, 0, none⟩ = some (.slice none 0 0) := (blk_cell BK284.out 0).trans rfl
             have hfz131_0 := blk_frozen BK284.out 0
             have hnb132 := NB256_247.out
             have hnc132 := NB247_256.out
             have hnb133 := NB256_260.out
             have hnc133 := NB260_256.out
             have hnb134 := NB256_265.out
             have hnc134 := NB265_256.out
             have hcz135_0 : w118.cell? ⟨gb256, 0, none⟩ = some (.slice Ao21 t252.length co21) := (blk_cell BK256.out 0).trans rfl
             have hfz135_0 := blk_frozen BK256.out 0
             go_wp2_with (first | ((with_reducible refine gate_callee (f := 19) rfl ?_); refine goesL_ (some 86) rfl rfl Tryd.func19 (by kernel_rfl) rfl #[.agg #[.slice Ao119 t280.length co119], .agg #[.slice Ao21 t252.length co21]] rfl (by (try simp only [List.map_toArray, List.map_cons, List.map_nil]); first | done | rfl | (simp only [List.length_drop, List.length_take]; rfl)) ?_; (with_reducible refine (laws_eqTree.calls kj60 _ _ t280 _ _ t252 true _ ?side1 ?side2 ?side3 ?side4 A125.out).mono ?_); (case side1 => refine (Kd.R_reads' (e := 54) (base := w.heap.size) (ok := fun k_ => ((((True ∧ some k_ ≠ (.slice Ao21 t252.length co21 : Value).ownBlock) ∧ some k_ ≠ (.slice Ao27 t272.length co27 : Value).ownBlock) ∧ some k_ ≠ (.slice Ao33 t261.length co33 : Value).ownBlock) ∧ some k_ ≠ (.slice Ao116 t277.length co116 : Value).ownBlock)) (n := t280.length) (c := co119) ?_).2.2; exact (rD ((Kd.R_mono (Kd.R_far (p := ⟨gb284, 0, none⟩) (Kd.R_types HO282.out BK284.out (by decide)) (fun _ hk => hk.2) (.slice Ao119 t280.length co119)) (fun _ h_ => h_.1))))); (case side2 => exact (Kd.R_reads' HO282.out).2.1); (case side3 => refine (Kd.R_reads' (e := 54) (base := w.heap.size) (ok := fun k_ => (((some k_ ≠ (.slice Ao27 t272.length co27 : Value).ownBlock ∧ some k_ ≠ (.slice Ao33 t261.length co33 : Value).ownBlock) ∧ some k_ ≠ (.slice Ao116 t277.length co116 : Value).ownBlock) ∧ some k_ ≠ (.slice Ao119 t280.length co119 : Value).ownBlock)) (n := t252.length) (c := co21) ?_).2.2; exact (rD ((Kd.R_mono (Kd.R_far (p := ⟨gb284, 0, none⟩) (Kd.R_types HO_257000.out BK284.out (by decide)) (fun _ hk => hk.2) (.slice Ao119 t280.length co119)) (fun _ h_ => h_.1))))); (case side4 => exact (Kd.R_reads' HO_257000.out).2.1); rintro e w136 ⟨rfl, hb⟩; refine ⟨_, rfl, ?_⟩; have n0_ := Aside0.mk (Kd.R_below (rD ((Kd.R_mono (Kd.R_far (p := ⟨gb284, 0, none⟩) (Kd.R_types HO_257000.out BK284.out (by decide)) (fun _ hk => hk.2) (.slice Ao119 t280.length co119)) (fun _ h_ => h_.1)))) hb); have n1_ := Aside0.mk (Kd.R_below (rD ((Kd.R_mono (Kd.R_far (p := ⟨gb284, 0, none⟩) (Kd.R_types HO_261000.out BK284.out (by decide)) (fun _ hk => hk.2) (.slice Ao119 t280.length co119)) (fun _ h_ => h_.1)))) hb); have n2_ := Aside0.mk (Kd.R_below (rD ((Kd.R_mono (Kd.R_far (p := ⟨gb284, 0, none⟩) (Kd.R_types HO_266000.out BK284.out (by decide)) (fun _ hk => hk.2) (.slice Ao119 t280.length co119)) (fun _ h_ => h_.1)))) hb); have n3_ := Aside0.mk (Kd.R_below (rD ((Kd.R_mono (Kd.R_far (p := ⟨gb284, 0, none⟩) (Kd.R_types HO279.out BK284.out (by decide)) (fun _ hk => hk.2) (.slice Ao119 t280.length co119)) (fun _ h_ => h_.1)))) hb); have n4_ := Aside0.mk (Kd.R_below (rD ((Kd.R_mono (Kd.R_far (p := ⟨gb284, 0, none⟩) (Kd.R_types HO282.out BK284.out (by decide)) (fun _ hk => hk.2) (.slice Ao119 t280.length co119)) (fun _ h_ => h_.1)))) hb); have n5_ := Aside0.mk (blk_below (g := gb247) (o := .cells #[.slice A0_0 l0_0.length c0_0] 24 (0, 0)) (by (with_reducible repeat (first | refine blk_drewN ?_ _ | refine blk_drew ?_ | refine blk_alloc ?_ _)); refine blk_far ?_ NB247_284.out _; (with_reducible repeat (first | refine blk_drewN ?_ _ | refine blk_drew ?_ | refine blk_alloc ?_ _)); exact BK247.out) hb); have n6_ := Aside0.mk (blk_below (g := gb256) (o := .cells #[.slice Ao21 t252.length co21] 30 (0, 0)) (by (with_reducible repeat (first | refine blk_drewN ?_ _ | refine blk_drew ?_ | refine blk_alloc ?_ _)); refine blk_far ?_ NB256_284.out _; (with_reducible repeat (first | refine blk_drewN ?_ _ | refine blk_drew ?_ | refine blk_alloc ?_ _)); exact BK256.out) hb); have n7_ := Aside0.mk (blk_below (g := gb260) (o := .cells #[.slice Ao27 t272.length co27] 30 (0, 0)) (by (with_reducible repeat (first | refine blk_drewN ?_ _ | refine blk_drew ?_ | refine blk_alloc ?_ _)); refine blk_far ?_ NB260_284.out _; (with_reducible repeat (first | refine blk_drewN ?_ _ | refine blk_drew ?_ | refine blk_alloc ?_ _)); exact BK260.out) hb); have n8_ := Aside0.mk (blk_below (g := gb265) (o := .cells #[.slice Ao33 t261.length co33] 30 (0, 0)) (by (with_reducible repeat (first | refine blk_drewN ?_ _ | refine blk_drew ?_ | refine blk_alloc ?_ _)); refine blk_far ?_ NB265_284.out _; (with_reducible repeat (first | refine blk_drewN ?_ _ | refine blk_drew ?_ | refine blk_alloc ?_ _)); exact BK265.out) hb); have n9_ := Aside0.mk (blk_below (g := gb284) (o := .cells #[.slice Ao119 t280.length co119] 30 (0, 0)) (by (with_reducible repeat (first | refine blk_drewN ?_ _ | refine blk_drew ?_ | refine blk_alloc ?_ _)); refine blk_put (cs := #[.slice none 0 0]) ?_ 0 _ rfl; (with_reducible repeat (first | refine blk_drewN ?_ _ | refine blk_drew ?_ | refine blk_alloc ?_ _)); exact BK284.out) hb); have n10_ := Aside0.mk (below_step (hbD HB) hb); clear HO_257000 HO_261000 HO_266000 HO279 HO282 BK247 BK256 BK260 BK265 BK284 HB; have HO_257000 := n0_; have HO_261000 := n1_; have HO_266000 := n2_; have HO279 := n3_; have HO282 := n4_; have BK247 := n5_; have BK256 := n6_; have BK260 := n7_; have BK265 := n8_; have BK284 := n9_; have HB := n10_; clear n0_ n1_ n2_ n3_ n4_ n5_ n6_ n7_ n8_ n9_ n10_; (try clear hb); (try clear hb2); (try clear hk); (try clear hi)))
             go_meet
             case rel => exact ⟨_, ((t283 != t255)), (by first | rfl | (simp; done) | (simp [*]; done)), H', ⟨by have := HJ11.out; have := HJ60.out; first | omega | exact Nat.le_refl _⟩, ⟨by (try simp only [hl261000_60]); (with_reducible repeat (first | apply Kd.R_alloc | apply Kd.R_drewN | apply Kd.R_drew)); exact Kd.R_mono HO_257000.out (fun _ hk => ⟨hk.1.1.1, ⟨hk.1.1.2, hk.2⟩⟩)⟩, ⟨by (try simp only [hl261000_60]); (with_reducible repeat (first | apply Kd.R_alloc | apply Kd.R_drewN | apply Kd.R_drew)); exact Kd.R_mono HO_261000.out (fun _ hk => ⟨hk.1.1.1, ⟨hk.1.1.2, hk.2⟩⟩)⟩, ⟨by (try simp only [hl261000_60]); (with_reducible repeat (first | apply Kd.R_alloc | apply Kd.R_drewN | apply Kd.R_drew)); exact Kd.R_mono HO_266000.out (fun _ hk => ⟨hk.1.1.1, ⟨hk.1.1.2, hk.2⟩⟩)⟩, ⟨by (try simp only [hl261000_60]); (with_reducible repeat (first | apply Kd.R_alloc | apply Kd.R_drewN | apply Kd.R_drew)); exact Kd.R_mono HO282.out (fun _ hk => ⟨hk.1.1.1.2, ⟨hk.1.1.2, hk.1.2⟩⟩)⟩, ⟨by (try simp only [hl261000_60]); (with_reducible repeat (first | refine blk_drewN ?_ _ | refine blk_drew ?_ | refine blk_alloc ?_ _)); exact BK247.out⟩, ⟨by (try simp only [hl261000_60]); (with_reducible repeat (first | refine blk_drewN ?_ _ | refine blk_drew ?_ | refine blk_alloc ?_ _)); exact BK256.out⟩, ⟨by (try simp only [hl261000_60]); (with_reducible repeat (first | refine blk_drewN ?_ _ | refine blk_drew ?_ | refine blk_alloc ?_ _)); exact BK260.out⟩, ⟨by (try simp only [hl261000_60]); (with_reducible repeat (first | refine blk_drewN ?_ _ | refine blk_drew ?_ | refine blk_alloc ?_ _)); exact BK265.out⟩, ⟨by (try simp only [hl261000_60]); (with_reducible repeat (first | refine blk_drewN ?_ _ | refine blk_drew ?_ | refine blk_alloc ?_ _)); exact BK284.out⟩, ⟨by repeat (first | (with_reducible first | exact HB.out | apply below_alloc | apply pw_below_drewN | apply below_drew1 | refine below_set ?_ GE247.out | refine below_set ?_ GE256.out | refine below_set ?_ GE260.out | refine below_set ?_ GE265.out | refine below_set ?_ GE284.out) | exact HB.out)⟩⟩
            ·replace c126 := Bool.eq_false_iff.mpr c126
             subst c126
             have H1 : (laws_FnExactTreeDelete.j2 kj60 t274 true t275) = some r := by rw [if_neg (show ¬ (false = true) by decide)] at H; exact H
             clear H
             have H := H1
             clear H1
             have H' := Aside0.mk H
             clear H
             have hnb137 := NB284_247.out
             have hnc137 := NB247_284.out
             have hnb138 := NB284_256.out
             have hnc138 := NB256_284.out
             have hnb139 := NB284_260.out
             have hnc139 := NB260_284.out
             have hnb140 := NB284_265.out
             have hnc140 := NB265_284.out
             have hcz141_0 : w118.cell? ⟨gb284, 0, none⟩ = some (.slice none 0 0) := (blk_cell BK284.out 0).trans rfl
             have hfz141_0 := blk_frozen BK284.out 0
             have hnb142 := NB256_247.out
             have hnc142 := NB247_256.out
             have hnb143 := NB256_260.out
             have hnc143 := NB260_256.out
             have hnb144 := NB256_265.out
             have hnc144 := NB265_256.out
             have hcz145_0 : w118.cell? ⟨gb256, 0, none⟩ = some (.slice Ao21 t252.length co21) := (blk_cell BK256.out 0).trans rfl
             have hfz145_0 := blk_frozen BK256.out 0
             go_wp2_with (first | ((with_reducible refine gate_callee (f := 19) rfl ?_); refine goesL_ (some 86) rfl rfl Tryd.func19 (by kernel_rfl) rfl #[.agg #[.slice Ao119 t280.length co119], .agg #[.slice Ao21 t252.length co21]] rfl (by (try simp only [List.map_toArray, List.map_cons, List.map_nil]); first | done | rfl | (simp only [List.length_drop, List.length_take]; rfl)) ?_; (with_reducible refine (laws_eqTree.calls kj60 _ _ t280 _ _ t252 false _ ?side1 ?side2 ?side3 ?side4 A125.out).mono ?_); (case side1 => refine (Kd.R_reads' (e := 54) (base := w.heap.size) (ok := fun k_ => ((((True ∧ some k_ ≠ (.slice Ao21 t252.length co21 : Value).ownBlock) ∧ some k_ ≠ (.slice Ao27 t272.length co27 : Value).ownBlock) ∧ some k_ ≠ (.slice Ao33 t261.length co33 : Value).ownBlock) ∧ some k_ ≠ (.slice Ao116 t277.length co116 : Value).ownBlock)) (n := t280.length) (c := co119) ?_).2.2; exact (rD ((Kd.R_mono (Kd.R_far (p := ⟨gb284, 0, none⟩) (Kd.R_types HO282.out BK284.out (by decide)) (fun _ hk => hk.2) (.slice Ao119 t280.length co119)) (fun _ h_ => h_.1))))); (case side2 => exact (Kd.R_reads' HO282.out).2.1); (case side3 => refine (Kd.R_reads' (e := 54) (base := w.heap.size) (ok := fun k_ => (((some k_ ≠ (.slice Ao27 t272.length co27 : Value).ownBlock ∧ some k_ ≠ (.slice Ao33 t261.length co33 : Value).ownBlock) ∧ some k_ ≠ (.slice Ao116 t277.length co116 : Value).ownBlock) ∧ some k_ ≠ (.slice Ao119 t280.length co119 : Value).ownBlock)) (n := t252.length) (c := co21) ?_).2.2; exact (rD ((Kd.R_mono (Kd.R_far (p := ⟨gb284, 0, none⟩) (Kd.R_types HO_257000.out BK284.out (by decide)) (fun _ hk => hk.2) (.slice Ao119 t280.length co119)) (fun _ h_ => h_.1))))); (case side4 => exact (Kd.R_reads' HO_257000.out).2.1); rintro e w146 ⟨rfl, hb⟩; refine ⟨_, rfl, ?_⟩; have n0_ := Aside0.mk (Kd.R_below (rD ((Kd.R_mono (Kd.R_far (p := ⟨gb284, 0, none⟩) (Kd.R_types HO_257000.out BK284.out (by decide)) (fun _ hk => hk.2) (.slice Ao119 t280.length co119)) (fun _ h_ => h_.1)))) hb); have n1_ := Aside0.mk (Kd.R_below (rD ((Kd.R_mono (Kd.R_far (p := ⟨gb284, 0, none⟩) (Kd.R_types HO_261000.out BK284.out (by decide)) (fun _ hk => hk.2) (.slice Ao119 t280.length co119)) (fun _ h_ => h_.1)))) hb); have n2_ := Aside0.mk (Kd.R_below (rD ((Kd.R_mono (Kd.R_far (p := ⟨gb284, 0, none⟩) (Kd.R_types HO_266000.out BK284.out (by decide)) (fun _ hk => hk.2) (.slice Ao119 t280.length co119)) (fun _ h_ => h_.1)))) hb); have n3_ := Aside0.mk (Kd.R_below (rD ((Kd.R_mono (Kd.R_far (p := ⟨gb284, 0, none⟩) (Kd.R_types HO279.out BK284.out (by decide)) (fun _ hk => hk.2) (.slice Ao119 t280.length co119)) (fun _ h_ => h_.1)))) hb); have n4_ := Aside0.mk (Kd.R_below (rD ((Kd.R_mono (Kd.R_far (p := ⟨gb284, 0, none⟩) (Kd.R_types HO282.out BK284.out (by decide)) (fun _ hk => hk.2) (.slice Ao119 t280.length co119)) (fun _ h_ => h_.1)))) hb); have n5_ := Aside0.mk (blk_below (g := gb247) (o := .cells #[.slice A0_0 l0_0.length c0_0] 24 (0, 0)) (by (with_reducible repeat (first | refine blk_drewN ?_ _ | refine blk_drew ?_ | refine blk_alloc ?_ _)); refine blk_far ?_ NB247_284.out _; (with_reducible repeat (first | refine blk_drewN ?_ _ | refine blk_drew ?_ | refine blk_alloc ?_ _)); exact BK247.out) hb); have n6_ := Aside0.mk (blk_below (g := gb256) (o := .cells #[.slice Ao21 t252.length co21] 30 (0, 0)) (by (with_reducible repeat (first | refine blk_drewN ?_ _ | refine blk_drew ?_ | refine blk_alloc ?_ _)); refine blk_far ?_ NB256_284.out _; (with_reducible repeat (first | refine blk_drewN ?_ _ | refine blk_drew ?_ | refine blk_alloc ?_ _)); exact BK256.out) hb); have n7_ := Aside0.mk (blk_below (g := gb260) (o := .cells #[.slice Ao27 t272.length co27] 30 (0, 0)) (by (with_reducible repeat (first | refine blk_drewN ?_ _ | refine blk_drew ?_ | refine blk_alloc ?_ _)); refine blk_far ?_ NB260_284.out _; (with_reducible repeat (first | refine blk_drewN ?_ _ | refine blk_drew ?_ | refine blk_alloc ?_ _)); exact BK260.out) hb); have n8_ := Aside0.mk (blk_below (g := gb265) (o := .cells #[.slice Ao33 t261.length co33] 30 (0, 0)) (by (with_reducible repeat (first | refine blk_drewN ?_ _ | refine blk_drew ?_ | refine blk_alloc ?_ _)); refine blk_far ?_ NB265_284.out _; (with_reducible repeat (first | refine blk_drewN ?_ _ | refine blk_drew ?_ | refine blk_alloc ?_ _)); exact BK265.out) hb); have n9_ := Aside0.mk (blk_below (g := gb284) (o := .cells #[.slice Ao119 t280.length co119] 30 (0, 0)) (by (with_reducible repeat (first | refine blk_drewN ?_ _ | refine blk_drew ?_ | refine blk_alloc ?_ _)); refine blk_put (cs := #[.slice none 0 0]) ?_ 0 _ rfl; (with_reducible repeat (first | refine blk_drewN ?_ _ | refine blk_drew ?_ | refine blk_alloc ?_ _)); exact BK284.out) hb); have n10_ := Aside0.mk (below_step (hbD HB) hb); clear HO_257000 HO_261000 HO_266000 HO279 HO282 BK247 BK256 BK260 BK265 BK284 HB; have HO_257000 := n0_; have HO_261000 := n1_; have HO_266000 := n2_; have HO279 := n3_; have HO282 := n4_; have BK247 := n5_; have BK256 := n6_; have BK260 := n7_; have BK265 := n8_; have BK284 := n9_; have HB := n10_; clear n0_ n1_ n2_ n3_ n4_ n5_ n6_ n7_ n8_ n9_ n10_; (try clear hb); (try clear hb2); (try clear hk); (try clear hi)))
             go_meet
             case rel => exact ⟨_, (true), (by first | rfl | (simp; done) | (simp [*]; done)), H', ⟨by have := HJ11.out; have := HJ60.out; first | omega | exact Nat.le_refl _⟩, ⟨by (try simp only [hl261000_60]); (with_reducible repeat (first | apply Kd.R_alloc | apply Kd.R_drewN | apply Kd.R_drew)); exact Kd.R_mono HO_257000.out (fun _ hk => ⟨hk.1.1.1, ⟨hk.1.1.2, hk.2⟩⟩)⟩, ⟨by (try simp only [hl261000_60]); (with_reducible repeat (first | apply Kd.R_alloc | apply Kd.R_drewN | apply Kd.R_drew)); exact Kd.R_mono HO_261000.out (fun _ hk => ⟨hk.1.1.1, ⟨hk.1.1.2, hk.2⟩⟩)⟩, ⟨by (try simp only [hl261000_60]); (with_reducible repeat (first | apply Kd.R_alloc | apply Kd.R_drewN | apply Kd.R_drew)); exact Kd.R_mono HO_266000.out (fun _ hk => ⟨hk.1.1.1, ⟨hk.1.1.2, hk.2⟩⟩)⟩, ⟨by (try simp only [hl261000_60]); (with_reducible repeat (first | apply Kd.R_alloc | apply Kd.R_drewN | apply Kd.R_drew)); exact Kd.R_mono HO282.out (fun _ hk => ⟨hk.1.1.1.2, ⟨hk.1.1.2, hk.1.2⟩⟩)⟩, ⟨by (try simp only [hl261000_60]); (with_reducible repeat (first | refine blk_drewN ?_ _ | refine blk_drew ?_ | refine blk_alloc ?_ _)); exact BK247.out⟩, ⟨by (try simp only [hl261000_60]); (with_reducible repeat (first | refine blk_drewN ?_ _ | refine blk_drew ?_ | refine blk_alloc ?_ _)); exact BK256.out⟩, ⟨by (try simp only [hl261000_60]); (with_reducible repeat (first | refine blk_drewN ?_ _ | refine blk_drew ?_ | refine blk_alloc ?_ _)); exact BK260.out⟩, ⟨by (try simp only [hl261000_60]); (with_reducible repeat (first | refine blk_drewN ?_ _ | refine blk_drew ?_ | refine blk_alloc ?_ _)); exact BK265.out⟩, ⟨by (try simp only [hl261000_60]); (with_reducible repeat (first | refine blk_drewN ?_ _ | refine blk_drew ?_ | refine blk_alloc ?_ _)); exact BK284.out⟩, ⟨by repeat (first | (with_reducible first | exact HB.out | apply below_alloc | apply pw_below_drewN | apply below_drew1 | refine below_set ?_ GE247.out | refine below_set ?_ GE256.out | refine below_set ?_ GE260.out | refine below_set ?_ GE265.out | refine below_set ?_ GE284.out) | exact HB.out)⟩⟩
           case rest =>
            clear HC104
            try clear c1
            try clear c2
            try clear p2
            try clear c3
            try clear c4
            try clear c4b0
            try clear c5
            try clear c6
            try clear c7
            try clear c8
            try clear c9
            try clear c10
            try clear c11
            try clear c12
            try clear c13
            try clear c14
            try clear c15
            try clear c17
            try clear c19
            try clear c22
            try clear c28
            try clear c29
            try clear c33
            try clear c34
            try clear c35
            try clear c36
            try clear c39
            try clear c40
            try clear c41
            try clear c42
            try clear c44
            try clear c45
            try clear c48
            try clear c49
            try clear c50
            try clear c51
            try clear c52
            try clear c53
            try clear c56
            try clear c59
            try clear c66
            try clear c67
            try clear c68
            try clear c71
            try clear c71b0
            try clear c73
            try clear c74
            try clear c75
            try clear c76
            try clear c78
            try clear c79
            try clear c82
            try clear c83
            try clear c84
            try clear c86
            try clear c87
            try clear c90
            try clear c93
            try clear c93b0
            try clear c94
            try clear c95
            try clear c96
            try clear c101
            try clear c101b0
            try clear c101b1
            try clear c105
            try clear c106
            try clear c107
            try clear c112
            try clear c113
            try clear c120
            try clear c121
            try clear c122
            try clear c123
            try clear c126
            try clear c127
            try clear c128
            try clear c129
            try clear c130
            try clear c132
            try clear c133
            try clear c134
            try clear c137
            try clear c138
            try clear c139
            try clear c140
            try clear c142
            try clear c143
            try clear c144
            try clear hcz108_0
            try clear hcz110_0
            try clear hcz114_0
            try clear hcz124_0
            try clear hcz131_0
            try clear hcz135_0
            try clear hcz141_0
            try clear hcz145_0
            try clear hcz14_0
            try clear hcz16_0
            try clear hcz23_0
            try clear hcz24_0
            try clear hcz30_0
            try clear hcz37_0
            try clear hcz43_0
            try clear hcz46_0
            try clear hcz51_0
            try clear hcz54_0
            try clear hcz69_0
            try clear hcz6_0
            try clear hcz77_0
            try clear hcz80_0
            try clear hcz85_0
            try clear hcz88_0
            try clear hcz97_0
            try clear hcz99_0
            try clear hfz108_0
            try clear hfz110_0
            try clear hfz114_0
            try clear hfz124_0
            try clear hfz131_0
            try clear hfz135_0
            try clear hfz141_0
            try clear hfz145_0
            try clear hfz14_0
            try clear hfz16_0
            try clear hfz23_0
            try clear hfz24_0
            try clear hfz30_0
            try clear hfz37_0
            try clear hfz43_0
            try clear hfz46_0
            try clear hfz51_0
            try clear hfz54_0
            try clear hfz69_0
            try clear hfz6_0
            try clear hfz77_0
            try clear hfz80_0
            try clear hfz85_0
            try clear hfz88_0
            try clear hfz97_0
            try clear hfz99_0
            try clear p2
            obtain ⟨kq, x92_103, rfl, HA, HJ103, HO_257000, HO_261000, HO_266000, HO_285000, BK247, BK256, BK260, BK265, BK284, HB⟩ := hcut
            have hl266000_103 := (Kd.R_reads' HO_266000.out).1
            rw [hl266000_103] at HO_266000
            (try simp only [hl266000_103])
            (try simp only [hl266000_103] at BK247)
            (try simp only [hl266000_103] at BK256)
            (try simp only [hl266000_103] at BK260)
            (try simp only [hl266000_103] at BK265)
            (try simp only [hl266000_103] at BK284)
            (try simp only [hl266000_103] at HO_257000)
            (try simp only [hl266000_103] at HO_261000)
            (try simp only [hl266000_103] at HO_285000)
            cases kq with
            | zero => exact absurd HA.out (by simp [laws_FnExactTreeDelete.j2])
            | succ kj103 =>
             have H := HA.out
             clear HA
             simp only [laws_FnExactTreeDelete.j2] at H
             by_cases c147 : x92_103 = true
             ·subst c147
              have H1 : (some false) = some r := by rw [if_pos rfl] at H; exact H
              clear H
              have H := H1
              clear H1
              obtain rfl := Option.some.inj H
              go_wp2
              go_ret
              exact ⟨by first | rfl | (simp [errW_none, errW_some] <;> rfl) | (simp [*, errW_none, errW_some] <;> rfl), by repeat (first | (with_reducible first | exact HB.out | apply below_alloc | apply pw_below_drewN | apply below_drew1 | refine below_set ?_ GE247.out | refine below_set ?_ GE256.out | refine below_set ?_ GE260.out | refine below_set ?_ GE265.out | refine below_set ?_ GE284.out) | exact HB.out)⟩
             ·replace c147 := Bool.eq_false_iff.mpr c147
              subst c147
              have H1 : ((laws_heldTree.f kj103 t275 1).bind fun t286 => (if t286 < 0 then (some false) else (if t286 = t274 then (some true) else (some false)))) = some r := by rw [if_neg (show ¬ (false = true) by decide)] at H; exact H
              clear H
              have H := H1
              clear H1
              replace H := Option.bind_eq_some_iff.mp H
              obtain ⟨t286, A1480, H⟩ := H
              replace H : (if t286 < 0 then (some false) else (if t286 = t274 then (some true) else (some false))) = some r := H
              have A148 := Aside0.mk A1480
              clear A1480
              by_cases c149 : t286 < 0
              ·rw [if_pos c149] at H
               have c149b0 : decide (t286 < 0) = true := decide_eq_true c149
               clear c149
               obtain rfl := Option.some.inj H
               have hnb150 := NB265_247.out
               have hnc150 := NB247_265.out
               have hnb151 := NB265_256.out
               have hnc151 := NB256_265.out
               have hnb152 := NB265_260.out
               have hnc152 := NB260_265.out
               have hnb153 := NB265_284.out
               have hnc153 := NB284_265.out
               have hcz154_0 : wc.cell? ⟨gb265, 0, none⟩ = some (.slice Ao33 t275.length co33) := (blk_cell BK265.out 0).trans rfl
               have hfz154_0 := blk_frozen BK265.out 0
               go_wp2_with (first | ((with_reducible refine gate_callee (f := 51) rfl ?_); refine goesL_ (some 95) rfl rfl Tryd.func51 (by kernel_rfl) rfl #[.agg #[.slice Ao33 t275.length co33], .int .i64 1] rfl (by (try simp only [List.map_toArray, List.map_cons, List.map_nil]); first | done | rfl | (simp only [List.length_drop, List.length_take]; rfl)) ?_; (with_reducible refine (laws_heldTree.calls kj103 _ _ t275 1 t286 _ ?side1 ?side2 A148.out).mono ?_); (case side1 => repeat (first | exact (Kd.R_reads' HO_266000.out).2.2 | (with_reducible refine Kd.C_alloc ?_ _) | (with_reducible refine Kd.C_drewN ?_ _) | (with_reducible refine Kd.C_drew ?_))); (case side2 => exact (Kd.R_reads' HO_266000.out).2.1); rintro e w155 ⟨rfl, hb⟩; refine ⟨_, rfl, ?_⟩; have n0_ := Aside0.mk (Kd.R_below (rD HO_257000.out) hb); have n1_ := Aside0.mk (Kd.R_below (rD HO_261000.out) hb); have n2_ := Aside0.mk (Kd.R_below (rD HO_266000.out) hb); have n3_ := Aside0.mk (Kd.R_below (rD HO_285000.out) hb); have n4_ := Aside0.mk (blk_below (bkD BK247) hb); have n5_ := Aside0.mk (blk_below (bkD BK256) hb); have n6_ := Aside0.mk (blk_below (bkD BK260) hb); have n7_ := Aside0.mk (blk_below (bkD BK265) hb); have n8_ := Aside0.mk (blk_below (bkD BK284) hb); have n9_ := Aside0.mk (below_step (hbD HB) hb); clear HO_257000 HO_261000 HO_266000 HO_285000 BK247 BK256 BK260 BK265 BK284 HB; have HO_257000 := n0_; have HO_261000 := n1_; have HO_266000 := n2_; have HO_285000 := n3_; have BK247 := n4_; have BK256 := n5_; have BK260 := n6_; have BK265 := n7_; have BK284 := n8_; have HB := n9_; clear n0_ n1_ n2_ n3_ n4_ n5_ n6_ n7_ n8_ n9_; (try clear hb); (try clear hb2); (try clear hk); (try clear hi)))
               go_ret
               exact ⟨by first | rfl | (simp [errW_none, errW_some] <;> rfl) | (simp [*, errW_none, errW_some] <;> rfl), by repeat (first | (with_reducible first | exact HB.out | apply below_alloc | apply pw_below_drewN | apply below_drew1 | refine below_set ?_ GE247.out | refine below_set ?_ GE256.out | refine below_set ?_ GE260.out | refine below_set ?_ GE265.out | refine below_set ?_ GE284.out) | exact HB.out)⟩
              ·rw [if_neg c149] at H
               have c149b0 : decide (t286 < 0) = false := decide_eq_false c149
               clear c149
               by_cases c156 : t286 = t274
               ·rw [if_pos c156] at H
                have c156b0 : (t286 == t274) = true := beq_iff_eq.mpr c156
                have c156b1 : (t286 != t274) = false := bne_eq_false_iff_eq.mpr c156
                clear c156
                obtain rfl := Option.some.inj H
                have hnb157 := NB265_247.out
                have hnc157 := NB247_265.out
                have hnb158 := NB265_256.out
                have hnc158 := NB256_265.out
                have hnb159 := NB265_260.out
                have hnc159 := NB260_265.out
                have hnb160 := NB265_284.out
                have hnc160 := NB284_265.out
                have hcz161_0 : wc.cell? ⟨gb265, 0, none⟩ = some (.slice Ao33 t275.length co33) := (blk_cell BK265.out 0).trans rfl
                have hfz161_0 := blk_frozen BK265.out 0
                go_wp2_with (first | ((with_reducible refine gate_callee (f := 51) rfl ?_); refine goesL_ (some 95) rfl rfl Tryd.func51 (by kernel_rfl) rfl #[.agg #[.slice Ao33 t275.length co33], .int .i64 1] rfl (by (try simp only [List.map_toArray, List.map_cons, List.map_nil]); first | done | rfl | (simp only [List.length_drop, List.length_take]; rfl)) ?_; (with_reducible refine (laws_heldTree.calls kj103 _ _ t275 1 t286 _ ?side1 ?side2 A148.out).mono ?_); (case side1 => repeat (first | exact (Kd.R_reads' HO_266000.out).2.2 | (with_reducible refine Kd.C_alloc ?_ _) | (with_reducible refine Kd.C_drewN ?_ _) | (with_reducible refine Kd.C_drew ?_))); (case side2 => exact (Kd.R_reads' HO_266000.out).2.1); rintro e w162 ⟨rfl, hb⟩; refine ⟨_, rfl, ?_⟩; have n0_ := Aside0.mk (Kd.R_below (rD HO_257000.out) hb); have n1_ := Aside0.mk (Kd.R_below (rD HO_261000.out) hb); have n2_ := Aside0.mk (Kd.R_below (rD HO_266000.out) hb); have n3_ := Aside0.mk (Kd.R_below (rD HO_285000.out) hb); have n4_ := Aside0.mk (blk_below (bkD BK247) hb); have n5_ := Aside0.mk (blk_below (bkD BK256) hb); have n6_ := Aside0.mk (blk_below (bkD BK260) hb); have n7_ := Aside0.mk (blk_below (bkD BK265) hb); have n8_ := Aside0.mk (blk_below (bkD BK284) hb); have n9_ := Aside0.mk (below_step (hbD HB) hb); clear HO_257000 HO_261000 HO_266000 HO_285000 BK247 BK256 BK260 BK265 BK284 HB; have HO_257000 := n0_; have HO_261000 := n1_; have HO_266000 := n2_; have HO_285000 := n3_; have BK247 := n4_; have BK256 := n5_; have BK260 := n6_; have BK265 := n7_; have BK284 := n8_; have HB := n9_; clear n0_ n1_ n2_ n3_ n4_ n5_ n6_ n7_ n8_ n9_; (try clear hb); (try clear hb2); (try clear hk); (try clear hi)))
                go_ret
                exact ⟨by first | rfl | (simp [errW_none, errW_some] <;> rfl) | (simp [*, errW_none, errW_some] <;> rfl), by repeat (first | (with_reducible first | exact HB.out | apply below_alloc | apply pw_below_drewN | apply below_drew1 | refine below_set ?_ GE247.out | refine below_set ?_ GE256.out | refine below_set ?_ GE260.out | refine below_set ?_ GE265.out | refine below_set ?_ GE284.out) | exact HB.out)⟩
               ·rw [if_neg c156] at H
                have c156b0 : (t286 == t274) = false := beq_eq_false_iff_ne.mpr c156
                have c156b1 : (t286 != t274) = true := bne_iff_ne.mpr c156
                obtain rfl := Option.some.inj H
                have hnb163 := NB265_247.out
                have hnc163 := NB247_265.out
                have hnb164 := NB265_256.out
                have hnc164 := NB256_265.out
                have hnb165 := NB265_260.out
                have hnc165 := NB260_265.out
                have hnb166 := NB265_284.out
                have hnc166 := NB284_265.out
                have hcz167_0 : wc.cell? ⟨gb265, 0, none⟩ = some (.slice Ao33 t275.length co33) := (blk_cell BK265.out 0).trans rfl
                have hfz167_0 := blk_frozen BK265.out 0
                go_wp2_with (first | ((with_reducible refine gate_callee (f := 51) rfl ?_); refine goesL_ (some 95) rfl rfl Tryd.func51 (by kernel_rfl) rfl #[.agg #[.slice Ao33 t275.length co33], .int .i64 1] rfl (by (try simp only [List.map_toArray, List.map_cons, List.map_nil]); first | done | rfl | (simp only [List.length_drop, List.length_take]; rfl)) ?_; (with_reducible refine (laws_heldTree.calls kj103 _ _ t275 1 t286 _ ?side1 ?side2 A148.out).mono ?_); (case side1 => repeat (first | exact (Kd.R_reads' HO_266000.out).2.2 | (with_reducible refine Kd.C_alloc ?_ _) | (with_reducible refine Kd.C_drewN ?_ _) | (with_reducible refine Kd.C_drew ?_))); (case side2 => exact (Kd.R_reads' HO_266000.out).2.1); rintro e w168 ⟨rfl, hb⟩; refine ⟨_, rfl, ?_⟩; have n0_ := Aside0.mk (Kd.R_below (rD HO_257000.out) hb); have n1_ := Aside0.mk (Kd.R_below (rD HO_261000.out) hb); have n2_ := Aside0.mk (Kd.R_below (rD HO_266000.out) hb); have n3_ := Aside0.mk (Kd.R_below (rD HO_285000.out) hb); have n4_ := Aside0.mk (blk_below (bkD BK247) hb); have n5_ := Aside0.mk (blk_below (bkD BK256) hb); have n6_ := Aside0.mk (blk_below (bkD BK260) hb); have n7_ := Aside0.mk (blk_below (bkD BK265) hb); have n8_ := Aside0.mk (blk_below (bkD BK284) hb); have n9_ := Aside0.mk (below_step (hbD HB) hb); clear HO_257000 HO_261000 HO_266000 HO_285000 BK247 BK256 BK260 BK265 BK284 HB; have HO_257000 := n0_; have HO_261000 := n1_; have HO_266000 := n2_; have HO_285000 := n3_; have BK247 := n4_; have BK256 := n5_; have BK260 := n6_; have BK265 := n7_; have BK284 := n8_; have HB := n9_; clear n0_ n1_ n2_ n3_ n4_ n5_ n6_ n7_ n8_ n9_; (try clear hb); (try clear hb2); (try clear hk); (try clear hi)))
                go_ret
                exact ⟨by first | rfl | (simp [errW_none, errW_some] <;> rfl) | (simp [*, errW_none, errW_some] <;> rfl), by repeat (first | (with_reducible first | exact HB.out | apply below_alloc | apply pw_below_drewN | apply below_drew1 | refine below_set ?_ GE247.out | refine below_set ?_ GE256.out | refine below_set ?_ GE260.out | refine below_set ?_ GE265.out | refine below_set ?_ GE284.out) | exact HB.out)⟩
          ·rw [if_neg c101] at H
           have c101b0 : (t276 == t274) = false := beq_eq_false_iff_ne.mpr c101
           have c101b1 : (t276 != t274) = true := bne_iff_ne.mpr c101
           obtain rfl := Option.some.inj H
           have hnb169 := NB265_247.out
           have hnc169 := NB247_265.out
           have hnb170 := NB265_256.out
           have hnc170 := NB256_265.out
           have hnb171 := NB265_260.out
           have hnc171 := NB260_265.out
           have hcz172_0 : wc.cell? ⟨gb265, 0, none⟩ = some (.slice Ao33 t261.length co33) := (blk_cell BK265.out 0).trans rfl
           have hfz172_0 := blk_frozen BK265.out 0
           go_wp2_with (first | ((with_reducible refine gate_callee (f := 50) rfl ?_); refine goesL_ (some 68) rfl rfl Tryd.func50 (by kernel_rfl) rfl #[.agg #[.slice Ao33 t261.length co33], .int .i64 1] rfl (by (try simp only [List.map_toArray, List.map_cons, List.map_nil]); first | done | rfl | (simp only [List.length_drop, List.length_take]; rfl)) ?_; (with_reducible refine (laws_markTree.calls kj60 (fun k_ => some k_ = (.slice Ao33 t261.length co33 : Value).ownBlock) (.slice Ao33 t261.length co33) t261 1 t274 t275 w _ ?side1 ?side2 A91.out).mono ?_); (case side1 => repeat (first | (with_reducible first | exact HB.out | apply below_alloc | apply pw_below_drewN | apply below_drew1 | refine below_set ?_ GE247.out | refine below_set ?_ GE256.out | refine below_set ?_ GE260.out | refine below_set ?_ GE265.out) | exact HB.out)); (case side2 => exact Kd.R_tight rfl HO_266000.out); rintro e w173 ⟨rfl, hy0, hb, hkp⟩; refine ⟨_, rfl, ?_⟩; have n0_ := Aside0.mk (Kd.R_mono (ok' := fun k_ => some k_ ≠ (.slice Ao27 t272.length co27 : Value).ownBlock ∧ some k_ ≠ (.slice Ao33 t261.length co33 : Value).ownBlock) (Kd.R_keptB (HO_257000.out) hkp (fun k_ hk_ hs_ => (hk_.2) hs_)) (fun k_ hk_ => ⟨hk_.1.1, hk_.1.2⟩)); have n1_ := Aside0.mk (Kd.R_mono (ok' := fun k_ => some k_ ≠ (.slice Ao21 t252.length co21 : Value).ownBlock ∧ some k_ ≠ (.slice Ao33 t261.length co33 : Value).ownBlock) (Kd.R_keptB (HO_261000.out) hkp (fun k_ hk_ hs_ => (hk_.2) hs_)) (fun k_ hk_ => ⟨hk_.1.1, hk_.1.2⟩)); have n2_ := Aside0.mk (Kd.R_reok rfl hy0 (fun k_ e_ => HO_266000.out.1 k_ e_)); have n3_ := Aside0.mk (blk_kept (bkD BK247) hkp (fun hs_ => (fun e_ => (Kd.R_ne HO_266000.out BK247.out (by decide)) e_) hs_)); have n4_ := Aside0.mk (blk_kept (bkD BK256) hkp (fun hs_ => (fun e_ => (Kd.R_ne HO_266000.out BK256.out (by decide)) e_) hs_)); have n5_ := Aside0.mk (blk_kept (bkD BK260) hkp (fun hs_ => (fun e_ => (Kd.R_ne HO_266000.out BK260.out (by decide)) e_) hs_)); have n6_ := Aside0.mk (blk_kept (bkD BK265) hkp (fun hs_ => (fun e_ => (Kd.R_ne HO_266000.out BK265.out (by decide)) e_) hs_)); have n7_ := Aside0.mk (hb); clear HO_257000 HO_261000 HO_266000 BK247 BK256 BK260 BK265 HB; have HO_257000 := n0_; have HO_261000 := n1_; have HO_266000 := n2_; have BK247 := n3_; have BK256 := n4_; have BK260 := n5_; have BK265 := n6_; have HB := n7_; clear n0_ n1_ n2_ n3_ n4_ n5_ n6_ n7_; (try clear hb); (try clear hkp); (try clear hy0); have hcz174_0 : w173.cell? ⟨gb265, 0, none⟩ = some (.slice Ao33 t261.length co33) := (blk_cell BK265.out 0).trans rfl; have hfz174_0 := blk_frozen BK265.out 0) | ((with_reducible refine gate_callee (f := 51) rfl ?_); refine goesL_ (some 71) rfl rfl Tryd.func51 (by kernel_rfl) rfl #[.agg #[.slice Ao33 t275.length co33], .int .i64 1] rfl (by (try simp only [List.map_toArray, List.map_cons, List.map_nil]); first | done | (rw [show t275.length = t261.length from (Kd.R_reads' HO_266000.out).1.symm] <;> rfl) | rfl | (simp only [List.length_drop, List.length_take]; rfl)) ?_; (with_reducible refine (laws_heldTree.calls kj60 _ _ t275 1 t276 _ ?side1 ?side2 A92.out).mono ?_); (case side1 => repeat (first | exact (Kd.R_reads' HO_266000.out).2.2 | (with_reducible refine Kd.C_alloc ?_ _) | (with_reducible refine Kd.C_drewN ?_ _) | (with_reducible refine Kd.C_drew ?_))); (case side2 => rw [show t275.length = t261.length from (Kd.R_reads' HO_266000.out).1.symm]; exact (Kd.R_reads' HO_266000.out).2.1); rintro e w175 ⟨rfl, hb⟩; refine ⟨_, rfl, ?_⟩; have n0_ := Aside0.mk (Kd.R_below (rD HO_257000.out) hb); have n1_ := Aside0.mk (Kd.R_below (rD HO_261000.out) hb); have n2_ := Aside0.mk (Kd.R_below (rD HO_266000.out) hb); have n3_ := Aside0.mk (blk_below (bkD BK247) hb); have n4_ := Aside0.mk (blk_below (bkD BK256) hb); have n5_ := Aside0.mk (blk_below (bkD BK260) hb); have n6_ := Aside0.mk (blk_below (bkD BK265) hb); have n7_ := Aside0.mk (below_step (hbD HB) hb); clear HO_257000 HO_261000 HO_266000 BK247 BK256 BK260 BK265 HB; have HO_257000 := n0_; have HO_261000 := n1_; have HO_266000 := n2_; have BK247 := n3_; have BK256 := n4_; have BK260 := n5_; have BK265 := n6_; have HB := n7_; clear n0_ n1_ n2_ n3_ n4_ n5_ n6_ n7_; (try clear hb); (try clear hb2); (try clear hk); (try clear hi)))
           go_ret
           exact ⟨by first | rfl | (simp [errW_none, errW_some] <;> rfl) | (simp [*, errW_none, errW_some] <;> rfl), by repeat (first | (with_reducible first | exact HB.out | apply below_alloc | apply pw_below_drewN | apply below_drew1 | refine below_set ?_ GE247.out | refine below_set ?_ GE256.out | refine below_set ?_ GE260.out | refine below_set ?_ GE265.out) | exact HB.out)⟩
     ·replace c59 := Bool.eq_false_iff.mpr c59
      subst c59
      have H1 : (some false) = some r := by rw [if_neg (show ¬ (false = true) by decide)] at H; exact H
      clear H
      have H := H1
      clear H1
      obtain rfl := Option.some.inj H
      try go_wp2
      have n0_ := Aside0.mk (Kd.R_drew HO_257000.out)
      have n1_ := Aside0.mk (Kd.R_drew HO_261000.out)
      have n2_ := Aside0.mk (Kd.R_drew HO_266000.out)
      have n3_ := Aside0.mk (blk_drew BK247.out)
      have n4_ := Aside0.mk (blk_drew BK256.out)
      have n5_ := Aside0.mk (blk_drew BK260.out)
      have n6_ := Aside0.mk (blk_drew BK265.out)
      have n7_ := Aside0.mk (below_drew1 HB.out)
      clear HO_257000 HO_261000 HO_266000 BK247 BK256 BK260 BK265 HB
      have HO_257000 := n0_
      have HO_261000 := n1_
      have HO_266000 := n2_
      have BK247 := n3_
      have BK256 := n4_
      have BK260 := n5_
      have BK265 := n6_
      have HB := n7_
      clear n0_ n1_ n2_ n3_ n4_ n5_ n6_ n7_
      refine start_ (n := 5) (S := fun w' => w'.cell? ⟨gb260, 0, none⟩ = some (.slice Ao27 t257.length co27) ∧ w'.cell? ⟨gb247, 0, none⟩ = some (.slice A0_0 l0_0.length c0_0)) (ds := []) #[false, false, false, false, false] (by kernel_rfl) rfl rfl ⟨(blk_cell BK260.out 0).trans rfl, (blk_cell BK247.out 0).trans rfl⟩ (fun hHeld => ?_)
      generalize wc.drew = w176 at HO_257000 HO_261000 HO_266000 BK247 BK256 BK260 BK265 HB hHeld ⊢
      refine take_ (i := 0) (N := some 45) (v := ?_) (a' := ?_) #[true, false, false, false, false] rfl rfl (by kernel_rfl) (fun _ _ _ h => h) (Or.inl ⟨by rfl, ?_⟩) hHeld ?_ ?_
      rotate_left
      ·rintro w' ⟨s0, s1⟩
       go_simp
       with_reducible rfl
      rotate_left
      ·simp only [Act.put, List.setIfInBounds_toArray, List.set_cons_zero, List.set_cons_succ, i64_w, i32_w]
       rfl
      refine take_ (i := 1) (N := some 46) (v := ?_) (a' := ?_) #[true, true, false, false, false] rfl rfl (by kernel_rfl) (fun _ _ _ h => h) (Or.inl ⟨by rfl, ?_⟩) hHeld ?_ ?_
      rotate_left
      ·rintro w' ⟨s0, s1⟩
       go_simp
       with_reducible rfl
      rotate_left
      ·simp only [Act.put, List.setIfInBounds_toArray, List.set_cons_zero, List.set_cons_succ, i64_w, i32_w]
       rfl
      refine one_ (i := 2) (N := some 47) #[true, true, true, false, false] rfl rfl (by kernel_rfl) (by decide) (fun K hK => ?_)
      refine goes_ Tryd.func17 (by kernel_rfl) rfl #[.agg #[.slice A0_0 l0_0.length c0_0]] (by rfl) rfl rfl (by (try simp only [List.map_toArray, List.map_cons, List.map_nil]); first | done | rfl | (simp only [List.length_drop, List.length_take]; rfl)) ?_
      with_reducible refine (laws_toTree.calls kj11 _ _ l0_0 t267 _ ?side1 ?side2 A57.out).mono ?_
      (case side1 => repeat (first | exact (Kd.C_below HR0_0.out HB.out) | (with_reducible refine Kd.C_alloc ?_ _) | (with_reducible refine Kd.C_drewN ?_ _) | (with_reducible refine Kd.C_drew ?_)))
      (case side2 => exact HC0_0.out)
      rintro e w177 ⟨v268, rfl, ho0, hb⟩
      refine ⟨_, rfl, ?_⟩
      have n0_ := Aside0.mk (Kd.R_elder' (rD HO_257000.out) (Kd.R_base ho0) hb)
      have n1_ := Aside0.mk (Kd.R_elder' (rD HO_261000.out) (Kd.R_base ho0) hb)
      have n2_ := Aside0.mk (Kd.R_elder' (rD HO_266000.out) (Kd.R_base ho0) hb)
      have n3_ := Aside0.mk (Kd.R_lower (Kd.R_new' (Kd.R_new' (Kd.R_new' ho0 (Kd.R_lt (rD HO_257000.out))) (Kd.R_lt (rD HO_261000.out))) (Kd.R_lt (rD HO_266000.out))) (below_size (hbD HB)))
      have n4_ := Aside0.mk (blk_below (bkD BK247) hb)
      have n5_ := Aside0.mk (blk_below (bkD BK256) hb)
      have n6_ := Aside0.mk (blk_below (bkD BK260) hb)
      have n7_ := Aside0.mk (blk_below (bkD BK265) hb)
      have n8_ := Aside0.mk (below_step (hbD HB) hb)
      clear HO_257000 HO_261000 HO_266000 BK247 BK256 BK260 BK265 HB
      have HO_257000 := n0_
      have HO_261000 := n1_
      have HO_266000 := n2_
      have HO269 := n3_
      have BK247 := n4_
      have BK256 := n5_
      have BK260 := n6_
      have BK265 := n7_
      have HB := n8_
      clear n0_ n1_ n2_ n3_ n4_ n5_ n6_ n7_ n8_
      (try clear hb)
      (try clear hb2)
      (try clear hk)
      (try clear hi)
      (try clear ho0)
      obtain ⟨Ao178, co178, eo178⟩ := Kd.R_slice HO269.out
      (first | subst eo178 | (injection eo178 with f1_ f2_ f3_; have f4_ := f1_.symm; have f5_ := f3_.symm; clear f1_ f2_ f3_; subst f4_; subst f5_))
      refine hK.out _ _ ⟨(blk_cell BK260.out 0).trans rfl, (blk_cell BK247.out 0).trans rfl⟩ (fun hHeld => ?_)
      clear hK K
      refine norm_ (a' := ?_) ?_ ?_
      rotate_left
      ·show Act.put _ (some 47) _ = _
       simp only [Act.put, List.setIfInBounds_toArray, List.set_cons_zero, List.set_cons_succ, i64_w, i32_w]
       rfl
      refine one_ (i := 3) (N := some 48) #[true, true, true, true, false] rfl rfl (by kernel_rfl) (by decide) (fun K hK => ?_)
      refine goes_ Tryd.func19 (by kernel_rfl) rfl #[.agg #[.slice Ao27 t257.length co27], .agg #[.slice Ao178 t267.length co178]] (by rfl) rfl rfl (by (try simp only [List.map_toArray, List.map_cons, List.map_nil]); first | done | rfl | (simp only [List.length_drop, List.length_take]; rfl)) ?_
      with_reducible refine (laws_eqTree.calls kj11 _ _ t257 _ _ t267 false _ ?side1 ?side2 ?side3 ?side4 A58.out).mono ?_
      (case side1 => repeat (first | exact (Kd.R_reads' HO_261000.out).2.2 | (with_reducible refine Kd.C_alloc ?_ _) | (with_reducible refine Kd.C_drewN ?_ _) | (with_reducible refine Kd.C_drew ?_)))
      (case side2 => exact (Kd.R_reads' HO_261000.out).2.1)
      (case side3 => repeat (first | exact (Kd.R_reads' HO269.out).2.2 | (with_reducible refine Kd.C_alloc ?_ _) | (with_reducible refine Kd.C_drewN ?_ _) | (with_reducible refine Kd.C_drew ?_)))
      (case side4 => exact (Kd.R_reads' HO269.out).2.1)
      rintro e w179 ⟨rfl, hb⟩
      refine ⟨_, rfl, ?_⟩
      have n0_ := Aside0.mk (Kd.R_below (rD HO_257000.out) hb)
      have n1_ := Aside0.mk (Kd.R_below (rD HO_261000.out) hb)
      have n2_ := Aside0.mk (Kd.R_below (rD HO_266000.out) hb)
      have n3_ := Aside0.mk (Kd.R_below (rD HO269.out) hb)
      have n4_ := Aside0.mk (blk_below (bkD BK247) hb)
      have n5_ := Aside0.mk (blk_below (bkD BK256) hb)
      have n6_ := Aside0.mk (blk_below (bkD BK260) hb)
      have n7_ := Aside0.mk (blk_below (bkD BK265) hb)
      have n8_ := Aside0.mk (below_step (hbD HB) hb)
      clear HO_257000 HO_261000 HO_266000 HO269 BK247 BK256 BK260 BK265 HB
      have HO_257000 := n0_
      have HO_261000 := n1_
      have HO_266000 := n2_
      have HO269 := n3_
      have BK247 := n4_
      have BK256 := n5_
      have BK260 := n6_
      have BK265 := n7_
      have HB := n8_
      clear n0_ n1_ n2_ n3_ n4_ n5_ n6_ n7_ n8_
      (try clear hb)
      (try clear hb2)
      (try clear hk)
      (try clear hi)
      refine hK.out _ _ ⟨(blk_cell BK260.out 0).trans rfl, (blk_cell BK247.out 0).trans rfl⟩ (fun hHeld => ?_)
      clear hK K
      refine norm_ (a' := ?_) ?_ ?_
      rotate_left
      ·show Act.put _ (some 48) _ = _
       simp only [Act.put, List.setIfInBounds_toArray, List.set_cons_zero, List.set_cons_succ, i64_w, i32_w]
       rfl
      refine pure_ (i := 4) (N := some 49) (v := ?_) (a' := ?_) #[true, true, true, true, true] rfl rfl (by kernel_rfl) (fun _ _ _ h => h) (Or.inl ⟨by rfl, ?_⟩) ?_ ?_
      rotate_left
      ·intro w'
       go_simp
       with_reducible rfl
      rotate_left
      ·simp only [Act.put, List.setIfInBounds_toArray, List.set_cons_zero, List.set_cons_succ, i64_w, i32_w]
       rfl
      refine done_ (by kernel_rfl) ?_
      try go_wp2
      go_ret
      exact ⟨by first | rfl | (simp [errW_none, errW_some] <;> rfl) | (simp [*, errW_none, errW_some] <;> rfl), by repeat (first | (with_reducible first | exact HB.out | apply below_alloc | apply pw_below_drewN | apply below_drew1 | refine below_set ?_ GE247.out | refine below_set ?_ GE256.out | refine below_set ?_ GE260.out | refine below_set ?_ GE265.out) | exact HB.out)⟩

end Go.Proofs.YtciabhncmdpeeaaDoor.QFnExactTreeDelete
