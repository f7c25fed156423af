/- What the law FnExactTreeJoin reaches: each function as a plain function, and that the machine's call does it (written by a program). The condition, where there is one: errors.errorType reads as laid. -/
import Derived.Test.YtciabhncmdpeeaaDoorQFnExactTreeJoinx0
import Derived.Test.YtciabhncmdpeeaaDoorQFnExactTreeJoinx3
import Derived.Test.YtciabhncmdpeeaaDoorQFnExactTreeJoinx4
import Derived.Test.YtciabhncmdpeeaaDoorQFnExactTreeJoinx6
import Derived.Test.YtciabhncmdpeeaaDoorSq
namespace Go.Proofs.YtciabhncmdpeeaaDoor.QFnExactTreeJoin
open Go.Proofs.YtciabhncmdpeeaaDoor.Er Go.Proofs.YtciabhncmdpeeaaDoor.Sq
open Go.RowKit Go.Proofs.YtciabhncmdpeeaaDoorW.PrintWords Go.Proofs.YtciabhncmdpeeaaDoorW.PrintLast Go.Proofs.YtciabhncmdpeeaaDoorW.PrintMore
set_option maxRecDepth 100000
attribute [local go_sem] max2_int min2_int max_two min_two max_three min_three max_four min_four   -- for this text's walks alone
set_option linter.unusedVariables false
set_option linter.unusedSimpArgs false

mutual
def spec_l2Delete.j0 : Nat → Int → List (S54) → Int → Bool → Option ((List (S54)))
 | 0, _, _, _, _ => none
 | k + 1, x1, x5, x8, x28 => if x28 = true then (if 0 ≤ (wrap64 (x1 + 1)) then (if (wrap64 (x1 + 1)) < (x5.length : Int) then (if 0 ≤ x1 then (if x1 < (x5.length : Int) then (spec_l2Delete.j1 k (x5.set (x1 : Int).toNat (⟨(⟨(rd_T54 x5 (wrap64 (x1 + 1))).f0.f0, (rd_T54 x5 (wrap64 (x1 + 1))).f0.f1, (rd_T54 x5 (wrap64 (x1 + 1))).f0.f2⟩ : S50), (rd_T54 x5 x1).f1⟩ : S54)) (wrap64 (x1 + 1))) else (none)) else (none)) else (none)) else (none)) else (spec_l2Delete.j1 k x5 x8)
def spec_l2Delete.j1 : Nat → List (S54) → Int → Option ((List (S54)))
 | 0, _, _ => none
 | k + 1, x5, x8 => (spec_l2Range.f k x5 x8).bind fun bt222 => (spec_l2Delete.l0 k x5 bt222.2 x8 bt222.1)
def spec_l2Delete.l0 : Nat → List (S54) → Int → Int → Int → Option ((List (S54)))
 | 0, _, _, _, _ => none
 | k + 1, x5, x7, x8, x9 => if x9 < x7 then (if x9 = x8 then (spec_l2Delete.l0 k x5 x7 x8 (wrap64 (x9 + 1))) else (if 0 ≤ x9 then (if x9 < (x5.length : Int) then (spec_l2Delete.l0 k (x5.set (x9 : Int).toNat (⟨(⟨(rd_T54 x5 x9).f0.f0, (rd_T54 x5 x9).f0.f1, (rd_T54 x5 x9).f0.f2⟩ : S50), wrap64 (((rd_T54 x5 x9).f1) - 1)⟩ : S54)) x7 x8 (wrap64 (x9 + 1))) else (none)) else (none))) else (if 0 ≤ x8 then (if x8 ≤ (x5.length : Int) then ((spec_l2Copy.f (x5.take (x8 : Int).toNat)).bind fun t230 => (if 0 ≤ (wrap64 (x8 + 1)) then (if (wrap64 (x8 + 1)) ≤ (x5.length : Int) then ((some (x5.drop ((wrap64 (x8 + 1)) : Int).toNat : List (S54))).bind fun y233 => (if t230.length + y233.length < 4398046511104 then ((spec_l2Repair.f k (t230 ++ y233)).bind fun t240 => (some t240)) else (none))) else (none)) else (none))) else (none)) else (none))
end
def spec_l2Delete.f (k : Nat) (l0 : List (S54)) (a1 : Int) : Option ((List (S54))) := (spec_l2Copy.f l0).bind fun t215 => ((spec_l2Range.f k t215 a1).bind fun bt218 => (if bt218.1 < a1 then (spec_l2Delete.j0 k a1 t215 a1 (decide ((wrap64 (a1 + 1)) < bt218.2))) else (spec_l2Delete.j0 k a1 t215 a1 false)))
theorem spec_l2Delete.mono_l : ∀ k, (∀ y0 y1 y2 y3, LeO (spec_l2Delete.j0 k y0 y1 y2 y3) (spec_l2Delete.j0 (k + 1) y0 y1 y2 y3)) ∧ (∀ y0 y1, LeO (spec_l2Delete.j1 k y0 y1) (spec_l2Delete.j1 (k + 1) y0 y1)) ∧ (∀ y0 y1 y2 y3, LeO (spec_l2Delete.l0 k y0 y1 y2 y3) (spec_l2Delete.l0 (k + 1) y0 y1 y2 y3))
 | 0 => ⟨fun _ _ _ _ r h => by simp [spec_l2Delete.j0] at h, fun _ _ r h => by simp [spec_l2Delete.j1] at h, fun _ _ _ _ r h => by simp [spec_l2Delete.l0] at h⟩
 | k + 1 => by
  obtain ⟨ih0, ih1, ih2⟩ := spec_l2Delete.mono_l k; refine ⟨?_, ?_, ?_⟩
  ·intro y0 y1 y2 y3
   unfold spec_l2Delete.j0
   repeat' first
   | (with_reducible exact ih0 _ _ _ _)
   | (with_reducible exact ih1 _ _)
   | (with_reducible exact ih2 _ _ _ _)
   | (with_reducible exact spec_l2Range.mono _ _ _)
   | (with_reducible exact spec_l2Repair.mono _ _)
   | (with_reducible exact LeO.refl _)
   | (with_reducible exact LeO.none _)
   | (with_reducible refine LeO.ite ?_ ?_)
   | (with_reducible refine LeO.bind ?_ (fun _ => ?_))
   | exact ih0 _ _ _ _
   | exact ih1 _ _
   | exact ih2 _ _ _ _
   | exact spec_l2Range.mono _ _ _
   | exact spec_l2Repair.mono _ _
   | exact LeO.none _
   | refine LeO.ite ?_ ?_
   | refine LeO.bind ?_ (fun _ => ?_)
  ·intro y0 y1
   unfold spec_l2Delete.j1
   repeat' first
   | (with_reducible exact ih0 _ _ _ _)
   | (with_reducible exact ih1 _ _)
   | (with_reducible exact ih2 _ _ _ _)
   | (with_reducible exact spec_l2Range.mono _ _ _)
   | (with_reducible exact spec_l2Repair.mono _ _)
   | (with_reducible exact LeO.refl _)
   | (with_reducible exact LeO.none _)
   | (with_reducible refine LeO.ite ?_ ?_)
   | (with_reducible refine LeO.bind ?_ (fun _ => ?_))
   | exact ih0 _ _ _ _
   | exact ih1 _ _
   | exact ih2 _ _ _ _
   | exact spec_l2Range.mono _ _ _
   | exact spec_l2Repair.mono _ _
   | exact LeO.none _
   | refine LeO.ite ?_ ?_
   | refine LeO.bind ?_ (fun _ => ?_)
  ·intro y0 y1 y2 y3
   unfold spec_l2Delete.l0
   repeat' first
   | (with_reducible exact ih0 _ _ _ _)
   | (with_reducible exact ih1 _ _)
   | (with_reducible exact ih2 _ _ _ _)
   | (with_reducible exact spec_l2Range.mono _ _ _)
   | (with_reducible exact spec_l2Repair.mono _ _)
   | (with_reducible exact LeO.refl _)
   | (with_reducible exact LeO.none _)
   | (with_reducible refine LeO.ite ?_ ?_)
   | (with_reducible refine LeO.bind ?_ (fun _ => ?_))
   | exact ih0 _ _ _ _
   | exact ih1 _ _
   | exact ih2 _ _ _ _
   | exact spec_l2Range.mono _ _ _
   | exact spec_l2Repair.mono _ _
   | exact LeO.none _
   | refine LeO.ite ?_ ?_
   | refine LeO.bind ?_ (fun _ => ?_)
theorem spec_l2Delete.mono : ∀ a0 a1 k, LeO (spec_l2Delete.f k a0 a1) (spec_l2Delete.f (k + 1) a0 a1) := by
 intro a0 a1 k; obtain ⟨ih0, ih1, ih2⟩ := spec_l2Delete.mono_l k; unfold spec_l2Delete.f
 repeat' first
   | (with_reducible exact ih0 _ _ _ _)
   | (with_reducible exact ih1 _ _)
   | (with_reducible exact ih2 _ _ _ _)
   | (with_reducible exact spec_l2Range.mono _ _ _)
   | (with_reducible exact spec_l2Repair.mono _ _)
   | (with_reducible exact LeO.refl _)
   | (with_reducible exact LeO.none _)
   | (with_reducible refine LeO.ite ?_ ?_)
   | (with_reducible refine LeO.bind ?_ (fun _ => ?_))
   | exact ih0 _ _ _ _
   | exact ih1 _ _
   | exact ih2 _ _ _ _
   | exact spec_l2Range.mono _ _ _
   | exact spec_l2Repair.mono _ _
   | exact LeO.none _
   | refine LeO.ite ?_ ?_
   | refine LeO.bind ?_ (fun _ => ?_)
set_option maxHeartbeats 8000000 in
theorem spec_l2Delete.calls (k : Nat) (A0 : Option Addr) (c0 : Nat) (l0 : List (S54)) (a1 : Int) (r : List (S54)) (w : World) (hr0 : Kd.C k54 w A0 l0.length l0) (hc0 : l0.length ≤ c0) (h : spec_l2Delete.f k l0 a1 = some r) :
  Calls Tryd.prog 98 #[.slice A0 l0.length c0, .int .i64 a1] w fun e w' => ∃ v0_ : Value, e = .returned (v0_) ∧ Kd.R k54 54 w' w.heap.size (fun _ => True) v0_ r ∧ Below w.heap.size w w' := by
 have hu50 := Tryd.underlying50; have HR0 := Aside0.mk hr0; have HC0 := Aside0.mk hc0; clear hr0 hc0; have HB := Aside0.mk (Below.refl w.heap.size w); have H : ((spec_l2Copy.f l0).bind fun t215 => ((spec_l2Range.f k t215 a1).bind fun bt218 => (if bt218.1 < a1 then (spec_l2Delete.j0 k a1 t215 a1 (decide ((wrap64 (a1 + 1)) < bt218.2))) else (spec_l2Delete.j0 k a1 t215 a1 false)))) = some r := h; clear h; replace H := Option.bind_eq_some_iff.mp H; obtain ⟨t215, A30, H⟩ := H; replace H : ((spec_l2Range.f k t215 a1).bind fun bt218 => (if bt218.1 < a1 then (spec_l2Delete.j0 k a1 t215 a1 (decide ((wrap64 (a1 + 1)) < bt218.2))) else (spec_l2Delete.j0 k a1 t215 a1 false))) = some r := H; have A3 := Aside0.mk A30; clear A30; replace H := Option.bind_eq_some_iff.mp H; obtain ⟨⟨t218, t219⟩, A40, H⟩ := H; replace H : (if t218 < a1 then (spec_l2Delete.j0 k a1 t215 a1 (decide ((wrap64 (a1 + 1)) < t219))) else (spec_l2Delete.j0 k a1 t215 a1 false)) = some r := H; have A4 := Aside0.mk A40; clear A40; have HC5 := Aside0.mk H; clear H; go_enter Tryd.func98, Tryd.ntmps98; go_upto_region 4 with (first | ((with_reducible refine gate_callee (f := 119) rfl ?_); refine goesL_ (some 12) rfl rfl Tryd.func119 (by kernel_rfl) rfl #[.slice A0 l0.length c0] rfl (by (try simp only [List.map_toArray, List.map_cons, List.map_nil]); first | done | rfl | (simp only [List.length_drop, List.length_take]; rfl)) ?_; (with_reducible refine (spec_l2Copy.calls _ _ l0 t215 _ ?side1 ?side2 A3.out).mono ?_); (case side1 => repeat (first | exact HR0.out | (with_reducible refine Kd.C_alloc ?_ _) | (with_reducible refine Kd.C_drewN ?_ _) | (with_reducible refine Kd.C_drew ?_))); (case side2 => exact HC0.out); rintro e w6 ⟨v216, rfl, ho0, hb⟩; refine ⟨_, rfl, ?_⟩; have HO217 := Aside0.mk (Kd.R_lower ho0 (below_size (hbD HB))); replace HB := Aside0.mk (below_step (hbD HB) hb); (try clear hb); (try clear hb2); (try clear hk); (try clear hi); (try clear ho0); obtain ⟨Ao7, co7, eo7⟩ := Kd.R_slice HO217.out; subst eo7) | ((with_reducible refine gate_callee (f := 121) rfl ?_); refine goesL_ (some 16) rfl rfl Tryd.func121 (by kernel_rfl) rfl #[.slice Ao7 t215.length co7, .int .i64 a1] rfl (by (try simp only [List.map_toArray, List.map_cons, List.map_nil]); first | done | rfl | (simp only [List.length_drop, List.length_take]; rfl)) ?_; (with_reducible refine (spec_l2Range.calls k _ _ t215 a1 t218 t219 _ ?side1 ?side2 A4.out).mono ?_); (case side1 => exact cD (Kd.R_reads' HO217.out).2.2); (case side2 => exact (Kd.R_reads' HO217.out).2.1); rintro e w' ⟨rfl, ⟨nd, rfl⟩⟩; refine ⟨_, rfl, ?_⟩))
 (try simp only [Act.put, zA_, zZ_, zS_]); go_cut [28] (fun v28 wc => ∃ (kq : Nat) (x28_4 : Bool), v28 = .bool x28_4 ∧ Aside0 (spec_l2Delete.j0 kq a1 t215 a1 x28_4 = some r) ∧ Aside0 (kq ≤ k) ∧ Aside0 (Kd.R k54 54 wc w.heap.size (fun _ => True) (.slice Ao7 t215.length co7) t215) ∧ Aside0 (Below w.heap.size w wc))
 case first =>
  have H := HC5.out; clear HC5; by_cases c8 : t218 < a1
  ·rw [if_pos c8] at H
   have c8b0 : decide (t218 < a1) = true := decide_eq_true c8; clear c8; (first | rw [c8b0] | (simp only [i64_w, i32_w]; rw [c8b0]) | skip); have H' := Aside0.mk H; clear H; go_wp2; go_meet
   case rel => exact ⟨_, (decide ((wrap64 (a1 + 1)) < t219)), (by first | rfl | (simp; done) | (simp [*]; done)), H', ⟨by first | omega | exact Nat.le_refl _⟩, ⟨by (with_reducible repeat (first | apply Kd.R_alloc | apply Kd.R_drewN | apply Kd.R_drew)); exact HO217.out⟩, ⟨by repeat (first | (with_reducible first | exact HB.out | apply below_alloc | apply pw_below_drewN | apply below_drew1) | exact HB.out)⟩⟩
  ·rw [if_neg c8] at H
   have c8b0 : decide (t218 < a1) = false := decide_eq_false c8; clear c8; (first | rw [c8b0] | (simp only [i64_w, i32_w]; rw [c8b0]) | skip); have H' := Aside0.mk H; clear H; go_wp2; go_meet
   case rel => exact ⟨_, (false), (by first | rfl | (simp; done) | (simp [*]; done)), H', ⟨by first | omega | exact Nat.le_refl _⟩, ⟨by (with_reducible repeat (first | apply Kd.R_alloc | apply Kd.R_drewN | apply Kd.R_drew)); exact HO217.out⟩, ⟨by repeat (first | (with_reducible first | exact HB.out | apply below_alloc | apply pw_below_drewN | apply below_drew1) | exact HB.out)⟩⟩
 case rest =>
  clear HC5; (try clear c1); (try clear p2); (try clear p6); (try clear c8); (try clear c8b0); obtain ⟨kq, x28_4, rfl, HA, HJ4, HO_5, HB⟩ := hcut
  cases kq with
  | zero => exact absurd HA.out (by simp [spec_l2Delete.j0])
  | succ kj4 =>
   have H := HA.out; clear HA; simp only [spec_l2Delete.j0] at H; have HC9 := Aside0.mk H; clear H; go_upto_if 28 with (fail)
   go_cut [8] (fun v8 wc => ∃ (kq : Nat) (x5_8 : List (S54)) (x8_8 : Int), v8 = .int .i64 x8_8 ∧ Aside0 (spec_l2Delete.j1 kq x5_8 x8_8 = some r) ∧ Aside0 (kq ≤ kj4) ∧ Aside0 (Kd.R k54 54 wc w.heap.size (fun _ => True) (.slice Ao7 t215.length co7) x5_8) ∧ Aside0 (Below w.heap.size w wc))
   case first =>
    have H := HC9.out; clear HC9; by_cases c10 : x28_4 = true
    ·subst c10
     have H1 : (if 0 ≤ (wrap64 (a1 + 1)) then (if (wrap64 (a1 + 1)) < (t215.length : Int) then (if 0 ≤ a1 then (if a1 < (t215.length : Int) then (spec_l2Delete.j1 kj4 (t215.set (a1 : Int).toNat (⟨(⟨(rd_T54 t215 (wrap64 (a1 + 1))).f0.f0, (rd_T54 t215 (wrap64 (a1 + 1))).f0.f1, (rd_T54 t215 (wrap64 (a1 + 1))).f0.f2⟩ : S50), (rd_T54 t215 a1).f1⟩ : S54)) (wrap64 (a1 + 1))) else (none)) else (none)) else (none)) else (none)) = some r := by rw [if_pos rfl] at H; exact H
     clear H; have H := H1; clear H1; obtain ⟨ji11, hji11⟩ : ∃ j_ : Int, (wrap64 (a1 + 1)) = j_ := ⟨_, rfl⟩; replace H : (if 0 ≤ (ji11) then (if (ji11) < (t215.length : Int) then (if 0 ≤ a1 then (if a1 < (t215.length : Int) then (spec_l2Delete.j1 kj4 (t215.set (a1 : Int).toNat (⟨(⟨(rd_T54 t215 (ji11)).f0.f0, (rd_T54 t215 (ji11)).f0.f1, (rd_T54 t215 (ji11)).f0.f2⟩ : S50), (rd_T54 t215 a1).f1⟩ : S54)) ji11) else (none)) else (none)) else (none)) else (none)) = some r := by first | (rw [hji11] at H; exact H) | (simp only [hji11] at H ⊢; exact H)
     have hji11w : (IntKind.i64.wrap (a1 + 1)) = ji11 := (i64_w _).trans hji11; by_cases c12 : 0 ≤ (ji11)
     ·rw [if_pos c12] at H
      have c12b0 : decide (0 ≤ (ji11)) = true := decide_eq_true c12; clear c12; (first | rw [c12b0] | (simp only [i64_w, i32_w]; rw [c12b0]) | skip); by_cases c13 : (ji11) < (t215.length : Int)
      ·rw [if_pos c13] at H
       have c13b0 : decide ((ji11) < (t215.length : Int)) = true := decide_eq_true c13; clear c13; by_cases c14 : 0 ≤ a1
       ·rw [if_pos c14] at H
        have c14b0 : decide (0 ≤ a1) = true := decide_eq_true c14; clear c14; by_cases c15 : a1 < (t215.length : Int)
        ·rw [if_pos c15] at H
         have c15b0 : decide (a1 < (t215.length : Int)) = true := decide_eq_true c15; clear c15; obtain ⟨y221, hy221⟩ : ∃ y_ : List (S54), y_ = (t215.set (a1 : Int).toNat (⟨(⟨(rd_T54 t215 (ji11)).f0.f0, (rd_T54 t215 (ji11)).f0.f1, (rd_T54 t215 (ji11)).f0.f2⟩ : S50), (rd_T54 t215 a1).f1⟩ : S54)) := ⟨_, rfl⟩; replace H : (spec_l2Delete.j1 kj4 y221 ji11) = some r := by first | (rw [hy221]; with_reducible exact H) | (have H2_ := (Option.bind_some _ _).symm.trans H; rw [hy221]; with_reducible exact H2_) | (have H2_ := (Option.bind_some _ _).symm.trans H; with_reducible exact H2_) | with_reducible exact H | (rw [hy221]; exact H) | exact H
         have Ny221 := Aside0.mk hy221; clear hy221; have H' := Aside0.mk H; clear H; have p220 : 0 ≤ ((ji11) : Int) := of_decide_eq_true (by first | (with_reducible assumption) | assumption); have q220 : (ji11) < (t215.length : Int) := of_decide_eq_true (by first | (with_reducible assumption) | assumption); obtain ⟨ad220, e220, hx220_0, hx220_1, hx220_2, hx220_3⟩ := at_T54 (Kd.R_reads' HO_5.out).2.2 (ji11) p220 q220
         cases e220
         replace p220 := eq_true p220; replace q220 := eq_true q220; have p16 : 0 ≤ (a1 : Int) := of_decide_eq_true (by first | (with_reducible assumption) | assumption); have q16 : (a1 : Int) < ((t215.length : Int) : Int) := of_decide_eq_true (by first | (with_reducible assumption) | assumption); obtain ⟨go16, co16, eo16, gb16, gl16, cl16, HG16⟩ := Kd.R_form HO_5.out (by omega); (first | cases eo16 | (injection eo16 with ea_ en_ ec_; (first | subst ea_ | (injection ea_ with ea_; subst ea_)); subst ec_; clear en_)); have GB16 := Aside0.mk gb16; have GG16 := Aside0.mk HG16; clear gb16 gl16 HG16; (first | simp only [add_plain] at hx220_0 | skip); (first | simp only [add_plain] at hx220_1 | skip); (first | simp only [add_plain] at hx220_2 | skip); (first | simp only [add_plain] at hx220_3 | skip); obtain ⟨ce16, hcl16, hM16, hcc16, hfr16⟩ := Kd.R_elem HO_5.out z54 (a1 : Int) p16 q16; obtain rfl := k54_openM hM16; have hx16_0 : wc.cell? ⟨go16, (a1 : Int).toNat * 4, none⟩ = some (.int .i64 ((rd_T54 t215 a1).f0.f0)) := hcc16 0 _ rfl; have hx16_1 : wc.cell? ⟨go16, (a1 : Int).toNat * 4 + 1, none⟩ = some (.int .i64 ((rd_T54 t215 a1).f0.f1)) := hcc16 1 _ rfl; have hx16_2 : wc.cell? ⟨go16, (a1 : Int).toNat * 4 + 2, none⟩ = some (.int .i64 ((rd_T54 t215 a1).f0.f2)) := hcc16 2 _ rfl; have hx16_3 : wc.cell? ⟨go16, (a1 : Int).toNat * 4 + 3, none⟩ = some (.int .i64 ((rd_T54 t215 a1).f1)) := hcc16 3 _ rfl; have hf16_0 : wc.frozen? ⟨go16, (a1 : Int).toNat * 4, none⟩ = false := hfr16 0; have hf16_1 : wc.frozen? ⟨go16, (a1 : Int).toNat * 4 + 1, none⟩ = false := hfr16 1; have hf16_2 : wc.frozen? ⟨go16, (a1 : Int).toNat * 4 + 2, none⟩ = false := hfr16 2; have hf16_3 : wc.frozen? ⟨go16, (a1 : Int).toNat * 4 + 3, none⟩ = false := hfr16 3; clear hcl16 hcc16 hfr16 hM16; replace p16 := eq_true p16; replace q16 := eq_true q16; have HX17 := Aside0.mk (show Kd.R k54 54 wc w.heap.size (fun _ => True) (.slice (some ⟨go16, 0, none⟩) t215.length co7) t215 from (rD HO_5.out)); obtain ⟨ce17, hcl17, hM17, hcc17, hfr17⟩ := Kd.R_elem HX17.out z54 (a1 : Int) (of_decide_eq_true (by first | (with_reducible assumption) | assumption)) (by have h_ : (a1 : Int) < ((t215.length : Int) : Int) := of_decide_eq_true (by first | (with_reducible assumption) | assumption); first | exact h_ | (have e_ := (Kd.R_reads' HO_5.out).1; omega) | simpa using h_); obtain rfl := k54_openM hM17; have HP17 := Kd.R_seg HX17.out (a1 : Int) (of_decide_eq_true (by first | (with_reducible assumption) | assumption)) (by have h_ : (a1 : Int) < ((t215.length : Int) : Int) := of_decide_eq_true (by first | (with_reducible assumption) | assumption); first | exact h_ | (have e_ := (Kd.R_reads' HO_5.out).1; omega) | simpa using h_) (seg := [.int .i64 ((rd_T54 t215 (ji11)).f0.f0), .int .i64 ((rd_T54 t215 (ji11)).f0.f1), .int .i64 ((rd_T54 t215 (ji11)).f0.f2)]) (j := 0) hcl17 hcc17 (show 3 ≤ 4 from by decide) (x' := (⟨(⟨(rd_T54 t215 (ji11)).f0.f0, (rd_T54 t215 (ji11)).f0.f1, (rd_T54 t215 (ji11)).f0.f2⟩ : S50), (rd_T54 t215 a1).f1⟩ : S54)) (k54_mkM _ _ _ (⟨(⟨(rd_T54 t215 (ji11)).f0.f0, (rd_T54 t215 (ji11)).f0.f1, (rd_T54 t215 (ji11)).f0.f2⟩ : S50), (rd_T54 t215 a1).f1⟩ : S54) ) (fun _ hk => hk); have hx17_0 := hcc17 0 _ rfl; (try simp only [show (k54).sz = 4 from rfl, Nat.mul_one, Nat.add_zero] at hx17_0); have hf17_0 := hfr17 0; (try simp only [show (k54).sz = 4 from rfl, Nat.mul_one, Nat.add_zero] at hf17_0); have hx17_1 := hcc17 1 _ rfl; (try simp only [show (k54).sz = 4 from rfl, Nat.mul_one, Nat.add_zero] at hx17_1); have hf17_1 := hfr17 1; (try simp only [show (k54).sz = 4 from rfl, Nat.mul_one, Nat.add_zero] at hf17_1); have hx17_2 := hcc17 2 _ rfl; (try simp only [show (k54).sz = 4 from rfl, Nat.mul_one, Nat.add_zero] at hx17_2); have hf17_2 := hfr17 2; (try simp only [show (k54).sz = 4 from rfl, Nat.mul_one, Nat.add_zero] at hf17_2); clear hcl17 hcc17 hfr17 hM17; go_wp2_with (first | ((with_reducible refine gate_store (t := 50) (p := 39) rfl ?_); refine store_event (t := 50) (p := 39) (v := ?vo_w18) (w1 := (((wc.setCell ⟨go16, (a1 : Int).toNat * 4, none⟩ (.int .i64 ((rd_T54 t215 (ji11)).f0.f0))).setCell ⟨go16, (a1 : Int).toNat * 4 + 1, none⟩ (.int .i64 ((rd_T54 t215 (ji11)).f0.f1))).setCell ⟨go16, (a1 : Int).toNat * 4 + 2, none⟩ (.int .i64 ((rd_T54 t215 (ji11)).f0.f2)))) ?hg ?ho ?hn ?hr ?_; (case ho => rfl); (case hg => rfl); (case hn => rfl); (case hr => first | (go_simp; done) | (go_simp; rfl)); intro w18 hw; have hg : wc.grownBy w18 (some go16) := (by rw [hw]; exact HP17.2); have hp_ : Kd.R k54 54 w18 w.heap.size (fun _ => True) (.slice (some ⟨go16, 0, none⟩) t215.length co7) y221 := (by rw [hw, Ny221.out]; exact HP17.1); clear HP17; replace HO_5 := Aside0.mk (hp_); replace HB := Aside0.mk ((by rw [hw]; exact below_set (below_set (below_set (HB.out) GB16.out) GB16.out) GB16.out : Below w.heap.size w w18)); clear hg hw hp_)); go_meet
         case rel => exact ⟨_, (y221), (ji11), (by first | rfl | (simp; done) | (simp only [← hji11] <;> (first | rfl | simp)) | (simp [*]; done)), H', ⟨by have := HJ4.out; first | omega | exact Nat.le_refl _⟩, ⟨by (with_reducible repeat (first | apply Kd.R_alloc | apply Kd.R_drewN | apply Kd.R_drew)); exact HO_5.out⟩, ⟨by repeat (first | (with_reducible first | exact HB.out | apply below_alloc | apply pw_below_drewN | apply below_drew1) | exact HB.out)⟩⟩
        ·rw [if_neg c15] at H
         exact absurd H (by simp)
       ·rw [if_neg c14] at H
        exact absurd H (by simp)
      ·rw [if_neg c13] at H
       exact absurd H (by simp)
     ·rw [if_neg c12] at H
      exact absurd H (by simp)
    ·replace c10 := Bool.eq_false_iff.mpr c10
     subst c10; have H1 : (spec_l2Delete.j1 kj4 t215 a1) = some r := by rw [if_neg (show ¬ (false = true) by decide)] at H; exact H
     clear H; have H := H1; clear H1; have H' := Aside0.mk H; clear H; go_wp2; go_meet
     case rel => exact ⟨_, (t215), (a1), (by first | rfl | (simp; done) | (simp [*]; done)), H', ⟨by have := HJ4.out; first | omega | exact Nat.le_refl _⟩, ⟨by (with_reducible repeat (first | apply Kd.R_alloc | apply Kd.R_drewN | apply Kd.R_drew)); exact HO_5.out⟩, ⟨by repeat (first | (with_reducible first | exact HB.out | apply below_alloc | apply pw_below_drewN | apply below_drew1) | exact HB.out)⟩⟩
   case rest =>
    clear HC9; (try clear c1); (try clear p1); (try clear q1); (try clear hx1); (try clear p2); (try clear q2); (try clear hx2); (try clear p6); (try clear c8); (try clear c8b0); (try clear c9); (try clear c10); (try clear c11); (try clear c12); (try clear c12b0); (try clear c13); (try clear c13b0); (try clear c14); (try clear c14b0); (try clear c15); (try clear c15b0); (try clear c16); (try clear p16); (try clear q16); (try clear hx16); (try clear hf16); (try clear c17); (try clear hx17); (try clear hf17); (try clear hx16_0); (try clear hx16_1); (try clear hx16_2); (try clear hx16_3); (try clear hx17_0); (try clear hx17_1); (try clear hx17_2); (try clear hx220_0); (try clear hx220_1); (try clear hx220_2); (try clear hx220_3); (try clear p16); (try clear p2); (try clear p220); (try clear p6); (try clear q16); (try clear q220); obtain ⟨kq, x5_8, x8_8, rfl, HA, HJ8, HO_5, HB⟩ := hcut; have hl5_8 := (Kd.R_reads' HO_5.out).1; rw [hl5_8] at HO_5; (try simp only [hl5_8])
    cases kq with
    | zero => exact absurd HA.out (by simp [spec_l2Delete.j1])
    | succ kj8 =>
     have H := HA.out; clear HA; simp only [spec_l2Delete.j1] at H; replace H := Option.bind_eq_some_iff.mp H; obtain ⟨⟨t222, t223⟩, A190, H⟩ := H; replace H : (spec_l2Delete.l0 kj8 x5_8 t223 x8_8 t222) = some r := H; have A19 := Aside0.mk A190; clear A190; have H' := Aside0.mk H; clear H; go_wp2_with (first | ((with_reducible refine gate_callee (f := 121) rfl ?_); refine goesL_ (some 43) rfl rfl Tryd.func121 (by kernel_rfl) rfl #[.slice Ao7 x5_8.length co7, .int .i64 x8_8] rfl (by (try simp only [List.map_toArray, List.map_cons, List.map_nil]); first | done | rfl | (simp only [List.length_drop, List.length_take]; rfl)) ?_; (with_reducible refine (spec_l2Range.calls kj8 _ _ x5_8 x8_8 t222 t223 _ ?side1 ?side2 A19.out).mono ?_); (case side1 => exact cD (Kd.R_reads' HO_5.out).2.2); (case side2 => exact (Kd.R_reads' HO_5.out).2.1); rintro e w' ⟨rfl, ⟨nd, rfl⟩⟩; refine ⟨_, rfl, ?_⟩)); go_loopg [9] kj8 (fun kq v9 w' => ∃ (x5_3 : List (S54)) (x9_3 : Int), v9 = .int .i64 x9_3 ∧ Aside0 (spec_l2Delete.l0 kq x5_3 t223 x8_8 x9_3 = some r) ∧ Aside0 (kq ≤ kj8) ∧ Aside0 (Kd.R k54 54 w' w.heap.size (fun _ => True) (.slice Ao7 x5_8.length co7) x5_3) ∧ Aside0 (Below w.heap.size w w'))
     case atStart => exact ⟨(x5_8), (t222), (by first | rfl | (simp; done) | (simp [*]; done)), H', ⟨Nat.le_refl _⟩, ⟨by (try simp only [hl5_8]); (with_reducible repeat (first | apply Kd.R_alloc | apply Kd.R_drewN | apply Kd.R_drew)); exact HO_5.out⟩, ⟨by repeat (first | (with_reducible first | exact HB.out | apply below_alloc | apply pw_below_drewN | apply below_drew1) | exact HB.out)⟩⟩
     case round =>
      clear H'; (try clear c1); (try clear p1); (try clear q1); (try clear hx1); (try clear p2); (try clear q2); (try clear hx2); (try clear p6); (try clear c8); (try clear c8b0); (try clear c9); (try clear c10); (try clear c11); (try clear c12); (try clear c12b0); (try clear c13); (try clear c13b0); (try clear c14); (try clear c14b0); (try clear c15); (try clear c15b0); (try clear c16); (try clear p16); (try clear q16); (try clear hx16); (try clear hf16); (try clear c17); (try clear hx17); (try clear hf17); (try clear hx16_0); (try clear hx16_1); (try clear hx16_2); (try clear hx16_3); (try clear hx17_0); (try clear hx17_1); (try clear hx17_2); (try clear hx220_0); (try clear hx220_1); (try clear hx220_2); (try clear hx220_3); (try clear p1); (try clear p16); (try clear p2); (try clear p220); (try clear p6); (try clear q1); (try clear q16); (try clear q2); (try clear q220); obtain ⟨x5_3, x9_3, rfl, HA, HK3, HO_5, HB⟩ := hrel; have hl5_3 := (Kd.R_reads' HO_5.out).1; rw [hl5_3] at HO_5; (try simp only [hl5_3])
      cases gk with
      | zero => exact absurd HA.out (by simp [spec_l2Delete.l0])
      | succ k3 =>
       have H := HA.out; clear HA; simp only [spec_l2Delete.l0] at H; by_cases c20 : x9_3 < t223
       ·rw [if_pos c20] at H
        have c20b0 : decide (x9_3 < t223) = true := decide_eq_true c20; clear c20; by_cases c21 : x9_3 = x8_8
        ·rw [if_pos c21] at H
         have c21b0 : (x9_3 == x8_8) = true := beq_iff_eq.mpr c21; have c21b1 : (x9_3 != x8_8) = false := bne_eq_false_iff_eq.mpr c21; clear c21; have H' := Aside0.mk H; clear H; go_wp2; (try simp only [← hl5_3]); go_roundg k3
         case measure => have := HJ4.out; have := HJ8.out; have := HK3.out; omega
         case rel => exact ⟨(x5_3), (wrap64 (x9_3 + 1)), (by first | rfl | (simp; done) | (simp [*]; done)), H', ⟨by have := HJ4.out; have := HJ8.out; have := HK3.out; omega⟩, ⟨by (try simp only [hl5_8]); (try simp only [hl5_3]); (with_reducible repeat (first | apply Kd.R_alloc | apply Kd.R_drewN | apply Kd.R_drew)); exact HO_5.out⟩, ⟨by repeat (first | (with_reducible first | exact HB.out | apply below_alloc | apply pw_below_drewN | apply below_drew1) | exact HB.out)⟩⟩
        ·rw [if_neg c21] at H
         have c21b0 : (x9_3 == x8_8) = false := beq_eq_false_iff_ne.mpr c21; have c21b1 : (x9_3 != x8_8) = true := bne_iff_ne.mpr c21; by_cases c22 : 0 ≤ x9_3
         ·rw [if_pos c22] at H
          have c22b0 : decide (0 ≤ x9_3) = true := decide_eq_true c22; clear c22; by_cases c23 : x9_3 < (x5_3.length : Int)
          ·rw [if_pos c23] at H
           have c23b0 : decide (x9_3 < (x5_3.length : Int)) = true := decide_eq_true c23; clear c23; obtain ⟨y225, hy225⟩ : ∃ y_ : List (S54), y_ = (x5_3.set (x9_3 : Int).toNat (⟨(⟨(rd_T54 x5_3 x9_3).f0.f0, (rd_T54 x5_3 x9_3).f0.f1, (rd_T54 x5_3 x9_3).f0.f2⟩ : S50), wrap64 (((rd_T54 x5_3 x9_3).f1) - 1)⟩ : S54)) := ⟨_, rfl⟩; replace H : (spec_l2Delete.l0 k3 y225 t223 x8_8 (wrap64 (x9_3 + 1))) = some r := by first | (rw [hy225]; with_reducible exact H) | (have H2_ := (Option.bind_some _ _).symm.trans H; rw [hy225]; with_reducible exact H2_) | (have H2_ := (Option.bind_some _ _).symm.trans H; with_reducible exact H2_) | with_reducible exact H | (rw [hy225]; exact H) | exact H
           have Ny225 := Aside0.mk hy225; clear hy225; have H' := Aside0.mk H; clear H; have p224 : 0 ≤ (x9_3 : Int) := of_decide_eq_true (by first | (with_reducible assumption) | assumption); have q224 : x9_3 < (x5_3.length : Int) := of_decide_eq_true (by first | (with_reducible assumption) | assumption); obtain ⟨ad224, e224, hx224_0, hx224_1, hx224_2, hx224_3⟩ := at_T54 (Kd.R_reads' HO_5.out).2.2 x9_3 p224 q224
           cases e224
           replace p224 := eq_true p224; replace q224 := eq_true q224; have p24 : 0 ≤ (x9_3 : Int) := of_decide_eq_true (by first | (with_reducible assumption) | assumption); have q24 : (x9_3 : Int) < ((x5_3.length : Int) : Int) := of_decide_eq_true (by first | (with_reducible assumption) | assumption); obtain ⟨go24, co24, eo24, gb24, gl24, cl24, HG24⟩ := Kd.R_form HO_5.out (by omega); (first | cases eo24 | (injection eo24 with ea_ en_ ec_; (first | subst ea_ | (injection ea_ with ea_; subst ea_)); subst ec_; clear en_)); have GB24 := Aside0.mk gb24; have GG24 := Aside0.mk HG24; clear gb24 gl24 HG24; (first | simp only [add_plain] at hx224_0 | skip); (first | simp only [add_plain] at hx224_1 | skip); (first | simp only [add_plain] at hx224_2 | skip); (first | simp only [add_plain] at hx224_3 | skip); obtain ⟨ce24, hcl24, hM24, hcc24, hfr24⟩ := Kd.R_elem HO_5.out z54 (x9_3 : Int) p24 q24; obtain rfl := k54_openM hM24; have hx24_0 : wr.cell? ⟨go24, (x9_3 : Int).toNat * 4, none⟩ = some (.int .i64 ((rd_T54 x5_3 x9_3).f0.f0)) := hcc24 0 _ rfl; have hx24_1 : wr.cell? ⟨go24, (x9_3 : Int).toNat * 4 + 1, none⟩ = some (.int .i64 ((rd_T54 x5_3 x9_3).f0.f1)) := hcc24 1 _ rfl; have hx24_2 : wr.cell? ⟨go24, (x9_3 : Int).toNat * 4 + 2, none⟩ = some (.int .i64 ((rd_T54 x5_3 x9_3).f0.f2)) := hcc24 2 _ rfl; have hx24_3 : wr.cell? ⟨go24, (x9_3 : Int).toNat * 4 + 3, none⟩ = some (.int .i64 ((rd_T54 x5_3 x9_3).f1)) := hcc24 3 _ rfl; have hf24_0 : wr.frozen? ⟨go24, (x9_3 : Int).toNat * 4, none⟩ = false := hfr24 0; have hf24_1 : wr.frozen? ⟨go24, (x9_3 : Int).toNat * 4 + 1, none⟩ = false := hfr24 1; have hf24_2 : wr.frozen? ⟨go24, (x9_3 : Int).toNat * 4 + 2, none⟩ = false := hfr24 2; have hf24_3 : wr.frozen? ⟨go24, (x9_3 : Int).toNat * 4 + 3, none⟩ = false := hfr24 3; clear hcl24 hcc24 hfr24 hM24; replace p24 := eq_true p24; replace q24 := eq_true q24; have HX25 := Aside0.mk (show Kd.R k54 54 wr w.heap.size (fun _ => True) (.slice (some ⟨go24, 0, none⟩) x5_3.length co7) x5_3 from (rD HO_5.out)); obtain ⟨ce25, hcl25, hM25, hcc25, hfr25⟩ := Kd.R_elem HX25.out z54 (x9_3 : Int) (of_decide_eq_true (by first | (with_reducible assumption) | assumption)) (by have h_ : (x9_3 : Int) < ((x5_3.length : Int) : Int) := of_decide_eq_true (by first | (with_reducible assumption) | assumption); first | exact h_ | (have e_ := (Kd.R_reads' HO_5.out).1; omega) | simpa using h_); obtain rfl := k54_openM hM25; have HP25 := Kd.R_seg HX25.out (x9_3 : Int) (of_decide_eq_true (by first | (with_reducible assumption) | assumption)) (by have h_ : (x9_3 : Int) < ((x5_3.length : Int) : Int) := of_decide_eq_true (by first | (with_reducible assumption) | assumption); first | exact h_ | (have e_ := (Kd.R_reads' HO_5.out).1; omega) | simpa using h_) (seg := [.int .i64 (wrap64 (((rd_T54 x5_3 x9_3).f1) - 1))]) (j := 3) hcl25 hcc25 (show 4 ≤ 4 from by decide) (x' := (⟨(⟨(rd_T54 x5_3 x9_3).f0.f0, (rd_T54 x5_3 x9_3).f0.f1, (rd_T54 x5_3 x9_3).f0.f2⟩ : S50), wrap64 (((rd_T54 x5_3 x9_3).f1) - 1)⟩ : S54)) (k54_mkM _ _ _ (⟨(⟨(rd_T54 x5_3 x9_3).f0.f0, (rd_T54 x5_3 x9_3).f0.f1, (rd_T54 x5_3 x9_3).f0.f2⟩ : S50), wrap64 (((rd_T54 x5_3 x9_3).f1) - 1)⟩ : S54) ) (fun _ hk => hk); have hx25_3 := hcc25 3 _ rfl; (try simp only [show (k54).sz = 4 from rfl, Nat.mul_one, Nat.add_zero] at hx25_3); have hf25_3 := hfr25 3; (try simp only [show (k54).sz = 4 from rfl, Nat.mul_one, Nat.add_zero] at hf25_3); clear hcl25 hcc25 hfr25 hM25; go_wp2_with (first | ((with_reducible refine gate_store (t := 3) (p := 62) rfl ?_); refine store_event (t := 3) (p := 62) (v := ?vo_w26) (w1 := (wr.setCell ⟨go24, (x9_3 : Int).toNat * 4 + 3, none⟩ (.int .i64 (wrap64 (((rd_T54 x5_3 x9_3).f1) - 1))))) ?hg ?ho ?hn ?hr ?_; (case ho => rfl); (case hg => rfl); (case hn => rfl); (case hr => first | (go_simp; done) | (go_simp; rfl)); intro w26 hw; have hg : wr.grownBy w26 (some go24) := (by rw [hw]; exact HP25.2); have hp_ : Kd.R k54 54 w26 w.heap.size (fun _ => True) (.slice (some ⟨go24, 0, none⟩) x5_3.length co7) y225 := (by rw [hw, Ny225.out]; exact HP25.1); clear HP25; replace HO_5 := Aside0.mk (hp_); replace HB := Aside0.mk ((by rw [hw]; exact below_set (HB.out) GB24.out : Below w.heap.size w w26)); clear hg hw hp_)); (try simp only [← hl5_3]); go_roundg k3
           case measure => have := HJ4.out; have := HJ8.out; have := HK3.out; omega
           case rel => exact ⟨(y225), (wrap64 (x9_3 + 1)), (by first | rfl | (simp; done) | (simp [*]; done)), H', ⟨by have := HJ4.out; have := HJ8.out; have := HK3.out; omega⟩, ⟨by (try simp only [hl5_8]); (try simp only [hl5_3]); (with_reducible repeat (first | apply Kd.R_alloc | apply Kd.R_drewN | apply Kd.R_drew)); exact HO_5.out⟩, ⟨by repeat (first | (with_reducible first | exact HB.out | apply below_alloc | apply pw_below_drewN | apply below_drew1) | exact HB.out)⟩⟩
          ·rw [if_neg c23] at H
           exact absurd H (by simp)
         ·rw [if_neg c22] at H
          exact absurd H (by simp)
       ·rw [if_neg c20] at H
        have c20b0 : decide (x9_3 < t223) = false := decide_eq_false c20; clear c20; by_cases c27 : 0 ≤ x8_8
        ·rw [if_pos c27] at H
         have c27b0 := eq_true c27; have c27b1 : decide (0 ≤ x8_8) = true := decide_eq_true c27; clear c27; by_cases c28 : x8_8 ≤ (x5_3.length : Int)
         ·rw [if_pos c28] at H
          have c28b0 := eq_true c28; have c28b1 : decide (x8_8 ≤ (x5_3.length : Int)) = true := decide_eq_true c28; clear c28; obtain ⟨y226, hy226⟩ : ∃ y_ : List (S54), y_ = (x5_3.take (x8_8 : Int).toNat) := ⟨_, rfl⟩; replace H : ((spec_l2Copy.f y226).bind fun t230 => (if 0 ≤ (wrap64 (x8_8 + 1)) then (if (wrap64 (x8_8 + 1)) ≤ (x5_3.length : Int) then ((some (x5_3.drop ((wrap64 (x8_8 + 1)) : Int).toNat : List (S54))).bind fun y233 => (if t230.length + y233.length < 4398046511104 then ((spec_l2Repair.f k3 (t230 ++ y233)).bind fun t240 => (some t240)) else (none))) else (none)) else (none))) = some r := by first | (rw [hy226]; with_reducible exact H) | (have H2_ := (Option.bind_some _ _).symm.trans H; rw [hy226]; with_reducible exact H2_) | (have H2_ := (Option.bind_some _ _).symm.trans H; with_reducible exact H2_) | with_reducible exact H | (rw [hy226]; exact H) | exact H
          have Ny226 := Aside0.mk hy226; clear hy226; replace H := Option.bind_eq_some_iff.mp H; obtain ⟨t230, A290, H⟩ := H; replace H : (if 0 ≤ (wrap64 (x8_8 + 1)) then (if (wrap64 (x8_8 + 1)) ≤ (x5_3.length : Int) then ((some (x5_3.drop ((wrap64 (x8_8 + 1)) : Int).toNat : List (S54))).bind fun y233 => (if t230.length + y233.length < 4398046511104 then ((spec_l2Repair.f k3 (t230 ++ y233)).bind fun t240 => (some t240)) else (none))) else (none)) else (none)) = some r := H; have A29 := Aside0.mk A290; clear A290; obtain ⟨ji30, hji30⟩ : ∃ j_ : Int, (wrap64 (x8_8 + 1)) = j_ := ⟨_, rfl⟩; replace H : (if 0 ≤ (ji30) then (if (ji30) ≤ (x5_3.length : Int) then ((some (x5_3.drop ((ji30) : Int).toNat : List (S54))).bind fun y233 => (if t230.length + y233.length < 4398046511104 then ((spec_l2Repair.f k3 (t230 ++ y233)).bind fun t240 => (some t240)) else (none))) else (none)) else (none)) = some r := by first | (rw [hji30] at H; exact H) | (simp only [hji30] at H ⊢; exact H)
          (try rw [hji30] at A29); have hji30w : (IntKind.i64.wrap (x8_8 + 1)) = ji30 := (i64_w _).trans hji30; by_cases c31 : 0 ≤ (ji30)
          ·rw [if_pos c31] at H
           have c31b0 := eq_true c31; have c31b1 : decide (0 ≤ (ji30)) = true := decide_eq_true c31; clear c31; by_cases c32 : (ji30) ≤ (x5_3.length : Int)
           ·rw [if_pos c32] at H
            have c32b0 := eq_true c32; have c32b1 : decide ((ji30) ≤ (x5_3.length : Int)) = true := decide_eq_true c32; clear c32; obtain ⟨y233, hy233⟩ : ∃ y_ : List (S54), y_ = (x5_3.drop ((ji30) : Int).toNat) := ⟨_, rfl⟩; replace H : (if t230.length + y233.length < 4398046511104 then ((spec_l2Repair.f k3 (t230 ++ y233)).bind fun t240 => (some t240)) else (none)) = some r := by first | (rw [hy233]; with_reducible exact H) | (have H2_ := (Option.bind_some _ _).symm.trans H; rw [hy233]; with_reducible exact H2_) | (have H2_ := (Option.bind_some _ _).symm.trans H; with_reducible exact H2_) | with_reducible exact H | (rw [hy233]; exact H) | exact H
            have Ny233 := Aside0.mk hy233; clear hy233; by_cases c33 : t230.length + y233.length < 4398046511104
            ·rw [if_pos c33] at H
             have LMc33 := Aside0.mk c33; clear c33; obtain ⟨y237, hy237⟩ : ∃ y_ : List (S54), y_ = (t230 ++ y233) := ⟨_, rfl⟩; replace H : ((spec_l2Repair.f k3 y237).bind fun t240 => (some t240)) = some r := by first | (rw [hy237]; with_reducible exact H) | (have H2_ := (Option.bind_some _ _).symm.trans H; rw [hy237]; with_reducible exact H2_) | (have H2_ := (Option.bind_some _ _).symm.trans H; with_reducible exact H2_) | with_reducible exact H | (rw [hy237]; exact H) | exact H
             have Ny237 := Aside0.mk hy237; clear hy237; replace H := Option.bind_eq_some_iff.mp H; obtain ⟨t240, A340, H⟩ := H; replace H : (some t240) = some r := H; have A34 := Aside0.mk A340; clear A340; obtain rfl := Option.some.inj H; have q35 : (x8_8 : Int) ≤ ((x5_3.length : Int) : Int) := of_decide_eq_true (by first | (with_reducible assumption) | assumption); obtain ⟨i035, hi035, _, hsz35, _⟩ := info_parts info54; have hroom35 : x5_3.length ≤ co7 := (Kd.R_reads' HO_5.out).2.1; have hC35 : Kd.C k54 _ Ao7 x5_3.length x5_3 := (Kd.R_reads' HO_5.out).2.2; have hcut35 := cut_to (P := Tryd.prog) 28 54 .i64 Tryd.underlying28 hi035 Ao7 x5_3.length co7 x8_8 (of_decide_eq_true (by first | (with_reducible assumption) | assumption)) q35 hroom35; have hr35 := Kd.C_take (m := (x8_8 : Int).toNat) hC35 (by omega); have hy35 : y226.length = (x8_8 : Int).toNat := (by rw [Ny226.out, List.length_take]; omega); rw [← Ny226.out] at hr35; rw [← hy35] at hcut35; have HR229 := Aside0.mk hr35; have HC229 := Aside0.mk (show y226.length ≤ co7 from by omega); clear hr35 hC35 hroom35 hi035 hsz35; have KY35 := Aside0.mk hy35; clear hy35; have KL35 := Aside0.mk (show (x8_8 : Int).toNat ≤ x5_3.length from by omega); replace q35 := eq_true q35; go_wp2_with (first | ((with_reducible refine gate_callee (f := 119) rfl ?_); refine goesL_ (some 66) rfl rfl Tryd.func119 (by kernel_rfl) rfl #[.slice Ao7 y226.length co7] rfl (by (try simp only [List.map_toArray, List.map_cons, List.map_nil]); first | done | rfl | (simp only [List.length_drop, List.length_take]; rfl)) ?_; (with_reducible refine (spec_l2Copy.calls _ _ y226 t230 _ ?side1 ?side2 A29.out).mono ?_); (case side1 => repeat (first | exact (by repeat (first | (with_reducible exact HR229.out) | (with_reducible refine Kd.C_alloc ?_ _) | (with_reducible refine Kd.C_drewN ?_ _) | (with_reducible refine Kd.C_drew ?_) | exact HR229.out)) | (with_reducible refine Kd.C_alloc ?_ _) | (with_reducible refine Kd.C_drewN ?_ _) | (with_reducible refine Kd.C_drew ?_))); (case side2 => exact HC229.out); rintro e w36 ⟨v231, rfl, ho0, hb⟩; refine ⟨_, rfl, ?_⟩; have HO232 := Aside0.mk (Kd.R_lower (Kd.R_new' ho0 (Kd.R_lt (rD HO_5.out))) (below_size (hbD HB))); replace HO_5 := Aside0.mk (Kd.R_elder' (rD HO_5.out) (Kd.R_base ho0) hb); replace HR229 := Aside0.mk (Kd.C_below (by repeat (first | (with_reducible exact HR229.out) | (with_reducible refine Kd.C_alloc ?_ _) | (with_reducible refine Kd.C_drewN ?_ _) | (with_reducible refine Kd.C_drew ?_) | exact HR229.out)) hb); replace HB := Aside0.mk (below_step (hbD HB) hb); (try clear hb); (try clear hb2); (try clear hk); (try clear hi); (try clear ho0); have q37 : ((ji30) : Int) ≤ ((x5_3.length : Int) : Int) := of_decide_eq_true (by first | (with_reducible assumption) | assumption); obtain ⟨i037, hi037, _, hsz37, _⟩ := info_parts info54; have hroom37 : x5_3.length ≤ co7 := (Kd.R_reads' HO_5.out).2.1; have hC37 : Kd.C k54 _ Ao7 x5_3.length x5_3 := (Kd.R_reads' HO_5.out).2.2; have q037 : (0 : Int) ≤ ((ji30) : Int) := of_decide_eq_true (by first | (with_reducible assumption) | assumption); have hcut37 := cut_from (P := Tryd.prog) 28 54 .i64 Tryd.underlying28 hi037 4 hsz37 Ao7 x5_3.length co7 (ji30) q037 q37; have hr37 := Kd.C_drop (m := ((ji30) : Int).toNat) (c := co7) hC37 (by omega) hroom37; obtain ⟨A37, hA37⟩ : ∃ A1, A1 = (if co7 = ((ji30) : Int).toNat then Ao7 else (Ao7 : Option Addr).map (·.add (((ji30) : Int).toNat * 4))) := ⟨_, rfl⟩; obtain ⟨c37, hc37⟩ : ∃ c1, c1 = co7 - ((ji30) : Int).toNat := ⟨_, rfl⟩; have hy37 : y233.length = x5_3.length - ((ji30) : Int).toNat := (by rw [Ny233.out, List.length_drop] <;> omega); rw [show (x5_3).drop ((ji30) : Int).toNat = y233 from Ny233.out.symm] at hr37; replace hr37 : Kd.C k54 _ A37 y233.length y233 := (by rw [hA37]; exact hr37); rw [← hy37, ← hA37, ← hc37] at hcut37; have HR236 := Aside0.mk hr37; have HC236 := Aside0.mk (show y233.length ≤ c37 from by rw [hy37, hc37]; exact Nat.sub_le_sub_right hroom37 _); clear hr37 hC37 hroom37 hi037 hsz37 hc37; have KY37 := Aside0.mk hy37; have KA37 := Aside0.mk hA37; clear hy37 hA37; have KL37 := Aside0.mk (show ((ji30) : Int).toNat ≤ x5_3.length from by omega); replace q37 := eq_true q37) | ((with_reducible refine gate_builtin (b := .append) (xs := #[.tmp 67, .tmp 71]) rfl ?_); at_builtin; refine Kd.R_append_rows k54 (w0 := w) w.heap.size rfl (.tmp 67) (.tmp 71) 28 54 (.agg #[(.int .i64 0), (.int .i64 0), (.int .i64 0), (.int .i64 0)]) 32 rfl Tryd.underlying28 info54 rfl (by decide) (by omega) v231 t230 y233 _ _ _ (fun k_ => some k_ ≠ (.slice Ao7 x5_3.length co7 : Value).ownBlock) (fun _ => False) rfl rfl ?aO ?aR (fun _ _ h => h) (fun _ h => h.elim) ?aF ?aB ?aS ?aL ?_; (case aR => repeat (first | exact (by repeat (first | (with_reducible exact HR236.out) | (with_reducible refine Kd.C_alloc ?_ _) | (with_reducible refine Kd.C_drewN ?_ _) | (with_reducible refine Kd.C_drew ?_) | exact HR236.out)) | (with_reducible refine Kd.C_alloc ?_ _) | (with_reducible refine Kd.C_drewN ?_ _) | (with_reducible refine Kd.C_drew ?_))); (case aB => exact (hbD HB)); (case aF => exact (fun k_ hk => Kd.fresh' (Kd.R_lt (rD HO_5.out)) k_ hk)); (case aO => exact (rD (Kd.R_mono HO232.out (fun _ hk => hk.2)))); (case aS => exact (below_size (hbD HB))); (case aL => have := LMc33.out; omega); intro v238 w38 ho hb hg hat; rw [← Ny237.out] at ho; have n0_ := Aside0.mk (Kd.R_after (ok := (fun _ => True)) (rD HO_5.out) hg hat); have n1_ := Aside0.mk (hb); have n2_ := Aside0.mk ((show Kd.C k54 w38 Ao7 y226.length y226 from by rw [Ny226.out]; exact Kd.C_take (m := (x8_8 : Int).toNat) ((Kd.R_reads' (Kd.R_after (ok := (fun _ => True)) (rD HO_5.out) hg hat)).2.2) KL35.out)); have n3_ := Aside0.mk ((show Kd.C k54 w38 A37 y233.length y233 from by rw [Ny233.out, KA37.out]; exact Kd.C_drop (m := ((ji30) : Int).toNat) (c := co7) ((Kd.R_reads' (Kd.R_after (ok := (fun _ => True)) (rD HO_5.out) hg hat)).2.2) KL37.out ((Kd.R_reads' (Kd.R_after (ok := (fun _ => True)) (rD HO_5.out) hg hat)).2.1))); have n4_ := Aside0.mk (ho); clear HO_5 HB HR229 HR236 HO232; have HO_5 := n0_; have HB := n1_; have HR229 := n2_; have HR236 := n3_; have HO239 := n4_; clear n0_ n1_ n2_ n3_ n4_ ho hb hg hat; obtain ⟨Ao39, co39, eo39⟩ := Kd.R_slice HO239.out; subst eo39) | ((with_reducible refine gate_callee (f := 120) rfl ?_); refine goesL_ (some 74) rfl rfl Tryd.func120 (by kernel_rfl) rfl #[.slice Ao39 y237.length co39] rfl (by (try simp only [List.map_toArray, List.map_cons, List.map_nil]); first | done | rfl | (simp only [List.length_drop, List.length_take]; rfl)) ?_; (with_reducible refine (spec_l2Repair.calls k3 (fun k_ => some k_ = (.slice Ao39 y237.length co39 : Value).ownBlock) (.slice Ao39 y237.length co39) y237 t240 w _ ?side1 ?side2 A34.out).mono ?_); (case side1 => repeat (first | (with_reducible first | exact HB.out | apply below_alloc | apply pw_below_drewN | apply below_drew1) | exact HB.out)); (case side2 => exact Kd.R_tight rfl HO239.out); rintro e w40 ⟨rfl, hy0, hb, hkp⟩; refine ⟨_, rfl, ?_⟩; replace HO_5 := Aside0.mk (Kd.R_mono (ok' := fun k_ => some k_ ≠ (.slice Ao39 y237.length co39 : Value).ownBlock) (Kd.R_keptB (HO_5.out) hkp (fun k_ hk_ hs_ => (hk_.2) hs_)) (fun k_ hk_ => hk_.1.2)); replace HO239 := Aside0.mk (Kd.R_reok rfl hy0 (fun k_ e_ => HO239.out.1 k_ e_)); replace HB := Aside0.mk (hb); (try clear hb); (try clear hkp); (try clear hy0))); go_ret; exact ⟨_, by first | rfl | (simp [errW_none, errW_some] <;> rfl) | (simp only [← hji30]; first | rfl | (simp [errW_none, errW_some] <;> rfl)) | (simp [*, errW_none, errW_some] <;> rfl), by (with_reducible repeat (first | apply Kd.R_alloc | apply Kd.R_drewN | apply Kd.R_drew)); exact Kd.R_mono HO239.out (fun _ hk => trivial), by repeat (first | (with_reducible first | exact HB.out | apply below_alloc | apply pw_below_drewN | apply below_drew1) | exact HB.out)⟩
            ·rw [if_neg c33] at H
             exact absurd H (by simp)
           ·rw [if_neg c32] at H
            exact absurd H (by simp)
          ·rw [if_neg c31] at H
           exact absurd H (by simp)
         ·rw [if_neg c28] at H
          exact absurd H (by simp)
        ·rw [if_neg c27] at H
         exact absurd H (by simp)

def spec_l2Lift.l0 : Nat → Int → List (S54) → Int → Int → Option ((List (S54)))
 | 0, _, _, _, _ => none
 | k + 1, x1, x5, x10, x11 => if x11 < x10 then (if 0 ≤ x11 then (if x11 < (x5.length : Int) then (spec_l2Lift.l0 k x1 (x5.set (x11 : Int).toNat (⟨(⟨(rd_T54 x5 x11).f0.f0, (rd_T54 x5 x11).f0.f1, (rd_T54 x5 x11).f0.f2⟩ : S50), wrap64 (((rd_T54 x5 x11).f1) + x1)⟩ : S54)) x10 (wrap64 (x11 + 1))) else (none)) else (none)) else (some x5)
def spec_l2Lift.f (k : Nat) (l0 : List (S54)) (a1 : Int) : Option ((List (S54))) := (spec_l2Copy.f l0).bind fun t241 => (spec_l2Lift.l0 k a1 t241 (t241.length : Int) 0)
theorem spec_l2Lift.mono_l : ∀ k, (∀ y0 y1 y2 y3, LeO (spec_l2Lift.l0 k y0 y1 y2 y3) (spec_l2Lift.l0 (k + 1) y0 y1 y2 y3))
 | 0 => fun _ _ _ _ r h => by simp [spec_l2Lift.l0] at h
 | k + 1 => by
  have ih0 := spec_l2Lift.mono_l k
  ·intro y0 y1 y2 y3
   unfold spec_l2Lift.l0
   repeat' first
   | (with_reducible exact ih0 _ _ _ _)
   | (with_reducible exact LeO.refl _)
   | (with_reducible exact LeO.none _)
   | (with_reducible refine LeO.ite ?_ ?_)
   | (with_reducible refine LeO.bind ?_ (fun _ => ?_))
   | exact ih0 _ _ _ _
   | exact LeO.none _
   | refine LeO.ite ?_ ?_
   | refine LeO.bind ?_ (fun _ => ?_)
theorem spec_l2Lift.mono : ∀ a0 a1 k, LeO (spec_l2Lift.f k a0 a1) (spec_l2Lift.f (k + 1) a0 a1) := by
 intro a0 a1 k; have ih0 := spec_l2Lift.mono_l k; unfold spec_l2Lift.f
 repeat' first
   | (with_reducible exact ih0 _ _ _ _)
   | (with_reducible exact LeO.refl _)
   | (with_reducible exact LeO.none _)
   | (with_reducible refine LeO.ite ?_ ?_)
   | (with_reducible refine LeO.bind ?_ (fun _ => ?_))
   | exact ih0 _ _ _ _
   | exact LeO.none _
   | refine LeO.ite ?_ ?_
   | refine LeO.bind ?_ (fun _ => ?_)
set_option maxHeartbeats 8000000 in
theorem spec_l2Lift.calls (k : Nat) (A0 : Option Addr) (c0 : Nat) (l0 : List (S54)) (a1 : Int) (r : List (S54)) (w : World) (hr0 : Kd.C k54 w A0 l0.length l0) (hc0 : l0.length ≤ c0) (h : spec_l2Lift.f k l0 a1 = some r) :
  Calls Tryd.prog 123 #[.slice A0 l0.length c0, .int .i64 a1] w fun e w' => ∃ v0_ : Value, e = .returned (v0_) ∧ Kd.R k54 54 w' w.heap.size (fun _ => True) v0_ r ∧ Below w.heap.size w w' := by
 have HR0 := Aside0.mk hr0; have HC0 := Aside0.mk hc0; clear hr0 hc0; have HB := Aside0.mk (Below.refl w.heap.size w); have H : ((spec_l2Copy.f l0).bind fun t241 => (spec_l2Lift.l0 k a1 t241 (t241.length : Int) 0)) = some r := h; clear h; replace H := Option.bind_eq_some_iff.mp H; obtain ⟨t241, A30, H⟩ := H; replace H : (spec_l2Lift.l0 k a1 t241 (t241.length : Int) 0) = some r := H; have A3 := Aside0.mk A30; clear A30; have H' := Aside0.mk H; clear H; go_enter Tryd.func123, Tryd.ntmps123; go_wp2_with (first | ((with_reducible refine gate_callee (f := 119) rfl ?_); refine goesL_ (some 8) rfl rfl Tryd.func119 (by kernel_rfl) rfl #[.slice A0 l0.length c0] rfl (by (try simp only [List.map_toArray, List.map_cons, List.map_nil]); first | done | rfl | (simp only [List.length_drop, List.length_take]; rfl)) ?_; (with_reducible refine (spec_l2Copy.calls _ _ l0 t241 _ ?side1 ?side2 A3.out).mono ?_); (case side1 => repeat (first | exact HR0.out | (with_reducible refine Kd.C_alloc ?_ _) | (with_reducible refine Kd.C_drewN ?_ _) | (with_reducible refine Kd.C_drew ?_))); (case side2 => exact HC0.out); rintro e w4 ⟨v242, rfl, ho0, hb⟩; refine ⟨_, rfl, ?_⟩; have HO243 := Aside0.mk (Kd.R_lower ho0 (below_size (hbD HB))); replace HB := Aside0.mk (below_step (hbD HB) hb); (try clear hb); (try clear hb2); (try clear hk); (try clear hi); (try clear ho0); obtain ⟨Ao5, co5, eo5⟩ := Kd.R_slice HO243.out; subst eo5)); go_loopg [11] k (fun kq v11 w' => ∃ (x5_1 : List (S54)) (x11_1 : Int), v11 = .int .i64 x11_1 ∧ Aside0 (spec_l2Lift.l0 kq a1 x5_1 (t241.length : Int) x11_1 = some r) ∧ Aside0 (kq ≤ k) ∧ Aside0 (Kd.R k54 54 w' w.heap.size (fun _ => True) (.slice Ao5 t241.length co5) x5_1) ∧ Aside0 (Below w.heap.size w w'))
 case atStart => exact ⟨(t241), (0), (by first | rfl | (simp; done) | (simp [*]; done)), H', ⟨Nat.le_refl _⟩, ⟨by (with_reducible repeat (first | apply Kd.R_alloc | apply Kd.R_drewN | apply Kd.R_drew)); exact HO243.out⟩, ⟨by repeat (first | (with_reducible first | exact HB.out | apply below_alloc | apply pw_below_drewN | apply below_drew1) | exact HB.out)⟩⟩
 case round =>
  clear H'; (try clear c1); (try clear p2); obtain ⟨x5_1, x11_1, rfl, HA, HK1, HO_5, HB⟩ := hrel; have hl5_1 := (Kd.R_reads' HO_5.out).1; rw [hl5_1] at HO_5; (try simp only [hl5_1])
  cases gk with
  | zero => exact absurd HA.out (by simp [spec_l2Lift.l0])
  | succ k1 =>
   have H := HA.out; clear HA; simp only [spec_l2Lift.l0] at H; by_cases c6 : x11_1 < (t241.length : Int)
   ·rw [if_pos c6] at H
    have c6b0 : decide (x11_1 < (t241.length : Int)) = true := decide_eq_true c6; clear c6; by_cases c7 : 0 ≤ x11_1
    ·rw [if_pos c7] at H
     have c7b0 : decide (0 ≤ x11_1) = true := decide_eq_true c7; clear c7; by_cases c8 : x11_1 < (x5_1.length : Int)
     ·rw [if_pos c8] at H
      have c8b0 : decide (x11_1 < (x5_1.length : Int)) = true := decide_eq_true c8; clear c8; obtain ⟨y245, hy245⟩ : ∃ y_ : List (S54), y_ = (x5_1.set (x11_1 : Int).toNat (⟨(⟨(rd_T54 x5_1 x11_1).f0.f0, (rd_T54 x5_1 x11_1).f0.f1, (rd_T54 x5_1 x11_1).f0.f2⟩ : S50), wrap64 (((rd_T54 x5_1 x11_1).f1) + a1)⟩ : S54)) := ⟨_, rfl⟩; replace H : (spec_l2Lift.l0 k1 a1 y245 (t241.length : Int) (wrap64 (x11_1 + 1))) = some r := by first | (rw [hy245]; with_reducible exact H) | (have H2_ := (Option.bind_some _ _).symm.trans H; rw [hy245]; with_reducible exact H2_) | (have H2_ := (Option.bind_some _ _).symm.trans H; with_reducible exact H2_) | with_reducible exact H | (rw [hy245]; exact H) | exact H
      have Ny245 := Aside0.mk hy245; clear hy245; have H' := Aside0.mk H; clear H; have p244 : 0 ≤ (x11_1 : Int) := of_decide_eq_true (by first | (with_reducible assumption) | assumption); have q244 : x11_1 < (x5_1.length : Int) := of_decide_eq_true (by first | (with_reducible assumption) | assumption); obtain ⟨ad244, e244, hx244_0, hx244_1, hx244_2, hx244_3⟩ := at_T54 (Kd.R_reads' HO_5.out).2.2 x11_1 p244 q244
      cases e244
      replace p244 := eq_true p244; replace q244 := eq_true q244; have p9 : 0 ≤ (x11_1 : Int) := of_decide_eq_true (by first | (with_reducible assumption) | assumption); have q9 : (x11_1 : Int) < ((x5_1.length : Int) : Int) := of_decide_eq_true (by first | (with_reducible assumption) | assumption); obtain ⟨go9, co9, eo9, gb9, gl9, cl9, HG9⟩ := Kd.R_form HO_5.out (by omega); (first | cases eo9 | (injection eo9 with ea_ en_ ec_; (first | subst ea_ | (injection ea_ with ea_; subst ea_)); subst ec_; clear en_)); have GB9 := Aside0.mk gb9; have GG9 := Aside0.mk HG9; clear gb9 gl9 HG9; (first | simp only [add_plain] at hx244_0 | skip); (first | simp only [add_plain] at hx244_1 | skip); (first | simp only [add_plain] at hx244_2 | skip); (first | simp only [add_plain] at hx244_3 | skip); obtain ⟨ce9, hcl9, hM9, hcc9, hfr9⟩ := Kd.R_elem HO_5.out z54 (x11_1 : Int) p9 q9; obtain rfl := k54_openM hM9; have hx9_0 : wr.cell? ⟨go9, (x11_1 : Int).toNat * 4, none⟩ = some (.int .i64 ((rd_T54 x5_1 x11_1).f0.f0)) := hcc9 0 _ rfl; have hx9_1 : wr.cell? ⟨go9, (x11_1 : Int).toNat * 4 + 1, none⟩ = some (.int .i64 ((rd_T54 x5_1 x11_1).f0.f1)) := hcc9 1 _ rfl; have hx9_2 : wr.cell? ⟨go9, (x11_1 : Int).toNat * 4 + 2, none⟩ = some (.int .i64 ((rd_T54 x5_1 x11_1).f0.f2)) := hcc9 2 _ rfl; have hx9_3 : wr.cell? ⟨go9, (x11_1 : Int).toNat * 4 + 3, none⟩ = some (.int .i64 ((rd_T54 x5_1 x11_1).f1)) := hcc9 3 _ rfl; have hf9_0 : wr.frozen? ⟨go9, (x11_1 : Int).toNat * 4, none⟩ = false := hfr9 0; have hf9_1 : wr.frozen? ⟨go9, (x11_1 : Int).toNat * 4 + 1, none⟩ = false := hfr9 1; have hf9_2 : wr.frozen? ⟨go9, (x11_1 : Int).toNat * 4 + 2, none⟩ = false := hfr9 2; have hf9_3 : wr.frozen? ⟨go9, (x11_1 : Int).toNat * 4 + 3, none⟩ = false := hfr9 3; clear hcl9 hcc9 hfr9 hM9; replace p9 := eq_true p9; replace q9 := eq_true q9; have HX10 := Aside0.mk (show Kd.R k54 54 wr w.heap.size (fun _ => True) (.slice (some ⟨go9, 0, none⟩) x5_1.length co5) x5_1 from (rD HO_5.out)); obtain ⟨ce10, hcl10, hM10, hcc10, hfr10⟩ := Kd.R_elem HX10.out z54 (x11_1 : Int) (of_decide_eq_true (by first | (with_reducible assumption) | assumption)) (by have h_ : (x11_1 : Int) < ((x5_1.length : Int) : Int) := of_decide_eq_true (by first | (with_reducible assumption) | assumption); first | exact h_ | (have e_ := (Kd.R_reads' HO_5.out).1; omega) | simpa using h_); obtain rfl := k54_openM hM10; have HP10 := Kd.R_seg HX10.out (x11_1 : Int) (of_decide_eq_true (by first | (with_reducible assumption) | assumption)) (by have h_ : (x11_1 : Int) < ((x5_1.length : Int) : Int) := of_decide_eq_true (by first | (with_reducible assumption) | assumption); first | exact h_ | (have e_ := (Kd.R_reads' HO_5.out).1; omega) | simpa using h_) (seg := [.int .i64 (wrap64 (((rd_T54 x5_1 x11_1).f1) + a1))]) (j := 3) hcl10 hcc10 (show 4 ≤ 4 from by decide) (x' := (⟨(⟨(rd_T54 x5_1 x11_1).f0.f0, (rd_T54 x5_1 x11_1).f0.f1, (rd_T54 x5_1 x11_1).f0.f2⟩ : S50), wrap64 (((rd_T54 x5_1 x11_1).f1) + a1)⟩ : S54)) (k54_mkM _ _ _ (⟨(⟨(rd_T54 x5_1 x11_1).f0.f0, (rd_T54 x5_1 x11_1).f0.f1, (rd_T54 x5_1 x11_1).f0.f2⟩ : S50), wrap64 (((rd_T54 x5_1 x11_1).f1) + a1)⟩ : S54) ) (fun _ hk => hk); have hx10_3 := hcc10 3 _ rfl; (try simp only [show (k54).sz = 4 from rfl, Nat.mul_one, Nat.add_zero] at hx10_3); have hf10_3 := hfr10 3; (try simp only [show (k54).sz = 4 from rfl, Nat.mul_one, Nat.add_zero] at hf10_3); clear hcl10 hcc10 hfr10 hM10; go_wp2_with (first | ((with_reducible refine gate_store (t := 3) (p := 22) rfl ?_); refine store_event (t := 3) (p := 22) (v := ?vo_w11) (w1 := (wr.setCell ⟨go9, (x11_1 : Int).toNat * 4 + 3, none⟩ (.int .i64 (wrap64 (((rd_T54 x5_1 x11_1).f1) + a1))))) ?hg ?ho ?hn ?hr ?_; (case ho => rfl); (case hg => rfl); (case hn => rfl); (case hr => first | (go_simp; done) | (go_simp; rfl)); intro w11 hw; have hg : wr.grownBy w11 (some go9) := (by rw [hw]; exact HP10.2); have hp_ : Kd.R k54 54 w11 w.heap.size (fun _ => True) (.slice (some ⟨go9, 0, none⟩) x5_1.length co5) y245 := (by rw [hw, Ny245.out]; exact HP10.1); clear HP10; replace HO_5 := Aside0.mk (hp_); replace HB := Aside0.mk ((by rw [hw]; exact below_set (HB.out) GB9.out : Below w.heap.size w w11)); clear hg hw hp_)); (try simp only [← hl5_1]); go_roundg k1
      case measure => have := HK1.out; omega
      case rel => exact ⟨(y245), (wrap64 (x11_1 + 1)), (by first | rfl | (simp; done) | (simp [*]; done)), H', ⟨by have := HK1.out; omega⟩, ⟨by (try simp only [hl5_1]); (with_reducible repeat (first | apply Kd.R_alloc | apply Kd.R_drewN | apply Kd.R_drew)); exact HO_5.out⟩, ⟨by repeat (first | (with_reducible first | exact HB.out | apply below_alloc | apply pw_below_drewN | apply below_drew1) | exact HB.out)⟩⟩
     ·rw [if_neg c8] at H
      exact absurd H (by simp)
    ·rw [if_neg c7] at H
     exact absurd H (by simp)
   ·rw [if_neg c6] at H
    have c6b0 : decide (x11_1 < (t241.length : Int)) = false := decide_eq_false c6; (try simp only [hl5_1] at c6b0); clear c6; obtain rfl := Option.some.inj H; go_wp2; go_ret; exact ⟨_, by first | rfl | (simp [errW_none, errW_some] <;> rfl) | (simp [*, errW_none, errW_some] <;> rfl), by (with_reducible repeat (first | apply Kd.R_alloc | apply Kd.R_drewN | apply Kd.R_drew)); exact HO_5.out, by repeat (first | (with_reducible first | exact HB.out | apply below_alloc | apply pw_below_drewN | apply below_drew1) | exact HB.out)⟩

end Go.Proofs.YtciabhncmdpeeaaDoor.QFnExactTreeJoin
