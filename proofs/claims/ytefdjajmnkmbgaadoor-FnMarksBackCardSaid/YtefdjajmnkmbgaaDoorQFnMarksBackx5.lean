/- What the law FnMarksBack reaches: each function as a plain function, and that the machine's call does it (written by a program). The condition, where there is one: errors.errorType reads as laid. -/
import Derived.Test.YtefdjajmnkmbgaaDoorQFnMarksBackx0
import Derived.Test.YtefdjajmnkmbgaaDoorQFnMarksBackx1
import Derived.Test.YtefdjajmnkmbgaaDoorQFnMarksBackx2
import Derived.Test.YtefdjajmnkmbgaaDoorQFnMarksBackx4
namespace Go.Proofs.YtefdjajmnkmbgaaDoor.QFnMarksBack
open Go.Proofs.YtefdjajmnkmbgaaDoor.Er
open Go.RowKit Go.Proofs.YtefdjajmnkmbgaaDoorW.PrintWords Go.Proofs.YtefdjajmnkmbgaaDoorW.PrintLast Go.Proofs.YtefdjajmnkmbgaaDoorW.PrintMore
attribute [local go_sem] max2_int min2_int max_two min_two max_three min_three max_four min_four   -- for this text's walks alone
set_option linter.unusedVariables false
set_option linter.unusedSimpArgs false

attribute [local go_sem high] eqA53
/-! ### laws_FnMarksBack: function 5 -/
mutual
def laws_FnMarksBack.j0 : Nat → List (S53) → Int → List Int → Int → Int → Option (Bool)
  | 0, _, _, _, _, _ => none
  | k + 1, x5, x6, x189000, x189001, x189002 => (spec_l1Src_N.f x189000 x189001 x189002 300).bind fun bt211 => ((laws_cpMarks.f x5).bind fun t214 => ((impl_MarksInsert.f t214 x6 bt211.1).bind fun bt217 => (if bt217.2 = 0 then (laws_FnMarksBack.j1 k x5 x6 bt211.1 bt217.1 ((bt217.1.length : Int) != (x5.length : Int))) else (laws_FnMarksBack.j1 k x5 x6 bt211.1 bt217.1 true))))
def laws_FnMarksBack.j1 : Nat → List (S53) → Int → Int → List (S53) → Bool → Option (Bool)
  | 0, _, _, _, _, _ => none
  | k + 1, x5, x6, x7, x8, x66 => if x66 = true then (some false) else (laws_FnMarksBack.l0 k x5 x6 x7 x8 x5 (x5.length : Int) 0)
def laws_FnMarksBack.l0 : Nat → List (S53) → Int → Int → List (S53) → List (S53) → Int → Int → Option (Bool)
  | 0, _, _, _, _, _, _, _ => none
  | k + 1, x5, x6, x7, x8, x67, x68, x69 => if x69 < x68 then (if 0 ≤ x69 then (if x69 < (x67.length : Int) then (if ((rd_T53 x67 x69).f1) > x6 then (laws_FnMarksBack.j3 k x5 x6 x7 x8 x67 x68 x69 true ((rd_T53 x67 x69).f0) ((rd_T53 x67 x69).f1) ((rd_T53 x67 x69).f2)) else (if ((rd_T53 x67 x69).f1) = x6 then (laws_FnMarksBack.j3 k x5 x6 x7 x8 x67 x68 x69 (((rd_T53 x67 x69).f2) == 1) ((rd_T53 x67 x69).f0) ((rd_T53 x67 x69).f1) ((rd_T53 x67 x69).f2)) else (laws_FnMarksBack.j3 k x5 x6 x7 x8 x67 x68 x69 false ((rd_T53 x67 x69).f0) ((rd_T53 x67 x69).f1) ((rd_T53 x67 x69).f2)))) else (none)) else (none)) else ((impl_MarksDelete.f x8 x6 (wrap64 (x6 + x7))).bind fun bt221 => (if bt221.2 = 0 then ((laws_smMarks.f k bt221.1 x5).bind fun t225 => (some t225)) else (some false)))
def laws_FnMarksBack.j3 : Nat → List (S53) → Int → Int → List (S53) → List (S53) → Int → Int → Bool → Int → Int → Int → Option (Bool)
  | 0, _, _, _, _, _, _, _, _, _, _, _ => none
  | k + 1, x5, x6, x7, x8, x67, x68, x69, x88, x229000, x229001, x229002 => if x88 = true then (laws_FnMarksBack.j4 k x5 x6 x7 x8 x67 x68 x69 x229000 (wrap64 (x229001 + x7)) x229002) else (laws_FnMarksBack.j4 k x5 x6 x7 x8 x67 x68 x69 x229000 x229001 x229002)
def laws_FnMarksBack.j4 : Nat → List (S53) → Int → Int → List (S53) → List (S53) → Int → Int → Int → Int → Int → Option (Bool)
  | 0, _, _, _, _, _, _, _, _, _, _ => none
  | k + 1, x5, x6, x7, x8, x67, x68, x69, x229000, x229001, x229002 => laws_FnMarksBack.l1 k x5 x6 x7 x8 false x67 x68 x69 x8 (x8.length : Int) 0 x229000 x229001 x229002
def laws_FnMarksBack.l1 : Nat → List (S53) → Int → Int → List (S53) → Bool → List (S53) → Int → Int → List (S53) → Int → Int → Int → Int → Int → Option (Bool)
  | 0, _, _, _, _, _, _, _, _, _, _, _, _, _, _ => none
  | k + 1, x5, x6, x7, x8, x13, x67, x68, x69, x94, x95, x96, x229000, x229001, x229002 => if x96 < x95 then (if 0 ≤ x96 then (if x96 < (x94.length : Int) then (if (((rd_T53 x94 x96).f0) == x229000 && (((rd_T53 x94 x96).f1) == x229001 && (((rd_T53 x94 x96).f2) == x229002))) = true then (laws_FnMarksBack.l1 k x5 x6 x7 x8 true x67 x68 x69 x94 x95 (wrap64 (x96 + 1)) x229000 x229001 x229002) else (laws_FnMarksBack.l1 k x5 x6 x7 x8 x13 x67 x68 x69 x94 x95 (wrap64 (x96 + 1)) x229000 x229001 x229002)) else (none)) else (none)) else (if x13 = true then (laws_FnMarksBack.l0 k x5 x6 x7 x8 x67 x68 (wrap64 (x69 + 1))) else (some false))
end
def laws_FnMarksBack.f (k : Nat) (l0 : List Int) : Option (Bool) := if (l0.length : Int) > 1048576 then (some true) else ((spec_L1Draw.f l0).bind fun bt185 => ((spec_l1Src_N.f bt185.1 bt185.2.1 bt185.2.2 200).bind fun bt189 => ((spec_L1Size.f l0 60).bind fun t192 => ((spec_l1Src_N.f bt185.1 bt189.2.1 bt189.2.2 t192).bind fun bt193 => ((spec_L5DrawMarks.f k bt185.1 bt193.2.1 bt193.2.2 (wrap64 (1 + bt193.1)) bt189.1).bind fun bt196 => ((spec_l1Src_N.f bt185.1 bt196.2.1 bt196.2.2 (wrap64 (bt189.1 + 1))).bind fun bt201 => ((spec_l1Src_N.f bt185.1 bt201.2.1 bt201.2.2 2).bind fun bt204 => (if bt204.1 = 0 then ((spec_l1Src_N.f bt185.1 bt204.2.1 bt204.2.2 (bt196.1.length : Int)).bind fun bt207 => (if 0 ≤ bt207.1 then (if bt207.1 < (bt196.1.length : Int) then (laws_FnMarksBack.j0 k bt196.1 ((rd_T53 bt196.1 bt207.1).f1) bt185.1 bt207.2.1 bt207.2.2) else (none)) else (none))) else (laws_FnMarksBack.j0 k bt196.1 bt201.1 bt185.1 bt204.2.1 bt204.2.2)))))))))
theorem laws_FnMarksBack.mono_l : ∀ k, (∀ y0 y1 y2 y3 y4, LeO (laws_FnMarksBack.j0 k y0 y1 y2 y3 y4) (laws_FnMarksBack.j0 (k + 1) y0 y1 y2 y3 y4)) ∧ (∀ y0 y1 y2 y3 y4, LeO (laws_FnMarksBack.j1 k y0 y1 y2 y3 y4) (laws_FnMarksBack.j1 (k + 1) y0 y1 y2 y3 y4)) ∧ (∀ y0 y1 y2 y3 y4 y5 y6, LeO (laws_FnMarksBack.l0 k y0 y1 y2 y3 y4 y5 y6) (laws_FnMarksBack.l0 (k + 1) y0 y1 y2 y3 y4 y5 y6)) ∧ (∀ y0 y1 y2 y3 y4 y5 y6 y7 y8 y9 y10, LeO (laws_FnMarksBack.j3 k y0 y1 y2 y3 y4 y5 y6 y7 y8 y9 y10) (laws_FnMarksBack.j3 (k + 1) y0 y1 y2 y3 y4 y5 y6 y7 y8 y9 y10)) ∧ (∀ y0 y1 y2 y3 y4 y5 y6 y7 y8 y9, LeO (laws_FnMarksBack.j4 k y0 y1 y2 y3 y4 y5 y6 y7 y8 y9) (laws_FnMarksBack.j4 (k + 1) y0 y1 y2 y3 y4 y5 y6 y7 y8 y9)) ∧ (∀ y0 y1 y2 y3 y4 y5 y6 y7 y8 y9 y10 y11 y12 y13, LeO (laws_FnMarksBack.l1 k y0 y1 y2 y3 y4 y5 y6 y7 y8 y9 y10 y11 y12 y13) (laws_FnMarksBack.l1 (k + 1) y0 y1 y2 y3 y4 y5 y6 y7 y8 y9 y10 y11 y12 y13))
  | 0 => ⟨fun _ _ _ _ _ r h => by simp [laws_FnMarksBack.j0] at h, fun _ _ _ _ _ r h => by simp [laws_FnMarksBack.j1] at h, fun _ _ _ _ _ _ _ r h => by simp [laws_FnMarksBack.l0] at h, fun _ _ _ _ _ _ _ _ _ _ _ r h => by simp [laws_FnMarksBack.j3] at h, fun _ _ _ _ _ _ _ _ _ _ r h => by simp [laws_FnMarksBack.j4] at h, fun _ _ _ _ _ _ _ _ _ _ _ _ _ _ r h => by simp [laws_FnMarksBack.l1] at h⟩
  | k + 1 => by
    obtain ⟨ih0, ih1, ih2, ih3, ih4, ih5⟩ := laws_FnMarksBack.mono_l k
    refine ⟨?_, ?_, ?_, ?_, ?_, ?_⟩
    · intro y0 y1 y2 y3 y4
      unfold laws_FnMarksBack.j0
      repeat' first
      | (with_reducible exact ih0 _ _ _ _ _)
      | (with_reducible exact ih1 _ _ _ _ _)
      | (with_reducible exact ih2 _ _ _ _ _ _ _)
      | (with_reducible exact ih3 _ _ _ _ _ _ _ _ _ _ _)
      | (with_reducible exact ih4 _ _ _ _ _ _ _ _ _ _)
      | (with_reducible exact ih5 _ _ _ _ _ _ _ _ _ _ _ _ _ _)
      | (with_reducible exact laws_smMarks.mono _ _ _)
      | (with_reducible exact spec_L5DrawMarks.mono _ _ _ _ _ _)
      | (with_reducible exact LeO.refl _)
      | (with_reducible exact LeO.none _)
      | (with_reducible refine LeO.ite ?_ ?_)
      | (with_reducible refine LeO.bind ?_ (fun _ => ?_))
      | exact ih0 _ _ _ _ _
      | exact ih1 _ _ _ _ _
      | exact ih2 _ _ _ _ _ _ _
      | exact ih3 _ _ _ _ _ _ _ _ _ _ _
      | exact ih4 _ _ _ _ _ _ _ _ _ _
      | exact ih5 _ _ _ _ _ _ _ _ _ _ _ _ _ _
      | exact laws_smMarks.mono _ _ _
      | exact spec_L5DrawMarks.mono _ _ _ _ _ _
      | exact LeO.none _
      | refine LeO.ite ?_ ?_
      | refine LeO.bind ?_ (fun _ => ?_)
    · intro y0 y1 y2 y3 y4
      unfold laws_FnMarksBack.j1
      repeat' first
      | (with_reducible exact ih0 _ _ _ _ _)
      | (with_reducible exact ih1 _ _ _ _ _)
      | (with_reducible exact ih2 _ _ _ _ _ _ _)
      | (with_reducible exact ih3 _ _ _ _ _ _ _ _ _ _ _)
      | (with_reducible exact ih4 _ _ _ _ _ _ _ _ _ _)
      | (with_reducible exact ih5 _ _ _ _ _ _ _ _ _ _ _ _ _ _)
      | (with_reducible exact laws_smMarks.mono _ _ _)
      | (with_reducible exact spec_L5DrawMarks.mono _ _ _ _ _ _)
      | (with_reducible exact LeO.refl _)
      | (with_reducible exact LeO.none _)
      | (with_reducible refine LeO.ite ?_ ?_)
      | (with_reducible refine LeO.bind ?_ (fun _ => ?_))
      | exact ih0 _ _ _ _ _
      | exact ih1 _ _ _ _ _
      | exact ih2 _ _ _ _ _ _ _
      | exact ih3 _ _ _ _ _ _ _ _ _ _ _
      | exact ih4 _ _ _ _ _ _ _ _ _ _
      | exact ih5 _ _ _ _ _ _ _ _ _ _ _ _ _ _
      | exact laws_smMarks.mono _ _ _
      | exact spec_L5DrawMarks.mono _ _ _ _ _ _
      | exact LeO.none _
      | refine LeO.ite ?_ ?_
      | refine LeO.bind ?_ (fun _ => ?_)
    · intro y0 y1 y2 y3 y4 y5 y6
      unfold laws_FnMarksBack.l0
      repeat' first
      | (with_reducible exact ih0 _ _ _ _ _)
      | (with_reducible exact ih1 _ _ _ _ _)
      | (with_reducible exact ih2 _ _ _ _ _ _ _)
      | (with_reducible exact ih3 _ _ _ _ _ _ _ _ _ _ _)
      | (with_reducible exact ih4 _ _ _ _ _ _ _ _ _ _)
      | (with_reducible exact ih5 _ _ _ _ _ _ _ _ _ _ _ _ _ _)
      | (with_reducible exact laws_smMarks.mono _ _ _)
      | (with_reducible exact spec_L5DrawMarks.mono _ _ _ _ _ _)
      | (with_reducible exact LeO.refl _)
      | (with_reducible exact LeO.none _)
      | (with_reducible refine LeO.ite ?_ ?_)
      | (with_reducible refine LeO.bind ?_ (fun _ => ?_))
      | exact ih0 _ _ _ _ _
      | exact ih1 _ _ _ _ _
      | exact ih2 _ _ _ _ _ _ _
      | exact ih3 _ _ _ _ _ _ _ _ _ _ _
      | exact ih4 _ _ _ _ _ _ _ _ _ _
      | exact ih5 _ _ _ _ _ _ _ _ _ _ _ _ _ _
      | exact laws_smMarks.mono _ _ _
      | exact spec_L5DrawMarks.mono _ _ _ _ _ _
      | exact LeO.none _
      | refine LeO.ite ?_ ?_
      | refine LeO.bind ?_ (fun _ => ?_)
    · intro y0 y1 y2 y3 y4 y5 y6 y7 y8 y9 y10
      unfold laws_FnMarksBack.j3
      repeat' first
      | (with_reducible exact ih0 _ _ _ _ _)
      | (with_reducible exact ih1 _ _ _ _ _)
      | (with_reducible exact ih2 _ _ _ _ _ _ _)
      | (with_reducible exact ih3 _ _ _ _ _ _ _ _ _ _ _)
      | (with_reducible exact ih4 _ _ _ _ _ _ _ _ _ _)
      | (with_reducible exact ih5 _ _ _ _ _ _ _ _ _ _ _ _ _ _)
      | (with_reducible exact laws_smMarks.mono _ _ _)
      | (with_reducible exact spec_L5DrawMarks.mono _ _ _ _ _ _)
      | (with_reducible exact LeO.refl _)
      | (with_reducible exact LeO.none _)
      | (with_reducible refine LeO.ite ?_ ?_)
      | (with_reducible refine LeO.bind ?_ (fun _ => ?_))
      | exact ih0 _ _ _ _ _
      | exact ih1 _ _ _ _ _
      | exact ih2 _ _ _ _ _ _ _
      | exact ih3 _ _ _ _ _ _ _ _ _ _ _
      | exact ih4 _ _ _ _ _ _ _ _ _ _
      | exact ih5 _ _ _ _ _ _ _ _ _ _ _ _ _ _
      | exact laws_smMarks.mono _ _ _
      | exact spec_L5DrawMarks.mono _ _ _ _ _ _
      | exact LeO.none _
      | refine LeO.ite ?_ ?_
      | refine LeO.bind ?_ (fun _ => ?_)
    · intro y0 y1 y2 y3 y4 y5 y6 y7 y8 y9
      unfold laws_FnMarksBack.j4
      repeat' first
      | (with_reducible exact ih0 _ _ _ _ _)
      | (with_reducible exact ih1 _ _ _ _ _)
      | (with_reducible exact ih2 _ _ _ _ _ _ _)
      | (with_reducible exact ih3 _ _ _ _ _ _ _ _ _ _ _)
      | (with_reducible exact ih4 _ _ _ _ _ _ _ _ _ _)
      | (with_reducible exact ih5 _ _ _ _ _ _ _ _ _ _ _ _ _ _)
      | (with_reducible exact laws_smMarks.mono _ _ _)
      | (with_reducible exact spec_L5DrawMarks.mono _ _ _ _ _ _)
      | (with_reducible exact LeO.refl _)
      | (with_reducible exact LeO.none _)
      | (with_reducible refine LeO.ite ?_ ?_)
      | (with_reducible refine LeO.bind ?_ (fun _ => ?_))
      | exact ih0 _ _ _ _ _
      | exact ih1 _ _ _ _ _
      | exact ih2 _ _ _ _ _ _ _
      | exact ih3 _ _ _ _ _ _ _ _ _ _ _
      | exact ih4 _ _ _ _ _ _ _ _ _ _
      | exact ih5 _ _ _ _ _ _ _ _ _ _ _ _ _ _
      | exact laws_smMarks.mono _ _ _
      | exact spec_L5DrawMarks.mono _ _ _ _ _ _
      | exact LeO.none _
      | refine LeO.ite ?_ ?_
      | refine LeO.bind ?_ (fun _ => ?_)
    · intro y0 y1 y2 y3 y4 y5 y6 y7 y8 y9 y10 y11 y12 y13
      unfold laws_FnMarksBack.l1
      repeat' first
      | (with_reducible exact ih0 _ _ _ _ _)
      | (with_reducible exact ih1 _ _ _ _ _)
      | (with_reducible exact ih2 _ _ _ _ _ _ _)
      | (with_reducible exact ih3 _ _ _ _ _ _ _ _ _ _ _)
      | (with_reducible exact ih4 _ _ _ _ _ _ _ _ _ _)
      | (with_reducible exact ih5 _ _ _ _ _ _ _ _ _ _ _ _ _ _)
      | (with_reducible exact laws_smMarks.mono _ _ _)
      | (with_reducible exact spec_L5DrawMarks.mono _ _ _ _ _ _)
      | (with_reducible exact LeO.refl _)
      | (with_reducible exact LeO.none _)
      | (with_reducible refine LeO.ite ?_ ?_)
      | (with_reducible refine LeO.bind ?_ (fun _ => ?_))
      | exact ih0 _ _ _ _ _
      | exact ih1 _ _ _ _ _
      | exact ih2 _ _ _ _ _ _ _
      | exact ih3 _ _ _ _ _ _ _ _ _ _ _
      | exact ih4 _ _ _ _ _ _ _ _ _ _
      | exact ih5 _ _ _ _ _ _ _ _ _ _ _ _ _ _
      | exact laws_smMarks.mono _ _ _
      | exact spec_L5DrawMarks.mono _ _ _ _ _ _
      | exact LeO.none _
      | refine LeO.ite ?_ ?_
      | refine LeO.bind ?_ (fun _ => ?_)
theorem laws_FnMarksBack.mono : ∀ a0 k, LeO (laws_FnMarksBack.f k a0) (laws_FnMarksBack.f (k + 1) a0) := by
  intro a0 k
  obtain ⟨ih0, ih1, ih2, ih3, ih4, ih5⟩ := laws_FnMarksBack.mono_l k
  unfold laws_FnMarksBack.f
  repeat' first
      | (with_reducible exact ih0 _ _ _ _ _)
      | (with_reducible exact ih1 _ _ _ _ _)
      | (with_reducible exact ih2 _ _ _ _ _ _ _)
      | (with_reducible exact ih3 _ _ _ _ _ _ _ _ _ _ _)
      | (with_reducible exact ih4 _ _ _ _ _ _ _ _ _ _)
      | (with_reducible exact ih5 _ _ _ _ _ _ _ _ _ _ _ _ _ _)
      | (with_reducible exact laws_smMarks.mono _ _ _)
      | (with_reducible exact spec_L5DrawMarks.mono _ _ _ _ _ _)
      | (with_reducible exact LeO.refl _)
      | (with_reducible exact LeO.none _)
      | (with_reducible refine LeO.ite ?_ ?_)
      | (with_reducible refine LeO.bind ?_ (fun _ => ?_))
      | exact ih0 _ _ _ _ _
      | exact ih1 _ _ _ _ _
      | exact ih2 _ _ _ _ _ _ _
      | exact ih3 _ _ _ _ _ _ _ _ _ _ _
      | exact ih4 _ _ _ _ _ _ _ _ _ _
      | exact ih5 _ _ _ _ _ _ _ _ _ _ _ _ _ _
      | exact laws_smMarks.mono _ _ _
      | exact spec_L5DrawMarks.mono _ _ _ _ _ _
      | exact LeO.none _
      | refine LeO.ite ?_ ?_
      | refine LeO.bind ?_ (fun _ => ?_)
set_option maxHeartbeats 8000000 in
set_option maxRecDepth 100000 in
theorem laws_FnMarksBack.calls (k : Nat) (A0 : Option Addr) (c0 : Nat) (l0 : List Int) (r : Bool) (w : World) (hr0 : Kd.C (Kd.int .u8) w A0 l0.length l0) (hc0 : l0.length ≤ c0)  (hgG_ : HG w) (h : laws_FnMarksBack.f k l0 = some r) :
    Calls Tryd.prog 5 #[.slice A0 l0.length c0] w fun e w' => e = .returned (.bool r) ∧ Below w.heap.size w w' := by
  have hu53 := Tryd.underlying53
  have HR0 := Aside0.mk hr0
  have HC0 := Aside0.mk hc0
  clear hr0 hc0
  have HB := Aside0.mk (Below.refl w.heap.size w)
  have H : (if (l0.length : Int) > 1048576 then (some true) else ((spec_L1Draw.f l0).bind fun bt185 => ((spec_l1Src_N.f bt185.1 bt185.2.1 bt185.2.2 200).bind fun bt189 => ((spec_L1Size.f l0 60).bind fun t192 => ((spec_l1Src_N.f bt185.1 bt189.2.1 bt189.2.2 t192).bind fun bt193 => ((spec_L5DrawMarks.f k bt185.1 bt193.2.1 bt193.2.2 (wrap64 (1 + bt193.1)) bt189.1).bind fun bt196 => ((spec_l1Src_N.f bt185.1 bt196.2.1 bt196.2.2 (wrap64 (bt189.1 + 1))).bind fun bt201 => ((spec_l1Src_N.f bt185.1 bt201.2.1 bt201.2.2 2).bind fun bt204 => (if bt204.1 = 0 then ((spec_l1Src_N.f bt185.1 bt204.2.1 bt204.2.2 (bt196.1.length : Int)).bind fun bt207 => (if 0 ≤ bt207.1 then (if bt207.1 < (bt196.1.length : Int) then (laws_FnMarksBack.j0 k bt196.1 ((rd_T53 bt196.1 bt207.1).f1) bt185.1 bt207.2.1 bt207.2.2) else (none)) else (none))) else (laws_FnMarksBack.j0 k bt196.1 bt201.1 bt185.1 bt204.2.1 bt204.2.2)))))))))) = some r := h
  clear h
  by_cases c2 : (l0.length : Int) > 1048576
  · rw [if_pos c2] at H
    have c2b0 : decide (1048576 < (l0.length : Int)) = true := decide_eq_true c2
    have c2b1 : decide (1048576 < l0.length) = true := decide_eq_true (by omega)
    clear c2
    obtain rfl := Option.some.inj H
    go_enter Tryd.func5, Tryd.ntmps5
    go_wp2
    go_ret
    exact ⟨by first | rfl | (simp [errW_none, errW_some] <;> rfl) | (simp [*, errW_none, errW_some] <;> rfl), by repeat (first | (with_reducible first | exact HB.out | apply below_alloc | apply pw_below_drewN | apply below_drew1) | exact HB.out)⟩
  · rw [if_neg c2] at H
    have c2b0 : decide (1048576 < (l0.length : Int)) = false := decide_eq_false c2
    have c2b1 : decide (1048576 < l0.length) = false := decide_eq_false (by omega)
    clear c2
    replace H := Option.bind_eq_some_iff.mp H
    obtain ⟨⟨t185, t186, t187⟩, A30, H⟩ := H
    replace H : ((spec_l1Src_N.f t185 t186 t187 200).bind fun bt189 => ((spec_L1Size.f l0 60).bind fun t192 => ((spec_l1Src_N.f t185 bt189.2.1 bt189.2.2 t192).bind fun bt193 => ((spec_L5DrawMarks.f k t185 bt193.2.1 bt193.2.2 (wrap64 (1 + bt193.1)) bt189.1).bind fun bt196 => ((spec_l1Src_N.f t185 bt196.2.1 bt196.2.2 (wrap64 (bt189.1 + 1))).bind fun bt201 => ((spec_l1Src_N.f t185 bt201.2.1 bt201.2.2 2).bind fun bt204 => (if bt204.1 = 0 then ((spec_l1Src_N.f t185 bt204.2.1 bt204.2.2 (bt196.1.length : Int)).bind fun bt207 => (if 0 ≤ bt207.1 then (if bt207.1 < (bt196.1.length : Int) then (laws_FnMarksBack.j0 k bt196.1 ((rd_T53 bt196.1 bt207.1).f1) t185 bt207.2.1 bt207.2.2) else (none)) else (none))) else (laws_FnMarksBack.j0 k bt196.1 bt201.1 t185 bt204.2.1 bt204.2.2)))))))) = some r := H
    have A3 := Aside0.mk A30
    clear A30
    replace H := Option.bind_eq_some_iff.mp H
    obtain ⟨⟨t189, t190, t191⟩, A40, H⟩ := H
    replace H : ((spec_L1Size.f l0 60).bind fun t192 => ((spec_l1Src_N.f t185 t190 t191 t192).bind fun bt193 => ((spec_L5DrawMarks.f k t185 bt193.2.1 bt193.2.2 (wrap64 (1 + bt193.1)) t189).bind fun bt196 => ((spec_l1Src_N.f t185 bt196.2.1 bt196.2.2 (wrap64 (t189 + 1))).bind fun bt201 => ((spec_l1Src_N.f t185 bt201.2.1 bt201.2.2 2).bind fun bt204 => (if bt204.1 = 0 then ((spec_l1Src_N.f t185 bt204.2.1 bt204.2.2 (bt196.1.length : Int)).bind fun bt207 => (if 0 ≤ bt207.1 then (if bt207.1 < (bt196.1.length : Int) then (laws_FnMarksBack.j0 k bt196.1 ((rd_T53 bt196.1 bt207.1).f1) t185 bt207.2.1 bt207.2.2) else (none)) else (none))) else (laws_FnMarksBack.j0 k bt196.1 bt201.1 t185 bt204.2.1 bt204.2.2))))))) = some r := H
    have A4 := Aside0.mk A40
    clear A40
    replace H := Option.bind_eq_some_iff.mp H
    obtain ⟨t192, A50, H⟩ := H
    replace H : ((spec_l1Src_N.f t185 t190 t191 t192).bind fun bt193 => ((spec_L5DrawMarks.f k t185 bt193.2.1 bt193.2.2 (wrap64 (1 + bt193.1)) t189).bind fun bt196 => ((spec_l1Src_N.f t185 bt196.2.1 bt196.2.2 (wrap64 (t189 + 1))).bind fun bt201 => ((spec_l1Src_N.f t185 bt201.2.1 bt201.2.2 2).bind fun bt204 => (if bt204.1 = 0 then ((spec_l1Src_N.f t185 bt204.2.1 bt204.2.2 (bt196.1.length : Int)).bind fun bt207 => (if 0 ≤ bt207.1 then (if bt207.1 < (bt196.1.length : Int) then (laws_FnMarksBack.j0 k bt196.1 ((rd_T53 bt196.1 bt207.1).f1) t185 bt207.2.1 bt207.2.2) else (none)) else (none))) else (laws_FnMarksBack.j0 k bt196.1 bt201.1 t185 bt204.2.1 bt204.2.2)))))) = some r := H
    have A5 := Aside0.mk A50
    clear A50
    replace H := Option.bind_eq_some_iff.mp H
    obtain ⟨⟨t193, t194, t195⟩, A60, H⟩ := H
    replace H : ((spec_L5DrawMarks.f k t185 t194 t195 (wrap64 (1 + t193)) t189).bind fun bt196 => ((spec_l1Src_N.f t185 bt196.2.1 bt196.2.2 (wrap64 (t189 + 1))).bind fun bt201 => ((spec_l1Src_N.f t185 bt201.2.1 bt201.2.2 2).bind fun bt204 => (if bt204.1 = 0 then ((spec_l1Src_N.f t185 bt204.2.1 bt204.2.2 (bt196.1.length : Int)).bind fun bt207 => (if 0 ≤ bt207.1 then (if bt207.1 < (bt196.1.length : Int) then (laws_FnMarksBack.j0 k bt196.1 ((rd_T53 bt196.1 bt207.1).f1) t185 bt207.2.1 bt207.2.2) else (none)) else (none))) else (laws_FnMarksBack.j0 k bt196.1 bt201.1 t185 bt204.2.1 bt204.2.2))))) = some r := H
    have A6 := Aside0.mk A60
    clear A60
    replace H := Option.bind_eq_some_iff.mp H
    obtain ⟨⟨t196, t199, t200⟩, A70, H⟩ := H
    replace H : ((spec_l1Src_N.f t185 t199 t200 (wrap64 (t189 + 1))).bind fun bt201 => ((spec_l1Src_N.f t185 bt201.2.1 bt201.2.2 2).bind fun bt204 => (if bt204.1 = 0 then ((spec_l1Src_N.f t185 bt204.2.1 bt204.2.2 (t196.length : Int)).bind fun bt207 => (if 0 ≤ bt207.1 then (if bt207.1 < (t196.length : Int) then (laws_FnMarksBack.j0 k t196 ((rd_T53 t196 bt207.1).f1) t185 bt207.2.1 bt207.2.2) else (none)) else (none))) else (laws_FnMarksBack.j0 k t196 bt201.1 t185 bt204.2.1 bt204.2.2)))) = some r := H
    have A7 := Aside0.mk A70
    clear A70
    replace H := Option.bind_eq_some_iff.mp H
    obtain ⟨⟨t201, t202, t203⟩, A80, H⟩ := H
    replace H : ((spec_l1Src_N.f t185 t202 t203 2).bind fun bt204 => (if bt204.1 = 0 then ((spec_l1Src_N.f t185 bt204.2.1 bt204.2.2 (t196.length : Int)).bind fun bt207 => (if 0 ≤ bt207.1 then (if bt207.1 < (t196.length : Int) then (laws_FnMarksBack.j0 k t196 ((rd_T53 t196 bt207.1).f1) t185 bt207.2.1 bt207.2.2) else (none)) else (none))) else (laws_FnMarksBack.j0 k t196 t201 t185 bt204.2.1 bt204.2.2))) = some r := H
    have A8 := Aside0.mk A80
    clear A80
    replace H := Option.bind_eq_some_iff.mp H
    obtain ⟨⟨t204, t205, t206⟩, A90, H⟩ := H
    replace H : (if t204 = 0 then ((spec_l1Src_N.f t185 t205 t206 (t196.length : Int)).bind fun bt207 => (if 0 ≤ bt207.1 then (if bt207.1 < (t196.length : Int) then (laws_FnMarksBack.j0 k t196 ((rd_T53 t196 bt207.1).f1) t185 bt207.2.1 bt207.2.2) else (none)) else (none))) else (laws_FnMarksBack.j0 k t196 t201 t185 t205 t206)) = some r := H
    have A9 := Aside0.mk A90
    clear A90
    have HC10 := Aside0.mk H
    clear H
    go_enter Tryd.func5, Tryd.ntmps5
    go_upto_if 39 with (first | ((with_reducible refine gate_callee (f := 17) rfl ?_); refine goesL_ (some 22) rfl rfl Tryd.func17 (by kernel_rfl) rfl #[.slice A0 l0.length c0] rfl (by (try simp only [List.map_toArray, List.map_cons, List.map_nil]); first | done | rfl | (simp only [List.length_drop, List.length_take]; rfl)) ?_; (with_reducible refine (spec_L1Draw.calls _ _ l0 t185 t186 t187 w _ ?side1 ?side2 ?side3 A3.out).mono ?_); (case side1 => repeat (first | (with_reducible first | exact HB.out | apply below_alloc | apply pw_below_drewN | apply below_drew1) | exact HB.out)); (case side2 => exact HR0.out); (case side3 => exact HC0.out); rintro e w11 ⟨g188, rfl, hi, hb, hb2⟩; refine ⟨_, rfl, ?_⟩; have n0_ := Aside0.mk (hb); have n1_ := Aside0.mk (hi); clear HB; have HB := n0_; have HI188 := n1_; clear n0_ n1_; (try clear hb); (try clear hb2); (try clear hk); (try clear hi)) | ((with_reducible refine gate_callee (f := 19) rfl ?_); refine goesL_ (some 24) rfl rfl Tryd.func19 (by kernel_rfl) rfl #[.pointer (some ⟨g188, 0, none⟩), .int .i64 200] rfl (by (try simp only [List.map_toArray, List.map_cons, List.map_nil]); first | done | rfl | (simp only [List.length_drop, List.length_take]; rfl)) ?_; (with_reducible refine (spec_l1Src_N.calls g188 t185 t186 t187 200 t189 t190 t191 w _ ?side1 ?side2 A4.out).mono ?_); (case side1 => repeat (first | (with_reducible first | exact HI188.out | apply IsS90.alloc | apply IsS90.drewN | apply IsS90.drew | apply IsS90.set_1 | apply IsS90.set_2) | exact HI188.out)); (case side2 => repeat (first | (with_reducible first | exact HB.out | apply below_alloc | apply pw_below_drewN | apply below_drew1 | refine below_set ?_ (IsS90.ge HI188.out)) | exact HB.out)); rintro e w12 ⟨rfl, hi, hb, hk⟩; refine ⟨_, rfl, ?_⟩; have n0_ := Aside0.mk (hb); have n1_ := Aside0.mk (hi); clear HB; clear HI188; have HB := n0_; have HI188 := n1_; clear n0_ n1_; (try clear hb); (try clear hb2); (try clear hk); (try clear hi)) | ((with_reducible refine gate_callee (f := 21) rfl ?_); refine goesL_ (some 28) rfl rfl Tryd.func21 (by kernel_rfl) rfl #[.slice A0 l0.length c0, .int .i64 60] rfl (by (try simp only [List.map_toArray, List.map_cons, List.map_nil]); first | done | rfl | (simp only [List.length_drop, List.length_take]; rfl)) ?_; (with_reducible refine (spec_L1Size.calls _ _ l0 60 t192 _ ?side1 ?side2 A5.out).mono ?_); (case side1 => repeat (first | exact (Kd.C_below HR0.out HB.out) | (with_reducible refine Kd.C_alloc ?_ _) | (with_reducible refine Kd.C_drewN ?_ _) | (with_reducible refine Kd.C_drew ?_))); (case side2 => exact HC0.out); rintro e w' ⟨rfl, ⟨nd, rfl⟩⟩; refine ⟨_, rfl, ?_⟩) | ((with_reducible refine gate_callee (f := 19) rfl ?_); refine goesL_ (some 29) rfl rfl Tryd.func19 (by kernel_rfl) rfl #[.pointer (some ⟨g188, 0, none⟩), .int .i64 t192] rfl (by (try simp only [List.map_toArray, List.map_cons, List.map_nil]); first | done | rfl | (simp only [List.length_drop, List.length_take]; rfl)) ?_; (with_reducible refine (spec_l1Src_N.calls g188 t185 t190 t191 t192 t193 t194 t195 w _ ?side1 ?side2 A6.out).mono ?_); (case side1 => repeat (first | (with_reducible first | exact HI188.out | apply IsS90.alloc | apply IsS90.drewN | apply IsS90.drew | apply IsS90.set_1 | apply IsS90.set_2) | exact HI188.out)); (case side2 => repeat (first | (with_reducible first | exact HB.out | apply below_alloc | apply pw_below_drewN | apply below_drew1 | refine below_set ?_ (IsS90.ge HI188.out)) | exact HB.out)); rintro e w13 ⟨rfl, hi, hb, hk⟩; refine ⟨_, rfl, ?_⟩; have n0_ := Aside0.mk (hb); have n1_ := Aside0.mk (hi); clear HB; clear HI188; have HB := n0_; have HI188 := n1_; clear n0_ n1_; (try clear hb); (try clear hb2); (try clear hk); (try clear hi)) | ((with_reducible refine gate_callee (f := 27) rfl ?_); refine goesL_ (some 32) rfl rfl Tryd.func27 (by kernel_rfl) rfl #[.pointer (some ⟨g188, 0, none⟩), .int .i64 (wrap64 (1 + t193)), .int .i64 t189] rfl (by (try simp only [List.map_toArray, List.map_cons, List.map_nil]); first | done | rfl | (simp only [List.length_drop, List.length_take]; rfl)) ?_; (with_reducible refine (spec_L5DrawMarks.calls k g188 t185 t194 t195 (wrap64 (1 + t193)) t189 t196 t199 t200 w _ ?side1 ?side2 A7.out).mono ?_); (case side1 => repeat (first | (with_reducible first | exact HI188.out | apply IsS90.alloc | apply IsS90.drewN | apply IsS90.drew | apply IsS90.set_1 | apply IsS90.set_2) | exact HI188.out)); (case side2 => repeat (first | (with_reducible first | exact HB.out | apply below_alloc | apply pw_below_drewN | apply below_drew1 | refine below_set ?_ (IsS90.ge HI188.out)) | exact HB.out)); rintro e w14 ⟨v197, rfl, ho0, hi, hb, hk⟩; refine ⟨_, rfl, ?_⟩; have n0_ := Aside0.mk (Kd.R_lower ho0 (below_size (by repeat (first | (with_reducible first | exact HB.out | apply below_alloc | apply pw_below_drewN | apply below_drew1 | refine below_set ?_ (IsS90.ge HI188.out)) | exact HB.out)))); have n1_ := Aside0.mk (hb); have n2_ := Aside0.mk (hi); clear HB; clear HI188; have HO198 := n0_; have HB := n1_; have HI188 := n2_; clear n0_ n1_ n2_; (try clear hb); (try clear hb2); (try clear hk); (try clear hi); (try clear ho0)) | ((with_reducible refine gate_callee (f := 19) rfl ?_); refine goesL_ (some 36) rfl rfl Tryd.func19 (by kernel_rfl) rfl #[.pointer (some ⟨g188, 0, none⟩), .int .i64 (wrap64 (t189 + 1))] rfl (by (try simp only [List.map_toArray, List.map_cons, List.map_nil]); first | done | rfl | (simp only [List.length_drop, List.length_take]; rfl)) ?_; (with_reducible refine (spec_l1Src_N.calls g188 t185 t199 t200 (wrap64 (t189 + 1)) t201 t202 t203 w _ ?side1 ?side2 A8.out).mono ?_); (case side1 => repeat (first | (with_reducible first | exact HI188.out | apply IsS90.alloc | apply IsS90.drewN | apply IsS90.drew | apply IsS90.set_1 | apply IsS90.set_2) | exact HI188.out)); (case side2 => repeat (first | (with_reducible first | exact HB.out | apply below_alloc | apply pw_below_drewN | apply below_drew1 | refine below_set ?_ (IsS90.ge HI188.out)) | exact HB.out)); rintro e w15 ⟨rfl, hi, hb, hk⟩; refine ⟨_, rfl, ?_⟩; have n0_ := Aside0.mk (Kd.R_mono (Kd.R_keep (IsS90.apart (show IsS90 w _ g188 t185 t199 t200 from by repeat (first | (with_reducible first | exact HI188.out | apply IsS90.alloc | apply IsS90.drewN | apply IsS90.drew | apply IsS90.set_1 | apply IsS90.set_2) | exact HI188.out)) (by (with_reducible repeat (first | apply Kd.R_alloc | apply Kd.R_drewN | apply Kd.R_drew)); exact HO198.out) (by decide)) hk (fun _ h => h.2)) (fun _ h => h.1)); have n1_ := Aside0.mk (hb); have n2_ := Aside0.mk (hi); clear HO198; clear HB; clear HI188; have HO198 := n0_; have HB := n1_; have HI188 := n2_; clear n0_ n1_ n2_; (try clear hb); (try clear hb2); (try clear hk); (try clear hi)) | ((with_reducible refine gate_callee (f := 19) rfl ?_); refine goesL_ (some 38) rfl rfl Tryd.func19 (by kernel_rfl) rfl #[.pointer (some ⟨g188, 0, none⟩), .int .i64 2] rfl (by (try simp only [List.map_toArray, List.map_cons, List.map_nil]); first | done | rfl | (simp only [List.length_drop, List.length_take]; rfl)) ?_; (with_reducible refine (spec_l1Src_N.calls g188 t185 t202 t203 2 t204 t205 t206 w _ ?side1 ?side2 A9.out).mono ?_); (case side1 => repeat (first | (with_reducible first | exact HI188.out | apply IsS90.alloc | apply IsS90.drewN | apply IsS90.drew | apply IsS90.set_1 | apply IsS90.set_2) | exact HI188.out)); (case side2 => repeat (first | (with_reducible first | exact HB.out | apply below_alloc | apply pw_below_drewN | apply below_drew1 | refine below_set ?_ (IsS90.ge HI188.out)) | exact HB.out)); rintro e w16 ⟨rfl, hi, hb, hk⟩; refine ⟨_, rfl, ?_⟩; have n0_ := Aside0.mk (Kd.R_mono (Kd.R_keep (IsS90.apart (show IsS90 w _ g188 t185 t202 t203 from by repeat (first | (with_reducible first | exact HI188.out | apply IsS90.alloc | apply IsS90.drewN | apply IsS90.drew | apply IsS90.set_1 | apply IsS90.set_2) | exact HI188.out)) (by (with_reducible repeat (first | apply Kd.R_alloc | apply Kd.R_drewN | apply Kd.R_drew)); exact HO198.out) (by decide)) hk (fun _ h => h.2)) (fun _ h => h.1)); have n1_ := Aside0.mk (hb); have n2_ := Aside0.mk (hi); clear HO198; clear HB; clear HI188; have HO198 := n0_; have HB := n1_; have HI188 := n2_; clear n0_ n1_ n2_; (try clear hb); (try clear hb2); (try clear hk); (try clear hi)))
    (try simp only [Act.put, List.setIfInBounds_toArray, List.set_cons_zero, List.set_cons_succ])
    go_cut [6] (fun v6 wc => ∃ (kq : Nat) (x6_9 : Int) (x189001_9 : Int) (x189002_9 : Int), v6 = .int .i64 x6_9 ∧ Aside0 (laws_FnMarksBack.j0 kq t196 x6_9 t185 x189001_9 x189002_9 = some r) ∧ Aside0 (kq ≤ k) ∧ Aside0 (Kd.R k53 53 wc w.heap.size (fun _ => True) v197 t196) ∧ Aside0 (IsS90 w wc g188 t185 x189001_9 x189002_9) ∧ Aside0 (Below w.heap.size w wc))
    case first =>
      have H := HC10.out
      clear HC10
      by_cases c17 : t204 = 0
      · rw [if_pos c17] at H
        have c17b0 : (t204 == 0) = true := beq_iff_eq.mpr c17
        have c17b1 : (t204 != 0) = false := bne_eq_false_iff_eq.mpr c17
        clear c17
        (first | rw [c17b0] | (simp only [i64_w, i32_w]; rw [c17b0]) | skip)
        replace H := Option.bind_eq_some_iff.mp H
        obtain ⟨⟨t207, t208, t209⟩, A180, H⟩ := H
        replace H : (if 0 ≤ t207 then (if t207 < (t196.length : Int) then (laws_FnMarksBack.j0 k t196 ((rd_T53 t196 t207).f1) t185 t208 t209) else (none)) else (none)) = some r := H
        have A18 := Aside0.mk A180
        clear A180
        by_cases c19 : 0 ≤ t207
        · rw [if_pos c19] at H
          have c19b0 : decide (0 ≤ t207) = true := decide_eq_true c19
          clear c19
          by_cases c20 : t207 < (t196.length : Int)
          · rw [if_pos c20] at H
            have c20b0 : decide (t207 < (t196.length : Int)) = true := decide_eq_true c20
            clear c20
            have H' := Aside0.mk H
            clear H
            obtain ⟨Ao21, co21, eo21⟩ := Kd.R_slice HO198.out
            subst eo21
            go_wp2_with (first | ((with_reducible refine gate_callee (f := 19) rfl ?_); refine goesL_ (some 44) rfl rfl Tryd.func19 (by kernel_rfl) rfl #[.pointer (some ⟨g188, 0, none⟩), .int .i64 (t196.length : Int)] rfl (by (try simp only [List.map_toArray, List.map_cons, List.map_nil]); first | done | rfl | (simp only [List.length_drop, List.length_take]; rfl)) ?_; (with_reducible refine (spec_l1Src_N.calls g188 t185 t205 t206 (t196.length : Int) t207 t208 t209 w _ ?side1 ?side2 A18.out).mono ?_); (case side1 => repeat (first | (with_reducible first | exact HI188.out | apply IsS90.alloc | apply IsS90.drewN | apply IsS90.drew | apply IsS90.set_1 | apply IsS90.set_2) | exact HI188.out)); (case side2 => repeat (first | (with_reducible first | exact HB.out | apply below_alloc | apply pw_below_drewN | apply below_drew1 | refine below_set ?_ (IsS90.ge HI188.out)) | exact HB.out)); rintro e w22 ⟨rfl, hi, hb, hk⟩; refine ⟨_, rfl, ?_⟩; have n0_ := Aside0.mk (Kd.R_mono (Kd.R_keep (IsS90.apart (show IsS90 w _ g188 t185 t205 t206 from by repeat (first | (with_reducible first | exact HI188.out | apply IsS90.alloc | apply IsS90.drewN | apply IsS90.drew | apply IsS90.set_1 | apply IsS90.set_2) | exact HI188.out)) (by (with_reducible repeat (first | apply Kd.R_alloc | apply Kd.R_drewN | apply Kd.R_drew)); exact HO198.out) (by decide)) hk (fun _ h => h.2)) (fun _ h => h.1)); have n1_ := Aside0.mk (hb); have n2_ := Aside0.mk (hi); clear HO198; clear HB; clear HI188; have HO198 := n0_; have HB := n1_; have HI188 := n2_; clear n0_ n1_ n2_; (try clear hb); (try clear hb2); (try clear hk); (try clear hi); have p210 : 0 ≤ (t207 : Int) := of_decide_eq_true (by first | (with_reducible assumption) | assumption); have q210 : t207 < (t196.length : Int) := of_decide_eq_true (by first | (with_reducible assumption) | assumption); obtain ⟨ad210, e210, hx210_0, hx210_1, hx210_2⟩ := at_T53 (Kd.R_reads' HO198.out).2.2 t207 p210 q210; cases e210; replace p210 := eq_true p210; replace q210 := eq_true q210))
            go_meet
            case rel => exact ⟨_, ((rd_T53 t196 t207).f1), (t208), (t209), (by first | rfl | (simp; done) | (simp [*]; done)), H', ⟨by first | omega | exact Nat.le_refl _⟩, ⟨by (with_reducible repeat (first | apply Kd.R_alloc | apply Kd.R_drewN | apply Kd.R_drew)); exact HO198.out⟩, ⟨by repeat (first | (with_reducible first | exact HI188.out | apply IsS90.alloc | apply IsS90.drewN | apply IsS90.drew | apply IsS90.set_1 | apply IsS90.set_2) | exact HI188.out)⟩, ⟨by repeat (first | (with_reducible first | exact HB.out | apply below_alloc | apply pw_below_drewN | apply below_drew1 | refine below_set ?_ (IsS90.ge HI188.out)) | exact HB.out)⟩⟩
          · rw [if_neg c20] at H
            exact absurd H (by simp)
        · rw [if_neg c19] at H
          exact absurd H (by simp)
      · rw [if_neg c17] at H
        have c17b0 : (t204 == 0) = false := beq_eq_false_iff_ne.mpr c17
        have c17b1 : (t204 != 0) = true := bne_iff_ne.mpr c17
        (first | rw [c17b0] | (simp only [i64_w, i32_w]; rw [c17b0]) | skip)
        have H' := Aside0.mk H
        clear H
        go_wp2
        go_meet
        case rel => exact ⟨_, (t201), (t205), (t206), (by first | rfl | (simp; done) | (simp [*]; done)), H', ⟨by first | omega | exact Nat.le_refl _⟩, ⟨by (with_reducible repeat (first | apply Kd.R_alloc | apply Kd.R_drewN | apply Kd.R_drew)); exact HO198.out⟩, ⟨by repeat (first | (with_reducible first | exact HI188.out | apply IsS90.alloc | apply IsS90.drewN | apply IsS90.drew | apply IsS90.set_1 | apply IsS90.set_2) | exact HI188.out)⟩, ⟨by repeat (first | (with_reducible first | exact HB.out | apply below_alloc | apply pw_below_drewN | apply below_drew1 | refine below_set ?_ (IsS90.ge HI188.out)) | exact HB.out)⟩⟩
    case rest =>
      clear HC10
      try clear c1
      try clear c2
      try clear c2b0
      try clear c2b1
      try clear p2
      try clear q2
      try clear hx2
      try clear c5
      try clear p6
      try clear c17
      try clear c17b0
      try clear c17b1
      try clear c19
      try clear c19b0
      try clear c20
      try clear c20b0
      try clear c21
      try clear p21
      try clear q21
      try clear hx21
      try clear hx210_0
      try clear hx210_1
      try clear hx210_2
      try clear p210
      try clear q210
      obtain ⟨kq, x6_9, x189001_9, x189002_9, rfl, HA, HJ9, HO_5, HI188, HB⟩ := hcut
      cases kq with
      | zero => exact absurd HA.out (by simp [laws_FnMarksBack.j0])
      | succ kj9 =>
        have H := HA.out
        clear HA
        simp only [laws_FnMarksBack.j0] at H
        replace H := Option.bind_eq_some_iff.mp H
        obtain ⟨⟨t211, t212, t213⟩, A230, H⟩ := H
        replace H : ((laws_cpMarks.f t196).bind fun t214 => ((impl_MarksInsert.f t214 x6_9 t211).bind fun bt217 => (if bt217.2 = 0 then (laws_FnMarksBack.j1 kj9 t196 x6_9 t211 bt217.1 ((bt217.1.length : Int) != (t196.length : Int))) else (laws_FnMarksBack.j1 kj9 t196 x6_9 t211 bt217.1 true)))) = some r := H
        have A23 := Aside0.mk A230
        clear A230
        replace H := Option.bind_eq_some_iff.mp H
        obtain ⟨t214, A240, H⟩ := H
        replace H : ((impl_MarksInsert.f t214 x6_9 t211).bind fun bt217 => (if bt217.2 = 0 then (laws_FnMarksBack.j1 kj9 t196 x6_9 t211 bt217.1 ((bt217.1.length : Int) != (t196.length : Int))) else (laws_FnMarksBack.j1 kj9 t196 x6_9 t211 bt217.1 true))) = some r := H
        have A24 := Aside0.mk A240
        clear A240
        replace H := Option.bind_eq_some_iff.mp H
        obtain ⟨⟨t217, t218⟩, A250, H⟩ := H
        replace H : (if t218 = 0 then (laws_FnMarksBack.j1 kj9 t196 x6_9 t211 t217 ((t217.length : Int) != (t196.length : Int))) else (laws_FnMarksBack.j1 kj9 t196 x6_9 t211 t217 true)) = some r := H
        have A25 := Aside0.mk A250
        clear A250
        have HC26 := Aside0.mk H
        clear H
        go_upto_region 11 with (first | ((with_reducible refine gate_callee (f := 19) rfl ?_); refine goesL_ (some 49) rfl rfl Tryd.func19 (by kernel_rfl) rfl #[.pointer (some ⟨g188, 0, none⟩), .int .i64 300] rfl (by (try simp only [List.map_toArray, List.map_cons, List.map_nil]); first | done | rfl | (simp only [List.length_drop, List.length_take]; rfl)) ?_; (with_reducible refine (spec_l1Src_N.calls g188 t185 x189001_9 x189002_9 300 t211 t212 t213 w _ ?side1 ?side2 A23.out).mono ?_); (case side1 => repeat (first | (with_reducible first | exact HI188.out | apply IsS90.alloc | apply IsS90.drewN | apply IsS90.drew | apply IsS90.set_1 | apply IsS90.set_2) | exact HI188.out)); (case side2 => repeat (first | (with_reducible first | exact HB.out | apply below_alloc | apply pw_below_drewN | apply below_drew1 | refine below_set ?_ (IsS90.ge HI188.out)) | exact HB.out)); rintro e w27 ⟨rfl, hi, hb, hk⟩; refine ⟨_, rfl, ?_⟩; have n0_ := Aside0.mk (Kd.R_mono (Kd.R_keep (IsS90.apart (show IsS90 w _ g188 t185 x189001_9 x189002_9 from by repeat (first | (with_reducible first | exact HI188.out | apply IsS90.alloc | apply IsS90.drewN | apply IsS90.drew | apply IsS90.set_1 | apply IsS90.set_2) | exact HI188.out)) (by (with_reducible repeat (first | apply Kd.R_alloc | apply Kd.R_drewN | apply Kd.R_drew)); exact HO_5.out) (by decide)) hk (fun _ h => h.2)) (fun _ h => h.1)); have n1_ := Aside0.mk (hb); have n2_ := Aside0.mk (hi); clear HO_5; clear HB; clear HI188; have HO_5 := n0_; have HB := n1_; have HI188 := n2_; clear n0_ n1_ n2_; (try clear hb); (try clear hb2); (try clear hk); (try clear hi); obtain ⟨Ao28, co28, eo28⟩ := Kd.R_slice HO_5.out; subst eo28) | ((with_reducible refine gate_callee (f := 29) rfl ?_); refine goesL_ (some 52) rfl rfl Tryd.func29 (by kernel_rfl) rfl #[.slice Ao28 t196.length co28] rfl (by (try simp only [List.map_toArray, List.map_cons, List.map_nil]); first | done | rfl | (simp only [List.length_drop, List.length_take]; rfl)) ?_; (with_reducible refine (laws_cpMarks.calls _ _ t196 t214 _ ?side1 ?side2 A24.out).mono ?_); (case side1 => repeat (first | exact (Kd.R_reads' HO_5.out).2.2 | (with_reducible refine Kd.C_alloc ?_ _) | (with_reducible refine Kd.C_drewN ?_ _) | (with_reducible refine Kd.C_drew ?_))); (case side2 => exact (Kd.R_reads' HO_5.out).2.1); rintro e w29 ⟨v215, rfl, ho0, hb⟩; refine ⟨_, rfl, ?_⟩; have n0_ := Aside0.mk (Kd.R_elder' (by (with_reducible repeat (first | apply Kd.R_alloc | apply Kd.R_drewN | apply Kd.R_drew)); exact HO_5.out) (Kd.R_base ho0) hb); have n1_ := Aside0.mk (Kd.R_lower (Kd.R_new' ho0 (Kd.R_lt (by (with_reducible repeat (first | apply Kd.R_alloc | apply Kd.R_drewN | apply Kd.R_drew)); exact HO_5.out))) (below_size (by repeat (first | (with_reducible first | exact HB.out | apply below_alloc | apply pw_below_drewN | apply below_drew1 | refine below_set ?_ (IsS90.ge HI188.out)) | exact HB.out)))); have n2_ := Aside0.mk (IsS90.below (by repeat (first | (with_reducible first | exact HI188.out | apply IsS90.alloc | apply IsS90.drewN | apply IsS90.drew | apply IsS90.set_1 | apply IsS90.set_2) | exact HI188.out)) hb); have n3_ := Aside0.mk (below_step (by repeat (first | (with_reducible first | exact HB.out | apply below_alloc | apply pw_below_drewN | apply below_drew1 | refine below_set ?_ (IsS90.ge HI188.out)) | exact HB.out)) hb); clear HO_5; clear HI188; clear HB; have HO_5 := n0_; have HO216 := n1_; have HI188 := n2_; have HB := n3_; clear n0_ n1_ n2_ n3_; (try clear hb); (try clear hb2); (try clear hk); (try clear hi); (try clear ho0); obtain ⟨Ao30, co30, eo30⟩ := Kd.R_slice HO216.out; subst eo30) | ((with_reducible refine gate_callee (f := 28) rfl ?_); refine goesL_ (some 55) rfl rfl Tryd.func28 (by kernel_rfl) rfl #[.slice Ao30 t214.length co30, .int .i64 x6_9, .int .i64 t211] rfl (by (try simp only [List.map_toArray, List.map_cons, List.map_nil]); first | done | rfl | (simp only [List.length_drop, List.length_take]; rfl)) ?_; (with_reducible refine (impl_MarksInsert.calls _ _ t214 x6_9 t211 t217 t218 _ ?side1 ?side2 ?side3 A25.out).mono ?_); (case side1 => repeat (first | exact (Kd.R_reads' HO216.out).2.2 | (with_reducible refine Kd.C_alloc ?_ _) | (with_reducible refine Kd.C_drewN ?_ _) | (with_reducible refine Kd.C_drew ?_))); (case side2 => exact (Kd.R_reads' HO216.out).2.1); (case side3 => exact HG.below hgG_ (by repeat (first | (with_reducible first | exact HB.out | apply below_alloc | apply pw_below_drewN | apply below_drew1 | refine below_set ?_ (IsS90.ge HI188.out)) | exact HB.out))); rintro e w31 ⟨v219, rfl, ho0, hb⟩; refine ⟨_, rfl, ?_⟩; have n0_ := Aside0.mk (Kd.R_elder' (by (with_reducible repeat (first | apply Kd.R_alloc | apply Kd.R_drewN | apply Kd.R_drew)); exact HO_5.out) (Kd.R_base ho0) hb); have n1_ := Aside0.mk (Kd.R_elder' (by (with_reducible repeat (first | apply Kd.R_alloc | apply Kd.R_drewN | apply Kd.R_drew)); exact HO216.out) (Kd.R_base ho0) hb); have n2_ := Aside0.mk (Kd.R_lower (Kd.R_new' (Kd.R_new' ho0 (Kd.R_lt (by (with_reducible repeat (first | apply Kd.R_alloc | apply Kd.R_drewN | apply Kd.R_drew)); exact HO_5.out))) (Kd.R_lt (by (with_reducible repeat (first | apply Kd.R_alloc | apply Kd.R_drewN | apply Kd.R_drew)); exact HO216.out))) (below_size (by repeat (first | (with_reducible first | exact HB.out | apply below_alloc | apply pw_below_drewN | apply below_drew1 | refine below_set ?_ (IsS90.ge HI188.out)) | exact HB.out)))); have n3_ := Aside0.mk (IsS90.below (by repeat (first | (with_reducible first | exact HI188.out | apply IsS90.alloc | apply IsS90.drewN | apply IsS90.drew | apply IsS90.set_1 | apply IsS90.set_2) | exact HI188.out)) hb); have n4_ := Aside0.mk (below_step (by repeat (first | (with_reducible first | exact HB.out | apply below_alloc | apply pw_below_drewN | apply below_drew1 | refine below_set ?_ (IsS90.ge HI188.out)) | exact HB.out)) hb); clear HO_5; clear HO216; clear HI188; clear HB; have HO_5 := n0_; have HO216 := n1_; have HO220 := n2_; have HI188 := n3_; have HB := n4_; clear n0_ n1_ n2_ n3_ n4_; (try clear hb); (try clear hb2); (try clear hk); (try clear hi); (try clear ho0)))
        (try simp only [Act.put, List.setIfInBounds_toArray, List.set_cons_zero, List.set_cons_succ])
        go_cut [66] (fun v66 wc => ∃ (kq : Nat) (x66_25 : Bool), v66 = .bool x66_25 ∧ Aside0 (laws_FnMarksBack.j1 kq t196 x6_9 t211 t217 x66_25 = some r) ∧ Aside0 (kq ≤ kj9) ∧ Aside0 (Kd.R k53 53 wc w.heap.size (fun k_ => some k_ ≠ (v219 : Value).ownBlock) (.slice Ao28 t196.length co28) t196) ∧ Aside0 (Kd.R k53 53 wc w.heap.size (fun k_ => some k_ ≠ ((.slice Ao28 t196.length co28) : Value).ownBlock) v219 t217) ∧ Aside0 (Below w.heap.size w wc))
        case first =>
          have H := HC26.out
          clear HC26
          by_cases c32 : t218 = 0
          · rw [if_pos c32] at H
            have c32b0 : (t218 == 0) = true := beq_iff_eq.mpr c32
            have c32b1 : (t218 != 0) = false := bne_eq_false_iff_eq.mpr c32
            clear c32
            (first | rw [c32b0] | (simp only [i64_w, i32_w]; rw [c32b0]) | skip)
            have H' := Aside0.mk H
            clear H
            obtain ⟨Ao33, co33, eo33⟩ := Kd.R_slice HO220.out
            subst eo33
            go_wp2
            go_meet
            case rel => exact ⟨_, (((t217.length : Int) != (t196.length : Int))), (by first | rfl | (simp; done) | (simp [*]; done)), H', ⟨by have := HJ9.out; first | omega | exact Nat.le_refl _⟩, ⟨by (with_reducible repeat (first | apply Kd.R_alloc | apply Kd.R_drewN | apply Kd.R_drew)); first | exact Kd.R_mono HO_5.out (fun _ hk => hk.2) | exact Kd.R_mono HO_5.out (fun _ hk => own_len_ hk.2)⟩, ⟨by (with_reducible repeat (first | apply Kd.R_alloc | apply Kd.R_drewN | apply Kd.R_drew)); exact Kd.R_mono HO220.out (fun _ hk => hk.1.2)⟩, ⟨by repeat (first | (with_reducible first | exact HB.out | apply below_alloc | apply pw_below_drewN | apply below_drew1 | refine below_set ?_ (IsS90.ge HI188.out)) | exact HB.out)⟩⟩
          · rw [if_neg c32] at H
            have c32b0 : (t218 == 0) = false := beq_eq_false_iff_ne.mpr c32
            have c32b1 : (t218 != 0) = true := bne_iff_ne.mpr c32
            (first | rw [c32b0] | (simp only [i64_w, i32_w]; rw [c32b0]) | skip)
            have H' := Aside0.mk H
            clear H
            go_wp2
            go_meet
            case rel => exact ⟨_, (true), (by first | rfl | (simp; done) | (simp [*]; done)), H', ⟨by have := HJ9.out; first | omega | exact Nat.le_refl _⟩, ⟨by (with_reducible repeat (first | apply Kd.R_alloc | apply Kd.R_drewN | apply Kd.R_drew)); first | exact Kd.R_mono HO_5.out (fun _ hk => hk.2) | exact Kd.R_mono HO_5.out (fun _ hk => own_len_ hk.2)⟩, ⟨by (with_reducible repeat (first | apply Kd.R_alloc | apply Kd.R_drewN | apply Kd.R_drew)); exact Kd.R_mono HO220.out (fun _ hk => hk.1.2)⟩, ⟨by repeat (first | (with_reducible first | exact HB.out | apply below_alloc | apply pw_below_drewN | apply below_drew1 | refine below_set ?_ (IsS90.ge HI188.out)) | exact HB.out)⟩⟩
        case rest =>
          clear HC26
          try clear c1
          try clear c2
          try clear c2b0
          try clear c2b1
          try clear p2
          try clear q2
          try clear hx2
          try clear c3
          try clear c5
          try clear p6
          try clear c17
          try clear c17b0
          try clear c17b1
          try clear c19
          try clear c19b0
          try clear c20
          try clear c20b0
          try clear c21
          try clear p21
          try clear q21
          try clear hx21
          try clear c27
          try clear c28
          try clear c29
          try clear c32
          try clear c32b0
          try clear c32b1
          try clear hx210_0
          try clear hx210_1
          try clear hx210_2
          try clear p2
          try clear p21
          try clear p210
          try clear p6
          try clear q2
          try clear q21
          try clear q210
          obtain ⟨kq, x66_25, rfl, HA, HJ25, HO_5, HO_8, HB⟩ := hcut
          cases kq with
          | zero => exact absurd HA.out (by simp [laws_FnMarksBack.j1])
          | succ kj25 =>
            have H := HA.out
            clear HA
            simp only [laws_FnMarksBack.j1] at H
            by_cases c34 : x66_25 = true
            · subst c34
              have H1 : (some false) = some r := by rw [if_pos rfl] at H; exact H
              clear H
              have H := H1
              clear H1
              obtain rfl := Option.some.inj H
              go_wp2
              go_ret
              exact ⟨by first | rfl | (simp [errW_none, errW_some] <;> rfl) | (simp [*, errW_none, errW_some] <;> rfl), by repeat (first | (with_reducible first | exact HB.out | apply below_alloc | apply pw_below_drewN | apply below_drew1) | exact HB.out)⟩
            · replace c34 := Bool.eq_false_iff.mpr c34
              subst c34
              have H1 : (laws_FnMarksBack.l0 kj25 t196 x6_9 t211 t217 t196 (t196.length : Int) 0) = some r := by rw [if_neg (show ¬ (false = true) by decide)] at H; exact H
              clear H
              have H := H1
              clear H1
              have H' := Aside0.mk H
              clear H
              go_wp2
              go_loopg [69] kj25 (fun kq v69 w' => ∃ (x69_3 : Int), v69 = .int .i64 x69_3 ∧ Aside0 (laws_FnMarksBack.l0 kq t196 x6_9 t211 t217 t196 (t196.length : Int) x69_3 = some r) ∧ Aside0 (kq ≤ kj25) ∧ Aside0 (Kd.R k53 53 w' w.heap.size (fun k_ => some k_ ≠ (v219 : Value).ownBlock) (.slice Ao28 t196.length co28) t196) ∧ Aside0 (Kd.R k53 53 w' w.heap.size (fun k_ => some k_ ≠ ((.slice Ao28 t196.length co28) : Value).ownBlock ∧ some k_ ≠ ((.slice Ao28 t196.length co28) : Value).ownBlock) v219 t217) ∧ Aside0 (Kd.R k53 53 w' w.heap.size (fun k_ => some k_ ≠ (v219 : Value).ownBlock) (.slice Ao28 t196.length co28) t196) ∧ Aside0 (Below w.heap.size w w'))
              case atStart => exact ⟨(0), (by first | rfl | (simp; done) | (simp [*]; done)), H', ⟨Nat.le_refl _⟩, ⟨by (with_reducible repeat (first | apply Kd.R_alloc | apply Kd.R_drewN | apply Kd.R_drew)); exact HO_5.out⟩, ⟨by (with_reducible repeat (first | apply Kd.R_alloc | apply Kd.R_drewN | apply Kd.R_drew)); exact Kd.R_mono HO_8.out (fun _ hk => ⟨hk, hk⟩)⟩, ⟨by (with_reducible repeat (first | apply Kd.R_alloc | apply Kd.R_drewN | apply Kd.R_drew)); exact HO_5.out⟩, ⟨by repeat (first | (with_reducible first | exact HB.out | apply below_alloc | apply pw_below_drewN | apply below_drew1) | exact HB.out)⟩⟩
              case round =>
                clear H'
                try clear c1
                try clear c2
                try clear c2b0
                try clear c2b1
                try clear p2
                try clear q2
                try clear hx2
                try clear c3
                try clear c5
                try clear p6
                try clear c17
                try clear c17b0
                try clear c17b1
                try clear c19
                try clear c19b0
                try clear c20
                try clear c20b0
                try clear c21
                try clear p21
                try clear q21
                try clear hx21
                try clear c27
                try clear c28
                try clear c29
                try clear c32
                try clear c32b0
                try clear c32b1
                try clear c34
                try clear hx210_0
                try clear hx210_1
                try clear hx210_2
                try clear p2
                try clear p21
                try clear p210
                try clear p6
                try clear q2
                try clear q21
                try clear q210
                obtain ⟨x69_3, rfl, HA, HK3, HO_5, HO_8, HO_67, HB⟩ := hrel
                cases gk with
                | zero => exact absurd HA.out (by simp [laws_FnMarksBack.l0])
                | succ k3 =>
                  have H := HA.out
                  clear HA
                  simp only [laws_FnMarksBack.l0] at H
                  by_cases c35 : x69_3 < (t196.length : Int)
                  · rw [if_pos c35] at H
                    have c35b0 : decide (x69_3 < (t196.length : Int)) = true := decide_eq_true c35
                    clear c35
                    by_cases c36 : 0 ≤ x69_3
                    · rw [if_pos c36] at H
                      have c36b0 : decide (0 ≤ x69_3) = true := decide_eq_true c36
                      clear c36
                      by_cases c37 : x69_3 < (t196.length : Int)
                      · rw [if_pos c37] at H
                        have c37b0 : decide (x69_3 < (t196.length : Int)) = true := decide_eq_true c37
                        clear c37
                        have HC38 := Aside0.mk H
                        clear H
                        have p226 : 0 ≤ (x69_3 : Int) := of_decide_eq_true (by first | (with_reducible assumption) | assumption)
                        have q226 : x69_3 < (t196.length : Int) := of_decide_eq_true (by first | (with_reducible assumption) | assumption)
                        obtain ⟨ad226, e226, hx226_0, hx226_1, hx226_2⟩ := at_T53 (Kd.R_reads' HO_67.out).2.2 x69_3 p226 q226
                        cases e226
                        replace p226 := eq_true p226
                        replace q226 := eq_true q226
                        go_upto_region 17 with (first | ((with_reducible refine gate_dst (N := 11) rfl ?_); (try (refine gate_guard (by rfl) ?_; dsimp only)); refine box_event ?hg (N := 11) ?hd (cs := #[.int .i64 0, .int .i64 0, .int .i64 0]) (t := 53) ?hr ?_; (case hd => rfl); (case hg => rfl); (case hr => first | (go_simp; done) | (go_simp; rfl)); intro gb227 hg w39 hbox hb; have n0_ := Aside0.mk (Kd.R_below (Kd.R_elderB (by (with_reducible repeat (first | apply Kd.R_alloc | apply Kd.R_drewN | apply Kd.R_drew)); exact HO_5.out) gb227 (Nat.le_of_eq hg.symm)) hb); have n1_ := Aside0.mk (Kd.R_below (Kd.R_elderB (by (with_reducible repeat (first | apply Kd.R_alloc | apply Kd.R_drewN | apply Kd.R_drew)); exact HO_8.out) gb227 (Nat.le_of_eq hg.symm)) hb); have n2_ := Aside0.mk (Kd.R_below (Kd.R_elderB (by (with_reducible repeat (first | apply Kd.R_alloc | apply Kd.R_drewN | apply Kd.R_drew)); exact HO_67.out) gb227 (Nat.le_of_eq hg.symm)) hb); have n3_ := Aside0.mk (below_step (by repeat (first | (with_reducible first | exact HB.out | apply below_alloc | apply pw_below_drewN | apply below_drew1) | exact HB.out)) hb); have n4_ := Aside0.mk (hbox); have n5_ := Aside0.mk ((by rw [hg]; exact (below_size (by repeat (first | (with_reducible first | exact HB.out | apply below_alloc | apply pw_below_drewN | apply below_drew1) | exact HB.out))) : w.heap.size ≤ gb227)); have n6_ := Aside0.mk ((by rw [hg]; exact (below_size (by repeat (first | (with_reducible first | exact HB.out | apply below_alloc | apply pw_below_drewN | apply below_drew1) | exact HB.out))) : w.heap.size ≤ gb227)); clear HO_5; clear HO_8; clear HO_67; clear HB; have HO_5 := n0_; have HO_8 := n1_; have HO_67 := n2_; have HB := n3_; have BK227 := n4_; have GW227 := n5_; have GE227 := n6_; clear n0_ n1_ n2_ n3_ n4_ n5_ n6_; clear hb hbox hg; have hcz40_0 : w39.cell? ⟨gb227, 0, none⟩ = some (.int .i64 0) := (blk_cell BK227.out 0).trans rfl; have hcz40_1 : w39.cell? ⟨gb227, 1, none⟩ = some (.int .i64 0) := (blk_cell BK227.out 1).trans rfl; have hcz40_2 : w39.cell? ⟨gb227, 2, none⟩ = some (.int .i64 0) := (blk_cell BK227.out 2).trans rfl; have hfz40_0 := blk_frozen BK227.out 0; have hfz40_1 := blk_frozen BK227.out 1; have hfz40_2 := blk_frozen BK227.out 2) | ((with_reducible refine gate_dst (N := 12) rfl ?_); (try (refine gate_guard (by rfl) ?_; dsimp only)); refine box_event ?hg (N := 12) ?hd (cs := #[.int .i64 0, .int .i64 0, .int .i64 0]) (t := 53) ?hr ?_; (case hd => rfl); (case hg => rfl); (case hr => first | (go_simp; done) | (go_simp; rfl)); intro gb228 hg w41 hbox hb; have n0_ := Aside0.mk (Kd.R_below (Kd.R_elderB (by (with_reducible repeat (first | apply Kd.R_alloc | apply Kd.R_drewN | apply Kd.R_drew)); exact (Kd.R_mono (Kd.R_far (p := ⟨gb227, 2, none⟩) (Kd.R_far (p := ⟨gb227, 1, none⟩) (Kd.R_far (p := ⟨gb227, 0, none⟩) (Kd.R_mono HO_5.out (fun k_ hk => (⟨hk, hk.2⟩ : _ ∧ k_ ≠ gb227))) (fun _ hk => hk.2) (.int .i64 ((rd_T53 t196 x69_3).f0))) (fun _ hk => hk.2) (.int .i64 ((rd_T53 t196 x69_3).f1))) (fun _ hk => hk.2) (.int .i64 ((rd_T53 t196 x69_3).f2))) (fun _ h_ => h_.1))) gb228 (Nat.le_of_eq hg.symm)) hb); have n1_ := Aside0.mk (Kd.R_below (Kd.R_elderB (by (with_reducible repeat (first | apply Kd.R_alloc | apply Kd.R_drewN | apply Kd.R_drew)); exact (Kd.R_mono (Kd.R_far (p := ⟨gb227, 2, none⟩) (Kd.R_far (p := ⟨gb227, 1, none⟩) (Kd.R_far (p := ⟨gb227, 0, none⟩) (Kd.R_mono HO_8.out (fun k_ hk => (⟨hk, hk.2⟩ : _ ∧ k_ ≠ gb227))) (fun _ hk => hk.2) (.int .i64 ((rd_T53 t196 x69_3).f0))) (fun _ hk => hk.2) (.int .i64 ((rd_T53 t196 x69_3).f1))) (fun _ hk => hk.2) (.int .i64 ((rd_T53 t196 x69_3).f2))) (fun _ h_ => h_.1))) gb228 (Nat.le_of_eq hg.symm)) hb); have n2_ := Aside0.mk (Kd.R_below (Kd.R_elderB (by (with_reducible repeat (first | apply Kd.R_alloc | apply Kd.R_drewN | apply Kd.R_drew)); exact (Kd.R_mono (Kd.R_far (p := ⟨gb227, 2, none⟩) (Kd.R_far (p := ⟨gb227, 1, none⟩) (Kd.R_far (p := ⟨gb227, 0, none⟩) (Kd.R_mono HO_67.out (fun k_ hk => (⟨hk, hk.2⟩ : _ ∧ k_ ≠ gb227))) (fun _ hk => hk.2) (.int .i64 ((rd_T53 t196 x69_3).f0))) (fun _ hk => hk.2) (.int .i64 ((rd_T53 t196 x69_3).f1))) (fun _ hk => hk.2) (.int .i64 ((rd_T53 t196 x69_3).f2))) (fun _ h_ => h_.1))) gb228 (Nat.le_of_eq hg.symm)) hb); have n3_ := Aside0.mk (blk_below (g := gb227) (o := .cells #[.int .i64 ((rd_T53 t196 x69_3).f0), .int .i64 ((rd_T53 t196 x69_3).f1), .int .i64 ((rd_T53 t196 x69_3).f2)] 53 (0, 0)) (by (with_reducible repeat (first | refine blk_drewN ?_ _ | refine blk_drew ?_ | refine blk_alloc ?_ _)); refine blk_put (cs := #[.int .i64 ((rd_T53 t196 x69_3).f0), .int .i64 ((rd_T53 t196 x69_3).f1), .int .i64 0]) ?_ 2 _ rfl; (with_reducible repeat (first | refine blk_drewN ?_ _ | refine blk_drew ?_ | refine blk_alloc ?_ _)); refine blk_put (cs := #[.int .i64 ((rd_T53 t196 x69_3).f0), .int .i64 0, .int .i64 0]) ?_ 1 _ rfl; (with_reducible repeat (first | refine blk_drewN ?_ _ | refine blk_drew ?_ | refine blk_alloc ?_ _)); refine blk_put (cs := #[.int .i64 0, .int .i64 0, .int .i64 0]) ?_ 0 _ rfl; (with_reducible repeat (first | refine blk_drewN ?_ _ | refine blk_drew ?_ | refine blk_alloc ?_ _)); exact BK227.out) hb); have n4_ := Aside0.mk (below_step (by repeat (first | (with_reducible first | exact HB.out | apply below_alloc | apply pw_below_drewN | apply below_drew1 | refine below_set ?_ GE227.out) | exact HB.out)) hb); have n5_ := Aside0.mk (hbox); have n6_ := Aside0.mk ((by rw [hg]; exact (below_size (by repeat (first | (with_reducible first | exact HB.out | apply below_alloc | apply pw_below_drewN | apply below_drew1 | refine below_set ?_ GE227.out) | exact HB.out))) : w.heap.size ≤ gb228)); have n7_ := Aside0.mk ((by rw [hg]; exact (below_size (by repeat (first | (with_reducible first | exact HB.out | apply below_alloc | apply pw_below_drewN | apply below_drew1 | refine below_set ?_ GE227.out) | exact HB.out))) : w.heap.size ≤ gb228)); have n8_ := Aside0.mk ((by rw [hg]; exact Nat.ne_of_lt (blk_lt (g := gb227) (o := .cells #[.int .i64 ((rd_T53 t196 x69_3).f0), .int .i64 ((rd_T53 t196 x69_3).f1), .int .i64 ((rd_T53 t196 x69_3).f2)] 53 (0, 0)) (by (with_reducible repeat (first | refine blk_drewN ?_ _ | refine blk_drew ?_ | refine blk_alloc ?_ _)); refine blk_put (cs := #[.int .i64 ((rd_T53 t196 x69_3).f0), .int .i64 ((rd_T53 t196 x69_3).f1), .int .i64 0]) ?_ 2 _ rfl; (with_reducible repeat (first | refine blk_drewN ?_ _ | refine blk_drew ?_ | refine blk_alloc ?_ _)); refine blk_put (cs := #[.int .i64 ((rd_T53 t196 x69_3).f0), .int .i64 0, .int .i64 0]) ?_ 1 _ rfl; (with_reducible repeat (first | refine blk_drewN ?_ _ | refine blk_drew ?_ | refine blk_alloc ?_ _)); refine blk_put (cs := #[.int .i64 0, .int .i64 0, .int .i64 0]) ?_ 0 _ rfl; (with_reducible repeat (first | refine blk_drewN ?_ _ | refine blk_drew ?_ | refine blk_alloc ?_ _)); exact BK227.out)) : gb227 ≠ gb228)); have n9_ := Aside0.mk ((by rw [hg]; exact Nat.ne_of_gt (blk_lt (g := gb227) (o := .cells #[.int .i64 ((rd_T53 t196 x69_3).f0), .int .i64 ((rd_T53 t196 x69_3).f1), .int .i64 ((rd_T53 t196 x69_3).f2)] 53 (0, 0)) (by (with_reducible repeat (first | refine blk_drewN ?_ _ | refine blk_drew ?_ | refine blk_alloc ?_ _)); refine blk_put (cs := #[.int .i64 ((rd_T53 t196 x69_3).f0), .int .i64 ((rd_T53 t196 x69_3).f1), .int .i64 0]) ?_ 2 _ rfl; (with_reducible repeat (first | refine blk_drewN ?_ _ | refine blk_drew ?_ | refine blk_alloc ?_ _)); refine blk_put (cs := #[.int .i64 ((rd_T53 t196 x69_3).f0), .int .i64 0, .int .i64 0]) ?_ 1 _ rfl; (with_reducible repeat (first | refine blk_drewN ?_ _ | refine blk_drew ?_ | refine blk_alloc ?_ _)); refine blk_put (cs := #[.int .i64 0, .int .i64 0, .int .i64 0]) ?_ 0 _ rfl; (with_reducible repeat (first | refine blk_drewN ?_ _ | refine blk_drew ?_ | refine blk_alloc ?_ _)); exact BK227.out)) : gb228 ≠ gb227)); clear HO_5; clear HO_8; clear HO_67; clear BK227; clear HB; have HO_5 := n0_; have HO_8 := n1_; have HO_67 := n2_; have BK227 := n3_; have HB := n4_; have BK228 := n5_; have GW228 := n6_; have GE228 := n7_; have NB227_228 := n8_; have NB228_227 := n9_; clear n0_ n1_ n2_ n3_ n4_ n5_ n6_ n7_ n8_ n9_; clear hb hbox hg; have hnb42 := NB228_227.out; have hnc42 := NB227_228.out; have hcz43_0 : w41.cell? ⟨gb228, 0, none⟩ = some (.int .i64 0) := (blk_cell BK228.out 0).trans rfl; have hcz43_1 : w41.cell? ⟨gb228, 1, none⟩ = some (.int .i64 0) := (blk_cell BK228.out 1).trans rfl; have hcz43_2 : w41.cell? ⟨gb228, 2, none⟩ = some (.int .i64 0) := (blk_cell BK228.out 2).trans rfl; have hfz43_0 := blk_frozen BK228.out 0; have hfz43_1 := blk_frozen BK228.out 1; have hfz43_2 := blk_frozen BK228.out 2))
                        (try simp only [Act.put, List.setIfInBounds_toArray, List.set_cons_zero, List.set_cons_succ])
                        go_cut [88] (fun v88 wc => ∃ (kq : Nat) (x88_37 : Bool), v88 = .bool x88_37 ∧ Aside0 (laws_FnMarksBack.j3 kq t196 x6_9 t211 t217 t196 (t196.length : Int) x69_3 x88_37 ((rd_T53 t196 x69_3).f0) ((rd_T53 t196 x69_3).f1) ((rd_T53 t196 x69_3).f2) = some r) ∧ Aside0 (kq ≤ k3) ∧ Aside0 (Kd.R k53 53 wc w.heap.size (fun k_ => some k_ ≠ (v219 : Value).ownBlock ∧ k_ ≠ gb227 ∧ k_ ≠ gb228) (.slice (some ad226) t196.length co28) t196) ∧ Aside0 (Kd.R k53 53 wc w.heap.size (fun k_ => some k_ ≠ ((.slice (some ad226) t196.length co28) : Value).ownBlock ∧ some k_ ≠ ((.slice (some ad226) t196.length co28) : Value).ownBlock ∧ k_ ≠ gb227 ∧ k_ ≠ gb228) v219 t217) ∧ Aside0 (Kd.R k53 53 wc w.heap.size (fun k_ => some k_ ≠ (v219 : Value).ownBlock ∧ k_ ≠ gb227 ∧ k_ ≠ gb228) (.slice (some ad226) t196.length co28) t196) ∧ Aside0 (wc.heap[gb227]? = some (.cells #[.int .i64 ((rd_T53 t196 x69_3).f0), .int .i64 ((rd_T53 t196 x69_3).f1), .int .i64 ((rd_T53 t196 x69_3).f2)] 53 (0, 0))) ∧ Aside0 (wc.heap[gb228]? = some (.cells #[.int .i64 ((rd_T53 t196 x69_3).f0), .int .i64 ((rd_T53 t196 x69_3).f1), .int .i64 ((rd_T53 t196 x69_3).f2)] 53 (0, 0))) ∧ Aside0 (Below w.heap.size w wc))
                        case first =>
                          have H := HC38.out
                          clear HC38
                          by_cases c44 : ((rd_T53 t196 x69_3).f1) > x6_9
                          · rw [if_pos c44] at H
                            have c44b0 : decide (x6_9 < ((rd_T53 t196 x69_3).f1)) = true := decide_eq_true c44
                            clear c44
                            (first | rw [c44b0] | (simp only [i64_w, i32_w]; rw [c44b0]) | skip)
                            have H' := Aside0.mk H
                            clear H
                            have hnb45 := NB227_228.out
                            have hnc45 := NB228_227.out
                            have hcz46_0 : w41.cell? ⟨gb227, 0, none⟩ = some (.int .i64 ((rd_T53 t196 x69_3).f0)) := (blk_cell BK227.out 0).trans rfl
                            have hcz46_1 : w41.cell? ⟨gb227, 1, none⟩ = some (.int .i64 ((rd_T53 t196 x69_3).f1)) := (blk_cell BK227.out 1).trans rfl
                            have hcz46_2 : w41.cell? ⟨gb227, 2, none⟩ = some (.int .i64 ((rd_T53 t196 x69_3).f2)) := (blk_cell BK227.out 2).trans rfl
                            have hfz46_0 := blk_frozen BK227.out 0
                            have hfz46_1 := blk_frozen BK227.out 1
                            have hfz46_2 := blk_frozen BK227.out 2
                            go_wp2
                            go_meet
                            case rel => exact ⟨_, (true), (by first | rfl | (simp; done) | (simp [*]; done)), H', ⟨by have := HJ9.out; have := HJ25.out; have := HK3.out; first | omega | exact Nat.le_refl _⟩, ⟨by (with_reducible repeat (first | apply Kd.R_alloc | apply Kd.R_drewN | apply Kd.R_drew)); exact Kd.R_mono (Kd.R_far (p := ⟨gb228, 2, none⟩) (Kd.R_far (p := ⟨gb228, 1, none⟩) (Kd.R_far (p := ⟨gb228, 0, none⟩) (Kd.R_mono HO_5.out (fun k_ hk => (⟨hk, hk.2⟩ : _ ∧ k_ ≠ gb228))) (fun _ hk => hk.2) (.int .i64 ((rd_T53 t196 x69_3).f0))) (fun _ hk => hk.2) (.int .i64 ((rd_T53 t196 x69_3).f1))) (fun _ hk => hk.2) (.int .i64 ((rd_T53 t196 x69_3).f2))) (fun _ hk => ⟨hk.1.1.1, ⟨hk.1.1.2, hk.1.2⟩⟩)⟩, ⟨by (with_reducible repeat (first | apply Kd.R_alloc | apply Kd.R_drewN | apply Kd.R_drew)); exact Kd.R_mono (Kd.R_far (p := ⟨gb228, 2, none⟩) (Kd.R_far (p := ⟨gb228, 1, none⟩) (Kd.R_far (p := ⟨gb228, 0, none⟩) (Kd.R_mono HO_8.out (fun k_ hk => (⟨hk, hk.2⟩ : _ ∧ k_ ≠ gb228))) (fun _ hk => hk.2) (.int .i64 ((rd_T53 t196 x69_3).f0))) (fun _ hk => hk.2) (.int .i64 ((rd_T53 t196 x69_3).f1))) (fun _ hk => hk.2) (.int .i64 ((rd_T53 t196 x69_3).f2))) (fun _ hk => ⟨hk.1.1.1.1, ⟨hk.1.1.1.2, ⟨hk.1.1.2, hk.1.2⟩⟩⟩)⟩, ⟨by (with_reducible repeat (first | apply Kd.R_alloc | apply Kd.R_drewN | apply Kd.R_drew)); exact Kd.R_mono (Kd.R_far (p := ⟨gb228, 2, none⟩) (Kd.R_far (p := ⟨gb228, 1, none⟩) (Kd.R_far (p := ⟨gb228, 0, none⟩) (Kd.R_mono HO_67.out (fun k_ hk => (⟨hk, hk.2⟩ : _ ∧ k_ ≠ gb228))) (fun _ hk => hk.2) (.int .i64 ((rd_T53 t196 x69_3).f0))) (fun _ hk => hk.2) (.int .i64 ((rd_T53 t196 x69_3).f1))) (fun _ hk => hk.2) (.int .i64 ((rd_T53 t196 x69_3).f2))) (fun _ hk => ⟨hk.1.1.1, ⟨hk.1.1.2, hk.1.2⟩⟩)⟩, ⟨by (with_reducible repeat (first | refine blk_drewN ?_ _ | refine blk_drew ?_ | refine blk_alloc ?_ _)); refine blk_far ?_ NB227_228.out _; (with_reducible repeat (first | refine blk_drewN ?_ _ | refine blk_drew ?_ | refine blk_alloc ?_ _)); refine blk_far ?_ NB227_228.out _; (with_reducible repeat (first | refine blk_drewN ?_ _ | refine blk_drew ?_ | refine blk_alloc ?_ _)); refine blk_far ?_ NB227_228.out _; (with_reducible repeat (first | refine blk_drewN ?_ _ | refine blk_drew ?_ | refine blk_alloc ?_ _)); exact BK227.out⟩, ⟨by (with_reducible repeat (first | refine blk_drewN ?_ _ | refine blk_drew ?_ | refine blk_alloc ?_ _)); refine blk_put (cs := #[.int .i64 ((rd_T53 t196 x69_3).f0), .int .i64 ((rd_T53 t196 x69_3).f1), .int .i64 0]) ?_ 2 _ rfl; (with_reducible repeat (first | refine blk_drewN ?_ _ | refine blk_drew ?_ | refine blk_alloc ?_ _)); refine blk_put (cs := #[.int .i64 ((rd_T53 t196 x69_3).f0), .int .i64 0, .int .i64 0]) ?_ 1 _ rfl; (with_reducible repeat (first | refine blk_drewN ?_ _ | refine blk_drew ?_ | refine blk_alloc ?_ _)); refine blk_put (cs := #[.int .i64 0, .int .i64 0, .int .i64 0]) ?_ 0 _ rfl; (with_reducible repeat (first | refine blk_drewN ?_ _ | refine blk_drew ?_ | refine blk_alloc ?_ _)); exact BK228.out⟩, ⟨by repeat (first | (with_reducible first | exact HB.out | apply below_alloc | apply pw_below_drewN | apply below_drew1 | refine below_set ?_ GE227.out | refine below_set ?_ GE228.out) | exact HB.out)⟩⟩
                          · rw [if_neg c44] at H
                            have c44b0 : decide (x6_9 < ((rd_T53 t196 x69_3).f1)) = false := decide_eq_false c44
                            clear c44
                            (first | rw [c44b0] | (simp only [i64_w, i32_w]; rw [c44b0]) | skip)
                            by_cases c47 : ((rd_T53 t196 x69_3).f1) = x6_9
                            · rw [if_pos c47] at H
                              have c47b0 : (((rd_T53 t196 x69_3).f1) == x6_9) = true := beq_iff_eq.mpr c47
                              have c47b1 : (((rd_T53 t196 x69_3).f1) != x6_9) = false := bne_eq_false_iff_eq.mpr c47
                              clear c47
                              have H' := Aside0.mk H
                              clear H
                              have hnb48 := NB227_228.out
                              have hnc48 := NB228_227.out
                              have hcz49_0 : w41.cell? ⟨gb227, 0, none⟩ = some (.int .i64 ((rd_T53 t196 x69_3).f0)) := (blk_cell BK227.out 0).trans rfl
                              have hcz49_1 : w41.cell? ⟨gb227, 1, none⟩ = some (.int .i64 ((rd_T53 t196 x69_3).f1)) := (blk_cell BK227.out 1).trans rfl
                              have hcz49_2 : w41.cell? ⟨gb227, 2, none⟩ = some (.int .i64 ((rd_T53 t196 x69_3).f2)) := (blk_cell BK227.out 2).trans rfl
                              have hfz49_0 := blk_frozen BK227.out 0
                              have hfz49_1 := blk_frozen BK227.out 1
                              have hfz49_2 := blk_frozen BK227.out 2
                              go_wp2
                              go_meet
                              case rel => exact ⟨_, ((((rd_T53 t196 x69_3).f2) == 1)), (by first | rfl | (simp; done) | (simp [*]; done)), H', ⟨by have := HJ9.out; have := HJ25.out; have := HK3.out; first | omega | exact Nat.le_refl _⟩, ⟨by (with_reducible repeat (first | apply Kd.R_alloc | apply Kd.R_drewN | apply Kd.R_drew)); exact Kd.R_mono (Kd.R_far (p := ⟨gb228, 2, none⟩) (Kd.R_far (p := ⟨gb228, 1, none⟩) (Kd.R_far (p := ⟨gb228, 0, none⟩) (Kd.R_mono HO_5.out (fun k_ hk => (⟨hk, hk.2⟩ : _ ∧ k_ ≠ gb228))) (fun _ hk => hk.2) (.int .i64 ((rd_T53 t196 x69_3).f0))) (fun _ hk => hk.2) (.int .i64 ((rd_T53 t196 x69_3).f1))) (fun _ hk => hk.2) (.int .i64 ((rd_T53 t196 x69_3).f2))) (fun _ hk => ⟨hk.1.1.1, ⟨hk.1.1.2, hk.1.2⟩⟩)⟩, ⟨by (with_reducible repeat (first | apply Kd.R_alloc | apply Kd.R_drewN | apply Kd.R_drew)); exact Kd.R_mono (Kd.R_far (p := ⟨gb228, 2, none⟩) (Kd.R_far (p := ⟨gb228, 1, none⟩) (Kd.R_far (p := ⟨gb228, 0, none⟩) (Kd.R_mono HO_8.out (fun k_ hk => (⟨hk, hk.2⟩ : _ ∧ k_ ≠ gb228))) (fun _ hk => hk.2) (.int .i64 ((rd_T53 t196 x69_3).f0))) (fun _ hk => hk.2) (.int .i64 ((rd_T53 t196 x69_3).f1))) (fun _ hk => hk.2) (.int .i64 ((rd_T53 t196 x69_3).f2))) (fun _ hk => ⟨hk.1.1.1.1, ⟨hk.1.1.1.2, ⟨hk.1.1.2, hk.1.2⟩⟩⟩)⟩, ⟨by (with_reducible repeat (first | apply Kd.R_alloc | apply Kd.R_drewN | apply Kd.R_drew)); exact Kd.R_mono (Kd.R_far (p := ⟨gb228, 2, none⟩) (Kd.R_far (p := ⟨gb228, 1, none⟩) (Kd.R_far (p := ⟨gb228, 0, none⟩) (Kd.R_mono HO_67.out (fun k_ hk => (⟨hk, hk.2⟩ : _ ∧ k_ ≠ gb228))) (fun _ hk => hk.2) (.int .i64 ((rd_T53 t196 x69_3).f0))) (fun _ hk => hk.2) (.int .i64 ((rd_T53 t196 x69_3).f1))) (fun _ hk => hk.2) (.int .i64 ((rd_T53 t196 x69_3).f2))) (fun _ hk => ⟨hk.1.1.1, ⟨hk.1.1.2, hk.1.2⟩⟩)⟩, ⟨by (with_reducible repeat (first | refine blk_drewN ?_ _ | refine blk_drew ?_ | refine blk_alloc ?_ _)); refine blk_far ?_ NB227_228.out _; (with_reducible repeat (first | refine blk_drewN ?_ _ | refine blk_drew ?_ | refine blk_alloc ?_ _)); refine blk_far ?_ NB227_228.out _; (with_reducible repeat (first | refine blk_drewN ?_ _ | refine blk_drew ?_ | refine blk_alloc ?_ _)); refine blk_far ?_ NB227_228.out _; (with_reducible repeat (first | refine blk_drewN ?_ _ | refine blk_drew ?_ | refine blk_alloc ?_ _)); exact BK227.out⟩, ⟨by (with_reducible repeat (first | refine blk_drewN ?_ _ | refine blk_drew ?_ | refine blk_alloc ?_ _)); refine blk_put (cs := #[.int .i64 ((rd_T53 t196 x69_3).f0), .int .i64 ((rd_T53 t196 x69_3).f1), .int .i64 0]) ?_ 2 _ rfl; (with_reducible repeat (first | refine blk_drewN ?_ _ | refine blk_drew ?_ | refine blk_alloc ?_ _)); refine blk_put (cs := #[.int .i64 ((rd_T53 t196 x69_3).f0), .int .i64 0, .int .i64 0]) ?_ 1 _ rfl; (with_reducible repeat (first | refine blk_drewN ?_ _ | refine blk_drew ?_ | refine blk_alloc ?_ _)); refine blk_put (cs := #[.int .i64 0, .int .i64 0, .int .i64 0]) ?_ 0 _ rfl; (with_reducible repeat (first | refine blk_drewN ?_ _ | refine blk_drew ?_ | refine blk_alloc ?_ _)); exact BK228.out⟩, ⟨by repeat (first | (with_reducible first | exact HB.out | apply below_alloc | apply pw_below_drewN | apply below_drew1 | refine below_set ?_ GE227.out | refine below_set ?_ GE228.out) | exact HB.out)⟩⟩
                            · rw [if_neg c47] at H
                              have c47b0 : (((rd_T53 t196 x69_3).f1) == x6_9) = false := beq_eq_false_iff_ne.mpr c47
                              have c47b1 : (((rd_T53 t196 x69_3).f1) != x6_9) = true := bne_iff_ne.mpr c47
                              have H' := Aside0.mk H
                              clear H
                              have hnb50 := NB227_228.out
                              have hnc50 := NB228_227.out
                              have hcz51_0 : w41.cell? ⟨gb227, 0, none⟩ = some (.int .i64 ((rd_T53 t196 x69_3).f0)) := (blk_cell BK227.out 0).trans rfl
                              have hcz51_1 : w41.cell? ⟨gb227, 1, none⟩ = some (.int .i64 ((rd_T53 t196 x69_3).f1)) := (blk_cell BK227.out 1).trans rfl
                              have hcz51_2 : w41.cell? ⟨gb227, 2, none⟩ = some (.int .i64 ((rd_T53 t196 x69_3).f2)) := (blk_cell BK227.out 2).trans rfl
                              have hfz51_0 := blk_frozen BK227.out 0
                              have hfz51_1 := blk_frozen BK227.out 1
                              have hfz51_2 := blk_frozen BK227.out 2
                              go_wp2
                              go_meet
                              case rel => exact ⟨_, (false), (by first | rfl | (simp; done) | (simp [*]; done)), H', ⟨by have := HJ9.out; have := HJ25.out; have := HK3.out; first | omega | exact Nat.le_refl _⟩, ⟨by (with_reducible repeat (first | apply Kd.R_alloc | apply Kd.R_drewN | apply Kd.R_drew)); exact Kd.R_mono (Kd.R_far (p := ⟨gb228, 2, none⟩) (Kd.R_far (p := ⟨gb228, 1, none⟩) (Kd.R_far (p := ⟨gb228, 0, none⟩) (Kd.R_mono HO_5.out (fun k_ hk => (⟨hk, hk.2⟩ : _ ∧ k_ ≠ gb228))) (fun _ hk => hk.2) (.int .i64 ((rd_T53 t196 x69_3).f0))) (fun _ hk => hk.2) (.int .i64 ((rd_T53 t196 x69_3).f1))) (fun _ hk => hk.2) (.int .i64 ((rd_T53 t196 x69_3).f2))) (fun _ hk => ⟨hk.1.1.1, ⟨hk.1.1.2, hk.1.2⟩⟩)⟩, ⟨by (with_reducible repeat (first | apply Kd.R_alloc | apply Kd.R_drewN | apply Kd.R_drew)); exact Kd.R_mono (Kd.R_far (p := ⟨gb228, 2, none⟩) (Kd.R_far (p := ⟨gb228, 1, none⟩) (Kd.R_far (p := ⟨gb228, 0, none⟩) (Kd.R_mono HO_8.out (fun k_ hk => (⟨hk, hk.2⟩ : _ ∧ k_ ≠ gb228))) (fun _ hk => hk.2) (.int .i64 ((rd_T53 t196 x69_3).f0))) (fun _ hk => hk.2) (.int .i64 ((rd_T53 t196 x69_3).f1))) (fun _ hk => hk.2) (.int .i64 ((rd_T53 t196 x69_3).f2))) (fun _ hk => ⟨hk.1.1.1.1, ⟨hk.1.1.1.2, ⟨hk.1.1.2, hk.1.2⟩⟩⟩)⟩, ⟨by (with_reducible repeat (first | apply Kd.R_alloc | apply Kd.R_drewN | apply Kd.R_drew)); exact Kd.R_mono (Kd.R_far (p := ⟨gb228, 2, none⟩) (Kd.R_far (p := ⟨gb228, 1, none⟩) (Kd.R_far (p := ⟨gb228, 0, none⟩) (Kd.R_mono HO_67.out (fun k_ hk => (⟨hk, hk.2⟩ : _ ∧ k_ ≠ gb228))) (fun _ hk => hk.2) (.int .i64 ((rd_T53 t196 x69_3).f0))) (fun _ hk => hk.2) (.int .i64 ((rd_T53 t196 x69_3).f1))) (fun _ hk => hk.2) (.int .i64 ((rd_T53 t196 x69_3).f2))) (fun _ hk => ⟨hk.1.1.1, ⟨hk.1.1.2, hk.1.2⟩⟩)⟩, ⟨by (with_reducible repeat (first | refine blk_drewN ?_ _ | refine blk_drew ?_ | refine blk_alloc ?_ _)); refine blk_far ?_ NB227_228.out _; (with_reducible repeat (first | refine blk_drewN ?_ _ | refine blk_drew ?_ | refine blk_alloc ?_ _)); refine blk_far ?_ NB227_228.out _; (with_reducible repeat (first | refine blk_drewN ?_ _ | refine blk_drew ?_ | refine blk_alloc ?_ _)); refine blk_far ?_ NB227_228.out _; (with_reducible repeat (first | refine blk_drewN ?_ _ | refine blk_drew ?_ | refine blk_alloc ?_ _)); exact BK227.out⟩, ⟨by (with_reducible repeat (first | refine blk_drewN ?_ _ | refine blk_drew ?_ | refine blk_alloc ?_ _)); refine blk_put (cs := #[.int .i64 ((rd_T53 t196 x69_3).f0), .int .i64 ((rd_T53 t196 x69_3).f1), .int .i64 0]) ?_ 2 _ rfl; (with_reducible repeat (first | refine blk_drewN ?_ _ | refine blk_drew ?_ | refine blk_alloc ?_ _)); refine blk_put (cs := #[.int .i64 ((rd_T53 t196 x69_3).f0), .int .i64 0, .int .i64 0]) ?_ 1 _ rfl; (with_reducible repeat (first | refine blk_drewN ?_ _ | refine blk_drew ?_ | refine blk_alloc ?_ _)); refine blk_put (cs := #[.int .i64 0, .int .i64 0, .int .i64 0]) ?_ 0 _ rfl; (with_reducible repeat (first | refine blk_drewN ?_ _ | refine blk_drew ?_ | refine blk_alloc ?_ _)); exact BK228.out⟩, ⟨by repeat (first | (with_reducible first | exact HB.out | apply below_alloc | apply pw_below_drewN | apply below_drew1 | refine below_set ?_ GE227.out | refine below_set ?_ GE228.out) | exact HB.out)⟩⟩
                        case rest =>
                          clear HC38
                          try clear c1
                          try clear c2
                          try clear c2b0
                          try clear c2b1
                          try clear p2
                          try clear q2
                          try clear hx2
                          try clear c3
                          try clear c4
                          try clear c5
                          try clear p6
                          try clear c17
                          try clear c17b0
                          try clear c17b1
                          try clear c19
                          try clear c19b0
                          try clear c20
                          try clear c20b0
                          try clear c21
                          try clear p21
                          try clear q21
                          try clear hx21
                          try clear p22
                          try clear q22
                          try clear hx22
                          try clear c27
                          try clear c28
                          try clear c29
                          try clear c32
                          try clear c32b0
                          try clear c32b1
                          try clear c34
                          try clear c35
                          try clear c35b0
                          try clear c36
                          try clear c36b0
                          try clear c37
                          try clear c37b0
                          try clear c42
                          try clear c44
                          try clear c44b0
                          try clear c45
                          try clear c47
                          try clear c47b0
                          try clear c47b1
                          try clear c48
                          try clear c50
                          try clear hcz40_0
                          try clear hcz40_1
                          try clear hcz40_2
                          try clear hcz43_0
                          try clear hcz43_1
                          try clear hcz43_2
                          try clear hcz46_0
                          try clear hcz46_1
                          try clear hcz46_2
                          try clear hcz49_0
                          try clear hcz49_1
                          try clear hcz49_2
                          try clear hcz51_0
                          try clear hcz51_1
                          try clear hcz51_2
                          try clear hfz40_0
                          try clear hfz40_1
                          try clear hfz40_2
                          try clear hfz43_0
                          try clear hfz43_1
                          try clear hfz43_2
                          try clear hfz46_0
                          try clear hfz46_1
                          try clear hfz46_2
                          try clear hfz49_0
                          try clear hfz49_1
                          try clear hfz49_2
                          try clear hfz51_0
                          try clear hfz51_1
                          try clear hfz51_2
                          try clear hx210_0
                          try clear hx210_1
                          try clear hx210_2
                          try clear hx226_0
                          try clear hx226_1
                          try clear hx226_2
                          try clear p2
                          try clear p21
                          try clear p210
                          try clear p226
                          try clear p6
                          try clear q2
                          try clear q21
                          try clear q210
                          try clear q226
                          obtain ⟨kq, x88_37, rfl, HA, HJ37, HO_5, HO_8, HO_67, BK227, BK228, HB⟩ := hcut
                          cases kq with
                          | zero => exact absurd HA.out (by simp [laws_FnMarksBack.j3])
                          | succ kj37 =>
                            have H := HA.out
                            clear HA
                            simp only [laws_FnMarksBack.j3] at H
                            have HC52 := Aside0.mk H
                            clear H
                            go_upto_if 88 with (fail)
                            go_cut [] (fun wc => ∃ (kq : Nat) (x229001_51 : Int), Aside0 (laws_FnMarksBack.j4 kq t196 x6_9 t211 t217 t196 (t196.length : Int) x69_3 ((rd_T53 t196 x69_3).f0) x229001_51 ((rd_T53 t196 x69_3).f2) = some r) ∧ Aside0 (kq ≤ kj37) ∧ Aside0 (Kd.R k53 53 wc w.heap.size (fun k_ => some k_ ≠ (v219 : Value).ownBlock ∧ k_ ≠ gb227 ∧ k_ ≠ gb228) (.slice (some ad226) t196.length co28) t196) ∧ Aside0 (Kd.R k53 53 wc w.heap.size (fun k_ => some k_ ≠ ((.slice (some ad226) t196.length co28) : Value).ownBlock ∧ some k_ ≠ ((.slice (some ad226) t196.length co28) : Value).ownBlock ∧ k_ ≠ gb227 ∧ k_ ≠ gb228) v219 t217) ∧ Aside0 (Kd.R k53 53 wc w.heap.size (fun k_ => some k_ ≠ (v219 : Value).ownBlock ∧ k_ ≠ gb227 ∧ k_ ≠ gb228) (.slice (some ad226) t196.length co28) t196) ∧ Aside0 (wc.heap[gb227]? = some (.cells #[.int .i64 ((rd_T53 t196 x69_3).f0), .int .i64 ((rd_T53 t196 x69_3).f1), .int .i64 ((rd_T53 t196 x69_3).f2)] 53 (0, 0))) ∧ Aside0 (wc.heap[gb228]? = some (.cells #[.int .i64 ((rd_T53 t196 x69_3).f0), .int .i64 x229001_51, .int .i64 ((rd_T53 t196 x69_3).f2)] 53 (0, 0))) ∧ Aside0 (Below w.heap.size w wc))
                            case first =>
                              have H := HC52.out
                              clear HC52
                              by_cases c53 : x88_37 = true
                              · subst c53
                                have H1 : (laws_FnMarksBack.j4 kj37 t196 x6_9 t211 t217 t196 (t196.length : Int) x69_3 ((rd_T53 t196 x69_3).f0) (wrap64 (((rd_T53 t196 x69_3).f1) + t211)) ((rd_T53 t196 x69_3).f2)) = some r := by rw [if_pos rfl] at H; exact H
                                clear H
                                have H := H1
                                clear H1
                                have H' := Aside0.mk H
                                clear H
                                have hnb54 := NB228_227.out
                                have hnc54 := NB227_228.out
                                have hcz55_0 : wc.cell? ⟨gb228, 0, none⟩ = some (.int .i64 ((rd_T53 t196 x69_3).f0)) := (blk_cell BK228.out 0).trans rfl
                                have hcz55_1 : wc.cell? ⟨gb228, 1, none⟩ = some (.int .i64 ((rd_T53 t196 x69_3).f1)) := (blk_cell BK228.out 1).trans rfl
                                have hcz55_2 : wc.cell? ⟨gb228, 2, none⟩ = some (.int .i64 ((rd_T53 t196 x69_3).f2)) := (blk_cell BK228.out 2).trans rfl
                                have hfz55_0 := blk_frozen BK228.out 0
                                have hfz55_1 := blk_frozen BK228.out 1
                                have hfz55_2 := blk_frozen BK228.out 2
                                go_wp2
                                go_meet
                                case rel => exact ⟨_, (wrap64 (((rd_T53 t196 x69_3).f1) + t211)), H', ⟨by have := HJ9.out; have := HJ25.out; have := HK3.out; have := HJ37.out; first | omega | exact Nat.le_refl _⟩, ⟨by (with_reducible repeat (first | apply Kd.R_alloc | apply Kd.R_drewN | apply Kd.R_drew)); exact Kd.R_mono (Kd.R_far (p := ⟨gb228, 1, none⟩) (Kd.R_mono HO_5.out (fun k_ hk => (⟨hk, hk.2.2⟩ : _ ∧ k_ ≠ gb228))) (fun _ hk => hk.2) (.int .i64 (wrap64 (((rd_T53 t196 x69_3).f1) + t211)))) (fun _ hk => ⟨hk.1.1, ⟨hk.1.2.1, hk.1.2.2⟩⟩)⟩, ⟨by (with_reducible repeat (first | apply Kd.R_alloc | apply Kd.R_drewN | apply Kd.R_drew)); exact Kd.R_mono (Kd.R_far (p := ⟨gb228, 1, none⟩) (Kd.R_mono HO_8.out (fun k_ hk => (⟨hk, hk.2.2.2⟩ : _ ∧ k_ ≠ gb228))) (fun _ hk => hk.2) (.int .i64 (wrap64 (((rd_T53 t196 x69_3).f1) + t211)))) (fun _ hk => ⟨hk.1.1, ⟨hk.1.2.1, ⟨hk.1.2.2.1, hk.1.2.2.2⟩⟩⟩)⟩, ⟨by (with_reducible repeat (first | apply Kd.R_alloc | apply Kd.R_drewN | apply Kd.R_drew)); exact Kd.R_mono (Kd.R_far (p := ⟨gb228, 1, none⟩) (Kd.R_mono HO_67.out (fun k_ hk => (⟨hk, hk.2.2⟩ : _ ∧ k_ ≠ gb228))) (fun _ hk => hk.2) (.int .i64 (wrap64 (((rd_T53 t196 x69_3).f1) + t211)))) (fun _ hk => ⟨hk.1.1, ⟨hk.1.2.1, hk.1.2.2⟩⟩)⟩, ⟨by (with_reducible repeat (first | refine blk_drewN ?_ _ | refine blk_drew ?_ | refine blk_alloc ?_ _)); refine blk_far ?_ NB227_228.out _; (with_reducible repeat (first | refine blk_drewN ?_ _ | refine blk_drew ?_ | refine blk_alloc ?_ _)); exact BK227.out⟩, ⟨by (with_reducible repeat (first | refine blk_drewN ?_ _ | refine blk_drew ?_ | refine blk_alloc ?_ _)); refine blk_put (cs := #[.int .i64 ((rd_T53 t196 x69_3).f0), .int .i64 ((rd_T53 t196 x69_3).f1), .int .i64 ((rd_T53 t196 x69_3).f2)]) ?_ 1 _ rfl; (with_reducible repeat (first | refine blk_drewN ?_ _ | refine blk_drew ?_ | refine blk_alloc ?_ _)); exact BK228.out⟩, ⟨by repeat (first | (with_reducible first | exact HB.out | apply below_alloc | apply pw_below_drewN | apply below_drew1 | refine below_set ?_ GE227.out | refine below_set ?_ GE228.out) | exact HB.out)⟩⟩
                              · replace c53 := Bool.eq_false_iff.mpr c53
                                subst c53
                                have H1 : (laws_FnMarksBack.j4 kj37 t196 x6_9 t211 t217 t196 (t196.length : Int) x69_3 ((rd_T53 t196 x69_3).f0) ((rd_T53 t196 x69_3).f1) ((rd_T53 t196 x69_3).f2)) = some r := by rw [if_neg (show ¬ (false = true) by decide)] at H; exact H
                                clear H
                                have H := H1
                                clear H1
                                have H' := Aside0.mk H
                                clear H
                                go_wp2
                                go_meet
                                case rel => exact ⟨_, (((rd_T53 t196 x69_3).f1)), H', ⟨by have := HJ9.out; have := HJ25.out; have := HK3.out; have := HJ37.out; first | omega | exact Nat.le_refl _⟩, ⟨by (with_reducible repeat (first | apply Kd.R_alloc | apply Kd.R_drewN | apply Kd.R_drew)); exact HO_5.out⟩, ⟨by (with_reducible repeat (first | apply Kd.R_alloc | apply Kd.R_drewN | apply Kd.R_drew)); exact HO_8.out⟩, ⟨by (with_reducible repeat (first | apply Kd.R_alloc | apply Kd.R_drewN | apply Kd.R_drew)); exact HO_67.out⟩, ⟨by (with_reducible repeat (first | refine blk_drewN ?_ _ | refine blk_drew ?_ | refine blk_alloc ?_ _)); exact BK227.out⟩, ⟨by (with_reducible repeat (first | refine blk_drewN ?_ _ | refine blk_drew ?_ | refine blk_alloc ?_ _)); exact BK228.out⟩, ⟨by repeat (first | (with_reducible first | exact HB.out | apply below_alloc | apply pw_below_drewN | apply below_drew1 | refine below_set ?_ GE227.out | refine below_set ?_ GE228.out) | exact HB.out)⟩⟩
                            case rest =>
                              clear HC52
                              try clear c1
                              try clear c2
                              try clear c2b0
                              try clear c2b1
                              try clear p2
                              try clear q2
                              try clear hx2
                              try clear c3
                              try clear c4
                              try clear c5
                              try clear p6
                              try clear c17
                              try clear c17b0
                              try clear c17b1
                              try clear c19
                              try clear c19b0
                              try clear c20
                              try clear c20b0
                              try clear c21
                              try clear p21
                              try clear q21
                              try clear hx21
                              try clear p22
                              try clear q22
                              try clear hx22
                              try clear c27
                              try clear c28
                              try clear c29
                              try clear c32
                              try clear c32b0
                              try clear c32b1
                              try clear c34
                              try clear c35
                              try clear c35b0
                              try clear c36
                              try clear c36b0
                              try clear c37
                              try clear c37b0
                              try clear c42
                              try clear c44
                              try clear c44b0
                              try clear c45
                              try clear c47
                              try clear c47b0
                              try clear c47b1
                              try clear c48
                              try clear c50
                              try clear c53
                              try clear c54
                              try clear hcz40_0
                              try clear hcz40_1
                              try clear hcz40_2
                              try clear hcz43_0
                              try clear hcz43_1
                              try clear hcz43_2
                              try clear hcz46_0
                              try clear hcz46_1
                              try clear hcz46_2
                              try clear hcz49_0
                              try clear hcz49_1
                              try clear hcz49_2
                              try clear hcz51_0
                              try clear hcz51_1
                              try clear hcz51_2
                              try clear hcz55_0
                              try clear hcz55_1
                              try clear hcz55_2
                              try clear hfz40_0
                              try clear hfz40_1
                              try clear hfz40_2
                              try clear hfz43_0
                              try clear hfz43_1
                              try clear hfz43_2
                              try clear hfz46_0
                              try clear hfz46_1
                              try clear hfz46_2
                              try clear hfz49_0
                              try clear hfz49_1
                              try clear hfz49_2
                              try clear hfz51_0
                              try clear hfz51_1
                              try clear hfz51_2
                              try clear hfz55_0
                              try clear hfz55_1
                              try clear hfz55_2
                              try clear hx210_0
                              try clear hx210_1
                              try clear hx210_2
                              try clear hx226_0
                              try clear hx226_1
                              try clear hx226_2
                              try clear p2
                              try clear p21
                              try clear p210
                              try clear p22
                              try clear p226
                              try clear p6
                              try clear q2
                              try clear q21
                              try clear q210
                              try clear q22
                              try clear q226
                              obtain ⟨kq, x229001_51, HA, HJ51, HO_5, HO_8, HO_67, BK227, BK228, HB⟩ := hcut
                              cases kq with
                              | zero => exact absurd HA.out (by simp [laws_FnMarksBack.j4])
                              | succ kj51 =>
                                have H := HA.out
                                clear HA
                                simp only [laws_FnMarksBack.j4] at H
                                have H' := Aside0.mk H
                                clear H
                                obtain ⟨Ao56, co56, eo56⟩ := Kd.R_slice HO_8.out
                                subst eo56
                                go_wp2
                                go_loopg [13, 96] kj51 (fun kq v13 v96 w' => ∃ (x13_6 : Bool) (x96_6 : Int), v13 = .bool x13_6 ∧ v96 = .int .i64 x96_6 ∧ Aside0 (laws_FnMarksBack.l1 kq t196 x6_9 t211 t217 x13_6 t196 (t196.length : Int) x69_3 t217 (t217.length : Int) x96_6 ((rd_T53 t196 x69_3).f0) x229001_51 ((rd_T53 t196 x69_3).f2) = some r) ∧ Aside0 (kq ≤ kj51) ∧ Aside0 (Kd.R k53 53 w' w.heap.size (fun k_ => some k_ ≠ ((.slice Ao56 t217.length co56) : Value).ownBlock ∧ some k_ ≠ ((.slice Ao56 t217.length co56) : Value).ownBlock ∧ k_ ≠ gb227 ∧ k_ ≠ gb228) (.slice (some ad226) t196.length co28) t196) ∧ Aside0 (Kd.R k53 53 w' w.heap.size (fun k_ => some k_ ≠ ((.slice (some ad226) t196.length co28) : Value).ownBlock ∧ some k_ ≠ ((.slice (some ad226) t196.length co28) : Value).ownBlock ∧ k_ ≠ gb227 ∧ k_ ≠ gb228) (.slice Ao56 t217.length co56) t217) ∧ Aside0 (Kd.R k53 53 w' w.heap.size (fun k_ => some k_ ≠ ((.slice Ao56 t217.length co56) : Value).ownBlock ∧ some k_ ≠ ((.slice Ao56 t217.length co56) : Value).ownBlock ∧ k_ ≠ gb227 ∧ k_ ≠ gb228) (.slice (some ad226) t196.length co28) t196) ∧ Aside0 (Kd.R k53 53 w' w.heap.size (fun k_ => some k_ ≠ ((.slice (some ad226) t196.length co28) : Value).ownBlock ∧ some k_ ≠ ((.slice (some ad226) t196.length co28) : Value).ownBlock ∧ k_ ≠ gb227 ∧ k_ ≠ gb228) (.slice Ao56 t217.length co56) t217) ∧ Aside0 (w'.heap[gb227]? = some (.cells #[.int .i64 ((rd_T53 t196 x69_3).f0), .int .i64 ((rd_T53 t196 x69_3).f1), .int .i64 ((rd_T53 t196 x69_3).f2)] 53 (0, 0))) ∧ Aside0 (w'.heap[gb228]? = some (.cells #[.int .i64 ((rd_T53 t196 x69_3).f0), .int .i64 x229001_51, .int .i64 ((rd_T53 t196 x69_3).f2)] 53 (0, 0))) ∧ Aside0 (Below w.heap.size w w'))
                                case atStart => exact ⟨(false), (0), (by first | rfl | (simp; done) | (simp [*]; done)), (by first | rfl | (simp; done) | (simp [*]; done)), H', ⟨Nat.le_refl _⟩, ⟨by (with_reducible repeat (first | apply Kd.R_alloc | apply Kd.R_drewN | apply Kd.R_drew)); exact Kd.R_mono HO_5.out (fun _ hk => ⟨hk.1, ⟨hk.1, ⟨hk.2.1, hk.2.2⟩⟩⟩)⟩, ⟨by (with_reducible repeat (first | apply Kd.R_alloc | apply Kd.R_drewN | apply Kd.R_drew)); exact HO_8.out⟩, ⟨by (with_reducible repeat (first | apply Kd.R_alloc | apply Kd.R_drewN | apply Kd.R_drew)); exact Kd.R_mono HO_67.out (fun _ hk => ⟨hk.1, ⟨hk.1, ⟨hk.2.1, hk.2.2⟩⟩⟩)⟩, ⟨by (with_reducible repeat (first | apply Kd.R_alloc | apply Kd.R_drewN | apply Kd.R_drew)); exact HO_8.out⟩, ⟨by (with_reducible repeat (first | refine blk_drewN ?_ _ | refine blk_drew ?_ | refine blk_alloc ?_ _)); exact BK227.out⟩, ⟨by (with_reducible repeat (first | refine blk_drewN ?_ _ | refine blk_drew ?_ | refine blk_alloc ?_ _)); exact BK228.out⟩, ⟨by repeat (first | (with_reducible first | exact HB.out | apply below_alloc | apply pw_below_drewN | apply below_drew1 | refine below_set ?_ GE227.out | refine below_set ?_ GE228.out) | exact HB.out)⟩⟩
                                case round =>
                                  clear H'
                                  try clear c1
                                  try clear c2
                                  try clear c2b0
                                  try clear c2b1
                                  try clear p2
                                  try clear q2
                                  try clear hx2
                                  try clear c3
                                  try clear c4
                                  try clear c5
                                  try clear p6
                                  try clear c17
                                  try clear c17b0
                                  try clear c17b1
                                  try clear c19
                                  try clear c19b0
                                  try clear c20
                                  try clear c20b0
                                  try clear c21
                                  try clear p21
                                  try clear q21
                                  try clear hx21
                                  try clear p22
                                  try clear q22
                                  try clear hx22
                                  try clear c27
                                  try clear c28
                                  try clear c29
                                  try clear c32
                                  try clear c32b0
                                  try clear c32b1
                                  try clear c34
                                  try clear c35
                                  try clear c35b0
                                  try clear c36
                                  try clear c36b0
                                  try clear c37
                                  try clear c37b0
                                  try clear c42
                                  try clear c44
                                  try clear c44b0
                                  try clear c45
                                  try clear c47
                                  try clear c47b0
                                  try clear c47b1
                                  try clear c48
                                  try clear c50
                                  try clear c53
                                  try clear c54
                                  try clear hcz40_0
                                  try clear hcz40_1
                                  try clear hcz40_2
                                  try clear hcz43_0
                                  try clear hcz43_1
                                  try clear hcz43_2
                                  try clear hcz46_0
                                  try clear hcz46_1
                                  try clear hcz46_2
                                  try clear hcz49_0
                                  try clear hcz49_1
                                  try clear hcz49_2
                                  try clear hcz51_0
                                  try clear hcz51_1
                                  try clear hcz51_2
                                  try clear hcz55_0
                                  try clear hcz55_1
                                  try clear hcz55_2
                                  try clear hfz40_0
                                  try clear hfz40_1
                                  try clear hfz40_2
                                  try clear hfz43_0
                                  try clear hfz43_1
                                  try clear hfz43_2
                                  try clear hfz46_0
                                  try clear hfz46_1
                                  try clear hfz46_2
                                  try clear hfz49_0
                                  try clear hfz49_1
                                  try clear hfz49_2
                                  try clear hfz51_0
                                  try clear hfz51_1
                                  try clear hfz51_2
                                  try clear hfz55_0
                                  try clear hfz55_1
                                  try clear hfz55_2
                                  try clear hx210_0
                                  try clear hx210_1
                                  try clear hx210_2
                                  try clear hx226_0
                                  try clear hx226_1
                                  try clear hx226_2
                                  try clear p2
                                  try clear p21
                                  try clear p210
                                  try clear p22
                                  try clear p226
                                  try clear p6
                                  try clear q2
                                  try clear q21
                                  try clear q210
                                  try clear q22
                                  try clear q226
                                  obtain ⟨x13_6, x96_6, rfl, rfl, HA, HK6, HO_5, HO_8, HO_67, HO_94, BK227, BK228, HB⟩ := hrel
                                  cases gk with
                                  | zero => exact absurd HA.out (by simp [laws_FnMarksBack.l1])
                                  | succ k6 =>
                                    have H := HA.out
                                    clear HA
                                    simp only [laws_FnMarksBack.l1] at H
                                    by_cases c57 : x96_6 < (t217.length : Int)
                                    · rw [if_pos c57] at H
                                      have c57b0 : decide (x96_6 < (t217.length : Int)) = true := decide_eq_true c57
                                      clear c57
                                      by_cases c58 : 0 ≤ x96_6
                                      · rw [if_pos c58] at H
                                        have c58b0 : decide (0 ≤ x96_6) = true := decide_eq_true c58
                                        clear c58
                                        by_cases c59 : x96_6 < (t217.length : Int)
                                        · rw [if_pos c59] at H
                                          have c59b0 : decide (x96_6 < (t217.length : Int)) = true := decide_eq_true c59
                                          clear c59
                                          by_cases c60 : (((rd_T53 t217 x96_6).f0) == ((rd_T53 t196 x69_3).f0) && (((rd_T53 t217 x96_6).f1) == x229001_51 && (((rd_T53 t217 x96_6).f2) == ((rd_T53 t196 x69_3).f2)))) = true
                                          · rw [if_pos c60] at H
                                            have c60b0 : (((rd_T53 t217 x96_6).f0) == ((rd_T53 t196 x69_3).f0) && (((rd_T53 t217 x96_6).f1) == x229001_51 && (((rd_T53 t217 x96_6).f2) == ((rd_T53 t196 x69_3).f2)))) = true := c60
                                            (try (have c60b1 : decide (((rd_T53 t217 x96_6).f0) = ((rd_T53 t196 x69_3).f0) && (((rd_T53 t217 x96_6).f1) == x229001_51 && (((rd_T53 t217 x96_6).f2) == ((rd_T53 t196 x69_3).f2)))) = true := by simpa using c60))
                                            (try (have c60b2 : (((rd_T53 t217 x96_6).f0) == ((rd_T53 t196 x69_3).f0) && (((rd_T53 t217 x96_6).f1) == x229001_51 && (((rd_T53 t217 x96_6).f2) == ((rd_T53 t196 x69_3).f2)))) = true := by simpa using c60))
                                            clear c60
                                            have H' := Aside0.mk H
                                            clear H
                                            have p229 : 0 ≤ (x96_6 : Int) := of_decide_eq_true (by first | (with_reducible assumption) | assumption)
                                            have q229 : x96_6 < (t217.length : Int) := of_decide_eq_true (by first | (with_reducible assumption) | assumption)
                                            obtain ⟨ad229, e229, hx229_0, hx229_1, hx229_2⟩ := at_T53 (Kd.R_reads' HO_94.out).2.2 x96_6 p229 q229
                                            cases e229
                                            replace p229 := eq_true p229
                                            replace q229 := eq_true q229
                                            go_wp2_with (first | ((with_reducible refine gate_dst (N := 15) rfl ?_); (try (refine gate_guard (by rfl) ?_; dsimp only)); refine box_event ?hg (N := 15) ?hd (cs := #[.int .i64 0, .int .i64 0, .int .i64 0]) (t := 53) ?hr ?_; (case hd => rfl); (case hg => rfl); (case hr => first | (go_simp; done) | (go_simp; rfl)); intro gb230 hg w61 hbox hb; have n0_ := Aside0.mk (Kd.R_below (Kd.R_elderB (by (with_reducible repeat (first | apply Kd.R_alloc | apply Kd.R_drewN | apply Kd.R_drew)); exact HO_5.out) gb230 (Nat.le_of_eq hg.symm)) hb); have n1_ := Aside0.mk (Kd.R_below (Kd.R_elderB (by (with_reducible repeat (first | apply Kd.R_alloc | apply Kd.R_drewN | apply Kd.R_drew)); exact HO_8.out) gb230 (Nat.le_of_eq hg.symm)) hb); have n2_ := Aside0.mk (Kd.R_below (Kd.R_elderB (by (with_reducible repeat (first | apply Kd.R_alloc | apply Kd.R_drewN | apply Kd.R_drew)); exact HO_67.out) gb230 (Nat.le_of_eq hg.symm)) hb); have n3_ := Aside0.mk (Kd.R_below (Kd.R_elderB (by (with_reducible repeat (first | apply Kd.R_alloc | apply Kd.R_drewN | apply Kd.R_drew)); exact HO_94.out) gb230 (Nat.le_of_eq hg.symm)) hb); have n4_ := Aside0.mk (blk_below (g := gb227) (o := .cells #[.int .i64 ((rd_T53 t196 x69_3).f0), .int .i64 ((rd_T53 t196 x69_3).f1), .int .i64 ((rd_T53 t196 x69_3).f2)] 53 (0, 0)) (by (with_reducible repeat (first | refine blk_drewN ?_ _ | refine blk_drew ?_ | refine blk_alloc ?_ _)); exact BK227.out) hb); have n5_ := Aside0.mk (blk_below (g := gb228) (o := .cells #[.int .i64 ((rd_T53 t196 x69_3).f0), .int .i64 x229001_51, .int .i64 ((rd_T53 t196 x69_3).f2)] 53 (0, 0)) (by (with_reducible repeat (first | refine blk_drewN ?_ _ | refine blk_drew ?_ | refine blk_alloc ?_ _)); exact BK228.out) hb); have n6_ := Aside0.mk (below_step (by repeat (first | (with_reducible first | exact HB.out | apply below_alloc | apply pw_below_drewN | apply below_drew1 | refine below_set ?_ GE227.out | refine below_set ?_ GE228.out) | exact HB.out)) hb); have n7_ := Aside0.mk (hbox); have n8_ := Aside0.mk ((by rw [hg]; exact (below_size (by repeat (first | (with_reducible first | exact HB.out | apply below_alloc | apply pw_below_drewN | apply below_drew1 | refine below_set ?_ GE227.out | refine below_set ?_ GE228.out) | exact HB.out))) : w.heap.size ≤ gb230)); have n9_ := Aside0.mk ((by rw [hg]; exact (below_size (by repeat (first | (with_reducible first | exact HB.out | apply below_alloc | apply pw_below_drewN | apply below_drew1 | refine below_set ?_ GE227.out | refine below_set ?_ GE228.out) | exact HB.out))) : w.heap.size ≤ gb230)); have n10_ := Aside0.mk ((by rw [hg]; exact Nat.ne_of_lt (blk_lt (g := gb227) (o := .cells #[.int .i64 ((rd_T53 t196 x69_3).f0), .int .i64 ((rd_T53 t196 x69_3).f1), .int .i64 ((rd_T53 t196 x69_3).f2)] 53 (0, 0)) (by (with_reducible repeat (first | refine blk_drewN ?_ _ | refine blk_drew ?_ | refine blk_alloc ?_ _)); exact BK227.out)) : gb227 ≠ gb230)); have n11_ := Aside0.mk ((by rw [hg]; exact Nat.ne_of_gt (blk_lt (g := gb227) (o := .cells #[.int .i64 ((rd_T53 t196 x69_3).f0), .int .i64 ((rd_T53 t196 x69_3).f1), .int .i64 ((rd_T53 t196 x69_3).f2)] 53 (0, 0)) (by (with_reducible repeat (first | refine blk_drewN ?_ _ | refine blk_drew ?_ | refine blk_alloc ?_ _)); exact BK227.out)) : gb230 ≠ gb227)); have n12_ := Aside0.mk ((by rw [hg]; exact Nat.ne_of_lt (blk_lt (g := gb228) (o := .cells #[.int .i64 ((rd_T53 t196 x69_3).f0), .int .i64 x229001_51, .int .i64 ((rd_T53 t196 x69_3).f2)] 53 (0, 0)) (by (with_reducible repeat (first | refine blk_drewN ?_ _ | refine blk_drew ?_ | refine blk_alloc ?_ _)); exact BK228.out)) : gb228 ≠ gb230)); have n13_ := Aside0.mk ((by rw [hg]; exact Nat.ne_of_gt (blk_lt (g := gb228) (o := .cells #[.int .i64 ((rd_T53 t196 x69_3).f0), .int .i64 x229001_51, .int .i64 ((rd_T53 t196 x69_3).f2)] 53 (0, 0)) (by (with_reducible repeat (first | refine blk_drewN ?_ _ | refine blk_drew ?_ | refine blk_alloc ?_ _)); exact BK228.out)) : gb230 ≠ gb228)); clear HO_5; clear HO_8; clear HO_67; clear HO_94; clear BK227; clear BK228; clear HB; have HO_5 := n0_; have HO_8 := n1_; have HO_67 := n2_; have HO_94 := n3_; have BK227 := n4_; have BK228 := n5_; have HB := n6_; have BK230 := n7_; have GW230 := n8_; have GE230 := n9_; have NB227_230 := n10_; have NB230_227 := n11_; have NB228_230 := n12_; have NB230_228 := n13_; clear n0_ n1_ n2_ n3_ n4_ n5_ n6_ n7_ n8_ n9_ n10_ n11_ n12_ n13_; clear hb hbox hg; have hnb62 := NB230_227.out; have hnc62 := NB227_230.out; have hnb63 := NB230_228.out; have hnc63 := NB228_230.out; have hcz64_0 : w61.cell? ⟨gb230, 0, none⟩ = some (.int .i64 0) := (blk_cell BK230.out 0).trans rfl; have hcz64_1 : w61.cell? ⟨gb230, 1, none⟩ = some (.int .i64 0) := (blk_cell BK230.out 1).trans rfl; have hcz64_2 : w61.cell? ⟨gb230, 2, none⟩ = some (.int .i64 0) := (blk_cell BK230.out 2).trans rfl; have hfz64_0 := blk_frozen BK230.out 0; have hfz64_1 := blk_frozen BK230.out 1; have hfz64_2 := blk_frozen BK230.out 2; have hnb65 := NB228_227.out; have hnc65 := NB227_228.out; have hcz66_0 : w61.cell? ⟨gb228, 0, none⟩ = some (.int .i64 ((rd_T53 t196 x69_3).f0)) := (blk_cell BK228.out 0).trans rfl; have hcz66_1 : w61.cell? ⟨gb228, 1, none⟩ = some (.int .i64 x229001_51) := (blk_cell BK228.out 1).trans rfl; have hcz66_2 : w61.cell? ⟨gb228, 2, none⟩ = some (.int .i64 ((rd_T53 t196 x69_3).f2)) := (blk_cell BK228.out 2).trans rfl; have hfz66_0 := blk_frozen BK228.out 0; have hfz66_1 := blk_frozen BK228.out 1; have hfz66_2 := blk_frozen BK228.out 2))
                                            go_roundg k6
                                            case measure => have := HJ9.out; have := HJ25.out; have := HK3.out; have := HJ37.out; have := HJ51.out; have := HK6.out; omega
                                            case rel => exact ⟨(true), (wrap64 (x96_6 + 1)), (by first | rfl | (simp; done) | (simp [*]; done)), (by first | rfl | (simp; done) | (simp [*]; done)), H', ⟨by have := HJ9.out; have := HJ25.out; have := HK3.out; have := HJ37.out; have := HJ51.out; have := HK6.out; omega⟩, ⟨by (with_reducible repeat (first | apply Kd.R_alloc | apply Kd.R_drewN | apply Kd.R_drew)); exact Kd.R_mono (Kd.R_far (p := ⟨gb230, 2, none⟩) (Kd.R_far (p := ⟨gb230, 1, none⟩) (Kd.R_far (p := ⟨gb230, 0, none⟩) (Kd.R_mono HO_5.out (fun k_ hk => (⟨hk, hk.2⟩ : _ ∧ k_ ≠ gb230))) (fun _ hk => hk.2) (.int .i64 ((rd_T53 t217 x96_6).f0))) (fun _ hk => hk.2) (.int .i64 ((rd_T53 t217 x96_6).f1))) (fun _ hk => hk.2) (.int .i64 ((rd_T53 t217 x96_6).f2))) (fun _ hk => ⟨hk.1.1.1, ⟨hk.1.1.2.1, ⟨hk.1.1.2.2.1, hk.1.1.2.2.2⟩⟩⟩)⟩, ⟨by (with_reducible repeat (first | apply Kd.R_alloc | apply Kd.R_drewN | apply Kd.R_drew)); exact Kd.R_mono (Kd.R_far (p := ⟨gb230, 2, none⟩) (Kd.R_far (p := ⟨gb230, 1, none⟩) (Kd.R_far (p := ⟨gb230, 0, none⟩) (Kd.R_mono HO_8.out (fun k_ hk => (⟨hk, hk.2⟩ : _ ∧ k_ ≠ gb230))) (fun _ hk => hk.2) (.int .i64 ((rd_T53 t217 x96_6).f0))) (fun _ hk => hk.2) (.int .i64 ((rd_T53 t217 x96_6).f1))) (fun _ hk => hk.2) (.int .i64 ((rd_T53 t217 x96_6).f2))) (fun _ hk => ⟨hk.1.1.1, ⟨hk.1.1.2.1, ⟨hk.1.1.2.2.1, hk.1.1.2.2.2⟩⟩⟩)⟩, ⟨by (with_reducible repeat (first | apply Kd.R_alloc | apply Kd.R_drewN | apply Kd.R_drew)); exact Kd.R_mono (Kd.R_far (p := ⟨gb230, 2, none⟩) (Kd.R_far (p := ⟨gb230, 1, none⟩) (Kd.R_far (p := ⟨gb230, 0, none⟩) (Kd.R_mono HO_67.out (fun k_ hk => (⟨hk, hk.2⟩ : _ ∧ k_ ≠ gb230))) (fun _ hk => hk.2) (.int .i64 ((rd_T53 t217 x96_6).f0))) (fun _ hk => hk.2) (.int .i64 ((rd_T53 t217 x96_6).f1))) (fun _ hk => hk.2) (.int .i64 ((rd_T53 t217 x96_6).f2))) (fun _ hk => ⟨hk.1.1.1, ⟨hk.1.1.2.1, ⟨hk.1.1.2.2.1, hk.1.1.2.2.2⟩⟩⟩)⟩, ⟨by (with_reducible repeat (first | apply Kd.R_alloc | apply Kd.R_drewN | apply Kd.R_drew)); exact Kd.R_mono (Kd.R_far (p := ⟨gb230, 2, none⟩) (Kd.R_far (p := ⟨gb230, 1, none⟩) (Kd.R_far (p := ⟨gb230, 0, none⟩) (Kd.R_mono HO_94.out (fun k_ hk => (⟨hk, hk.2⟩ : _ ∧ k_ ≠ gb230))) (fun _ hk => hk.2) (.int .i64 ((rd_T53 t217 x96_6).f0))) (fun _ hk => hk.2) (.int .i64 ((rd_T53 t217 x96_6).f1))) (fun _ hk => hk.2) (.int .i64 ((rd_T53 t217 x96_6).f2))) (fun _ hk => ⟨hk.1.1.1, ⟨hk.1.1.2.1, ⟨hk.1.1.2.2.1, hk.1.1.2.2.2⟩⟩⟩)⟩, ⟨by (with_reducible repeat (first | refine blk_drewN ?_ _ | refine blk_drew ?_ | refine blk_alloc ?_ _)); refine blk_far ?_ NB227_230.out _; (with_reducible repeat (first | refine blk_drewN ?_ _ | refine blk_drew ?_ | refine blk_alloc ?_ _)); refine blk_far ?_ NB227_230.out _; (with_reducible repeat (first | refine blk_drewN ?_ _ | refine blk_drew ?_ | refine blk_alloc ?_ _)); refine blk_far ?_ NB227_230.out _; (with_reducible repeat (first | refine blk_drewN ?_ _ | refine blk_drew ?_ | refine blk_alloc ?_ _)); exact BK227.out⟩, ⟨by (with_reducible repeat (first | refine blk_drewN ?_ _ | refine blk_drew ?_ | refine blk_alloc ?_ _)); refine blk_far ?_ NB228_230.out _; (with_reducible repeat (first | refine blk_drewN ?_ _ | refine blk_drew ?_ | refine blk_alloc ?_ _)); refine blk_far ?_ NB228_230.out _; (with_reducible repeat (first | refine blk_drewN ?_ _ | refine blk_drew ?_ | refine blk_alloc ?_ _)); refine blk_far ?_ NB228_230.out _; (with_reducible repeat (first | refine blk_drewN ?_ _ | refine blk_drew ?_ | refine blk_alloc ?_ _)); exact BK228.out⟩, ⟨by repeat (first | (with_reducible first | exact HB.out | apply below_alloc | apply pw_below_drewN | apply below_drew1 | refine below_set ?_ GE227.out | refine below_set ?_ GE228.out | refine below_set ?_ GE230.out) | exact HB.out)⟩⟩
                                          · rw [if_neg c60] at H
                                            have c60b0 : (((rd_T53 t217 x96_6).f0) == ((rd_T53 t196 x69_3).f0) && (((rd_T53 t217 x96_6).f1) == x229001_51 && (((rd_T53 t217 x96_6).f2) == ((rd_T53 t196 x69_3).f2)))) = false := by simpa using c60
                                            (try (have c60b1 : decide (((rd_T53 t217 x96_6).f0) = ((rd_T53 t196 x69_3).f0) && (((rd_T53 t217 x96_6).f1) == x229001_51 && (((rd_T53 t217 x96_6).f2) == ((rd_T53 t196 x69_3).f2)))) = false := by simpa using c60))
                                            (try (have c60b2 : (((rd_T53 t217 x96_6).f0) == ((rd_T53 t196 x69_3).f0) && (((rd_T53 t217 x96_6).f1) == x229001_51 && (((rd_T53 t217 x96_6).f2) == ((rd_T53 t196 x69_3).f2)))) = false := by simpa using c60))
                                            (try (have c60b3 : ¬ (((rd_T53 t217 x96_6).f0) = ((rd_T53 t196 x69_3).f0) && (((rd_T53 t217 x96_6).f1) == x229001_51 && (((rd_T53 t217 x96_6).f2) == ((rd_T53 t196 x69_3).f2)))) := by simpa using c60))
                                            clear c60
                                            have H' := Aside0.mk H
                                            clear H
                                            have p229 : 0 ≤ (x96_6 : Int) := of_decide_eq_true (by first | (with_reducible assumption) | assumption)
                                            have q229 : x96_6 < (t217.length : Int) := of_decide_eq_true (by first | (with_reducible assumption) | assumption)
                                            obtain ⟨ad229, e229, hx229_0, hx229_1, hx229_2⟩ := at_T53 (Kd.R_reads' HO_94.out).2.2 x96_6 p229 q229
                                            cases e229
                                            replace p229 := eq_true p229
                                            replace q229 := eq_true q229
                                            go_wp2_with (first | ((with_reducible refine gate_dst (N := 15) rfl ?_); (try (refine gate_guard (by rfl) ?_; dsimp only)); refine box_event ?hg (N := 15) ?hd (cs := #[.int .i64 0, .int .i64 0, .int .i64 0]) (t := 53) ?hr ?_; (case hd => rfl); (case hg => rfl); (case hr => first | (go_simp; done) | (go_simp; rfl)); intro gb230 hg w67 hbox hb; have n0_ := Aside0.mk (Kd.R_below (Kd.R_elderB (by (with_reducible repeat (first | apply Kd.R_alloc | apply Kd.R_drewN | apply Kd.R_drew)); exact HO_5.out) gb230 (Nat.le_of_eq hg.symm)) hb); have n1_ := Aside0.mk (Kd.R_below (Kd.R_elderB (by (with_reducible repeat (first | apply Kd.R_alloc | apply Kd.R_drewN | apply Kd.R_drew)); exact HO_8.out) gb230 (Nat.le_of_eq hg.symm)) hb); have n2_ := Aside0.mk (Kd.R_below (Kd.R_elderB (by (with_reducible repeat (first | apply Kd.R_alloc | apply Kd.R_drewN | apply Kd.R_drew)); exact HO_67.out) gb230 (Nat.le_of_eq hg.symm)) hb); have n3_ := Aside0.mk (Kd.R_below (Kd.R_elderB (by (with_reducible repeat (first | apply Kd.R_alloc | apply Kd.R_drewN | apply Kd.R_drew)); exact HO_94.out) gb230 (Nat.le_of_eq hg.symm)) hb); have n4_ := Aside0.mk (blk_below (g := gb227) (o := .cells #[.int .i64 ((rd_T53 t196 x69_3).f0), .int .i64 ((rd_T53 t196 x69_3).f1), .int .i64 ((rd_T53 t196 x69_3).f2)] 53 (0, 0)) (by (with_reducible repeat (first | refine blk_drewN ?_ _ | refine blk_drew ?_ | refine blk_alloc ?_ _)); exact BK227.out) hb); have n5_ := Aside0.mk (blk_below (g := gb228) (o := .cells #[.int .i64 ((rd_T53 t196 x69_3).f0), .int .i64 x229001_51, .int .i64 ((rd_T53 t196 x69_3).f2)] 53 (0, 0)) (by (with_reducible repeat (first | refine blk_drewN ?_ _ | refine blk_drew ?_ | refine blk_alloc ?_ _)); exact BK228.out) hb); have n6_ := Aside0.mk (below_step (by repeat (first | (with_reducible first | exact HB.out | apply below_alloc | apply pw_below_drewN | apply below_drew1 | refine below_set ?_ GE227.out | refine below_set ?_ GE228.out) | exact HB.out)) hb); have n7_ := Aside0.mk (hbox); have n8_ := Aside0.mk ((by rw [hg]; exact (below_size (by repeat (first | (with_reducible first | exact HB.out | apply below_alloc | apply pw_below_drewN | apply below_drew1 | refine below_set ?_ GE227.out | refine below_set ?_ GE228.out) | exact HB.out))) : w.heap.size ≤ gb230)); have n9_ := Aside0.mk ((by rw [hg]; exact (below_size (by repeat (first | (with_reducible first | exact HB.out | apply below_alloc | apply pw_below_drewN | apply below_drew1 | refine below_set ?_ GE227.out | refine below_set ?_ GE228.out) | exact HB.out))) : w.heap.size ≤ gb230)); have n10_ := Aside0.mk ((by rw [hg]; exact Nat.ne_of_lt (blk_lt (g := gb227) (o := .cells #[.int .i64 ((rd_T53 t196 x69_3).f0), .int .i64 ((rd_T53 t196 x69_3).f1), .int .i64 ((rd_T53 t196 x69_3).f2)] 53 (0, 0)) (by (with_reducible repeat (first | refine blk_drewN ?_ _ | refine blk_drew ?_ | refine blk_alloc ?_ _)); exact BK227.out)) : gb227 ≠ gb230)); have n11_ := Aside0.mk ((by rw [hg]; exact Nat.ne_of_gt (blk_lt (g := gb227) (o := .cells #[.int .i64 ((rd_T53 t196 x69_3).f0), .int .i64 ((rd_T53 t196 x69_3).f1), .int .i64 ((rd_T53 t196 x69_3).f2)] 53 (0, 0)) (by (with_reducible repeat (first | refine blk_drewN ?_ _ | refine blk_drew ?_ | refine blk_alloc ?_ _)); exact BK227.out)) : gb230 ≠ gb227)); have n12_ := Aside0.mk ((by rw [hg]; exact Nat.ne_of_lt (blk_lt (g := gb228) (o := .cells #[.int .i64 ((rd_T53 t196 x69_3).f0), .int .i64 x229001_51, .int .i64 ((rd_T53 t196 x69_3).f2)] 53 (0, 0)) (by (with_reducible repeat (first | refine blk_drewN ?_ _ | refine blk_drew ?_ | refine blk_alloc ?_ _)); exact BK228.out)) : gb228 ≠ gb230)); have n13_ := Aside0.mk ((by rw [hg]; exact Nat.ne_of_gt (blk_lt (g := gb228) (o := .cells #[.int .i64 ((rd_T53 t196 x69_3).f0), .int .i64 x229001_51, .int .i64 ((rd_T53 t196 x69_3).f2)] 53 (0, 0)) (by (with_reducible repeat (first | refine blk_drewN ?_ _ | refine blk_drew ?_ | refine blk_alloc ?_ _)); exact BK228.out)) : gb230 ≠ gb228)); clear HO_5; clear HO_8; clear HO_67; clear HO_94; clear BK227; clear BK228; clear HB; have HO_5 := n0_; have HO_8 := n1_; have HO_67 := n2_; have HO_94 := n3_; have BK227 := n4_; have BK228 := n5_; have HB := n6_; have BK230 := n7_; have GW230 := n8_; have GE230 := n9_; have NB227_230 := n10_; have NB230_227 := n11_; have NB228_230 := n12_; have NB230_228 := n13_; clear n0_ n1_ n2_ n3_ n4_ n5_ n6_ n7_ n8_ n9_ n10_ n11_ n12_ n13_; clear hb hbox hg; have hnb68 := NB230_227.out; have hnc68 := NB227_230.out; have hnb69 := NB230_228.out; have hnc69 := NB228_230.out; have hcz70_0 : w67.cell? ⟨gb230, 0, none⟩ = some (.int .i64 0) := (blk_cell BK230.out 0).trans rfl; have hcz70_1 : w67.cell? ⟨gb230, 1, none⟩ = some (.int .i64 0) := (blk_cell BK230.out 1).trans rfl; have hcz70_2 : w67.cell? ⟨gb230, 2, none⟩ = some (.int .i64 0) := (blk_cell BK230.out 2).trans rfl; have hfz70_0 := blk_frozen BK230.out 0; have hfz70_1 := blk_frozen BK230.out 1; have hfz70_2 := blk_frozen BK230.out 2; have hnb71 := NB228_227.out; have hnc71 := NB227_228.out; have hcz72_0 : w67.cell? ⟨gb228, 0, none⟩ = some (.int .i64 ((rd_T53 t196 x69_3).f0)) := (blk_cell BK228.out 0).trans rfl; have hcz72_1 : w67.cell? ⟨gb228, 1, none⟩ = some (.int .i64 x229001_51) := (blk_cell BK228.out 1).trans rfl; have hcz72_2 : w67.cell? ⟨gb228, 2, none⟩ = some (.int .i64 ((rd_T53 t196 x69_3).f2)) := (blk_cell BK228.out 2).trans rfl; have hfz72_0 := blk_frozen BK228.out 0; have hfz72_1 := blk_frozen BK228.out 1; have hfz72_2 := blk_frozen BK228.out 2))
                                            go_roundg k6
                                            case measure => have := HJ9.out; have := HJ25.out; have := HK3.out; have := HJ37.out; have := HJ51.out; have := HK6.out; omega
                                            case rel => exact ⟨(x13_6), (wrap64 (x96_6 + 1)), (by first | rfl | (simp; done) | (simp [*]; done)), (by first | rfl | (simp; done) | (simp [*]; done)), H', ⟨by have := HJ9.out; have := HJ25.out; have := HK3.out; have := HJ37.out; have := HJ51.out; have := HK6.out; omega⟩, ⟨by (with_reducible repeat (first | apply Kd.R_alloc | apply Kd.R_drewN | apply Kd.R_drew)); exact Kd.R_mono (Kd.R_far (p := ⟨gb230, 2, none⟩) (Kd.R_far (p := ⟨gb230, 1, none⟩) (Kd.R_far (p := ⟨gb230, 0, none⟩) (Kd.R_mono HO_5.out (fun k_ hk => (⟨hk, hk.2⟩ : _ ∧ k_ ≠ gb230))) (fun _ hk => hk.2) (.int .i64 ((rd_T53 t217 x96_6).f0))) (fun _ hk => hk.2) (.int .i64 ((rd_T53 t217 x96_6).f1))) (fun _ hk => hk.2) (.int .i64 ((rd_T53 t217 x96_6).f2))) (fun _ hk => ⟨hk.1.1.1, ⟨hk.1.1.2.1, ⟨hk.1.1.2.2.1, hk.1.1.2.2.2⟩⟩⟩)⟩, ⟨by (with_reducible repeat (first | apply Kd.R_alloc | apply Kd.R_drewN | apply Kd.R_drew)); exact Kd.R_mono (Kd.R_far (p := ⟨gb230, 2, none⟩) (Kd.R_far (p := ⟨gb230, 1, none⟩) (Kd.R_far (p := ⟨gb230, 0, none⟩) (Kd.R_mono HO_8.out (fun k_ hk => (⟨hk, hk.2⟩ : _ ∧ k_ ≠ gb230))) (fun _ hk => hk.2) (.int .i64 ((rd_T53 t217 x96_6).f0))) (fun _ hk => hk.2) (.int .i64 ((rd_T53 t217 x96_6).f1))) (fun _ hk => hk.2) (.int .i64 ((rd_T53 t217 x96_6).f2))) (fun _ hk => ⟨hk.1.1.1, ⟨hk.1.1.2.1, ⟨hk.1.1.2.2.1, hk.1.1.2.2.2⟩⟩⟩)⟩, ⟨by (with_reducible repeat (first | apply Kd.R_alloc | apply Kd.R_drewN | apply Kd.R_drew)); exact Kd.R_mono (Kd.R_far (p := ⟨gb230, 2, none⟩) (Kd.R_far (p := ⟨gb230, 1, none⟩) (Kd.R_far (p := ⟨gb230, 0, none⟩) (Kd.R_mono HO_67.out (fun k_ hk => (⟨hk, hk.2⟩ : _ ∧ k_ ≠ gb230))) (fun _ hk => hk.2) (.int .i64 ((rd_T53 t217 x96_6).f0))) (fun _ hk => hk.2) (.int .i64 ((rd_T53 t217 x96_6).f1))) (fun _ hk => hk.2) (.int .i64 ((rd_T53 t217 x96_6).f2))) (fun _ hk => ⟨hk.1.1.1, ⟨hk.1.1.2.1, ⟨hk.1.1.2.2.1, hk.1.1.2.2.2⟩⟩⟩)⟩, ⟨by (with_reducible repeat (first | apply Kd.R_alloc | apply Kd.R_drewN | apply Kd.R_drew)); exact Kd.R_mono (Kd.R_far (p := ⟨gb230, 2, none⟩) (Kd.R_far (p := ⟨gb230, 1, none⟩) (Kd.R_far (p := ⟨gb230, 0, none⟩) (Kd.R_mono HO_94.out (fun k_ hk => (⟨hk, hk.2⟩ : _ ∧ k_ ≠ gb230))) (fun _ hk => hk.2) (.int .i64 ((rd_T53 t217 x96_6).f0))) (fun _ hk => hk.2) (.int .i64 ((rd_T53 t217 x96_6).f1))) (fun _ hk => hk.2) (.int .i64 ((rd_T53 t217 x96_6).f2))) (fun _ hk => ⟨hk.1.1.1, ⟨hk.1.1.2.1, ⟨hk.1.1.2.2.1, hk.1.1.2.2.2⟩⟩⟩)⟩, ⟨by (with_reducible repeat (first | refine blk_drewN ?_ _ | refine blk_drew ?_ | refine blk_alloc ?_ _)); refine blk_far ?_ NB227_230.out _; (with_reducible repeat (first | refine blk_drewN ?_ _ | refine blk_drew ?_ | refine blk_alloc ?_ _)); refine blk_far ?_ NB227_230.out _; (with_reducible repeat (first | refine blk_drewN ?_ _ | refine blk_drew ?_ | refine blk_alloc ?_ _)); refine blk_far ?_ NB227_230.out _; (with_reducible repeat (first | refine blk_drewN ?_ _ | refine blk_drew ?_ | refine blk_alloc ?_ _)); exact BK227.out⟩, ⟨by (with_reducible repeat (first | refine blk_drewN ?_ _ | refine blk_drew ?_ | refine blk_alloc ?_ _)); refine blk_far ?_ NB228_230.out _; (with_reducible repeat (first | refine blk_drewN ?_ _ | refine blk_drew ?_ | refine blk_alloc ?_ _)); refine blk_far ?_ NB228_230.out _; (with_reducible repeat (first | refine blk_drewN ?_ _ | refine blk_drew ?_ | refine blk_alloc ?_ _)); refine blk_far ?_ NB228_230.out _; (with_reducible repeat (first | refine blk_drewN ?_ _ | refine blk_drew ?_ | refine blk_alloc ?_ _)); exact BK228.out⟩, ⟨by repeat (first | (with_reducible first | exact HB.out | apply below_alloc | apply pw_below_drewN | apply below_drew1 | refine below_set ?_ GE227.out | refine below_set ?_ GE228.out | refine below_set ?_ GE230.out) | exact HB.out)⟩⟩
                                        · rw [if_neg c59] at H
                                          exact absurd H (by simp)
                                      · rw [if_neg c58] at H
                                        exact absurd H (by simp)
                                    · rw [if_neg c57] at H
                                      have c57b0 : decide (x96_6 < (t217.length : Int)) = false := decide_eq_false c57
                                      clear c57
                                      by_cases c73 : x13_6 = true
                                      · subst c73
                                        have H1 : (laws_FnMarksBack.l0 k6 t196 x6_9 t211 t217 t196 (t196.length : Int) (wrap64 (x69_3 + 1))) = some r := by rw [if_pos rfl] at H; exact H
                                        clear H
                                        have H := H1
                                        clear H1
                                        have H' := Aside0.mk H
                                        clear H
                                        go_wp2
                                        go_roundg k6
                                        case measure => have := HJ9.out; have := HJ25.out; have := HK3.out; have := HJ37.out; have := HJ51.out; have := HK6.out; omega
                                        case rel => exact ⟨(wrap64 (x69_3 + 1)), (by first | rfl | (simp; done) | (simp [*]; done)), H', ⟨by have := HJ9.out; have := HJ25.out; have := HK3.out; have := HJ37.out; have := HJ51.out; have := HK6.out; omega⟩, ⟨by (with_reducible repeat (first | apply Kd.R_alloc | apply Kd.R_drewN | apply Kd.R_drew)); exact Kd.R_mono HO_5.out (fun _ hk => hk.1)⟩, ⟨by (with_reducible repeat (first | apply Kd.R_alloc | apply Kd.R_drewN | apply Kd.R_drew)); exact Kd.R_mono HO_8.out (fun _ hk => ⟨hk.1, hk.2.1⟩)⟩, ⟨by (with_reducible repeat (first | apply Kd.R_alloc | apply Kd.R_drewN | apply Kd.R_drew)); exact Kd.R_mono HO_67.out (fun _ hk => hk.1)⟩, ⟨by repeat (first | (with_reducible first | exact HB.out | apply below_alloc | apply pw_below_drewN | apply below_drew1 | refine below_set ?_ GE227.out | refine below_set ?_ GE228.out) | exact HB.out)⟩⟩
                                      · replace c73 := Bool.eq_false_iff.mpr c73
                                        subst c73
                                        have H1 : (some false) = some r := by rw [if_neg (show ¬ (false = true) by decide)] at H; exact H
                                        clear H
                                        have H := H1
                                        clear H1
                                        obtain rfl := Option.some.inj H
                                        go_wp2
                                        go_ret
                                        exact ⟨by first | rfl | (simp [errW_none, errW_some] <;> rfl) | (simp [*, errW_none, errW_some] <;> rfl), by repeat (first | (with_reducible first | exact HB.out | apply below_alloc | apply pw_below_drewN | apply below_drew1 | refine below_set ?_ GE227.out | refine below_set ?_ GE228.out) | exact HB.out)⟩
                      · rw [if_neg c37] at H
                        exact absurd H (by simp)
                    · rw [if_neg c36] at H
                      exact absurd H (by simp)
                  · rw [if_neg c35] at H
                    have c35b0 : decide (x69_3 < (t196.length : Int)) = false := decide_eq_false c35
                    clear c35
                    replace H := Option.bind_eq_some_iff.mp H
                    obtain ⟨⟨t221, t222⟩, A740, H⟩ := H
                    replace H : (if t222 = 0 then ((laws_smMarks.f k3 t221 t196).bind fun t225 => (some t225)) else (some false)) = some r := H
                    have A74 := Aside0.mk A740
                    clear A740
                    by_cases c75 : t222 = 0
                    · rw [if_pos c75] at H
                      have c75b0 : (t222 == 0) = true := beq_iff_eq.mpr c75
                      have c75b1 : (t222 != 0) = false := bne_eq_false_iff_eq.mpr c75
                      clear c75
                      replace H := Option.bind_eq_some_iff.mp H
                      obtain ⟨t225, A760, H⟩ := H
                      replace H : (some t225) = some r := H
                      have A76 := Aside0.mk A760
                      clear A760
                      obtain rfl := Option.some.inj H
                      obtain ⟨Ao77, co77, eo77⟩ := Kd.R_slice HO_8.out
                      subst eo77
                      go_wp2_with (first | ((with_reducible refine gate_callee (f := 30) rfl ?_); refine goesL_ (some 113) rfl rfl Tryd.func30 (by kernel_rfl) rfl #[.slice Ao77 t217.length co77, .int .i64 x6_9, .int .i64 (wrap64 (x6_9 + t211))] rfl (by (try simp only [List.map_toArray, List.map_cons, List.map_nil]); first | done | rfl | (simp only [List.length_drop, List.length_take]; rfl)) ?_; (with_reducible refine (impl_MarksDelete.calls _ _ t217 x6_9 (wrap64 (x6_9 + t211)) t221 t222 _ ?side1 ?side2 ?side3 A74.out).mono ?_); (case side1 => repeat (first | exact (Kd.R_reads' HO_8.out).2.2 | (with_reducible refine Kd.C_alloc ?_ _) | (with_reducible refine Kd.C_drewN ?_ _) | (with_reducible refine Kd.C_drew ?_))); (case side2 => exact (Kd.R_reads' HO_8.out).2.1); (case side3 => exact HG.below hgG_ (by repeat (first | (with_reducible first | exact HB.out | apply below_alloc | apply pw_below_drewN | apply below_drew1) | exact HB.out))); rintro e w78 ⟨v223, rfl, ho0, hb⟩; refine ⟨_, rfl, ?_⟩; have n0_ := Aside0.mk (Kd.R_elder' (by (with_reducible repeat (first | apply Kd.R_alloc | apply Kd.R_drewN | apply Kd.R_drew)); exact HO_5.out) (Kd.R_base ho0) hb); have n1_ := Aside0.mk (Kd.R_elder' (by (with_reducible repeat (first | apply Kd.R_alloc | apply Kd.R_drewN | apply Kd.R_drew)); exact HO_8.out) (Kd.R_base ho0) hb); have n2_ := Aside0.mk (Kd.R_elder' (by (with_reducible repeat (first | apply Kd.R_alloc | apply Kd.R_drewN | apply Kd.R_drew)); exact HO_67.out) (Kd.R_base ho0) hb); have n3_ := Aside0.mk (Kd.R_lower (Kd.R_new' (Kd.R_new' (Kd.R_new' ho0 (Kd.R_lt (by (with_reducible repeat (first | apply Kd.R_alloc | apply Kd.R_drewN | apply Kd.R_drew)); exact HO_5.out))) (Kd.R_lt (by (with_reducible repeat (first | apply Kd.R_alloc | apply Kd.R_drewN | apply Kd.R_drew)); exact HO_8.out))) (Kd.R_lt (by (with_reducible repeat (first | apply Kd.R_alloc | apply Kd.R_drewN | apply Kd.R_drew)); exact HO_67.out))) (below_size (by repeat (first | (with_reducible first | exact HB.out | apply below_alloc | apply pw_below_drewN | apply below_drew1) | exact HB.out)))); have n4_ := Aside0.mk (below_step (by repeat (first | (with_reducible first | exact HB.out | apply below_alloc | apply pw_below_drewN | apply below_drew1) | exact HB.out)) hb); clear HO_5; clear HO_8; clear HO_67; clear HB; have HO_5 := n0_; have HO_8 := n1_; have HO_67 := n2_; have HO224 := n3_; have HB := n4_; clear n0_ n1_ n2_ n3_ n4_; (try clear hb); (try clear hb2); (try clear hk); (try clear hi); (try clear ho0); obtain ⟨Ao79, co79, eo79⟩ := Kd.R_slice HO224.out; subst eo79) | (go_at_call 31; (with_reducible refine (laws_smMarks.calls k3 _ _ t221 _ _ t196 t225 _ ?side1 ?side2 ?side3 ?side4 A76.out).mono ?_); (case side1 => repeat (first | exact (Kd.R_reads' HO224.out).2.2 | (with_reducible refine Kd.C_alloc ?_ _) | (with_reducible refine Kd.C_drewN ?_ _) | (with_reducible refine Kd.C_drew ?_))); (case side2 => exact (Kd.R_reads' HO224.out).2.1); (case side3 => repeat (first | exact (Kd.R_reads' HO_5.out).2.2 | (with_reducible refine Kd.C_alloc ?_ _) | (with_reducible refine Kd.C_drewN ?_ _) | (with_reducible refine Kd.C_drew ?_))); (case side4 => exact (Kd.R_reads' HO_5.out).2.1); rintro e w' ⟨rfl, ⟨nd, rfl⟩⟩))
                      go_ret
                      exact ⟨by first | rfl | (simp [errW_none, errW_some] <;> rfl) | (simp [*, errW_none, errW_some] <;> rfl), by repeat (first | (with_reducible first | exact HB.out | apply below_alloc | apply pw_below_drewN | apply below_drew1) | exact HB.out)⟩
                    · rw [if_neg c75] at H
                      have c75b0 : (t222 == 0) = false := beq_eq_false_iff_ne.mpr c75
                      have c75b1 : (t222 != 0) = true := bne_iff_ne.mpr c75
                      obtain rfl := Option.some.inj H
                      obtain ⟨Ao80, co80, eo80⟩ := Kd.R_slice HO_8.out
                      subst eo80
                      go_wp2_with (first | ((with_reducible refine gate_callee (f := 30) rfl ?_); refine goesL_ (some 113) rfl rfl Tryd.func30 (by kernel_rfl) rfl #[.slice Ao80 t217.length co80, .int .i64 x6_9, .int .i64 (wrap64 (x6_9 + t211))] rfl (by (try simp only [List.map_toArray, List.map_cons, List.map_nil]); first | done | rfl | (simp only [List.length_drop, List.length_take]; rfl)) ?_; (with_reducible refine (impl_MarksDelete.calls _ _ t217 x6_9 (wrap64 (x6_9 + t211)) t221 t222 _ ?side1 ?side2 ?side3 A74.out).mono ?_); (case side1 => repeat (first | exact (Kd.R_reads' HO_8.out).2.2 | (with_reducible refine Kd.C_alloc ?_ _) | (with_reducible refine Kd.C_drewN ?_ _) | (with_reducible refine Kd.C_drew ?_))); (case side2 => exact (Kd.R_reads' HO_8.out).2.1); (case side3 => exact HG.below hgG_ (by repeat (first | (with_reducible first | exact HB.out | apply below_alloc | apply pw_below_drewN | apply below_drew1) | exact HB.out))); rintro e w81 ⟨v223, rfl, ho0, hb⟩; refine ⟨_, rfl, ?_⟩; have n0_ := Aside0.mk (Kd.R_elder' (by (with_reducible repeat (first | apply Kd.R_alloc | apply Kd.R_drewN | apply Kd.R_drew)); exact HO_5.out) (Kd.R_base ho0) hb); have n1_ := Aside0.mk (Kd.R_elder' (by (with_reducible repeat (first | apply Kd.R_alloc | apply Kd.R_drewN | apply Kd.R_drew)); exact HO_8.out) (Kd.R_base ho0) hb); have n2_ := Aside0.mk (Kd.R_elder' (by (with_reducible repeat (first | apply Kd.R_alloc | apply Kd.R_drewN | apply Kd.R_drew)); exact HO_67.out) (Kd.R_base ho0) hb); have n3_ := Aside0.mk (Kd.R_lower (Kd.R_new' (Kd.R_new' (Kd.R_new' ho0 (Kd.R_lt (by (with_reducible repeat (first | apply Kd.R_alloc | apply Kd.R_drewN | apply Kd.R_drew)); exact HO_5.out))) (Kd.R_lt (by (with_reducible repeat (first | apply Kd.R_alloc | apply Kd.R_drewN | apply Kd.R_drew)); exact HO_8.out))) (Kd.R_lt (by (with_reducible repeat (first | apply Kd.R_alloc | apply Kd.R_drewN | apply Kd.R_drew)); exact HO_67.out))) (below_size (by repeat (first | (with_reducible first | exact HB.out | apply below_alloc | apply pw_below_drewN | apply below_drew1) | exact HB.out)))); have n4_ := Aside0.mk (below_step (by repeat (first | (with_reducible first | exact HB.out | apply below_alloc | apply pw_below_drewN | apply below_drew1) | exact HB.out)) hb); clear HO_5; clear HO_8; clear HO_67; clear HB; have HO_5 := n0_; have HO_8 := n1_; have HO_67 := n2_; have HO224 := n3_; have HB := n4_; clear n0_ n1_ n2_ n3_ n4_; (try clear hb); (try clear hb2); (try clear hk); (try clear hi); (try clear ho0)))
                      go_ret
                      exact ⟨by first | rfl | (simp [errW_none, errW_some] <;> rfl) | (simp [*, errW_none, errW_some] <;> rfl), by repeat (first | (with_reducible first | exact HB.out | apply below_alloc | apply pw_below_drewN | apply below_drew1) | exact HB.out)⟩

end Go.Proofs.YtefdjajmnkmbgaaDoor.QFnMarksBack
