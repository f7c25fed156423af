/- What the law FnExactTreeDelete reaches: each function as a plain function, and that the machine's call does it (written by a program). The condition, where there is one: errors.errorType reads as laid. -/
import Derived.Test.YtciabhncmdpeeaaDoorQFnExactTreeDeletex0
import Derived.Test.YtciabhncmdpeeaaDoorQFnExactTreeDeletex4
import Derived.Test.YtciabhncmdpeeaaDoorSq
namespace Go.Proofs.YtciabhncmdpeeaaDoor.QFnExactTreeDelete
open Go.Proofs.YtciabhncmdpeeaaDoor.Er Go.Proofs.YtciabhncmdpeeaaDoor.Sq
open Go.RowKit Go.Proofs.YtciabhncmdpeeaaDoorW.PrintWords Go.Proofs.YtciabhncmdpeeaaDoorW.PrintLast Go.Proofs.YtciabhncmdpeeaaDoorW.PrintMore
attribute [local go_sem] max2_int min2_int max_two min_two max_three min_three max_four min_four   -- for this text's walks alone
set_option linter.unusedVariables false
set_option linter.unusedSimpArgs false

/-! ### spec_l2Turn: function 139 -/
mutual
def spec_l2Turn.j0 : Nat → List (S54) → Int → Bool → Int → Int → Int → Int → Int → Option ((List (S54)))
 | 0, _, _, _, _, _, _, _, _ => none
 | k + 1, x0, x1, x2, x6, x7, x8, x9, x10 => spec_l2Turn.l0 k x0 x1 x2 x6 x7 x8 x10 x9 x9
def spec_l2Turn.l0 : Nat → List (S54) → Int → Bool → Int → Int → Int → Int → Int → Int → Option ((List (S54)))
 | 0, _, _, _, _, _, _, _, _, _ => none
 | k + 1, x0, x1, x2, x6, x7, x8, x10, x11, x12 => if x12 < x10 then (if 0 ≤ x12 then (if x12 < (x0.length : Int) then (if ((rd_T54 x0 x12).f1) = (wrap64 (x8 + 1)) then (spec_l2Turn.l0 k x0 x1 x2 x6 x7 x8 x10 x12 (wrap64 (x12 + 1))) else (spec_l2Turn.l0 k x0 x1 x2 x6 x7 x8 x10 x11 (wrap64 (x12 + 1)))) else (none)) else (none)) else (spec_l2Turn.l1 k x0 x1 x2 x7 x8 x11 x6)
def spec_l2Turn.l1 : Nat → List (S54) → Int → Bool → Int → Int → Int → Int → Option ((List (S54)))
 | 0, _, _, _, _, _, _, _ => none
 | k + 1, x0, x1, x2, x7, x8, x11, x13 => if x13 < x7 then (if x2 = true then (spec_l2Turn.j3 k x0 x1 x2 x7 x8 x11 x13 (decide (x13 < x11)) (decide (x13 > x1))) else (spec_l2Turn.j3 k x0 x1 x2 x7 x8 x11 x13 (decide (x13 > x11)) (decide (x13 < x1)))) else (if 0 ≤ x11 then (if x11 < (x0.length : Int) then ((some (x0.set (x11 : Int).toNat (⟨(⟨(rd_T54 x0 x11).f0.f0, (rd_T54 x0 x11).f0.f1, (rd_T54 x0 x11).f0.f2⟩ : S50), x8⟩ : S54) : List (S54))).bind fun y188 => (if 0 ≤ x1 then (if x1 < (x0.length : Int) then (some (y188.set (x1 : Int).toNat (⟨(⟨(rd_T54 y188 x1).f0.f0, (rd_T54 y188 x1).f0.f1, (rd_T54 y188 x1).f0.f2⟩ : S50), wrap64 (x8 + 1)⟩ : S54))) else (none)) else (none))) else (none)) else (none))
def spec_l2Turn.j3 : Nat → List (S54) → Int → Bool → Int → Int → Int → Int → Bool → Bool → Option ((List (S54)))
 | 0, _, _, _, _, _, _, _, _, _ => none
 | k + 1, x0, x1, x2, x7, x8, x11, x13, x14, x15 => if x14 = true then (if 0 ≤ x13 then (if x13 < (x0.length : Int) then ((some (x0.set (x13 : Int).toNat (⟨(⟨(rd_T54 x0 x13).f0.f0, (rd_T54 x0 x13).f0.f1, (rd_T54 x0 x13).f0.f2⟩ : S50), wrap64 (((rd_T54 x0 x13).f1) - 1)⟩ : S54) : List (S54))).bind fun y191 => (if x15 = true then (spec_l2Turn.l1 k (y191.set (x13 : Int).toNat (⟨(⟨(rd_T54 y191 x13).f0.f0, (rd_T54 y191 x13).f0.f1, (rd_T54 y191 x13).f0.f2⟩ : S50), wrap64 (((rd_T54 y191 x13).f1) + 1)⟩ : S54)) x1 x2 x7 x8 x11 (wrap64 (x13 + 1))) else (spec_l2Turn.l1 k y191 x1 x2 x7 x8 x11 (wrap64 (x13 + 1))))) else (none)) else (none)) else (if x15 = true then (if 0 ≤ x13 then (if x13 < (x0.length : Int) then (spec_l2Turn.l1 k (x0.set (x13 : Int).toNat (⟨(⟨(rd_T54 x0 x13).f0.f0, (rd_T54 x0 x13).f0.f1, (rd_T54 x0 x13).f0.f2⟩ : S50), wrap64 (((rd_T54 x0 x13).f1) + 1)⟩ : S54)) x1 x2 x7 x8 x11 (wrap64 (x13 + 1))) else (none)) else (none)) else (spec_l2Turn.l1 k x0 x1 x2 x7 x8 x11 (wrap64 (x13 + 1))))
end
def spec_l2Turn.f (k : Nat) (l0 : List (S54)) (a1 : Int) (a2 : Bool) : Option ((List (S54))) := (spec_l2Range.f k l0 a1).bind fun bt184 => (if 0 ≤ a1 then (if a1 < (l0.length : Int) then (if a2 = true then (spec_l2Turn.j0 k l0 a1 a2 bt184.1 bt184.2 ((rd_T54 l0 a1).f1) bt184.1 a1) else (spec_l2Turn.j0 k l0 a1 a2 bt184.1 bt184.2 ((rd_T54 l0 a1).f1) (wrap64 (a1 + 1)) bt184.2)) else (none)) else (none))
theorem spec_l2Turn.mono_l : ∀ k, (∀ y0 y1 y2 y3 y4 y5 y6 y7, LeO (spec_l2Turn.j0 k y0 y1 y2 y3 y4 y5 y6 y7) (spec_l2Turn.j0 (k + 1) y0 y1 y2 y3 y4 y5 y6 y7)) ∧ (∀ y0 y1 y2 y3 y4 y5 y6 y7 y8, LeO (spec_l2Turn.l0 k y0 y1 y2 y3 y4 y5 y6 y7 y8) (spec_l2Turn.l0 (k + 1) y0 y1 y2 y3 y4 y5 y6 y7 y8)) ∧ (∀ y0 y1 y2 y3 y4 y5 y6, LeO (spec_l2Turn.l1 k y0 y1 y2 y3 y4 y5 y6) (spec_l2Turn.l1 (k + 1) y0 y1 y2 y3 y4 y5 y6)) ∧ (∀ y0 y1 y2 y3 y4 y5 y6 y7 y8, LeO (spec_l2Turn.j3 k y0 y1 y2 y3 y4 y5 y6 y7 y8) (spec_l2Turn.j3 (k + 1) y0 y1 y2 y3 y4 y5 y6 y7 y8))
 | 0 => ⟨fun _ _ _ _ _ _ _ _ r h => by simp [spec_l2Turn.j0] at h, fun _ _ _ _ _ _ _ _ _ r h => by simp [spec_l2Turn.l0] at h, fun _ _ _ _ _ _ _ r h => by simp [spec_l2Turn.l1] at h, fun _ _ _ _ _ _ _ _ _ r h => by simp [spec_l2Turn.j3] at h⟩
 | k + 1 => by
  obtain ⟨ih0, ih1, ih2, ih3⟩ := spec_l2Turn.mono_l k
  refine ⟨?_, ?_, ?_, ?_⟩
  ·intro y0 y1 y2 y3 y4 y5 y6 y7
   unfold spec_l2Turn.j0
   repeat' first
   | (with_reducible exact ih0 _ _ _ _ _ _ _ _)
   | (with_reducible exact ih1 _ _ _ _ _ _ _ _ _)
   | (with_reducible exact ih2 _ _ _ _ _ _ _)
   | (with_reducible exact ih3 _ _ _ _ _ _ _ _ _)
   | (with_reducible exact spec_l2Range.mono _ _ _)
   | (with_reducible exact LeO.refl _)
   | (with_reducible exact LeO.none _)
   | (with_reducible refine LeO.ite ?_ ?_)
   | (with_reducible refine LeO.bind ?_ (fun _ => ?_))
   | exact ih0 _ _ _ _ _ _ _ _
   | exact ih1 _ _ _ _ _ _ _ _ _
   | exact ih2 _ _ _ _ _ _ _
   | exact ih3 _ _ _ _ _ _ _ _ _
   | exact spec_l2Range.mono _ _ _
   | exact LeO.none _
   | refine LeO.ite ?_ ?_
   | refine LeO.bind ?_ (fun _ => ?_)
  ·intro y0 y1 y2 y3 y4 y5 y6 y7 y8
   unfold spec_l2Turn.l0
   repeat' first
   | (with_reducible exact ih0 _ _ _ _ _ _ _ _)
   | (with_reducible exact ih1 _ _ _ _ _ _ _ _ _)
   | (with_reducible exact ih2 _ _ _ _ _ _ _)
   | (with_reducible exact ih3 _ _ _ _ _ _ _ _ _)
   | (with_reducible exact spec_l2Range.mono _ _ _)
   | (with_reducible exact LeO.refl _)
   | (with_reducible exact LeO.none _)
   | (with_reducible refine LeO.ite ?_ ?_)
   | (with_reducible refine LeO.bind ?_ (fun _ => ?_))
   | exact ih0 _ _ _ _ _ _ _ _
   | exact ih1 _ _ _ _ _ _ _ _ _
   | exact ih2 _ _ _ _ _ _ _
   | exact ih3 _ _ _ _ _ _ _ _ _
   | exact spec_l2Range.mono _ _ _
   | exact LeO.none _
   | refine LeO.ite ?_ ?_
   | refine LeO.bind ?_ (fun _ => ?_)
  ·intro y0 y1 y2 y3 y4 y5 y6
   unfold spec_l2Turn.l1
   repeat' first
   | (with_reducible exact ih0 _ _ _ _ _ _ _ _)
   | (with_reducible exact ih1 _ _ _ _ _ _ _ _ _)
   | (with_reducible exact ih2 _ _ _ _ _ _ _)
   | (with_reducible exact ih3 _ _ _ _ _ _ _ _ _)
   | (with_reducible exact spec_l2Range.mono _ _ _)
   | (with_reducible exact LeO.refl _)
   | (with_reducible exact LeO.none _)
   | (with_reducible refine LeO.ite ?_ ?_)
   | (with_reducible refine LeO.bind ?_ (fun _ => ?_))
   | exact ih0 _ _ _ _ _ _ _ _
   | exact ih1 _ _ _ _ _ _ _ _ _
   | exact ih2 _ _ _ _ _ _ _
   | exact ih3 _ _ _ _ _ _ _ _ _
   | exact spec_l2Range.mono _ _ _
   | exact LeO.none _
   | refine LeO.ite ?_ ?_
   | refine LeO.bind ?_ (fun _ => ?_)
  ·intro y0 y1 y2 y3 y4 y5 y6 y7 y8
   unfold spec_l2Turn.j3
   repeat' first
   | (with_reducible exact ih0 _ _ _ _ _ _ _ _)
   | (with_reducible exact ih1 _ _ _ _ _ _ _ _ _)
   | (with_reducible exact ih2 _ _ _ _ _ _ _)
   | (with_reducible exact ih3 _ _ _ _ _ _ _ _ _)
   | (with_reducible exact spec_l2Range.mono _ _ _)
   | (with_reducible exact LeO.refl _)
   | (with_reducible exact LeO.none _)
   | (with_reducible refine LeO.ite ?_ ?_)
   | (with_reducible refine LeO.bind ?_ (fun _ => ?_))
   | exact ih0 _ _ _ _ _ _ _ _
   | exact ih1 _ _ _ _ _ _ _ _ _
   | exact ih2 _ _ _ _ _ _ _
   | exact ih3 _ _ _ _ _ _ _ _ _
   | exact spec_l2Range.mono _ _ _
   | exact LeO.none _
   | refine LeO.ite ?_ ?_
   | refine LeO.bind ?_ (fun _ => ?_)
theorem spec_l2Turn.mono : ∀ a0 a1 a2 k, LeO (spec_l2Turn.f k a0 a1 a2) (spec_l2Turn.f (k + 1) a0 a1 a2) := by
 intro a0 a1 a2 k
 obtain ⟨ih0, ih1, ih2, ih3⟩ := spec_l2Turn.mono_l k
 unfold spec_l2Turn.f
 repeat' first
   | (with_reducible exact ih0 _ _ _ _ _ _ _ _)
   | (with_reducible exact ih1 _ _ _ _ _ _ _ _ _)
   | (with_reducible exact ih2 _ _ _ _ _ _ _)
   | (with_reducible exact ih3 _ _ _ _ _ _ _ _ _)
   | (with_reducible exact spec_l2Range.mono _ _ _)
   | (with_reducible exact LeO.refl _)
   | (with_reducible exact LeO.none _)
   | (with_reducible refine LeO.ite ?_ ?_)
   | (with_reducible refine LeO.bind ?_ (fun _ => ?_))
   | exact ih0 _ _ _ _ _ _ _ _
   | exact ih1 _ _ _ _ _ _ _ _ _
   | exact ih2 _ _ _ _ _ _ _
   | exact ih3 _ _ _ _ _ _ _ _ _
   | exact spec_l2Range.mono _ _ _
   | exact LeO.none _
   | refine LeO.ite ?_ ?_
   | refine LeO.bind ?_ (fun _ => ?_)
set_option maxHeartbeats 8000000 in
set_option maxRecDepth 100000 in
theorem spec_l2Turn.calls (k : Nat) (P0_ : Nat → Prop) (u9000_ : Value) (l0 : List (S54)) (a1 : Int) (a2 : Bool) (r : List (S54)) (w0 w : World) (hB : Below w0.heap.size w0 w) (ho0 : Kd.R k54 54 w w0.heap.size P0_ u9000_ l0) (h : spec_l2Turn.f k l0 a1 a2 = some r) :
  Calls Tryd.prog 139 #[u9000_, .int .i64 a1, .bool a2] w fun e w' => e = .returned (.tuple #[]) ∧ Kd.R k54 54 w' w0.heap.size (fun k_ => (P0_ k_ ∨ w.heap.size ≤ k_)) u9000_ r ∧ Below w0.heap.size w0 w' ∧ Kept w w' (fun k_ => P0_ k_) := by
 have HO0 := Aside0.mk (show Kd.R k54 54 w w0.heap.size (fun k_ => (P0_ k_ ∨ w.heap.size ≤ k_)) u9000_ l0 from Kd.R_mono ho0 (fun k_ hk => (.inl hk)))
 have HK := Aside0.mk (Kept.refl w (fun k_ => P0_ k_))
 have HW0 := Aside0.mk hB.size
 have HB := Aside0.mk hB
 clear hB
 have H : ((spec_l2Range.f k l0 a1).bind fun bt184 => (if 0 ≤ a1 then (if a1 < (l0.length : Int) then (if a2 = true then (spec_l2Turn.j0 k l0 a1 a2 bt184.1 bt184.2 ((rd_T54 l0 a1).f1) bt184.1 a1) else (spec_l2Turn.j0 k l0 a1 a2 bt184.1 bt184.2 ((rd_T54 l0 a1).f1) (wrap64 (a1 + 1)) bt184.2)) else (none)) else (none))) = some r := h
 clear h
 replace H := Option.bind_eq_some_iff.mp H
 obtain ⟨⟨t184, t185⟩, A40, H⟩ := H
 replace H : (if 0 ≤ a1 then (if a1 < (l0.length : Int) then (if a2 = true then (spec_l2Turn.j0 k l0 a1 a2 t184 t185 ((rd_T54 l0 a1).f1) t184 a1) else (spec_l2Turn.j0 k l0 a1 a2 t184 t185 ((rd_T54 l0 a1).f1) (wrap64 (a1 + 1)) t185)) else (none)) else (none)) = some r := H
 have A4 := Aside0.mk A40
 clear A40
 by_cases c5 : 0 ≤ a1
 ·rw [if_pos c5] at H
  have c5b0 : decide (0 ≤ a1) = true := decide_eq_true c5
  clear c5
  by_cases c6 : a1 < (l0.length : Int)
  ·rw [if_pos c6] at H
   have c6b0 : decide (a1 < (l0.length : Int)) = true := decide_eq_true c6
   clear c6
   have HC7 := Aside0.mk H
   clear H
   obtain ⟨Ao8, co8, eo8⟩ := Kd.R_slice HO0.out
   subst eo8
   go_enter Tryd.func139, Tryd.ntmps139
   go_upto_if 30 with (first | ((with_reducible refine gate_callee (f := 121) rfl ?_); refine goesL_ (some 19) rfl rfl Tryd.func121 (by kernel_rfl) rfl #[.slice Ao8 l0.length co8, .int .i64 a1] rfl (by (try simp only [List.map_toArray, List.map_cons, List.map_nil]); first | done | rfl | (simp only [List.length_drop, List.length_take]; rfl)) ?_; (with_reducible refine (spec_l2Range.calls k _ _ l0 a1 t184 t185 _ ?side1 ?side2 A4.out).mono ?_); (case side1 => repeat (first | exact (Kd.R_reads' HO0.out).2.2 | (with_reducible refine Kd.C_alloc ?_ _) | (with_reducible refine Kd.C_drewN ?_ _) | (with_reducible refine Kd.C_drew ?_))); (case side2 => exact (Kd.R_reads' HO0.out).2.1); rintro e w' ⟨rfl, ⟨nd, rfl⟩⟩; refine ⟨_, rfl, ?_⟩; have p186 : 0 ≤ (a1 : Int) := of_decide_eq_true (by first | (with_reducible assumption) | assumption); have q186 : a1 < (l0.length : Int) := of_decide_eq_true (by first | (with_reducible assumption) | assumption); obtain ⟨ad186, e186, hx186_0, hx186_1, hx186_2, hx186_3⟩ := at_T54 (Kd.R_reads' HO0.out).2.2 a1 p186 q186; cases e186; replace p186 := eq_true p186; replace q186 := eq_true q186))
   (try simp only [Act.put, List.setIfInBounds_toArray, List.set_cons_zero, List.set_cons_succ])
   go_cut [9, 10] (fun v9 v10 wc => ∃ (kq : Nat) (x9_6 : Int) (x10_6 : Int), v9 = .int .i64 x9_6 ∧ v10 = .int .i64 x10_6 ∧ Aside0 (spec_l2Turn.j0 kq l0 a1 a2 t184 t185 ((rd_T54 l0 a1).f1) x9_6 x10_6 = some r) ∧ Aside0 (kq ≤ k) ∧ Aside0 (Kd.R k54 54 wc w0.heap.size (fun k_ => (P0_ k_ ∨ w.heap.size ≤ k_)) (.slice (some ad186) l0.length co8) l0) ∧ Aside0 (Kept w wc (fun k_ => P0_ k_)) ∧ Aside0 (Below w0.heap.size w0 wc))
   case first =>
    have H := HC7.out
    clear HC7
    by_cases c9 : a2 = true
    ·subst c9
     have H1 : (spec_l2Turn.j0 k l0 a1 true t184 t185 ((rd_T54 l0 a1).f1) t184 a1) = some r := by rw [if_pos rfl] at H; exact H
     clear H
     have H := H1
     clear H1
     have H' := Aside0.mk H
     clear H
     go_wp2
     go_meet
     case rel => exact ⟨_, (t184), (a1), (by first | rfl | (simp; done) | (simp [*]; done)), (by first | rfl | (simp; done) | (simp [*]; done)), H', ⟨by first | omega | exact Nat.le_refl _⟩, ⟨by (with_reducible repeat (first | apply Kd.R_alloc | apply Kd.R_drewN | apply Kd.R_drew)); exact HO0.out⟩, ⟨by repeat (first | (with_reducible first | exact HK.out | apply Kept.alloc | apply Kept.drewN | apply Kept.drew) | exact HK.out)⟩, ⟨by repeat (first | (with_reducible first | exact HB.out | apply below_alloc | apply pw_below_drewN | apply below_drew1) | exact HB.out)⟩⟩
    ·replace c9 := Bool.eq_false_iff.mpr c9
     subst c9
     have H1 : (spec_l2Turn.j0 k l0 a1 false t184 t185 ((rd_T54 l0 a1).f1) (wrap64 (a1 + 1)) t185) = some r := by rw [if_neg (show ¬ (false = true) by decide)] at H; exact H
     clear H
     have H := H1
     clear H1
     have H' := Aside0.mk H
     clear H
     go_wp2
     go_meet
     case rel => exact ⟨_, (wrap64 (a1 + 1)), (t185), (by first | rfl | (simp; done) | (simp [*]; done)), (by first | rfl | (simp; done) | (simp [*]; done)), H', ⟨by first | omega | exact Nat.le_refl _⟩, ⟨by (with_reducible repeat (first | apply Kd.R_alloc | apply Kd.R_drewN | apply Kd.R_drew)); exact HO0.out⟩, ⟨by repeat (first | (with_reducible first | exact HK.out | apply Kept.alloc | apply Kept.drewN | apply Kept.drew) | exact HK.out)⟩, ⟨by repeat (first | (with_reducible first | exact HB.out | apply below_alloc | apply pw_below_drewN | apply below_drew1) | exact HB.out)⟩⟩
   case rest =>
    clear HC7
    try clear c1
    try clear p1
    try clear q1
    try clear hx1
    try clear p2
    try clear c5
    try clear c5b0
    try clear c6
    try clear c6b0
    try clear p6
    try clear c9
    try clear hx186_0
    try clear hx186_1
    try clear hx186_2
    try clear hx186_3
    try clear p186
    try clear q186
    obtain ⟨kq, x9_6, x10_6, rfl, rfl, HA, HJ6, HO_0, HK, HB⟩ := hcut
    cases kq with
    | zero => exact absurd HA.out (by simp [spec_l2Turn.j0])
    | succ kj6 =>
     have H := HA.out
     clear HA
     simp only [spec_l2Turn.j0] at H
     have H' := Aside0.mk H
     clear H
     go_wp2
     go_loopg [11, 12] kj6 (fun kq v11 v12 w' => ∃ (x11_2 : Int) (x12_2 : Int), v11 = .int .i64 x11_2 ∧ v12 = .int .i64 x12_2 ∧ Aside0 (spec_l2Turn.l0 kq l0 a1 a2 t184 t185 ((rd_T54 l0 a1).f1) x10_6 x11_2 x12_2 = some r) ∧ Aside0 (kq ≤ kj6) ∧ Aside0 (Kd.R k54 54 w' w0.heap.size (fun k_ => (P0_ k_ ∨ w.heap.size ≤ k_)) (.slice (some ad186) l0.length co8) l0) ∧ Aside0 (Kept w w' (fun k_ => P0_ k_)) ∧ Aside0 (Below w0.heap.size w0 w'))
     case atStart => exact ⟨(x9_6), (x9_6), (by first | rfl | (simp; done) | (simp [*]; done)), (by first | rfl | (simp; done) | (simp [*]; done)), H', ⟨Nat.le_refl _⟩, ⟨by (with_reducible repeat (first | apply Kd.R_alloc | apply Kd.R_drewN | apply Kd.R_drew)); exact HO_0.out⟩, ⟨by repeat (first | (with_reducible first | exact HK.out | apply Kept.alloc | apply Kept.drewN | apply Kept.drew) | exact HK.out)⟩, ⟨by repeat (first | (with_reducible first | exact HB.out | apply below_alloc | apply pw_below_drewN | apply below_drew1) | exact HB.out)⟩⟩
     case round =>
      clear H'
      try clear c1
      try clear p1
      try clear q1
      try clear hx1
      try clear p2
      try clear c5
      try clear c5b0
      try clear c6
      try clear c6b0
      try clear p6
      try clear c9
      try clear hx186_0
      try clear hx186_1
      try clear hx186_2
      try clear hx186_3
      try clear p1
      try clear p186
      try clear p2
      try clear p6
      try clear q1
      try clear q186
      obtain ⟨x11_2, x12_2, rfl, rfl, HA, HK2, HO_0, HK, HB⟩ := hrel
      cases gk with
      | zero => exact absurd HA.out (by simp [spec_l2Turn.l0])
      | succ k2 =>
       have H := HA.out
       clear HA
       simp only [spec_l2Turn.l0] at H
       by_cases c10 : x12_2 < x10_6
       ·rw [if_pos c10] at H
        have c10b0 : decide (x12_2 < x10_6) = true := decide_eq_true c10
        clear c10
        by_cases c11 : 0 ≤ x12_2
        ·rw [if_pos c11] at H
         have c11b0 : decide (0 ≤ x12_2) = true := decide_eq_true c11
         clear c11
         by_cases c12 : x12_2 < (l0.length : Int)
         ·rw [if_pos c12] at H
          have c12b0 : decide (x12_2 < (l0.length : Int)) = true := decide_eq_true c12
          clear c12
          by_cases c13 : ((rd_T54 l0 x12_2).f1) = (wrap64 (((rd_T54 l0 a1).f1) + 1))
          ·rw [if_pos c13] at H
           have c13b0 : (((rd_T54 l0 x12_2).f1) == (wrap64 (((rd_T54 l0 a1).f1) + 1))) = true := beq_iff_eq.mpr c13
           have c13b1 : (((rd_T54 l0 x12_2).f1) != (wrap64 (((rd_T54 l0 a1).f1) + 1))) = false := bne_eq_false_iff_eq.mpr c13
           clear c13
           have H' := Aside0.mk H
           clear H
           have p187 : 0 ≤ (x12_2 : Int) := of_decide_eq_true (by first | (with_reducible assumption) | assumption)
           have q187 : x12_2 < (l0.length : Int) := of_decide_eq_true (by first | (with_reducible assumption) | assumption)
           obtain ⟨ad187, e187, hx187_0, hx187_1, hx187_2, hx187_3⟩ := at_T54 (Kd.R_reads' HO_0.out).2.2 x12_2 p187 q187
           obtain rfl : ad186 = ad187 := (by injection e187)
           replace p187 := eq_true p187
           replace q187 := eq_true q187
           go_wp2
           go_roundg k2
           case measure => have := HJ6.out; have := HK2.out; omega
           case rel => exact ⟨(x12_2), (wrap64 (x12_2 + 1)), (by first | rfl | (simp; done) | (simp [*]; done)), (by first | rfl | (simp; done) | (simp [*]; done)), H', ⟨by have := HJ6.out; have := HK2.out; omega⟩, ⟨by (with_reducible repeat (first | apply Kd.R_alloc | apply Kd.R_drewN | apply Kd.R_drew)); exact HO_0.out⟩, ⟨by repeat (first | (with_reducible first | exact HK.out | apply Kept.alloc | apply Kept.drewN | apply Kept.drew) | exact HK.out)⟩, ⟨by repeat (first | (with_reducible first | exact HB.out | apply below_alloc | apply pw_below_drewN | apply below_drew1) | exact HB.out)⟩⟩
          ·rw [if_neg c13] at H
           have c13b0 : (((rd_T54 l0 x12_2).f1) == (wrap64 (((rd_T54 l0 a1).f1) + 1))) = false := beq_eq_false_iff_ne.mpr c13
           have c13b1 : (((rd_T54 l0 x12_2).f1) != (wrap64 (((rd_T54 l0 a1).f1) + 1))) = true := bne_iff_ne.mpr c13
           have H' := Aside0.mk H
           clear H
           have p187 : 0 ≤ (x12_2 : Int) := of_decide_eq_true (by first | (with_reducible assumption) | assumption)
           have q187 : x12_2 < (l0.length : Int) := of_decide_eq_true (by first | (with_reducible assumption) | assumption)
           obtain ⟨ad187, e187, hx187_0, hx187_1, hx187_2, hx187_3⟩ := at_T54 (Kd.R_reads' HO_0.out).2.2 x12_2 p187 q187
           obtain rfl : ad186 = ad187 := (by injection e187)
           replace p187 := eq_true p187
           replace q187 := eq_true q187
           go_wp2
           go_roundg k2
           case measure => have := HJ6.out; have := HK2.out; omega
           case rel => exact ⟨(x11_2), (wrap64 (x12_2 + 1)), (by first | rfl | (simp; done) | (simp [*]; done)), (by first | rfl | (simp; done) | (simp [*]; done)), H', ⟨by have := HJ6.out; have := HK2.out; omega⟩, ⟨by (with_reducible repeat (first | apply Kd.R_alloc | apply Kd.R_drewN | apply Kd.R_drew)); exact HO_0.out⟩, ⟨by repeat (first | (with_reducible first | exact HK.out | apply Kept.alloc | apply Kept.drewN | apply Kept.drew) | exact HK.out)⟩, ⟨by repeat (first | (with_reducible first | exact HB.out | apply below_alloc | apply pw_below_drewN | apply below_drew1) | exact HB.out)⟩⟩
         ·rw [if_neg c12] at H
          exact absurd H (by simp)
        ·rw [if_neg c11] at H
         exact absurd H (by simp)
       ·rw [if_neg c10] at H
        have c10b0 : decide (x12_2 < x10_6) = false := decide_eq_false c10
        clear c10
        have H' := Aside0.mk H
        clear H
        go_wp2
        go_loopg [13] k2 (fun kq v13 w' => ∃ (x0_3 : List (S54)) (x13_3 : Int), v13 = .int .i64 x13_3 ∧ Aside0 (spec_l2Turn.l1 kq x0_3 a1 a2 t185 ((rd_T54 l0 a1).f1) x11_2 x13_3 = some r) ∧ Aside0 (kq ≤ k2) ∧ Aside0 (Kd.R k54 54 w' w0.heap.size (fun k_ => (P0_ k_ ∨ w.heap.size ≤ k_)) (.slice (some ad186) l0.length co8) x0_3) ∧ Aside0 (Kept w w' (fun k_ => P0_ k_)) ∧ Aside0 (Below w0.heap.size w0 w'))
        case atStart => exact ⟨(l0), (t184), (by first | rfl | (simp; done) | (simp [*]; done)), H', ⟨Nat.le_refl _⟩, ⟨by (with_reducible repeat (first | apply Kd.R_alloc | apply Kd.R_drewN | apply Kd.R_drew)); exact HO_0.out⟩, ⟨by repeat (first | (with_reducible first | exact HK.out | apply Kept.alloc | apply Kept.drewN | apply Kept.drew) | exact HK.out)⟩, ⟨by repeat (first | (with_reducible first | exact HB.out | apply below_alloc | apply pw_below_drewN | apply below_drew1) | exact HB.out)⟩⟩
        case round =>
         clear H'
         try clear c1
         try clear p1
         try clear q1
         try clear hx1
         try clear p2
         try clear c5
         try clear c5b0
         try clear c6
         try clear c6b0
         try clear p6
         try clear c9
         try clear c10
         try clear c10b0
         try clear c11
         try clear c11b0
         try clear c12
         try clear c12b0
         try clear c13
         try clear c13b0
         try clear c13b1
         try clear hx186_0
         try clear hx186_1
         try clear hx186_2
         try clear hx186_3
         try clear hx187_0
         try clear hx187_1
         try clear hx187_2
         try clear hx187_3
         try clear p1
         try clear p186
         try clear p187
         try clear p2
         try clear p6
         try clear q1
         try clear q186
         try clear q187
         obtain ⟨x0_3, x13_3, rfl, HA, HK3, HO_0, HK, HB⟩ := hrel
         have hl0_3 := (Kd.R_reads' HO_0.out).1
         rw [hl0_3] at HO_0
         (try simp only [hl0_3])
         cases gk with
         | zero => exact absurd HA.out (by simp [spec_l2Turn.l1])
         | succ k3 =>
          have H := HA.out
          clear HA
          simp only [spec_l2Turn.l1] at H
          by_cases c14 : x13_3 < t185
          ·rw [if_pos c14] at H
           have c14b0 : decide (x13_3 < t185) = true := decide_eq_true c14
           clear c14
           have HC15 := Aside0.mk H
           clear H
           go_upto_if 61 with (fail)
           go_cut [14, 15] (fun v14 v15 wc => ∃ (kq : Nat) (x14_14 : Bool) (x15_14 : Bool), v14 = .bool x14_14 ∧ v15 = .bool x15_14 ∧ Aside0 (spec_l2Turn.j3 kq x0_3 a1 a2 t185 ((rd_T54 l0 a1).f1) x11_2 x13_3 x14_14 x15_14 = some r) ∧ Aside0 (kq ≤ k3) ∧ Aside0 (Kd.R k54 54 wc w0.heap.size (fun k_ => (P0_ k_ ∨ w.heap.size ≤ k_)) (.slice (some ad186) x0_3.length co8) x0_3) ∧ Aside0 (Kept w wc (fun k_ => P0_ k_)) ∧ Aside0 (Below w0.heap.size w0 wc))
           case first =>
            have H := HC15.out
            clear HC15
            by_cases c16 : a2 = true
            ·subst c16
             have H1 : (spec_l2Turn.j3 k3 x0_3 a1 true t185 ((rd_T54 l0 a1).f1) x11_2 x13_3 (decide (x13_3 < x11_2)) (decide (x13_3 > a1))) = some r := by rw [if_pos rfl] at H; exact H
             clear H
             have H := H1
             clear H1
             have H' := Aside0.mk H
             clear H
             go_wp2
             go_meet
             case rel => exact ⟨_, (decide (x13_3 < x11_2)), (decide (x13_3 > a1)), (by first | rfl | (simp; done) | (simp [*]; done)), (by first | rfl | (simp; done) | (simp [*]; done)), H', ⟨by have := HJ6.out; have := HK2.out; have := HK3.out; first | omega | exact Nat.le_refl _⟩, ⟨by (try simp only [hl0_3]); (with_reducible repeat (first | apply Kd.R_alloc | apply Kd.R_drewN | apply Kd.R_drew)); exact HO_0.out⟩, ⟨by repeat (first | (with_reducible first | exact HK.out | apply Kept.alloc | apply Kept.drewN | apply Kept.drew) | exact HK.out)⟩, ⟨by repeat (first | (with_reducible first | exact HB.out | apply below_alloc | apply pw_below_drewN | apply below_drew1) | exact HB.out)⟩⟩
            ·replace c16 := Bool.eq_false_iff.mpr c16
             subst c16
             have H1 : (spec_l2Turn.j3 k3 x0_3 a1 false t185 ((rd_T54 l0 a1).f1) x11_2 x13_3 (decide (x13_3 > x11_2)) (decide (x13_3 < a1))) = some r := by rw [if_neg (show ¬ (false = true) by decide)] at H; exact H
             clear H
             have H := H1
             clear H1
             have H' := Aside0.mk H
             clear H
             go_wp2
             go_meet
             case rel => exact ⟨_, (decide (x13_3 > x11_2)), (decide (x13_3 < a1)), (by first | rfl | (simp; done) | (simp [*]; done)), (by first | rfl | (simp; done) | (simp [*]; done)), H', ⟨by have := HJ6.out; have := HK2.out; have := HK3.out; first | omega | exact Nat.le_refl _⟩, ⟨by (try simp only [hl0_3]); (with_reducible repeat (first | apply Kd.R_alloc | apply Kd.R_drewN | apply Kd.R_drew)); exact HO_0.out⟩, ⟨by repeat (first | (with_reducible first | exact HK.out | apply Kept.alloc | apply Kept.drewN | apply Kept.drew) | exact HK.out)⟩, ⟨by repeat (first | (with_reducible first | exact HB.out | apply below_alloc | apply pw_below_drewN | apply below_drew1) | exact HB.out)⟩⟩
           case rest =>
            clear HC15
            try clear c1
            try clear p1
            try clear q1
            try clear hx1
            try clear p2
            try clear c5
            try clear c5b0
            try clear c6
            try clear c6b0
            try clear p6
            try clear c9
            try clear c10
            try clear c10b0
            try clear c11
            try clear c11b0
            try clear c12
            try clear c12b0
            try clear c13
            try clear c13b0
            try clear c13b1
            try clear c14
            try clear c14b0
            try clear c16
            try clear hx186_0
            try clear hx186_1
            try clear hx186_2
            try clear hx186_3
            try clear hx187_0
            try clear hx187_1
            try clear hx187_2
            try clear hx187_3
            try clear p1
            try clear p186
            try clear p187
            try clear p2
            try clear p6
            try clear q1
            try clear q186
            try clear q187
            obtain ⟨kq, x14_14, x15_14, rfl, rfl, HA, HJ14, HO_0, HK, HB⟩ := hcut
            cases kq with
            | zero => exact absurd HA.out (by simp [spec_l2Turn.j3])
            | succ kj14 =>
             have H := HA.out
             clear HA
             simp only [spec_l2Turn.j3] at H
             by_cases c17 : x14_14 = true
             ·subst c17
              have H1 : (if 0 ≤ x13_3 then (if x13_3 < (x0_3.length : Int) then ((some (x0_3.set (x13_3 : Int).toNat (⟨(⟨(rd_T54 x0_3 x13_3).f0.f0, (rd_T54 x0_3 x13_3).f0.f1, (rd_T54 x0_3 x13_3).f0.f2⟩ : S50), wrap64 (((rd_T54 x0_3 x13_3).f1) - 1)⟩ : S54) : List (S54))).bind fun y191 => (if x15_14 = true then (spec_l2Turn.l1 kj14 (y191.set (x13_3 : Int).toNat (⟨(⟨(rd_T54 y191 x13_3).f0.f0, (rd_T54 y191 x13_3).f0.f1, (rd_T54 y191 x13_3).f0.f2⟩ : S50), wrap64 (((rd_T54 y191 x13_3).f1) + 1)⟩ : S54)) a1 a2 t185 ((rd_T54 l0 a1).f1) x11_2 (wrap64 (x13_3 + 1))) else (spec_l2Turn.l1 kj14 y191 a1 a2 t185 ((rd_T54 l0 a1).f1) x11_2 (wrap64 (x13_3 + 1))))) else (none)) else (none)) = some r := by rw [if_pos rfl] at H; exact H
              clear H
              have H := H1
              clear H1
              by_cases c18 : 0 ≤ x13_3
              ·rw [if_pos c18] at H
               have c18b0 : decide (0 ≤ x13_3) = true := decide_eq_true c18
               clear c18
               by_cases c19 : x13_3 < (x0_3.length : Int)
               ·rw [if_pos c19] at H
                have c19b0 : decide (x13_3 < (x0_3.length : Int)) = true := decide_eq_true c19
                clear c19
                obtain ⟨y191, hy191⟩ : ∃ y_ : List (S54), y_ = (x0_3.set (x13_3 : Int).toNat (⟨(⟨(rd_T54 x0_3 x13_3).f0.f0, (rd_T54 x0_3 x13_3).f0.f1, (rd_T54 x0_3 x13_3).f0.f2⟩ : S50), wrap64 (((rd_T54 x0_3 x13_3).f1) - 1)⟩ : S54)) := ⟨_, rfl⟩
                replace H : (if x15_14 = true then (spec_l2Turn.l1 kj14 (y191.set (x13_3 : Int).toNat (⟨(⟨(rd_T54 y191 x13_3).f0.f0, (rd_T54 y191 x13_3).f0.f1, (rd_T54 y191 x13_3).f0.f2⟩ : S50), wrap64 (((rd_T54 y191 x13_3).f1) + 1)⟩ : S54)) a1 a2 t185 ((rd_T54 l0 a1).f1) x11_2 (wrap64 (x13_3 + 1))) else (spec_l2Turn.l1 kj14 y191 a1 a2 t185 ((rd_T54 l0 a1).f1) x11_2 (wrap64 (x13_3 + 1)))) = some r := by first | (rw [hy191]; with_reducible exact H) | (have H2_ := (Option.bind_some _ _).symm.trans H; rw [hy191]; with_reducible exact H2_) | (have H2_ := (Option.bind_some _ _).symm.trans H; with_reducible exact H2_) | with_reducible exact H | (rw [hy191]; exact H) | exact H
                have Ny191 := Aside0.mk hy191
                clear hy191
                by_cases c21 : x15_14 = true
                ·subst c21
                 have H1 : (spec_l2Turn.l1 kj14 (y191.set (x13_3 : Int).toNat (⟨(⟨(rd_T54 y191 x13_3).f0.f0, (rd_T54 y191 x13_3).f0.f1, (rd_T54 y191 x13_3).f0.f2⟩ : S50), wrap64 (((rd_T54 y191 x13_3).f1) + 1)⟩ : S54)) a1 a2 t185 ((rd_T54 l0 a1).f1) x11_2 (wrap64 (x13_3 + 1))) = some r := by rw [if_pos rfl] at H; exact H
                 clear H
                 have H := H1
                 clear H1
                 obtain ⟨y193, hy193⟩ : ∃ y_ : List (S54), y_ = (y191.set (x13_3 : Int).toNat (⟨(⟨(rd_T54 y191 x13_3).f0.f0, (rd_T54 y191 x13_3).f0.f1, (rd_T54 y191 x13_3).f0.f2⟩ : S50), wrap64 (((rd_T54 y191 x13_3).f1) + 1)⟩ : S54)) := ⟨_, rfl⟩
                 replace H : (spec_l2Turn.l1 kj14 y193 a1 a2 t185 ((rd_T54 l0 a1).f1) x11_2 (wrap64 (x13_3 + 1))) = some r := by first | (rw [hy193]; with_reducible exact H) | (have H2_ := (Option.bind_some _ _).symm.trans H; rw [hy193]; with_reducible exact H2_) | (have H2_ := (Option.bind_some _ _).symm.trans H; with_reducible exact H2_) | with_reducible exact H | (rw [hy193]; exact H) | exact H
                 have Ny193 := Aside0.mk hy193
                 clear hy193
                 have H' := Aside0.mk H
                 clear H
                 have p190 : 0 ≤ (x13_3 : Int) := of_decide_eq_true (by first | (with_reducible assumption) | assumption)
                 have q190 : x13_3 < (x0_3.length : Int) := of_decide_eq_true (by first | (with_reducible assumption) | assumption)
                 obtain ⟨ad190, e190, hx190_0, hx190_1, hx190_2, hx190_3⟩ := at_T54 (Kd.R_reads' HO_0.out).2.2 x13_3 p190 q190
                 obtain rfl : ad186 = ad190 := (by injection e190)
                 replace p190 := eq_true p190
                 replace q190 := eq_true q190
                 have p20 : 0 ≤ (x13_3 : Int) := of_decide_eq_true (by first | (with_reducible assumption) | assumption)
                 have q20 : (x13_3 : Int) < ((x0_3.length : Int) : Int) := of_decide_eq_true (by first | (with_reducible assumption) | assumption)
                 obtain ⟨go20, co20, eo20, gb20, gl20, cl20, HG20⟩ := Kd.R_form HO_0.out (by omega)
                 (first | cases eo20 | (injection eo20 with ea_ en_ ec_; (first | subst ea_ | (injection ea_ with ea_; subst ea_)); subst ec_; clear en_))
                 have GB20 := Aside0.mk gb20
                 have GG20 := Aside0.mk HG20
                 clear gb20 gl20 HG20
                 have HMgo20 := Aside0.mk (show (P0_ go20 ∨ w.heap.size ≤ go20) from (HO_0.out.1 _ rfl))
                 (first | simp only [add_plain] at hx186_0 | skip)
                 (first | simp only [add_plain] at hx186_1 | skip)
                 (first | simp only [add_plain] at hx186_2 | skip)
                 (first | simp only [add_plain] at hx186_3 | skip)
                 (first | simp only [add_plain] at hx187_0 | skip)
                 (first | simp only [add_plain] at hx187_1 | skip)
                 (first | simp only [add_plain] at hx187_2 | skip)
                 (first | simp only [add_plain] at hx187_3 | skip)
                 (first | simp only [add_plain] at hx190_0 | skip)
                 (first | simp only [add_plain] at hx190_1 | skip)
                 (first | simp only [add_plain] at hx190_2 | skip)
                 (first | simp only [add_plain] at hx190_3 | skip)
                 obtain ⟨ce20, hcl20, hM20, hcc20, hfr20⟩ := Kd.R_elem HO_0.out z54 (x13_3 : Int) p20 q20
                 obtain rfl := k54_openM hM20
                 have hx20_0 : wc.cell? ⟨go20, (x13_3 : Int).toNat * 4, none⟩ = some (.int .i64 ((rd_T54 x0_3 x13_3).f0.f0)) := hcc20 0 _ rfl
                 have hx20_1 : wc.cell? ⟨go20, (x13_3 : Int).toNat * 4 + 1, none⟩ = some (.int .i64 ((rd_T54 x0_3 x13_3).f0.f1)) := hcc20 1 _ rfl
                 have hx20_2 : wc.cell? ⟨go20, (x13_3 : Int).toNat * 4 + 2, none⟩ = some (.int .i64 ((rd_T54 x0_3 x13_3).f0.f2)) := hcc20 2 _ rfl
                 have hx20_3 : wc.cell? ⟨go20, (x13_3 : Int).toNat * 4 + 3, none⟩ = some (.int .i64 ((rd_T54 x0_3 x13_3).f1)) := hcc20 3 _ rfl
                 have hf20_0 : wc.frozen? ⟨go20, (x13_3 : Int).toNat * 4, none⟩ = false := hfr20 0
                 have hf20_1 : wc.frozen? ⟨go20, (x13_3 : Int).toNat * 4 + 1, none⟩ = false := hfr20 1
                 have hf20_2 : wc.frozen? ⟨go20, (x13_3 : Int).toNat * 4 + 2, none⟩ = false := hfr20 2
                 have hf20_3 : wc.frozen? ⟨go20, (x13_3 : Int).toNat * 4 + 3, none⟩ = false := hfr20 3
                 clear hcl20 hcc20 hfr20 hM20
                 replace p20 := eq_true p20
                 replace q20 := eq_true q20
                 have HX23 := Aside0.mk (show Kd.R k54 54 wc w0.heap.size (fun k_ => (P0_ k_ ∨ w.heap.size ≤ k_)) (.slice (some ⟨go20, 0, none⟩) x0_3.length co8) x0_3 from (rD HO_0.out))
                 obtain ⟨ce23, hcl23, hM23, hcc23, hfr23⟩ := Kd.R_elem HX23.out z54 (x13_3 : Int) (of_decide_eq_true (by first | (with_reducible assumption) | assumption)) (by have h_ : (x13_3 : Int) < ((x0_3.length : Int) : Int) := of_decide_eq_true (by first | (with_reducible assumption) | assumption); first | exact h_ | (have e_ := (Kd.R_reads' HO_0.out).1; omega) | simpa using h_)
                 obtain rfl := k54_openM hM23
                 have HP23 := Kd.R_seg HX23.out (x13_3 : Int) (of_decide_eq_true (by first | (with_reducible assumption) | assumption)) (by have h_ : (x13_3 : Int) < ((x0_3.length : Int) : Int) := of_decide_eq_true (by first | (with_reducible assumption) | assumption); first | exact h_ | (have e_ := (Kd.R_reads' HO_0.out).1; omega) | simpa using h_) (seg := [.int .i64 (wrap64 (((rd_T54 x0_3 x13_3).f1) - 1))]) (j := 3) hcl23 hcc23 (show 4 ≤ 4 from by decide) (x' := (⟨(⟨(rd_T54 x0_3 x13_3).f0.f0, (rd_T54 x0_3 x13_3).f0.f1, (rd_T54 x0_3 x13_3).f0.f2⟩ : S50), wrap64 (((rd_T54 x0_3 x13_3).f1) - 1)⟩ : S54)) (k54_mkM _ _ _ (⟨(⟨(rd_T54 x0_3 x13_3).f0.f0, (rd_T54 x0_3 x13_3).f0.f1, (rd_T54 x0_3 x13_3).f0.f2⟩ : S50), wrap64 (((rd_T54 x0_3 x13_3).f1) - 1)⟩ : S54) ) (fun _ hk => hk)
                 have hx23_3 := hcc23 3 _ rfl
                 (try simp only [show (k54).sz = 4 from rfl, Nat.mul_one, Nat.add_zero] at hx23_3)
                 have hf23_3 := hfr23 3
                 (try simp only [show (k54).sz = 4 from rfl, Nat.mul_one, Nat.add_zero] at hf23_3)
                 clear hcl23 hcc23 hfr23 hM23
                 go_wp2_with (first | ((with_reducible refine gate_store (t := 3) (p := 76) rfl ?_); refine store_event (t := 3) (p := 76) (v := ?vo_w24) (w1 := (wc.setCell ⟨go20, (x13_3 : Int).toNat * 4 + 3, none⟩ (.int .i64 (wrap64 (((rd_T54 x0_3 x13_3).f1) - 1))))) ?hg ?ho ?hn ?hr ?_; (case ho => rfl); (case hg => rfl); (case hn => rfl); (case hr => first | (go_simp; done) | (go_simp; rfl)); intro w24 hw; have hg : wc.grownBy w24 (some go20) := (by rw [hw]; exact HP23.2); have hp_ : Kd.R k54 54 w24 w0.heap.size (fun k_ => (P0_ k_ ∨ w.heap.size ≤ k_)) (.slice (some ⟨go20, 0, none⟩) x0_3.length co8) y191 := (by rw [hw, Ny191.out]; exact HP23.1); clear HP23; have n0_ := Aside0.mk (hp_); have n1_ := Aside0.mk ((by rw [hw]; exact below_set (HB.out) GB20.out : Below w0.heap.size w0 w24)); have n2_ := Aside0.mk (Kept.of_grown (S := (fun k_ => P0_ k_)) hg (by repeat (first | (with_reducible first | exact HK.out | apply Kept.alloc | apply Kept.drewN | apply Kept.drew) | exact HK.out)) (fun k_ e_ => (HO_0.out.1 k_ e_))); clear HO_0 HB HK; have HO_0 := n0_; have HB := n1_; have HK := n2_; clear n0_ n1_ n2_ hg hw hp_; have p192 : 0 ≤ (x13_3 : Int) := of_decide_eq_true (by first | (with_reducible assumption) | assumption); have q192 : x13_3 < (y191.length : Int) := (by have h_ : (x13_3 : Int) < ((x0_3.length : Int) : Int) := of_decide_eq_true (by first | (with_reducible assumption) | assumption); first | (have e_ := (Kd.R_reads' HO_0.out).1; omega) | simpa only [Ny191.out, List.length_set] using h_); have ql192 : ((x13_3 : Int) < ((x0_3.length : Int) : Int)) = True := eq_true (of_decide_eq_true (by first | (with_reducible assumption) | assumption)); obtain ⟨ad192, e192, hx192_0, hx192_1, hx192_2, hx192_3⟩ := at_T54 (Kd.R_reads' HO_0.out).2.2 x13_3 p192 q192; obtain rfl : (⟨go20, 0, none⟩ : Addr) = ad192 := (by injection e192); (first | simp only [add_plain] at hx192_0 | simp only [add_at] at hx192_0 | simp only [Addr.add, Nat.zero_add] at hx192_0 | skip); (first | simp only [add_plain] at hx192_1 | simp only [add_at] at hx192_1 | simp only [Addr.add, Nat.zero_add] at hx192_1 | skip); (first | simp only [add_plain] at hx192_2 | simp only [add_at] at hx192_2 | simp only [Addr.add, Nat.zero_add] at hx192_2 | skip); (first | simp only [add_plain] at hx192_3 | simp only [add_at] at hx192_3 | simp only [Addr.add, Nat.zero_add] at hx192_3 | skip); replace p192 := eq_true p192; replace q192 := eq_true q192; have p22 : 0 ≤ (x13_3 : Int) := of_decide_eq_true (by first | (with_reducible assumption) | assumption); have q22 : (x13_3 : Int) < ((x0_3.length : Int) : Int) := of_decide_eq_true (by first | (with_reducible assumption) | assumption); obtain ⟨ce22, hcl22, hM22, hcc22, hfr22⟩ := Kd.R_elem HO_0.out z54 (x13_3 : Int) p22 q22; obtain rfl := k54_openM hM22; have hx22_0 : w24.cell? ⟨go20, (x13_3 : Int).toNat * 4, none⟩ = some (.int .i64 ((rd_T54 y191 x13_3).f0.f0)) := hcc22 0 _ rfl; have hx22_1 : w24.cell? ⟨go20, (x13_3 : Int).toNat * 4 + 1, none⟩ = some (.int .i64 ((rd_T54 y191 x13_3).f0.f1)) := hcc22 1 _ rfl; have hx22_2 : w24.cell? ⟨go20, (x13_3 : Int).toNat * 4 + 2, none⟩ = some (.int .i64 ((rd_T54 y191 x13_3).f0.f2)) := hcc22 2 _ rfl; have hx22_3 : w24.cell? ⟨go20, (x13_3 : Int).toNat * 4 + 3, none⟩ = some (.int .i64 ((rd_T54 y191 x13_3).f1)) := hcc22 3 _ rfl; have hf22_0 : w24.frozen? ⟨go20, (x13_3 : Int).toNat * 4, none⟩ = false := hfr22 0; have hf22_1 : w24.frozen? ⟨go20, (x13_3 : Int).toNat * 4 + 1, none⟩ = false := hfr22 1; have hf22_2 : w24.frozen? ⟨go20, (x13_3 : Int).toNat * 4 + 2, none⟩ = false := hfr22 2; have hf22_3 : w24.frozen? ⟨go20, (x13_3 : Int).toNat * 4 + 3, none⟩ = false := hfr22 3; clear hcl22 hcc22 hfr22 hM22; replace p22 := eq_true p22; replace q22 := eq_true q22; have HX25 := Aside0.mk (show Kd.R k54 54 w24 w0.heap.size (fun k_ => (P0_ k_ ∨ w.heap.size ≤ k_)) (.slice (some ⟨go20, 0, none⟩) x0_3.length co8) y191 from (rD HO_0.out)); obtain ⟨ce25, hcl25, hM25, hcc25, hfr25⟩ := Kd.R_elem HX25.out z54 (x13_3 : Int) (of_decide_eq_true (by first | (with_reducible assumption) | assumption)) (by have h_ : (x13_3 : Int) < ((x0_3.length : Int) : Int) := of_decide_eq_true (by first | (with_reducible assumption) | assumption); first | exact h_ | (have e_ := (Kd.R_reads' HO_0.out).1; omega) | simpa using h_); obtain rfl := k54_openM hM25; have HP25 := Kd.R_seg HX25.out (x13_3 : Int) (of_decide_eq_true (by first | (with_reducible assumption) | assumption)) (by have h_ : (x13_3 : Int) < ((x0_3.length : Int) : Int) := of_decide_eq_true (by first | (with_reducible assumption) | assumption); first | exact h_ | (have e_ := (Kd.R_reads' HO_0.out).1; omega) | simpa using h_) (seg := [.int .i64 (wrap64 (((rd_T54 y191 x13_3).f1) + 1))]) (j := 3) hcl25 hcc25 (show 4 ≤ 4 from by decide) (x' := (⟨(⟨(rd_T54 y191 x13_3).f0.f0, (rd_T54 y191 x13_3).f0.f1, (rd_T54 y191 x13_3).f0.f2⟩ : S50), wrap64 (((rd_T54 y191 x13_3).f1) + 1)⟩ : S54)) (k54_mkM _ _ _ (⟨(⟨(rd_T54 y191 x13_3).f0.f0, (rd_T54 y191 x13_3).f0.f1, (rd_T54 y191 x13_3).f0.f2⟩ : S50), wrap64 (((rd_T54 y191 x13_3).f1) + 1)⟩ : S54) ) (fun _ hk => hk); have hx25_3 := hcc25 3 _ rfl; (try simp only [show (k54).sz = 4 from rfl, Nat.mul_one, Nat.add_zero] at hx25_3); have hf25_3 := hfr25 3; (try simp only [show (k54).sz = 4 from rfl, Nat.mul_one, Nat.add_zero] at hf25_3); clear hcl25 hcc25 hfr25 hM25) | ((with_reducible refine gate_store (t := 3) (p := 85) rfl ?_); refine store_event (t := 3) (p := 85) (v := ?vo_w26) (w1 := (w24.setCell ⟨go20, (x13_3 : Int).toNat * 4 + 3, none⟩ (.int .i64 (wrap64 (((rd_T54 y191 x13_3).f1) + 1))))) ?hg ?ho ?hn ?hr ?_; (case ho => rfl); (case hg => rfl); (case hn => rfl); (case hr => first | (go_simp; done) | (go_simp; rfl)); intro w26 hw; have hg : w24.grownBy w26 (some go20) := (by rw [hw]; exact HP25.2); have hp_ : Kd.R k54 54 w26 w0.heap.size (fun k_ => (P0_ k_ ∨ w.heap.size ≤ k_)) (.slice (some ⟨go20, 0, none⟩) x0_3.length co8) y193 := (by rw [hw, Ny193.out]; exact HP25.1); clear HP25; have n0_ := Aside0.mk (hp_); have n1_ := Aside0.mk ((by rw [hw]; exact below_set (HB.out) GB20.out : Below w0.heap.size w0 w26)); have n2_ := Aside0.mk (Kept.of_grown (S := (fun k_ => P0_ k_)) hg (by repeat (first | (with_reducible first | exact HK.out | apply Kept.alloc | apply Kept.drewN | apply Kept.drew) | exact HK.out)) (fun k_ e_ => (HO_0.out.1 k_ e_))); clear HO_0 HB HK; have HO_0 := n0_; have HB := n1_; have HK := n2_; clear n0_ n1_ n2_ hg hw hp_))
                 (try simp only [← hl0_3])
                 go_roundg kj14
                 case measure => have := HJ6.out; have := HK2.out; have := HK3.out; have := HJ14.out; omega
                 case rel => exact ⟨(y193), (wrap64 (x13_3 + 1)), (by first | rfl | (simp; done) | (simp [*]; done)), H', ⟨by have := HJ6.out; have := HK2.out; have := HK3.out; have := HJ14.out; omega⟩, ⟨by (try simp only [hl0_3]); (with_reducible repeat (first | apply Kd.R_alloc | apply Kd.R_drewN | apply Kd.R_drew)); exact HO_0.out⟩, ⟨by repeat (first | (with_reducible first | exact HK.out | apply Kept.alloc | apply Kept.drewN | apply Kept.drew) | exact HK.out)⟩, ⟨by repeat (first | (with_reducible first | exact HB.out | apply below_alloc | apply pw_below_drewN | apply below_drew1) | exact HB.out)⟩⟩
                ·replace c21 := Bool.eq_false_iff.mpr c21
                 subst c21
                 have H1 : (spec_l2Turn.l1 kj14 y191 a1 a2 t185 ((rd_T54 l0 a1).f1) x11_2 (wrap64 (x13_3 + 1))) = some r := by rw [if_neg (show ¬ (false = true) by decide)] at H; exact H
                 clear H
                 have H := H1
                 clear H1
                 have H' := Aside0.mk H
                 clear H
                 have p190 : 0 ≤ (x13_3 : Int) := of_decide_eq_true (by first | (with_reducible assumption) | assumption)
                 have q190 : x13_3 < (x0_3.length : Int) := of_decide_eq_true (by first | (with_reducible assumption) | assumption)
                 obtain ⟨ad190, e190, hx190_0, hx190_1, hx190_2, hx190_3⟩ := at_T54 (Kd.R_reads' HO_0.out).2.2 x13_3 p190 q190
                 obtain rfl : ad186 = ad190 := (by injection e190)
                 replace p190 := eq_true p190
                 replace q190 := eq_true q190
                 have p20 : 0 ≤ (x13_3 : Int) := of_decide_eq_true (by first | (with_reducible assumption) | assumption)
                 have q20 : (x13_3 : Int) < ((x0_3.length : Int) : Int) := of_decide_eq_true (by first | (with_reducible assumption) | assumption)
                 obtain ⟨go20, co20, eo20, gb20, gl20, cl20, HG20⟩ := Kd.R_form HO_0.out (by omega)
                 (first | cases eo20 | (injection eo20 with ea_ en_ ec_; (first | subst ea_ | (injection ea_ with ea_; subst ea_)); subst ec_; clear en_))
                 have GB20 := Aside0.mk gb20
                 have GG20 := Aside0.mk HG20
                 clear gb20 gl20 HG20
                 have HMgo20 := Aside0.mk (show (P0_ go20 ∨ w.heap.size ≤ go20) from (HO_0.out.1 _ rfl))
                 (first | simp only [add_plain] at hx190_0 | skip)
                 (first | simp only [add_plain] at hx190_1 | skip)
                 (first | simp only [add_plain] at hx190_2 | skip)
                 (first | simp only [add_plain] at hx190_3 | skip)
                 obtain ⟨ce20, hcl20, hM20, hcc20, hfr20⟩ := Kd.R_elem HO_0.out z54 (x13_3 : Int) p20 q20
                 obtain rfl := k54_openM hM20
                 have hx20_0 : wc.cell? ⟨go20, (x13_3 : Int).toNat * 4, none⟩ = some (.int .i64 ((rd_T54 x0_3 x13_3).f0.f0)) := hcc20 0 _ rfl
                 have hx20_1 : wc.cell? ⟨go20, (x13_3 : Int).toNat * 4 + 1, none⟩ = some (.int .i64 ((rd_T54 x0_3 x13_3).f0.f1)) := hcc20 1 _ rfl
                 have hx20_2 : wc.cell? ⟨go20, (x13_3 : Int).toNat * 4 + 2, none⟩ = some (.int .i64 ((rd_T54 x0_3 x13_3).f0.f2)) := hcc20 2 _ rfl
                 have hx20_3 : wc.cell? ⟨go20, (x13_3 : Int).toNat * 4 + 3, none⟩ = some (.int .i64 ((rd_T54 x0_3 x13_3).f1)) := hcc20 3 _ rfl
                 have hf20_0 : wc.frozen? ⟨go20, (x13_3 : Int).toNat * 4, none⟩ = false := hfr20 0
                 have hf20_1 : wc.frozen? ⟨go20, (x13_3 : Int).toNat * 4 + 1, none⟩ = false := hfr20 1
                 have hf20_2 : wc.frozen? ⟨go20, (x13_3 : Int).toNat * 4 + 2, none⟩ = false := hfr20 2
                 have hf20_3 : wc.frozen? ⟨go20, (x13_3 : Int).toNat * 4 + 3, none⟩ = false := hfr20 3
                 clear hcl20 hcc20 hfr20 hM20
                 replace p20 := eq_true p20
                 replace q20 := eq_true q20
                 have HX27 := Aside0.mk (show Kd.R k54 54 wc w0.heap.size (fun k_ => (P0_ k_ ∨ w.heap.size ≤ k_)) (.slice (some ⟨go20, 0, none⟩) x0_3.length co8) x0_3 from (rD HO_0.out))
                 obtain ⟨ce27, hcl27, hM27, hcc27, hfr27⟩ := Kd.R_elem HX27.out z54 (x13_3 : Int) (of_decide_eq_true (by first | (with_reducible assumption) | assumption)) (by have h_ : (x13_3 : Int) < ((x0_3.length : Int) : Int) := of_decide_eq_true (by first | (with_reducible assumption) | assumption); first | exact h_ | (have e_ := (Kd.R_reads' HO_0.out).1; omega) | simpa using h_)
                 obtain rfl := k54_openM hM27
                 have HP27 := Kd.R_seg HX27.out (x13_3 : Int) (of_decide_eq_true (by first | (with_reducible assumption) | assumption)) (by have h_ : (x13_3 : Int) < ((x0_3.length : Int) : Int) := of_decide_eq_true (by first | (with_reducible assumption) | assumption); first | exact h_ | (have e_ := (Kd.R_reads' HO_0.out).1; omega) | simpa using h_) (seg := [.int .i64 (wrap64 (((rd_T54 x0_3 x13_3).f1) - 1))]) (j := 3) hcl27 hcc27 (show 4 ≤ 4 from by decide) (x' := (⟨(⟨(rd_T54 x0_3 x13_3).f0.f0, (rd_T54 x0_3 x13_3).f0.f1, (rd_T54 x0_3 x13_3).f0.f2⟩ : S50), wrap64 (((rd_T54 x0_3 x13_3).f1) - 1)⟩ : S54)) (k54_mkM _ _ _ (⟨(⟨(rd_T54 x0_3 x13_3).f0.f0, (rd_T54 x0_3 x13_3).f0.f1, (rd_T54 x0_3 x13_3).f0.f2⟩ : S50), wrap64 (((rd_T54 x0_3 x13_3).f1) - 1)⟩ : S54) ) (fun _ hk => hk)
                 have hx27_3 := hcc27 3 _ rfl
                 (try simp only [show (k54).sz = 4 from rfl, Nat.mul_one, Nat.add_zero] at hx27_3)
                 have hf27_3 := hfr27 3
                 (try simp only [show (k54).sz = 4 from rfl, Nat.mul_one, Nat.add_zero] at hf27_3)
                 clear hcl27 hcc27 hfr27 hM27
                 go_wp2_with (first | ((with_reducible refine gate_store (t := 3) (p := 76) rfl ?_); refine store_event (t := 3) (p := 76) (v := ?vo_w28) (w1 := (wc.setCell ⟨go20, (x13_3 : Int).toNat * 4 + 3, none⟩ (.int .i64 (wrap64 (((rd_T54 x0_3 x13_3).f1) - 1))))) ?hg ?ho ?hn ?hr ?_; (case ho => rfl); (case hg => rfl); (case hn => rfl); (case hr => first | (go_simp; done) | (go_simp; rfl)); intro w28 hw; have hg : wc.grownBy w28 (some go20) := (by rw [hw]; exact HP27.2); have hp_ : Kd.R k54 54 w28 w0.heap.size (fun k_ => (P0_ k_ ∨ w.heap.size ≤ k_)) (.slice (some ⟨go20, 0, none⟩) x0_3.length co8) y191 := (by rw [hw, Ny191.out]; exact HP27.1); clear HP27; have n0_ := Aside0.mk (hp_); have n1_ := Aside0.mk ((by rw [hw]; exact below_set (HB.out) GB20.out : Below w0.heap.size w0 w28)); have n2_ := Aside0.mk (Kept.of_grown (S := (fun k_ => P0_ k_)) hg (by repeat (first | (with_reducible first | exact HK.out | apply Kept.alloc | apply Kept.drewN | apply Kept.drew) | exact HK.out)) (fun k_ e_ => (HO_0.out.1 k_ e_))); clear HO_0 HB HK; have HO_0 := n0_; have HB := n1_; have HK := n2_; clear n0_ n1_ n2_ hg hw hp_))
                 (try simp only [← hl0_3])
                 go_roundg kj14
                 case measure => have := HJ6.out; have := HK2.out; have := HK3.out; have := HJ14.out; omega
                 case rel => exact ⟨(y191), (wrap64 (x13_3 + 1)), (by first | rfl | (simp; done) | (simp [*]; done)), H', ⟨by have := HJ6.out; have := HK2.out; have := HK3.out; have := HJ14.out; omega⟩, ⟨by (try simp only [hl0_3]); (with_reducible repeat (first | apply Kd.R_alloc | apply Kd.R_drewN | apply Kd.R_drew)); exact HO_0.out⟩, ⟨by repeat (first | (with_reducible first | exact HK.out | apply Kept.alloc | apply Kept.drewN | apply Kept.drew) | exact HK.out)⟩, ⟨by repeat (first | (with_reducible first | exact HB.out | apply below_alloc | apply pw_below_drewN | apply below_drew1) | exact HB.out)⟩⟩
               ·rw [if_neg c19] at H
                exact absurd H (by simp)
              ·rw [if_neg c18] at H
               exact absurd H (by simp)
             ·replace c17 := Bool.eq_false_iff.mpr c17
              subst c17
              have H1 : (if x15_14 = true then (if 0 ≤ x13_3 then (if x13_3 < (x0_3.length : Int) then (spec_l2Turn.l1 kj14 (x0_3.set (x13_3 : Int).toNat (⟨(⟨(rd_T54 x0_3 x13_3).f0.f0, (rd_T54 x0_3 x13_3).f0.f1, (rd_T54 x0_3 x13_3).f0.f2⟩ : S50), wrap64 (((rd_T54 x0_3 x13_3).f1) + 1)⟩ : S54)) a1 a2 t185 ((rd_T54 l0 a1).f1) x11_2 (wrap64 (x13_3 + 1))) else (none)) else (none)) else (spec_l2Turn.l1 kj14 x0_3 a1 a2 t185 ((rd_T54 l0 a1).f1) x11_2 (wrap64 (x13_3 + 1)))) = some r := by rw [if_neg (show ¬ (false = true) by decide)] at H; exact H
              clear H
              have H := H1
              clear H1
              by_cases c29 : x15_14 = true
              ·subst c29
               have H1 : (if 0 ≤ x13_3 then (if x13_3 < (x0_3.length : Int) then (spec_l2Turn.l1 kj14 (x0_3.set (x13_3 : Int).toNat (⟨(⟨(rd_T54 x0_3 x13_3).f0.f0, (rd_T54 x0_3 x13_3).f0.f1, (rd_T54 x0_3 x13_3).f0.f2⟩ : S50), wrap64 (((rd_T54 x0_3 x13_3).f1) + 1)⟩ : S54)) a1 a2 t185 ((rd_T54 l0 a1).f1) x11_2 (wrap64 (x13_3 + 1))) else (none)) else (none)) = some r := by rw [if_pos rfl] at H; exact H
               clear H
               have H := H1
               clear H1
               by_cases c30 : 0 ≤ x13_3
               ·rw [if_pos c30] at H
                have c30b0 : decide (0 ≤ x13_3) = true := decide_eq_true c30
                clear c30
                by_cases c31 : x13_3 < (x0_3.length : Int)
                ·rw [if_pos c31] at H
                 have c31b0 : decide (x13_3 < (x0_3.length : Int)) = true := decide_eq_true c31
                 clear c31
                 obtain ⟨y195, hy195⟩ : ∃ y_ : List (S54), y_ = (x0_3.set (x13_3 : Int).toNat (⟨(⟨(rd_T54 x0_3 x13_3).f0.f0, (rd_T54 x0_3 x13_3).f0.f1, (rd_T54 x0_3 x13_3).f0.f2⟩ : S50), wrap64 (((rd_T54 x0_3 x13_3).f1) + 1)⟩ : S54)) := ⟨_, rfl⟩
                 replace H : (spec_l2Turn.l1 kj14 y195 a1 a2 t185 ((rd_T54 l0 a1).f1) x11_2 (wrap64 (x13_3 + 1))) = some r := by first | (rw [hy195]; with_reducible exact H) | (have H2_ := (Option.bind_some _ _).symm.trans H; rw [hy195]; with_reducible exact H2_) | (have H2_ := (Option.bind_some _ _).symm.trans H; with_reducible exact H2_) | with_reducible exact H | (rw [hy195]; exact H) | exact H
                 have Ny195 := Aside0.mk hy195
                 clear hy195
                 have H' := Aside0.mk H
                 clear H
                 have p194 : 0 ≤ (x13_3 : Int) := of_decide_eq_true (by first | (with_reducible assumption) | assumption)
                 have q194 : x13_3 < (x0_3.length : Int) := of_decide_eq_true (by first | (with_reducible assumption) | assumption)
                 obtain ⟨ad194, e194, hx194_0, hx194_1, hx194_2, hx194_3⟩ := at_T54 (Kd.R_reads' HO_0.out).2.2 x13_3 p194 q194
                 obtain rfl : ad186 = ad194 := (by injection e194)
                 replace p194 := eq_true p194
                 replace q194 := eq_true q194
                 have p32 : 0 ≤ (x13_3 : Int) := of_decide_eq_true (by first | (with_reducible assumption) | assumption)
                 have q32 : (x13_3 : Int) < ((x0_3.length : Int) : Int) := of_decide_eq_true (by first | (with_reducible assumption) | assumption)
                 obtain ⟨go32, co32, eo32, gb32, gl32, cl32, HG32⟩ := Kd.R_form HO_0.out (by omega)
                 (first | cases eo32 | (injection eo32 with ea_ en_ ec_; (first | subst ea_ | (injection ea_ with ea_; subst ea_)); subst ec_; clear en_))
                 have GB32 := Aside0.mk gb32
                 have GG32 := Aside0.mk HG32
                 clear gb32 gl32 HG32
                 have HMgo32 := Aside0.mk (show (P0_ go32 ∨ w.heap.size ≤ go32) from (HO_0.out.1 _ rfl))
                 (first | simp only [add_plain] at hx194_0 | skip)
                 (first | simp only [add_plain] at hx194_1 | skip)
                 (first | simp only [add_plain] at hx194_2 | skip)
                 (first | simp only [add_plain] at hx194_3 | skip)
                 obtain ⟨ce32, hcl32, hM32, hcc32, hfr32⟩ := Kd.R_elem HO_0.out z54 (x13_3 : Int) p32 q32
                 obtain rfl := k54_openM hM32
                 have hx32_0 : wc.cell? ⟨go32, (x13_3 : Int).toNat * 4, none⟩ = some (.int .i64 ((rd_T54 x0_3 x13_3).f0.f0)) := hcc32 0 _ rfl
                 have hx32_1 : wc.cell? ⟨go32, (x13_3 : Int).toNat * 4 + 1, none⟩ = some (.int .i64 ((rd_T54 x0_3 x13_3).f0.f1)) := hcc32 1 _ rfl
                 have hx32_2 : wc.cell? ⟨go32, (x13_3 : Int).toNat * 4 + 2, none⟩ = some (.int .i64 ((rd_T54 x0_3 x13_3).f0.f2)) := hcc32 2 _ rfl
                 have hx32_3 : wc.cell? ⟨go32, (x13_3 : Int).toNat * 4 + 3, none⟩ = some (.int .i64 ((rd_T54 x0_3 x13_3).f1)) := hcc32 3 _ rfl
                 have hf32_0 : wc.frozen? ⟨go32, (x13_3 : Int).toNat * 4, none⟩ = false := hfr32 0
                 have hf32_1 : wc.frozen? ⟨go32, (x13_3 : Int).toNat * 4 + 1, none⟩ = false := hfr32 1
                 have hf32_2 : wc.frozen? ⟨go32, (x13_3 : Int).toNat * 4 + 2, none⟩ = false := hfr32 2
                 have hf32_3 : wc.frozen? ⟨go32, (x13_3 : Int).toNat * 4 + 3, none⟩ = false := hfr32 3
                 clear hcl32 hcc32 hfr32 hM32
                 replace p32 := eq_true p32
                 replace q32 := eq_true q32
                 have HX33 := Aside0.mk (show Kd.R k54 54 wc w0.heap.size (fun k_ => (P0_ k_ ∨ w.heap.size ≤ k_)) (.slice (some ⟨go32, 0, none⟩) x0_3.length co8) x0_3 from (rD HO_0.out))
                 obtain ⟨ce33, hcl33, hM33, hcc33, hfr33⟩ := Kd.R_elem HX33.out z54 (x13_3 : Int) (of_decide_eq_true (by first | (with_reducible assumption) | assumption)) (by have h_ : (x13_3 : Int) < ((x0_3.length : Int) : Int) := of_decide_eq_true (by first | (with_reducible assumption) | assumption); first | exact h_ | (have e_ := (Kd.R_reads' HO_0.out).1; omega) | simpa using h_)
                 obtain rfl := k54_openM hM33
                 have HP33 := Kd.R_seg HX33.out (x13_3 : Int) (of_decide_eq_true (by first | (with_reducible assumption) | assumption)) (by have h_ : (x13_3 : Int) < ((x0_3.length : Int) : Int) := of_decide_eq_true (by first | (with_reducible assumption) | assumption); first | exact h_ | (have e_ := (Kd.R_reads' HO_0.out).1; omega) | simpa using h_) (seg := [.int .i64 (wrap64 (((rd_T54 x0_3 x13_3).f1) + 1))]) (j := 3) hcl33 hcc33 (show 4 ≤ 4 from by decide) (x' := (⟨(⟨(rd_T54 x0_3 x13_3).f0.f0, (rd_T54 x0_3 x13_3).f0.f1, (rd_T54 x0_3 x13_3).f0.f2⟩ : S50), wrap64 (((rd_T54 x0_3 x13_3).f1) + 1)⟩ : S54)) (k54_mkM _ _ _ (⟨(⟨(rd_T54 x0_3 x13_3).f0.f0, (rd_T54 x0_3 x13_3).f0.f1, (rd_T54 x0_3 x13_3).f0.f2⟩ : S50), wrap64 (((rd_T54 x0_3 x13_3).f1) + 1)⟩ : S54) ) (fun _ hk => hk)
                 have hx33_3 := hcc33 3 _ rfl
                 (try simp only [show (k54).sz = 4 from rfl, Nat.mul_one, Nat.add_zero] at hx33_3)
                 have hf33_3 := hfr33 3
                 (try simp only [show (k54).sz = 4 from rfl, Nat.mul_one, Nat.add_zero] at hf33_3)
                 clear hcl33 hcc33 hfr33 hM33
                 go_wp2_with (first | ((with_reducible refine gate_store (t := 3) (p := 85) rfl ?_); refine store_event (t := 3) (p := 85) (v := ?vo_w34) (w1 := (wc.setCell ⟨go32, (x13_3 : Int).toNat * 4 + 3, none⟩ (.int .i64 (wrap64 (((rd_T54 x0_3 x13_3).f1) + 1))))) ?hg ?ho ?hn ?hr ?_; (case ho => rfl); (case hg => rfl); (case hn => rfl); (case hr => first | (go_simp; done) | (go_simp; rfl)); intro w34 hw; have hg : wc.grownBy w34 (some go32) := (by rw [hw]; exact HP33.2); have hp_ : Kd.R k54 54 w34 w0.heap.size (fun k_ => (P0_ k_ ∨ w.heap.size ≤ k_)) (.slice (some ⟨go32, 0, none⟩) x0_3.length co8) y195 := (by rw [hw, Ny195.out]; exact HP33.1); clear HP33; have n0_ := Aside0.mk (hp_); have n1_ := Aside0.mk ((by rw [hw]; exact below_set (HB.out) GB32.out : Below w0.heap.size w0 w34)); have n2_ := Aside0.mk (Kept.of_grown (S := (fun k_ => P0_ k_)) hg (by repeat (first | (with_reducible first | exact HK.out | apply Kept.alloc | apply Kept.drewN | apply Kept.drew) | exact HK.out)) (fun k_ e_ => (HO_0.out.1 k_ e_))); clear HO_0 HB HK; have HO_0 := n0_; have HB := n1_; have HK := n2_; clear n0_ n1_ n2_ hg hw hp_))
                 (try simp only [← hl0_3])
                 go_roundg kj14
                 case measure => have := HJ6.out; have := HK2.out; have := HK3.out; have := HJ14.out; omega
                 case rel => exact ⟨(y195), (wrap64 (x13_3 + 1)), (by first | rfl | (simp; done) | (simp [*]; done)), H', ⟨by have := HJ6.out; have := HK2.out; have := HK3.out; have := HJ14.out; omega⟩, ⟨by (try simp only [hl0_3]); (with_reducible repeat (first | apply Kd.R_alloc | apply Kd.R_drewN | apply Kd.R_drew)); exact HO_0.out⟩, ⟨by repeat (first | (with_reducible first | exact HK.out | apply Kept.alloc | apply Kept.drewN | apply Kept.drew) | exact HK.out)⟩, ⟨by repeat (first | (with_reducible first | exact HB.out | apply below_alloc | apply pw_below_drewN | apply below_drew1) | exact HB.out)⟩⟩
                ·rw [if_neg c31] at H
                 exact absurd H (by simp)
               ·rw [if_neg c30] at H
                exact absurd H (by simp)
              ·replace c29 := Bool.eq_false_iff.mpr c29
               subst c29
               have H1 : (spec_l2Turn.l1 kj14 x0_3 a1 a2 t185 ((rd_T54 l0 a1).f1) x11_2 (wrap64 (x13_3 + 1))) = some r := by rw [if_neg (show ¬ (false = true) by decide)] at H; exact H
               clear H
               have H := H1
               clear H1
               have H' := Aside0.mk H
               clear H
               go_wp2
               (try simp only [← hl0_3])
               go_roundg kj14
               case measure => have := HJ6.out; have := HK2.out; have := HK3.out; have := HJ14.out; omega
               case rel => exact ⟨(x0_3), (wrap64 (x13_3 + 1)), (by first | rfl | (simp; done) | (simp [*]; done)), H', ⟨by have := HJ6.out; have := HK2.out; have := HK3.out; have := HJ14.out; omega⟩, ⟨by (try simp only [hl0_3]); (with_reducible repeat (first | apply Kd.R_alloc | apply Kd.R_drewN | apply Kd.R_drew)); exact HO_0.out⟩, ⟨by repeat (first | (with_reducible first | exact HK.out | apply Kept.alloc | apply Kept.drewN | apply Kept.drew) | exact HK.out)⟩, ⟨by repeat (first | (with_reducible first | exact HB.out | apply below_alloc | apply pw_below_drewN | apply below_drew1) | exact HB.out)⟩⟩
          ·rw [if_neg c14] at H
           have c14b0 : decide (x13_3 < t185) = false := decide_eq_false c14
           clear c14
           by_cases c35 : 0 ≤ x11_2
           ·rw [if_pos c35] at H
            have c35b0 : decide (0 ≤ x11_2) = true := decide_eq_true c35
            clear c35
            by_cases c36 : x11_2 < (x0_3.length : Int)
            ·rw [if_pos c36] at H
             have c36b0 : decide (x11_2 < (x0_3.length : Int)) = true := decide_eq_true c36
             clear c36
             obtain ⟨y188, hy188⟩ : ∃ y_ : List (S54), y_ = (x0_3.set (x11_2 : Int).toNat (⟨(⟨(rd_T54 x0_3 x11_2).f0.f0, (rd_T54 x0_3 x11_2).f0.f1, (rd_T54 x0_3 x11_2).f0.f2⟩ : S50), ((rd_T54 l0 a1).f1)⟩ : S54)) := ⟨_, rfl⟩
             replace H : (if 0 ≤ a1 then (if a1 < (x0_3.length : Int) then (some (y188.set (a1 : Int).toNat (⟨(⟨(rd_T54 y188 a1).f0.f0, (rd_T54 y188 a1).f0.f1, (rd_T54 y188 a1).f0.f2⟩ : S50), wrap64 (((rd_T54 l0 a1).f1) + 1)⟩ : S54))) else (none)) else (none)) = some r := by first | (rw [hy188]; with_reducible exact H) | (have H2_ := (Option.bind_some _ _).symm.trans H; rw [hy188]; with_reducible exact H2_) | (have H2_ := (Option.bind_some _ _).symm.trans H; with_reducible exact H2_) | with_reducible exact H | (rw [hy188]; exact H) | exact H
             have Ny188 := Aside0.mk hy188
             clear hy188
             by_cases c38 : 0 ≤ a1
             ·rw [if_pos c38] at H
              have c38b0 : decide (0 ≤ a1) = true := decide_eq_true c38
              clear c38
              by_cases c39 : a1 < (x0_3.length : Int)
              ·rw [if_pos c39] at H
               have c39b0 : decide (a1 < (x0_3.length : Int)) = true := decide_eq_true c39
               clear c39
               obtain ⟨y189, hy189⟩ : ∃ y_ : List (S54), y_ = (y188.set (a1 : Int).toNat (⟨(⟨(rd_T54 y188 a1).f0.f0, (rd_T54 y188 a1).f0.f1, (rd_T54 y188 a1).f0.f2⟩ : S50), wrap64 (((rd_T54 l0 a1).f1) + 1)⟩ : S54)) := ⟨_, rfl⟩
               replace H : (some y189) = some r := by first | (rw [hy189]; with_reducible exact H) | (have H2_ := (Option.bind_some _ _).symm.trans H; rw [hy189]; with_reducible exact H2_) | (have H2_ := (Option.bind_some _ _).symm.trans H; with_reducible exact H2_) | with_reducible exact H | (rw [hy189]; exact H) | exact H
               have Ny189 := Aside0.mk hy189
               clear hy189
               obtain rfl := Option.some.inj H
               have p37 : 0 ≤ (x11_2 : Int) := of_decide_eq_true (by first | (with_reducible assumption) | assumption)
               have q37 : (x11_2 : Int) < ((x0_3.length : Int) : Int) := of_decide_eq_true (by first | (with_reducible assumption) | assumption)
               obtain ⟨go37, co37, eo37, gb37, gl37, cl37, HG37⟩ := Kd.R_form HO_0.out (by omega)
               (first | cases eo37 | (injection eo37 with ea_ en_ ec_; (first | subst ea_ | (injection ea_ with ea_; subst ea_)); subst ec_; clear en_))
               have GB37 := Aside0.mk gb37
               have GG37 := Aside0.mk HG37
               clear gb37 gl37 HG37
               have HMgo37 := Aside0.mk (show (P0_ go37 ∨ w.heap.size ≤ go37) from (HO_0.out.1 _ rfl))
               obtain ⟨ce37, hcl37, hM37, hcc37, hfr37⟩ := Kd.R_elem HO_0.out z54 (x11_2 : Int) p37 q37
               obtain rfl := k54_openM hM37
               have hx37_0 : wr.cell? ⟨go37, (x11_2 : Int).toNat * 4, none⟩ = some (.int .i64 ((rd_T54 x0_3 x11_2).f0.f0)) := hcc37 0 _ rfl
               have hx37_1 : wr.cell? ⟨go37, (x11_2 : Int).toNat * 4 + 1, none⟩ = some (.int .i64 ((rd_T54 x0_3 x11_2).f0.f1)) := hcc37 1 _ rfl
               have hx37_2 : wr.cell? ⟨go37, (x11_2 : Int).toNat * 4 + 2, none⟩ = some (.int .i64 ((rd_T54 x0_3 x11_2).f0.f2)) := hcc37 2 _ rfl
               have hx37_3 : wr.cell? ⟨go37, (x11_2 : Int).toNat * 4 + 3, none⟩ = some (.int .i64 ((rd_T54 x0_3 x11_2).f1)) := hcc37 3 _ rfl
               have hf37_0 : wr.frozen? ⟨go37, (x11_2 : Int).toNat * 4, none⟩ = false := hfr37 0
               have hf37_1 : wr.frozen? ⟨go37, (x11_2 : Int).toNat * 4 + 1, none⟩ = false := hfr37 1
               have hf37_2 : wr.frozen? ⟨go37, (x11_2 : Int).toNat * 4 + 2, none⟩ = false := hfr37 2
               have hf37_3 : wr.frozen? ⟨go37, (x11_2 : Int).toNat * 4 + 3, none⟩ = false := hfr37 3
               clear hcl37 hcc37 hfr37 hM37
               replace p37 := eq_true p37
               replace q37 := eq_true q37
               have HX41 := Aside0.mk (show Kd.R k54 54 wr w0.heap.size (fun k_ => (P0_ k_ ∨ w.heap.size ≤ k_)) (.slice (some ⟨go37, 0, none⟩) x0_3.length co8) x0_3 from (rD HO_0.out))
               obtain ⟨ce41, hcl41, hM41, hcc41, hfr41⟩ := Kd.R_elem HX41.out z54 (x11_2 : Int) (of_decide_eq_true (by first | (with_reducible assumption) | assumption)) (by have h_ : (x11_2 : Int) < ((x0_3.length : Int) : Int) := of_decide_eq_true (by first | (with_reducible assumption) | assumption); first | exact h_ | (have e_ := (Kd.R_reads' HO_0.out).1; omega) | simpa using h_)
               obtain rfl := k54_openM hM41
               have HP41 := Kd.R_seg HX41.out (x11_2 : Int) (of_decide_eq_true (by first | (with_reducible assumption) | assumption)) (by have h_ : (x11_2 : Int) < ((x0_3.length : Int) : Int) := of_decide_eq_true (by first | (with_reducible assumption) | assumption); first | exact h_ | (have e_ := (Kd.R_reads' HO_0.out).1; omega) | simpa using h_) (seg := [.int .i64 ((rd_T54 l0 a1).f1)]) (j := 3) hcl41 hcc41 (show 4 ≤ 4 from by decide) (x' := (⟨(⟨(rd_T54 x0_3 x11_2).f0.f0, (rd_T54 x0_3 x11_2).f0.f1, (rd_T54 x0_3 x11_2).f0.f2⟩ : S50), ((rd_T54 l0 a1).f1)⟩ : S54)) (k54_mkM _ _ _ (⟨(⟨(rd_T54 x0_3 x11_2).f0.f0, (rd_T54 x0_3 x11_2).f0.f1, (rd_T54 x0_3 x11_2).f0.f2⟩ : S50), ((rd_T54 l0 a1).f1)⟩ : S54) ) (fun _ hk => hk)
               have hx41_3 := hcc41 3 _ rfl
               (try simp only [show (k54).sz = 4 from rfl, Nat.mul_one, Nat.add_zero] at hx41_3)
               have hf41_3 := hfr41 3
               (try simp only [show (k54).sz = 4 from rfl, Nat.mul_one, Nat.add_zero] at hf41_3)
               clear hcl41 hcc41 hfr41 hM41
               go_wp2_with (first | ((with_reducible refine gate_store (t := 3) (p := 90) rfl ?_); refine store_event (t := 3) (p := 90) (v := ?vo_w42) (w1 := (wr.setCell ⟨go37, (x11_2 : Int).toNat * 4 + 3, none⟩ (.int .i64 ((rd_T54 l0 a1).f1)))) ?hg ?ho ?hn ?hr ?_; (case ho => rfl); (case hg => rfl); (case hn => rfl); (case hr => first | (go_simp; done) | (go_simp; rfl)); intro w42 hw; have hg : wr.grownBy w42 (some go37) := (by rw [hw]; exact HP41.2); have hp_ : Kd.R k54 54 w42 w0.heap.size (fun k_ => (P0_ k_ ∨ w.heap.size ≤ k_)) (.slice (some ⟨go37, 0, none⟩) x0_3.length co8) y188 := (by rw [hw, Ny188.out]; exact HP41.1); clear HP41; have n0_ := Aside0.mk (hp_); have n1_ := Aside0.mk ((by rw [hw]; exact below_set (HB.out) GB37.out : Below w0.heap.size w0 w42)); have n2_ := Aside0.mk (Kept.of_grown (S := (fun k_ => P0_ k_)) hg (by repeat (first | (with_reducible first | exact HK.out | apply Kept.alloc | apply Kept.drewN | apply Kept.drew) | exact HK.out)) (fun k_ e_ => (HO_0.out.1 k_ e_))); clear HO_0 HB HK; have HO_0 := n0_; have HB := n1_; have HK := n2_; clear n0_ n1_ n2_ hg hw hp_; have p40 : 0 ≤ (a1 : Int) := of_decide_eq_true (by first | (with_reducible assumption) | assumption); have q40 : (a1 : Int) < ((x0_3.length : Int) : Int) := of_decide_eq_true (by first | (with_reducible assumption) | assumption); obtain ⟨ce40, hcl40, hM40, hcc40, hfr40⟩ := Kd.R_elem HO_0.out z54 (a1 : Int) p40 q40; obtain rfl := k54_openM hM40; have hx40_0 : w42.cell? ⟨go37, (a1 : Int).toNat * 4, none⟩ = some (.int .i64 ((rd_T54 y188 a1).f0.f0)) := hcc40 0 _ rfl; have hx40_1 : w42.cell? ⟨go37, (a1 : Int).toNat * 4 + 1, none⟩ = some (.int .i64 ((rd_T54 y188 a1).f0.f1)) := hcc40 1 _ rfl; have hx40_2 : w42.cell? ⟨go37, (a1 : Int).toNat * 4 + 2, none⟩ = some (.int .i64 ((rd_T54 y188 a1).f0.f2)) := hcc40 2 _ rfl; have hx40_3 : w42.cell? ⟨go37, (a1 : Int).toNat * 4 + 3, none⟩ = some (.int .i64 ((rd_T54 y188 a1).f1)) := hcc40 3 _ rfl; have hf40_0 : w42.frozen? ⟨go37, (a1 : Int).toNat * 4, none⟩ = false := hfr40 0; have hf40_1 : w42.frozen? ⟨go37, (a1 : Int).toNat * 4 + 1, none⟩ = false := hfr40 1; have hf40_2 : w42.frozen? ⟨go37, (a1 : Int).toNat * 4 + 2, none⟩ = false := hfr40 2; have hf40_3 : w42.frozen? ⟨go37, (a1 : Int).toNat * 4 + 3, none⟩ = false := hfr40 3; clear hcl40 hcc40 hfr40 hM40; replace p40 := eq_true p40; replace q40 := eq_true q40; have HX43 := Aside0.mk (show Kd.R k54 54 w42 w0.heap.size (fun k_ => (P0_ k_ ∨ w.heap.size ≤ k_)) (.slice (some ⟨go37, 0, none⟩) x0_3.length co8) y188 from (rD HO_0.out)); obtain ⟨ce43, hcl43, hM43, hcc43, hfr43⟩ := Kd.R_elem HX43.out z54 (a1 : Int) (of_decide_eq_true (by first | (with_reducible assumption) | assumption)) (by have h_ : (a1 : Int) < ((x0_3.length : Int) : Int) := of_decide_eq_true (by first | (with_reducible assumption) | assumption); first | exact h_ | (have e_ := (Kd.R_reads' HO_0.out).1; omega) | simpa using h_); obtain rfl := k54_openM hM43; have HP43 := Kd.R_seg HX43.out (a1 : Int) (of_decide_eq_true (by first | (with_reducible assumption) | assumption)) (by have h_ : (a1 : Int) < ((x0_3.length : Int) : Int) := of_decide_eq_true (by first | (with_reducible assumption) | assumption); first | exact h_ | (have e_ := (Kd.R_reads' HO_0.out).1; omega) | simpa using h_) (seg := [.int .i64 (wrap64 (((rd_T54 l0 a1).f1) + 1))]) (j := 3) hcl43 hcc43 (show 4 ≤ 4 from by decide) (x' := (⟨(⟨(rd_T54 y188 a1).f0.f0, (rd_T54 y188 a1).f0.f1, (rd_T54 y188 a1).f0.f2⟩ : S50), wrap64 (((rd_T54 l0 a1).f1) + 1)⟩ : S54)) (k54_mkM _ _ _ (⟨(⟨(rd_T54 y188 a1).f0.f0, (rd_T54 y188 a1).f0.f1, (rd_T54 y188 a1).f0.f2⟩ : S50), wrap64 (((rd_T54 l0 a1).f1) + 1)⟩ : S54) ) (fun _ hk => hk); have hx43_3 := hcc43 3 _ rfl; (try simp only [show (k54).sz = 4 from rfl, Nat.mul_one, Nat.add_zero] at hx43_3); have hf43_3 := hfr43 3; (try simp only [show (k54).sz = 4 from rfl, Nat.mul_one, Nat.add_zero] at hf43_3); clear hcl43 hcc43 hfr43 hM43) | ((with_reducible refine gate_store (t := 3) (p := 96) rfl ?_); refine store_event (t := 3) (p := 96) (v := ?vo_w44) (w1 := (w42.setCell ⟨go37, (a1 : Int).toNat * 4 + 3, none⟩ (.int .i64 (wrap64 (((rd_T54 l0 a1).f1) + 1))))) ?hg ?ho ?hn ?hr ?_; (case ho => rfl); (case hg => rfl); (case hn => rfl); (case hr => first | (go_simp; done) | (go_simp; rfl)); intro w44 hw; have hg : w42.grownBy w44 (some go37) := (by rw [hw]; exact HP43.2); have hp_ : Kd.R k54 54 w44 w0.heap.size (fun k_ => (P0_ k_ ∨ w.heap.size ≤ k_)) (.slice (some ⟨go37, 0, none⟩) x0_3.length co8) y189 := (by rw [hw, Ny189.out]; exact HP43.1); clear HP43; have n0_ := Aside0.mk (hp_); have n1_ := Aside0.mk ((by rw [hw]; exact below_set (HB.out) GB37.out : Below w0.heap.size w0 w44)); have n2_ := Aside0.mk (Kept.of_grown (S := (fun k_ => P0_ k_)) hg (by repeat (first | (with_reducible first | exact HK.out | apply Kept.alloc | apply Kept.drewN | apply Kept.drew) | exact HK.out)) (fun k_ e_ => (HO_0.out.1 k_ e_))); clear HO_0 HB HK; have HO_0 := n0_; have HB := n1_; have HK := n2_; clear n0_ n1_ n2_ hg hw hp_))
               first | go_end0 | ((try simp only [Exit.inBlock, Exit.then]); refine bodyPost_ret (results_none rfl _ _ _) rfl ?_)
               exact ⟨by first | rfl | (simp [errW_none, errW_some] <;> rfl) | (simp [*, errW_none, errW_some] <;> rfl), (by first | exact (rD HO_0.out) | (simp only [hl0_3]; exact (rD HO_0.out))), by repeat (first | (with_reducible first | exact HB.out | apply below_alloc | apply pw_below_drewN | apply below_drew1) | exact HB.out), by repeat (first | (with_reducible first | exact HK.out | apply Kept.alloc | apply Kept.drewN | apply Kept.drew) | exact HK.out)⟩
              ·rw [if_neg c39] at H
               exact absurd H (by simp)
             ·rw [if_neg c38] at H
              exact absurd H (by simp)
            ·rw [if_neg c36] at H
             exact absurd H (by simp)
           ·rw [if_neg c35] at H
            exact absurd H (by simp)
  ·rw [if_neg c6] at H
   exact absurd H (by simp)
 ·rw [if_neg c5] at H
  exact absurd H (by simp)

end Go.Proofs.YtciabhncmdpeeaaDoor.QFnExactTreeDelete
