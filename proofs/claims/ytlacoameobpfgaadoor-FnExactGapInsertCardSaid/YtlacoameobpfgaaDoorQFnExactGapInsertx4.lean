/- What the law FnExactGapInsert reaches: each function as a plain function, and that the machine's call does it (written by a program). The condition, where there is one: errors.errorType reads as laid. -/
import Derived.Test.YtlacoameobpfgaaDoorQFnExactGapInsertx0
import Derived.Test.YtlacoameobpfgaaDoorQFnExactGapInsertx1
import Derived.Test.YtlacoameobpfgaaDoorQFnExactGapInsertx3
import Derived.Test.YtlacoameobpfgaaDoorSq
namespace Go.Proofs.YtlacoameobpfgaaDoor.QFnExactGapInsert
open Go.Proofs.YtlacoameobpfgaaDoor.Er Go.Proofs.YtlacoameobpfgaaDoor.Sq
open Go.RowKit Go.Proofs.YtlacoameobpfgaaDoorW.PrintWords Go.Proofs.YtlacoameobpfgaaDoorW.PrintLast Go.Proofs.YtlacoameobpfgaaDoorW.PrintMore
attribute [local go_sem] max2_int min2_int max_two min_two max_three min_three max_four min_four   -- for this text's walks alone
set_option linter.unusedVariables false
set_option linter.unusedSimpArgs false

/-! ### laws_FnExactGapInsert: function 5 -/
mutual
def laws_FnExactGapInsert.j0 : Nat → Int → List Int → Int → List Int → Int → Bool → List Int → Int → Int → List Int → Int → Int → List Int → Int → Int → List Int → Int → Int → Option (Bool)
 | 0, _, _, _, _, _, _, _, _, _, _, _, _, _, _, _, _, _, _ => none
 | k + 1, x1, x2, x9, x11, x13, x55, x190000, x190001, x190002, x206000, x206001, x206002, x212000, x212001, x212002, x222000, x222001, x222002 => if x55 = true then (some false) else ((laws_toGap.f k x190000 x190001 x190002).bind fun bt223 => ((laws_eqGap.f k x212000 x212001 x212002 bt223.1 bt223.2.1 bt223.2.2).bind fun t228 => (if t228 = true then ((laws_toInt32S.f k x2).bind fun t229 => ((laws_eqInt32S.f k x11 t229).bind fun t232 => (if t232 = true then ((laws_markGap.f k x212000 x212001 x212002 1).bind fun bt233 => ((laws_markInt32S.f k x11 bt233.1).bind fun bt235 => (if bt235.1 < 0 then (laws_FnExactGapInsert.j1 k x1 x2 x9 true x190000 x190001 x190002 x206000 x206001 x206002 x222000 x222001 x222002) else ((laws_eqGap.f k x222000 x222001 x222002 x206000 x206001 x206002).bind fun t237 => (if t237 = true then (laws_FnExactGapInsert.j1 k x1 x2 x9 (x13 != x9) x190000 x190001 x190002 x206000 x206001 x206002 x222000 x222001 x222002) else (laws_FnExactGapInsert.j1 k x1 x2 x9 true x190000 x190001 x190002 x206000 x206001 x206002 x222000 x222001 x222002)))))) else (some false)))) else (some false))))
def laws_FnExactGapInsert.j1 : Nat → Int → List Int → Int → Bool → List Int → Int → Int → List Int → Int → Int → List Int → Int → Int → Option (Bool)
 | 0, _, _, _, _, _, _, _, _, _, _, _, _, _ => none
 | k + 1, x1, x2, x9, x84, x190000, x190001, x190002, x206000, x206001, x206002, x222000, x222001, x222002 => if x84 = true then (some false) else ((laws_markGap.f k x222000 x222001 x222002 1).bind fun bt238 => ((laws_heldGap.f k bt238.2 x222001 x222002 1).bind fun t240 => (if t240 < 0 then (some false) else (if t240 = bt238.1 then ((laws_toGap.f k x190000 x190001 x190002).bind fun bt241 => ((laws_toInt32S.f k x2).bind fun t246 => ((impl_GapInsert.f bt241.1 bt241.2.1 bt241.2.2 x1 t246).bind fun bt249 => ((laws_eqGap.f k bt249.1 bt249.2.1 bt249.2.2.1 x206000 x206001 x206002).bind fun t256 => (if t256 = true then (laws_FnExactGapInsert.j2 k bt238.1 (bt249.2.2.2 != x9) bt238.2 x222001 x222002) else (laws_FnExactGapInsert.j2 k bt238.1 true bt238.2 x222001 x222002)))))) else (some false)))))
def laws_FnExactGapInsert.j2 : Nat → Int → Bool → List Int → Int → Int → Option (Bool)
 | 0, _, _, _, _, _ => none
 | k + 1, x15, x113, x222000, x222001, x222002 => if x113 = true then (some false) else ((laws_heldGap.f k x222000 x222001 x222002 1).bind fun t257 => (if t257 < 0 then (some false) else (if t257 = x15 then (some true) else (some false))))
end
def laws_FnExactGapInsert.f (k : Nat) (l0_0 : List Int) (a0_1 : Int) (a0_2 : Int) (a1 : Int) (l2 : List Int) : Option (Bool) := if (l2.length : Int) > 1048576 then (some true) else ((laws_szGap.f l0_0 a0_1 a0_2 1048576).bind fun t190 => (if t190 < 0 then (some true) else ((laws_toGap.f k l0_0 a0_1 a0_2).bind fun bt191 => ((laws_toInt32S.f k l2).bind fun t196 => ((spec_GapInsert.f k bt191.1 bt191.2.1 bt191.2.2 a1 t196).bind fun bt199 => ((laws_toGap.f k l0_0 a0_1 a0_2).bind fun bt206 => ((laws_toInt32S.f k l2).bind fun t212 => ((impl_GapInsert.f bt206.1 bt206.2.1 bt206.2.2 a1 t212).bind fun bt215 => ((laws_eqGap.f k bt215.1 bt215.2.1 bt215.2.2.1 bt199.1 bt199.2.1 bt199.2.2.1).bind fun t222 => (if t222 = true then (laws_FnExactGapInsert.j0 k a1 l2 bt199.2.2.2 t212 bt215.2.2.2 (bt215.2.2.2 != bt199.2.2.2) l0_0 a0_1 a0_2 bt199.1 bt199.2.1 bt199.2.2.1 bt206.1 bt206.2.1 bt206.2.2 bt215.1 bt215.2.1 bt215.2.2.1) else (laws_FnExactGapInsert.j0 k a1 l2 bt199.2.2.2 t212 bt215.2.2.2 true l0_0 a0_1 a0_2 bt199.1 bt199.2.1 bt199.2.2.1 bt206.1 bt206.2.1 bt206.2.2 bt215.1 bt215.2.1 bt215.2.2.1)))))))))))
theorem laws_FnExactGapInsert.mono_l : ∀ k, (∀ y0 y1 y2 y3 y4 y5 y6 y7 y8 y9 y10 y11 y12 y13 y14 y15 y16 y17, LeO (laws_FnExactGapInsert.j0 k y0 y1 y2 y3 y4 y5 y6 y7 y8 y9 y10 y11 y12 y13 y14 y15 y16 y17) (laws_FnExactGapInsert.j0 (k + 1) y0 y1 y2 y3 y4 y5 y6 y7 y8 y9 y10 y11 y12 y13 y14 y15 y16 y17)) ∧ (∀ y0 y1 y2 y3 y4 y5 y6 y7 y8 y9 y10 y11 y12, LeO (laws_FnExactGapInsert.j1 k y0 y1 y2 y3 y4 y5 y6 y7 y8 y9 y10 y11 y12) (laws_FnExactGapInsert.j1 (k + 1) y0 y1 y2 y3 y4 y5 y6 y7 y8 y9 y10 y11 y12)) ∧ (∀ y0 y1 y2 y3 y4, LeO (laws_FnExactGapInsert.j2 k y0 y1 y2 y3 y4) (laws_FnExactGapInsert.j2 (k + 1) y0 y1 y2 y3 y4))
 | 0 => ⟨fun _ _ _ _ _ _ _ _ _ _ _ _ _ _ _ _ _ _ r h => by simp [laws_FnExactGapInsert.j0] at h, fun _ _ _ _ _ _ _ _ _ _ _ _ _ r h => by simp [laws_FnExactGapInsert.j1] at h, fun _ _ _ _ _ r h => by simp [laws_FnExactGapInsert.j2] at h⟩
 | k + 1 => by
  obtain ⟨ih0, ih1, ih2⟩ := laws_FnExactGapInsert.mono_l k
  refine ⟨?_, ?_, ?_⟩
  ·intro y0 y1 y2 y3 y4 y5 y6 y7 y8 y9 y10 y11 y12 y13 y14 y15 y16 y17
   unfold laws_FnExactGapInsert.j0
   repeat' first
   | (with_reducible exact ih0 _ _ _ _ _ _ _ _ _ _ _ _ _ _ _ _ _ _)
   | (with_reducible exact ih1 _ _ _ _ _ _ _ _ _ _ _ _ _)
   | (with_reducible exact ih2 _ _ _ _ _)
   | (with_reducible exact laws_eqGap.mono _ _ _ _ _ _ _)
   | (with_reducible exact laws_eqInt32S.mono _ _ _)
   | (with_reducible exact laws_heldGap.mono _ _ _ _ _)
   | (with_reducible exact laws_markGap.mono _ _ _ _ _)
   | (with_reducible exact laws_markInt32S.mono _ _ _)
   | (with_reducible exact laws_toGap.mono _ _ _ _)
   | (with_reducible exact laws_toInt32S.mono _ _)
   | (with_reducible exact spec_GapInsert.mono _ _ _ _ _ _)
   | (with_reducible exact LeO.refl _)
   | (with_reducible exact LeO.none _)
   | (with_reducible refine LeO.ite ?_ ?_)
   | (with_reducible refine LeO.bind ?_ (fun _ => ?_))
   | exact ih0 _ _ _ _ _ _ _ _ _ _ _ _ _ _ _ _ _ _
   | exact ih1 _ _ _ _ _ _ _ _ _ _ _ _ _
   | exact ih2 _ _ _ _ _
   | exact laws_eqGap.mono _ _ _ _ _ _ _
   | exact laws_eqInt32S.mono _ _ _
   | exact laws_heldGap.mono _ _ _ _ _
   | exact laws_markGap.mono _ _ _ _ _
   | exact laws_markInt32S.mono _ _ _
   | exact laws_toGap.mono _ _ _ _
   | exact laws_toInt32S.mono _ _
   | exact spec_GapInsert.mono _ _ _ _ _ _
   | exact LeO.none _
   | refine LeO.ite ?_ ?_
   | refine LeO.bind ?_ (fun _ => ?_)
  ·intro y0 y1 y2 y3 y4 y5 y6 y7 y8 y9 y10 y11 y12
   unfold laws_FnExactGapInsert.j1
   repeat' first
   | (with_reducible exact ih0 _ _ _ _ _ _ _ _ _ _ _ _ _ _ _ _ _ _)
   | (with_reducible exact ih1 _ _ _ _ _ _ _ _ _ _ _ _ _)
   | (with_reducible exact ih2 _ _ _ _ _)
   | (with_reducible exact laws_eqGap.mono _ _ _ _ _ _ _)
   | (with_reducible exact laws_eqInt32S.mono _ _ _)
   | (with_reducible exact laws_heldGap.mono _ _ _ _ _)
   | (with_reducible exact laws_markGap.mono _ _ _ _ _)
   | (with_reducible exact laws_markInt32S.mono _ _ _)
   | (with_reducible exact laws_toGap.mono _ _ _ _)
   | (with_reducible exact laws_toInt32S.mono _ _)
   | (with_reducible exact spec_GapInsert.mono _ _ _ _ _ _)
   | (with_reducible exact LeO.refl _)
   | (with_reducible exact LeO.none _)
   | (with_reducible refine LeO.ite ?_ ?_)
   | (with_reducible refine LeO.bind ?_ (fun _ => ?_))
   | exact ih0 _ _ _ _ _ _ _ _ _ _ _ _ _ _ _ _ _ _
   | exact ih1 _ _ _ _ _ _ _ _ _ _ _ _ _
   | exact ih2 _ _ _ _ _
   | exact laws_eqGap.mono _ _ _ _ _ _ _
   | exact laws_eqInt32S.mono _ _ _
   | exact laws_heldGap.mono _ _ _ _ _
   | exact laws_markGap.mono _ _ _ _ _
   | exact laws_markInt32S.mono _ _ _
   | exact laws_toGap.mono _ _ _ _
   | exact laws_toInt32S.mono _ _
   | exact spec_GapInsert.mono _ _ _ _ _ _
   | exact LeO.none _
   | refine LeO.ite ?_ ?_
   | refine LeO.bind ?_ (fun _ => ?_)
  ·intro y0 y1 y2 y3 y4
   unfold laws_FnExactGapInsert.j2
   repeat' first
   | (with_reducible exact ih0 _ _ _ _ _ _ _ _ _ _ _ _ _ _ _ _ _ _)
   | (with_reducible exact ih1 _ _ _ _ _ _ _ _ _ _ _ _ _)
   | (with_reducible exact ih2 _ _ _ _ _)
   | (with_reducible exact laws_eqGap.mono _ _ _ _ _ _ _)
   | (with_reducible exact laws_eqInt32S.mono _ _ _)
   | (with_reducible exact laws_heldGap.mono _ _ _ _ _)
   | (with_reducible exact laws_markGap.mono _ _ _ _ _)
   | (with_reducible exact laws_markInt32S.mono _ _ _)
   | (with_reducible exact laws_toGap.mono _ _ _ _)
   | (with_reducible exact laws_toInt32S.mono _ _)
   | (with_reducible exact spec_GapInsert.mono _ _ _ _ _ _)
   | (with_reducible exact LeO.refl _)
   | (with_reducible exact LeO.none _)
   | (with_reducible refine LeO.ite ?_ ?_)
   | (with_reducible refine LeO.bind ?_ (fun _ => ?_))
   | exact ih0 _ _ _ _ _ _ _ _ _ _ _ _ _ _ _ _ _ _
   | exact ih1 _ _ _ _ _ _ _ _ _ _ _ _ _
   | exact ih2 _ _ _ _ _
   | exact laws_eqGap.mono _ _ _ _ _ _ _
   | exact laws_eqInt32S.mono _ _ _
   | exact laws_heldGap.mono _ _ _ _ _
   | exact laws_markGap.mono _ _ _ _ _
   | exact laws_markInt32S.mono _ _ _
   | exact laws_toGap.mono _ _ _ _
   | exact laws_toInt32S.mono _ _
   | exact spec_GapInsert.mono _ _ _ _ _ _
   | exact LeO.none _
   | refine LeO.ite ?_ ?_
   | refine LeO.bind ?_ (fun _ => ?_)
theorem laws_FnExactGapInsert.mono : ∀ a0 a1 a2 a3 a4 k, LeO (laws_FnExactGapInsert.f k a0 a1 a2 a3 a4) (laws_FnExactGapInsert.f (k + 1) a0 a1 a2 a3 a4) := by
 intro a0 a1 a2 a3 a4 k
 obtain ⟨ih0, ih1, ih2⟩ := laws_FnExactGapInsert.mono_l k
 unfold laws_FnExactGapInsert.f
 repeat' first
   | (with_reducible exact ih0 _ _ _ _ _ _ _ _ _ _ _ _ _ _ _ _ _ _)
   | (with_reducible exact ih1 _ _ _ _ _ _ _ _ _ _ _ _ _)
   | (with_reducible exact ih2 _ _ _ _ _)
   | (with_reducible exact laws_eqGap.mono _ _ _ _ _ _ _)
   | (with_reducible exact laws_eqInt32S.mono _ _ _)
   | (with_reducible exact laws_heldGap.mono _ _ _ _ _)
   | (with_reducible exact laws_markGap.mono _ _ _ _ _)
   | (with_reducible exact laws_markInt32S.mono _ _ _)
   | (with_reducible exact laws_toGap.mono _ _ _ _)
   | (with_reducible exact laws_toInt32S.mono _ _)
   | (with_reducible exact spec_GapInsert.mono _ _ _ _ _ _)
   | (with_reducible exact LeO.refl _)
   | (with_reducible exact LeO.none _)
   | (with_reducible refine LeO.ite ?_ ?_)
   | (with_reducible refine LeO.bind ?_ (fun _ => ?_))
   | exact ih0 _ _ _ _ _ _ _ _ _ _ _ _ _ _ _ _ _ _
   | exact ih1 _ _ _ _ _ _ _ _ _ _ _ _ _
   | exact ih2 _ _ _ _ _
   | exact laws_eqGap.mono _ _ _ _ _ _ _
   | exact laws_eqInt32S.mono _ _ _
   | exact laws_heldGap.mono _ _ _ _ _
   | exact laws_markGap.mono _ _ _ _ _
   | exact laws_markInt32S.mono _ _ _
   | exact laws_toGap.mono _ _ _ _
   | exact laws_toInt32S.mono _ _
   | exact spec_GapInsert.mono _ _ _ _ _ _
   | exact LeO.none _
   | refine LeO.ite ?_ ?_
   | refine LeO.bind ?_ (fun _ => ?_)
set_option maxHeartbeats 8000000 in
set_option maxRecDepth 100000 in
theorem laws_FnExactGapInsert.calls (k : Nat) (A0_0 : Option Addr) (c0_0 : Nat) (l0_0 : List Int) (a0_1 : Int) (a0_2 : Int) (a1 : Int) (A2 : Option Addr) (c2 : Nat) (l2 : List Int) (r : Bool) (w : World) (hr0_0 : Kd.C (Kd.int .i32) w A0_0 l0_0.length l0_0) (hc0_0 : l0_0.length ≤ c0_0) (hr2 : Kd.C (Kd.int .i32) w A2 l2.length l2) (hc2 : l2.length ≤ c2)  (hgG_ : HG w) (h : laws_FnExactGapInsert.f k l0_0 a0_1 a0_2 a1 l2 = some r) :
  Calls Tryd.prog 5 #[.agg #[.slice A0_0 l0_0.length c0_0, .int .i64 a0_1, .int .i64 a0_2], .int .i64 a1, .slice A2 l2.length c2] w fun e w' => e = .returned (.bool r) ∧ Below w.heap.size w w' := by
 have hu24 := Tryd.underlying24
 have hu28 := Tryd.underlying28
 have HR0_0 := Aside0.mk hr0_0
 have HC0_0 := Aside0.mk hc0_0
 clear hr0_0 hc0_0
 have HR2 := Aside0.mk hr2
 have HC2 := Aside0.mk hc2
 clear hr2 hc2
 have HB := Aside0.mk (Below.refl w.heap.size w)
 have H : (if (l2.length : Int) > 1048576 then (some true) else ((laws_szGap.f l0_0 a0_1 a0_2 1048576).bind fun t190 => (if t190 < 0 then (some true) else ((laws_toGap.f k l0_0 a0_1 a0_2).bind fun bt191 => ((laws_toInt32S.f k l2).bind fun t196 => ((spec_GapInsert.f k bt191.1 bt191.2.1 bt191.2.2 a1 t196).bind fun bt199 => ((laws_toGap.f k l0_0 a0_1 a0_2).bind fun bt206 => ((laws_toInt32S.f k l2).bind fun t212 => ((impl_GapInsert.f bt206.1 bt206.2.1 bt206.2.2 a1 t212).bind fun bt215 => ((laws_eqGap.f k bt215.1 bt215.2.1 bt215.2.2.1 bt199.1 bt199.2.1 bt199.2.2.1).bind fun t222 => (if t222 = true then (laws_FnExactGapInsert.j0 k a1 l2 bt199.2.2.2 t212 bt215.2.2.2 (bt215.2.2.2 != bt199.2.2.2) l0_0 a0_1 a0_2 bt199.1 bt199.2.1 bt199.2.2.1 bt206.1 bt206.2.1 bt206.2.2 bt215.1 bt215.2.1 bt215.2.2.1) else (laws_FnExactGapInsert.j0 k a1 l2 bt199.2.2.2 t212 bt215.2.2.2 true l0_0 a0_1 a0_2 bt199.1 bt199.2.1 bt199.2.2.1 bt206.1 bt206.2.1 bt206.2.2 bt215.1 bt215.2.1 bt215.2.2.1)))))))))))) = some r := h
 clear h
 by_cases c4 : (l2.length : Int) > 1048576
 ·rw [if_pos c4] at H
  have c4b0 : decide (1048576 < (l2.length : Int)) = true := decide_eq_true c4
  have c4b1 : decide (1048576 < l2.length) = true := decide_eq_true (by omega)
  clear c4
  obtain rfl := Option.some.inj H
  go_enter Tryd.func5, Tryd.ntmps5
  go_wp2_with (first | ((with_reducible refine gate_dst (N := 3) rfl ?_); refine box_event ?hg (N := 3) ?hd (cs := #[.slice A0_0 l0_0.length c0_0, .int .i64 a0_1, .int .i64 a0_2]) (t := 24) ?hr ?_; (case hd => rfl); (case hg => rfl); (case hr => first | (go_simp; done) | (go_simp; rfl)); intro gb189 hg w5 hbox hb; have n0_ := Aside0.mk (below_step (hbD HB) hb); have n1_ := Aside0.mk (hbox); have n2_ := Aside0.mk ((by rw [hg]; exact (below_size (hbD HB)) : w.heap.size ≤ gb189)); have n3_ := Aside0.mk ((by rw [hg]; exact (below_size (hbD HB)) : w.heap.size ≤ gb189)); clear HB; have HB := n0_; have BK189 := n1_; have GW189 := n2_; have GE189 := n3_; clear n0_ n1_ n2_ n3_; clear hb hbox hg))
  go_ret
  exact ⟨by first | rfl | (simp [errW_none, errW_some] <;> rfl) | (simp [*, errW_none, errW_some] <;> rfl), by repeat (first | (with_reducible first | exact HB.out | apply below_alloc | apply pw_below_drewN | apply below_drew1 | refine below_set ?_ GE189.out) | exact HB.out)⟩
 ·rw [if_neg c4] at H
  have c4b0 : decide (1048576 < (l2.length : Int)) = false := decide_eq_false c4
  have c4b1 : decide (1048576 < l2.length) = false := decide_eq_false (by omega)
  clear c4
  replace H := Option.bind_eq_some_iff.mp H
  obtain ⟨t190, A60, H⟩ := H
  replace H : (if t190 < 0 then (some true) else ((laws_toGap.f k l0_0 a0_1 a0_2).bind fun bt191 => ((laws_toInt32S.f k l2).bind fun t196 => ((spec_GapInsert.f k bt191.1 bt191.2.1 bt191.2.2 a1 t196).bind fun bt199 => ((laws_toGap.f k l0_0 a0_1 a0_2).bind fun bt206 => ((laws_toInt32S.f k l2).bind fun t212 => ((impl_GapInsert.f bt206.1 bt206.2.1 bt206.2.2 a1 t212).bind fun bt215 => ((laws_eqGap.f k bt215.1 bt215.2.1 bt215.2.2.1 bt199.1 bt199.2.1 bt199.2.2.1).bind fun t222 => (if t222 = true then (laws_FnExactGapInsert.j0 k a1 l2 bt199.2.2.2 t212 bt215.2.2.2 (bt215.2.2.2 != bt199.2.2.2) l0_0 a0_1 a0_2 bt199.1 bt199.2.1 bt199.2.2.1 bt206.1 bt206.2.1 bt206.2.2 bt215.1 bt215.2.1 bt215.2.2.1) else (laws_FnExactGapInsert.j0 k a1 l2 bt199.2.2.2 t212 bt215.2.2.2 true l0_0 a0_1 a0_2 bt199.1 bt199.2.1 bt199.2.2.1 bt206.1 bt206.2.1 bt206.2.2 bt215.1 bt215.2.1 bt215.2.2.1)))))))))) = some r := H
  have A6 := Aside0.mk A60
  clear A60
  by_cases c7 : t190 < 0
  ·rw [if_pos c7] at H
   have c7b0 : decide (t190 < 0) = true := decide_eq_true c7
   clear c7
   obtain rfl := Option.some.inj H
   go_enter Tryd.func5, Tryd.ntmps5
   go_wp2_with (first | ((with_reducible refine gate_dst (N := 3) rfl ?_); refine box_event ?hg (N := 3) ?hd (cs := #[.slice A0_0 l0_0.length c0_0, .int .i64 a0_1, .int .i64 a0_2]) (t := 24) ?hr ?_; (case hd => rfl); (case hg => rfl); (case hr => first | (go_simp; done) | (go_simp; rfl)); intro gb189 hg w8 hbox hb; have n0_ := Aside0.mk (below_step (hbD HB) hb); have n1_ := Aside0.mk (hbox); have n2_ := Aside0.mk ((by rw [hg]; exact (below_size (hbD HB)) : w.heap.size ≤ gb189)); have n3_ := Aside0.mk ((by rw [hg]; exact (below_size (hbD HB)) : w.heap.size ≤ gb189)); clear HB; have HB := n0_; have BK189 := n1_; have GW189 := n2_; have GE189 := n3_; clear n0_ n1_ n2_ n3_; clear hb hbox hg; have hcz9_0 : w8.cell? ⟨gb189, 0, none⟩ = some (.slice A0_0 l0_0.length c0_0) := (blk_cell BK189.out 0).trans rfl; have hcz9_1 : w8.cell? ⟨gb189, 1, none⟩ = some (.int .i64 a0_1) := (blk_cell BK189.out 1).trans rfl; have hcz9_2 : w8.cell? ⟨gb189, 2, none⟩ = some (.int .i64 a0_2) := (blk_cell BK189.out 2).trans rfl; have hfz9_0 := blk_frozen BK189.out 0; have hfz9_1 := blk_frozen BK189.out 1; have hfz9_2 := blk_frozen BK189.out 2) | ((with_reducible refine gate_callee (f := 10) rfl ?_); refine goesL_ (some 24) rfl rfl Tryd.func10 (by kernel_rfl) rfl #[.agg #[.slice A0_0 l0_0.length c0_0, .int .i64 a0_1, .int .i64 a0_2], .int .i64 1048576] rfl (by (try simp only [List.map_toArray, List.map_cons, List.map_nil]); first | done | rfl | (simp only [List.length_drop, List.length_take]; rfl)) ?_; (with_reducible refine (laws_szGap.calls _ _ l0_0 a0_1 a0_2 1048576 t190 _ ?side1 ?side2 A6.out).mono ?_); (case side1 => repeat (first | exact (Kd.C_below HR0_0.out HB.out) | (with_reducible refine Kd.C_alloc ?_ _) | (with_reducible refine Kd.C_drewN ?_ _) | (with_reducible refine Kd.C_drew ?_))); (case side2 => exact HC0_0.out); rintro e w10 ⟨rfl, hb⟩; refine ⟨_, rfl, ?_⟩; have n0_ := Aside0.mk (blk_below (bkD BK189) hb); have n1_ := Aside0.mk (below_step (hbD HB) hb); clear BK189; clear HB; have BK189 := n0_; have HB := n1_; clear n0_ n1_; (try clear hb); (try clear hb2); (try clear hk); (try clear hi)))
   go_ret
   exact ⟨by first | rfl | (simp [errW_none, errW_some] <;> rfl) | (simp [*, errW_none, errW_some] <;> rfl), by repeat (first | (with_reducible first | exact HB.out | apply below_alloc | apply pw_below_drewN | apply below_drew1 | refine below_set ?_ GE189.out) | exact HB.out)⟩
  ·rw [if_neg c7] at H
   have c7b0 : decide (t190 < 0) = false := decide_eq_false c7
   clear c7
   replace H := Option.bind_eq_some_iff.mp H
   obtain ⟨⟨t191, t194, t195⟩, A110, H⟩ := H
   replace H : ((laws_toInt32S.f k l2).bind fun t196 => ((spec_GapInsert.f k t191 t194 t195 a1 t196).bind fun bt199 => ((laws_toGap.f k l0_0 a0_1 a0_2).bind fun bt206 => ((laws_toInt32S.f k l2).bind fun t212 => ((impl_GapInsert.f bt206.1 bt206.2.1 bt206.2.2 a1 t212).bind fun bt215 => ((laws_eqGap.f k bt215.1 bt215.2.1 bt215.2.2.1 bt199.1 bt199.2.1 bt199.2.2.1).bind fun t222 => (if t222 = true then (laws_FnExactGapInsert.j0 k a1 l2 bt199.2.2.2 t212 bt215.2.2.2 (bt215.2.2.2 != bt199.2.2.2) l0_0 a0_1 a0_2 bt199.1 bt199.2.1 bt199.2.2.1 bt206.1 bt206.2.1 bt206.2.2 bt215.1 bt215.2.1 bt215.2.2.1) else (laws_FnExactGapInsert.j0 k a1 l2 bt199.2.2.2 t212 bt215.2.2.2 true l0_0 a0_1 a0_2 bt199.1 bt199.2.1 bt199.2.2.1 bt206.1 bt206.2.1 bt206.2.2 bt215.1 bt215.2.1 bt215.2.2.1)))))))) = some r := H
   have A11 := Aside0.mk A110
   clear A110
   replace H := Option.bind_eq_some_iff.mp H
   obtain ⟨t196, A120, H⟩ := H
   replace H : ((spec_GapInsert.f k t191 t194 t195 a1 t196).bind fun bt199 => ((laws_toGap.f k l0_0 a0_1 a0_2).bind fun bt206 => ((laws_toInt32S.f k l2).bind fun t212 => ((impl_GapInsert.f bt206.1 bt206.2.1 bt206.2.2 a1 t212).bind fun bt215 => ((laws_eqGap.f k bt215.1 bt215.2.1 bt215.2.2.1 bt199.1 bt199.2.1 bt199.2.2.1).bind fun t222 => (if t222 = true then (laws_FnExactGapInsert.j0 k a1 l2 bt199.2.2.2 t212 bt215.2.2.2 (bt215.2.2.2 != bt199.2.2.2) l0_0 a0_1 a0_2 bt199.1 bt199.2.1 bt199.2.2.1 bt206.1 bt206.2.1 bt206.2.2 bt215.1 bt215.2.1 bt215.2.2.1) else (laws_FnExactGapInsert.j0 k a1 l2 bt199.2.2.2 t212 bt215.2.2.2 true l0_0 a0_1 a0_2 bt199.1 bt199.2.1 bt199.2.2.1 bt206.1 bt206.2.1 bt206.2.2 bt215.1 bt215.2.1 bt215.2.2.1))))))) = some r := H
   have A12 := Aside0.mk A120
   clear A120
   replace H := Option.bind_eq_some_iff.mp H
   obtain ⟨⟨t199, t202, t203, t204⟩, A130, H⟩ := H
   replace H : ((laws_toGap.f k l0_0 a0_1 a0_2).bind fun bt206 => ((laws_toInt32S.f k l2).bind fun t212 => ((impl_GapInsert.f bt206.1 bt206.2.1 bt206.2.2 a1 t212).bind fun bt215 => ((laws_eqGap.f k bt215.1 bt215.2.1 bt215.2.2.1 t199 t202 t203).bind fun t222 => (if t222 = true then (laws_FnExactGapInsert.j0 k a1 l2 t204 t212 bt215.2.2.2 (bt215.2.2.2 != t204) l0_0 a0_1 a0_2 t199 t202 t203 bt206.1 bt206.2.1 bt206.2.2 bt215.1 bt215.2.1 bt215.2.2.1) else (laws_FnExactGapInsert.j0 k a1 l2 t204 t212 bt215.2.2.2 true l0_0 a0_1 a0_2 t199 t202 t203 bt206.1 bt206.2.1 bt206.2.2 bt215.1 bt215.2.1 bt215.2.2.1)))))) = some r := H
   have A13 := Aside0.mk A130
   clear A130
   replace H := Option.bind_eq_some_iff.mp H
   obtain ⟨⟨t206, t209, t210⟩, A140, H⟩ := H
   replace H : ((laws_toInt32S.f k l2).bind fun t212 => ((impl_GapInsert.f t206 t209 t210 a1 t212).bind fun bt215 => ((laws_eqGap.f k bt215.1 bt215.2.1 bt215.2.2.1 t199 t202 t203).bind fun t222 => (if t222 = true then (laws_FnExactGapInsert.j0 k a1 l2 t204 t212 bt215.2.2.2 (bt215.2.2.2 != t204) l0_0 a0_1 a0_2 t199 t202 t203 t206 t209 t210 bt215.1 bt215.2.1 bt215.2.2.1) else (laws_FnExactGapInsert.j0 k a1 l2 t204 t212 bt215.2.2.2 true l0_0 a0_1 a0_2 t199 t202 t203 t206 t209 t210 bt215.1 bt215.2.1 bt215.2.2.1))))) = some r := H
   have A14 := Aside0.mk A140
   clear A140
   replace H := Option.bind_eq_some_iff.mp H
   obtain ⟨t212, A150, H⟩ := H
   replace H : ((impl_GapInsert.f t206 t209 t210 a1 t212).bind fun bt215 => ((laws_eqGap.f k bt215.1 bt215.2.1 bt215.2.2.1 t199 t202 t203).bind fun t222 => (if t222 = true then (laws_FnExactGapInsert.j0 k a1 l2 t204 t212 bt215.2.2.2 (bt215.2.2.2 != t204) l0_0 a0_1 a0_2 t199 t202 t203 t206 t209 t210 bt215.1 bt215.2.1 bt215.2.2.1) else (laws_FnExactGapInsert.j0 k a1 l2 t204 t212 bt215.2.2.2 true l0_0 a0_1 a0_2 t199 t202 t203 t206 t209 t210 bt215.1 bt215.2.1 bt215.2.2.1)))) = some r := H
   have A15 := Aside0.mk A150
   clear A150
   replace H := Option.bind_eq_some_iff.mp H
   obtain ⟨⟨t215, t218, t219, t220⟩, A160, H⟩ := H
   replace H : ((laws_eqGap.f k t215 t218 t219 t199 t202 t203).bind fun t222 => (if t222 = true then (laws_FnExactGapInsert.j0 k a1 l2 t204 t212 t220 (t220 != t204) l0_0 a0_1 a0_2 t199 t202 t203 t206 t209 t210 t215 t218 t219) else (laws_FnExactGapInsert.j0 k a1 l2 t204 t212 t220 true l0_0 a0_1 a0_2 t199 t202 t203 t206 t209 t210 t215 t218 t219))) = some r := H
   have A16 := Aside0.mk A160
   clear A160
   have HC17 := Aside0.mk H
   clear H
   go_enter Tryd.func5, Tryd.ntmps5
   go_upto_region 11 with (first | ((with_reducible refine gate_dst (N := 3) rfl ?_); refine box_event ?hg (N := 3) ?hd (cs := #[.slice A0_0 l0_0.length c0_0, .int .i64 a0_1, .int .i64 a0_2]) (t := 24) ?hr ?_; (case hd => rfl); (case hg => rfl); (case hr => first | (go_simp; done) | (go_simp; rfl)); intro gb189 hg w18 hbox hb; have n0_ := Aside0.mk (below_step (hbD HB) hb); have n1_ := Aside0.mk (hbox); have n2_ := Aside0.mk ((by rw [hg]; exact (below_size (hbD HB)) : w.heap.size ≤ gb189)); have n3_ := Aside0.mk ((by rw [hg]; exact (below_size (hbD HB)) : w.heap.size ≤ gb189)); clear HB; have HB := n0_; have BK189 := n1_; have GW189 := n2_; have GE189 := n3_; clear n0_ n1_ n2_ n3_; clear hb hbox hg; have hcz19_0 : w18.cell? ⟨gb189, 0, none⟩ = some (.slice A0_0 l0_0.length c0_0) := (blk_cell BK189.out 0).trans rfl; have hcz19_1 : w18.cell? ⟨gb189, 1, none⟩ = some (.int .i64 a0_1) := (blk_cell BK189.out 1).trans rfl; have hcz19_2 : w18.cell? ⟨gb189, 2, none⟩ = some (.int .i64 a0_2) := (blk_cell BK189.out 2).trans rfl; have hfz19_0 := blk_frozen BK189.out 0; have hfz19_1 := blk_frozen BK189.out 1; have hfz19_2 := blk_frozen BK189.out 2) | ((with_reducible refine gate_callee (f := 10) rfl ?_); refine goesL_ (some 24) rfl rfl Tryd.func10 (by kernel_rfl) rfl #[.agg #[.slice A0_0 l0_0.length c0_0, .int .i64 a0_1, .int .i64 a0_2], .int .i64 1048576] rfl (by (try simp only [List.map_toArray, List.map_cons, List.map_nil]); first | done | rfl | (simp only [List.length_drop, List.length_take]; rfl)) ?_; (with_reducible refine (laws_szGap.calls _ _ l0_0 a0_1 a0_2 1048576 t190 _ ?side1 ?side2 A6.out).mono ?_); (case side1 => repeat (first | exact (Kd.C_below HR0_0.out HB.out) | (with_reducible refine Kd.C_alloc ?_ _) | (with_reducible refine Kd.C_drewN ?_ _) | (with_reducible refine Kd.C_drew ?_))); (case side2 => exact HC0_0.out); rintro e w20 ⟨rfl, hb⟩; refine ⟨_, rfl, ?_⟩; have n0_ := Aside0.mk (blk_below (bkD BK189) hb); have n1_ := Aside0.mk (below_step (hbD HB) hb); clear BK189; clear HB; have BK189 := n0_; have HB := n1_; clear n0_ n1_; (try clear hb); (try clear hb2); (try clear hk); (try clear hi); have hcz21_0 : w20.cell? ⟨gb189, 0, none⟩ = some (.slice A0_0 l0_0.length c0_0) := (blk_cell BK189.out 0).trans rfl; have hcz21_1 : w20.cell? ⟨gb189, 1, none⟩ = some (.int .i64 a0_1) := (blk_cell BK189.out 1).trans rfl; have hcz21_2 : w20.cell? ⟨gb189, 2, none⟩ = some (.int .i64 a0_2) := (blk_cell BK189.out 2).trans rfl; have hfz21_0 := blk_frozen BK189.out 0; have hfz21_1 := blk_frozen BK189.out 1; have hfz21_2 := blk_frozen BK189.out 2) | ((with_reducible refine gate_callee (f := 12) rfl ?_); refine goesL_ (some 29) rfl rfl Tryd.func12 (by kernel_rfl) rfl #[.agg #[.slice A0_0 l0_0.length c0_0, .int .i64 a0_1, .int .i64 a0_2]] rfl (by (try simp only [List.map_toArray, List.map_cons, List.map_nil]); first | done | rfl | (simp only [List.length_drop, List.length_take]; rfl)) ?_; (with_reducible refine (laws_toGap.calls k _ _ l0_0 a0_1 a0_2 t191 t194 t195 _ ?side1 ?side2 A11.out).mono ?_); (case side1 => repeat (first | exact (Kd.C_below HR0_0.out HB.out) | (with_reducible refine Kd.C_alloc ?_ _) | (with_reducible refine Kd.C_drewN ?_ _) | (with_reducible refine Kd.C_drew ?_))); (case side2 => exact HC0_0.out); rintro e w22 ⟨v192, rfl, ho0, hb⟩; refine ⟨_, rfl, ?_⟩; have n0_ := Aside0.mk (Kd.R_lower ho0 (below_size (hbD HB))); have n1_ := Aside0.mk (blk_below (bkD BK189) hb); have n2_ := Aside0.mk (below_step (hbD HB) hb); clear BK189; clear HB; have HO193 := n0_; have BK189 := n1_; have HB := n2_; clear n0_ n1_ n2_; (try clear hb); (try clear hb2); (try clear hk); (try clear hi); (try clear ho0)) | ((with_reducible refine gate_callee (f := 23) rfl ?_); refine goesL_ (some 32) rfl rfl Tryd.func23 (by kernel_rfl) rfl #[.slice A2 l2.length c2] rfl (by (try simp only [List.map_toArray, List.map_cons, List.map_nil]); first | done | rfl | (simp only [List.length_drop, List.length_take]; rfl)) ?_; (with_reducible refine (laws_toInt32S.calls k _ _ l2 t196 _ ?side1 ?side2 A12.out).mono ?_); (case side1 => repeat (first | exact (Kd.C_below HR2.out HB.out) | (with_reducible refine Kd.C_alloc ?_ _) | (with_reducible refine Kd.C_drewN ?_ _) | (with_reducible refine Kd.C_drew ?_))); (case side2 => exact HC2.out); rintro e w23 ⟨v197, rfl, ho0, hb⟩; refine ⟨_, rfl, ?_⟩; have n0_ := Aside0.mk (Kd.R_elder' (rD HO193.out) (Kd.R_base ho0) hb); have n1_ := Aside0.mk (Kd.R_lower (Kd.R_new' ho0 (Kd.R_lt (rD HO193.out))) (below_size (hbD HB))); have n2_ := Aside0.mk (blk_below (bkD BK189) hb); have n3_ := Aside0.mk (below_step (hbD HB) hb); clear HO193; clear BK189; clear HB; have HO193 := n0_; have HO198 := n1_; have BK189 := n2_; have HB := n3_; clear n0_ n1_ n2_ n3_; (try clear hb); (try clear hb2); (try clear hk); (try clear hi); (try clear ho0); obtain ⟨Ao24, co24, eo24⟩ := Kd.R_slice HO193.out; subst eo24; obtain ⟨Ao25, co25, eo25⟩ := Kd.R_slice HO198.out; subst eo25) | ((with_reducible refine gate_callee (f := 22) rfl ?_); refine goesL_ (some 33) rfl rfl Tryd.func22 (by kernel_rfl) rfl #[.agg #[.slice Ao24 t191.length co24, .int .i64 t194, .int .i64 t195], .int .i64 a1, .slice Ao25 t196.length co25] rfl (by (try simp only [List.map_toArray, List.map_cons, List.map_nil]); first | done | rfl | (simp only [List.length_drop, List.length_take]; rfl)) ?_; (with_reducible refine (spec_GapInsert.calls k _ _ t191 t194 t195 a1 _ _ t196 t199 t202 t203 t204 _ ?side1 ?side2 ?side3 ?side4 A13.out).mono ?_); (case side1 => repeat (first | exact (Kd.R_reads' HO193.out).2.2 | (with_reducible refine Kd.C_alloc ?_ _) | (with_reducible refine Kd.C_drewN ?_ _) | (with_reducible refine Kd.C_drew ?_))); (case side2 => exact (Kd.R_reads' HO193.out).2.1); (case side3 => repeat (first | exact (Kd.R_reads' HO198.out).2.2 | (with_reducible refine Kd.C_alloc ?_ _) | (with_reducible refine Kd.C_drewN ?_ _) | (with_reducible refine Kd.C_drew ?_))); (case side4 => exact (Kd.R_reads' HO198.out).2.1); rintro e w26 ⟨v200, rfl, ho0, hb⟩; refine ⟨_, rfl, ?_⟩; have n0_ := Aside0.mk (Kd.R_elder' (rD HO193.out) (Kd.R_base ho0) hb); have n1_ := Aside0.mk (Kd.R_elder' (rD HO198.out) (Kd.R_base ho0) hb); have n2_ := Aside0.mk (Kd.R_lower (Kd.R_new' (Kd.R_new' ho0 (Kd.R_lt (rD HO193.out))) (Kd.R_lt (rD HO198.out))) (below_size (hbD HB))); have n3_ := Aside0.mk (blk_below (bkD BK189) hb); have n4_ := Aside0.mk (below_step (hbD HB) hb); clear HO193; clear HO198; clear BK189; clear HB; have HO193 := n0_; have HO198 := n1_; have HO201 := n2_; have BK189 := n3_; have HB := n4_; clear n0_ n1_ n2_ n3_ n4_; (try clear hb); (try clear hb2); (try clear hk); (try clear hi); (try clear ho0)) | ((with_reducible refine gate_dst (N := 8) rfl ?_); refine box_event ?hg (N := 8) ?hd (cs := #[.slice none 0 0, .int .i64 0, .int .i64 0]) (t := 28) ?hr ?_; (case hd => rfl); (case hg => rfl); (case hr => first | (go_simp; done) | (go_simp; rfl)); intro gb205 hg w27 hbox hb; have n0_ := Aside0.mk (Kd.R_below (rD HO193.out) hb); have n1_ := Aside0.mk (Kd.R_below (rD HO198.out) hb); have n2_ := Aside0.mk (Kd.R_below (rD HO201.out) hb); have n3_ := Aside0.mk (blk_below (bkD BK189) hb); have n4_ := Aside0.mk (below_step (hbD HB) hb); have n5_ := Aside0.mk (hbox); have n6_ := Aside0.mk ((by rw [hg]; exact (below_size (hbD HB)) : w.heap.size ≤ gb205)); have n7_ := Aside0.mk ((by rw [hg]; exact (below_size (hbD HB)) : w.heap.size ≤ gb205)); have n8_ := Aside0.mk ((by rw [hg]; exact Nat.ne_of_lt (blk_lt (bkD BK189)) : gb189 ≠ gb205)); have n9_ := Aside0.mk ((by rw [hg]; exact Nat.ne_of_gt (blk_lt (bkD BK189)) : gb205 ≠ gb189)); clear HO193; clear HO198; clear HO201; clear BK189; clear HB; have HO193 := n0_; have HO198 := n1_; have HO201 := n2_; have BK189 := n3_; have HB := n4_; have BK205 := n5_; have GW205 := n6_; have GE205 := n7_; have NB189_205 := n8_; have NB205_189 := n9_; clear n0_ n1_ n2_ n3_ n4_ n5_ n6_ n7_ n8_ n9_; clear hb hbox hg; obtain ⟨Ao28, co28, eo28⟩ := Kd.R_slice HO201.out; subst eo28; have hnb29 := NB205_189.out; have hnc29 := NB189_205.out; have hcz30_0 : w27.cell? ⟨gb205, 0, none⟩ = some (.slice none 0 0) := (blk_cell BK205.out 0).trans rfl; have hcz30_1 : w27.cell? ⟨gb205, 1, none⟩ = some (.int .i64 0) := (blk_cell BK205.out 1).trans rfl; have hcz30_2 : w27.cell? ⟨gb205, 2, none⟩ = some (.int .i64 0) := (blk_cell BK205.out 2).trans rfl; have hfz30_0 := blk_frozen BK205.out 0; have hfz30_1 := blk_frozen BK205.out 1; have hfz30_2 := blk_frozen BK205.out 2; have hcz31_0 : w27.cell? ⟨gb189, 0, none⟩ = some (.slice A0_0 l0_0.length c0_0) := (blk_cell BK189.out 0).trans rfl; have hcz31_1 : w27.cell? ⟨gb189, 1, none⟩ = some (.int .i64 a0_1) := (blk_cell BK189.out 1).trans rfl; have hcz31_2 : w27.cell? ⟨gb189, 2, none⟩ = some (.int .i64 a0_2) := (blk_cell BK189.out 2).trans rfl; have hfz31_0 := blk_frozen BK189.out 0; have hfz31_1 := blk_frozen BK189.out 1; have hfz31_2 := blk_frozen BK189.out 2) | ((with_reducible refine gate_callee (f := 12) rfl ?_); refine goesL_ (some 37) rfl rfl Tryd.func12 (by kernel_rfl) rfl #[.agg #[.slice A0_0 l0_0.length c0_0, .int .i64 a0_1, .int .i64 a0_2]] rfl (by (try simp only [List.map_toArray, List.map_cons, List.map_nil]); first | done | rfl | (simp only [List.length_drop, List.length_take]; rfl)) ?_; (with_reducible refine (laws_toGap.calls k _ _ l0_0 a0_1 a0_2 t206 t209 t210 _ ?side1 ?side2 A14.out).mono ?_); (case side1 => exact Kd.C_below HR0_0.out (hbD HB)); (case side2 => exact HC0_0.out); rintro e w32 ⟨v207, rfl, ho0, hb⟩; refine ⟨_, rfl, ?_⟩; have n0_ := Aside0.mk (Kd.R_elder' (rD ((Kd.R_mono (Kd.R_far (p := ⟨gb205, 2, none⟩) (Kd.R_far (p := ⟨gb205, 1, none⟩) (Kd.R_far (p := ⟨gb205, 0, none⟩) (Kd.R_types HO193.out BK205.out (by decide)) (fun _ hk => hk.2) (.slice Ao28 t199.length co28)) (fun _ hk => hk.2) (.int .i64 t202)) (fun _ hk => hk.2) (.int .i64 t203)) (fun _ h_ => h_.1)))) (Kd.R_base ho0) hb); have n1_ := Aside0.mk (Kd.R_elder' (rD ((Kd.R_mono (Kd.R_far (p := ⟨gb205, 2, none⟩) (Kd.R_far (p := ⟨gb205, 1, none⟩) (Kd.R_far (p := ⟨gb205, 0, none⟩) (Kd.R_types HO198.out BK205.out (by decide)) (fun _ hk => hk.2) (.slice Ao28 t199.length co28)) (fun _ hk => hk.2) (.int .i64 t202)) (fun _ hk => hk.2) (.int .i64 t203)) (fun _ h_ => h_.1)))) (Kd.R_base ho0) hb); have n2_ := Aside0.mk (Kd.R_elder' (rD ((Kd.R_mono (Kd.R_far (p := ⟨gb205, 2, none⟩) (Kd.R_far (p := ⟨gb205, 1, none⟩) (Kd.R_far (p := ⟨gb205, 0, none⟩) (Kd.R_types HO201.out BK205.out (by decide)) (fun _ hk => hk.2) (.slice Ao28 t199.length co28)) (fun _ hk => hk.2) (.int .i64 t202)) (fun _ hk => hk.2) (.int .i64 t203)) (fun _ h_ => h_.1)))) (Kd.R_base ho0) hb); have n3_ := Aside0.mk (Kd.R_lower (Kd.R_new' (Kd.R_new' (Kd.R_new' ho0 (Kd.R_lt (rD ((Kd.R_mono (Kd.R_far (p := ⟨gb205, 2, none⟩) (Kd.R_far (p := ⟨gb205, 1, none⟩) (Kd.R_far (p := ⟨gb205, 0, none⟩) (Kd.R_types HO193.out BK205.out (by decide)) (fun _ hk => hk.2) (.slice Ao28 t199.length co28)) (fun _ hk => hk.2) (.int .i64 t202)) (fun _ hk => hk.2) (.int .i64 t203)) (fun _ h_ => h_.1)))))) (Kd.R_lt (rD ((Kd.R_mono (Kd.R_far (p := ⟨gb205, 2, none⟩) (Kd.R_far (p := ⟨gb205, 1, none⟩) (Kd.R_far (p := ⟨gb205, 0, none⟩) (Kd.R_types HO198.out BK205.out (by decide)) (fun _ hk => hk.2) (.slice Ao28 t199.length co28)) (fun _ hk => hk.2) (.int .i64 t202)) (fun _ hk => hk.2) (.int .i64 t203)) (fun _ h_ => h_.1)))))) (Kd.R_lt (rD ((Kd.R_mono (Kd.R_far (p := ⟨gb205, 2, none⟩) (Kd.R_far (p := ⟨gb205, 1, none⟩) (Kd.R_far (p := ⟨gb205, 0, none⟩) (Kd.R_types HO201.out BK205.out (by decide)) (fun _ hk => hk.2) (.slice Ao28 t199.length co28)) (fun _ hk => hk.2) (.int .i64 t202)) (fun _ hk => hk.2) (.int .i64 t203)) (fun _ h_ => h_.1)))))) (below_size (hbD HB))); have n4_ := Aside0.mk (blk_below (g := gb189) (o := .cells #[.slice A0_0 l0_0.length c0_0, .int .i64 a0_1, .int .i64 a0_2] 24 (0, 0)) (by (with_reducible repeat (first | refine blk_drewN ?_ _ | refine blk_drew ?_ | refine blk_alloc ?_ _)); refine blk_far ?_ NB189_205.out _; (with_reducible repeat (first | refine blk_drewN ?_ _ | refine blk_drew ?_ | refine blk_alloc ?_ _)); refine blk_far ?_ NB189_205.out _; (with_reducible repeat (first | refine blk_drewN ?_ _ | refine blk_drew ?_ | refine blk_alloc ?_ _)); refine blk_far ?_ NB189_205.out _; (with_reducible repeat (first | refine blk_drewN ?_ _ | refine blk_drew ?_ | refine blk_alloc ?_ _)); exact BK189.out) hb); have n5_ := Aside0.mk (blk_below (g := gb205) (o := .cells #[.slice Ao28 t199.length co28, .int .i64 t202, .int .i64 t203] 28 (0, 0)) (by (with_reducible repeat (first | refine blk_drewN ?_ _ | refine blk_drew ?_ | refine blk_alloc ?_ _)); refine blk_put (cs := #[.slice Ao28 t199.length co28, .int .i64 t202, .int .i64 0]) ?_ 2 _ rfl; (with_reducible repeat (first | refine blk_drewN ?_ _ | refine blk_drew ?_ | refine blk_alloc ?_ _)); refine blk_put (cs := #[.slice Ao28 t199.length co28, .int .i64 0, .int .i64 0]) ?_ 1 _ rfl; (with_reducible repeat (first | refine blk_drewN ?_ _ | refine blk_drew ?_ | refine blk_alloc ?_ _)); refine blk_put (cs := #[.slice none 0 0, .int .i64 0, .int .i64 0]) ?_ 0 _ rfl; (with_reducible repeat (first | refine blk_drewN ?_ _ | refine blk_drew ?_ | refine blk_alloc ?_ _)); exact BK205.out) hb); have n6_ := Aside0.mk (below_step (hbD HB) hb); clear HO193; clear HO198; clear HO201; clear BK189; clear BK205; clear HB; have HO193 := n0_; have HO198 := n1_; have HO201 := n2_; have HO208 := n3_; have BK189 := n4_; have BK205 := n5_; have HB := n6_; clear n0_ n1_ n2_ n3_ n4_ n5_ n6_; (try clear hb); (try clear hb2); (try clear hk); (try clear hi); (try clear ho0)) | ((with_reducible refine gate_dst (N := 10) rfl ?_); refine box_event ?hg (N := 10) ?hd (cs := #[.slice none 0 0, .int .i64 0, .int .i64 0]) (t := 28) ?hr ?_; (case hd => rfl); (case hg => rfl); (case hr => first | (go_simp; done) | (go_simp; rfl)); intro gb211 hg w33 hbox hb; have n0_ := Aside0.mk (Kd.R_below (rD HO193.out) hb); have n1_ := Aside0.mk (Kd.R_below (rD HO198.out) hb); have n2_ := Aside0.mk (Kd.R_below (rD HO201.out) hb); have n3_ := Aside0.mk (Kd.R_below (rD HO208.out) hb); have n4_ := Aside0.mk (blk_below (bkD BK189) hb); have n5_ := Aside0.mk (blk_below (bkD BK205) hb); have n6_ := Aside0.mk (below_step (hbD HB) hb); have n7_ := Aside0.mk (hbox); have n8_ := Aside0.mk ((by rw [hg]; exact (below_size (hbD HB)) : w.heap.size ≤ gb211)); have n9_ := Aside0.mk ((by rw [hg]; exact (below_size (hbD HB)) : w.heap.size ≤ gb211)); have n10_ := Aside0.mk ((by rw [hg]; exact Nat.ne_of_lt (blk_lt (bkD BK189)) : gb189 ≠ gb211)); have n11_ := Aside0.mk ((by rw [hg]; exact Nat.ne_of_gt (blk_lt (bkD BK189)) : gb211 ≠ gb189)); have n12_ := Aside0.mk ((by rw [hg]; exact Nat.ne_of_lt (blk_lt (bkD BK205)) : gb205 ≠ gb211)); have n13_ := Aside0.mk ((by rw [hg]; exact Nat.ne_of_gt (blk_lt (bkD BK205)) : gb211 ≠ gb205)); clear HO193; clear HO198; clear HO201; clear HO208; clear BK189; clear BK205; clear HB; have HO193 := n0_; have HO198 := n1_; have HO201 := n2_; have HO208 := n3_; have BK189 := n4_; have BK205 := n5_; have HB := n6_; have BK211 := n7_; have GW211 := n8_; have GE211 := n9_; have NB189_211 := n10_; have NB211_189 := n11_; have NB205_211 := n12_; have NB211_205 := n13_; clear n0_ n1_ n2_ n3_ n4_ n5_ n6_ n7_ n8_ n9_ n10_ n11_ n12_ n13_; clear hb hbox hg; obtain ⟨Ao34, co34, eo34⟩ := Kd.R_slice HO208.out; subst eo34; have hnb35 := NB211_189.out; have hnc35 := NB189_211.out; have hnb36 := NB211_205.out; have hnc36 := NB205_211.out; have hcz37_0 : w33.cell? ⟨gb211, 0, none⟩ = some (.slice none 0 0) := (blk_cell BK211.out 0).trans rfl; have hcz37_1 : w33.cell? ⟨gb211, 1, none⟩ = some (.int .i64 0) := (blk_cell BK211.out 1).trans rfl; have hcz37_2 : w33.cell? ⟨gb211, 2, none⟩ = some (.int .i64 0) := (blk_cell BK211.out 2).trans rfl; have hfz37_0 := blk_frozen BK211.out 0; have hfz37_1 := blk_frozen BK211.out 1; have hfz37_2 := blk_frozen BK211.out 2) | ((with_reducible refine gate_callee (f := 23) rfl ?_); refine goesL_ (some 39) rfl rfl Tryd.func23 (by kernel_rfl) rfl #[.slice A2 l2.length c2] rfl (by (try simp only [List.map_toArray, List.map_cons, List.map_nil]); first | done | rfl | (simp only [List.length_drop, List.length_take]; rfl)) ?_; (with_reducible refine (laws_toInt32S.calls k _ _ l2 t212 _ ?side1 ?side2 A15.out).mono ?_); (case side1 => exact Kd.C_below HR2.out (hbD HB)); (case side2 => exact HC2.out); rintro e w38 ⟨v213, rfl, ho0, hb⟩; refine ⟨_, rfl, ?_⟩; have n0_ := Aside0.mk (Kd.R_elder' (rD ((Kd.R_mono (Kd.R_far (p := ⟨gb211, 2, none⟩) (Kd.R_far (p := ⟨gb211, 1, none⟩) (Kd.R_far (p := ⟨gb211, 0, none⟩) (Kd.R_types HO193.out BK211.out (by decide)) (fun _ hk => hk.2) (.slice Ao34 t206.length co34)) (fun _ hk => hk.2) (.int .i64 t209)) (fun _ hk => hk.2) (.int .i64 t210)) (fun _ h_ => h_.1)))) (Kd.R_base ho0) hb); have n1_ := Aside0.mk (Kd.R_elder' (rD ((Kd.R_mono (Kd.R_far (p := ⟨gb211, 2, none⟩) (Kd.R_far (p := ⟨gb211, 1, none⟩) (Kd.R_far (p := ⟨gb211, 0, none⟩) (Kd.R_types HO198.out BK211.out (by decide)) (fun _ hk => hk.2) (.slice Ao34 t206.length co34)) (fun _ hk => hk.2) (.int .i64 t209)) (fun _ hk => hk.2) (.int .i64 t210)) (fun _ h_ => h_.1)))) (Kd.R_base ho0) hb); have n2_ := Aside0.mk (Kd.R_elder' (rD ((Kd.R_mono (Kd.R_far (p := ⟨gb211, 2, none⟩) (Kd.R_far (p := ⟨gb211, 1, none⟩) (Kd.R_far (p := ⟨gb211, 0, none⟩) (Kd.R_types HO201.out BK211.out (by decide)) (fun _ hk => hk.2) (.slice Ao34 t206.length co34)) (fun _ hk => hk.2) (.int .i64 t209)) (fun _ hk => hk.2) (.int .i64 t210)) (fun _ h_ => h_.1)))) (Kd.R_base ho0) hb); have n3_ := Aside0.mk (Kd.R_elder' (rD ((Kd.R_mono (Kd.R_far (p := ⟨gb211, 2, none⟩) (Kd.R_far (p := ⟨gb211, 1, none⟩) (Kd.R_far (p := ⟨gb211, 0, none⟩) (Kd.R_types HO208.out BK211.out (by decide)) (fun _ hk => hk.2) (.slice Ao34 t206.length co34)) (fun _ hk => hk.2) (.int .i64 t209)) (fun _ hk => hk.2) (.int .i64 t210)) (fun _ h_ => h_.1)))) (Kd.R_base ho0) hb); have n4_ := Aside0.mk (Kd.R_lower (Kd.R_new' (Kd.R_new' (Kd.R_new' (Kd.R_new' ho0 (Kd.R_lt (rD ((Kd.R_mono (Kd.R_far (p := ⟨gb211, 2, none⟩) (Kd.R_far (p := ⟨gb211, 1, none⟩) (Kd.R_far (p := ⟨gb211, 0, none⟩) (Kd.R_types HO193.out BK211.out (by decide)) (fun _ hk => hk.2) (.slice Ao34 t206.length co34)) (fun _ hk => hk.2) (.int .i64 t209)) (fun _ hk => hk.2) (.int .i64 t210)) (fun _ h_ => h_.1)))))) (Kd.R_lt (rD ((Kd.R_mono (Kd.R_far (p := ⟨gb211, 2, none⟩) (Kd.R_far (p := ⟨gb211, 1, none⟩) (Kd.R_far (p := ⟨gb211, 0, none⟩) (Kd.R_types HO198.out BK211.out (by decide)) (fun _ hk => hk.2) (.slice Ao34 t206.length co34)) (fun _ hk => hk.2) (.int .i64 t209)) (fun _ hk => hk.2) (.int .i64 t210)) (fun _ h_ => h_.1)))))) (Kd.R_lt (rD ((Kd.R_mono (Kd.R_far (p := ⟨gb211, 2, none⟩) (Kd.R_far (p := ⟨gb211, 1, none⟩) (Kd.R_far (p := ⟨gb211, 0, none⟩) (Kd.R_types HO201.out BK211.out (by decide)) (fun _ hk => hk.2) (.slice Ao34 t206.length co34)) (fun _ hk => hk.2) (.int .i64 t209)) (fun _ hk => hk.2) (.int .i64 t210)) (fun _ h_ => h_.1)))))) (Kd.R_lt (rD ((Kd.R_mono (Kd.R_far (p := ⟨gb211, 2, none⟩) (Kd.R_far (p := ⟨gb211, 1, none⟩) (Kd.R_far (p := ⟨gb211, 0, none⟩) (Kd.R_types HO208.out BK211.out (by decide)) (fun _ hk => hk.2) (.slice Ao34 t206.length co34)) (fun _ hk => hk.2) (.int .i64 t209)) (fun _ hk => hk.2) (.int .i64 t210)) (fun _ h_ => h_.1)))))) (below_size (hbD HB))); have n5_ := Aside0.mk (blk_below (g := gb189) (o := .cells #[.slice A0_0 l0_0.length c0_0, .int .i64 a0_1, .int .i64 a0_2] 24 (0, 0)) (by (with_reducible repeat (first | refine blk_drewN ?_ _ | refine blk_drew ?_ | refine blk_alloc ?_ _)); refine blk_far ?_ NB189_211.out _; (with_reducible repeat (first | refine blk_drewN ?_ _ | refine blk_drew ?_ | refine blk_alloc ?_ _)); refine blk_far ?_ NB189_211.out _; (with_reducible repeat (first | refine blk_drewN ?_ _ | refine blk_drew ?_ | refine blk_alloc ?_ _)); refine blk_far ?_ NB189_211.out _; (with_reducible repeat (first | refine blk_drewN ?_ _ | refine blk_drew ?_ | refine blk_alloc ?_ _)); exact BK189.out) hb); have n6_ := Aside0.mk (blk_below (g := gb205) (o := .cells #[.slice Ao28 t199.length co28, .int .i64 t202, .int .i64 t203] 28 (0, 0)) (by (with_reducible repeat (first | refine blk_drewN ?_ _ | refine blk_drew ?_ | refine blk_alloc ?_ _)); refine blk_far ?_ NB205_211.out _; (with_reducible repeat (first | refine blk_drewN ?_ _ | refine blk_drew ?_ | refine blk_alloc ?_ _)); refine blk_far ?_ NB205_211.out _; (with_reducible repeat (first | refine blk_drewN ?_ _ | refine blk_drew ?_ | refine blk_alloc ?_ _)); refine blk_far ?_ NB205_211.out _; (with_reducible repeat (first | refine blk_drewN ?_ _ | refine blk_drew ?_ | refine blk_alloc ?_ _)); exact BK205.out) hb); have n7_ := Aside0.mk (blk_below (g := gb211) (o := .cells #[.slice Ao34 t206.length co34, .int .i64 t209, .int .i64 t210] 28 (0, 0)) (by (with_reducible repeat (first | refine blk_drewN ?_ _ | refine blk_drew ?_ | refine blk_alloc ?_ _)); refine blk_put (cs := #[.slice Ao34 t206.length co34, .int .i64 t209, .int .i64 0]) ?_ 2 _ rfl; (with_reducible repeat (first | refine blk_drewN ?_ _ | refine blk_drew ?_ | refine blk_alloc ?_ _)); refine blk_put (cs := #[.slice Ao34 t206.length co34, .int .i64 0, .int .i64 0]) ?_ 1 _ rfl; (with_reducible repeat (first | refine blk_drewN ?_ _ | refine blk_drew ?_ | refine blk_alloc ?_ _)); refine blk_put (cs := #[.slice none 0 0, .int .i64 0, .int .i64 0]) ?_ 0 _ rfl; (with_reducible repeat (first | refine blk_drewN ?_ _ | refine blk_drew ?_ | refine blk_alloc ?_ _)); exact BK211.out) hb); have n8_ := Aside0.mk (below_step (hbD HB) hb); clear HO193; clear HO198; clear HO201; clear HO208; clear BK189; clear BK205; clear BK211; clear HB; have HO193 := n0_; have HO198 := n1_; have HO201 := n2_; have HO208 := n3_; have HO214 := n4_; have BK189 := n5_; have BK205 := n6_; have BK211 := n7_; have HB := n8_; clear n0_ n1_ n2_ n3_ n4_ n5_ n6_ n7_ n8_; (try clear hb); (try clear hb2); (try clear hk); (try clear hi); (try clear ho0); have hcz39_0 : w38.cell? ⟨gb211, 0, none⟩ = some (.slice Ao34 t206.length co34) := (blk_cell BK211.out 0).trans rfl; have hcz39_1 : w38.cell? ⟨gb211, 1, none⟩ = some (.int .i64 t209) := (blk_cell BK211.out 1).trans rfl; have hcz39_2 : w38.cell? ⟨gb211, 2, none⟩ = some (.int .i64 t210) := (blk_cell BK211.out 2).trans rfl; have hfz39_0 := blk_frozen BK211.out 0; have hfz39_1 := blk_frozen BK211.out 1; have hfz39_2 := blk_frozen BK211.out 2; obtain ⟨Ao40, co40, eo40⟩ := Kd.R_slice HO214.out; subst eo40) | ((with_reducible refine gate_callee (f := 24) rfl ?_); refine goesL_ (some 44) rfl rfl Tryd.func24 (by kernel_rfl) rfl #[.agg #[.slice Ao34 t206.length co34, .int .i64 t209, .int .i64 t210], .int .i64 a1, .slice Ao40 t212.length co40] rfl (by (try simp only [List.map_toArray, List.map_cons, List.map_nil]); first | done | rfl | (simp only [List.length_drop, List.length_take]; rfl)) ?_; (with_reducible refine (impl_GapInsert.calls _ _ t206 t209 t210 a1 _ _ t212 t215 t218 t219 t220 _ ?side1 ?side2 ?side3 ?side4 ?side5 A16.out).mono ?_); (case side1 => repeat (first | exact (Kd.R_reads' HO208.out).2.2 | (with_reducible refine Kd.C_alloc ?_ _) | (with_reducible refine Kd.C_drewN ?_ _) | (with_reducible refine Kd.C_drew ?_))); (case side2 => exact (Kd.R_reads' HO208.out).2.1); (case side3 => repeat (first | exact (Kd.R_reads' HO214.out).2.2 | (with_reducible refine Kd.C_alloc ?_ _) | (with_reducible refine Kd.C_drewN ?_ _) | (with_reducible refine Kd.C_drew ?_))); (case side4 => exact (Kd.R_reads' HO214.out).2.1); (case side5 => exact HG.below hgG_ (hbD HB)); rintro e w41 ⟨v216, rfl, ho0, hb⟩; refine ⟨_, rfl, ?_⟩; have n0_ := Aside0.mk (Kd.R_elder' (rD HO193.out) (Kd.R_base ho0) hb); have n1_ := Aside0.mk (Kd.R_elder' (rD HO198.out) (Kd.R_base ho0) hb); have n2_ := Aside0.mk (Kd.R_elder' (rD HO201.out) (Kd.R_base ho0) hb); have n3_ := Aside0.mk (Kd.R_elder' (rD HO208.out) (Kd.R_base ho0) hb); have n4_ := Aside0.mk (Kd.R_elder' (rD HO214.out) (Kd.R_base ho0) hb); have n5_ := Aside0.mk (Kd.R_lower (Kd.R_new' (Kd.R_new' (Kd.R_new' (Kd.R_new' (Kd.R_new' ho0 (Kd.R_lt (rD HO193.out))) (Kd.R_lt (rD HO198.out))) (Kd.R_lt (rD HO201.out))) (Kd.R_lt (rD HO208.out))) (Kd.R_lt (rD HO214.out))) (below_size (hbD HB))); have n6_ := Aside0.mk (blk_below (bkD BK189) hb); have n7_ := Aside0.mk (blk_below (bkD BK205) hb); have n8_ := Aside0.mk (blk_below (bkD BK211) hb); have n9_ := Aside0.mk (below_step (hbD HB) hb); clear HO193; clear HO198; clear HO201; clear HO208; clear HO214; clear BK189; clear BK205; clear BK211; clear HB; have HO193 := n0_; have HO198 := n1_; have HO201 := n2_; have HO208 := n3_; have HO214 := n4_; have HO217 := n5_; have BK189 := n6_; have BK205 := n7_; have BK211 := n8_; have HB := n9_; clear n0_ n1_ n2_ n3_ n4_ n5_ n6_ n7_ n8_ n9_; (try clear hb); (try clear hb2); (try clear hk); (try clear hi); (try clear ho0)) | ((with_reducible refine gate_dst (N := 12) rfl ?_); refine box_event ?hg (N := 12) ?hd (cs := #[.slice none 0 0, .int .i64 0, .int .i64 0]) (t := 28) ?hr ?_; (case hd => rfl); (case hg => rfl); (case hr => first | (go_simp; done) | (go_simp; rfl)); intro gb221 hg w42 hbox hb; have n0_ := Aside0.mk (Kd.R_below (rD HO193.out) hb); have n1_ := Aside0.mk (Kd.R_below (rD HO198.out) hb); have n2_ := Aside0.mk (Kd.R_below (rD HO201.out) hb); have n3_ := Aside0.mk (Kd.R_below (rD HO208.out) hb); have n4_ := Aside0.mk (Kd.R_below (rD HO214.out) hb); have n5_ := Aside0.mk (Kd.R_below (rD HO217.out) hb); have n6_ := Aside0.mk (blk_below (bkD BK189) hb); have n7_ := Aside0.mk (blk_below (bkD BK205) hb); have n8_ := Aside0.mk (blk_below (bkD BK211) hb); have n9_ := Aside0.mk (below_step (hbD HB) hb); have n10_ := Aside0.mk (hbox); have n11_ := Aside0.mk ((by rw [hg]; exact (below_size (hbD HB)) : w.heap.size ≤ gb221)); have n12_ := Aside0.mk ((by rw [hg]; exact (below_size (hbD HB)) : w.heap.size ≤ gb221)); have n13_ := Aside0.mk ((by rw [hg]; exact Nat.ne_of_lt (blk_lt (bkD BK189)) : gb189 ≠ gb221)); have n14_ := Aside0.mk ((by rw [hg]; exact Nat.ne_of_gt (blk_lt (bkD BK189)) : gb221 ≠ gb189)); have n15_ := Aside0.mk ((by rw [hg]; exact Nat.ne_of_lt (blk_lt (bkD BK205)) : gb205 ≠ gb221)); have n16_ := Aside0.mk ((by rw [hg]; exact Nat.ne_of_gt (blk_lt (bkD BK205)) : gb221 ≠ gb205)); have n17_ := Aside0.mk ((by rw [hg]; exact Nat.ne_of_lt (blk_lt (bkD BK211)) : gb211 ≠ gb221)); have n18_ := Aside0.mk ((by rw [hg]; exact Nat.ne_of_gt (blk_lt (bkD BK211)) : gb221 ≠ gb211)); clear HO193; clear HO198; clear HO201; clear HO208; clear HO214; clear HO217; clear BK189; clear BK205; clear BK211; clear HB; have HO193 := n0_; have HO198 := n1_; have HO201 := n2_; have HO208 := n3_; have HO214 := n4_; have HO217 := n5_; have BK189 := n6_; have BK205 := n7_; have BK211 := n8_; have HB := n9_; have BK221 := n10_; have GW221 := n11_; have GE221 := n12_; have NB189_221 := n13_; have NB221_189 := n14_; have NB205_221 := n15_; have NB221_205 := n16_; have NB211_221 := n17_; have NB221_211 := n18_; clear n0_ n1_ n2_ n3_ n4_ n5_ n6_ n7_ n8_ n9_ n10_ n11_ n12_ n13_ n14_ n15_ n16_ n17_ n18_; clear hb hbox hg; obtain ⟨Ao43, co43, eo43⟩ := Kd.R_slice HO217.out; subst eo43; have hnb44 := NB221_189.out; have hnc44 := NB189_221.out; have hnb45 := NB221_205.out; have hnc45 := NB205_221.out; have hnb46 := NB221_211.out; have hnc46 := NB211_221.out; have hcz47_0 : w42.cell? ⟨gb221, 0, none⟩ = some (.slice none 0 0) := (blk_cell BK221.out 0).trans rfl; have hcz47_1 : w42.cell? ⟨gb221, 1, none⟩ = some (.int .i64 0) := (blk_cell BK221.out 1).trans rfl; have hcz47_2 : w42.cell? ⟨gb221, 2, none⟩ = some (.int .i64 0) := (blk_cell BK221.out 2).trans rfl; have hfz47_0 := blk_frozen BK221.out 0; have hfz47_1 := blk_frozen BK221.out 1; have hfz47_2 := blk_frozen BK221.out 2))
   (try simp only [Act.put, List.setIfInBounds_toArray, List.set_cons_zero, List.set_cons_succ])
   go_cut [55] (fun v55 wc => ∃ (kq : Nat) (x55_16 : Bool), v55 = .bool x55_16 ∧ Aside0 (laws_FnExactGapInsert.j0 kq a1 l2 t204 t212 t220 x55_16 l0_0 a0_1 a0_2 t199 t202 t203 t206 t209 t210 t215 t218 t219 = some r) ∧ Aside0 (kq ≤ k) ∧ Aside0 (Kd.R (Kd.int .i32) 21 wc w.heap.size (fun k_ => some k_ ≠ ((.slice Ao28 t199.length co28) : Value).ownBlock ∧ some k_ ≠ ((.slice Ao34 t206.length co34) : Value).ownBlock ∧ some k_ ≠ ((.slice Ao43 t215.length co43) : Value).ownBlock) (.slice Ao40 t212.length co40) t212) ∧ Aside0 (Kd.R (Kd.int .i32) 21 wc w.heap.size (fun k_ => some k_ ≠ ((.slice Ao40 t212.length co40) : Value).ownBlock ∧ some k_ ≠ ((.slice Ao34 t206.length co34) : Value).ownBlock ∧ some k_ ≠ ((.slice Ao43 t215.length co43) : Value).ownBlock) (.slice Ao28 t199.length co28) t199) ∧ Aside0 (Kd.R (Kd.int .i32) 21 wc w.heap.size (fun k_ => some k_ ≠ ((.slice Ao40 t212.length co40) : Value).ownBlock ∧ some k_ ≠ ((.slice Ao28 t199.length co28) : Value).ownBlock ∧ some k_ ≠ ((.slice Ao43 t215.length co43) : Value).ownBlock) (.slice Ao34 t206.length co34) t206) ∧ Aside0 (Kd.R (Kd.int .i32) 21 wc w.heap.size (fun k_ => some k_ ≠ ((.slice Ao40 t212.length co40) : Value).ownBlock ∧ some k_ ≠ ((.slice Ao28 t199.length co28) : Value).ownBlock ∧ some k_ ≠ ((.slice Ao34 t206.length co34) : Value).ownBlock) (.slice Ao43 t215.length co43) t215) ∧ Aside0 (wc.heap[gb189]? = some (.cells #[(.slice A0_0 l0_0.length c0_0), .int .i64 a0_1, .int .i64 a0_2] 24 (0, 0))) ∧ Aside0 (wc.heap[gb205]? = some (.cells #[(.slice Ao28 t199.length co28), .int .i64 t202, .int .i64 t203] 28 (0, 0))) ∧ Aside0 (wc.heap[gb211]? = some (.cells #[(.slice Ao34 t206.length co34), .int .i64 t209, .int .i64 t210] 28 (0, 0))) ∧ Aside0 (wc.heap[gb221]? = some (.cells #[(.slice Ao43 t215.length co43), .int .i64 t218, .int .i64 t219] 28 (0, 0))) ∧ Aside0 (Below w.heap.size w wc))
   case first =>
    have H := HC17.out
    clear HC17
    replace H := Option.bind_eq_some_iff.mp H
    obtain ⟨t222, A480, H⟩ := H
    replace H : (if t222 = true then (laws_FnExactGapInsert.j0 k a1 l2 t204 t212 t220 (t220 != t204) l0_0 a0_1 a0_2 t199 t202 t203 t206 t209 t210 t215 t218 t219) else (laws_FnExactGapInsert.j0 k a1 l2 t204 t212 t220 true l0_0 a0_1 a0_2 t199 t202 t203 t206 t209 t210 t215 t218 t219)) = some r := H
    have A48 := Aside0.mk A480
    clear A480
    by_cases c49 : t222 = true
    ·subst c49
     have H1 : (laws_FnExactGapInsert.j0 k a1 l2 t204 t212 t220 (t220 != t204) l0_0 a0_1 a0_2 t199 t202 t203 t206 t209 t210 t215 t218 t219) = some r := by rw [if_pos rfl] at H; exact H
     clear H
     have H := H1
     clear H1
     have H' := Aside0.mk H
     clear H
     have hnb50 := NB221_189.out
     have hnc50 := NB189_221.out
     have hnb51 := NB221_205.out
     have hnc51 := NB205_221.out
     have hnb52 := NB221_211.out
     have hnc52 := NB211_221.out
     have hcz53_0 : w42.cell? ⟨gb221, 0, none⟩ = some (.slice none 0 0) := (blk_cell BK221.out 0).trans rfl
     have hcz53_1 : w42.cell? ⟨gb221, 1, none⟩ = some (.int .i64 0) := (blk_cell BK221.out 1).trans rfl
     have hcz53_2 : w42.cell? ⟨gb221, 2, none⟩ = some (.int .i64 0) := (blk_cell BK221.out 2).trans rfl
     have hfz53_0 := blk_frozen BK221.out 0
     have hfz53_1 := blk_frozen BK221.out 1
     have hfz53_2 := blk_frozen BK221.out 2
     have hnb54 := NB205_189.out
     have hnc54 := NB189_205.out
     have hnb55 := NB205_211.out
     have hnc55 := NB211_205.out
     have hcz56_0 : w42.cell? ⟨gb205, 0, none⟩ = some (.slice Ao28 t199.length co28) := (blk_cell BK205.out 0).trans rfl
     have hcz56_1 : w42.cell? ⟨gb205, 1, none⟩ = some (.int .i64 t202) := (blk_cell BK205.out 1).trans rfl
     have hcz56_2 : w42.cell? ⟨gb205, 2, none⟩ = some (.int .i64 t203) := (blk_cell BK205.out 2).trans rfl
     have hfz56_0 := blk_frozen BK205.out 0
     have hfz56_1 := blk_frozen BK205.out 1
     have hfz56_2 := blk_frozen BK205.out 2
     go_wp2_with (first | ((with_reducible refine gate_callee (f := 15) rfl ?_); refine goesL_ (some 49) rfl rfl Tryd.func15 (by kernel_rfl) rfl #[.agg #[.slice Ao43 t215.length co43, .int .i64 t218, .int .i64 t219], .agg #[.slice Ao28 t199.length co28, .int .i64 t202, .int .i64 t203]] rfl (by (try simp only [List.map_toArray, List.map_cons, List.map_nil]); first | done | rfl | (simp only [List.length_drop, List.length_take]; rfl)) ?_; (with_reducible refine (laws_eqGap.calls k _ _ t215 t218 t219 _ _ t199 t202 t203 true _ ?side1 ?side2 ?side3 ?side4 A48.out).mono ?_); (case side1 => refine (Kd.R_reads' (e := 21) (base := w.heap.size) (ok := fun k_ => (((((True ∧ some k_ ≠ (.slice Ao24 t191.length co24 : Value).ownBlock) ∧ some k_ ≠ (.slice Ao25 t196.length co25 : Value).ownBlock) ∧ some k_ ≠ (.slice Ao28 t199.length co28 : Value).ownBlock) ∧ some k_ ≠ (.slice Ao34 t206.length co34 : Value).ownBlock) ∧ some k_ ≠ (.slice Ao40 t212.length co40 : Value).ownBlock)) (n := t215.length) (c := co43) ?_).2.2; exact (rD ((Kd.R_mono (Kd.R_far (p := ⟨gb221, 2, none⟩) (Kd.R_far (p := ⟨gb221, 1, none⟩) (Kd.R_far (p := ⟨gb221, 0, none⟩) (Kd.R_types HO217.out BK221.out (by decide)) (fun _ hk => hk.2) (.slice Ao43 t215.length co43)) (fun _ hk => hk.2) (.int .i64 t218)) (fun _ hk => hk.2) (.int .i64 t219)) (fun _ h_ => h_.1))))); (case side2 => exact (Kd.R_reads' HO217.out).2.1); (case side3 => refine (Kd.R_reads' (e := 21) (base := w.heap.size) (ok := fun k_ => (((((True ∧ some k_ ≠ (.slice Ao24 t191.length co24 : Value).ownBlock) ∧ some k_ ≠ (.slice Ao25 t196.length co25 : Value).ownBlock) ∧ some k_ ≠ (.slice Ao34 t206.length co34 : Value).ownBlock) ∧ some k_ ≠ (.slice Ao40 t212.length co40 : Value).ownBlock) ∧ some k_ ≠ (.slice Ao43 t215.length co43 : Value).ownBlock)) (n := t199.length) (c := co28) ?_).2.2; exact (rD ((Kd.R_mono (Kd.R_far (p := ⟨gb221, 2, none⟩) (Kd.R_far (p := ⟨gb221, 1, none⟩) (Kd.R_far (p := ⟨gb221, 0, none⟩) (Kd.R_types HO201.out BK221.out (by decide)) (fun _ hk => hk.2) (.slice Ao43 t215.length co43)) (fun _ hk => hk.2) (.int .i64 t218)) (fun _ hk => hk.2) (.int .i64 t219)) (fun _ h_ => h_.1))))); (case side4 => exact (Kd.R_reads' HO201.out).2.1); rintro e w57 ⟨rfl, hb⟩; refine ⟨_, rfl, ?_⟩; have n0_ := Aside0.mk (Kd.R_below (rD ((Kd.R_mono (Kd.R_far (p := ⟨gb221, 2, none⟩) (Kd.R_far (p := ⟨gb221, 1, none⟩) (Kd.R_far (p := ⟨gb221, 0, none⟩) (Kd.R_types HO193.out BK221.out (by decide)) (fun _ hk => hk.2) (.slice Ao43 t215.length co43)) (fun _ hk => hk.2) (.int .i64 t218)) (fun _ hk => hk.2) (.int .i64 t219)) (fun _ h_ => h_.1)))) hb); have n1_ := Aside0.mk (Kd.R_below (rD ((Kd.R_mono (Kd.R_far (p := ⟨gb221, 2, none⟩) (Kd.R_far (p := ⟨gb221, 1, none⟩) (Kd.R_far (p := ⟨gb221, 0, none⟩) (Kd.R_types HO198.out BK221.out (by decide)) (fun _ hk => hk.2) (.slice Ao43 t215.length co43)) (fun _ hk => hk.2) (.int .i64 t218)) (fun _ hk => hk.2) (.int .i64 t219)) (fun _ h_ => h_.1)))) hb); have n2_ := Aside0.mk (Kd.R_below (rD ((Kd.R_mono (Kd.R_far (p := ⟨gb221, 2, none⟩) (Kd.R_far (p := ⟨gb221, 1, none⟩) (Kd.R_far (p := ⟨gb221, 0, none⟩) (Kd.R_types HO201.out BK221.out (by decide)) (fun _ hk => hk.2) (.slice Ao43 t215.length co43)) (fun _ hk => hk.2) (.int .i64 t218)) (fun _ hk => hk.2) (.int .i64 t219)) (fun _ h_ => h_.1)))) hb); have n3_ := Aside0.mk (Kd.R_below (rD ((Kd.R_mono (Kd.R_far (p := ⟨gb221, 2, none⟩) (Kd.R_far (p := ⟨gb221, 1, none⟩) (Kd.R_far (p := ⟨gb221, 0, none⟩) (Kd.R_types HO208.out BK221.out (by decide)) (fun _ hk => hk.2) (.slice Ao43 t215.length co43)) (fun _ hk => hk.2) (.int .i64 t218)) (fun _ hk => hk.2) (.int .i64 t219)) (fun _ h_ => h_.1)))) hb); have n4_ := Aside0.mk (Kd.R_below (rD ((Kd.R_mono (Kd.R_far (p := ⟨gb221, 2, none⟩) (Kd.R_far (p := ⟨gb221, 1, none⟩) (Kd.R_far (p := ⟨gb221, 0, none⟩) (Kd.R_types HO214.out BK221.out (by decide)) (fun _ hk => hk.2) (.slice Ao43 t215.length co43)) (fun _ hk => hk.2) (.int .i64 t218)) (fun _ hk => hk.2) (.int .i64 t219)) (fun _ h_ => h_.1)))) hb); have n5_ := Aside0.mk (Kd.R_below (rD ((Kd.R_mono (Kd.R_far (p := ⟨gb221, 2, none⟩) (Kd.R_far (p := ⟨gb221, 1, none⟩) (Kd.R_far (p := ⟨gb221, 0, none⟩) (Kd.R_types HO217.out BK221.out (by decide)) (fun _ hk => hk.2) (.slice Ao43 t215.length co43)) (fun _ hk => hk.2) (.int .i64 t218)) (fun _ hk => hk.2) (.int .i64 t219)) (fun _ h_ => h_.1)))) hb); have n6_ := Aside0.mk (blk_below (g := gb189) (o := .cells #[.slice A0_0 l0_0.length c0_0, .int .i64 a0_1, .int .i64 a0_2] 24 (0, 0)) (by (with_reducible repeat (first | refine blk_drewN ?_ _ | refine blk_drew ?_ | refine blk_alloc ?_ _)); refine blk_far ?_ NB189_221.out _; (with_reducible repeat (first | refine blk_drewN ?_ _ | refine blk_drew ?_ | refine blk_alloc ?_ _)); refine blk_far ?_ NB189_221.out _; (with_reducible repeat (first | refine blk_drewN ?_ _ | refine blk_drew ?_ | refine blk_alloc ?_ _)); refine blk_far ?_ NB189_221.out _; (with_reducible repeat (first | refine blk_drewN ?_ _ | refine blk_drew ?_ | refine blk_alloc ?_ _)); exact BK189.out) hb); have n7_ := Aside0.mk (blk_below (g := gb205) (o := .cells #[.slice Ao28 t199.length co28, .int .i64 t202, .int .i64 t203] 28 (0, 0)) (by (with_reducible repeat (first | refine blk_drewN ?_ _ | refine blk_drew ?_ | refine blk_alloc ?_ _)); refine blk_far ?_ NB205_221.out _; (with_reducible repeat (first | refine blk_drewN ?_ _ | refine blk_drew ?_ | refine blk_alloc ?_ _)); refine blk_far ?_ NB205_221.out _; (with_reducible repeat (first | refine blk_drewN ?_ _ | refine blk_drew ?_ | refine blk_alloc ?_ _)); refine blk_far ?_ NB205_221.out _; (with_reducible repeat (first | refine blk_drewN ?_ _ | refine blk_drew ?_ | refine blk_alloc ?_ _)); exact BK205.out) hb); have n8_ := Aside0.mk (blk_below (g := gb211) (o := .cells #[.slice Ao34 t206.length co34, .int .i64 t209, .int .i64 t210] 28 (0, 0)) (by (with_reducible repeat (first | refine blk_drewN ?_ _ | refine blk_drew ?_ | refine blk_alloc ?_ _)); refine blk_far ?_ NB211_221.out _; (with_reducible repeat (first | refine blk_drewN ?_ _ | refine blk_drew ?_ | refine blk_alloc ?_ _)); refine blk_far ?_ NB211_221.out _; (with_reducible repeat (first | refine blk_drewN ?_ _ | refine blk_drew ?_ | refine blk_alloc ?_ _)); refine blk_far ?_ NB211_221.out _; (with_reducible repeat (first | refine blk_drewN ?_ _ | refine blk_drew ?_ | refine blk_alloc ?_ _)); exact BK211.out) hb); have n9_ := Aside0.mk (blk_below (g := gb221) (o := .cells #[.slice Ao43 t215.length co43, .int .i64 t218, .int .i64 t219] 28 (0, 0)) (by (with_reducible repeat (first | refine blk_drewN ?_ _ | refine blk_drew ?_ | refine blk_alloc ?_ _)); refine blk_put (cs := #[.slice Ao43 t215.length co43, .int .i64 t218, .int .i64 0]) ?_ 2 _ rfl; (with_reducible repeat (first | refine blk_drewN ?_ _ | refine blk_drew ?_ | refine blk_alloc ?_ _)); refine blk_put (cs := #[.slice Ao43 t215.length co43, .int .i64 0, .int .i64 0]) ?_ 1 _ rfl; (with_reducible repeat (first | refine blk_drewN ?_ _ | refine blk_drew ?_ | refine blk_alloc ?_ _)); refine blk_put (cs := #[.slice none 0 0, .int .i64 0, .int .i64 0]) ?_ 0 _ rfl; (with_reducible repeat (first | refine blk_drewN ?_ _ | refine blk_drew ?_ | refine blk_alloc ?_ _)); exact BK221.out) hb); have n10_ := Aside0.mk (below_step (hbD HB) hb); clear HO193; clear HO198; clear HO201; clear HO208; clear HO214; clear HO217; clear BK189; clear BK205; clear BK211; clear BK221; clear HB; have HO193 := n0_; have HO198 := n1_; have HO201 := n2_; have HO208 := n3_; have HO214 := n4_; have HO217 := n5_; have BK189 := n6_; have BK205 := n7_; have BK211 := n8_; have BK221 := n9_; have HB := n10_; clear n0_ n1_ n2_ n3_ n4_ n5_ n6_ n7_ n8_ n9_ n10_; (try clear hb); (try clear hb2); (try clear hk); (try clear hi)))
     go_meet
     case rel => exact ⟨_, ((t220 != t204)), (by first | rfl | (simp; done) | (simp [*]; done)), H', ⟨by first | omega | exact Nat.le_refl _⟩, ⟨by (with_reducible repeat (first | apply Kd.R_alloc | apply Kd.R_drewN | apply Kd.R_drew)); exact Kd.R_mono HO214.out (fun _ hk => ⟨hk.1.1.2, ⟨hk.1.2, hk.2⟩⟩)⟩, ⟨by (with_reducible repeat (first | apply Kd.R_alloc | apply Kd.R_drewN | apply Kd.R_drew)); exact Kd.R_mono HO201.out (fun _ hk => ⟨hk.1.2, ⟨hk.1.1.2, hk.2⟩⟩)⟩, ⟨by (with_reducible repeat (first | apply Kd.R_alloc | apply Kd.R_drewN | apply Kd.R_drew)); exact Kd.R_mono HO208.out (fun _ hk => ⟨hk.1.2, ⟨hk.1.1.2, hk.2⟩⟩)⟩, ⟨by (with_reducible repeat (first | apply Kd.R_alloc | apply Kd.R_drewN | apply Kd.R_drew)); exact Kd.R_mono HO217.out (fun _ hk => ⟨hk.2, ⟨hk.1.1.2, hk.1.2⟩⟩)⟩, ⟨by (with_reducible repeat (first | refine blk_drewN ?_ _ | refine blk_drew ?_ | refine blk_alloc ?_ _)); exact BK189.out⟩, ⟨by (with_reducible repeat (first | refine blk_drewN ?_ _ | refine blk_drew ?_ | refine blk_alloc ?_ _)); exact BK205.out⟩, ⟨by (with_reducible repeat (first | refine blk_drewN ?_ _ | refine blk_drew ?_ | refine blk_alloc ?_ _)); exact BK211.out⟩, ⟨by (with_reducible repeat (first | refine blk_drewN ?_ _ | refine blk_drew ?_ | refine blk_alloc ?_ _)); exact BK221.out⟩, ⟨by repeat (first | (with_reducible first | exact HB.out | apply below_alloc | apply pw_below_drewN | apply below_drew1 | refine below_set ?_ GE189.out | refine below_set ?_ GE205.out | refine below_set ?_ GE211.out | refine below_set ?_ GE221.out) | exact HB.out)⟩⟩
    ·replace c49 := Bool.eq_false_iff.mpr c49
     subst c49
     have H1 : (laws_FnExactGapInsert.j0 k a1 l2 t204 t212 t220 true l0_0 a0_1 a0_2 t199 t202 t203 t206 t209 t210 t215 t218 t219) = some r := by rw [if_neg (show ¬ (false = true) by decide)] at H; exact H
     clear H
     have H := H1
     clear H1
     have H' := Aside0.mk H
     clear H
     have hnb58 := NB221_189.out
     have hnc58 := NB189_221.out
     have hnb59 := NB221_205.out
     have hnc59 := NB205_221.out
     have hnb60 := NB221_211.out
     have hnc60 := NB211_221.out
     have hcz61_0 : w42.cell? ⟨gb221, 0, none⟩ = some (.slice none 0 0) := (blk_cell BK221.out 0).trans rfl
     have hcz61_1 : w42.cell? ⟨gb221, 1, none⟩ = some (.int .i64 0) := (blk_cell BK221.out 1).trans rfl
     have hcz61_2 : w42.cell? ⟨gb221, 2, none⟩ = some (.int .i64 0) := (blk_cell BK221.out 2).trans rfl
     have hfz61_0 := blk_frozen BK221.out 0
     have hfz61_1 := blk_frozen BK221.out 1
     have hfz61_2 := blk_frozen BK221.out 2
     have hnb62 := NB205_189.out
     have hnc62 := NB189_205.out
     have hnb63 := NB205_211.out
     have hnc63 := NB211_205.out
     have hcz64_0 : w42.cell? ⟨gb205, 0, none⟩ = some (.slice Ao28 t199.length co28) := (blk_cell BK205.out 0).trans rfl
     have hcz64_1 : w42.cell? ⟨gb205, 1, none⟩ = some (.int .i64 t202) := (blk_cell BK205.out 1).trans rfl
     have hcz64_2 : w42.cell? ⟨gb205, 2, none⟩ = some (.int .i64 t203) := (blk_cell BK205.out 2).trans rfl
     have hfz64_0 := blk_frozen BK205.out 0
     have hfz64_1 := blk_frozen BK205.out 1
     have hfz64_2 := blk_frozen BK205.out 2
     go_wp2_with (first | ((with_reducible refine gate_callee (f := 15) rfl ?_); refine goesL_ (some 49) rfl rfl Tryd.func15 (by kernel_rfl) rfl #[.agg #[.slice Ao43 t215.length co43, .int .i64 t218, .int .i64 t219], .agg #[.slice Ao28 t199.length co28, .int .i64 t202, .int .i64 t203]] rfl (by (try simp only [List.map_toArray, List.map_cons, List.map_nil]); first | done | rfl | (simp only [List.length_drop, List.length_take]; rfl)) ?_; (with_reducible refine (laws_eqGap.calls k _ _ t215 t218 t219 _ _ t199 t202 t203 false _ ?side1 ?side2 ?side3 ?side4 A48.out).mono ?_); (case side1 => refine (Kd.R_reads' (e := 21) (base := w.heap.size) (ok := fun k_ => (((((True ∧ some k_ ≠ (.slice Ao24 t191.length co24 : Value).ownBlock) ∧ some k_ ≠ (.slice Ao25 t196.length co25 : Value).ownBlock) ∧ some k_ ≠ (.slice Ao28 t199.length co28 : Value).ownBlock) ∧ some k_ ≠ (.slice Ao34 t206.length co34 : Value).ownBlock) ∧ some k_ ≠ (.slice Ao40 t212.length co40 : Value).ownBlock)) (n := t215.length) (c := co43) ?_).2.2; exact (rD ((Kd.R_mono (Kd.R_far (p := ⟨gb221, 2, none⟩) (Kd.R_far (p := ⟨gb221, 1, none⟩) (Kd.R_far (p := ⟨gb221, 0, none⟩) (Kd.R_types HO217.out BK221.out (by decide)) (fun _ hk => hk.2) (.slice Ao43 t215.length co43)) (fun _ hk => hk.2) (.int .i64 t218)) (fun _ hk => hk.2) (.int .i64 t219)) (fun _ h_ => h_.1))))); (case side2 => exact (Kd.R_reads' HO217.out).2.1); (case side3 => refine (Kd.R_reads' (e := 21) (base := w.heap.size) (ok := fun k_ => (((((True ∧ some k_ ≠ (.slice Ao24 t191.length co24 : Value).ownBlock) ∧ some k_ ≠ (.slice Ao25 t196.length co25 : Value).ownBlock) ∧ some k_ ≠ (.slice Ao34 t206.length co34 : Value).ownBlock) ∧ some k_ ≠ (.slice Ao40 t212.length co40 : Value).ownBlock) ∧ some k_ ≠ (.slice Ao43 t215.length co43 : Value).ownBlock)) (n := t199.length) (c := co28) ?_).2.2; exact (rD ((Kd.R_mono (Kd.R_far (p := ⟨gb221, 2, none⟩) (Kd.R_far (p := ⟨gb221, 1, none⟩) (Kd.R_far (p := ⟨gb221, 0, none⟩) (Kd.R_types HO201.out BK221.out (by decide)) (fun _ hk => hk.2) (.slice Ao43 t215.length co43)) (fun _ hk => hk.2) (.int .i64 t218)) (fun _ hk => hk.2) (.int .i64 t219)) (fun _ h_ => h_.1))))); (case side4 => exact (Kd.R_reads' HO201.out).2.1); rintro e w65 ⟨rfl, hb⟩; refine ⟨_, rfl, ?_⟩; have n0_ := Aside0.mk (Kd.R_below (rD ((Kd.R_mono (Kd.R_far (p := ⟨gb221, 2, none⟩) (Kd.R_far (p := ⟨gb221, 1, none⟩) (Kd.R_far (p := ⟨gb221, 0, none⟩) (Kd.R_types HO193.out BK221.out (by decide)) (fun _ hk => hk.2) (.slice Ao43 t215.length co43)) (fun _ hk => hk.2) (.int .i64 t218)) (fun _ hk => hk.2) (.int .i64 t219)) (fun _ h_ => h_.1)))) hb); have n1_ := Aside0.mk (Kd.R_below (rD ((Kd.R_mono (Kd.R_far (p := ⟨gb221, 2, none⟩) (Kd.R_far (p := ⟨gb221, 1, none⟩) (Kd.R_far (p := ⟨gb221, 0, none⟩) (Kd.R_types HO198.out BK221.out (by decide)) (fun _ hk => hk.2) (.slice Ao43 t215.length co43)) (fun _ hk => hk.2) (.int .i64 t218)) (fun _ hk => hk.2) (.int .i64 t219)) (fun _ h_ => h_.1)))) hb); have n2_ := Aside0.mk (Kd.R_below (rD ((Kd.R_mono (Kd.R_far (p := ⟨gb221, 2, none⟩) (Kd.R_far (p := ⟨gb221, 1, none⟩) (Kd.R_far (p := ⟨gb221, 0, none⟩) (Kd.R_types HO201.out BK221.out (by decide)) (fun _ hk => hk.2) (.slice Ao43 t215.length co43)) (fun _ hk => hk.2) (.int .i64 t218)) (fun _ hk => hk.2) (.int .i64 t219)) (fun _ h_ => h_.1)))) hb); have n3_ := Aside0.mk (Kd.R_below (rD ((Kd.R_mono (Kd.R_far (p := ⟨gb221, 2, none⟩) (Kd.R_far (p := ⟨gb221, 1, none⟩) (Kd.R_far (p := ⟨gb221, 0, none⟩) (Kd.R_types HO208.out BK221.out (by decide)) (fun _ hk => hk.2) (.slice Ao43 t215.length co43)) (fun _ hk => hk.2) (.int .i64 t218)) (fun _ hk => hk.2) (.int .i64 t219)) (fun _ h_ => h_.1)))) hb); have n4_ := Aside0.mk (Kd.R_below (rD ((Kd.R_mono (Kd.R_far (p := ⟨gb221, 2, none⟩) (Kd.R_far (p := ⟨gb221, 1, none⟩) (Kd.R_far (p := ⟨gb221, 0, none⟩) (Kd.R_types HO214.out BK221.out (by decide)) (fun _ hk => hk.2) (.slice Ao43 t215.length co43)) (fun _ hk => hk.2) (.int .i64 t218)) (fun _ hk => hk.2) (.int .i64 t219)) (fun _ h_ => h_.1)))) hb); have n5_ := Aside0.mk (Kd.R_below (rD ((Kd.R_mono (Kd.R_far (p := ⟨gb221, 2, none⟩) (Kd.R_far (p := ⟨gb221, 1, none⟩) (Kd.R_far (p := ⟨gb221, 0, none⟩) (Kd.R_types HO217.out BK221.out (by decide)) (fun _ hk => hk.2) (.slice Ao43 t215.length co43)) (fun _ hk => hk.2) (.int .i64 t218)) (fun _ hk => hk.2) (.int .i64 t219)) (fun _ h_ => h_.1)))) hb); have n6_ := Aside0.mk (blk_below (g := gb189) (o := .cells #[.slice A0_0 l0_0.length c0_0, .int .i64 a0_1, .int .i64 a0_2] 24 (0, 0)) (by (with_reducible repeat (first | refine blk_drewN ?_ _ | refine blk_drew ?_ | refine blk_alloc ?_ _)); refine blk_far ?_ NB189_221.out _; (with_reducible repeat (first | refine blk_drewN ?_ _ | refine blk_drew ?_ | refine blk_alloc ?_ _)); refine blk_far ?_ NB189_221.out _; (with_reducible repeat (first | refine blk_drewN ?_ _ | refine blk_drew ?_ | refine blk_alloc ?_ _)); refine blk_far ?_ NB189_221.out _; (with_reducible repeat (first | refine blk_drewN ?_ _ | refine blk_drew ?_ | refine blk_alloc ?_ _)); exact BK189.out) hb); have n7_ := Aside0.mk (blk_below (g := gb205) (o := .cells #[.slice Ao28 t199.length co28, .int .i64 t202, .int .i64 t203] 28 (0, 0)) (by (with_reducible repeat (first | refine blk_drewN ?_ _ | refine blk_drew ?_ | refine blk_alloc ?_ _)); refine blk_far ?_ NB205_221.out _; (with_reducible repeat (first | refine blk_drewN ?_ _ | refine blk_drew ?_ | refine blk_alloc ?_ _)); refine blk_far ?_ NB205_221.out _; (with_reducible repeat (first | refine blk_drewN ?_ _ | refine blk_drew ?_ | refine blk_alloc ?_ _)); refine blk_far ?_ NB205_221.out _; (with_reducible repeat (first | refine blk_drewN ?_ _ | refine blk_drew ?_ | refine blk_alloc ?_ _)); exact BK205.out) hb); have n8_ := Aside0.mk (blk_below (g := gb211) (o := .cells #[.slice Ao34 t206.length co34, .int .i64 t209, .int .i64 t210] 28 (0, 0)) (by (with_reducible repeat (first | refine blk_drewN ?_ _ | refine blk_drew ?_ | refine blk_alloc ?_ _)); refine blk_far ?_ NB211_221.out _; (with_reducible repeat (first | refine blk_drewN ?_ _ | refine blk_drew ?_ | refine blk_alloc ?_ _)); refine blk_far ?_ NB211_221.out _; (with_reducible repeat (first | refine blk_drewN ?_ _ | refine blk_drew ?_ | refine blk_alloc ?_ _)); refine blk_far ?_ NB211_221.out _; (with_reducible repeat (first | refine blk_drewN ?_ _ | refine blk_drew ?_ | refine blk_alloc ?_ _)); exact BK211.out) hb); have n9_ := Aside0.mk (blk_below (g := gb221) (o := .cells #[.slice Ao43 t215.length co43, .int .i64 t218, .int .i64 t219] 28 (0, 0)) (by (with_reducible repeat (first | refine blk_drewN ?_ _ | refine blk_drew ?_ | refine blk_alloc ?_ _)); refine blk_put (cs := #[.slice Ao43 t215.length co43, .int .i64 t218, .int .i64 0]) ?_ 2 _ rfl; (with_reducible repeat (first | refine blk_drewN ?_ _ | refine blk_drew ?_ | refine blk_alloc ?_ _)); refine blk_put (cs := #[.slice Ao43 t215.length co43, .int .i64 0, .int .i64 0]) ?_ 1 _ rfl; (with_reducible repeat (first | refine blk_drewN ?_ _ | refine blk_drew ?_ | refine blk_alloc ?_ _)); refine blk_put (cs := #[.slice none 0 0, .int .i64 0, .int .i64 0]) ?_ 0 _ rfl; (with_reducible repeat (first | refine blk_drewN ?_ _ | refine blk_drew ?_ | refine blk_alloc ?_ _)); exact BK221.out) hb); have n10_ := Aside0.mk (below_step (hbD HB) hb); clear HO193; clear HO198; clear HO201; clear HO208; clear HO214; clear HO217; clear BK189; clear BK205; clear BK211; clear BK221; clear HB; have HO193 := n0_; have HO198 := n1_; have HO201 := n2_; have HO208 := n3_; have HO214 := n4_; have HO217 := n5_; have BK189 := n6_; have BK205 := n7_; have BK211 := n8_; have BK221 := n9_; have HB := n10_; clear n0_ n1_ n2_ n3_ n4_ n5_ n6_ n7_ n8_ n9_ n10_; (try clear hb); (try clear hb2); (try clear hk); (try clear hi)))
     go_meet
     case rel => exact ⟨_, (true), (by first | rfl | (simp; done) | (simp [*]; done)), H', ⟨by first | omega | exact Nat.le_refl _⟩, ⟨by (with_reducible repeat (first | apply Kd.R_alloc | apply Kd.R_drewN | apply Kd.R_drew)); exact Kd.R_mono HO214.out (fun _ hk => ⟨hk.1.1.2, ⟨hk.1.2, hk.2⟩⟩)⟩, ⟨by (with_reducible repeat (first | apply Kd.R_alloc | apply Kd.R_drewN | apply Kd.R_drew)); exact Kd.R_mono HO201.out (fun _ hk => ⟨hk.1.2, ⟨hk.1.1.2, hk.2⟩⟩)⟩, ⟨by (with_reducible repeat (first | apply Kd.R_alloc | apply Kd.R_drewN | apply Kd.R_drew)); exact Kd.R_mono HO208.out (fun _ hk => ⟨hk.1.2, ⟨hk.1.1.2, hk.2⟩⟩)⟩, ⟨by (with_reducible repeat (first | apply Kd.R_alloc | apply Kd.R_drewN | apply Kd.R_drew)); exact Kd.R_mono HO217.out (fun _ hk => ⟨hk.2, ⟨hk.1.1.2, hk.1.2⟩⟩)⟩, ⟨by (with_reducible repeat (first | refine blk_drewN ?_ _ | refine blk_drew ?_ | refine blk_alloc ?_ _)); exact BK189.out⟩, ⟨by (with_reducible repeat (first | refine blk_drewN ?_ _ | refine blk_drew ?_ | refine blk_alloc ?_ _)); exact BK205.out⟩, ⟨by (with_reducible repeat (first | refine blk_drewN ?_ _ | refine blk_drew ?_ | refine blk_alloc ?_ _)); exact BK211.out⟩, ⟨by (with_reducible repeat (first | refine blk_drewN ?_ _ | refine blk_drew ?_ | refine blk_alloc ?_ _)); exact BK221.out⟩, ⟨by repeat (first | (with_reducible first | exact HB.out | apply below_alloc | apply pw_below_drewN | apply below_drew1 | refine below_set ?_ GE189.out | refine below_set ?_ GE205.out | refine below_set ?_ GE211.out | refine below_set ?_ GE221.out) | exact HB.out)⟩⟩
   case rest =>
    clear HC17
    try clear c1
    try clear c2
    try clear p2
    try clear c3
    try clear c4
    try clear c4b0
    try clear c4b1
    try clear c5
    try clear c6
    try clear c7
    try clear c7b0
    try clear c10
    try clear c12
    try clear c15
    try clear c22
    try clear c23
    try clear c24
    try clear c29
    try clear c35
    try clear c36
    try clear c44
    try clear c45
    try clear c46
    try clear c49
    try clear c50
    try clear c51
    try clear c52
    try clear c54
    try clear c55
    try clear c58
    try clear c59
    try clear c60
    try clear c62
    try clear c63
    try clear hcz19_0
    try clear hcz19_1
    try clear hcz19_2
    try clear hcz21_0
    try clear hcz21_1
    try clear hcz21_2
    try clear hcz30_0
    try clear hcz30_1
    try clear hcz30_2
    try clear hcz31_0
    try clear hcz31_1
    try clear hcz31_2
    try clear hcz37_0
    try clear hcz37_1
    try clear hcz37_2
    try clear hcz39_0
    try clear hcz39_1
    try clear hcz39_2
    try clear hcz47_0
    try clear hcz47_1
    try clear hcz47_2
    try clear hcz53_0
    try clear hcz53_1
    try clear hcz53_2
    try clear hcz56_0
    try clear hcz56_1
    try clear hcz56_2
    try clear hcz61_0
    try clear hcz61_1
    try clear hcz61_2
    try clear hcz64_0
    try clear hcz64_1
    try clear hcz64_2
    try clear hcz9_0
    try clear hcz9_1
    try clear hcz9_2
    try clear hfz19_0
    try clear hfz19_1
    try clear hfz19_2
    try clear hfz21_0
    try clear hfz21_1
    try clear hfz21_2
    try clear hfz30_0
    try clear hfz30_1
    try clear hfz30_2
    try clear hfz31_0
    try clear hfz31_1
    try clear hfz31_2
    try clear hfz37_0
    try clear hfz37_1
    try clear hfz37_2
    try clear hfz39_0
    try clear hfz39_1
    try clear hfz39_2
    try clear hfz47_0
    try clear hfz47_1
    try clear hfz47_2
    try clear hfz53_0
    try clear hfz53_1
    try clear hfz53_2
    try clear hfz56_0
    try clear hfz56_1
    try clear hfz56_2
    try clear hfz61_0
    try clear hfz61_1
    try clear hfz61_2
    try clear hfz64_0
    try clear hfz64_1
    try clear hfz64_2
    try clear hfz9_0
    try clear hfz9_1
    try clear hfz9_2
    obtain ⟨kq, x55_16, rfl, HA, HJ16, HO_11, HO_206000, HO_212000, HO_222000, BK189, BK205, BK211, BK221, HB⟩ := hcut
    cases kq with
    | zero => exact absurd HA.out (by simp [laws_FnExactGapInsert.j0])
    | succ kj16 =>
     have H := HA.out
     clear HA
     simp only [laws_FnExactGapInsert.j0] at H
     by_cases c66 : x55_16 = true
     ·subst c66
      have H1 : (some false) = some r := by rw [if_pos rfl] at H; exact H
      clear H
      have H := H1
      clear H1
      obtain rfl := Option.some.inj H
      go_wp2
      go_ret
      exact ⟨by first | rfl | (simp [errW_none, errW_some] <;> rfl) | (simp [*, errW_none, errW_some] <;> rfl), by repeat (first | (with_reducible first | exact HB.out | apply below_alloc | apply pw_below_drewN | apply below_drew1 | refine below_set ?_ GE189.out | refine below_set ?_ GE205.out | refine below_set ?_ GE211.out | refine below_set ?_ GE221.out) | exact HB.out)⟩
     ·replace c66 := Bool.eq_false_iff.mpr c66
      subst c66
      have H1 : ((laws_toGap.f kj16 l0_0 a0_1 a0_2).bind fun bt223 => ((laws_eqGap.f kj16 t206 t209 t210 bt223.1 bt223.2.1 bt223.2.2).bind fun t228 => (if t228 = true then ((laws_toInt32S.f kj16 l2).bind fun t229 => ((laws_eqInt32S.f kj16 t212 t229).bind fun t232 => (if t232 = true then ((laws_markGap.f kj16 t206 t209 t210 1).bind fun bt233 => ((laws_markInt32S.f kj16 t212 bt233.1).bind fun bt235 => (if bt235.1 < 0 then (laws_FnExactGapInsert.j1 kj16 a1 l2 t204 true l0_0 a0_1 a0_2 t199 t202 t203 t215 t218 t219) else ((laws_eqGap.f kj16 t215 t218 t219 t199 t202 t203).bind fun t237 => (if t237 = true then (laws_FnExactGapInsert.j1 kj16 a1 l2 t204 (t220 != t204) l0_0 a0_1 a0_2 t199 t202 t203 t215 t218 t219) else (laws_FnExactGapInsert.j1 kj16 a1 l2 t204 true l0_0 a0_1 a0_2 t199 t202 t203 t215 t218 t219)))))) else (some false)))) else (some false)))) = some r := by rw [if_neg (show ¬ (false = true) by decide)] at H; exact H
      clear H
      have H := H1
      clear H1
      replace H := Option.bind_eq_some_iff.mp H
      obtain ⟨⟨t223, t226, t227⟩, A670, H⟩ := H
      replace H : ((laws_eqGap.f kj16 t206 t209 t210 t223 t226 t227).bind fun t228 => (if t228 = true then ((laws_toInt32S.f kj16 l2).bind fun t229 => ((laws_eqInt32S.f kj16 t212 t229).bind fun t232 => (if t232 = true then ((laws_markGap.f kj16 t206 t209 t210 1).bind fun bt233 => ((laws_markInt32S.f kj16 t212 bt233.1).bind fun bt235 => (if bt235.1 < 0 then (laws_FnExactGapInsert.j1 kj16 a1 l2 t204 true l0_0 a0_1 a0_2 t199 t202 t203 t215 t218 t219) else ((laws_eqGap.f kj16 t215 t218 t219 t199 t202 t203).bind fun t237 => (if t237 = true then (laws_FnExactGapInsert.j1 kj16 a1 l2 t204 (t220 != t204) l0_0 a0_1 a0_2 t199 t202 t203 t215 t218 t219) else (laws_FnExactGapInsert.j1 kj16 a1 l2 t204 true l0_0 a0_1 a0_2 t199 t202 t203 t215 t218 t219)))))) else (some false)))) else (some false))) = some r := H
      have A67 := Aside0.mk A670
      clear A670
      replace H := Option.bind_eq_some_iff.mp H
      obtain ⟨t228, A680, H⟩ := H
      replace H : (if t228 = true then ((laws_toInt32S.f kj16 l2).bind fun t229 => ((laws_eqInt32S.f kj16 t212 t229).bind fun t232 => (if t232 = true then ((laws_markGap.f kj16 t206 t209 t210 1).bind fun bt233 => ((laws_markInt32S.f kj16 t212 bt233.1).bind fun bt235 => (if bt235.1 < 0 then (laws_FnExactGapInsert.j1 kj16 a1 l2 t204 true l0_0 a0_1 a0_2 t199 t202 t203 t215 t218 t219) else ((laws_eqGap.f kj16 t215 t218 t219 t199 t202 t203).bind fun t237 => (if t237 = true then (laws_FnExactGapInsert.j1 kj16 a1 l2 t204 (t220 != t204) l0_0 a0_1 a0_2 t199 t202 t203 t215 t218 t219) else (laws_FnExactGapInsert.j1 kj16 a1 l2 t204 true l0_0 a0_1 a0_2 t199 t202 t203 t215 t218 t219)))))) else (some false)))) else (some false)) = some r := H
      have A68 := Aside0.mk A680
      clear A680
      by_cases c69 : t228 = true
      ·subst c69
       have H1 : ((laws_toInt32S.f kj16 l2).bind fun t229 => ((laws_eqInt32S.f kj16 t212 t229).bind fun t232 => (if t232 = true then ((laws_markGap.f kj16 t206 t209 t210 1).bind fun bt233 => ((laws_markInt32S.f kj16 t212 bt233.1).bind fun bt235 => (if bt235.1 < 0 then (laws_FnExactGapInsert.j1 kj16 a1 l2 t204 true l0_0 a0_1 a0_2 t199 t202 t203 t215 t218 t219) else ((laws_eqGap.f kj16 t215 t218 t219 t199 t202 t203).bind fun t237 => (if t237 = true then (laws_FnExactGapInsert.j1 kj16 a1 l2 t204 (t220 != t204) l0_0 a0_1 a0_2 t199 t202 t203 t215 t218 t219) else (laws_FnExactGapInsert.j1 kj16 a1 l2 t204 true l0_0 a0_1 a0_2 t199 t202 t203 t215 t218 t219)))))) else (some false)))) = some r := by rw [if_pos rfl] at H; exact H
       clear H
       have H := H1
       clear H1
       replace H := Option.bind_eq_some_iff.mp H
       obtain ⟨t229, A700, H⟩ := H
       replace H : ((laws_eqInt32S.f kj16 t212 t229).bind fun t232 => (if t232 = true then ((laws_markGap.f kj16 t206 t209 t210 1).bind fun bt233 => ((laws_markInt32S.f kj16 t212 bt233.1).bind fun bt235 => (if bt235.1 < 0 then (laws_FnExactGapInsert.j1 kj16 a1 l2 t204 true l0_0 a0_1 a0_2 t199 t202 t203 t215 t218 t219) else ((laws_eqGap.f kj16 t215 t218 t219 t199 t202 t203).bind fun t237 => (if t237 = true then (laws_FnExactGapInsert.j1 kj16 a1 l2 t204 (t220 != t204) l0_0 a0_1 a0_2 t199 t202 t203 t215 t218 t219) else (laws_FnExactGapInsert.j1 kj16 a1 l2 t204 true l0_0 a0_1 a0_2 t199 t202 t203 t215 t218 t219)))))) else (some false))) = some r := H
       have A70 := Aside0.mk A700
       clear A700
       replace H := Option.bind_eq_some_iff.mp H
       obtain ⟨t232, A710, H⟩ := H
       replace H : (if t232 = true then ((laws_markGap.f kj16 t206 t209 t210 1).bind fun bt233 => ((laws_markInt32S.f kj16 t212 bt233.1).bind fun bt235 => (if bt235.1 < 0 then (laws_FnExactGapInsert.j1 kj16 a1 l2 t204 true l0_0 a0_1 a0_2 t199 t202 t203 t215 t218 t219) else ((laws_eqGap.f kj16 t215 t218 t219 t199 t202 t203).bind fun t237 => (if t237 = true then (laws_FnExactGapInsert.j1 kj16 a1 l2 t204 (t220 != t204) l0_0 a0_1 a0_2 t199 t202 t203 t215 t218 t219) else (laws_FnExactGapInsert.j1 kj16 a1 l2 t204 true l0_0 a0_1 a0_2 t199 t202 t203 t215 t218 t219)))))) else (some false)) = some r := H
       have A71 := Aside0.mk A710
       clear A710
       by_cases c72 : t232 = true
       ·subst c72
        have H1 : ((laws_markGap.f kj16 t206 t209 t210 1).bind fun bt233 => ((laws_markInt32S.f kj16 t212 bt233.1).bind fun bt235 => (if bt235.1 < 0 then (laws_FnExactGapInsert.j1 kj16 a1 l2 t204 true l0_0 a0_1 a0_2 t199 t202 t203 t215 t218 t219) else ((laws_eqGap.f kj16 t215 t218 t219 t199 t202 t203).bind fun t237 => (if t237 = true then (laws_FnExactGapInsert.j1 kj16 a1 l2 t204 (t220 != t204) l0_0 a0_1 a0_2 t199 t202 t203 t215 t218 t219) else (laws_FnExactGapInsert.j1 kj16 a1 l2 t204 true l0_0 a0_1 a0_2 t199 t202 t203 t215 t218 t219)))))) = some r := by rw [if_pos rfl] at H; exact H
        clear H
        have H := H1
        clear H1
        replace H := Option.bind_eq_some_iff.mp H
        obtain ⟨⟨t233, t234⟩, A730, H⟩ := H
        replace H : ((laws_markInt32S.f kj16 t212 t233).bind fun bt235 => (if bt235.1 < 0 then (laws_FnExactGapInsert.j1 kj16 a1 l2 t204 true l0_0 a0_1 a0_2 t199 t202 t203 t215 t218 t219) else ((laws_eqGap.f kj16 t215 t218 t219 t199 t202 t203).bind fun t237 => (if t237 = true then (laws_FnExactGapInsert.j1 kj16 a1 l2 t204 (t220 != t204) l0_0 a0_1 a0_2 t199 t202 t203 t215 t218 t219) else (laws_FnExactGapInsert.j1 kj16 a1 l2 t204 true l0_0 a0_1 a0_2 t199 t202 t203 t215 t218 t219))))) = some r := H
        have A73 := Aside0.mk A730
        clear A730
        replace H := Option.bind_eq_some_iff.mp H
        obtain ⟨⟨t235, t236⟩, A740, H⟩ := H
        replace H : (if t235 < 0 then (laws_FnExactGapInsert.j1 kj16 a1 l2 t204 true l0_0 a0_1 a0_2 t199 t202 t203 t215 t218 t219) else ((laws_eqGap.f kj16 t215 t218 t219 t199 t202 t203).bind fun t237 => (if t237 = true then (laws_FnExactGapInsert.j1 kj16 a1 l2 t204 (t220 != t204) l0_0 a0_1 a0_2 t199 t202 t203 t215 t218 t219) else (laws_FnExactGapInsert.j1 kj16 a1 l2 t204 true l0_0 a0_1 a0_2 t199 t202 t203 t215 t218 t219)))) = some r := H
        have A74 := Aside0.mk A740
        clear A740
        have HC75 := Aside0.mk H
        clear H
        try go_wp2
        have n0_ := Aside0.mk (Kd.R_drew HO_11.out)
        have n1_ := Aside0.mk (Kd.R_drew HO_206000.out)
        have n2_ := Aside0.mk (Kd.R_drew HO_212000.out)
        have n3_ := Aside0.mk (Kd.R_drew HO_222000.out)
        have n4_ := Aside0.mk (blk_drew BK189.out)
        have n5_ := Aside0.mk (blk_drew BK205.out)
        have n6_ := Aside0.mk (blk_drew BK211.out)
        have n7_ := Aside0.mk (blk_drew BK221.out)
        have n8_ := Aside0.mk (below_drew1 HB.out)
        clear HO_11
        clear HO_206000
        clear HO_212000
        clear HO_222000
        clear BK189
        clear BK205
        clear BK211
        clear BK221
        clear HB
        have HO_11 := n0_
        have HO_206000 := n1_
        have HO_212000 := n2_
        have HO_222000 := n3_
        have BK189 := n4_
        have BK205 := n5_
        have BK211 := n6_
        have BK221 := n7_
        have HB := n8_
        clear n0_ n1_ n2_ n3_ n4_ n5_ n6_ n7_ n8_
        refine start_ (n := 5) (S := fun w' => w'.cell? ⟨gb211, 0, none⟩ = some (.slice Ao34 t206.length co34) ∧ w'.cell? ⟨gb211, 1, none⟩ = some (.int .i64 t209) ∧ w'.cell? ⟨gb211, 2, none⟩ = some (.int .i64 t210) ∧ w'.cell? ⟨gb189, 0, none⟩ = some (.slice A0_0 l0_0.length c0_0) ∧ w'.cell? ⟨gb189, 1, none⟩ = some (.int .i64 a0_1) ∧ w'.cell? ⟨gb189, 2, none⟩ = some (.int .i64 a0_2)) (ds := []) #[false, false, false, false, false] (by kernel_rfl) rfl rfl ⟨(blk_cell BK211.out 0).trans rfl, (blk_cell BK211.out 1).trans rfl, (blk_cell BK211.out 2).trans rfl, (blk_cell BK189.out 0).trans rfl, (blk_cell BK189.out 1).trans rfl, (blk_cell BK189.out 2).trans rfl⟩ (fun hHeld => ?_)
        generalize wc.drew = w76 at HO_11 HO_206000 HO_212000 HO_222000 BK189 BK205 BK211 BK221 HB hHeld ⊢
        refine take_ (i := 0) (N := some 56) (v := ?_) (a' := ?_) #[true, false, false, false, false] rfl rfl (by kernel_rfl) (fun _ _ _ h => h) (Or.inl ⟨by rfl, ?_⟩) hHeld ?_ ?_
        rotate_left
        ·rintro w' ⟨s0, s1, s2, s3, s4, s5⟩
         go_simp
         with_reducible rfl
        rotate_left
        ·simp only [Act.put, List.setIfInBounds_toArray, List.set_cons_zero, List.set_cons_succ, i64_w, i32_w]
         rfl
        refine take_ (i := 1) (N := some 57) (v := ?_) (a' := ?_) #[true, true, false, false, false] rfl rfl (by kernel_rfl) (fun _ _ _ h => h) (Or.inl ⟨by rfl, ?_⟩) hHeld ?_ ?_
        rotate_left
        ·rintro w' ⟨s0, s1, s2, s3, s4, s5⟩
         go_simp
         with_reducible rfl
        rotate_left
        ·simp only [Act.put, List.setIfInBounds_toArray, List.set_cons_zero, List.set_cons_succ, i64_w, i32_w]
         rfl
        refine one_ (i := 2) (N := some 58) #[true, true, true, false, false] rfl rfl (by kernel_rfl) (by decide) (fun K hK => ?_)
        refine goes_ Tryd.func12 (by kernel_rfl) rfl #[.agg #[.slice A0_0 l0_0.length c0_0, .int .i64 a0_1, .int .i64 a0_2]] (by rfl) rfl rfl (by (try simp only [List.map_toArray, List.map_cons, List.map_nil]); first | done | rfl | (simp only [List.length_drop, List.length_take]; rfl)) ?_
        with_reducible refine (laws_toGap.calls kj16 _ _ l0_0 a0_1 a0_2 t223 t226 t227 _ ?side1 ?side2 A67.out).mono ?_
        (case side1 => repeat (first | exact (Kd.C_below HR0_0.out HB.out) | (with_reducible refine Kd.C_alloc ?_ _) | (with_reducible refine Kd.C_drewN ?_ _) | (with_reducible refine Kd.C_drew ?_)))
        (case side2 => exact HC0_0.out)
        rintro e w77 ⟨v224, rfl, ho0, hb⟩
        refine ⟨_, rfl, ?_⟩
        have n0_ := Aside0.mk (Kd.R_elder' (rD HO_11.out) (Kd.R_base ho0) hb)
        have n1_ := Aside0.mk (Kd.R_elder' (rD HO_206000.out) (Kd.R_base ho0) hb)
        have n2_ := Aside0.mk (Kd.R_elder' (rD HO_212000.out) (Kd.R_base ho0) hb)
        have n3_ := Aside0.mk (Kd.R_elder' (rD HO_222000.out) (Kd.R_base ho0) hb)
        have n4_ := Aside0.mk (Kd.R_lower (Kd.R_new' (Kd.R_new' (Kd.R_new' (Kd.R_new' ho0 (Kd.R_lt (rD HO_11.out))) (Kd.R_lt (rD HO_206000.out))) (Kd.R_lt (rD HO_212000.out))) (Kd.R_lt (rD HO_222000.out))) (below_size (hbD HB)))
        have n5_ := Aside0.mk (blk_below (bkD BK189) hb)
        have n6_ := Aside0.mk (blk_below (bkD BK205) hb)
        have n7_ := Aside0.mk (blk_below (bkD BK211) hb)
        have n8_ := Aside0.mk (blk_below (bkD BK221) hb)
        have n9_ := Aside0.mk (below_step (hbD HB) hb)
        clear HO_11
        clear HO_206000
        clear HO_212000
        clear HO_222000
        clear BK189
        clear BK205
        clear BK211
        clear BK221
        clear HB
        have HO_11 := n0_
        have HO_206000 := n1_
        have HO_212000 := n2_
        have HO_222000 := n3_
        have HO225 := n4_
        have BK189 := n5_
        have BK205 := n6_
        have BK211 := n7_
        have BK221 := n8_
        have HB := n9_
        clear n0_ n1_ n2_ n3_ n4_ n5_ n6_ n7_ n8_ n9_
        (try clear hb)
        (try clear hb2)
        (try clear hk)
        (try clear hi)
        (try clear ho0)
        obtain ⟨Ao78, co78, eo78⟩ := Kd.R_slice HO225.out
        (first | subst eo78 | (injection eo78 with f1_ f2_ f3_; have f4_ := f1_.symm; have f5_ := f3_.symm; clear f1_ f2_ f3_; subst f4_; subst f5_))
        refine hK.out _ _ ⟨(blk_cell BK211.out 0).trans rfl, (blk_cell BK211.out 1).trans rfl, (blk_cell BK211.out 2).trans rfl, (blk_cell BK189.out 0).trans rfl, (blk_cell BK189.out 1).trans rfl, (blk_cell BK189.out 2).trans rfl⟩ (fun hHeld => ?_)
        clear hK K
        refine norm_ (a' := ?_) ?_ ?_
        rotate_left
        ·show Act.put _ (some 58) _ = _
         simp only [Act.put, List.setIfInBounds_toArray, List.set_cons_zero, List.set_cons_succ, i64_w, i32_w]
         rfl
        refine one_ (i := 3) (N := some 59) #[true, true, true, true, false] rfl rfl (by kernel_rfl) (by decide) (fun K hK => ?_)
        refine goes_ Tryd.func15 (by kernel_rfl) rfl #[.agg #[.slice Ao34 t206.length co34, .int .i64 t209, .int .i64 t210], .agg #[.slice Ao78 t223.length co78, .int .i64 t226, .int .i64 t227]] (by rfl) rfl rfl (by (try simp only [List.map_toArray, List.map_cons, List.map_nil]); first | done | rfl | (simp only [List.length_drop, List.length_take]; rfl)) ?_
        with_reducible refine (laws_eqGap.calls kj16 _ _ t206 t209 t210 _ _ t223 t226 t227 true _ ?side1 ?side2 ?side3 ?side4 A68.out).mono ?_
        (case side1 => repeat (first | exact (Kd.R_reads' HO_212000.out).2.2 | (with_reducible refine Kd.C_alloc ?_ _) | (with_reducible refine Kd.C_drewN ?_ _) | (with_reducible refine Kd.C_drew ?_)))
        (case side2 => exact (Kd.R_reads' HO_212000.out).2.1)
        (case side3 => repeat (first | exact (Kd.R_reads' HO225.out).2.2 | (with_reducible refine Kd.C_alloc ?_ _) | (with_reducible refine Kd.C_drewN ?_ _) | (with_reducible refine Kd.C_drew ?_)))
        (case side4 => exact (Kd.R_reads' HO225.out).2.1)
        rintro e w79 ⟨rfl, hb⟩
        refine ⟨_, rfl, ?_⟩
        have n0_ := Aside0.mk (Kd.R_below (rD HO_11.out) hb)
        have n1_ := Aside0.mk (Kd.R_below (rD HO_206000.out) hb)
        have n2_ := Aside0.mk (Kd.R_below (rD HO_212000.out) hb)
        have n3_ := Aside0.mk (Kd.R_below (rD HO_222000.out) hb)
        have n4_ := Aside0.mk (Kd.R_below (rD HO225.out) hb)
        have n5_ := Aside0.mk (blk_below (bkD BK189) hb)
        have n6_ := Aside0.mk (blk_below (bkD BK205) hb)
        have n7_ := Aside0.mk (blk_below (bkD BK211) hb)
        have n8_ := Aside0.mk (blk_below (bkD BK221) hb)
        have n9_ := Aside0.mk (below_step (hbD HB) hb)
        clear HO_11
        clear HO_206000
        clear HO_212000
        clear HO_222000
        clear HO225
        clear BK189
        clear BK205
        clear BK211
        clear BK221
        clear HB
        have HO_11 := n0_
        have HO_206000 := n1_
        have HO_212000 := n2_
        have HO_222000 := n3_
        have HO225 := n4_
        have BK189 := n5_
        have BK205 := n6_
        have BK211 := n7_
        have BK221 := n8_
        have HB := n9_
        clear n0_ n1_ n2_ n3_ n4_ n5_ n6_ n7_ n8_ n9_
        (try clear hb)
        (try clear hb2)
        (try clear hk)
        (try clear hi)
        refine hK.out _ _ ⟨(blk_cell BK211.out 0).trans rfl, (blk_cell BK211.out 1).trans rfl, (blk_cell BK211.out 2).trans rfl, (blk_cell BK189.out 0).trans rfl, (blk_cell BK189.out 1).trans rfl, (blk_cell BK189.out 2).trans rfl⟩ (fun hHeld => ?_)
        clear hK K
        refine norm_ (a' := ?_) ?_ ?_
        rotate_left
        ·show Act.put _ (some 59) _ = _
         simp only [Act.put, List.setIfInBounds_toArray, List.set_cons_zero, List.set_cons_succ, i64_w, i32_w]
         rfl
        refine pure_ (i := 4) (N := some 60) (v := ?_) (a' := ?_) #[true, true, true, true, true] rfl rfl (by kernel_rfl) (fun _ _ _ h => h) (Or.inl ⟨by rfl, ?_⟩) ?_ ?_
        rotate_left
        ·intro w'
         go_simp
         with_reducible rfl
        rotate_left
        ·simp only [Act.put, List.setIfInBounds_toArray, List.set_cons_zero, List.set_cons_succ, i64_w, i32_w]
         rfl
        refine done_ (by kernel_rfl) ?_
        go_upto_region 20 with (first | ((with_reducible refine gate_callee (f := 23) rfl ?_); refine goesL_ (some 63) rfl rfl Tryd.func23 (by kernel_rfl) rfl #[.slice A2 l2.length c2] rfl (by (try simp only [List.map_toArray, List.map_cons, List.map_nil]); first | done | rfl | (simp only [List.length_drop, List.length_take]; rfl)) ?_; (with_reducible refine (laws_toInt32S.calls kj16 _ _ l2 t229 _ ?side1 ?side2 A70.out).mono ?_); (case side1 => repeat (first | exact (Kd.C_below HR2.out HB.out) | (with_reducible refine Kd.C_alloc ?_ _) | (with_reducible refine Kd.C_drewN ?_ _) | (with_reducible refine Kd.C_drew ?_))); (case side2 => exact HC2.out); rintro e w80 ⟨v230, rfl, ho0, hb⟩; refine ⟨_, rfl, ?_⟩; have n0_ := Aside0.mk (Kd.R_elder' (rD HO_11.out) (Kd.R_base ho0) hb); have n1_ := Aside0.mk (Kd.R_elder' (rD HO_206000.out) (Kd.R_base ho0) hb); have n2_ := Aside0.mk (Kd.R_elder' (rD HO_212000.out) (Kd.R_base ho0) hb); have n3_ := Aside0.mk (Kd.R_elder' (rD HO_222000.out) (Kd.R_base ho0) hb); have n4_ := Aside0.mk (Kd.R_elder' (rD HO225.out) (Kd.R_base ho0) hb); have n5_ := Aside0.mk (Kd.R_lower (Kd.R_new' (Kd.R_new' (Kd.R_new' (Kd.R_new' (Kd.R_new' ho0 (Kd.R_lt (rD HO_11.out))) (Kd.R_lt (rD HO_206000.out))) (Kd.R_lt (rD HO_212000.out))) (Kd.R_lt (rD HO_222000.out))) (Kd.R_lt (rD HO225.out))) (below_size (hbD HB))); have n6_ := Aside0.mk (blk_below (bkD BK189) hb); have n7_ := Aside0.mk (blk_below (bkD BK205) hb); have n8_ := Aside0.mk (blk_below (bkD BK211) hb); have n9_ := Aside0.mk (blk_below (bkD BK221) hb); have n10_ := Aside0.mk (below_step (hbD HB) hb); clear HO_11; clear HO_206000; clear HO_212000; clear HO_222000; clear HO225; clear BK189; clear BK205; clear BK211; clear BK221; clear HB; have HO_11 := n0_; have HO_206000 := n1_; have HO_212000 := n2_; have HO_222000 := n3_; have HO225 := n4_; have HO231 := n5_; have BK189 := n6_; have BK205 := n7_; have BK211 := n8_; have BK221 := n9_; have HB := n10_; clear n0_ n1_ n2_ n3_ n4_ n5_ n6_ n7_ n8_ n9_ n10_; (try clear hb); (try clear hb2); (try clear hk); (try clear hi); (try clear ho0); obtain ⟨Ao81, co81, eo81⟩ := Kd.R_slice HO231.out; subst eo81) | ((with_reducible refine gate_callee (f := 14) rfl ?_); refine goesL_ (some 64) rfl rfl Tryd.func14 (by kernel_rfl) rfl #[.slice Ao40 t212.length co40, .slice Ao81 t229.length co81] rfl (by (try simp only [List.map_toArray, List.map_cons, List.map_nil]); first | done | rfl | (simp only [List.length_drop, List.length_take]; rfl)) ?_; (with_reducible refine (laws_eqInt32S.calls kj16 _ _ t212 _ _ t229 true _ ?side1 ?side2 ?side3 ?side4 A71.out).mono ?_); (case side1 => repeat (first | exact (Kd.R_reads' HO_11.out).2.2 | (with_reducible refine Kd.C_alloc ?_ _) | (with_reducible refine Kd.C_drewN ?_ _) | (with_reducible refine Kd.C_drew ?_))); (case side2 => exact (Kd.R_reads' HO_11.out).2.1); (case side3 => repeat (first | exact (Kd.R_reads' HO231.out).2.2 | (with_reducible refine Kd.C_alloc ?_ _) | (with_reducible refine Kd.C_drewN ?_ _) | (with_reducible refine Kd.C_drew ?_))); (case side4 => exact (Kd.R_reads' HO231.out).2.1); rintro e w' ⟨rfl, ⟨nd, rfl⟩⟩; refine ⟨_, rfl, ?_⟩; have hnb82 := NB211_189.out; have hnc82 := NB189_211.out; have hnb83 := NB211_205.out; have hnc83 := NB205_211.out; have hnb84 := NB211_221.out; have hnc84 := NB221_211.out; have hcz85_0 : w80.cell? ⟨gb211, 0, none⟩ = some (.slice Ao34 t206.length co34) := (blk_cell BK211.out 0).trans rfl; have hcz85_1 : w80.cell? ⟨gb211, 1, none⟩ = some (.int .i64 t209) := (blk_cell BK211.out 1).trans rfl; have hcz85_2 : w80.cell? ⟨gb211, 2, none⟩ = some (.int .i64 t210) := (blk_cell BK211.out 2).trans rfl; have hfz85_0 := blk_frozen BK211.out 0; have hfz85_1 := blk_frozen BK211.out 1; have hfz85_2 := blk_frozen BK211.out 2) | ((with_reducible refine gate_callee (f := 16) rfl ?_); refine goesL_ (some 68) rfl rfl Tryd.func16 (by kernel_rfl) rfl #[.agg #[.slice Ao34 t206.length co34, .int .i64 t209, .int .i64 t210], .int .i64 1] rfl (by (try simp only [List.map_toArray, List.map_cons, List.map_nil]); first | done | rfl | (simp only [List.length_drop, List.length_take]; rfl)) ?_; (with_reducible refine (laws_markGap.calls kj16 (fun k_ => some k_ = (.slice Ao34 t206.length co34 : Value).ownBlock) (.slice Ao34 t206.length co34) t206 t209 t210 1 t233 t234 w _ ?side1 ?side2 A73.out).mono ?_); (case side1 => repeat (first | (with_reducible first | exact HB.out | apply below_alloc | apply pw_below_drewN | apply below_drew1 | refine below_set ?_ GE189.out | refine below_set ?_ GE205.out | refine below_set ?_ GE211.out | refine below_set ?_ GE221.out) | exact HB.out)); (case side2 => exact Kd.R_tight rfl HO_212000.out); rintro e w86 ⟨rfl, hy0, hb, hkp⟩; refine ⟨_, rfl, ?_⟩; have n0_ := Aside0.mk (Kd.R_mono (ok' := fun k_ => some k_ ≠ (.slice Ao28 t199.length co28 : Value).ownBlock ∧ some k_ ≠ (.slice Ao34 t206.length co34 : Value).ownBlock ∧ some k_ ≠ (.slice Ao43 t215.length co43 : Value).ownBlock ∧ some k_ ≠ (.slice Ao78 t223.length co78 : Value).ownBlock ∧ some k_ ≠ (.slice Ao81 t229.length co81 : Value).ownBlock) (Kd.R_keptB (HO_11.out) hkp (fun k_ hk_ hs_ => (hk_.1.1.2.1) hs_)) (fun k_ hk_ => ⟨hk_.1.1.1.1, hk_.1.1.1.2.1, hk_.1.1.1.2.2, hk_.1.1.2, hk_.1.2⟩)); have n1_ := Aside0.mk (Kd.R_mono (ok' := fun k_ => some k_ ≠ (.slice Ao40 t212.length co40 : Value).ownBlock ∧ some k_ ≠ (.slice Ao34 t206.length co34 : Value).ownBlock ∧ some k_ ≠ (.slice Ao43 t215.length co43 : Value).ownBlock ∧ some k_ ≠ (.slice Ao78 t223.length co78 : Value).ownBlock ∧ some k_ ≠ (.slice Ao81 t229.length co81 : Value).ownBlock) (Kd.R_keptB (HO_206000.out) hkp (fun k_ hk_ hs_ => (hk_.1.1.2.1) hs_)) (fun k_ hk_ => ⟨hk_.1.1.1.1, hk_.1.1.1.2.1, hk_.1.1.1.2.2, hk_.1.1.2, hk_.1.2⟩)); have n2_ := Aside0.mk (Kd.R_reok rfl hy0 (fun k_ e_ => HO_212000.out.1 k_ e_)); have n3_ := Aside0.mk (Kd.R_mono (ok' := fun k_ => some k_ ≠ (.slice Ao40 t212.length co40 : Value).ownBlock ∧ some k_ ≠ (.slice Ao28 t199.length co28 : Value).ownBlock ∧ some k_ ≠ (.slice Ao34 t206.length co34 : Value).ownBlock ∧ some k_ ≠ (.slice Ao78 t223.length co78 : Value).ownBlock ∧ some k_ ≠ (.slice Ao81 t229.length co81 : Value).ownBlock) (Kd.R_keptB (HO_222000.out) hkp (fun k_ hk_ hs_ => (hk_.1.1.2.2) hs_)) (fun k_ hk_ => ⟨hk_.1.1.1.1, hk_.1.1.1.2.1, hk_.1.1.1.2.2, hk_.1.1.2, hk_.1.2⟩)); have n4_ := Aside0.mk (blk_kept (bkD BK189) hkp (fun hs_ => (fun e_ => (Kd.R_ne HO_212000.out BK189.out (by decide)) e_) hs_)); have n5_ := Aside0.mk (blk_kept (bkD BK205) hkp (fun hs_ => (fun e_ => (Kd.R_ne HO_212000.out BK205.out (by decide)) e_) hs_)); have n6_ := Aside0.mk (blk_kept (bkD BK211) hkp (fun hs_ => (fun e_ => (Kd.R_ne HO_212000.out BK211.out (by decide)) e_) hs_)); have n7_ := Aside0.mk (blk_kept (bkD BK221) hkp (fun hs_ => (fun e_ => (Kd.R_ne HO_212000.out BK221.out (by decide)) e_) hs_)); have n8_ := Aside0.mk (Kd.R_mono (ok' := fun k_ => some k_ ≠ (.slice Ao40 t212.length co40 : Value).ownBlock ∧ some k_ ≠ (.slice Ao28 t199.length co28 : Value).ownBlock ∧ some k_ ≠ (.slice Ao34 t206.length co34 : Value).ownBlock ∧ some k_ ≠ (.slice Ao43 t215.length co43 : Value).ownBlock ∧ some k_ ≠ (.slice Ao81 t229.length co81 : Value).ownBlock) (Kd.R_keptB (HO225.out) hkp (fun k_ hk_ hs_ => (hk_.1.1.2) hs_)) (fun k_ hk_ => ⟨hk_.1.1.1.1.1.2, hk_.1.1.1.1.2, hk_.1.1.1.2, hk_.1.1.2, hk_.1.2⟩)); have n9_ := Aside0.mk (Kd.R_mono (ok' := fun k_ => some k_ ≠ (.slice Ao40 t212.length co40 : Value).ownBlock ∧ some k_ ≠ (.slice Ao28 t199.length co28 : Value).ownBlock ∧ some k_ ≠ (.slice Ao34 t206.length co34 : Value).ownBlock ∧ some k_ ≠ (.slice Ao43 t215.length co43 : Value).ownBlock ∧ some k_ ≠ (.slice Ao78 t223.length co78 : Value).ownBlock) (Kd.R_keptB (HO231.out) hkp (fun k_ hk_ hs_ => (hk_.1.1.2) hs_)) (fun k_ hk_ => ⟨hk_.1.1.1.1.1.2, hk_.1.1.1.1.2, hk_.1.1.1.2, hk_.1.1.2, hk_.1.2⟩)); have n10_ := Aside0.mk (hb); clear HO_11; clear HO_206000; clear HO_212000; clear HO_222000; clear BK189; clear BK205; clear BK211; clear BK221; clear HO225; clear HO231; clear HB; have HO_11 := n0_; have HO_206000 := n1_; have HO_212000 := n2_; have HO_222000 := n3_; have BK189 := n4_; have BK205 := n5_; have BK211 := n6_; have BK221 := n7_; have HO225 := n8_; have HO231 := n9_; have HB := n10_; clear n0_ n1_ n2_ n3_ n4_ n5_ n6_ n7_ n8_ n9_ n10_; (try clear hb); (try clear hkp); (try clear hy0)) | ((with_reducible refine gate_callee (f := 17) rfl ?_); refine goesL_ (some 71) rfl rfl Tryd.func17 (by kernel_rfl) rfl #[.slice Ao40 t212.length co40, .int .i64 t233] rfl (by (try simp only [List.map_toArray, List.map_cons, List.map_nil]); first | done | rfl | (simp only [List.length_drop, List.length_take]; rfl)) ?_; (with_reducible refine (laws_markInt32S.calls kj16 (fun k_ => some k_ = (.slice Ao40 t212.length co40 : Value).ownBlock) (.slice Ao40 t212.length co40) t212 t233 t235 t236 w _ ?side1 ?side2 A74.out).mono ?_); (case side1 => repeat (first | (with_reducible first | exact HB.out | apply below_alloc | apply pw_below_drewN | apply below_drew1 | refine below_set ?_ GE189.out | refine below_set ?_ GE205.out | refine below_set ?_ GE211.out | refine below_set ?_ GE221.out) | exact HB.out)); (case side2 => exact Kd.R_tight rfl HO_11.out); rintro e w87 ⟨rfl, hy0, hb, hkp⟩; refine ⟨_, rfl, ?_⟩; have n0_ := Aside0.mk (Kd.R_reok rfl hy0 (fun k_ e_ => HO_11.out.1 k_ e_)); have n1_ := Aside0.mk (Kd.R_mono (ok' := fun k_ => some k_ ≠ (.slice Ao40 t212.length co40 : Value).ownBlock ∧ some k_ ≠ (.slice Ao34 t206.length co34 : Value).ownBlock ∧ some k_ ≠ (.slice Ao43 t215.length co43 : Value).ownBlock ∧ some k_ ≠ (.slice Ao78 t223.length co78 : Value).ownBlock ∧ some k_ ≠ (.slice Ao81 t229.length co81 : Value).ownBlock) (Kd.R_keptB (HO_206000.out) hkp (fun k_ hk_ hs_ => (hk_.1) hs_)) (fun k_ hk_ => ⟨hk_.1.1, hk_.1.2.1, hk_.1.2.2.1, hk_.1.2.2.2.1, hk_.1.2.2.2.2⟩)); have n2_ := Aside0.mk (Kd.R_mono (ok' := fun k_ => some k_ ≠ (.slice Ao40 t212.length co40 : Value).ownBlock ∧ some k_ ≠ (.slice Ao28 t199.length co28 : Value).ownBlock ∧ some k_ ≠ (.slice Ao43 t215.length co43 : Value).ownBlock ∧ some k_ ≠ (.slice Ao78 t223.length co78 : Value).ownBlock ∧ some k_ ≠ (.slice Ao81 t229.length co81 : Value).ownBlock) (Kd.R_keptB (HO_212000.out) hkp (fun k_ hk_ hs_ => (hk_.1.1.1) hs_)) (fun k_ hk_ => ⟨hk_.1.1.1.1, hk_.1.1.1.2.1, hk_.1.1.1.2.2, hk_.1.1.2, hk_.1.2⟩)); have n3_ := Aside0.mk (Kd.R_mono (ok' := fun k_ => some k_ ≠ (.slice Ao40 t212.length co40 : Value).ownBlock ∧ some k_ ≠ (.slice Ao28 t199.length co28 : Value).ownBlock ∧ some k_ ≠ (.slice Ao34 t206.length co34 : Value).ownBlock ∧ some k_ ≠ (.slice Ao78 t223.length co78 : Value).ownBlock ∧ some k_ ≠ (.slice Ao81 t229.length co81 : Value).ownBlock) (Kd.R_keptB (HO_222000.out) hkp (fun k_ hk_ hs_ => (hk_.1) hs_)) (fun k_ hk_ => ⟨hk_.1.1, hk_.1.2.1, hk_.1.2.2.1, hk_.1.2.2.2.1, hk_.1.2.2.2.2⟩)); have n4_ := Aside0.mk (blk_kept (bkD BK189) hkp (fun hs_ => (fun e_ => (Kd.R_ne HO_11.out BK189.out (by decide)) e_) hs_)); have n5_ := Aside0.mk (blk_kept (bkD BK205) hkp (fun hs_ => (fun e_ => (Kd.R_ne HO_11.out BK205.out (by decide)) e_) hs_)); have n6_ := Aside0.mk (blk_kept (bkD BK211) hkp (fun hs_ => (fun e_ => (Kd.R_ne HO_11.out BK211.out (by decide)) e_) hs_)); have n7_ := Aside0.mk (blk_kept (bkD BK221) hkp (fun hs_ => (fun e_ => (Kd.R_ne HO_11.out BK221.out (by decide)) e_) hs_)); have n8_ := Aside0.mk (Kd.R_mono (ok' := fun k_ => some k_ ≠ (.slice Ao40 t212.length co40 : Value).ownBlock ∧ some k_ ≠ (.slice Ao28 t199.length co28 : Value).ownBlock ∧ some k_ ≠ (.slice Ao34 t206.length co34 : Value).ownBlock ∧ some k_ ≠ (.slice Ao43 t215.length co43 : Value).ownBlock ∧ some k_ ≠ (.slice Ao81 t229.length co81 : Value).ownBlock) (Kd.R_keptB (HO225.out) hkp (fun k_ hk_ hs_ => (hk_.1) hs_)) (fun k_ hk_ => ⟨hk_.1.1, hk_.1.2.1, hk_.1.2.2.1, hk_.1.2.2.2.1, hk_.1.2.2.2.2⟩)); have n9_ := Aside0.mk (Kd.R_mono (ok' := fun k_ => some k_ ≠ (.slice Ao40 t212.length co40 : Value).ownBlock ∧ some k_ ≠ (.slice Ao28 t199.length co28 : Value).ownBlock ∧ some k_ ≠ (.slice Ao34 t206.length co34 : Value).ownBlock ∧ some k_ ≠ (.slice Ao43 t215.length co43 : Value).ownBlock ∧ some k_ ≠ (.slice Ao78 t223.length co78 : Value).ownBlock) (Kd.R_keptB (HO231.out) hkp (fun k_ hk_ hs_ => (hk_.1) hs_)) (fun k_ hk_ => ⟨hk_.1.1, hk_.1.2.1, hk_.1.2.2.1, hk_.1.2.2.2.1, hk_.1.2.2.2.2⟩)); have n10_ := Aside0.mk (hb); clear HO_11; clear HO_206000; clear HO_212000; clear HO_222000; clear BK189; clear BK205; clear BK211; clear BK221; clear HO225; clear HO231; clear HB; have HO_11 := n0_; have HO_206000 := n1_; have HO_212000 := n2_; have HO_222000 := n3_; have BK189 := n4_; have BK205 := n5_; have BK211 := n6_; have BK221 := n7_; have HO225 := n8_; have HO231 := n9_; have HB := n10_; clear n0_ n1_ n2_ n3_ n4_ n5_ n6_ n7_ n8_ n9_ n10_; (try clear hb); (try clear hkp); (try clear hy0)))
        (try simp only [Act.put, List.setIfInBounds_toArray, List.set_cons_zero, List.set_cons_succ])
        go_cut [84] (fun v84 wc => ∃ (kq : Nat) (x84_74 : Bool), v84 = .bool x84_74 ∧ Aside0 (laws_FnExactGapInsert.j1 kq a1 l2 t204 x84_74 l0_0 a0_1 a0_2 t199 t202 t203 t215 t218 t219 = some r) ∧ Aside0 (kq ≤ kj16) ∧ Aside0 (Kd.R (Kd.int .i32) 21 wc w.heap.size (fun k_ => some k_ ≠ ((.slice Ao34 t206.length co34) : Value).ownBlock ∧ some k_ ≠ ((.slice Ao43 t215.length co43) : Value).ownBlock) (.slice Ao28 t199.length co28) t199) ∧ Aside0 (Kd.R (Kd.int .i32) 21 wc w.heap.size (fun k_ => some k_ ≠ ((.slice Ao28 t199.length co28) : Value).ownBlock ∧ some k_ ≠ ((.slice Ao43 t215.length co43) : Value).ownBlock) (.slice Ao34 t206.length co34) t234) ∧ Aside0 (Kd.R (Kd.int .i32) 21 wc w.heap.size (fun k_ => some k_ ≠ ((.slice Ao28 t199.length co28) : Value).ownBlock ∧ some k_ ≠ ((.slice Ao34 t206.length co34) : Value).ownBlock) (.slice Ao43 t215.length co43) t215) ∧ Aside0 (wc.heap[gb189]? = some (.cells #[(.slice A0_0 l0_0.length c0_0), .int .i64 a0_1, .int .i64 a0_2] 24 (0, 0))) ∧ Aside0 (wc.heap[gb205]? = some (.cells #[(.slice Ao28 t199.length co28), .int .i64 t202, .int .i64 t203] 28 (0, 0))) ∧ Aside0 (wc.heap[gb211]? = some (.cells #[(.slice Ao34 t206.length co34), .int .i64 t209, .int .i64 t210] 28 (0, 0))) ∧ Aside0 (wc.heap[gb221]? = some (.cells #[(.slice Ao43 t215.length co43), .int .i64 t218, .int .i64 t219] 28 (0, 0))) ∧ Aside0 (Below w.heap.size w wc))
        case first =>
         have H := HC75.out
         clear HC75
         by_cases c88 : t235 < 0
         ·rw [if_pos c88] at H
          have c88b0 : decide (t235 < 0) = true := decide_eq_true c88
          clear c88
          (first | rw [c88b0] | (simp only [i64_w, i32_w]; rw [c88b0]) | skip)
          have H' := Aside0.mk H
          clear H
          go_wp2
          go_meet
          case rel => exact ⟨_, (true), (by first | rfl | (simp; done) | (simp [*]; done)), H', ⟨by have := HJ16.out; first | omega | exact Nat.le_refl _⟩, ⟨by (with_reducible repeat (first | apply Kd.R_alloc | apply Kd.R_drewN | apply Kd.R_drew)); exact Kd.R_mono HO_206000.out (fun _ hk => ⟨hk.2.1, hk.2.2.1⟩)⟩, ⟨by (with_reducible repeat (first | apply Kd.R_alloc | apply Kd.R_drewN | apply Kd.R_drew)); exact Kd.R_mono HO_212000.out (fun _ hk => ⟨hk.2.1, hk.2.2.1⟩)⟩, ⟨by (with_reducible repeat (first | apply Kd.R_alloc | apply Kd.R_drewN | apply Kd.R_drew)); exact Kd.R_mono HO_222000.out (fun _ hk => ⟨hk.2.1, hk.2.2.1⟩)⟩, ⟨by (with_reducible repeat (first | refine blk_drewN ?_ _ | refine blk_drew ?_ | refine blk_alloc ?_ _)); exact BK189.out⟩, ⟨by (with_reducible repeat (first | refine blk_drewN ?_ _ | refine blk_drew ?_ | refine blk_alloc ?_ _)); exact BK205.out⟩, ⟨by (with_reducible repeat (first | refine blk_drewN ?_ _ | refine blk_drew ?_ | refine blk_alloc ?_ _)); exact BK211.out⟩, ⟨by (with_reducible repeat (first | refine blk_drewN ?_ _ | refine blk_drew ?_ | refine blk_alloc ?_ _)); exact BK221.out⟩, ⟨by repeat (first | (with_reducible first | exact HB.out | apply below_alloc | apply pw_below_drewN | apply below_drew1 | refine below_set ?_ GE189.out | refine below_set ?_ GE205.out | refine below_set ?_ GE211.out | refine below_set ?_ GE221.out) | exact HB.out)⟩⟩
         ·rw [if_neg c88] at H
          have c88b0 : decide (t235 < 0) = false := decide_eq_false c88
          clear c88
          (first | rw [c88b0] | (simp only [i64_w, i32_w]; rw [c88b0]) | skip)
          replace H := Option.bind_eq_some_iff.mp H
          obtain ⟨t237, A890, H⟩ := H
          replace H : (if t237 = true then (laws_FnExactGapInsert.j1 kj16 a1 l2 t204 (t220 != t204) l0_0 a0_1 a0_2 t199 t202 t203 t215 t218 t219) else (laws_FnExactGapInsert.j1 kj16 a1 l2 t204 true l0_0 a0_1 a0_2 t199 t202 t203 t215 t218 t219)) = some r := H
          have A89 := Aside0.mk A890
          clear A890
          by_cases c90 : t237 = true
          ·subst c90
           have H1 : (laws_FnExactGapInsert.j1 kj16 a1 l2 t204 (t220 != t204) l0_0 a0_1 a0_2 t199 t202 t203 t215 t218 t219) = some r := by rw [if_pos rfl] at H; exact H
           clear H
           have H := H1
           clear H1
           have H' := Aside0.mk H
           clear H
           have hnb91 := NB221_189.out
           have hnc91 := NB189_221.out
           have hnb92 := NB221_205.out
           have hnc92 := NB205_221.out
           have hnb93 := NB221_211.out
           have hnc93 := NB211_221.out
           have hcz94_0 : w87.cell? ⟨gb221, 0, none⟩ = some (.slice Ao43 t215.length co43) := (blk_cell BK221.out 0).trans rfl
           have hcz94_1 : w87.cell? ⟨gb221, 1, none⟩ = some (.int .i64 t218) := (blk_cell BK221.out 1).trans rfl
           have hcz94_2 : w87.cell? ⟨gb221, 2, none⟩ = some (.int .i64 t219) := (blk_cell BK221.out 2).trans rfl
           have hfz94_0 := blk_frozen BK221.out 0
           have hfz94_1 := blk_frozen BK221.out 1
           have hfz94_2 := blk_frozen BK221.out 2
           have hnb95 := NB205_189.out
           have hnc95 := NB189_205.out
           have hnb96 := NB205_211.out
           have hnc96 := NB211_205.out
           have hcz97_0 : w87.cell? ⟨gb205, 0, none⟩ = some (.slice Ao28 t199.length co28) := (blk_cell BK205.out 0).trans rfl
           have hcz97_1 : w87.cell? ⟨gb205, 1, none⟩ = some (.int .i64 t202) := (blk_cell BK205.out 1).trans rfl
           have hcz97_2 : w87.cell? ⟨gb205, 2, none⟩ = some (.int .i64 t203) := (blk_cell BK205.out 2).trans rfl
           have hfz97_0 := blk_frozen BK205.out 0
           have hfz97_1 := blk_frozen BK205.out 1
           have hfz97_2 := blk_frozen BK205.out 2
           go_wp2_with (first | (go_at_call 15; (with_reducible refine (laws_eqGap.calls kj16 _ _ t215 t218 t219 _ _ t199 t202 t203 true _ ?side1 ?side2 ?side3 ?side4 A89.out).mono ?_); (case side1 => repeat (first | exact (Kd.R_reads' HO_222000.out).2.2 | (with_reducible refine Kd.C_alloc ?_ _) | (with_reducible refine Kd.C_drewN ?_ _) | (with_reducible refine Kd.C_drew ?_))); (case side2 => exact (Kd.R_reads' HO_222000.out).2.1); (case side3 => repeat (first | exact (Kd.R_reads' HO_206000.out).2.2 | (with_reducible refine Kd.C_alloc ?_ _) | (with_reducible refine Kd.C_drewN ?_ _) | (with_reducible refine Kd.C_drew ?_))); (case side4 => exact (Kd.R_reads' HO_206000.out).2.1); rintro e w98 ⟨rfl, hb⟩; have n0_ := Aside0.mk (Kd.R_below (rD HO_11.out) hb); have n1_ := Aside0.mk (Kd.R_below (rD HO_206000.out) hb); have n2_ := Aside0.mk (Kd.R_below (rD HO_212000.out) hb); have n3_ := Aside0.mk (Kd.R_below (rD HO_222000.out) hb); have n4_ := Aside0.mk (Kd.R_below (rD HO225.out) hb); have n5_ := Aside0.mk (Kd.R_below (rD HO231.out) hb); have n6_ := Aside0.mk (blk_below (bkD BK189) hb); have n7_ := Aside0.mk (blk_below (bkD BK205) hb); have n8_ := Aside0.mk (blk_below (bkD BK211) hb); have n9_ := Aside0.mk (blk_below (bkD BK221) hb); have n10_ := Aside0.mk (below_step (hbD HB) hb); clear HO_11; clear HO_206000; clear HO_212000; clear HO_222000; clear HO225; clear HO231; clear BK189; clear BK205; clear BK211; clear BK221; clear HB; have HO_11 := n0_; have HO_206000 := n1_; have HO_212000 := n2_; have HO_222000 := n3_; have HO225 := n4_; have HO231 := n5_; have BK189 := n6_; have BK205 := n7_; have BK211 := n8_; have BK221 := n9_; have HB := n10_; clear n0_ n1_ n2_ n3_ n4_ n5_ n6_ n7_ n8_ n9_ n10_; (try clear hb); (try clear hb2); (try clear hk); (try clear hi)))
           go_meet
           case rel => exact ⟨_, ((t220 != t204)), (by first | rfl | (simp; done) | (simp [*]; done)), H', ⟨by have := HJ16.out; first | omega | exact Nat.le_refl _⟩, ⟨by (with_reducible repeat (first | apply Kd.R_alloc | apply Kd.R_drewN | apply Kd.R_drew)); exact Kd.R_mono HO_206000.out (fun _ hk => ⟨hk.2.1, hk.2.2.1⟩)⟩, ⟨by (with_reducible repeat (first | apply Kd.R_alloc | apply Kd.R_drewN | apply Kd.R_drew)); exact Kd.R_mono HO_212000.out (fun _ hk => ⟨hk.2.1, hk.2.2.1⟩)⟩, ⟨by (with_reducible repeat (first | apply Kd.R_alloc | apply Kd.R_drewN | apply Kd.R_drew)); exact Kd.R_mono HO_222000.out (fun _ hk => ⟨hk.2.1, hk.2.2.1⟩)⟩, ⟨by (with_reducible repeat (first | refine blk_drewN ?_ _ | refine blk_drew ?_ | refine blk_alloc ?_ _)); exact BK189.out⟩, ⟨by (with_reducible repeat (first | refine blk_drewN ?_ _ | refine blk_drew ?_ | refine blk_alloc ?_ _)); exact BK205.out⟩, ⟨by (with_reducible repeat (first | refine blk_drewN ?_ _ | refine blk_drew ?_ | refine blk_alloc ?_ _)); exact BK211.out⟩, ⟨by (with_reducible repeat (first | refine blk_drewN ?_ _ | refine blk_drew ?_ | refine blk_alloc ?_ _)); exact BK221.out⟩, ⟨by repeat (first | (with_reducible first | exact HB.out | apply below_alloc | apply pw_below_drewN | apply below_drew1 | refine below_set ?_ GE189.out | refine below_set ?_ GE205.out | refine below_set ?_ GE211.out | refine below_set ?_ GE221.out) | exact HB.out)⟩⟩
          ·replace c90 := Bool.eq_false_iff.mpr c90
           subst c90
           have H1 : (laws_FnExactGapInsert.j1 kj16 a1 l2 t204 true l0_0 a0_1 a0_2 t199 t202 t203 t215 t218 t219) = some r := by rw [if_neg (show ¬ (false = true) by decide)] at H; exact H
           clear H
           have H := H1
           clear H1
           have H' := Aside0.mk H
           clear H
           have hnb99 := NB221_189.out
           have hnc99 := NB189_221.out
           have hnb100 := NB221_205.out
           have hnc100 := NB205_221.out
           have hnb101 := NB221_211.out
           have hnc101 := NB211_221.out
           have hcz102_0 : w87.cell? ⟨gb221, 0, none⟩ = some (.slice Ao43 t215.length co43) := (blk_cell BK221.out 0).trans rfl
           have hcz102_1 : w87.cell? ⟨gb221, 1, none⟩ = some (.int .i64 t218) := (blk_cell BK221.out 1).trans rfl
           have hcz102_2 : w87.cell? ⟨gb221, 2, none⟩ = some (.int .i64 t219) := (blk_cell BK221.out 2).trans rfl
           have hfz102_0 := blk_frozen BK221.out 0
           have hfz102_1 := blk_frozen BK221.out 1
           have hfz102_2 := blk_frozen BK221.out 2
           have hnb103 := NB205_189.out
           have hnc103 := NB189_205.out
           have hnb104 := NB205_211.out
           have hnc104 := NB211_205.out
           have hcz105_0 : w87.cell? ⟨gb205, 0, none⟩ = some (.slice Ao28 t199.length co28) := (blk_cell BK205.out 0).trans rfl
           have hcz105_1 : w87.cell? ⟨gb205, 1, none⟩ = some (.int .i64 t202) := (blk_cell BK205.out 1).trans rfl
           have hcz105_2 : w87.cell? ⟨gb205, 2, none⟩ = some (.int .i64 t203) := (blk_cell BK205.out 2).trans rfl
           have hfz105_0 := blk_frozen BK205.out 0
           have hfz105_1 := blk_frozen BK205.out 1
           have hfz105_2 := blk_frozen BK205.out 2
           go_wp2_with (first | (go_at_call 15; (with_reducible refine (laws_eqGap.calls kj16 _ _ t215 t218 t219 _ _ t199 t202 t203 false _ ?side1 ?side2 ?side3 ?side4 A89.out).mono ?_); (case side1 => repeat (first | exact (Kd.R_reads' HO_222000.out).2.2 | (with_reducible refine Kd.C_alloc ?_ _) | (with_reducible refine Kd.C_drewN ?_ _) | (with_reducible refine Kd.C_drew ?_))); (case side2 => exact (Kd.R_reads' HO_222000.out).2.1); (case side3 => repeat (first | exact (Kd.R_reads' HO_206000.out).2.2 | (with_reducible refine Kd.C_alloc ?_ _) | (with_reducible refine Kd.C_drewN ?_ _) | (with_reducible refine Kd.C_drew ?_))); (case side4 => exact (Kd.R_reads' HO_206000.out).2.1); rintro e w106 ⟨rfl, hb⟩; have n0_ := Aside0.mk (Kd.R_below (rD HO_11.out) hb); have n1_ := Aside0.mk (Kd.R_below (rD HO_206000.out) hb); have n2_ := Aside0.mk (Kd.R_below (rD HO_212000.out) hb); have n3_ := Aside0.mk (Kd.R_below (rD HO_222000.out) hb); have n4_ := Aside0.mk (Kd.R_below (rD HO225.out) hb); have n5_ := Aside0.mk (Kd.R_below (rD HO231.out) hb); have n6_ := Aside0.mk (blk_below (bkD BK189) hb); have n7_ := Aside0.mk (blk_below (bkD BK205) hb); have n8_ := Aside0.mk (blk_below (bkD BK211) hb); have n9_ := Aside0.mk (blk_below (bkD BK221) hb); have n10_ := Aside0.mk (below_step (hbD HB) hb); clear HO_11; clear HO_206000; clear HO_212000; clear HO_222000; clear HO225; clear HO231; clear BK189; clear BK205; clear BK211; clear BK221; clear HB; have HO_11 := n0_; have HO_206000 := n1_; have HO_212000 := n2_; have HO_222000 := n3_; have HO225 := n4_; have HO231 := n5_; have BK189 := n6_; have BK205 := n7_; have BK211 := n8_; have BK221 := n9_; have HB := n10_; clear n0_ n1_ n2_ n3_ n4_ n5_ n6_ n7_ n8_ n9_ n10_; (try clear hb); (try clear hb2); (try clear hk); (try clear hi)))
           go_meet
           case rel => exact ⟨_, (true), (by first | rfl | (simp; done) | (simp [*]; done)), H', ⟨by have := HJ16.out; first | omega | exact Nat.le_refl _⟩, ⟨by (with_reducible repeat (first | apply Kd.R_alloc | apply Kd.R_drewN | apply Kd.R_drew)); exact Kd.R_mono HO_206000.out (fun _ hk => ⟨hk.2.1, hk.2.2.1⟩)⟩, ⟨by (with_reducible repeat (first | apply Kd.R_alloc | apply Kd.R_drewN | apply Kd.R_drew)); exact Kd.R_mono HO_212000.out (fun _ hk => ⟨hk.2.1, hk.2.2.1⟩)⟩, ⟨by (with_reducible repeat (first | apply Kd.R_alloc | apply Kd.R_drewN | apply Kd.R_drew)); exact Kd.R_mono HO_222000.out (fun _ hk => ⟨hk.2.1, hk.2.2.1⟩)⟩, ⟨by (with_reducible repeat (first | refine blk_drewN ?_ _ | refine blk_drew ?_ | refine blk_alloc ?_ _)); exact BK189.out⟩, ⟨by (with_reducible repeat (first | refine blk_drewN ?_ _ | refine blk_drew ?_ | refine blk_alloc ?_ _)); exact BK205.out⟩, ⟨by (with_reducible repeat (first | refine blk_drewN ?_ _ | refine blk_drew ?_ | refine blk_alloc ?_ _)); exact BK211.out⟩, ⟨by (with_reducible repeat (first | refine blk_drewN ?_ _ | refine blk_drew ?_ | refine blk_alloc ?_ _)); exact BK221.out⟩, ⟨by repeat (first | (with_reducible first | exact HB.out | apply below_alloc | apply pw_below_drewN | apply below_drew1 | refine below_set ?_ GE189.out | refine below_set ?_ GE205.out | refine below_set ?_ GE211.out | refine below_set ?_ GE221.out) | exact HB.out)⟩⟩
        case rest =>
         clear HC75
         try clear c1
         try clear c2
         try clear p2
         try clear c3
         try clear c4
         try clear c4b0
         try clear c4b1
         try clear c5
         try clear c6
         try clear c7
         try clear c7b0
         try clear c8
         try clear c9
         try clear c10
         try clear c12
         try clear c14
         try clear c15
         try clear c16
         try clear c17
         try clear c22
         try clear c23
         try clear c24
         try clear c29
         try clear c35
         try clear c36
         try clear c44
         try clear c45
         try clear c46
         try clear c49
         try clear c50
         try clear c51
         try clear c52
         try clear c54
         try clear c55
         try clear c58
         try clear c59
         try clear c60
         try clear c62
         try clear c63
         try clear c66
         try clear c69
         try clear c72
         try clear c82
         try clear c83
         try clear c84
         try clear c88
         try clear c88b0
         try clear c90
         try clear c91
         try clear c92
         try clear c93
         try clear c95
         try clear c96
         try clear c99
         try clear c100
         try clear c101
         try clear c103
         try clear c104
         try clear hcz102_0
         try clear hcz102_1
         try clear hcz102_2
         try clear hcz105_0
         try clear hcz105_1
         try clear hcz105_2
         try clear hcz19_0
         try clear hcz19_1
         try clear hcz19_2
         try clear hcz21_0
         try clear hcz21_1
         try clear hcz21_2
         try clear hcz30_0
         try clear hcz30_1
         try clear hcz30_2
         try clear hcz31_0
         try clear hcz31_1
         try clear hcz31_2
         try clear hcz37_0
         try clear hcz37_1
         try clear hcz37_2
         try clear hcz39_0
         try clear hcz39_1
         try clear hcz39_2
         try clear hcz47_0
         try clear hcz47_1
         try clear hcz47_2
         try clear hcz53_0
         try clear hcz53_1
         try clear hcz53_2
         try clear hcz56_0
         try clear hcz56_1
         try clear hcz56_2
         try clear hcz61_0
         try clear hcz61_1
         try clear hcz61_2
         try clear hcz64_0
         try clear hcz64_1
         try clear hcz64_2
         try clear hcz85_0
         try clear hcz85_1
         try clear hcz85_2
         try clear hcz94_0
         try clear hcz94_1
         try clear hcz94_2
         try clear hcz97_0
         try clear hcz97_1
         try clear hcz97_2
         try clear hcz9_0
         try clear hcz9_1
         try clear hcz9_2
         try clear hfz102_0
         try clear hfz102_1
         try clear hfz102_2
         try clear hfz105_0
         try clear hfz105_1
         try clear hfz105_2
         try clear hfz19_0
         try clear hfz19_1
         try clear hfz19_2
         try clear hfz21_0
         try clear hfz21_1
         try clear hfz21_2
         try clear hfz30_0
         try clear hfz30_1
         try clear hfz30_2
         try clear hfz31_0
         try clear hfz31_1
         try clear hfz31_2
         try clear hfz37_0
         try clear hfz37_1
         try clear hfz37_2
         try clear hfz39_0
         try clear hfz39_1
         try clear hfz39_2
         try clear hfz47_0
         try clear hfz47_1
         try clear hfz47_2
         try clear hfz53_0
         try clear hfz53_1
         try clear hfz53_2
         try clear hfz56_0
         try clear hfz56_1
         try clear hfz56_2
         try clear hfz61_0
         try clear hfz61_1
         try clear hfz61_2
         try clear hfz64_0
         try clear hfz64_1
         try clear hfz64_2
         try clear hfz85_0
         try clear hfz85_1
         try clear hfz85_2
         try clear hfz94_0
         try clear hfz94_1
         try clear hfz94_2
         try clear hfz97_0
         try clear hfz97_1
         try clear hfz97_2
         try clear hfz9_0
         try clear hfz9_1
         try clear hfz9_2
         try clear p2
         obtain ⟨kq, x84_74, rfl, HA, HJ74, HO_206000, HO_212000, HO_222000, BK189, BK205, BK211, BK221, HB⟩ := hcut
         have hl212000_74 := (Kd.R_reads' HO_212000.out).1
         rw [hl212000_74] at HO_212000
         (try simp only [hl212000_74])
         (try simp only [hl212000_74] at BK189)
         (try simp only [hl212000_74] at BK205)
         (try simp only [hl212000_74] at BK211)
         (try simp only [hl212000_74] at BK221)
         (try simp only [hl212000_74] at HO_206000)
         (try simp only [hl212000_74] at HO_222000)
         cases kq with
         | zero => exact absurd HA.out (by simp [laws_FnExactGapInsert.j1])
         | succ kj74 =>
          have H := HA.out
          clear HA
          simp only [laws_FnExactGapInsert.j1] at H
          by_cases c107 : x84_74 = true
          ·subst c107
           have H1 : (some false) = some r := by rw [if_pos rfl] at H; exact H
           clear H
           have H := H1
           clear H1
           obtain rfl := Option.some.inj H
           go_wp2
           go_ret
           exact ⟨by first | rfl | (simp [errW_none, errW_some] <;> rfl) | (simp [*, errW_none, errW_some] <;> rfl), by repeat (first | (with_reducible first | exact HB.out | apply below_alloc | apply pw_below_drewN | apply below_drew1 | refine below_set ?_ GE189.out | refine below_set ?_ GE205.out | refine below_set ?_ GE211.out | refine below_set ?_ GE221.out) | exact HB.out)⟩
          ·replace c107 := Bool.eq_false_iff.mpr c107
           subst c107
           have H1 : ((laws_markGap.f kj74 t215 t218 t219 1).bind fun bt238 => ((laws_heldGap.f kj74 bt238.2 t218 t219 1).bind fun t240 => (if t240 < 0 then (some false) else (if t240 = bt238.1 then ((laws_toGap.f kj74 l0_0 a0_1 a0_2).bind fun bt241 => ((laws_toInt32S.f kj74 l2).bind fun t246 => ((impl_GapInsert.f bt241.1 bt241.2.1 bt241.2.2 a1 t246).bind fun bt249 => ((laws_eqGap.f kj74 bt249.1 bt249.2.1 bt249.2.2.1 t199 t202 t203).bind fun t256 => (if t256 = true then (laws_FnExactGapInsert.j2 kj74 bt238.1 (bt249.2.2.2 != t204) bt238.2 t218 t219) else (laws_FnExactGapInsert.j2 kj74 bt238.1 true bt238.2 t218 t219)))))) else (some false))))) = some r := by rw [if_neg (show ¬ (false = true) by decide)] at H; exact H
           clear H
           have H := H1
           clear H1
           replace H := Option.bind_eq_some_iff.mp H
           obtain ⟨⟨t238, t239⟩, A1080, H⟩ := H
           replace H : ((laws_heldGap.f kj74 t239 t218 t219 1).bind fun t240 => (if t240 < 0 then (some false) else (if t240 = t238 then ((laws_toGap.f kj74 l0_0 a0_1 a0_2).bind fun bt241 => ((laws_toInt32S.f kj74 l2).bind fun t246 => ((impl_GapInsert.f bt241.1 bt241.2.1 bt241.2.2 a1 t246).bind fun bt249 => ((laws_eqGap.f kj74 bt249.1 bt249.2.1 bt249.2.2.1 t199 t202 t203).bind fun t256 => (if t256 = true then (laws_FnExactGapInsert.j2 kj74 t238 (bt249.2.2.2 != t204) t239 t218 t219) else (laws_FnExactGapInsert.j2 kj74 t238 true t239 t218 t219)))))) else (some false)))) = some r := H
           have A108 := Aside0.mk A1080
           clear A1080
           replace H := Option.bind_eq_some_iff.mp H
           obtain ⟨t240, A1090, H⟩ := H
           replace H : (if t240 < 0 then (some false) else (if t240 = t238 then ((laws_toGap.f kj74 l0_0 a0_1 a0_2).bind fun bt241 => ((laws_toInt32S.f kj74 l2).bind fun t246 => ((impl_GapInsert.f bt241.1 bt241.2.1 bt241.2.2 a1 t246).bind fun bt249 => ((laws_eqGap.f kj74 bt249.1 bt249.2.1 bt249.2.2.1 t199 t202 t203).bind fun t256 => (if t256 = true then (laws_FnExactGapInsert.j2 kj74 t238 (bt249.2.2.2 != t204) t239 t218 t219) else (laws_FnExactGapInsert.j2 kj74 t238 true t239 t218 t219)))))) else (some false))) = some r := H
           have A109 := Aside0.mk A1090
           clear A1090
           by_cases c110 : t240 < 0
           ·rw [if_pos c110] at H
            have c110b0 : decide (t240 < 0) = true := decide_eq_true c110
            clear c110
            obtain rfl := Option.some.inj H
            have hnb111 := NB221_189.out
            have hnc111 := NB189_221.out
            have hnb112 := NB221_205.out
            have hnc112 := NB205_221.out
            have hnb113 := NB221_211.out
            have hnc113 := NB211_221.out
            have hcz114_0 : wc.cell? ⟨gb221, 0, none⟩ = some (.slice Ao43 t215.length co43) := (blk_cell BK221.out 0).trans rfl
            have hcz114_1 : wc.cell? ⟨gb221, 1, none⟩ = some (.int .i64 t218) := (blk_cell BK221.out 1).trans rfl
            have hcz114_2 : wc.cell? ⟨gb221, 2, none⟩ = some (.int .i64 t219) := (blk_cell BK221.out 2).trans rfl
            have hfz114_0 := blk_frozen BK221.out 0
            have hfz114_1 := blk_frozen BK221.out 1
            have hfz114_2 := blk_frozen BK221.out 2
            go_wp2_with (first | ((with_reducible refine gate_callee (f := 16) rfl ?_); refine goesL_ (some 87) rfl rfl Tryd.func16 (by kernel_rfl) rfl #[.agg #[.slice Ao43 t215.length co43, .int .i64 t218, .int .i64 t219], .int .i64 1] rfl (by (try simp only [List.map_toArray, List.map_cons, List.map_nil]); first | done | rfl | (simp only [List.length_drop, List.length_take]; rfl)) ?_; (with_reducible refine (laws_markGap.calls kj74 (fun k_ => some k_ = (.slice Ao43 t215.length co43 : Value).ownBlock) (.slice Ao43 t215.length co43) t215 t218 t219 1 t238 t239 w _ ?side1 ?side2 A108.out).mono ?_); (case side1 => repeat (first | (with_reducible first | exact HB.out | apply below_alloc | apply pw_below_drewN | apply below_drew1 | refine below_set ?_ GE189.out | refine below_set ?_ GE205.out | refine below_set ?_ GE211.out | refine below_set ?_ GE221.out) | exact HB.out)); (case side2 => exact Kd.R_tight rfl HO_222000.out); rintro e w115 ⟨rfl, hy0, hb, hkp⟩; refine ⟨_, rfl, ?_⟩; have n0_ := Aside0.mk (Kd.R_mono (ok' := fun k_ => some k_ ≠ (.slice Ao34 t234.length co34 : Value).ownBlock ∧ some k_ ≠ (.slice Ao43 t215.length co43 : Value).ownBlock) (Kd.R_keptB (HO_206000.out) hkp (fun k_ hk_ hs_ => (hk_.2) hs_)) (fun k_ hk_ => ⟨hk_.1.1, hk_.1.2⟩)); have n1_ := Aside0.mk (Kd.R_mono (ok' := fun k_ => some k_ ≠ (.slice Ao28 t199.length co28 : Value).ownBlock ∧ some k_ ≠ (.slice Ao43 t215.length co43 : Value).ownBlock) (Kd.R_keptB (HO_212000.out) hkp (fun k_ hk_ hs_ => (hk_.2) hs_)) (fun k_ hk_ => ⟨hk_.1.1, hk_.1.2⟩)); have n2_ := Aside0.mk (Kd.R_reok rfl hy0 (fun k_ e_ => HO_222000.out.1 k_ e_)); have n3_ := Aside0.mk (blk_kept (bkD BK189) hkp (fun hs_ => (fun e_ => (Kd.R_ne HO_222000.out BK189.out (by decide)) e_) hs_)); have n4_ := Aside0.mk (blk_kept (bkD BK205) hkp (fun hs_ => (fun e_ => (Kd.R_ne HO_222000.out BK205.out (by decide)) e_) hs_)); have n5_ := Aside0.mk (blk_kept (bkD BK211) hkp (fun hs_ => (fun e_ => (Kd.R_ne HO_222000.out BK211.out (by decide)) e_) hs_)); have n6_ := Aside0.mk (blk_kept (bkD BK221) hkp (fun hs_ => (fun e_ => (Kd.R_ne HO_222000.out BK221.out (by decide)) e_) hs_)); have n7_ := Aside0.mk (hb); clear HO_206000; clear HO_212000; clear HO_222000; clear BK189; clear BK205; clear BK211; clear BK221; clear HB; have HO_206000 := n0_; have HO_212000 := n1_; have HO_222000 := n2_; have BK189 := n3_; have BK205 := n4_; have BK211 := n5_; have BK221 := n6_; have HB := n7_; clear n0_ n1_ n2_ n3_ n4_ n5_ n6_ n7_; (try clear hb); (try clear hkp); (try clear hy0); have hcz116_0 : w115.cell? ⟨gb221, 0, none⟩ = some (.slice Ao43 t215.length co43) := (blk_cell BK221.out 0).trans rfl; have hcz116_1 : w115.cell? ⟨gb221, 1, none⟩ = some (.int .i64 t218) := (blk_cell BK221.out 1).trans rfl; have hcz116_2 : w115.cell? ⟨gb221, 2, none⟩ = some (.int .i64 t219) := (blk_cell BK221.out 2).trans rfl; have hfz116_0 := blk_frozen BK221.out 0; have hfz116_1 := blk_frozen BK221.out 1; have hfz116_2 := blk_frozen BK221.out 2) | ((with_reducible refine gate_callee (f := 21) rfl ?_); refine goesL_ (some 90) rfl rfl Tryd.func21 (by kernel_rfl) rfl #[.agg #[.slice Ao43 t239.length co43, .int .i64 t218, .int .i64 t219], .int .i64 1] rfl (by (try simp only [List.map_toArray, List.map_cons, List.map_nil]); first | done | (rw [show t239.length = t215.length from (Kd.R_reads' HO_222000.out).1.symm] <;> rfl) | rfl | (simp only [List.length_drop, List.length_take]; rfl)) ?_; (with_reducible refine (laws_heldGap.calls kj74 _ _ t239 t218 t219 1 t240 _ ?side1 ?side2 A109.out).mono ?_); (case side1 => repeat (first | exact (Kd.R_reads' HO_222000.out).2.2 | (with_reducible refine Kd.C_alloc ?_ _) | (with_reducible refine Kd.C_drewN ?_ _) | (with_reducible refine Kd.C_drew ?_))); (case side2 => rw [show t239.length = t215.length from (Kd.R_reads' HO_222000.out).1.symm]; exact (Kd.R_reads' HO_222000.out).2.1); rintro e w117 ⟨rfl, hb⟩; refine ⟨_, rfl, ?_⟩; have n0_ := Aside0.mk (Kd.R_below (rD HO_206000.out) hb); have n1_ := Aside0.mk (Kd.R_below (rD HO_212000.out) hb); have n2_ := Aside0.mk (Kd.R_below (rD HO_222000.out) hb); have n3_ := Aside0.mk (blk_below (bkD BK189) hb); have n4_ := Aside0.mk (blk_below (bkD BK205) hb); have n5_ := Aside0.mk (blk_below (bkD BK211) hb); have n6_ := Aside0.mk (blk_below (bkD BK221) hb); have n7_ := Aside0.mk (below_step (hbD HB) hb); clear HO_206000; clear HO_212000; clear HO_222000; clear BK189; clear BK205; clear BK211; clear BK221; clear HB; have HO_206000 := n0_; have HO_212000 := n1_; have HO_222000 := n2_; have BK189 := n3_; have BK205 := n4_; have BK211 := n5_; have BK221 := n6_; have HB := n7_; clear n0_ n1_ n2_ n3_ n4_ n5_ n6_ n7_; (try clear hb); (try clear hb2); (try clear hk); (try clear hi)))
            go_ret
            exact ⟨by first | rfl | (simp [errW_none, errW_some] <;> rfl) | (simp [*, errW_none, errW_some] <;> rfl), by repeat (first | (with_reducible first | exact HB.out | apply below_alloc | apply pw_below_drewN | apply below_drew1 | refine below_set ?_ GE189.out | refine below_set ?_ GE205.out | refine below_set ?_ GE211.out | refine below_set ?_ GE221.out) | exact HB.out)⟩
           ·rw [if_neg c110] at H
            have c110b0 : decide (t240 < 0) = false := decide_eq_false c110
            clear c110
            by_cases c118 : t240 = t238
            ·rw [if_pos c118] at H
             have c118b0 : (t240 == t238) = true := beq_iff_eq.mpr c118
             have c118b1 : (t240 != t238) = false := bne_eq_false_iff_eq.mpr c118
             clear c118
             replace H := Option.bind_eq_some_iff.mp H
             obtain ⟨⟨t241, t244, t245⟩, A1190, H⟩ := H
             replace H : ((laws_toInt32S.f kj74 l2).bind fun t246 => ((impl_GapInsert.f t241 t244 t245 a1 t246).bind fun bt249 => ((laws_eqGap.f kj74 bt249.1 bt249.2.1 bt249.2.2.1 t199 t202 t203).bind fun t256 => (if t256 = true then (laws_FnExactGapInsert.j2 kj74 t238 (bt249.2.2.2 != t204) t239 t218 t219) else (laws_FnExactGapInsert.j2 kj74 t238 true t239 t218 t219))))) = some r := H
             have A119 := Aside0.mk A1190
             clear A1190
             replace H := Option.bind_eq_some_iff.mp H
             obtain ⟨t246, A1200, H⟩ := H
             replace H : ((impl_GapInsert.f t241 t244 t245 a1 t246).bind fun bt249 => ((laws_eqGap.f kj74 bt249.1 bt249.2.1 bt249.2.2.1 t199 t202 t203).bind fun t256 => (if t256 = true then (laws_FnExactGapInsert.j2 kj74 t238 (bt249.2.2.2 != t204) t239 t218 t219) else (laws_FnExactGapInsert.j2 kj74 t238 true t239 t218 t219)))) = some r := H
             have A120 := Aside0.mk A1200
             clear A1200
             replace H := Option.bind_eq_some_iff.mp H
             obtain ⟨⟨t249, t252, t253, t254⟩, A1210, H⟩ := H
             replace H : ((laws_eqGap.f kj74 t249 t252 t253 t199 t202 t203).bind fun t256 => (if t256 = true then (laws_FnExactGapInsert.j2 kj74 t238 (t254 != t204) t239 t218 t219) else (laws_FnExactGapInsert.j2 kj74 t238 true t239 t218 t219))) = some r := H
             have A121 := Aside0.mk A1210
             clear A1210
             have HC122 := Aside0.mk H
             clear H
             have hnb123 := NB221_189.out
             have hnc123 := NB189_221.out
             have hnb124 := NB221_205.out
             have hnc124 := NB205_221.out
             have hnb125 := NB221_211.out
             have hnc125 := NB211_221.out
             have hcz126_0 : wc.cell? ⟨gb221, 0, none⟩ = some (.slice Ao43 t215.length co43) := (blk_cell BK221.out 0).trans rfl
             have hcz126_1 : wc.cell? ⟨gb221, 1, none⟩ = some (.int .i64 t218) := (blk_cell BK221.out 1).trans rfl
             have hcz126_2 : wc.cell? ⟨gb221, 2, none⟩ = some (.int .i64 t219) := (blk_cell BK221.out 2).trans rfl
             have hfz126_0 := blk_frozen BK221.out 0
             have hfz126_1 := blk_frozen BK221.out 1
             have hfz126_2 := blk_frozen BK221.out 2
             go_upto_region 31 with (first | ((with_reducible refine gate_callee (f := 16) rfl ?_); refine goesL_ (some 87) rfl rfl Tryd.func16 (by kernel_rfl) rfl #[.agg #[.slice Ao43 t215.length co43, .int .i64 t218, .int .i64 t219], .int .i64 1] rfl (by (try simp only [List.map_toArray, List.map_cons, List.map_nil]); first | done | rfl | (simp only [List.length_drop, List.length_take]; rfl)) ?_; (with_reducible refine (laws_markGap.calls kj74 (fun k_ => some k_ = (.slice Ao43 t215.length co43 : Value).ownBlock) (.slice Ao43 t215.length co43) t215 t218 t219 1 t238 t239 w _ ?side1 ?side2 A108.out).mono ?_); (case side1 => repeat (first | (with_reducible first | exact HB.out | apply below_alloc | apply pw_below_drewN | apply below_drew1 | refine below_set ?_ GE189.out | refine below_set ?_ GE205.out | refine below_set ?_ GE211.out | refine below_set ?_ GE221.out) | exact HB.out)); (case side2 => exact Kd.R_tight rfl HO_222000.out); rintro e w127 ⟨rfl, hy0, hb, hkp⟩; refine ⟨_, rfl, ?_⟩; have n0_ := Aside0.mk (Kd.R_mono (ok' := fun k_ => some k_ ≠ (.slice Ao34 t234.length co34 : Value).ownBlock ∧ some k_ ≠ (.slice Ao43 t215.length co43 : Value).ownBlock) (Kd.R_keptB (HO_206000.out) hkp (fun k_ hk_ hs_ => (hk_.2) hs_)) (fun k_ hk_ => ⟨hk_.1.1, hk_.1.2⟩)); have n1_ := Aside0.mk (Kd.R_mono (ok' := fun k_ => some k_ ≠ (.slice Ao28 t199.length co28 : Value).ownBlock ∧ some k_ ≠ (.slice Ao43 t215.length co43 : Value).ownBlock) (Kd.R_keptB (HO_212000.out) hkp (fun k_ hk_ hs_ => (hk_.2) hs_)) (fun k_ hk_ => ⟨hk_.1.1, hk_.1.2⟩)); have n2_ := Aside0.mk (Kd.R_reok rfl hy0 (fun k_ e_ => HO_222000.out.1 k_ e_)); have n3_ := Aside0.mk (blk_kept (bkD BK189) hkp (fun hs_ => (fun e_ => (Kd.R_ne HO_222000.out BK189.out (by decide)) e_) hs_)); have n4_ := Aside0.mk (blk_kept (bkD BK205) hkp (fun hs_ => (fun e_ => (Kd.R_ne HO_222000.out BK205.out (by decide)) e_) hs_)); have n5_ := Aside0.mk (blk_kept (bkD BK211) hkp (fun hs_ => (fun e_ => (Kd.R_ne HO_222000.out BK211.out (by decide)) e_) hs_)); have n6_ := Aside0.mk (blk_kept (bkD BK221) hkp (fun hs_ => (fun e_ => (Kd.R_ne HO_222000.out BK221.out (by decide)) e_) hs_)); have n7_ := Aside0.mk (hb); clear HO_206000; clear HO_212000; clear HO_222000; clear BK189; clear BK205; clear BK211; clear BK221; clear HB; have HO_206000 := n0_; have HO_212000 := n1_; have HO_222000 := n2_; have BK189 := n3_; have BK205 := n4_; have BK211 := n5_; have BK221 := n6_; have HB := n7_; clear n0_ n1_ n2_ n3_ n4_ n5_ n6_ n7_; (try clear hb); (try clear hkp); (try clear hy0); have hcz128_0 : w127.cell? ⟨gb221, 0, none⟩ = some (.slice Ao43 t215.length co43) := (blk_cell BK221.out 0).trans rfl; have hcz128_1 : w127.cell? ⟨gb221, 1, none⟩ = some (.int .i64 t218) := (blk_cell BK221.out 1).trans rfl; have hcz128_2 : w127.cell? ⟨gb221, 2, none⟩ = some (.int .i64 t219) := (blk_cell BK221.out 2).trans rfl; have hfz128_0 := blk_frozen BK221.out 0; have hfz128_1 := blk_frozen BK221.out 1; have hfz128_2 := blk_frozen BK221.out 2) | ((with_reducible refine gate_callee (f := 21) rfl ?_); refine goesL_ (some 90) rfl rfl Tryd.func21 (by kernel_rfl) rfl #[.agg #[.slice Ao43 t239.length co43, .int .i64 t218, .int .i64 t219], .int .i64 1] rfl (by (try simp only [List.map_toArray, List.map_cons, List.map_nil]); first | done | (rw [show t239.length = t215.length from (Kd.R_reads' HO_222000.out).1.symm] <;> rfl) | rfl | (simp only [List.length_drop, List.length_take]; rfl)) ?_; (with_reducible refine (laws_heldGap.calls kj74 _ _ t239 t218 t219 1 t240 _ ?side1 ?side2 A109.out).mono ?_); (case side1 => repeat (first | exact (Kd.R_reads' HO_222000.out).2.2 | (with_reducible refine Kd.C_alloc ?_ _) | (with_reducible refine Kd.C_drewN ?_ _) | (with_reducible refine Kd.C_drew ?_))); (case side2 => rw [show t239.length = t215.length from (Kd.R_reads' HO_222000.out).1.symm]; exact (Kd.R_reads' HO_222000.out).2.1); rintro e w129 ⟨rfl, hb⟩; refine ⟨_, rfl, ?_⟩; have n0_ := Aside0.mk (Kd.R_below (rD HO_206000.out) hb); have n1_ := Aside0.mk (Kd.R_below (rD HO_212000.out) hb); have n2_ := Aside0.mk (Kd.R_below (rD HO_222000.out) hb); have n3_ := Aside0.mk (blk_below (bkD BK189) hb); have n4_ := Aside0.mk (blk_below (bkD BK205) hb); have n5_ := Aside0.mk (blk_below (bkD BK211) hb); have n6_ := Aside0.mk (blk_below (bkD BK221) hb); have n7_ := Aside0.mk (below_step (hbD HB) hb); clear HO_206000; clear HO_212000; clear HO_222000; clear BK189; clear BK205; clear BK211; clear BK221; clear HB; have HO_206000 := n0_; have HO_212000 := n1_; have HO_222000 := n2_; have BK189 := n3_; have BK205 := n4_; have BK211 := n5_; have BK221 := n6_; have HB := n7_; clear n0_ n1_ n2_ n3_ n4_ n5_ n6_ n7_; (try clear hb); (try clear hb2); (try clear hk); (try clear hi); have hnb130 := NB189_205.out; have hnc130 := NB205_189.out; have hnb131 := NB189_211.out; have hnc131 := NB211_189.out; have hcz132_0 : w129.cell? ⟨gb189, 0, none⟩ = some (.slice A0_0 l0_0.length c0_0) := (blk_cell BK189.out 0).trans rfl; have hcz132_1 : w129.cell? ⟨gb189, 1, none⟩ = some (.int .i64 a0_1) := (blk_cell BK189.out 1).trans rfl; have hcz132_2 : w129.cell? ⟨gb189, 2, none⟩ = some (.int .i64 a0_2) := (blk_cell BK189.out 2).trans rfl; have hfz132_0 := blk_frozen BK189.out 0; have hfz132_1 := blk_frozen BK189.out 1; have hfz132_2 := blk_frozen BK189.out 2) | ((with_reducible refine gate_callee (f := 12) rfl ?_); refine goesL_ (some 98) rfl rfl Tryd.func12 (by kernel_rfl) rfl #[.agg #[.slice A0_0 l0_0.length c0_0, .int .i64 a0_1, .int .i64 a0_2]] rfl (by (try simp only [List.map_toArray, List.map_cons, List.map_nil]); first | done | rfl | (simp only [List.length_drop, List.length_take]; rfl)) ?_; (with_reducible refine (laws_toGap.calls kj74 _ _ l0_0 a0_1 a0_2 t241 t244 t245 _ ?side1 ?side2 A119.out).mono ?_); (case side1 => repeat (first | exact (Kd.C_below HR0_0.out HB.out) | (with_reducible refine Kd.C_alloc ?_ _) | (with_reducible refine Kd.C_drewN ?_ _) | (with_reducible refine Kd.C_drew ?_))); (case side2 => exact HC0_0.out); rintro e w133 ⟨v242, rfl, ho0, hb⟩; refine ⟨_, rfl, ?_⟩; have n0_ := Aside0.mk (Kd.R_elder' (rD HO_206000.out) (Kd.R_base ho0) hb); have n1_ := Aside0.mk (Kd.R_elder' (rD HO_212000.out) (Kd.R_base ho0) hb); have n2_ := Aside0.mk (Kd.R_elder' (rD HO_222000.out) (Kd.R_base ho0) hb); have n3_ := Aside0.mk (Kd.R_lower (Kd.R_new' (Kd.R_new' (Kd.R_new' ho0 (Kd.R_lt (rD HO_206000.out))) (Kd.R_lt (rD HO_212000.out))) (Kd.R_lt (rD HO_222000.out))) (below_size (hbD HB))); have n4_ := Aside0.mk (blk_below (bkD BK189) hb); have n5_ := Aside0.mk (blk_below (bkD BK205) hb); have n6_ := Aside0.mk (blk_below (bkD BK211) hb); have n7_ := Aside0.mk (blk_below (bkD BK221) hb); have n8_ := Aside0.mk (below_step (hbD HB) hb); clear HO_206000; clear HO_212000; clear HO_222000; clear BK189; clear BK205; clear BK211; clear BK221; clear HB; have HO_206000 := n0_; have HO_212000 := n1_; have HO_222000 := n2_; have HO243 := n3_; have BK189 := n4_; have BK205 := n5_; have BK211 := n6_; have BK221 := n7_; have HB := n8_; clear n0_ n1_ n2_ n3_ n4_ n5_ n6_ n7_ n8_; (try clear hb); (try clear hb2); (try clear hk); (try clear hi); (try clear ho0)) | ((with_reducible refine gate_callee (f := 23) rfl ?_); refine goesL_ (some 101) rfl rfl Tryd.func23 (by kernel_rfl) rfl #[.slice A2 l2.length c2] rfl (by (try simp only [List.map_toArray, List.map_cons, List.map_nil]); first | done | rfl | (simp only [List.length_drop, List.length_take]; rfl)) ?_; (with_reducible refine (laws_toInt32S.calls kj74 _ _ l2 t246 _ ?side1 ?side2 A120.out).mono ?_); (case side1 => repeat (first | exact (Kd.C_below HR2.out HB.out) | (with_reducible refine Kd.C_alloc ?_ _) | (with_reducible refine Kd.C_drewN ?_ _) | (with_reducible refine Kd.C_drew ?_))); (case side2 => exact HC2.out); rintro e w134 ⟨v247, rfl, ho0, hb⟩; refine ⟨_, rfl, ?_⟩; have n0_ := Aside0.mk (Kd.R_elder' (rD HO_206000.out) (Kd.R_base ho0) hb); have n1_ := Aside0.mk (Kd.R_elder' (rD HO_212000.out) (Kd.R_base ho0) hb); have n2_ := Aside0.mk (Kd.R_elder' (rD HO_222000.out) (Kd.R_base ho0) hb); have n3_ := Aside0.mk (Kd.R_elder' (rD HO243.out) (Kd.R_base ho0) hb); have n4_ := Aside0.mk (Kd.R_lower (Kd.R_new' (Kd.R_new' (Kd.R_new' (Kd.R_new' ho0 (Kd.R_lt (rD HO_206000.out))) (Kd.R_lt (rD HO_212000.out))) (Kd.R_lt (rD HO_222000.out))) (Kd.R_lt (rD HO243.out))) (below_size (hbD HB))); have n5_ := Aside0.mk (blk_below (bkD BK189) hb); have n6_ := Aside0.mk (blk_below (bkD BK205) hb); have n7_ := Aside0.mk (blk_below (bkD BK211) hb); have n8_ := Aside0.mk (blk_below (bkD BK221) hb); have n9_ := Aside0.mk (below_step (hbD HB) hb); clear HO_206000; clear HO_212000; clear HO_222000; clear HO243; clear BK189; clear BK205; clear BK211; clear BK221; clear HB; have HO_206000 := n0_; have HO_212000 := n1_; have HO_222000 := n2_; have HO243 := n3_; have HO248 := n4_; have BK189 := n5_; have BK205 := n6_; have BK211 := n7_; have BK221 := n8_; have HB := n9_; clear n0_ n1_ n2_ n3_ n4_ n5_ n6_ n7_ n8_ n9_; (try clear hb); (try clear hb2); (try clear hk); (try clear hi); (try clear ho0); obtain ⟨Ao135, co135, eo135⟩ := Kd.R_slice HO243.out; subst eo135; obtain ⟨Ao136, co136, eo136⟩ := Kd.R_slice HO248.out; subst eo136) | ((with_reducible refine gate_callee (f := 24) rfl ?_); refine goesL_ (some 102) rfl rfl Tryd.func24 (by kernel_rfl) rfl #[.agg #[.slice Ao135 t241.length co135, .int .i64 t244, .int .i64 t245], .int .i64 a1, .slice Ao136 t246.length co136] rfl (by (try simp only [List.map_toArray, List.map_cons, List.map_nil]); first | done | rfl | (simp only [List.length_drop, List.length_take]; rfl)) ?_; (with_reducible refine (impl_GapInsert.calls _ _ t241 t244 t245 a1 _ _ t246 t249 t252 t253 t254 _ ?side1 ?side2 ?side3 ?side4 ?side5 A121.out).mono ?_); (case side1 => repeat (first | exact (Kd.R_reads' HO243.out).2.2 | (with_reducible refine Kd.C_alloc ?_ _) | (with_reducible refine Kd.C_drewN ?_ _) | (with_reducible refine Kd.C_drew ?_))); (case side2 => exact (Kd.R_reads' HO243.out).2.1); (case side3 => repeat (first | exact (Kd.R_reads' HO248.out).2.2 | (with_reducible refine Kd.C_alloc ?_ _) | (with_reducible refine Kd.C_drewN ?_ _) | (with_reducible refine Kd.C_drew ?_))); (case side4 => exact (Kd.R_reads' HO248.out).2.1); (case side5 => exact HG.below hgG_ (hbD HB)); rintro e w137 ⟨v250, rfl, ho0, hb⟩; refine ⟨_, rfl, ?_⟩; have n0_ := Aside0.mk (Kd.R_elder' (rD HO_206000.out) (Kd.R_base ho0) hb); have n1_ := Aside0.mk (Kd.R_elder' (rD HO_212000.out) (Kd.R_base ho0) hb); have n2_ := Aside0.mk (Kd.R_elder' (rD HO_222000.out) (Kd.R_base ho0) hb); have n3_ := Aside0.mk (Kd.R_elder' (rD HO243.out) (Kd.R_base ho0) hb); have n4_ := Aside0.mk (Kd.R_elder' (rD HO248.out) (Kd.R_base ho0) hb); have n5_ := Aside0.mk (Kd.R_lower (Kd.R_new' (Kd.R_new' (Kd.R_new' (Kd.R_new' (Kd.R_new' ho0 (Kd.R_lt (rD HO_206000.out))) (Kd.R_lt (rD HO_212000.out))) (Kd.R_lt (rD HO_222000.out))) (Kd.R_lt (rD HO243.out))) (Kd.R_lt (rD HO248.out))) (below_size (hbD HB))); have n6_ := Aside0.mk (blk_below (bkD BK189) hb); have n7_ := Aside0.mk (blk_below (bkD BK205) hb); have n8_ := Aside0.mk (blk_below (bkD BK211) hb); have n9_ := Aside0.mk (blk_below (bkD BK221) hb); have n10_ := Aside0.mk (below_step (hbD HB) hb); clear HO_206000; clear HO_212000; clear HO_222000; clear HO243; clear HO248; clear BK189; clear BK205; clear BK211; clear BK221; clear HB; have HO_206000 := n0_; have HO_212000 := n1_; have HO_222000 := n2_; have HO243 := n3_; have HO248 := n4_; have HO251 := n5_; have BK189 := n6_; have BK205 := n7_; have BK211 := n8_; have BK221 := n9_; have HB := n10_; clear n0_ n1_ n2_ n3_ n4_ n5_ n6_ n7_ n8_ n9_ n10_; (try clear hb); (try clear hb2); (try clear hk); (try clear hi); (try clear ho0)) | ((with_reducible refine gate_dst (N := 17) rfl ?_); refine box_event ?hg (N := 17) ?hd (cs := #[.slice none 0 0, .int .i64 0, .int .i64 0]) (t := 28) ?hr ?_; (case hd => rfl); (case hg => rfl); (case hr => first | (go_simp; done) | (go_simp; rfl)); intro gb255 hg w138 hbox hb; have n0_ := Aside0.mk (Kd.R_below (rD HO_206000.out) hb); have n1_ := Aside0.mk (Kd.R_below (rD HO_212000.out) hb); have n2_ := Aside0.mk (Kd.R_below (rD HO_222000.out) hb); have n3_ := Aside0.mk (Kd.R_below (rD HO243.out) hb); have n4_ := Aside0.mk (Kd.R_below (rD HO248.out) hb); have n5_ := Aside0.mk (Kd.R_below (rD HO251.out) hb); have n6_ := Aside0.mk (blk_below (bkD BK189) hb); have n7_ := Aside0.mk (blk_below (bkD BK205) hb); have n8_ := Aside0.mk (blk_below (bkD BK211) hb); have n9_ := Aside0.mk (blk_below (bkD BK221) hb); have n10_ := Aside0.mk (below_step (hbD HB) hb); have n11_ := Aside0.mk (hbox); have n12_ := Aside0.mk ((by rw [hg]; exact (below_size (hbD HB)) : w.heap.size ≤ gb255)); have n13_ := Aside0.mk ((by rw [hg]; exact (below_size (hbD HB)) : w.heap.size ≤ gb255)); have n14_ := Aside0.mk ((by rw [hg]; exact Nat.ne_of_lt (blk_lt (bkD BK189)) : gb189 ≠ gb255)); have n15_ := Aside0.mk ((by rw [hg]; exact Nat.ne_of_gt (blk_lt (bkD BK189)) : gb255 ≠ gb189)); have n16_ := Aside0.mk ((by rw [hg]; exact Nat.ne_of_lt (blk_lt (bkD BK205)) : gb205 ≠ gb255)); have n17_ := Aside0.mk ((by rw [hg]; exact Nat.ne_of_gt (blk_lt (bkD BK205)) : gb255 ≠ gb205)); have n18_ := Aside0.mk ((by rw [hg]; exact Nat.ne_of_lt (blk_lt (bkD BK211)) : gb211 ≠ gb255)); have n19_ := Aside0.mk ((by rw [hg]; exact Nat.ne_of_gt (blk_lt (bkD BK211)) : gb255 ≠ gb211)); have n20_ := Aside0.mk ((by rw [hg]; exact Nat.ne_of_lt (blk_lt (bkD BK221)) : gb221 ≠ gb255)); have n21_ := Aside0.mk ((by rw [hg]; exact Nat.ne_of_gt (blk_lt (bkD BK221)) : gb255 ≠ gb221)); clear HO_206000; clear HO_212000; clear HO_222000; clear HO243; clear HO248; clear HO251; clear BK189; clear BK205; clear BK211; clear BK221; clear HB; have HO_206000 := n0_; have HO_212000 := n1_; have HO_222000 := n2_; have HO243 := n3_; have HO248 := n4_; have HO251 := n5_; have BK189 := n6_; have BK205 := n7_; have BK211 := n8_; have BK221 := n9_; have HB := n10_; have BK255 := n11_; have GW255 := n12_; have GE255 := n13_; have NB189_255 := n14_; have NB255_189 := n15_; have NB205_255 := n16_; have NB255_205 := n17_; have NB211_255 := n18_; have NB255_211 := n19_; have NB221_255 := n20_; have NB255_221 := n21_; clear n0_ n1_ n2_ n3_ n4_ n5_ n6_ n7_ n8_ n9_ n10_ n11_ n12_ n13_ n14_ n15_ n16_ n17_ n18_ n19_ n20_ n21_; clear hb hbox hg; obtain ⟨Ao139, co139, eo139⟩ := Kd.R_slice HO251.out; subst eo139; have hnb140 := NB255_189.out; have hnc140 := NB189_255.out; have hnb141 := NB255_205.out; have hnc141 := NB205_255.out; have hnb142 := NB255_211.out; have hnc142 := NB211_255.out; have hnb143 := NB255_221.out; have hnc143 := NB221_255.out; have hcz144_0 : w138.cell? ⟨gb255, 0, none⟩ = some (.slice none 0 0) := (blk_cell BK255.out 0).trans rfl; have hcz144_1 : w138.cell? ⟨gb255, 1, none⟩ = some (.int .i64 0) := (blk_cell BK255.out 1).trans rfl; have hcz144_2 : w138.cell? ⟨gb255, 2, none⟩ = some (.int .i64 0) := (blk_cell BK255.out 2).trans rfl; have hfz144_0 := blk_frozen BK255.out 0; have hfz144_1 := blk_frozen BK255.out 1; have hfz144_2 := blk_frozen BK255.out 2))
             (try simp only [Act.put, List.setIfInBounds_toArray, List.set_cons_zero, List.set_cons_succ])
             go_cut [113] (fun v113 wc => ∃ (kq : Nat) (x113_121 : Bool), v113 = .bool x113_121 ∧ Aside0 (laws_FnExactGapInsert.j2 kq t238 x113_121 t239 t218 t219 = some r) ∧ Aside0 (kq ≤ kj74) ∧ Aside0 (Kd.R (Kd.int .i32) 21 wc w.heap.size (fun k_ => some k_ ≠ ((.slice Ao34 t234.length co34) : Value).ownBlock ∧ some k_ ≠ ((.slice Ao43 t215.length co43) : Value).ownBlock ∧ some k_ ≠ ((.slice Ao139 t249.length co139) : Value).ownBlock) (.slice Ao28 t199.length co28) t199) ∧ Aside0 (Kd.R (Kd.int .i32) 21 wc w.heap.size (fun k_ => some k_ ≠ ((.slice Ao28 t199.length co28) : Value).ownBlock ∧ some k_ ≠ ((.slice Ao43 t215.length co43) : Value).ownBlock ∧ some k_ ≠ ((.slice Ao139 t249.length co139) : Value).ownBlock) (.slice Ao34 t234.length co34) t234) ∧ Aside0 (Kd.R (Kd.int .i32) 21 wc w.heap.size (fun k_ => some k_ ≠ ((.slice Ao28 t199.length co28) : Value).ownBlock ∧ some k_ ≠ ((.slice Ao34 t234.length co34) : Value).ownBlock ∧ some k_ ≠ ((.slice Ao139 t249.length co139) : Value).ownBlock) (.slice Ao43 t215.length co43) t239) ∧ Aside0 (Kd.R (Kd.int .i32) 21 wc w.heap.size (fun k_ => some k_ ≠ ((.slice Ao28 t199.length co28) : Value).ownBlock ∧ some k_ ≠ ((.slice Ao34 t234.length co34) : Value).ownBlock ∧ some k_ ≠ ((.slice Ao43 t215.length co43) : Value).ownBlock) (.slice Ao139 t249.length co139) t249) ∧ Aside0 (wc.heap[gb189]? = some (.cells #[(.slice A0_0 l0_0.length c0_0), .int .i64 a0_1, .int .i64 a0_2] 24 (0, 0))) ∧ Aside0 (wc.heap[gb205]? = some (.cells #[(.slice Ao28 t199.length co28), .int .i64 t202, .int .i64 t203] 28 (0, 0))) ∧ Aside0 (wc.heap[gb211]? = some (.cells #[(.slice Ao34 t234.length co34), .int .i64 t209, .int .i64 t210] 28 (0, 0))) ∧ Aside0 (wc.heap[gb221]? = some (.cells #[(.slice Ao43 t215.length co43), .int .i64 t218, .int .i64 t219] 28 (0, 0))) ∧ Aside0 (wc.heap[gb255]? = some (.cells #[(.slice Ao139 t249.length co139), .int .i64 t252, .int .i64 t253] 28 (0, 0))) ∧ Aside0 (Below w.heap.size w wc))
             case first =>
              have H := HC122.out
              clear HC122
              replace H := Option.bind_eq_some_iff.mp H
              obtain ⟨t256, A1450, H⟩ := H
              replace H : (if t256 = true then (laws_FnExactGapInsert.j2 kj74 t238 (t254 != t204) t239 t218 t219) else (laws_FnExactGapInsert.j2 kj74 t238 true t239 t218 t219)) = some r := H
              have A145 := Aside0.mk A1450
              clear A1450
              by_cases c146 : t256 = true
              ·subst c146
               have H1 : (laws_FnExactGapInsert.j2 kj74 t238 (t254 != t204) t239 t218 t219) = some r := by rw [if_pos rfl] at H; exact H
               clear H
               have H := H1
               clear H1
               have H' := Aside0.mk H
               clear H
               have hnb147 := NB255_189.out
               have hnc147 := NB189_255.out
               have hnb148 := NB255_205.out
               have hnc148 := NB205_255.out
               have hnb149 := NB255_211.out
               have hnc149 := NB211_255.out
               have hnb150 := NB255_221.out
               have hnc150 := NB221_255.out
               have hcz151_0 : w138.cell? ⟨gb255, 0, none⟩ = some (.slice none 0 0) := (blk_cell BK255.out 0).trans rfl
               have hcz151_1 : w138.cell? ⟨gb255, 1, none⟩ = some (.int .i64 0) := (blk_cell BK255.out 1).trans rfl
               have hcz151_2 : w138.cell? ⟨gb255, 2, none⟩ = some (.int .i64 0) := (blk_cell BK255.out 2).trans rfl
               have hfz151_0 := blk_frozen BK255.out 0
               have hfz151_1 := blk_frozen BK255.out 1
               have hfz151_2 := blk_frozen BK255.out 2
               have hnb152 := NB205_189.out
               have hnc152 := NB189_205.out
               have hnb153 := NB205_211.out
               have hnc153 := NB211_205.out
               have hnb154 := NB205_221.out
               have hnc154 := NB221_205.out
               have hcz155_0 : w138.cell? ⟨gb205, 0, none⟩ = some (.slice Ao28 t199.length co28) := (blk_cell BK205.out 0).trans rfl
               have hcz155_1 : w138.cell? ⟨gb205, 1, none⟩ = some (.int .i64 t202) := (blk_cell BK205.out 1).trans rfl
               have hcz155_2 : w138.cell? ⟨gb205, 2, none⟩ = some (.int .i64 t203) := (blk_cell BK205.out 2).trans rfl
               have hfz155_0 := blk_frozen BK205.out 0
               have hfz155_1 := blk_frozen BK205.out 1
               have hfz155_2 := blk_frozen BK205.out 2
               go_wp2_with (first | ((with_reducible refine gate_callee (f := 15) rfl ?_); refine goesL_ (some 107) rfl rfl Tryd.func15 (by kernel_rfl) rfl #[.agg #[.slice Ao139 t249.length co139, .int .i64 t252, .int .i64 t253], .agg #[.slice Ao28 t199.length co28, .int .i64 t202, .int .i64 t203]] rfl (by (try simp only [List.map_toArray, List.map_cons, List.map_nil]); first | done | rfl | (simp only [List.length_drop, List.length_take]; rfl)) ?_; (with_reducible refine (laws_eqGap.calls kj74 _ _ t249 t252 t253 _ _ t199 t202 t203 true _ ?side1 ?side2 ?side3 ?side4 A145.out).mono ?_); (case side1 => refine (Kd.R_reads' (e := 21) (base := w.heap.size) (ok := fun k_ => (((((True ∧ some k_ ≠ (.slice Ao28 t199.length co28 : Value).ownBlock) ∧ some k_ ≠ (.slice Ao34 t234.length co34 : Value).ownBlock) ∧ some k_ ≠ (.slice Ao43 t215.length co43 : Value).ownBlock) ∧ some k_ ≠ (.slice Ao135 t241.length co135 : Value).ownBlock) ∧ some k_ ≠ (.slice Ao136 t246.length co136 : Value).ownBlock)) (n := t249.length) (c := co139) ?_).2.2; exact (rD ((Kd.R_mono (Kd.R_far (p := ⟨gb255, 2, none⟩) (Kd.R_far (p := ⟨gb255, 1, none⟩) (Kd.R_far (p := ⟨gb255, 0, none⟩) (Kd.R_types HO251.out BK255.out (by decide)) (fun _ hk => hk.2) (.slice Ao139 t249.length co139)) (fun _ hk => hk.2) (.int .i64 t252)) (fun _ hk => hk.2) (.int .i64 t253)) (fun _ h_ => h_.1))))); (case side2 => exact (Kd.R_reads' HO251.out).2.1); (case side3 => refine (Kd.R_reads' (e := 21) (base := w.heap.size) (ok := fun k_ => ((((some k_ ≠ (.slice Ao34 t234.length co34 : Value).ownBlock ∧ some k_ ≠ (.slice Ao43 t215.length co43 : Value).ownBlock) ∧ some k_ ≠ (.slice Ao135 t241.length co135 : Value).ownBlock) ∧ some k_ ≠ (.slice Ao136 t246.length co136 : Value).ownBlock) ∧ some k_ ≠ (.slice Ao139 t249.length co139 : Value).ownBlock)) (n := t199.length) (c := co28) ?_).2.2; exact (rD ((Kd.R_mono (Kd.R_far (p := ⟨gb255, 2, none⟩) (Kd.R_far (p := ⟨gb255, 1, none⟩) (Kd.R_far (p := ⟨gb255, 0, none⟩) (Kd.R_types HO_206000.out BK255.out (by decide)) (fun _ hk => hk.2) (.slice Ao139 t249.length co139)) (fun _ hk => hk.2) (.int .i64 t252)) (fun _ hk => hk.2) (.int .i64 t253)) (fun _ h_ => h_.1))))); (case side4 => exact (Kd.R_reads' HO_206000.out).2.1); rintro e w156 ⟨rfl, hb⟩; refine ⟨_, rfl, ?_⟩; have n0_ := Aside0.mk (Kd.R_below (rD ((Kd.R_mono (Kd.R_far (p := ⟨gb255, 2, none⟩) (Kd.R_far (p := ⟨gb255, 1, none⟩) (Kd.R_far (p := ⟨gb255, 0, none⟩) (Kd.R_types HO_206000.out BK255.out (by decide)) (fun _ hk => hk.2) (.slice Ao139 t249.length co139)) (fun _ hk => hk.2) (.int .i64 t252)) (fun _ hk => hk.2) (.int .i64 t253)) (fun _ h_ => h_.1)))) hb); have n1_ := Aside0.mk (Kd.R_below (rD ((Kd.R_mono (Kd.R_far (p := ⟨gb255, 2, none⟩) (Kd.R_far (p := ⟨gb255, 1, none⟩) (Kd.R_far (p := ⟨gb255, 0, none⟩) (Kd.R_types HO_212000.out BK255.out (by decide)) (fun _ hk => hk.2) (.slice Ao139 t249.length co139)) (fun _ hk => hk.2) (.int .i64 t252)) (fun _ hk => hk.2) (.int .i64 t253)) (fun _ h_ => h_.1)))) hb); have n2_ := Aside0.mk (Kd.R_below (rD ((Kd.R_mono (Kd.R_far (p := ⟨gb255, 2, none⟩) (Kd.R_far (p := ⟨gb255, 1, none⟩) (Kd.R_far (p := ⟨gb255, 0, none⟩) (Kd.R_types HO_222000.out BK255.out (by decide)) (fun _ hk => hk.2) (.slice Ao139 t249.length co139)) (fun _ hk => hk.2) (.int .i64 t252)) (fun _ hk => hk.2) (.int .i64 t253)) (fun _ h_ => h_.1)))) hb); have n3_ := Aside0.mk (Kd.R_below (rD ((Kd.R_mono (Kd.R_far (p := ⟨gb255, 2, none⟩) (Kd.R_far (p := ⟨gb255, 1, none⟩) (Kd.R_far (p := ⟨gb255, 0, none⟩) (Kd.R_types HO243.out BK255.out (by decide)) (fun _ hk => hk.2) (.slice Ao139 t249.length co139)) (fun _ hk => hk.2) (.int .i64 t252)) (fun _ hk => hk.2) (.int .i64 t253)) (fun _ h_ => h_.1)))) hb); have n4_ := Aside0.mk (Kd.R_below (rD ((Kd.R_mono (Kd.R_far (p := ⟨gb255, 2, none⟩) (Kd.R_far (p := ⟨gb255, 1, none⟩) (Kd.R_far (p := ⟨gb255, 0, none⟩) (Kd.R_types HO248.out BK255.out (by decide)) (fun _ hk => hk.2) (.slice Ao139 t249.length co139)) (fun _ hk => hk.2) (.int .i64 t252)) (fun _ hk => hk.2) (.int .i64 t253)) (fun _ h_ => h_.1)))) hb); have n5_ := Aside0.mk (Kd.R_below (rD ((Kd.R_mono (Kd.R_far (p := ⟨gb255, 2, none⟩) (Kd.R_far (p := ⟨gb255, 1, none⟩) (Kd.R_far (p := ⟨gb255, 0, none⟩) (Kd.R_types HO251.out BK255.out (by decide)) (fun _ hk => hk.2) (.slice Ao139 t249.length co139)) (fun _ hk => hk.2) (.int .i64 t252)) (fun _ hk => hk.2) (.int .i64 t253)) (fun _ h_ => h_.1)))) hb); have n6_ := Aside0.mk (blk_below (g := gb189) (o := .cells #[.slice A0_0 l0_0.length c0_0, .int .i64 a0_1, .int .i64 a0_2] 24 (0, 0)) (by (with_reducible repeat (first | refine blk_drewN ?_ _ | refine blk_drew ?_ | refine blk_alloc ?_ _)); refine blk_far ?_ NB189_255.out _; (with_reducible repeat (first | refine blk_drewN ?_ _ | refine blk_drew ?_ | refine blk_alloc ?_ _)); refine blk_far ?_ NB189_255.out _; (with_reducible repeat (first | refine blk_drewN ?_ _ | refine blk_drew ?_ | refine blk_alloc ?_ _)); refine blk_far ?_ NB189_255.out _; (with_reducible repeat (first | refine blk_drewN ?_ _ | refine blk_drew ?_ | refine blk_alloc ?_ _)); exact BK189.out) hb); have n7_ := Aside0.mk (blk_below (g := gb205) (o := .cells #[.slice Ao28 t199.length co28, .int .i64 t202, .int .i64 t203] 28 (0, 0)) (by (with_reducible repeat (first | refine blk_drewN ?_ _ | refine blk_drew ?_ | refine blk_alloc ?_ _)); refine blk_far ?_ NB205_255.out _; (with_reducible repeat (first | refine blk_drewN ?_ _ | refine blk_drew ?_ | refine blk_alloc ?_ _)); refine blk_far ?_ NB205_255.out _; (with_reducible repeat (first | refine blk_drewN ?_ _ | refine blk_drew ?_ | refine blk_alloc ?_ _)); refine blk_far ?_ NB205_255.out _; (with_reducible repeat (first | refine blk_drewN ?_ _ | refine blk_drew ?_ | refine blk_alloc ?_ _)); exact BK205.out) hb); have n8_ := Aside0.mk (blk_below (g := gb211) (o := .cells #[.slice Ao34 t234.length co34, .int .i64 t209, .int .i64 t210] 28 (0, 0)) (by (with_reducible repeat (first | refine blk_drewN ?_ _ | refine blk_drew ?_ | refine blk_alloc ?_ _)); refine blk_far ?_ NB211_255.out _; (with_reducible repeat (first | refine blk_drewN ?_ _ | refine blk_drew ?_ | refine blk_alloc ?_ _)); refine blk_far ?_ NB211_255.out _; (with_reducible repeat (first | refine blk_drewN ?_ _ | refine blk_drew ?_ | refine blk_alloc ?_ _)); refine blk_far ?_ NB211_255.out _; (with_reducible repeat (first | refine blk_drewN ?_ _ | refine blk_drew ?_ | refine blk_alloc ?_ _)); exact BK211.out) hb); have n9_ := Aside0.mk (blk_below (g := gb221) (o := .cells #[.slice Ao43 t215.length co43, .int .i64 t218, .int .i64 t219] 28 (0, 0)) (by (with_reducible repeat (first | refine blk_drewN ?_ _ | refine blk_drew ?_ | refine blk_alloc ?_ _)); refine blk_far ?_ NB221_255.out _; (with_reducible repeat (first | refine blk_drewN ?_ _ | refine blk_drew ?_ | refine blk_alloc ?_ _)); refine blk_far ?_ NB221_255.out _; (with_reducible repeat (first | refine blk_drewN ?_ _ | refine blk_drew ?_ | refine blk_alloc ?_ _)); refine blk_far ?_ NB221_255.out _; (with_reducible repeat (first | refine blk_drewN ?_ _ | refine blk_drew ?_ | refine blk_alloc ?_ _)); exact BK221.out) hb); have n10_ := Aside0.mk (blk_below (g := gb255) (o := .cells #[.slice Ao139 t249.length co139, .int .i64 t252, .int .i64 t253] 28 (0, 0)) (by (with_reducible repeat (first | refine blk_drewN ?_ _ | refine blk_drew ?_ | refine blk_alloc ?_ _)); refine blk_put (cs := #[.slice Ao139 t249.length co139, .int .i64 t252, .int .i64 0]) ?_ 2 _ rfl; (with_reducible repeat (first | refine blk_drewN ?_ _ | refine blk_drew ?_ | refine blk_alloc ?_ _)); refine blk_put (cs := #[.slice Ao139 t249.length co139, .int .i64 0, .int .i64 0]) ?_ 1 _ rfl; (with_reducible repeat (first | refine blk_drewN ?_ _ | refine blk_drew ?_ | refine blk_alloc ?_ _)); refine blk_put (cs := #[.slice none 0 0, .int .i64 0, .int .i64 0]) ?_ 0 _ rfl; (with_reducible repeat (first | refine blk_drewN ?_ _ | refine blk_drew ?_ | refine blk_alloc ?_ _)); exact BK255.out) hb); have n11_ := Aside0.mk (below_step (hbD HB) hb); clear HO_206000; clear HO_212000; clear HO_222000; clear HO243; clear HO248; clear HO251; clear BK189; clear BK205; clear BK211; clear BK221; clear BK255; clear HB; have HO_206000 := n0_; have HO_212000 := n1_; have HO_222000 := n2_; have HO243 := n3_; have HO248 := n4_; have HO251 := n5_; have BK189 := n6_; have BK205 := n7_; have BK211 := n8_; have BK221 := n9_; have BK255 := n10_; have HB := n11_; clear n0_ n1_ n2_ n3_ n4_ n5_ n6_ n7_ n8_ n9_ n10_ n11_; (try clear hb); (try clear hb2); (try clear hk); (try clear hi)))
               go_meet
               case rel => exact ⟨_, ((t254 != t204)), (by first | rfl | (simp; done) | (simp [*]; done)), H', ⟨by have := HJ16.out; have := HJ74.out; first | omega | exact Nat.le_refl _⟩, ⟨by (try simp only [hl212000_74]); (with_reducible repeat (first | apply Kd.R_alloc | apply Kd.R_drewN | apply Kd.R_drew)); exact Kd.R_mono HO_206000.out (fun _ hk => ⟨hk.1.1.1.1, ⟨hk.1.1.1.2, hk.2⟩⟩)⟩, ⟨by (try simp only [hl212000_74]); (with_reducible repeat (first | apply Kd.R_alloc | apply Kd.R_drewN | apply Kd.R_drew)); exact Kd.R_mono HO_212000.out (fun _ hk => ⟨hk.1.1.1.1, ⟨hk.1.1.1.2, hk.2⟩⟩)⟩, ⟨by (try simp only [hl212000_74]); (with_reducible repeat (first | apply Kd.R_alloc | apply Kd.R_drewN | apply Kd.R_drew)); exact Kd.R_mono HO_222000.out (fun _ hk => ⟨hk.1.1.1.1, ⟨hk.1.1.1.2, hk.2⟩⟩)⟩, ⟨by (try simp only [hl212000_74]); (with_reducible repeat (first | apply Kd.R_alloc | apply Kd.R_drewN | apply Kd.R_drew)); exact Kd.R_mono HO251.out (fun _ hk => ⟨hk.1.1.1.1.2, ⟨hk.1.1.1.2, hk.1.1.2⟩⟩)⟩, ⟨by (try simp only [hl212000_74]); (with_reducible repeat (first | refine blk_drewN ?_ _ | refine blk_drew ?_ | refine blk_alloc ?_ _)); exact BK189.out⟩, ⟨by (try simp only [hl212000_74]); (with_reducible repeat (first | refine blk_drewN ?_ _ | refine blk_drew ?_ | refine blk_alloc ?_ _)); exact BK205.out⟩, ⟨by (try simp only [hl212000_74]); (with_reducible repeat (first | refine blk_drewN ?_ _ | refine blk_drew ?_ | refine blk_alloc ?_ _)); exact BK211.out⟩, ⟨by (try simp only [hl212000_74]); (with_reducible repeat (first | refine blk_drewN ?_ _ | refine blk_drew ?_ | refine blk_alloc ?_ _)); exact BK221.out⟩, ⟨by (try simp only [hl212000_74]); (with_reducible repeat (first | refine blk_drewN ?_ _ | refine blk_drew ?_ | refine blk_alloc ?_ _)); exact BK255.out⟩, ⟨by repeat (first | (with_reducible first | exact HB.out | apply below_alloc | apply pw_below_drewN | apply below_drew1 | refine below_set ?_ GE189.out | refine below_set ?_ GE205.out | refine below_set ?_ GE211.out | refine below_set ?_ GE221.out | refine below_set ?_ GE255.out) | exact HB.out)⟩⟩
              ·replace c146 := Bool.eq_false_iff.mpr c146
               subst c146
               have H1 : (laws_FnExactGapInsert.j2 kj74 t238 true t239 t218 t219) = some r := by rw [if_neg (show ¬ (false = true) by decide)] at H; exact H
               clear H
               have H := H1
               clear H1
               have H' := Aside0.mk H
               clear H
               have hnb157 := NB255_189.out
               have hnc157 := NB189_255.out
               have hnb158 := NB255_205.out
               have hnc158 := NB205_255.out
               have hnb159 := NB255_211.out
               have hnc159 := NB211_255.out
               have hnb160 := NB255_221.out
               have hnc160 := NB221_255.out
               have hcz161_0 : w138.cell? ⟨gb255, 0, none⟩ = some (.slice none 0 0) := (blk_cell BK255.out 0).trans rfl
               have hcz161_1 : w138.cell? ⟨gb255, 1, none⟩ = some (.int .i64 0) := (blk_cell BK255.out 1).trans rfl
               have hcz161_2 : w138.cell? ⟨gb255, 2, none⟩ = some (.int .i64 0) := (blk_cell BK255.out 2).trans rfl
               have hfz161_0 := blk_frozen BK255.out 0
               have hfz161_1 := blk_frozen BK255.out 1
               have hfz161_2 := blk_frozen BK255.out 2
               have hnb162 := NB205_189.out
               have hnc162 := NB189_205.out
               have hnb163 := NB205_211.out
               have hnc163 := NB211_205.out
               have hnb164 := NB205_221.out
               have hnc164 := NB221_205.out
               have hcz165_0 : w138.cell? ⟨gb205, 0, none⟩ = some (.slice Ao28 t199.length co28) := (blk_cell BK205.out 0).trans rfl
               have hcz165_1 : w138.cell? ⟨gb205, 1, none⟩ = some (.int .i64 t202) := (blk_cell BK205.out 1).trans rfl
               have hcz165_2 : w138.cell? ⟨gb205, 2, none⟩ = some (.int .i64 t203) := (blk_cell BK205.out 2).trans rfl
               have hfz165_0 := blk_frozen BK205.out 0
               have hfz165_1 := blk_frozen BK205.out 1
               have hfz165_2 := blk_frozen BK205.out 2
               go_wp2_with (first | ((with_reducible refine gate_callee (f := 15) rfl ?_); refine goesL_ (some 107) rfl rfl Tryd.func15 (by kernel_rfl) rfl #[.agg #[.slice Ao139 t249.length co139, .int .i64 t252, .int .i64 t253], .agg #[.slice Ao28 t199.length co28, .int .i64 t202, .int .i64 t203]] rfl (by (try simp only [List.map_toArray, List.map_cons, List.map_nil]); first | done | rfl | (simp only [List.length_drop, List.length_take]; rfl)) ?_; (with_reducible refine (laws_eqGap.calls kj74 _ _ t249 t252 t253 _ _ t199 t202 t203 false _ ?side1 ?side2 ?side3 ?side4 A145.out).mono ?_); (case side1 => refine (Kd.R_reads' (e := 21) (base := w.heap.size) (ok := fun k_ => (((((True ∧ some k_ ≠ (.slice Ao28 t199.length co28 : Value).ownBlock) ∧ some k_ ≠ (.slice Ao34 t234.length co34 : Value).ownBlock) ∧ some k_ ≠ (.slice Ao43 t215.length co43 : Value).ownBlock) ∧ some k_ ≠ (.slice Ao135 t241.length co135 : Value).ownBlock) ∧ some k_ ≠ (.slice Ao136 t246.length co136 : Value).ownBlock)) (n := t249.length) (c := co139) ?_).2.2; exact (rD ((Kd.R_mono (Kd.R_far (p := ⟨gb255, 2, none⟩) (Kd.R_far (p := ⟨gb255, 1, none⟩) (Kd.R_far (p := ⟨gb255, 0, none⟩) (Kd.R_types HO251.out BK255.out (by decide)) (fun _ hk => hk.2) (.slice Ao139 t249.length co139)) (fun _ hk => hk.2) (.int .i64 t252)) (fun _ hk => hk.2) (.int .i64 t253)) (fun _ h_ => h_.1))))); (case side2 => exact (Kd.R_reads' HO251.out).2.1); (case side3 => refine (Kd.R_reads' (e := 21) (base := w.heap.size) (ok := fun k_ => ((((some k_ ≠ (.slice Ao34 t234.length co34 : Value).ownBlock ∧ some k_ ≠ (.slice Ao43 t215.length co43 : Value).ownBlock) ∧ some k_ ≠ (.slice Ao135 t241.length co135 : Value).ownBlock) ∧ some k_ ≠ (.slice Ao136 t246.length co136 : Value).ownBlock) ∧ some k_ ≠ (.slice Ao139 t249.length co139 : Value).ownBlock)) (n := t199.length) (c := co28) ?_).2.2; exact (rD ((Kd.R_mono (Kd.R_far (p := ⟨gb255, 2, none⟩) (Kd.R_far (p := ⟨gb255, 1, none⟩) (Kd.R_far (p := ⟨gb255, 0, none⟩) (Kd.R_types HO_206000.out BK255.out (by decide)) (fun _ hk => hk.2) (.slice Ao139 t249.length co139)) (fun _ hk => hk.2) (.int .i64 t252)) (fun _ hk => hk.2) (.int .i64 t253)) (fun _ h_ => h_.1))))); (case side4 => exact (Kd.R_reads' HO_206000.out).2.1); rintro e w166 ⟨rfl, hb⟩; refine ⟨_, rfl, ?_⟩; have n0_ := Aside0.mk (Kd.R_below (rD ((Kd.R_mono (Kd.R_far (p := ⟨gb255, 2, none⟩) (Kd.R_far (p := ⟨gb255, 1, none⟩) (Kd.R_far (p := ⟨gb255, 0, none⟩) (Kd.R_types HO_206000.out BK255.out (by decide)) (fun _ hk => hk.2) (.slice Ao139 t249.length co139)) (fun _ hk => hk.2) (.int .i64 t252)) (fun _ hk => hk.2) (.int .i64 t253)) (fun _ h_ => h_.1)))) hb); have n1_ := Aside0.mk (Kd.R_below (rD ((Kd.R_mono (Kd.R_far (p := ⟨gb255, 2, none⟩) (Kd.R_far (p := ⟨gb255, 1, none⟩) (Kd.R_far (p := ⟨gb255, 0, none⟩) (Kd.R_types HO_212000.out BK255.out (by decide)) (fun _ hk => hk.2) (.slice Ao139 t249.length co139)) (fun _ hk => hk.2) (.int .i64 t252)) (fun _ hk => hk.2) (.int .i64 t253)) (fun _ h_ => h_.1)))) hb); have n2_ := Aside0.mk (Kd.R_below (rD ((Kd.R_mono (Kd.R_far (p := ⟨gb255, 2, none⟩) (Kd.R_far (p := ⟨gb255, 1, none⟩) (Kd.R_far (p := ⟨gb255, 0, none⟩) (Kd.R_types HO_222000.out BK255.out (by decide)) (fun _ hk => hk.2) (.slice Ao139 t249.length co139)) (fun _ hk => hk.2) (.int .i64 t252)) (fun _ hk => hk.2) (.int .i64 t253)) (fun _ h_ => h_.1)))) hb); have n3_ := Aside0.mk (Kd.R_below (rD ((Kd.R_mono (Kd.R_far (p := ⟨gb255, 2, none⟩) (Kd.R_far (p := ⟨gb255, 1, none⟩) (Kd.R_far (p := ⟨gb255, 0, none⟩) (Kd.R_types HO243.out BK255.out (by decide)) (fun _ hk => hk.2) (.slice Ao139 t249.length co139)) (fun _ hk => hk.2) (.int .i64 t252)) (fun _ hk => hk.2) (.int .i64 t253)) (fun _ h_ => h_.1)))) hb); have n4_ := Aside0.mk (Kd.R_below (rD ((Kd.R_mono (Kd.R_far (p := ⟨gb255, 2, none⟩) (Kd.R_far (p := ⟨gb255, 1, none⟩) (Kd.R_far (p := ⟨gb255, 0, none⟩) (Kd.R_types HO248.out BK255.out (by decide)) (fun _ hk => hk.2) (.slice Ao139 t249.length co139)) (fun _ hk => hk.2) (.int .i64 t252)) (fun _ hk => hk.2) (.int .i64 t253)) (fun _ h_ => h_.1)))) hb); have n5_ := Aside0.mk (Kd.R_below (rD ((Kd.R_mono (Kd.R_far (p := ⟨gb255, 2, none⟩) (Kd.R_far (p := ⟨gb255, 1, none⟩) (Kd.R_far (p := ⟨gb255, 0, none⟩) (Kd.R_types HO251.out BK255.out (by decide)) (fun _ hk => hk.2) (.slice Ao139 t249.length co139)) (fun _ hk => hk.2) (.int .i64 t252)) (fun _ hk => hk.2) (.int .i64 t253)) (fun _ h_ => h_.1)))) hb); have n6_ := Aside0.mk (blk_below (g := gb189) (o := .cells #[.slice A0_0 l0_0.length c0_0, .int .i64 a0_1, .int .i64 a0_2] 24 (0, 0)) (by (with_reducible repeat (first | refine blk_drewN ?_ _ | refine blk_drew ?_ | refine blk_alloc ?_ _)); refine blk_far ?_ NB189_255.out _; (with_reducible repeat (first | refine blk_drewN ?_ _ | refine blk_drew ?_ | refine blk_alloc ?_ _)); refine blk_far ?_ NB189_255.out _; (with_reducible repeat (first | refine blk_drewN ?_ _ | refine blk_drew ?_ | refine blk_alloc ?_ _)); refine blk_far ?_ NB189_255.out _; (with_reducible repeat (first | refine blk_drewN ?_ _ | refine blk_drew ?_ | refine blk_alloc ?_ _)); exact BK189.out) hb); have n7_ := Aside0.mk (blk_below (g := gb205) (o := .cells #[.slice Ao28 t199.length co28, .int .i64 t202, .int .i64 t203] 28 (0, 0)) (by (with_reducible repeat (first | refine blk_drewN ?_ _ | refine blk_drew ?_ | refine blk_alloc ?_ _)); refine blk_far ?_ NB205_255.out _; (with_reducible repeat (first | refine blk_drewN ?_ _ | refine blk_drew ?_ | refine blk_alloc ?_ _)); refine blk_far ?_ NB205_255.out _; (with_reducible repeat (first | refine blk_drewN ?_ _ | refine blk_drew ?_ | refine blk_alloc ?_ _)); refine blk_far ?_ NB205_255.out _; (with_reducible repeat (first | refine blk_drewN ?_ _ | refine blk_drew ?_ | refine blk_alloc ?_ _)); exact BK205.out) hb); have n8_ := Aside0.mk (blk_below (g := gb211) (o := .cells #[.slice Ao34 t234.length co34, .int .i64 t209, .int .i64 t210] 28 (0, 0)) (by (with_reducible repeat (first | refine blk_drewN ?_ _ | refine blk_drew ?_ | refine blk_alloc ?_ _)); refine blk_far ?_ NB211_255.out _; (with_reducible repeat (first | refine blk_drewN ?_ _ | refine blk_drew ?_ | refine blk_alloc ?_ _)); refine blk_far ?_ NB211_255.out _; (with_reducible repeat (first | refine blk_drewN ?_ _ | refine blk_drew ?_ | refine blk_alloc ?_ _)); refine blk_far ?_ NB211_255.out _; (with_reducible repeat (first | refine blk_drewN ?_ _ | refine blk_drew ?_ | refine blk_alloc ?_ _)); exact BK211.out) hb); have n9_ := Aside0.mk (blk_below (g := gb221) (o := .cells #[.slice Ao43 t215.length co43, .int .i64 t218, .int .i64 t219] 28 (0, 0)) (by (with_reducible repeat (first | refine blk_drewN ?_ _ | refine blk_drew ?_ | refine blk_alloc ?_ _)); refine blk_far ?_ NB221_255.out _; (with_reducible repeat (first | refine blk_drewN ?_ _ | refine blk_drew ?_ | refine blk_alloc ?_ _)); refine blk_far ?_ NB221_255.out _; (with_reducible repeat (first | refine blk_drewN ?_ _ | refine blk_drew ?_ | refine blk_alloc ?_ _)); refine blk_far ?_ NB221_255.out _; (with_reducible repeat (first | refine blk_drewN ?_ _ | refine blk_drew ?_ | refine blk_alloc ?_ _)); exact BK221.out) hb); have n10_ := Aside0.mk (blk_below (g := gb255) (o := .cells #[.slice Ao139 t249.length co139, .int .i64 t252, .int .i64 t253] 28 (0, 0)) (by (with_reducible repeat (first | refine blk_drewN ?_ _ | refine blk_drew ?_ | refine blk_alloc ?_ _)); refine blk_put (cs := #[.slice Ao139 t249.length co139, .int .i64 t252, .int .i64 0]) ?_ 2 _ rfl; (with_reducible repeat (first | refine blk_drewN ?_ _ | refine blk_drew ?_ | refine blk_alloc ?_ _)); refine blk_put (cs := #[.slice Ao139 t249.length co139, .int .i64 0, .int .i64 0]) ?_ 1 _ rfl; (with_reducible repeat (first | refine blk_drewN ?_ _ | refine blk_drew ?_ | refine blk_alloc ?_ _)); refine blk_put (cs := #[.slice none 0 0, .int .i64 0, .int .i64 0]) ?_ 0 _ rfl; (with_reducible repeat (first | refine blk_drewN ?_ _ | refine blk_drew ?_ | refine blk_alloc ?_ _)); exact BK255.out) hb); have n11_ := Aside0.mk (below_step (hbD HB) hb); clear HO_206000; clear HO_212000; clear HO_222000; clear HO243; clear HO248; clear HO251; clear BK189; clear BK205; clear BK211; clear BK221; clear BK255; clear HB; have HO_206000 := n0_; have HO_212000 := n1_; have HO_222000 := n2_; have HO243 := n3_; have HO248 := n4_; have HO251 := n5_; have BK189 := n6_; have BK205 := n7_; have BK211 := n8_; have BK221 := n9_; have BK255 := n10_; have HB := n11_; clear n0_ n1_ n2_ n3_ n4_ n5_ n6_ n7_ n8_ n9_ n10_ n11_; (try clear hb); (try clear hb2); (try clear hk); (try clear hi)))
               go_meet
               case rel => exact ⟨_, (true), (by first | rfl | (simp; done) | (simp [*]; done)), H', ⟨by have := HJ16.out; have := HJ74.out; first | omega | exact Nat.le_refl _⟩, ⟨by (try simp only [hl212000_74]); (with_reducible repeat (first | apply Kd.R_alloc | apply Kd.R_drewN | apply Kd.R_drew)); exact Kd.R_mono HO_206000.out (fun _ hk => ⟨hk.1.1.1.1, ⟨hk.1.1.1.2, hk.2⟩⟩)⟩, ⟨by (try simp only [hl212000_74]); (with_reducible repeat (first | apply Kd.R_alloc | apply Kd.R_drewN | apply Kd.R_drew)); exact Kd.R_mono HO_212000.out (fun _ hk => ⟨hk.1.1.1.1, ⟨hk.1.1.1.2, hk.2⟩⟩)⟩, ⟨by (try simp only [hl212000_74]); (with_reducible repeat (first | apply Kd.R_alloc | apply Kd.R_drewN | apply Kd.R_drew)); exact Kd.R_mono HO_222000.out (fun _ hk => ⟨hk.1.1.1.1, ⟨hk.1.1.1.2, hk.2⟩⟩)⟩, ⟨by (try simp only [hl212000_74]); (with_reducible repeat (first | apply Kd.R_alloc | apply Kd.R_drewN | apply Kd.R_drew)); exact Kd.R_mono HO251.out (fun _ hk => ⟨hk.1.1.1.1.2, ⟨hk.1.1.1.2, hk.1.1.2⟩⟩)⟩, ⟨by (try simp only [hl212000_74]); (with_reducible repeat (first | refine blk_drewN ?_ _ | refine blk_drew ?_ | refine blk_alloc ?_ _)); exact BK189.out⟩, ⟨by (try simp only [hl212000_74]); (with_reducible repeat (first | refine blk_drewN ?_ _ | refine blk_drew ?_ | refine blk_alloc ?_ _)); exact BK205.out⟩, ⟨by (try simp only [hl212000_74]); (with_reducible repeat (first | refine blk_drewN ?_ _ | refine blk_drew ?_ | refine blk_alloc ?_ _)); exact BK211.out⟩, ⟨by (try simp only [hl212000_74]); (with_reducible repeat (first | refine blk_drewN ?_ _ | refine blk_drew ?_ | refine blk_alloc ?_ _)); exact BK221.out⟩, ⟨by (try simp only [hl212000_74]); (with_reducible repeat (first | refine blk_drewN ?_ _ | refine blk_drew ?_ | refine blk_alloc ?_ _)); exact BK255.out⟩, ⟨by repeat (first | (with_reducible first | exact HB.out | apply below_alloc | apply pw_below_drewN | apply below_drew1 | refine below_set ?_ GE189.out | refine below_set ?_ GE205.out | refine below_set ?_ GE211.out | refine below_set ?_ GE221.out | refine below_set ?_ GE255.out) | exact HB.out)⟩⟩
             case rest =>
              clear HC122
              try clear c1
              try clear c2
              try clear p2
              try clear c3
              try clear c4
              try clear c4b0
              try clear c4b1
              try clear c5
              try clear c6
              try clear c7
              try clear c7b0
              try clear c8
              try clear c9
              try clear c10
              try clear c11
              try clear c12
              try clear c13
              try clear c14
              try clear c15
              try clear c16
              try clear c17
              try clear c21
              try clear c22
              try clear c23
              try clear c24
              try clear c29
              try clear c35
              try clear c36
              try clear c44
              try clear c45
              try clear c46
              try clear c49
              try clear c50
              try clear c51
              try clear c52
              try clear c54
              try clear c55
              try clear c58
              try clear c59
              try clear c60
              try clear c62
              try clear c63
              try clear c66
              try clear c69
              try clear c72
              try clear c82
              try clear c83
              try clear c84
              try clear c88
              try clear c88b0
              try clear c90
              try clear c91
              try clear c92
              try clear c93
              try clear c95
              try clear c96
              try clear c99
              try clear c100
              try clear c101
              try clear c103
              try clear c104
              try clear c107
              try clear c110
              try clear c110b0
              try clear c111
              try clear c112
              try clear c113
              try clear c118
              try clear c118b0
              try clear c118b1
              try clear c123
              try clear c124
              try clear c125
              try clear c130
              try clear c131
              try clear c140
              try clear c141
              try clear c142
              try clear c143
              try clear c146
              try clear c147
              try clear c148
              try clear c149
              try clear c150
              try clear c152
              try clear c153
              try clear c154
              try clear c157
              try clear c158
              try clear c159
              try clear c160
              try clear c162
              try clear c163
              try clear c164
              try clear hcz102_0
              try clear hcz102_1
              try clear hcz102_2
              try clear hcz105_0
              try clear hcz105_1
              try clear hcz105_2
              try clear hcz114_0
              try clear hcz114_1
              try clear hcz114_2
              try clear hcz116_0
              try clear hcz116_1
              try clear hcz116_2
              try clear hcz126_0
              try clear hcz126_1
              try clear hcz126_2
              try clear hcz128_0
              try clear hcz128_1
              try clear hcz128_2
              try clear hcz132_0
              try clear hcz132_1
              try clear hcz132_2
              try clear hcz144_0
              try clear hcz144_1
              try clear hcz144_2
              try clear hcz151_0
              try clear hcz151_1
              try clear hcz151_2
              try clear hcz155_0
              try clear hcz155_1
              try clear hcz155_2
              try clear hcz161_0
              try clear hcz161_1
              try clear hcz161_2
              try clear hcz165_0
              try clear hcz165_1
              try clear hcz165_2
              try clear hcz19_0
              try clear hcz19_1
              try clear hcz19_2
              try clear hcz21_0
              try clear hcz21_1
              try clear hcz21_2
              try clear hcz30_0
              try clear hcz30_1
              try clear hcz30_2
              try clear hcz31_0
              try clear hcz31_1
              try clear hcz31_2
              try clear hcz37_0
              try clear hcz37_1
              try clear hcz37_2
              try clear hcz39_0
              try clear hcz39_1
              try clear hcz39_2
              try clear hcz47_0
              try clear hcz47_1
              try clear hcz47_2
              try clear hcz53_0
              try clear hcz53_1
              try clear hcz53_2
              try clear hcz56_0
              try clear hcz56_1
              try clear hcz56_2
              try clear hcz61_0
              try clear hcz61_1
              try clear hcz61_2
              try clear hcz64_0
              try clear hcz64_1
              try clear hcz64_2
              try clear hcz85_0
              try clear hcz85_1
              try clear hcz85_2
              try clear hcz94_0
              try clear hcz94_1
              try clear hcz94_2
              try clear hcz97_0
              try clear hcz97_1
              try clear hcz97_2
              try clear hcz9_0
              try clear hcz9_1
              try clear hcz9_2
              try clear hfz102_0
              try clear hfz102_1
              try clear hfz102_2
              try clear hfz105_0
              try clear hfz105_1
              try clear hfz105_2
              try clear hfz114_0
              try clear hfz114_1
              try clear hfz114_2
              try clear hfz116_0
              try clear hfz116_1
              try clear hfz116_2
              try clear hfz126_0
              try clear hfz126_1
              try clear hfz126_2
              try clear hfz128_0
              try clear hfz128_1
              try clear hfz128_2
              try clear hfz132_0
              try clear hfz132_1
              try clear hfz132_2
              try clear hfz144_0
              try clear hfz144_1
              try clear hfz144_2
              try clear hfz151_0
              try clear hfz151_1
              try clear hfz151_2
              try clear hfz155_0
              try clear hfz155_1
              try clear hfz155_2
              try clear hfz161_0
              try clear hfz161_1
              try clear hfz161_2
              try clear hfz165_0
              try clear hfz165_1
              try clear hfz165_2
              try clear hfz19_0
              try clear hfz19_1
              try clear hfz19_2
              try clear hfz21_0
              try clear hfz21_1
              try clear hfz21_2
              try clear hfz30_0
              try clear hfz30_1
              try clear hfz30_2
              try clear hfz31_0
              try clear hfz31_1
              try clear hfz31_2
              try clear hfz37_0
              try clear hfz37_1
              try clear hfz37_2
              try clear hfz39_0
              try clear hfz39_1
              try clear hfz39_2
              try clear hfz47_0
              try clear hfz47_1
              try clear hfz47_2
              try clear hfz53_0
              try clear hfz53_1
              try clear hfz53_2
              try clear hfz56_0
              try clear hfz56_1
              try clear hfz56_2
              try clear hfz61_0
              try clear hfz61_1
              try clear hfz61_2
              try clear hfz64_0
              try clear hfz64_1
              try clear hfz64_2
              try clear hfz85_0
              try clear hfz85_1
              try clear hfz85_2
              try clear hfz94_0
              try clear hfz94_1
              try clear hfz94_2
              try clear hfz97_0
              try clear hfz97_1
              try clear hfz97_2
              try clear hfz9_0
              try clear hfz9_1
              try clear hfz9_2
              try clear p2
              obtain ⟨kq, x113_121, rfl, HA, HJ121, HO_206000, HO_212000, HO_222000, HO_256000, BK189, BK205, BK211, BK221, BK255, HB⟩ := hcut
              have hl222000_121 := (Kd.R_reads' HO_222000.out).1
              rw [hl222000_121] at HO_222000
              (try simp only [hl222000_121])
              (try simp only [hl222000_121] at BK189)
              (try simp only [hl222000_121] at BK205)
              (try simp only [hl222000_121] at BK211)
              (try simp only [hl222000_121] at BK221)
              (try simp only [hl222000_121] at BK255)
              (try simp only [hl222000_121] at HO_206000)
              (try simp only [hl222000_121] at HO_212000)
              (try simp only [hl222000_121] at HO_256000)
              cases kq with
              | zero => exact absurd HA.out (by simp [laws_FnExactGapInsert.j2])
              | succ kj121 =>
               have H := HA.out
               clear HA
               simp only [laws_FnExactGapInsert.j2] at H
               by_cases c167 : x113_121 = true
               ·subst c167
                have H1 : (some false) = some r := by rw [if_pos rfl] at H; exact H
                clear H
                have H := H1
                clear H1
                obtain rfl := Option.some.inj H
                go_wp2
                go_ret
                exact ⟨by first | rfl | (simp [errW_none, errW_some] <;> rfl) | (simp [*, errW_none, errW_some] <;> rfl), by repeat (first | (with_reducible first | exact HB.out | apply below_alloc | apply pw_below_drewN | apply below_drew1 | refine below_set ?_ GE189.out | refine below_set ?_ GE205.out | refine below_set ?_ GE211.out | refine below_set ?_ GE221.out | refine below_set ?_ GE255.out) | exact HB.out)⟩
               ·replace c167 := Bool.eq_false_iff.mpr c167
                subst c167
                have H1 : ((laws_heldGap.f kj121 t239 t218 t219 1).bind fun t257 => (if t257 < 0 then (some false) else (if t257 = t238 then (some true) else (some false)))) = some r := by rw [if_neg (show ¬ (false = true) by decide)] at H; exact H
                clear H
                have H := H1
                clear H1
                replace H := Option.bind_eq_some_iff.mp H
                obtain ⟨t257, A1680, H⟩ := H
                replace H : (if t257 < 0 then (some false) else (if t257 = t238 then (some true) else (some false))) = some r := H
                have A168 := Aside0.mk A1680
                clear A1680
                by_cases c169 : t257 < 0
                ·rw [if_pos c169] at H
                 have c169b0 : decide (t257 < 0) = true := decide_eq_true c169
                 clear c169
                 obtain rfl := Option.some.inj H
                 have hnb170 := NB221_189.out
                 have hnc170 := NB189_221.out
                 have hnb171 := NB221_205.out
                 have hnc171 := NB205_221.out
                 have hnb172 := NB221_211.out
                 have hnc172 := NB211_221.out
                 have hnb173 := NB221_255.out
                 have hnc173 := NB255_221.out
                 have hcz174_0 : wc.cell? ⟨gb221, 0, none⟩ = some (.slice Ao43 t239.length co43) := (blk_cell BK221.out 0).trans rfl
                 have hcz174_1 : wc.cell? ⟨gb221, 1, none⟩ = some (.int .i64 t218) := (blk_cell BK221.out 1).trans rfl
                 have hcz174_2 : wc.cell? ⟨gb221, 2, none⟩ = some (.int .i64 t219) := (blk_cell BK221.out 2).trans rfl
                 have hfz174_0 := blk_frozen BK221.out 0
                 have hfz174_1 := blk_frozen BK221.out 1
                 have hfz174_2 := blk_frozen BK221.out 2
                 go_wp2_with (first | ((with_reducible refine gate_callee (f := 21) rfl ?_); refine goesL_ (some 116) rfl rfl Tryd.func21 (by kernel_rfl) rfl #[.agg #[.slice Ao43 t239.length co43, .int .i64 t218, .int .i64 t219], .int .i64 1] rfl (by (try simp only [List.map_toArray, List.map_cons, List.map_nil]); first | done | rfl | (simp only [List.length_drop, List.length_take]; rfl)) ?_; (with_reducible refine (laws_heldGap.calls kj121 _ _ t239 t218 t219 1 t257 _ ?side1 ?side2 A168.out).mono ?_); (case side1 => repeat (first | exact (Kd.R_reads' HO_222000.out).2.2 | (with_reducible refine Kd.C_alloc ?_ _) | (with_reducible refine Kd.C_drewN ?_ _) | (with_reducible refine Kd.C_drew ?_))); (case side2 => exact (Kd.R_reads' HO_222000.out).2.1); rintro e w175 ⟨rfl, hb⟩; refine ⟨_, rfl, ?_⟩; have n0_ := Aside0.mk (Kd.R_below (rD HO_206000.out) hb); have n1_ := Aside0.mk (Kd.R_below (rD HO_212000.out) hb); have n2_ := Aside0.mk (Kd.R_below (rD HO_222000.out) hb); have n3_ := Aside0.mk (Kd.R_below (rD HO_256000.out) hb); have n4_ := Aside0.mk (blk_below (bkD BK189) hb); have n5_ := Aside0.mk (blk_below (bkD BK205) hb); have n6_ := Aside0.mk (blk_below (bkD BK211) hb); have n7_ := Aside0.mk (blk_below (bkD BK221) hb); have n8_ := Aside0.mk (blk_below (bkD BK255) hb); have n9_ := Aside0.mk (below_step (hbD HB) hb); clear HO_206000; clear HO_212000; clear HO_222000; clear HO_256000; clear BK189; clear BK205; clear BK211; clear BK221; clear BK255; clear HB; have HO_206000 := n0_; have HO_212000 := n1_; have HO_222000 := n2_; have HO_256000 := n3_; have BK189 := n4_; have BK205 := n5_; have BK211 := n6_; have BK221 := n7_; have BK255 := n8_; have HB := n9_; clear n0_ n1_ n2_ n3_ n4_ n5_ n6_ n7_ n8_ n9_; (try clear hb); (try clear hb2); (try clear hk); (try clear hi)))
                 go_ret
                 exact ⟨by first | rfl | (simp [errW_none, errW_some] <;> rfl) | (simp [*, errW_none, errW_some] <;> rfl), by repeat (first | (with_reducible first | exact HB.out | apply below_alloc | apply pw_below_drewN | apply below_drew1 | refine below_set ?_ GE189.out | refine below_set ?_ GE205.out | refine below_set ?_ GE211.out | refine below_set ?_ GE221.out | refine below_set ?_ GE255.out) | exact HB.out)⟩
                ·rw [if_neg c169] at H
                 have c169b0 : decide (t257 < 0) = false := decide_eq_false c169
                 clear c169
                 by_cases c176 : t257 = t238
                 ·rw [if_pos c176] at H
                  have c176b0 : (t257 == t238) = true := beq_iff_eq.mpr c176
                  have c176b1 : (t257 != t238) = false := bne_eq_false_iff_eq.mpr c176
                  clear c176
                  obtain rfl := Option.some.inj H
                  have hnb177 := NB221_189.out
                  have hnc177 := NB189_221.out
                  have hnb178 := NB221_205.out
                  have hnc178 := NB205_221.out
                  have hnb179 := NB221_211.out
                  have hnc179 := NB211_221.out
                  have hnb180 := NB221_255.out
                  have hnc180 := NB255_221.out
                  have hcz181_0 : wc.cell? ⟨gb221, 0, none⟩ = some (.slice Ao43 t239.length co43) := (blk_cell BK221.out 0).trans rfl
                  have hcz181_1 : wc.cell? ⟨gb221, 1, none⟩ = some (.int .i64 t218) := (blk_cell BK221.out 1).trans rfl
                  have hcz181_2 : wc.cell? ⟨gb221, 2, none⟩ = some (.int .i64 t219) := (blk_cell BK221.out 2).trans rfl
                  have hfz181_0 := blk_frozen BK221.out 0
                  have hfz181_1 := blk_frozen BK221.out 1
                  have hfz181_2 := blk_frozen BK221.out 2
                  go_wp2_with (first | ((with_reducible refine gate_callee (f := 21) rfl ?_); refine goesL_ (some 116) rfl rfl Tryd.func21 (by kernel_rfl) rfl #[.agg #[.slice Ao43 t239.length co43, .int .i64 t218, .int .i64 t219], .int .i64 1] rfl (by (try simp only [List.map_toArray, List.map_cons, List.map_nil]); first | done | rfl | (simp only [List.length_drop, List.length_take]; rfl)) ?_; (with_reducible refine (laws_heldGap.calls kj121 _ _ t239 t218 t219 1 t257 _ ?side1 ?side2 A168.out).mono ?_); (case side1 => repeat (first | exact (Kd.R_reads' HO_222000.out).2.2 | (with_reducible refine Kd.C_alloc ?_ _) | (with_reducible refine Kd.C_drewN ?_ _) | (with_reducible refine Kd.C_drew ?_))); (case side2 => exact (Kd.R_reads' HO_222000.out).2.1); rintro e w182 ⟨rfl, hb⟩; refine ⟨_, rfl, ?_⟩; have n0_ := Aside0.mk (Kd.R_below (rD HO_206000.out) hb); have n1_ := Aside0.mk (Kd.R_below (rD HO_212000.out) hb); have n2_ := Aside0.mk (Kd.R_below (rD HO_222000.out) hb); have n3_ := Aside0.mk (Kd.R_below (rD HO_256000.out) hb); have n4_ := Aside0.mk (blk_below (bkD BK189) hb); have n5_ := Aside0.mk (blk_below (bkD BK205) hb); have n6_ := Aside0.mk (blk_below (bkD BK211) hb); have n7_ := Aside0.mk (blk_below (bkD BK221) hb); have n8_ := Aside0.mk (blk_below (bkD BK255) hb); have n9_ := Aside0.mk (below_step (hbD HB) hb); clear HO_206000; clear HO_212000; clear HO_222000; clear HO_256000; clear BK189; clear BK205; clear BK211; clear BK221; clear BK255; clear HB; have HO_206000 := n0_; have HO_212000 := n1_; have HO_222000 := n2_; have HO_256000 := n3_; have BK189 := n4_; have BK205 := n5_; have BK211 := n6_; have BK221 := n7_; have BK255 := n8_; have HB := n9_; clear n0_ n1_ n2_ n3_ n4_ n5_ n6_ n7_ n8_ n9_; (try clear hb); (try clear hb2); (try clear hk); (try clear hi)))
                  go_ret
                  exact ⟨by first | rfl | (simp [errW_none, errW_some] <;> rfl) | (simp [*, errW_none, errW_some] <;> rfl), by repeat (first | (with_reducible first | exact HB.out | apply below_alloc | apply pw_below_drewN | apply below_drew1 | refine below_set ?_ GE189.out | refine below_set ?_ GE205.out | refine below_set ?_ GE211.out | refine below_set ?_ GE221.out | refine below_set ?_ GE255.out) | exact HB.out)⟩
                 ·rw [if_neg c176] at H
                  have c176b0 : (t257 == t238) = false := beq_eq_false_iff_ne.mpr c176
                  have c176b1 : (t257 != t238) = true := bne_iff_ne.mpr c176
                  obtain rfl := Option.some.inj H
                  have hnb183 := NB221_189.out
                  have hnc183 := NB189_221.out
                  have hnb184 := NB221_205.out
                  have hnc184 := NB205_221.out
                  have hnb185 := NB221_211.out
                  have hnc185 := NB211_221.out
                  have hnb186 := NB221_255.out
                  have hnc186 := NB255_221.out
                  have hcz187_0 : wc.cell? ⟨gb221, 0, none⟩ = some (.slice Ao43 t239.length co43) := (blk_cell BK221.out 0).trans rfl
                  have hcz187_1 : wc.cell? ⟨gb221, 1, none⟩ = some (.int .i64 t218) := (blk_cell BK221.out 1).trans rfl
                  have hcz187_2 : wc.cell? ⟨gb221, 2, none⟩ = some (.int .i64 t219) := (blk_cell BK221.out 2).trans rfl
                  have hfz187_0 := blk_frozen BK221.out 0
                  have hfz187_1 := blk_frozen BK221.out 1
                  have hfz187_2 := blk_frozen BK221.out 2
                  go_wp2_with (first | ((with_reducible refine gate_callee (f := 21) rfl ?_); refine goesL_ (some 116) rfl rfl Tryd.func21 (by kernel_rfl) rfl #[.agg #[.slice Ao43 t239.length co43, .int .i64 t218, .int .i64 t219], .int .i64 1] rfl (by (try simp only [List.map_toArray, List.map_cons, List.map_nil]); first | done | rfl | (simp only [List.length_drop, List.length_take]; rfl)) ?_; (with_reducible refine (laws_heldGap.calls kj121 _ _ t239 t218 t219 1 t257 _ ?side1 ?side2 A168.out).mono ?_); (case side1 => repeat (first | exact (Kd.R_reads' HO_222000.out).2.2 | (with_reducible refine Kd.C_alloc ?_ _) | (with_reducible refine Kd.C_drewN ?_ _) | (with_reducible refine Kd.C_drew ?_))); (case side2 => exact (Kd.R_reads' HO_222000.out).2.1); rintro e w188 ⟨rfl, hb⟩; refine ⟨_, rfl, ?_⟩; have n0_ := Aside0.mk (Kd.R_below (rD HO_206000.out) hb); have n1_ := Aside0.mk (Kd.R_below (rD HO_212000.out) hb); have n2_ := Aside0.mk (Kd.R_below (rD HO_222000.out) hb); have n3_ := Aside0.mk (Kd.R_below (rD HO_256000.out) hb); have n4_ := Aside0.mk (blk_below (bkD BK189) hb); have n5_ := Aside0.mk (blk_below (bkD BK205) hb); have n6_ := Aside0.mk (blk_below (bkD BK211) hb); have n7_ := Aside0.mk (blk_below (bkD BK221) hb); have n8_ := Aside0.mk (blk_below (bkD BK255) hb); have n9_ := Aside0.mk (below_step (hbD HB) hb); clear HO_206000; clear HO_212000; clear HO_222000; clear HO_256000; clear BK189; clear BK205; clear BK211; clear BK221; clear BK255; clear HB; have HO_206000 := n0_; have HO_212000 := n1_; have HO_222000 := n2_; have HO_256000 := n3_; have BK189 := n4_; have BK205 := n5_; have BK211 := n6_; have BK221 := n7_; have BK255 := n8_; have HB := n9_; clear n0_ n1_ n2_ n3_ n4_ n5_ n6_ n7_ n8_ n9_; (try clear hb); (try clear hb2); (try clear hk); (try clear hi)))
                  go_ret
                  exact ⟨by first | rfl | (simp [errW_none, errW_some] <;> rfl) | (simp [*, errW_none, errW_some] <;> rfl), by repeat (first | (with_reducible first | exact HB.out | apply below_alloc | apply pw_below_drewN | apply below_drew1 | refine below_set ?_ GE189.out | refine below_set ?_ GE205.out | refine below_set ?_ GE211.out | refine below_set ?_ GE221.out | refine below_set ?_ GE255.out) | exact HB.out)⟩
            ·rw [if_neg c118] at H
             have c118b0 : (t240 == t238) = false := beq_eq_false_iff_ne.mpr c118
             have c118b1 : (t240 != t238) = true := bne_iff_ne.mpr c118
             obtain rfl := Option.some.inj H
             have hnb189 := NB221_189.out
             have hnc189 := NB189_221.out
             have hnb190 := NB221_205.out
             have hnc190 := NB205_221.out
             have hnb191 := NB221_211.out
             have hnc191 := NB211_221.out
             have hcz192_0 : wc.cell? ⟨gb221, 0, none⟩ = some (.slice Ao43 t215.length co43) := (blk_cell BK221.out 0).trans rfl
             have hcz192_1 : wc.cell? ⟨gb221, 1, none⟩ = some (.int .i64 t218) := (blk_cell BK221.out 1).trans rfl
             have hcz192_2 : wc.cell? ⟨gb221, 2, none⟩ = some (.int .i64 t219) := (blk_cell BK221.out 2).trans rfl
             have hfz192_0 := blk_frozen BK221.out 0
             have hfz192_1 := blk_frozen BK221.out 1
             have hfz192_2 := blk_frozen BK221.out 2
             go_wp2_with (first | ((with_reducible refine gate_callee (f := 16) rfl ?_); refine goesL_ (some 87) rfl rfl Tryd.func16 (by kernel_rfl) rfl #[.agg #[.slice Ao43 t215.length co43, .int .i64 t218, .int .i64 t219], .int .i64 1] rfl (by (try simp only [List.map_toArray, List.map_cons, List.map_nil]); first | done | rfl | (simp only [List.length_drop, List.length_take]; rfl)) ?_; (with_reducible refine (laws_markGap.calls kj74 (fun k_ => some k_ = (.slice Ao43 t215.length co43 : Value).ownBlock) (.slice Ao43 t215.length co43) t215 t218 t219 1 t238 t239 w _ ?side1 ?side2 A108.out).mono ?_); (case side1 => repeat (first | (with_reducible first | exact HB.out | apply below_alloc | apply pw_below_drewN | apply below_drew1 | refine below_set ?_ GE189.out | refine below_set ?_ GE205.out | refine below_set ?_ GE211.out | refine below_set ?_ GE221.out) | exact HB.out)); (case side2 => exact Kd.R_tight rfl HO_222000.out); rintro e w193 ⟨rfl, hy0, hb, hkp⟩; refine ⟨_, rfl, ?_⟩; have n0_ := Aside0.mk (Kd.R_mono (ok' := fun k_ => some k_ ≠ (.slice Ao34 t234.length co34 : Value).ownBlock ∧ some k_ ≠ (.slice Ao43 t215.length co43 : Value).ownBlock) (Kd.R_keptB (HO_206000.out) hkp (fun k_ hk_ hs_ => (hk_.2) hs_)) (fun k_ hk_ => ⟨hk_.1.1, hk_.1.2⟩)); have n1_ := Aside0.mk (Kd.R_mono (ok' := fun k_ => some k_ ≠ (.slice Ao28 t199.length co28 : Value).ownBlock ∧ some k_ ≠ (.slice Ao43 t215.length co43 : Value).ownBlock) (Kd.R_keptB (HO_212000.out) hkp (fun k_ hk_ hs_ => (hk_.2) hs_)) (fun k_ hk_ => ⟨hk_.1.1, hk_.1.2⟩)); have n2_ := Aside0.mk (Kd.R_reok rfl hy0 (fun k_ e_ => HO_222000.out.1 k_ e_)); have n3_ := Aside0.mk (blk_kept (bkD BK189) hkp (fun hs_ => (fun e_ => (Kd.R_ne HO_222000.out BK189.out (by decide)) e_) hs_)); have n4_ := Aside0.mk (blk_kept (bkD BK205) hkp (fun hs_ => (fun e_ => (Kd.R_ne HO_222000.out BK205.out (by decide)) e_) hs_)); have n5_ := Aside0.mk (blk_kept (bkD BK211) hkp (fun hs_ => (fun e_ => (Kd.R_ne HO_222000.out BK211.out (by decide)) e_) hs_)); have n6_ := Aside0.mk (blk_kept (bkD BK221) hkp (fun hs_ => (fun e_ => (Kd.R_ne HO_222000.out BK221.out (by decide)) e_) hs_)); have n7_ := Aside0.mk (hb); clear HO_206000; clear HO_212000; clear HO_222000; clear BK189; clear BK205; clear BK211; clear BK221; clear HB; have HO_206000 := n0_; have HO_212000 := n1_; have HO_222000 := n2_; have BK189 := n3_; have BK205 := n4_; have BK211 := n5_; have BK221 := n6_; have HB := n7_; clear n0_ n1_ n2_ n3_ n4_ n5_ n6_ n7_; (try clear hb); (try clear hkp); (try clear hy0); have hcz194_0 : w193.cell? ⟨gb221, 0, none⟩ = some (.slice Ao43 t215.length co43) := (blk_cell BK221.out 0).trans rfl; have hcz194_1 : w193.cell? ⟨gb221, 1, none⟩ = some (.int .i64 t218) := (blk_cell BK221.out 1).trans rfl; have hcz194_2 : w193.cell? ⟨gb221, 2, none⟩ = some (.int .i64 t219) := (blk_cell BK221.out 2).trans rfl; have hfz194_0 := blk_frozen BK221.out 0; have hfz194_1 := blk_frozen BK221.out 1; have hfz194_2 := blk_frozen BK221.out 2) | ((with_reducible refine gate_callee (f := 21) rfl ?_); refine goesL_ (some 90) rfl rfl Tryd.func21 (by kernel_rfl) rfl #[.agg #[.slice Ao43 t239.length co43, .int .i64 t218, .int .i64 t219], .int .i64 1] rfl (by (try simp only [List.map_toArray, List.map_cons, List.map_nil]); first | done | (rw [show t239.length = t215.length from (Kd.R_reads' HO_222000.out).1.symm] <;> rfl) | rfl | (simp only [List.length_drop, List.length_take]; rfl)) ?_; (with_reducible refine (laws_heldGap.calls kj74 _ _ t239 t218 t219 1 t240 _ ?side1 ?side2 A109.out).mono ?_); (case side1 => repeat (first | exact (Kd.R_reads' HO_222000.out).2.2 | (with_reducible refine Kd.C_alloc ?_ _) | (with_reducible refine Kd.C_drewN ?_ _) | (with_reducible refine Kd.C_drew ?_))); (case side2 => rw [show t239.length = t215.length from (Kd.R_reads' HO_222000.out).1.symm]; exact (Kd.R_reads' HO_222000.out).2.1); rintro e w195 ⟨rfl, hb⟩; refine ⟨_, rfl, ?_⟩; have n0_ := Aside0.mk (Kd.R_below (rD HO_206000.out) hb); have n1_ := Aside0.mk (Kd.R_below (rD HO_212000.out) hb); have n2_ := Aside0.mk (Kd.R_below (rD HO_222000.out) hb); have n3_ := Aside0.mk (blk_below (bkD BK189) hb); have n4_ := Aside0.mk (blk_below (bkD BK205) hb); have n5_ := Aside0.mk (blk_below (bkD BK211) hb); have n6_ := Aside0.mk (blk_below (bkD BK221) hb); have n7_ := Aside0.mk (below_step (hbD HB) hb); clear HO_206000; clear HO_212000; clear HO_222000; clear BK189; clear BK205; clear BK211; clear BK221; clear HB; have HO_206000 := n0_; have HO_212000 := n1_; have HO_222000 := n2_; have BK189 := n3_; have BK205 := n4_; have BK211 := n5_; have BK221 := n6_; have HB := n7_; clear n0_ n1_ n2_ n3_ n4_ n5_ n6_ n7_; (try clear hb); (try clear hb2); (try clear hk); (try clear hi)))
             go_ret
             exact ⟨by first | rfl | (simp [errW_none, errW_some] <;> rfl) | (simp [*, errW_none, errW_some] <;> rfl), by repeat (first | (with_reducible first | exact HB.out | apply below_alloc | apply pw_below_drewN | apply below_drew1 | refine below_set ?_ GE189.out | refine below_set ?_ GE205.out | refine below_set ?_ GE211.out | refine below_set ?_ GE221.out) | exact HB.out)⟩
       ·replace c72 := Bool.eq_false_iff.mpr c72
        subst c72
        have H1 : (some false) = some r := by rw [if_neg (show ¬ (false = true) by decide)] at H; exact H
        clear H
        have H := H1
        clear H1
        obtain rfl := Option.some.inj H
        try go_wp2
        have n0_ := Aside0.mk (Kd.R_drew HO_11.out)
        have n1_ := Aside0.mk (Kd.R_drew HO_206000.out)
        have n2_ := Aside0.mk (Kd.R_drew HO_212000.out)
        have n3_ := Aside0.mk (Kd.R_drew HO_222000.out)
        have n4_ := Aside0.mk (blk_drew BK189.out)
        have n5_ := Aside0.mk (blk_drew BK205.out)
        have n6_ := Aside0.mk (blk_drew BK211.out)
        have n7_ := Aside0.mk (blk_drew BK221.out)
        have n8_ := Aside0.mk (below_drew1 HB.out)
        clear HO_11
        clear HO_206000
        clear HO_212000
        clear HO_222000
        clear BK189
        clear BK205
        clear BK211
        clear BK221
        clear HB
        have HO_11 := n0_
        have HO_206000 := n1_
        have HO_212000 := n2_
        have HO_222000 := n3_
        have BK189 := n4_
        have BK205 := n5_
        have BK211 := n6_
        have BK221 := n7_
        have HB := n8_
        clear n0_ n1_ n2_ n3_ n4_ n5_ n6_ n7_ n8_
        refine start_ (n := 5) (S := fun w' => w'.cell? ⟨gb211, 0, none⟩ = some (.slice Ao34 t206.length co34) ∧ w'.cell? ⟨gb211, 1, none⟩ = some (.int .i64 t209) ∧ w'.cell? ⟨gb211, 2, none⟩ = some (.int .i64 t210) ∧ w'.cell? ⟨gb189, 0, none⟩ = some (.slice A0_0 l0_0.length c0_0) ∧ w'.cell? ⟨gb189, 1, none⟩ = some (.int .i64 a0_1) ∧ w'.cell? ⟨gb189, 2, none⟩ = some (.int .i64 a0_2)) (ds := []) #[false, false, false, false, false] (by kernel_rfl) rfl rfl ⟨(blk_cell BK211.out 0).trans rfl, (blk_cell BK211.out 1).trans rfl, (blk_cell BK211.out 2).trans rfl, (blk_cell BK189.out 0).trans rfl, (blk_cell BK189.out 1).trans rfl, (blk_cell BK189.out 2).trans rfl⟩ (fun hHeld => ?_)
        generalize wc.drew = w196 at HO_11 HO_206000 HO_212000 HO_222000 BK189 BK205 BK211 BK221 HB hHeld ⊢
        refine take_ (i := 0) (N := some 56) (v := ?_) (a' := ?_) #[true, false, false, false, false] rfl rfl (by kernel_rfl) (fun _ _ _ h => h) (Or.inl ⟨by rfl, ?_⟩) hHeld ?_ ?_
        rotate_left
        ·rintro w' ⟨s0, s1, s2, s3, s4, s5⟩
         go_simp
         with_reducible rfl
        rotate_left
        ·simp only [Act.put, List.setIfInBounds_toArray, List.set_cons_zero, List.set_cons_succ, i64_w, i32_w]
         rfl
        refine take_ (i := 1) (N := some 57) (v := ?_) (a' := ?_) #[true, true, false, false, false] rfl rfl (by kernel_rfl) (fun _ _ _ h => h) (Or.inl ⟨by rfl, ?_⟩) hHeld ?_ ?_
        rotate_left
        ·rintro w' ⟨s0, s1, s2, s3, s4, s5⟩
         go_simp
         with_reducible rfl
        rotate_left
        ·simp only [Act.put, List.setIfInBounds_toArray, List.set_cons_zero, List.set_cons_succ, i64_w, i32_w]
         rfl
        refine one_ (i := 2) (N := some 58) #[true, true, true, false, false] rfl rfl (by kernel_rfl) (by decide) (fun K hK => ?_)
        refine goes_ Tryd.func12 (by kernel_rfl) rfl #[.agg #[.slice A0_0 l0_0.length c0_0, .int .i64 a0_1, .int .i64 a0_2]] (by rfl) rfl rfl (by (try simp only [List.map_toArray, List.map_cons, List.map_nil]); first | done | rfl | (simp only [List.length_drop, List.length_take]; rfl)) ?_
        with_reducible refine (laws_toGap.calls kj16 _ _ l0_0 a0_1 a0_2 t223 t226 t227 _ ?side1 ?side2 A67.out).mono ?_
        (case side1 => repeat (first | exact (Kd.C_below HR0_0.out HB.out) | (with_reducible refine Kd.C_alloc ?_ _) | (with_reducible refine Kd.C_drewN ?_ _) | (with_reducible refine Kd.C_drew ?_)))
        (case side2 => exact HC0_0.out)
        rintro e w197 ⟨v224, rfl, ho0, hb⟩
        refine ⟨_, rfl, ?_⟩
        have n0_ := Aside0.mk (Kd.R_elder' (rD HO_11.out) (Kd.R_base ho0) hb)
        have n1_ := Aside0.mk (Kd.R_elder' (rD HO_206000.out) (Kd.R_base ho0) hb)
        have n2_ := Aside0.mk (Kd.R_elder' (rD HO_212000.out) (Kd.R_base ho0) hb)
        have n3_ := Aside0.mk (Kd.R_elder' (rD HO_222000.out) (Kd.R_base ho0) hb)
        have n4_ := Aside0.mk (Kd.R_lower (Kd.R_new' (Kd.R_new' (Kd.R_new' (Kd.R_new' ho0 (Kd.R_lt (rD HO_11.out))) (Kd.R_lt (rD HO_206000.out))) (Kd.R_lt (rD HO_212000.out))) (Kd.R_lt (rD HO_222000.out))) (below_size (hbD HB)))
        have n5_ := Aside0.mk (blk_below (bkD BK189) hb)
        have n6_ := Aside0.mk (blk_below (bkD BK205) hb)
        have n7_ := Aside0.mk (blk_below (bkD BK211) hb)
        have n8_ := Aside0.mk (blk_below (bkD BK221) hb)
        have n9_ := Aside0.mk (below_step (hbD HB) hb)
        clear HO_11
        clear HO_206000
        clear HO_212000
        clear HO_222000
        clear BK189
        clear BK205
        clear BK211
        clear BK221
        clear HB
        have HO_11 := n0_
        have HO_206000 := n1_
        have HO_212000 := n2_
        have HO_222000 := n3_
        have HO225 := n4_
        have BK189 := n5_
        have BK205 := n6_
        have BK211 := n7_
        have BK221 := n8_
        have HB := n9_
        clear n0_ n1_ n2_ n3_ n4_ n5_ n6_ n7_ n8_ n9_
        (try clear hb)
        (try clear hb2)
        (try clear hk)
        (try clear hi)
        (try clear ho0)
        obtain ⟨Ao198, co198, eo198⟩ := Kd.R_slice HO225.out
        (first | subst eo198 | (injection eo198 with f1_ f2_ f3_; have f4_ := f1_.symm; have f5_ := f3_.symm; clear f1_ f2_ f3_; subst f4_; subst f5_))
        refine hK.out _ _ ⟨(blk_cell BK211.out 0).trans rfl, (blk_cell BK211.out 1).trans rfl, (blk_cell BK211.out 2).trans rfl, (blk_cell BK189.out 0).trans rfl, (blk_cell BK189.out 1).trans rfl, (blk_cell BK189.out 2).trans rfl⟩ (fun hHeld => ?_)
        clear hK K
        refine norm_ (a' := ?_) ?_ ?_
        rotate_left
        ·show Act.put _ (some 58) _ = _
         simp only [Act.put, List.setIfInBounds_toArray, List.set_cons_zero, List.set_cons_succ, i64_w, i32_w]
         rfl
        refine one_ (i := 3) (N := some 59) #[true, true, true, true, false] rfl rfl (by kernel_rfl) (by decide) (fun K hK => ?_)
        refine goes_ Tryd.func15 (by kernel_rfl) rfl #[.agg #[.slice Ao34 t206.length co34, .int .i64 t209, .int .i64 t210], .agg #[.slice Ao198 t223.length co198, .int .i64 t226, .int .i64 t227]] (by rfl) rfl rfl (by (try simp only [List.map_toArray, List.map_cons, List.map_nil]); first | done | rfl | (simp only [List.length_drop, List.length_take]; rfl)) ?_
        with_reducible refine (laws_eqGap.calls kj16 _ _ t206 t209 t210 _ _ t223 t226 t227 true _ ?side1 ?side2 ?side3 ?side4 A68.out).mono ?_
        (case side1 => repeat (first | exact (Kd.R_reads' HO_212000.out).2.2 | (with_reducible refine Kd.C_alloc ?_ _) | (with_reducible refine Kd.C_drewN ?_ _) | (with_reducible refine Kd.C_drew ?_)))
        (case side2 => exact (Kd.R_reads' HO_212000.out).2.1)
        (case side3 => repeat (first | exact (Kd.R_reads' HO225.out).2.2 | (with_reducible refine Kd.C_alloc ?_ _) | (with_reducible refine Kd.C_drewN ?_ _) | (with_reducible refine Kd.C_drew ?_)))
        (case side4 => exact (Kd.R_reads' HO225.out).2.1)
        rintro e w199 ⟨rfl, hb⟩
        refine ⟨_, rfl, ?_⟩
        have n0_ := Aside0.mk (Kd.R_below (rD HO_11.out) hb)
        have n1_ := Aside0.mk (Kd.R_below (rD HO_206000.out) hb)
        have n2_ := Aside0.mk (Kd.R_below (rD HO_212000.out) hb)
        have n3_ := Aside0.mk (Kd.R_below (rD HO_222000.out) hb)
        have n4_ := Aside0.mk (Kd.R_below (rD HO225.out) hb)
        have n5_ := Aside0.mk (blk_below (bkD BK189) hb)
        have n6_ := Aside0.mk (blk_below (bkD BK205) hb)
        have n7_ := Aside0.mk (blk_below (bkD BK211) hb)
        have n8_ := Aside0.mk (blk_below (bkD BK221) hb)
        have n9_ := Aside0.mk (below_step (hbD HB) hb)
        clear HO_11
        clear HO_206000
        clear HO_212000
        clear HO_222000
        clear HO225
        clear BK189
        clear BK205
        clear BK211
        clear BK221
        clear HB
        have HO_11 := n0_
        have HO_206000 := n1_
        have HO_212000 := n2_
        have HO_222000 := n3_
        have HO225 := n4_
        have BK189 := n5_
        have BK205 := n6_
        have BK211 := n7_
        have BK221 := n8_
        have HB := n9_
        clear n0_ n1_ n2_ n3_ n4_ n5_ n6_ n7_ n8_ n9_
        (try clear hb)
        (try clear hb2)
        (try clear hk)
        (try clear hi)
        refine hK.out _ _ ⟨(blk_cell BK211.out 0).trans rfl, (blk_cell BK211.out 1).trans rfl, (blk_cell BK211.out 2).trans rfl, (blk_cell BK189.out 0).trans rfl, (blk_cell BK189.out 1).trans rfl, (blk_cell BK189.out 2).trans rfl⟩ (fun hHeld => ?_)
        clear hK K
        refine norm_ (a' := ?_) ?_ ?_
        rotate_left
        ·show Act.put _ (some 59) _ = _
         simp only [Act.put, List.setIfInBounds_toArray, List.set_cons_zero, List.set_cons_succ, i64_w, i32_w]
         rfl
        refine pure_ (i := 4) (N := some 60) (v := ?_) (a' := ?_) #[true, true, true, true, true] rfl rfl (by kernel_rfl) (fun _ _ _ h => h) (Or.inl ⟨by rfl, ?_⟩) ?_ ?_
        rotate_left
        ·intro w'
         go_simp
         with_reducible rfl
        rotate_left
        ·simp only [Act.put, List.setIfInBounds_toArray, List.set_cons_zero, List.set_cons_succ, i64_w, i32_w]
         rfl
        refine done_ (by kernel_rfl) ?_
        try go_wp2_with (first | ((with_reducible refine gate_callee (f := 23) rfl ?_); refine goesL_ (some 63) rfl rfl Tryd.func23 (by kernel_rfl) rfl #[.slice A2 l2.length c2] rfl (by (try simp only [List.map_toArray, List.map_cons, List.map_nil]); first | done | rfl | (simp only [List.length_drop, List.length_take]; rfl)) ?_; (with_reducible refine (laws_toInt32S.calls kj16 _ _ l2 t229 _ ?side1 ?side2 A70.out).mono ?_); (case side1 => repeat (first | exact (Kd.C_below HR2.out HB.out) | (with_reducible refine Kd.C_alloc ?_ _) | (with_reducible refine Kd.C_drewN ?_ _) | (with_reducible refine Kd.C_drew ?_))); (case side2 => exact HC2.out); rintro e w200 ⟨v230, rfl, ho0, hb⟩; refine ⟨_, rfl, ?_⟩; have n0_ := Aside0.mk (Kd.R_elder' (rD HO_11.out) (Kd.R_base ho0) hb); have n1_ := Aside0.mk (Kd.R_elder' (rD HO_206000.out) (Kd.R_base ho0) hb); have n2_ := Aside0.mk (Kd.R_elder' (rD HO_212000.out) (Kd.R_base ho0) hb); have n3_ := Aside0.mk (Kd.R_elder' (rD HO_222000.out) (Kd.R_base ho0) hb); have n4_ := Aside0.mk (Kd.R_elder' (rD HO225.out) (Kd.R_base ho0) hb); have n5_ := Aside0.mk (Kd.R_lower (Kd.R_new' (Kd.R_new' (Kd.R_new' (Kd.R_new' (Kd.R_new' ho0 (Kd.R_lt (rD HO_11.out))) (Kd.R_lt (rD HO_206000.out))) (Kd.R_lt (rD HO_212000.out))) (Kd.R_lt (rD HO_222000.out))) (Kd.R_lt (rD HO225.out))) (below_size (hbD HB))); have n6_ := Aside0.mk (blk_below (bkD BK189) hb); have n7_ := Aside0.mk (blk_below (bkD BK205) hb); have n8_ := Aside0.mk (blk_below (bkD BK211) hb); have n9_ := Aside0.mk (blk_below (bkD BK221) hb); have n10_ := Aside0.mk (below_step (hbD HB) hb); clear HO_11; clear HO_206000; clear HO_212000; clear HO_222000; clear HO225; clear BK189; clear BK205; clear BK211; clear BK221; clear HB; have HO_11 := n0_; have HO_206000 := n1_; have HO_212000 := n2_; have HO_222000 := n3_; have HO225 := n4_; have HO231 := n5_; have BK189 := n6_; have BK205 := n7_; have BK211 := n8_; have BK221 := n9_; have HB := n10_; clear n0_ n1_ n2_ n3_ n4_ n5_ n6_ n7_ n8_ n9_ n10_; (try clear hb); (try clear hb2); (try clear hk); (try clear hi); (try clear ho0); obtain ⟨Ao201, co201, eo201⟩ := Kd.R_slice HO231.out; subst eo201) | ((with_reducible refine gate_callee (f := 14) rfl ?_); refine goesL_ (some 64) rfl rfl Tryd.func14 (by kernel_rfl) rfl #[.slice Ao40 t212.length co40, .slice Ao201 t229.length co201] rfl (by (try simp only [List.map_toArray, List.map_cons, List.map_nil]); first | done | rfl | (simp only [List.length_drop, List.length_take]; rfl)) ?_; (with_reducible refine (laws_eqInt32S.calls kj16 _ _ t212 _ _ t229 false _ ?side1 ?side2 ?side3 ?side4 A71.out).mono ?_); (case side1 => repeat (first | exact (Kd.R_reads' HO_11.out).2.2 | (with_reducible refine Kd.C_alloc ?_ _) | (with_reducible refine Kd.C_drewN ?_ _) | (with_reducible refine Kd.C_drew ?_))); (case side2 => exact (Kd.R_reads' HO_11.out).2.1); (case side3 => repeat (first | exact (Kd.R_reads' HO231.out).2.2 | (with_reducible refine Kd.C_alloc ?_ _) | (with_reducible refine Kd.C_drewN ?_ _) | (with_reducible refine Kd.C_drew ?_))); (case side4 => exact (Kd.R_reads' HO231.out).2.1); rintro e w' ⟨rfl, ⟨nd, rfl⟩⟩; refine ⟨_, rfl, ?_⟩))
        go_ret
        exact ⟨by first | rfl | (simp [errW_none, errW_some] <;> rfl) | (simp [*, errW_none, errW_some] <;> rfl), by repeat (first | (with_reducible first | exact HB.out | apply below_alloc | apply pw_below_drewN | apply below_drew1 | refine below_set ?_ GE189.out | refine below_set ?_ GE205.out | refine below_set ?_ GE211.out | refine below_set ?_ GE221.out) | exact HB.out)⟩
      ·replace c69 := Bool.eq_false_iff.mpr c69
       subst c69
       have H1 : (some false) = some r := by rw [if_neg (show ¬ (false = true) by decide)] at H; exact H
       clear H
       have H := H1
       clear H1
       obtain rfl := Option.some.inj H
       try go_wp2
       have n0_ := Aside0.mk (Kd.R_drew HO_11.out)
       have n1_ := Aside0.mk (Kd.R_drew HO_206000.out)
       have n2_ := Aside0.mk (Kd.R_drew HO_212000.out)
       have n3_ := Aside0.mk (Kd.R_drew HO_222000.out)
       have n4_ := Aside0.mk (blk_drew BK189.out)
       have n5_ := Aside0.mk (blk_drew BK205.out)
       have n6_ := Aside0.mk (blk_drew BK211.out)
       have n7_ := Aside0.mk (blk_drew BK221.out)
       have n8_ := Aside0.mk (below_drew1 HB.out)
       clear HO_11
       clear HO_206000
       clear HO_212000
       clear HO_222000
       clear BK189
       clear BK205
       clear BK211
       clear BK221
       clear HB
       have HO_11 := n0_
       have HO_206000 := n1_
       have HO_212000 := n2_
       have HO_222000 := n3_
       have BK189 := n4_
       have BK205 := n5_
       have BK211 := n6_
       have BK221 := n7_
       have HB := n8_
       clear n0_ n1_ n2_ n3_ n4_ n5_ n6_ n7_ n8_
       refine start_ (n := 5) (S := fun w' => w'.cell? ⟨gb211, 0, none⟩ = some (.slice Ao34 t206.length co34) ∧ w'.cell? ⟨gb211, 1, none⟩ = some (.int .i64 t209) ∧ w'.cell? ⟨gb211, 2, none⟩ = some (.int .i64 t210) ∧ w'.cell? ⟨gb189, 0, none⟩ = some (.slice A0_0 l0_0.length c0_0) ∧ w'.cell? ⟨gb189, 1, none⟩ = some (.int .i64 a0_1) ∧ w'.cell? ⟨gb189, 2, none⟩ = some (.int .i64 a0_2)) (ds := []) #[false, false, false, false, false] (by kernel_rfl) rfl rfl ⟨(blk_cell BK211.out 0).trans rfl, (blk_cell BK211.out 1).trans rfl, (blk_cell BK211.out 2).trans rfl, (blk_cell BK189.out 0).trans rfl, (blk_cell BK189.out 1).trans rfl, (blk_cell BK189.out 2).trans rfl⟩ (fun hHeld => ?_)
       generalize wc.drew = w202 at HO_11 HO_206000 HO_212000 HO_222000 BK189 BK205 BK211 BK221 HB hHeld ⊢
       refine take_ (i := 0) (N := some 56) (v := ?_) (a' := ?_) #[true, false, false, false, false] rfl rfl (by kernel_rfl) (fun _ _ _ h => h) (Or.inl ⟨by rfl, ?_⟩) hHeld ?_ ?_
       rotate_left
       ·rintro w' ⟨s0, s1, s2, s3, s4, s5⟩
        go_simp
        with_reducible rfl
       rotate_left
       ·simp only [Act.put, List.setIfInBounds_toArray, List.set_cons_zero, List.set_cons_succ, i64_w, i32_w]
        rfl
       refine take_ (i := 1) (N := some 57) (v := ?_) (a' := ?_) #[true, true, false, false, false] rfl rfl (by kernel_rfl) (fun _ _ _ h => h) (Or.inl ⟨by rfl, ?_⟩) hHeld ?_ ?_
       rotate_left
       ·rintro w' ⟨s0, s1, s2, s3, s4, s5⟩
        go_simp
        with_reducible rfl
       rotate_left
       ·simp only [Act.put, List.setIfInBounds_toArray, List.set_cons_zero, List.set_cons_succ, i64_w, i32_w]
        rfl
       refine one_ (i := 2) (N := some 58) #[true, true, true, false, false] rfl rfl (by kernel_rfl) (by decide) (fun K hK => ?_)
       refine goes_ Tryd.func12 (by kernel_rfl) rfl #[.agg #[.slice A0_0 l0_0.length c0_0, .int .i64 a0_1, .int .i64 a0_2]] (by rfl) rfl rfl (by (try simp only [List.map_toArray, List.map_cons, List.map_nil]); first | done | rfl | (simp only [List.length_drop, List.length_take]; rfl)) ?_
       with_reducible refine (laws_toGap.calls kj16 _ _ l0_0 a0_1 a0_2 t223 t226 t227 _ ?side1 ?side2 A67.out).mono ?_
       (case side1 => repeat (first | exact (Kd.C_below HR0_0.out HB.out) | (with_reducible refine Kd.C_alloc ?_ _) | (with_reducible refine Kd.C_drewN ?_ _) | (with_reducible refine Kd.C_drew ?_)))
       (case side2 => exact HC0_0.out)
       rintro e w203 ⟨v224, rfl, ho0, hb⟩
       refine ⟨_, rfl, ?_⟩
       have n0_ := Aside0.mk (Kd.R_elder' (rD HO_11.out) (Kd.R_base ho0) hb)
       have n1_ := Aside0.mk (Kd.R_elder' (rD HO_206000.out) (Kd.R_base ho0) hb)
       have n2_ := Aside0.mk (Kd.R_elder' (rD HO_212000.out) (Kd.R_base ho0) hb)
       have n3_ := Aside0.mk (Kd.R_elder' (rD HO_222000.out) (Kd.R_base ho0) hb)
       have n4_ := Aside0.mk (Kd.R_lower (Kd.R_new' (Kd.R_new' (Kd.R_new' (Kd.R_new' ho0 (Kd.R_lt (rD HO_11.out))) (Kd.R_lt (rD HO_206000.out))) (Kd.R_lt (rD HO_212000.out))) (Kd.R_lt (rD HO_222000.out))) (below_size (hbD HB)))
       have n5_ := Aside0.mk (blk_below (bkD BK189) hb)
       have n6_ := Aside0.mk (blk_below (bkD BK205) hb)
       have n7_ := Aside0.mk (blk_below (bkD BK211) hb)
       have n8_ := Aside0.mk (blk_below (bkD BK221) hb)
       have n9_ := Aside0.mk (below_step (hbD HB) hb)
       clear HO_11
       clear HO_206000
       clear HO_212000
       clear HO_222000
       clear BK189
       clear BK205
       clear BK211
       clear BK221
       clear HB
       have HO_11 := n0_
       have HO_206000 := n1_
       have HO_212000 := n2_
       have HO_222000 := n3_
       have HO225 := n4_
       have BK189 := n5_
       have BK205 := n6_
       have BK211 := n7_
       have BK221 := n8_
       have HB := n9_
       clear n0_ n1_ n2_ n3_ n4_ n5_ n6_ n7_ n8_ n9_
       (try clear hb)
       (try clear hb2)
       (try clear hk)
       (try clear hi)
       (try clear ho0)
       obtain ⟨Ao204, co204, eo204⟩ := Kd.R_slice HO225.out
       (first | subst eo204 | (injection eo204 with f1_ f2_ f3_; have f4_ := f1_.symm; have f5_ := f3_.symm; clear f1_ f2_ f3_; subst f4_; subst f5_))
       refine hK.out _ _ ⟨(blk_cell BK211.out 0).trans rfl, (blk_cell BK211.out 1).trans rfl, (blk_cell BK211.out 2).trans rfl, (blk_cell BK189.out 0).trans rfl, (blk_cell BK189.out 1).trans rfl, (blk_cell BK189.out 2).trans rfl⟩ (fun hHeld => ?_)
       clear hK K
       refine norm_ (a' := ?_) ?_ ?_
       rotate_left
       ·show Act.put _ (some 58) _ = _
        simp only [Act.put, List.setIfInBounds_toArray, List.set_cons_zero, List.set_cons_succ, i64_w, i32_w]
        rfl
       refine one_ (i := 3) (N := some 59) #[true, true, true, true, false] rfl rfl (by kernel_rfl) (by decide) (fun K hK => ?_)
       refine goes_ Tryd.func15 (by kernel_rfl) rfl #[.agg #[.slice Ao34 t206.length co34, .int .i64 t209, .int .i64 t210], .agg #[.slice Ao204 t223.length co204, .int .i64 t226, .int .i64 t227]] (by rfl) rfl rfl (by (try simp only [List.map_toArray, List.map_cons, List.map_nil]); first | done | rfl | (simp only [List.length_drop, List.length_take]; rfl)) ?_
       with_reducible refine (laws_eqGap.calls kj16 _ _ t206 t209 t210 _ _ t223 t226 t227 false _ ?side1 ?side2 ?side3 ?side4 A68.out).mono ?_
       (case side1 => repeat (first | exact (Kd.R_reads' HO_212000.out).2.2 | (with_reducible refine Kd.C_alloc ?_ _) | (with_reducible refine Kd.C_drewN ?_ _) | (with_reducible refine Kd.C_drew ?_)))
       (case side2 => exact (Kd.R_reads' HO_212000.out).2.1)
       (case side3 => repeat (first | exact (Kd.R_reads' HO225.out).2.2 | (with_reducible refine Kd.C_alloc ?_ _) | (with_reducible refine Kd.C_drewN ?_ _) | (with_reducible refine Kd.C_drew ?_)))
       (case side4 => exact (Kd.R_reads' HO225.out).2.1)
       rintro e w205 ⟨rfl, hb⟩
       refine ⟨_, rfl, ?_⟩
       have n0_ := Aside0.mk (Kd.R_below (rD HO_11.out) hb)
       have n1_ := Aside0.mk (Kd.R_below (rD HO_206000.out) hb)
       have n2_ := Aside0.mk (Kd.R_below (rD HO_212000.out) hb)
       have n3_ := Aside0.mk (Kd.R_below (rD HO_222000.out) hb)
       have n4_ := Aside0.mk (Kd.R_below (rD HO225.out) hb)
       have n5_ := Aside0.mk (blk_below (bkD BK189) hb)
       have n6_ := Aside0.mk (blk_below (bkD BK205) hb)
       have n7_ := Aside0.mk (blk_below (bkD BK211) hb)
       have n8_ := Aside0.mk (blk_below (bkD BK221) hb)
       have n9_ := Aside0.mk (below_step (hbD HB) hb)
       clear HO_11
       clear HO_206000
       clear HO_212000
       clear HO_222000
       clear HO225
       clear BK189
       clear BK205
       clear BK211
       clear BK221
       clear HB
       have HO_11 := n0_
       have HO_206000 := n1_
       have HO_212000 := n2_
       have HO_222000 := n3_
       have HO225 := n4_
       have BK189 := n5_
       have BK205 := n6_
       have BK211 := n7_
       have BK221 := n8_
       have HB := n9_
       clear n0_ n1_ n2_ n3_ n4_ n5_ n6_ n7_ n8_ n9_
       (try clear hb)
       (try clear hb2)
       (try clear hk)
       (try clear hi)
       refine hK.out _ _ ⟨(blk_cell BK211.out 0).trans rfl, (blk_cell BK211.out 1).trans rfl, (blk_cell BK211.out 2).trans rfl, (blk_cell BK189.out 0).trans rfl, (blk_cell BK189.out 1).trans rfl, (blk_cell BK189.out 2).trans rfl⟩ (fun hHeld => ?_)
       clear hK K
       refine norm_ (a' := ?_) ?_ ?_
       rotate_left
       ·show Act.put _ (some 59) _ = _
        simp only [Act.put, List.setIfInBounds_toArray, List.set_cons_zero, List.set_cons_succ, i64_w, i32_w]
        rfl
       refine pure_ (i := 4) (N := some 60) (v := ?_) (a' := ?_) #[true, true, true, true, true] rfl rfl (by kernel_rfl) (fun _ _ _ h => h) (Or.inl ⟨by rfl, ?_⟩) ?_ ?_
       rotate_left
       ·intro w'
        go_simp
        with_reducible rfl
       rotate_left
       ·simp only [Act.put, List.setIfInBounds_toArray, List.set_cons_zero, List.set_cons_succ, i64_w, i32_w]
        rfl
       refine done_ (by kernel_rfl) ?_
       try go_wp2
       go_ret
       exact ⟨by first | rfl | (simp [errW_none, errW_some] <;> rfl) | (simp [*, errW_none, errW_some] <;> rfl), by repeat (first | (with_reducible first | exact HB.out | apply below_alloc | apply pw_below_drewN | apply below_drew1 | refine below_set ?_ GE189.out | refine below_set ?_ GE205.out | refine below_set ?_ GE211.out | refine below_set ?_ GE221.out) | exact HB.out)⟩

end Go.Proofs.YtlacoameobpfgaaDoor.QFnExactGapInsert
