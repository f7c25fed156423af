/- What the law FnExactGapRead reaches: each function as a plain function, and that the machine's call does it (written by a program). The condition, where there is one: errors.errorType reads as laid. -/
import Derived.Test.YtlacoameobpfgaaDoorQFnExactGapReadx0
import Derived.Test.YtlacoameobpfgaaDoorQFnExactGapReadx1
import Derived.Test.YtlacoameobpfgaaDoorQFnExactGapReadx2
namespace Go.Proofs.YtlacoameobpfgaaDoor.QFnExactGapRead
open Go.Proofs.YtlacoameobpfgaaDoor.Er
open Go.RowKit Go.Proofs.YtlacoameobpfgaaDoorW.PrintWords Go.Proofs.YtlacoameobpfgaaDoorW.PrintLast Go.Proofs.YtlacoameobpfgaaDoorW.PrintMore
attribute [local go_sem] max2_int min2_int max_two min_two max_three min_three max_four min_four   -- for this text's walks alone
set_option linter.unusedVariables false
set_option linter.unusedSimpArgs false

/-! ### laws_FnExactGapRead: function 3 -/
mutual
def laws_FnExactGapRead.j0 : Nat → Int → Int → List Int → Int → List Int → Int → Bool → List Int → Int → Int → List Int → Int → Int → Option (Bool)
  | 0, _, _, _, _, _, _, _, _, _, _, _, _, _ => none
  | k + 1, x1, x2, x8, x9, x11, x12, x48, x142000, x142001, x142002, x158000, x158001, x158002 => if x48 = true then (some false) else ((laws_toGap.f k x142000 x142001 x142002).bind fun bt163 => ((laws_eqGap.f k x158000 x158001 x158002 bt163.1 bt163.2.1 bt163.2.2).bind fun t168 => (if t168 = true then ((laws_markGap.f k x158000 x158001 x158002 1).bind fun bt169 => (if bt169.1 < 0 then (laws_FnExactGapRead.j1 k x1 x2 x8 x9 x11 true x142000 x142001 x142002) else ((laws_eqInt32S.f k x11 x8).bind fun t171 => (if t171 = true then (laws_FnExactGapRead.j1 k x1 x2 x8 x9 x11 (x12 != x9) x142000 x142001 x142002) else (laws_FnExactGapRead.j1 k x1 x2 x8 x9 x11 true x142000 x142001 x142002))))) else (some false))))
def laws_FnExactGapRead.j1 : Nat → Int → Int → List Int → Int → List Int → Bool → List Int → Int → Int → Option (Bool)
  | 0, _, _, _, _, _, _, _, _, _ => none
  | k + 1, x1, x2, x8, x9, x11, x69, x142000, x142001, x142002 => if x69 = true then (some false) else ((laws_markInt32S.f k x11 1).bind fun bt172 => ((laws_heldInt32S.f k bt172.2 1).bind fun t174 => (if t174 < 0 then (some false) else (if t174 = bt172.1 then ((laws_toGap.f k x142000 x142001 x142002).bind fun bt175 => ((impl_GapRead.f bt175.1 bt175.2.1 bt175.2.2 x1 x2).bind fun bt180 => ((laws_eqInt32S.f k bt180.1 x8).bind fun t184 => (if t184 = true then (laws_FnExactGapRead.j2 k bt172.2 bt172.1 (bt180.2 != x9)) else (laws_FnExactGapRead.j2 k bt172.2 bt172.1 true))))) else (some false)))))
def laws_FnExactGapRead.j2 : Nat → List Int → Int → Bool → Option (Bool)
  | 0, _, _, _ => none
  | k + 1, x11, x14, x97 => if x97 = true then (some false) else ((laws_heldInt32S.f k x11 1).bind fun t185 => (if t185 < 0 then (some false) else (if t185 = x14 then (some true) else (some false))))
end
def laws_FnExactGapRead.f (k : Nat) (l0_0 : List Int) (a0_1 : Int) (a0_2 : Int) (a1 : Int) (a2 : Int) : Option (Bool) := (laws_szGap.f l0_0 a0_1 a0_2 1048576).bind fun t142 => (if t142 < 0 then (some true) else ((laws_toGap.f k l0_0 a0_1 a0_2).bind fun bt143 => ((spec_GapRead.f k bt143.1 bt143.2.1 bt143.2.2 a1 a2).bind fun bt148 => ((laws_toGap.f k l0_0 a0_1 a0_2).bind fun bt152 => ((impl_GapRead.f bt152.1 bt152.2.1 bt152.2.2 a1 a2).bind fun bt158 => ((laws_eqInt32S.f k bt158.1 bt148.1).bind fun t162 => (if t162 = true then (laws_FnExactGapRead.j0 k a1 a2 bt148.1 bt148.2 bt158.1 bt158.2 (bt158.2 != bt148.2) l0_0 a0_1 a0_2 bt152.1 bt152.2.1 bt152.2.2) else (laws_FnExactGapRead.j0 k a1 a2 bt148.1 bt148.2 bt158.1 bt158.2 true l0_0 a0_1 a0_2 bt152.1 bt152.2.1 bt152.2.2))))))))
theorem laws_FnExactGapRead.mono_l : ∀ k, (∀ y0 y1 y2 y3 y4 y5 y6 y7 y8 y9 y10 y11 y12, LeO (laws_FnExactGapRead.j0 k y0 y1 y2 y3 y4 y5 y6 y7 y8 y9 y10 y11 y12) (laws_FnExactGapRead.j0 (k + 1) y0 y1 y2 y3 y4 y5 y6 y7 y8 y9 y10 y11 y12)) ∧ (∀ y0 y1 y2 y3 y4 y5 y6 y7 y8, LeO (laws_FnExactGapRead.j1 k y0 y1 y2 y3 y4 y5 y6 y7 y8) (laws_FnExactGapRead.j1 (k + 1) y0 y1 y2 y3 y4 y5 y6 y7 y8)) ∧ (∀ y0 y1 y2, LeO (laws_FnExactGapRead.j2 k y0 y1 y2) (laws_FnExactGapRead.j2 (k + 1) y0 y1 y2))
  | 0 => ⟨fun _ _ _ _ _ _ _ _ _ _ _ _ _ r h => by simp [laws_FnExactGapRead.j0] at h, fun _ _ _ _ _ _ _ _ _ r h => by simp [laws_FnExactGapRead.j1] at h, fun _ _ _ r h => by simp [laws_FnExactGapRead.j2] at h⟩
  | k + 1 => by
    obtain ⟨ih0, ih1, ih2⟩ := laws_FnExactGapRead.mono_l k
    refine ⟨?_, ?_, ?_⟩
    · intro y0 y1 y2 y3 y4 y5 y6 y7 y8 y9 y10 y11 y12
      unfold laws_FnExactGapRead.j0
      repeat' first
      | (with_reducible exact ih0 _ _ _ _ _ _ _ _ _ _ _ _ _)
      | (with_reducible exact ih1 _ _ _ _ _ _ _ _ _)
      | (with_reducible exact ih2 _ _ _)
      | (with_reducible exact laws_eqGap.mono _ _ _ _ _ _ _)
      | (with_reducible exact laws_eqInt32S.mono _ _ _)
      | (with_reducible exact laws_heldInt32S.mono _ _ _)
      | (with_reducible exact laws_markGap.mono _ _ _ _ _)
      | (with_reducible exact laws_markInt32S.mono _ _ _)
      | (with_reducible exact laws_toGap.mono _ _ _ _)
      | (with_reducible exact spec_GapRead.mono _ _ _ _ _ _)
      | (with_reducible exact LeO.refl _)
      | (with_reducible exact LeO.none _)
      | (with_reducible refine LeO.ite ?_ ?_)
      | (with_reducible refine LeO.bind ?_ (fun _ => ?_))
      | exact ih0 _ _ _ _ _ _ _ _ _ _ _ _ _
      | exact ih1 _ _ _ _ _ _ _ _ _
      | exact ih2 _ _ _
      | exact laws_eqGap.mono _ _ _ _ _ _ _
      | exact laws_eqInt32S.mono _ _ _
      | exact laws_heldInt32S.mono _ _ _
      | exact laws_markGap.mono _ _ _ _ _
      | exact laws_markInt32S.mono _ _ _
      | exact laws_toGap.mono _ _ _ _
      | exact spec_GapRead.mono _ _ _ _ _ _
      | exact LeO.none _
      | refine LeO.ite ?_ ?_
      | refine LeO.bind ?_ (fun _ => ?_)
    · intro y0 y1 y2 y3 y4 y5 y6 y7 y8
      unfold laws_FnExactGapRead.j1
      repeat' first
      | (with_reducible exact ih0 _ _ _ _ _ _ _ _ _ _ _ _ _)
      | (with_reducible exact ih1 _ _ _ _ _ _ _ _ _)
      | (with_reducible exact ih2 _ _ _)
      | (with_reducible exact laws_eqGap.mono _ _ _ _ _ _ _)
      | (with_reducible exact laws_eqInt32S.mono _ _ _)
      | (with_reducible exact laws_heldInt32S.mono _ _ _)
      | (with_reducible exact laws_markGap.mono _ _ _ _ _)
      | (with_reducible exact laws_markInt32S.mono _ _ _)
      | (with_reducible exact laws_toGap.mono _ _ _ _)
      | (with_reducible exact spec_GapRead.mono _ _ _ _ _ _)
      | (with_reducible exact LeO.refl _)
      | (with_reducible exact LeO.none _)
      | (with_reducible refine LeO.ite ?_ ?_)
      | (with_reducible refine LeO.bind ?_ (fun _ => ?_))
      | exact ih0 _ _ _ _ _ _ _ _ _ _ _ _ _
      | exact ih1 _ _ _ _ _ _ _ _ _
      | exact ih2 _ _ _
      | exact laws_eqGap.mono _ _ _ _ _ _ _
      | exact laws_eqInt32S.mono _ _ _
      | exact laws_heldInt32S.mono _ _ _
      | exact laws_markGap.mono _ _ _ _ _
      | exact laws_markInt32S.mono _ _ _
      | exact laws_toGap.mono _ _ _ _
      | exact spec_GapRead.mono _ _ _ _ _ _
      | exact LeO.none _
      | refine LeO.ite ?_ ?_
      | refine LeO.bind ?_ (fun _ => ?_)
    · intro y0 y1 y2
      unfold laws_FnExactGapRead.j2
      repeat' first
      | (with_reducible exact ih0 _ _ _ _ _ _ _ _ _ _ _ _ _)
      | (with_reducible exact ih1 _ _ _ _ _ _ _ _ _)
      | (with_reducible exact ih2 _ _ _)
      | (with_reducible exact laws_eqGap.mono _ _ _ _ _ _ _)
      | (with_reducible exact laws_eqInt32S.mono _ _ _)
      | (with_reducible exact laws_heldInt32S.mono _ _ _)
      | (with_reducible exact laws_markGap.mono _ _ _ _ _)
      | (with_reducible exact laws_markInt32S.mono _ _ _)
      | (with_reducible exact laws_toGap.mono _ _ _ _)
      | (with_reducible exact spec_GapRead.mono _ _ _ _ _ _)
      | (with_reducible exact LeO.refl _)
      | (with_reducible exact LeO.none _)
      | (with_reducible refine LeO.ite ?_ ?_)
      | (with_reducible refine LeO.bind ?_ (fun _ => ?_))
      | exact ih0 _ _ _ _ _ _ _ _ _ _ _ _ _
      | exact ih1 _ _ _ _ _ _ _ _ _
      | exact ih2 _ _ _
      | exact laws_eqGap.mono _ _ _ _ _ _ _
      | exact laws_eqInt32S.mono _ _ _
      | exact laws_heldInt32S.mono _ _ _
      | exact laws_markGap.mono _ _ _ _ _
      | exact laws_markInt32S.mono _ _ _
      | exact laws_toGap.mono _ _ _ _
      | exact spec_GapRead.mono _ _ _ _ _ _
      | exact LeO.none _
      | refine LeO.ite ?_ ?_
      | refine LeO.bind ?_ (fun _ => ?_)
theorem laws_FnExactGapRead.mono : ∀ a0 a1 a2 a3 a4 k, LeO (laws_FnExactGapRead.f k a0 a1 a2 a3 a4) (laws_FnExactGapRead.f (k + 1) a0 a1 a2 a3 a4) := by
  intro a0 a1 a2 a3 a4 k
  obtain ⟨ih0, ih1, ih2⟩ := laws_FnExactGapRead.mono_l k
  unfold laws_FnExactGapRead.f
  repeat' first
      | (with_reducible exact ih0 _ _ _ _ _ _ _ _ _ _ _ _ _)
      | (with_reducible exact ih1 _ _ _ _ _ _ _ _ _)
      | (with_reducible exact ih2 _ _ _)
      | (with_reducible exact laws_eqGap.mono _ _ _ _ _ _ _)
      | (with_reducible exact laws_eqInt32S.mono _ _ _)
      | (with_reducible exact laws_heldInt32S.mono _ _ _)
      | (with_reducible exact laws_markGap.mono _ _ _ _ _)
      | (with_reducible exact laws_markInt32S.mono _ _ _)
      | (with_reducible exact laws_toGap.mono _ _ _ _)
      | (with_reducible exact spec_GapRead.mono _ _ _ _ _ _)
      | (with_reducible exact LeO.refl _)
      | (with_reducible exact LeO.none _)
      | (with_reducible refine LeO.ite ?_ ?_)
      | (with_reducible refine LeO.bind ?_ (fun _ => ?_))
      | exact ih0 _ _ _ _ _ _ _ _ _ _ _ _ _
      | exact ih1 _ _ _ _ _ _ _ _ _
      | exact ih2 _ _ _
      | exact laws_eqGap.mono _ _ _ _ _ _ _
      | exact laws_eqInt32S.mono _ _ _
      | exact laws_heldInt32S.mono _ _ _
      | exact laws_markGap.mono _ _ _ _ _
      | exact laws_markInt32S.mono _ _ _
      | exact laws_toGap.mono _ _ _ _
      | exact spec_GapRead.mono _ _ _ _ _ _
      | exact LeO.none _
      | refine LeO.ite ?_ ?_
      | refine LeO.bind ?_ (fun _ => ?_)
set_option maxHeartbeats 8000000 in
set_option maxRecDepth 100000 in
theorem laws_FnExactGapRead.calls (k : Nat) (A0_0 : Option Addr) (c0_0 : Nat) (l0_0 : List Int) (a0_1 : Int) (a0_2 : Int) (a1 : Int) (a2 : Int) (r : Bool) (w : World) (hr0_0 : Kd.C (Kd.int .i32) w A0_0 l0_0.length l0_0) (hc0_0 : l0_0.length ≤ c0_0)  (hgG_ : HG w) (h : laws_FnExactGapRead.f k l0_0 a0_1 a0_2 a1 a2 = some r) :
    Calls Tryd.prog 3 #[.agg #[.slice A0_0 l0_0.length c0_0, .int .i64 a0_1, .int .i64 a0_2], .int .i64 a1, .int .i64 a2] w fun e w' => e = .returned (.bool r) ∧ Below w.heap.size w w' := by
  have hu24 := Tryd.underlying24
  have hu28 := Tryd.underlying28
  have HR0_0 := Aside0.mk hr0_0
  have HC0_0 := Aside0.mk hc0_0
  clear hr0_0 hc0_0
  have HB := Aside0.mk (Below.refl w.heap.size w)
  have H : ((laws_szGap.f l0_0 a0_1 a0_2 1048576).bind fun t142 => (if t142 < 0 then (some true) else ((laws_toGap.f k l0_0 a0_1 a0_2).bind fun bt143 => ((spec_GapRead.f k bt143.1 bt143.2.1 bt143.2.2 a1 a2).bind fun bt148 => ((laws_toGap.f k l0_0 a0_1 a0_2).bind fun bt152 => ((impl_GapRead.f bt152.1 bt152.2.1 bt152.2.2 a1 a2).bind fun bt158 => ((laws_eqInt32S.f k bt158.1 bt148.1).bind fun t162 => (if t162 = true then (laws_FnExactGapRead.j0 k a1 a2 bt148.1 bt148.2 bt158.1 bt158.2 (bt158.2 != bt148.2) l0_0 a0_1 a0_2 bt152.1 bt152.2.1 bt152.2.2) else (laws_FnExactGapRead.j0 k a1 a2 bt148.1 bt148.2 bt158.1 bt158.2 true l0_0 a0_1 a0_2 bt152.1 bt152.2.1 bt152.2.2))))))))) = some r := h
  clear h
  replace H := Option.bind_eq_some_iff.mp H
  obtain ⟨t142, A40, H⟩ := H
  replace H : (if t142 < 0 then (some true) else ((laws_toGap.f k l0_0 a0_1 a0_2).bind fun bt143 => ((spec_GapRead.f k bt143.1 bt143.2.1 bt143.2.2 a1 a2).bind fun bt148 => ((laws_toGap.f k l0_0 a0_1 a0_2).bind fun bt152 => ((impl_GapRead.f bt152.1 bt152.2.1 bt152.2.2 a1 a2).bind fun bt158 => ((laws_eqInt32S.f k bt158.1 bt148.1).bind fun t162 => (if t162 = true then (laws_FnExactGapRead.j0 k a1 a2 bt148.1 bt148.2 bt158.1 bt158.2 (bt158.2 != bt148.2) l0_0 a0_1 a0_2 bt152.1 bt152.2.1 bt152.2.2) else (laws_FnExactGapRead.j0 k a1 a2 bt148.1 bt148.2 bt158.1 bt158.2 true l0_0 a0_1 a0_2 bt152.1 bt152.2.1 bt152.2.2)))))))) = some r := H
  have A4 := Aside0.mk A40
  clear A40
  by_cases c5 : t142 < 0
  · rw [if_pos c5] at H
    have c5b0 : decide (t142 < 0) = true := decide_eq_true c5
    clear c5
    obtain rfl := Option.some.inj H
    go_enter Tryd.func3, Tryd.ntmps3
    go_wp2_with (first | ((with_reducible refine gate_dst (N := 3) rfl ?_); refine box_event ?hg (N := 3) ?hd (cs := #[.slice A0_0 l0_0.length c0_0, .int .i64 a0_1, .int .i64 a0_2]) (t := 24) ?hr ?_; (case hd => rfl); (case hg => rfl); (case hr => first | (go_simp; done) | (go_simp; rfl)); intro gb141 hg w6 hbox hb; have n0_ := Aside0.mk (below_step (by repeat (first | (with_reducible first | exact HB.out | apply below_alloc | apply pw_below_drewN | apply below_drew1) | exact HB.out)) hb); have n1_ := Aside0.mk (hbox); have n2_ := Aside0.mk ((by rw [hg]; exact (below_size (by repeat (first | (with_reducible first | exact HB.out | apply below_alloc | apply pw_below_drewN | apply below_drew1) | exact HB.out))) : w.heap.size ≤ gb141)); have n3_ := Aside0.mk ((by rw [hg]; exact (below_size (by repeat (first | (with_reducible first | exact HB.out | apply below_alloc | apply pw_below_drewN | apply below_drew1) | exact HB.out))) : w.heap.size ≤ gb141)); clear HB; have HB := n0_; have BK141 := n1_; have GW141 := n2_; have GE141 := n3_; clear n0_ n1_ n2_ n3_; clear hb hbox hg; have hcz7_0 : w6.cell? ⟨gb141, 0, none⟩ = some (.slice A0_0 l0_0.length c0_0) := (blk_cell BK141.out 0).trans rfl; have hcz7_1 : w6.cell? ⟨gb141, 1, none⟩ = some (.int .i64 a0_1) := (blk_cell BK141.out 1).trans rfl; have hcz7_2 : w6.cell? ⟨gb141, 2, none⟩ = some (.int .i64 a0_2) := (blk_cell BK141.out 2).trans rfl; have hfz7_0 := blk_frozen BK141.out 0; have hfz7_1 := blk_frozen BK141.out 1; have hfz7_2 := blk_frozen BK141.out 2) | ((with_reducible refine gate_callee (f := 10) rfl ?_); refine goesL_ (some 20) rfl rfl Tryd.func10 (by kernel_rfl) rfl #[.agg #[.slice A0_0 l0_0.length c0_0, .int .i64 a0_1, .int .i64 a0_2], .int .i64 1048576] rfl (by (try simp only [List.map_toArray, List.map_cons, List.map_nil]); first | done | rfl | (simp only [List.length_drop, List.length_take]; rfl)) ?_; (with_reducible refine (laws_szGap.calls _ _ l0_0 a0_1 a0_2 1048576 t142 _ ?side1 ?side2 A4.out).mono ?_); (case side1 => repeat (first | exact (Kd.C_below HR0_0.out HB.out) | (with_reducible refine Kd.C_alloc ?_ _) | (with_reducible refine Kd.C_drewN ?_ _) | (with_reducible refine Kd.C_drew ?_))); (case side2 => exact HC0_0.out); rintro e w8 ⟨rfl, hb⟩; refine ⟨_, rfl, ?_⟩; have n0_ := Aside0.mk (blk_below (g := gb141) (o := .cells #[.slice A0_0 l0_0.length c0_0, .int .i64 a0_1, .int .i64 a0_2] 24 (0, 0)) (by (with_reducible repeat (first | refine blk_drewN ?_ _ | refine blk_drew ?_ | refine blk_alloc ?_ _)); exact BK141.out) hb); have n1_ := Aside0.mk (below_step (by repeat (first | (with_reducible first | exact HB.out | apply below_alloc | apply pw_below_drewN | apply below_drew1 | refine below_set ?_ GE141.out) | exact HB.out)) hb); clear BK141; clear HB; have BK141 := n0_; have HB := n1_; clear n0_ n1_; (try clear hb); (try clear hb2); (try clear hk); (try clear hi)))
    go_ret
    exact ⟨by first | rfl | (simp [errW_none, errW_some] <;> rfl) | (simp [*, errW_none, errW_some] <;> rfl), by repeat (first | (with_reducible first | exact HB.out | apply below_alloc | apply pw_below_drewN | apply below_drew1 | refine below_set ?_ GE141.out) | exact HB.out)⟩
  · rw [if_neg c5] at H
    have c5b0 : decide (t142 < 0) = false := decide_eq_false c5
    clear c5
    replace H := Option.bind_eq_some_iff.mp H
    obtain ⟨⟨t143, t146, t147⟩, A90, H⟩ := H
    replace H : ((spec_GapRead.f k t143 t146 t147 a1 a2).bind fun bt148 => ((laws_toGap.f k l0_0 a0_1 a0_2).bind fun bt152 => ((impl_GapRead.f bt152.1 bt152.2.1 bt152.2.2 a1 a2).bind fun bt158 => ((laws_eqInt32S.f k bt158.1 bt148.1).bind fun t162 => (if t162 = true then (laws_FnExactGapRead.j0 k a1 a2 bt148.1 bt148.2 bt158.1 bt158.2 (bt158.2 != bt148.2) l0_0 a0_1 a0_2 bt152.1 bt152.2.1 bt152.2.2) else (laws_FnExactGapRead.j0 k a1 a2 bt148.1 bt148.2 bt158.1 bt158.2 true l0_0 a0_1 a0_2 bt152.1 bt152.2.1 bt152.2.2)))))) = some r := H
    have A9 := Aside0.mk A90
    clear A90
    replace H := Option.bind_eq_some_iff.mp H
    obtain ⟨⟨t148, t151⟩, A100, H⟩ := H
    replace H : ((laws_toGap.f k l0_0 a0_1 a0_2).bind fun bt152 => ((impl_GapRead.f bt152.1 bt152.2.1 bt152.2.2 a1 a2).bind fun bt158 => ((laws_eqInt32S.f k bt158.1 t148).bind fun t162 => (if t162 = true then (laws_FnExactGapRead.j0 k a1 a2 t148 t151 bt158.1 bt158.2 (bt158.2 != t151) l0_0 a0_1 a0_2 bt152.1 bt152.2.1 bt152.2.2) else (laws_FnExactGapRead.j0 k a1 a2 t148 t151 bt158.1 bt158.2 true l0_0 a0_1 a0_2 bt152.1 bt152.2.1 bt152.2.2))))) = some r := H
    have A10 := Aside0.mk A100
    clear A100
    replace H := Option.bind_eq_some_iff.mp H
    obtain ⟨⟨t152, t155, t156⟩, A110, H⟩ := H
    replace H : ((impl_GapRead.f t152 t155 t156 a1 a2).bind fun bt158 => ((laws_eqInt32S.f k bt158.1 t148).bind fun t162 => (if t162 = true then (laws_FnExactGapRead.j0 k a1 a2 t148 t151 bt158.1 bt158.2 (bt158.2 != t151) l0_0 a0_1 a0_2 t152 t155 t156) else (laws_FnExactGapRead.j0 k a1 a2 t148 t151 bt158.1 bt158.2 true l0_0 a0_1 a0_2 t152 t155 t156)))) = some r := H
    have A11 := Aside0.mk A110
    clear A110
    replace H := Option.bind_eq_some_iff.mp H
    obtain ⟨⟨t158, t161⟩, A120, H⟩ := H
    replace H : ((laws_eqInt32S.f k t158 t148).bind fun t162 => (if t162 = true then (laws_FnExactGapRead.j0 k a1 a2 t148 t151 t158 t161 (t161 != t151) l0_0 a0_1 a0_2 t152 t155 t156) else (laws_FnExactGapRead.j0 k a1 a2 t148 t151 t158 t161 true l0_0 a0_1 a0_2 t152 t155 t156))) = some r := H
    have A12 := Aside0.mk A120
    clear A120
    have HC13 := Aside0.mk H
    clear H
    go_enter Tryd.func3, Tryd.ntmps3
    go_upto_region 8 with (first | ((with_reducible refine gate_dst (N := 3) rfl ?_); refine box_event ?hg (N := 3) ?hd (cs := #[.slice A0_0 l0_0.length c0_0, .int .i64 a0_1, .int .i64 a0_2]) (t := 24) ?hr ?_; (case hd => rfl); (case hg => rfl); (case hr => first | (go_simp; done) | (go_simp; rfl)); intro gb141 hg w14 hbox hb; have n0_ := Aside0.mk (below_step (by repeat (first | (with_reducible first | exact HB.out | apply below_alloc | apply pw_below_drewN | apply below_drew1) | exact HB.out)) hb); have n1_ := Aside0.mk (hbox); have n2_ := Aside0.mk ((by rw [hg]; exact (below_size (by repeat (first | (with_reducible first | exact HB.out | apply below_alloc | apply pw_below_drewN | apply below_drew1) | exact HB.out))) : w.heap.size ≤ gb141)); have n3_ := Aside0.mk ((by rw [hg]; exact (below_size (by repeat (first | (with_reducible first | exact HB.out | apply below_alloc | apply pw_below_drewN | apply below_drew1) | exact HB.out))) : w.heap.size ≤ gb141)); clear HB; have HB := n0_; have BK141 := n1_; have GW141 := n2_; have GE141 := n3_; clear n0_ n1_ n2_ n3_; clear hb hbox hg; have hcz15_0 : w14.cell? ⟨gb141, 0, none⟩ = some (.slice A0_0 l0_0.length c0_0) := (blk_cell BK141.out 0).trans rfl; have hcz15_1 : w14.cell? ⟨gb141, 1, none⟩ = some (.int .i64 a0_1) := (blk_cell BK141.out 1).trans rfl; have hcz15_2 : w14.cell? ⟨gb141, 2, none⟩ = some (.int .i64 a0_2) := (blk_cell BK141.out 2).trans rfl; have hfz15_0 := blk_frozen BK141.out 0; have hfz15_1 := blk_frozen BK141.out 1; have hfz15_2 := blk_frozen BK141.out 2) | ((with_reducible refine gate_callee (f := 10) rfl ?_); refine goesL_ (some 20) rfl rfl Tryd.func10 (by kernel_rfl) rfl #[.agg #[.slice A0_0 l0_0.length c0_0, .int .i64 a0_1, .int .i64 a0_2], .int .i64 1048576] rfl (by (try simp only [List.map_toArray, List.map_cons, List.map_nil]); first | done | rfl | (simp only [List.length_drop, List.length_take]; rfl)) ?_; (with_reducible refine (laws_szGap.calls _ _ l0_0 a0_1 a0_2 1048576 t142 _ ?side1 ?side2 A4.out).mono ?_); (case side1 => repeat (first | exact (Kd.C_below HR0_0.out HB.out) | (with_reducible refine Kd.C_alloc ?_ _) | (with_reducible refine Kd.C_drewN ?_ _) | (with_reducible refine Kd.C_drew ?_))); (case side2 => exact HC0_0.out); rintro e w16 ⟨rfl, hb⟩; refine ⟨_, rfl, ?_⟩; have n0_ := Aside0.mk (blk_below (g := gb141) (o := .cells #[.slice A0_0 l0_0.length c0_0, .int .i64 a0_1, .int .i64 a0_2] 24 (0, 0)) (by (with_reducible repeat (first | refine blk_drewN ?_ _ | refine blk_drew ?_ | refine blk_alloc ?_ _)); exact BK141.out) hb); have n1_ := Aside0.mk (below_step (by repeat (first | (with_reducible first | exact HB.out | apply below_alloc | apply pw_below_drewN | apply below_drew1 | refine below_set ?_ GE141.out) | exact HB.out)) hb); clear BK141; clear HB; have BK141 := n0_; have HB := n1_; clear n0_ n1_; (try clear hb); (try clear hb2); (try clear hk); (try clear hi); have hcz17_0 : w16.cell? ⟨gb141, 0, none⟩ = some (.slice A0_0 l0_0.length c0_0) := (blk_cell BK141.out 0).trans rfl; have hcz17_1 : w16.cell? ⟨gb141, 1, none⟩ = some (.int .i64 a0_1) := (blk_cell BK141.out 1).trans rfl; have hcz17_2 : w16.cell? ⟨gb141, 2, none⟩ = some (.int .i64 a0_2) := (blk_cell BK141.out 2).trans rfl; have hfz17_0 := blk_frozen BK141.out 0; have hfz17_1 := blk_frozen BK141.out 1; have hfz17_2 := blk_frozen BK141.out 2) | ((with_reducible refine gate_callee (f := 12) rfl ?_); refine goesL_ (some 25) rfl rfl Tryd.func12 (by kernel_rfl) rfl #[.agg #[.slice A0_0 l0_0.length c0_0, .int .i64 a0_1, .int .i64 a0_2]] rfl (by (try simp only [List.map_toArray, List.map_cons, List.map_nil]); first | done | rfl | (simp only [List.length_drop, List.length_take]; rfl)) ?_; (with_reducible refine (laws_toGap.calls k _ _ l0_0 a0_1 a0_2 t143 t146 t147 _ ?side1 ?side2 A9.out).mono ?_); (case side1 => repeat (first | exact (Kd.C_below HR0_0.out HB.out) | (with_reducible refine Kd.C_alloc ?_ _) | (with_reducible refine Kd.C_drewN ?_ _) | (with_reducible refine Kd.C_drew ?_))); (case side2 => exact HC0_0.out); rintro e w18 ⟨v144, rfl, ho0, hb⟩; refine ⟨_, rfl, ?_⟩; have n0_ := Aside0.mk (Kd.R_lower ho0 (below_size (by repeat (first | (with_reducible first | exact HB.out | apply below_alloc | apply pw_below_drewN | apply below_drew1 | refine below_set ?_ GE141.out) | exact HB.out)))); have n1_ := Aside0.mk (blk_below (g := gb141) (o := .cells #[.slice A0_0 l0_0.length c0_0, .int .i64 a0_1, .int .i64 a0_2] 24 (0, 0)) (by (with_reducible repeat (first | refine blk_drewN ?_ _ | refine blk_drew ?_ | refine blk_alloc ?_ _)); exact BK141.out) hb); have n2_ := Aside0.mk (below_step (by repeat (first | (with_reducible first | exact HB.out | apply below_alloc | apply pw_below_drewN | apply below_drew1 | refine below_set ?_ GE141.out) | exact HB.out)) hb); clear BK141; clear HB; have HO145 := n0_; have BK141 := n1_; have HB := n2_; clear n0_ n1_ n2_; (try clear hb); (try clear hb2); (try clear hk); (try clear hi); (try clear ho0); obtain ⟨Ao19, co19, eo19⟩ := Kd.R_slice HO145.out; subst eo19) | ((with_reducible refine gate_callee (f := 11) rfl ?_); refine goesL_ (some 28) rfl rfl Tryd.func11 (by kernel_rfl) rfl #[.agg #[.slice Ao19 t143.length co19, .int .i64 t146, .int .i64 t147], .int .i64 a1, .int .i64 a2] rfl (by (try simp only [List.map_toArray, List.map_cons, List.map_nil]); first | done | rfl | (simp only [List.length_drop, List.length_take]; rfl)) ?_; (with_reducible refine (spec_GapRead.calls k _ _ t143 t146 t147 a1 a2 t148 t151 _ ?side1 ?side2 A10.out).mono ?_); (case side1 => repeat (first | exact (Kd.R_reads' HO145.out).2.2 | (with_reducible refine Kd.C_alloc ?_ _) | (with_reducible refine Kd.C_drewN ?_ _) | (with_reducible refine Kd.C_drew ?_))); (case side2 => exact (Kd.R_reads' HO145.out).2.1); rintro e w20 ⟨v149, rfl, ho0, hb⟩; refine ⟨_, rfl, ?_⟩; have n0_ := Aside0.mk (Kd.R_elder' (by (with_reducible repeat (first | apply Kd.R_alloc | apply Kd.R_drewN | apply Kd.R_drew)); exact HO145.out) (Kd.R_base ho0) hb); have n1_ := Aside0.mk (Kd.R_lower (Kd.R_new' ho0 (Kd.R_lt (by (with_reducible repeat (first | apply Kd.R_alloc | apply Kd.R_drewN | apply Kd.R_drew)); exact HO145.out))) (below_size (by repeat (first | (with_reducible first | exact HB.out | apply below_alloc | apply pw_below_drewN | apply below_drew1 | refine below_set ?_ GE141.out) | exact HB.out)))); have n2_ := Aside0.mk (blk_below (g := gb141) (o := .cells #[.slice A0_0 l0_0.length c0_0, .int .i64 a0_1, .int .i64 a0_2] 24 (0, 0)) (by (with_reducible repeat (first | refine blk_drewN ?_ _ | refine blk_drew ?_ | refine blk_alloc ?_ _)); exact BK141.out) hb); have n3_ := Aside0.mk (below_step (by repeat (first | (with_reducible first | exact HB.out | apply below_alloc | apply pw_below_drewN | apply below_drew1 | refine below_set ?_ GE141.out) | exact HB.out)) hb); clear HO145; clear BK141; clear HB; have HO145 := n0_; have HO150 := n1_; have BK141 := n2_; have HB := n3_; clear n0_ n1_ n2_ n3_; (try clear hb); (try clear hb2); (try clear hk); (try clear hi); (try clear ho0); have hcz21_0 : w20.cell? ⟨gb141, 0, none⟩ = some (.slice A0_0 l0_0.length c0_0) := (blk_cell BK141.out 0).trans rfl; have hcz21_1 : w20.cell? ⟨gb141, 1, none⟩ = some (.int .i64 a0_1) := (blk_cell BK141.out 1).trans rfl; have hcz21_2 : w20.cell? ⟨gb141, 2, none⟩ = some (.int .i64 a0_2) := (blk_cell BK141.out 2).trans rfl; have hfz21_0 := blk_frozen BK141.out 0; have hfz21_1 := blk_frozen BK141.out 1; have hfz21_2 := blk_frozen BK141.out 2) | ((with_reducible refine gate_callee (f := 12) rfl ?_); refine goesL_ (some 32) rfl rfl Tryd.func12 (by kernel_rfl) rfl #[.agg #[.slice A0_0 l0_0.length c0_0, .int .i64 a0_1, .int .i64 a0_2]] rfl (by (try simp only [List.map_toArray, List.map_cons, List.map_nil]); first | done | rfl | (simp only [List.length_drop, List.length_take]; rfl)) ?_; (with_reducible refine (laws_toGap.calls k _ _ l0_0 a0_1 a0_2 t152 t155 t156 _ ?side1 ?side2 A11.out).mono ?_); (case side1 => repeat (first | exact (Kd.C_below HR0_0.out HB.out) | (with_reducible refine Kd.C_alloc ?_ _) | (with_reducible refine Kd.C_drewN ?_ _) | (with_reducible refine Kd.C_drew ?_))); (case side2 => exact HC0_0.out); rintro e w22 ⟨v153, rfl, ho0, hb⟩; refine ⟨_, rfl, ?_⟩; have n0_ := Aside0.mk (Kd.R_elder' (by (with_reducible repeat (first | apply Kd.R_alloc | apply Kd.R_drewN | apply Kd.R_drew)); exact HO145.out) (Kd.R_base ho0) hb); have n1_ := Aside0.mk (Kd.R_elder' (by (with_reducible repeat (first | apply Kd.R_alloc | apply Kd.R_drewN | apply Kd.R_drew)); exact HO150.out) (Kd.R_base ho0) hb); have n2_ := Aside0.mk (Kd.R_lower (Kd.R_new' (Kd.R_new' ho0 (Kd.R_lt (by (with_reducible repeat (first | apply Kd.R_alloc | apply Kd.R_drewN | apply Kd.R_drew)); exact HO145.out))) (Kd.R_lt (by (with_reducible repeat (first | apply Kd.R_alloc | apply Kd.R_drewN | apply Kd.R_drew)); exact HO150.out))) (below_size (by repeat (first | (with_reducible first | exact HB.out | apply below_alloc | apply pw_below_drewN | apply below_drew1 | refine below_set ?_ GE141.out) | exact HB.out)))); have n3_ := Aside0.mk (blk_below (g := gb141) (o := .cells #[.slice A0_0 l0_0.length c0_0, .int .i64 a0_1, .int .i64 a0_2] 24 (0, 0)) (by (with_reducible repeat (first | refine blk_drewN ?_ _ | refine blk_drew ?_ | refine blk_alloc ?_ _)); exact BK141.out) hb); have n4_ := Aside0.mk (below_step (by repeat (first | (with_reducible first | exact HB.out | apply below_alloc | apply pw_below_drewN | apply below_drew1 | refine below_set ?_ GE141.out) | exact HB.out)) hb); clear HO145; clear HO150; clear BK141; clear HB; have HO145 := n0_; have HO150 := n1_; have HO154 := n2_; have BK141 := n3_; have HB := n4_; clear n0_ n1_ n2_ n3_ n4_; (try clear hb); (try clear hb2); (try clear hk); (try clear hi); (try clear ho0)) | ((with_reducible refine gate_dst (N := 10) rfl ?_); refine box_event ?hg (N := 10) ?hd (cs := #[.slice none 0 0, .int .i64 0, .int .i64 0]) (t := 28) ?hr ?_; (case hd => rfl); (case hg => rfl); (case hr => first | (go_simp; done) | (go_simp; rfl)); intro gb157 hg w23 hbox hb; have n0_ := Aside0.mk (Kd.R_below (by (with_reducible repeat (first | apply Kd.R_alloc | apply Kd.R_drewN | apply Kd.R_drew)); exact HO145.out) hb); have n1_ := Aside0.mk (Kd.R_below (by (with_reducible repeat (first | apply Kd.R_alloc | apply Kd.R_drewN | apply Kd.R_drew)); exact HO150.out) hb); have n2_ := Aside0.mk (Kd.R_below (by (with_reducible repeat (first | apply Kd.R_alloc | apply Kd.R_drewN | apply Kd.R_drew)); exact HO154.out) hb); have n3_ := Aside0.mk (blk_below (g := gb141) (o := .cells #[.slice A0_0 l0_0.length c0_0, .int .i64 a0_1, .int .i64 a0_2] 24 (0, 0)) (by (with_reducible repeat (first | refine blk_drewN ?_ _ | refine blk_drew ?_ | refine blk_alloc ?_ _)); exact BK141.out) hb); have n4_ := Aside0.mk (below_step (by repeat (first | (with_reducible first | exact HB.out | apply below_alloc | apply pw_below_drewN | apply below_drew1 | refine below_set ?_ GE141.out) | exact HB.out)) hb); have n5_ := Aside0.mk (hbox); have n6_ := Aside0.mk ((by rw [hg]; exact (below_size (by repeat (first | (with_reducible first | exact HB.out | apply below_alloc | apply pw_below_drewN | apply below_drew1 | refine below_set ?_ GE141.out) | exact HB.out))) : w.heap.size ≤ gb157)); have n7_ := Aside0.mk ((by rw [hg]; exact (below_size (by repeat (first | (with_reducible first | exact HB.out | apply below_alloc | apply pw_below_drewN | apply below_drew1 | refine below_set ?_ GE141.out) | exact HB.out))) : w.heap.size ≤ gb157)); have n8_ := Aside0.mk ((by rw [hg]; exact Nat.ne_of_lt (blk_lt (g := gb141) (o := .cells #[.slice A0_0 l0_0.length c0_0, .int .i64 a0_1, .int .i64 a0_2] 24 (0, 0)) (by (with_reducible repeat (first | refine blk_drewN ?_ _ | refine blk_drew ?_ | refine blk_alloc ?_ _)); exact BK141.out)) : gb141 ≠ gb157)); have n9_ := Aside0.mk ((by rw [hg]; exact Nat.ne_of_gt (blk_lt (g := gb141) (o := .cells #[.slice A0_0 l0_0.length c0_0, .int .i64 a0_1, .int .i64 a0_2] 24 (0, 0)) (by (with_reducible repeat (first | refine blk_drewN ?_ _ | refine blk_drew ?_ | refine blk_alloc ?_ _)); exact BK141.out)) : gb157 ≠ gb141)); clear HO145; clear HO150; clear HO154; clear BK141; clear HB; have HO145 := n0_; have HO150 := n1_; have HO154 := n2_; have BK141 := n3_; have HB := n4_; have BK157 := n5_; have GW157 := n6_; have GE157 := n7_; have NB141_157 := n8_; have NB157_141 := n9_; clear n0_ n1_ n2_ n3_ n4_ n5_ n6_ n7_ n8_ n9_; clear hb hbox hg; obtain ⟨Ao24, co24, eo24⟩ := Kd.R_slice HO154.out; subst eo24; have hnb25 := NB157_141.out; have hnc25 := NB141_157.out; have hcz26_0 : w23.cell? ⟨gb157, 0, none⟩ = some (.slice none 0 0) := (blk_cell BK157.out 0).trans rfl; have hcz26_1 : w23.cell? ⟨gb157, 1, none⟩ = some (.int .i64 0) := (blk_cell BK157.out 1).trans rfl; have hcz26_2 : w23.cell? ⟨gb157, 2, none⟩ = some (.int .i64 0) := (blk_cell BK157.out 2).trans rfl; have hfz26_0 := blk_frozen BK157.out 0; have hfz26_1 := blk_frozen BK157.out 1; have hfz26_2 := blk_frozen BK157.out 2) | ((with_reducible refine gate_callee (f := 13) rfl ?_); refine goesL_ (some 37) rfl rfl Tryd.func13 (by kernel_rfl) rfl #[.agg #[.slice Ao24 t152.length co24, .int .i64 t155, .int .i64 t156], .int .i64 a1, .int .i64 a2] rfl (by (try simp only [List.map_toArray, List.map_cons, List.map_nil]); first | done | rfl | (simp only [List.length_drop, List.length_take]; rfl)) ?_; (with_reducible refine (impl_GapRead.calls _ _ t152 t155 t156 a1 a2 t158 t161 _ ?side1 ?side2 ?side3 A12.out).mono ?_); (case side1 => refine (Kd.R_reads' (e := 21) (base := w.heap.size) (ok := fun k_ => ((True ∧ some k_ ≠ (.slice Ao19 t143.length co19 : Value).ownBlock) ∧ some k_ ≠ (v149 : Value).ownBlock)) (n := t152.length) (c := co24) ?_).2.2; exact (by (with_reducible repeat (first | apply Kd.R_alloc | apply Kd.R_drewN | apply Kd.R_drew)); exact (Kd.R_mono (Kd.R_far (p := ⟨gb157, 2, none⟩) (Kd.R_far (p := ⟨gb157, 1, none⟩) (Kd.R_far (p := ⟨gb157, 0, none⟩) (Kd.R_types HO154.out BK157.out (by decide)) (fun _ hk => hk.2) (.slice Ao24 t152.length co24)) (fun _ hk => hk.2) (.int .i64 t155)) (fun _ hk => hk.2) (.int .i64 t156)) (fun _ h_ => h_.1)))); (case side2 => exact (Kd.R_reads' HO154.out).2.1); (case side3 => exact HG.below hgG_ (by repeat (first | (with_reducible first | exact HB.out | apply below_alloc | apply pw_below_drewN | apply below_drew1 | refine below_set ?_ GE141.out | refine below_set ?_ GE157.out) | exact HB.out))); rintro e w27 ⟨v159, rfl, ho0, hb⟩; refine ⟨_, rfl, ?_⟩; have n0_ := Aside0.mk (Kd.R_elder' (by (with_reducible repeat (first | apply Kd.R_alloc | apply Kd.R_drewN | apply Kd.R_drew)); exact (Kd.R_mono (Kd.R_far (p := ⟨gb157, 2, none⟩) (Kd.R_far (p := ⟨gb157, 1, none⟩) (Kd.R_far (p := ⟨gb157, 0, none⟩) (Kd.R_types HO145.out BK157.out (by decide)) (fun _ hk => hk.2) (.slice Ao24 t152.length co24)) (fun _ hk => hk.2) (.int .i64 t155)) (fun _ hk => hk.2) (.int .i64 t156)) (fun _ h_ => h_.1))) (Kd.R_base ho0) hb); have n1_ := Aside0.mk (Kd.R_elder' (by (with_reducible repeat (first | apply Kd.R_alloc | apply Kd.R_drewN | apply Kd.R_drew)); exact (Kd.R_mono (Kd.R_far (p := ⟨gb157, 2, none⟩) (Kd.R_far (p := ⟨gb157, 1, none⟩) (Kd.R_far (p := ⟨gb157, 0, none⟩) (Kd.R_types HO150.out BK157.out (by decide)) (fun _ hk => hk.2) (.slice Ao24 t152.length co24)) (fun _ hk => hk.2) (.int .i64 t155)) (fun _ hk => hk.2) (.int .i64 t156)) (fun _ h_ => h_.1))) (Kd.R_base ho0) hb); have n2_ := Aside0.mk (Kd.R_elder' (by (with_reducible repeat (first | apply Kd.R_alloc | apply Kd.R_drewN | apply Kd.R_drew)); exact (Kd.R_mono (Kd.R_far (p := ⟨gb157, 2, none⟩) (Kd.R_far (p := ⟨gb157, 1, none⟩) (Kd.R_far (p := ⟨gb157, 0, none⟩) (Kd.R_types HO154.out BK157.out (by decide)) (fun _ hk => hk.2) (.slice Ao24 t152.length co24)) (fun _ hk => hk.2) (.int .i64 t155)) (fun _ hk => hk.2) (.int .i64 t156)) (fun _ h_ => h_.1))) (Kd.R_base ho0) hb); have n3_ := Aside0.mk (Kd.R_lower (Kd.R_new' (Kd.R_new' (Kd.R_new' ho0 (Kd.R_lt (by (with_reducible repeat (first | apply Kd.R_alloc | apply Kd.R_drewN | apply Kd.R_drew)); exact (Kd.R_mono (Kd.R_far (p := ⟨gb157, 2, none⟩) (Kd.R_far (p := ⟨gb157, 1, none⟩) (Kd.R_far (p := ⟨gb157, 0, none⟩) (Kd.R_types HO145.out BK157.out (by decide)) (fun _ hk => hk.2) (.slice Ao24 t152.length co24)) (fun _ hk => hk.2) (.int .i64 t155)) (fun _ hk => hk.2) (.int .i64 t156)) (fun _ h_ => h_.1))))) (Kd.R_lt (by (with_reducible repeat (first | apply Kd.R_alloc | apply Kd.R_drewN | apply Kd.R_drew)); exact (Kd.R_mono (Kd.R_far (p := ⟨gb157, 2, none⟩) (Kd.R_far (p := ⟨gb157, 1, none⟩) (Kd.R_far (p := ⟨gb157, 0, none⟩) (Kd.R_types HO150.out BK157.out (by decide)) (fun _ hk => hk.2) (.slice Ao24 t152.length co24)) (fun _ hk => hk.2) (.int .i64 t155)) (fun _ hk => hk.2) (.int .i64 t156)) (fun _ h_ => h_.1))))) (Kd.R_lt (by (with_reducible repeat (first | apply Kd.R_alloc | apply Kd.R_drewN | apply Kd.R_drew)); exact (Kd.R_mono (Kd.R_far (p := ⟨gb157, 2, none⟩) (Kd.R_far (p := ⟨gb157, 1, none⟩) (Kd.R_far (p := ⟨gb157, 0, none⟩) (Kd.R_types HO154.out BK157.out (by decide)) (fun _ hk => hk.2) (.slice Ao24 t152.length co24)) (fun _ hk => hk.2) (.int .i64 t155)) (fun _ hk => hk.2) (.int .i64 t156)) (fun _ h_ => h_.1))))) (below_size (by repeat (first | (with_reducible first | exact HB.out | apply below_alloc | apply pw_below_drewN | apply below_drew1 | refine below_set ?_ GE141.out | refine below_set ?_ GE157.out) | exact HB.out)))); have n4_ := Aside0.mk (blk_below (g := gb141) (o := .cells #[.slice A0_0 l0_0.length c0_0, .int .i64 a0_1, .int .i64 a0_2] 24 (0, 0)) (by (with_reducible repeat (first | refine blk_drewN ?_ _ | refine blk_drew ?_ | refine blk_alloc ?_ _)); refine blk_far ?_ NB141_157.out _; (with_reducible repeat (first | refine blk_drewN ?_ _ | refine blk_drew ?_ | refine blk_alloc ?_ _)); refine blk_far ?_ NB141_157.out _; (with_reducible repeat (first | refine blk_drewN ?_ _ | refine blk_drew ?_ | refine blk_alloc ?_ _)); refine blk_far ?_ NB141_157.out _; (with_reducible repeat (first | refine blk_drewN ?_ _ | refine blk_drew ?_ | refine blk_alloc ?_ _)); exact BK141.out) hb); have n5_ := Aside0.mk (blk_below (g := gb157) (o := .cells #[.slice Ao24 t152.length co24, .int .i64 t155, .int .i64 t156] 28 (0, 0)) (by (with_reducible repeat (first | refine blk_drewN ?_ _ | refine blk_drew ?_ | refine blk_alloc ?_ _)); refine blk_put (cs := #[.slice Ao24 t152.length co24, .int .i64 t155, .int .i64 0]) ?_ 2 _ rfl; (with_reducible repeat (first | refine blk_drewN ?_ _ | refine blk_drew ?_ | refine blk_alloc ?_ _)); refine blk_put (cs := #[.slice Ao24 t152.length co24, .int .i64 0, .int .i64 0]) ?_ 1 _ rfl; (with_reducible repeat (first | refine blk_drewN ?_ _ | refine blk_drew ?_ | refine blk_alloc ?_ _)); refine blk_put (cs := #[.slice none 0 0, .int .i64 0, .int .i64 0]) ?_ 0 _ rfl; (with_reducible repeat (first | refine blk_drewN ?_ _ | refine blk_drew ?_ | refine blk_alloc ?_ _)); exact BK157.out) hb); have n6_ := Aside0.mk (below_step (by repeat (first | (with_reducible first | exact HB.out | apply below_alloc | apply pw_below_drewN | apply below_drew1 | refine below_set ?_ GE141.out | refine below_set ?_ GE157.out) | exact HB.out)) hb); clear HO145; clear HO150; clear HO154; clear BK141; clear BK157; clear HB; have HO145 := n0_; have HO150 := n1_; have HO154 := n2_; have HO160 := n3_; have BK141 := n4_; have BK157 := n5_; have HB := n6_; clear n0_ n1_ n2_ n3_ n4_ n5_ n6_; (try clear hb); (try clear hb2); (try clear hk); (try clear hi); (try clear ho0)))
    (try simp only [Act.put, List.setIfInBounds_toArray, List.set_cons_zero, List.set_cons_succ])
    go_cut [48] (fun v48 wc => ∃ (kq : Nat) (x48_12 : Bool), v48 = .bool x48_12 ∧ Aside0 (laws_FnExactGapRead.j0 kq a1 a2 t148 t151 t158 t161 x48_12 l0_0 a0_1 a0_2 t152 t155 t156 = some r) ∧ Aside0 (kq ≤ k) ∧ Aside0 (Kd.R (Kd.int .i32) 21 wc w.heap.size (fun k_ => some k_ ≠ (v159 : Value).ownBlock ∧ some k_ ≠ ((.slice Ao24 t152.length co24) : Value).ownBlock) v149 t148) ∧ Aside0 (Kd.R (Kd.int .i32) 21 wc w.heap.size (fun k_ => some k_ ≠ (v149 : Value).ownBlock ∧ some k_ ≠ ((.slice Ao24 t152.length co24) : Value).ownBlock) v159 t158) ∧ Aside0 (Kd.R (Kd.int .i32) 21 wc w.heap.size (fun k_ => some k_ ≠ (v149 : Value).ownBlock ∧ some k_ ≠ (v159 : Value).ownBlock) (.slice Ao24 t152.length co24) t152) ∧ Aside0 (wc.heap[gb141]? = some (.cells #[(.slice A0_0 l0_0.length c0_0), .int .i64 a0_1, .int .i64 a0_2] 24 (0, 0))) ∧ Aside0 (wc.heap[gb157]? = some (.cells #[(.slice Ao24 t152.length co24), .int .i64 t155, .int .i64 t156] 28 (0, 0))) ∧ Aside0 (Below w.heap.size w wc))
    case first =>
      have H := HC13.out
      clear HC13
      replace H := Option.bind_eq_some_iff.mp H
      obtain ⟨t162, A280, H⟩ := H
      replace H : (if t162 = true then (laws_FnExactGapRead.j0 k a1 a2 t148 t151 t158 t161 (t161 != t151) l0_0 a0_1 a0_2 t152 t155 t156) else (laws_FnExactGapRead.j0 k a1 a2 t148 t151 t158 t161 true l0_0 a0_1 a0_2 t152 t155 t156)) = some r := H
      have A28 := Aside0.mk A280
      clear A280
      by_cases c29 : t162 = true
      · subst c29
        have H1 : (laws_FnExactGapRead.j0 k a1 a2 t148 t151 t158 t161 (t161 != t151) l0_0 a0_1 a0_2 t152 t155 t156) = some r := by rw [if_pos rfl] at H; exact H
        clear H
        have H := H1
        clear H1
        have H' := Aside0.mk H
        clear H
        obtain ⟨Ao30, co30, eo30⟩ := Kd.R_slice HO160.out
        subst eo30
        obtain ⟨Ao31, co31, eo31⟩ := Kd.R_slice HO150.out
        subst eo31
        go_wp2_with (first | ((with_reducible refine gate_callee (f := 14) rfl ?_); refine goesL_ (some 42) rfl rfl Tryd.func14 (by kernel_rfl) rfl #[.slice Ao30 t158.length co30, .slice Ao31 t148.length co31] rfl (by (try simp only [List.map_toArray, List.map_cons, List.map_nil]); first | done | rfl | (simp only [List.length_drop, List.length_take]; rfl)) ?_; (with_reducible refine (laws_eqInt32S.calls k _ _ t158 _ _ t148 true _ ?side1 ?side2 ?side3 ?side4 A28.out).mono ?_); (case side1 => repeat (first | exact (Kd.R_reads' HO160.out).2.2 | (with_reducible refine Kd.C_alloc ?_ _) | (with_reducible refine Kd.C_drewN ?_ _) | (with_reducible refine Kd.C_drew ?_))); (case side2 => exact (Kd.R_reads' HO160.out).2.1); (case side3 => repeat (first | exact (Kd.R_reads' HO150.out).2.2 | (with_reducible refine Kd.C_alloc ?_ _) | (with_reducible refine Kd.C_drewN ?_ _) | (with_reducible refine Kd.C_drew ?_))); (case side4 => exact (Kd.R_reads' HO150.out).2.1); rintro e w' ⟨rfl, ⟨nd, rfl⟩⟩; refine ⟨_, rfl, ?_⟩))
        go_meet
        case rel => exact ⟨_, ((t161 != t151)), (by first | rfl | (simp; done) | (simp [*]; done)), H', ⟨by first | omega | exact Nat.le_refl _⟩, ⟨by (with_reducible repeat (first | apply Kd.R_alloc | apply Kd.R_drewN | apply Kd.R_drew)); exact Kd.R_mono HO150.out (fun _ hk => ⟨hk.2, hk.1.2⟩)⟩, ⟨by (with_reducible repeat (first | apply Kd.R_alloc | apply Kd.R_drewN | apply Kd.R_drew)); exact Kd.R_mono HO160.out (fun _ hk => ⟨hk.1.2, hk.2⟩)⟩, ⟨by (with_reducible repeat (first | apply Kd.R_alloc | apply Kd.R_drewN | apply Kd.R_drew)); exact Kd.R_mono HO154.out (fun _ hk => ⟨hk.1.2, hk.2⟩)⟩, ⟨by (with_reducible repeat (first | refine blk_drewN ?_ _ | refine blk_drew ?_ | refine blk_alloc ?_ _)); exact BK141.out⟩, ⟨by (with_reducible repeat (first | refine blk_drewN ?_ _ | refine blk_drew ?_ | refine blk_alloc ?_ _)); exact BK157.out⟩, ⟨by repeat (first | (with_reducible first | exact HB.out | apply below_alloc | apply pw_below_drewN | apply below_drew1 | refine below_set ?_ GE141.out | refine below_set ?_ GE157.out) | exact HB.out)⟩⟩
      · replace c29 := Bool.eq_false_iff.mpr c29
        subst c29
        have H1 : (laws_FnExactGapRead.j0 k a1 a2 t148 t151 t158 t161 true l0_0 a0_1 a0_2 t152 t155 t156) = some r := by rw [if_neg (show ¬ (false = true) by decide)] at H; exact H
        clear H
        have H := H1
        clear H1
        have H' := Aside0.mk H
        clear H
        obtain ⟨Ao32, co32, eo32⟩ := Kd.R_slice HO160.out
        subst eo32
        obtain ⟨Ao33, co33, eo33⟩ := Kd.R_slice HO150.out
        subst eo33
        go_wp2_with (first | ((with_reducible refine gate_callee (f := 14) rfl ?_); refine goesL_ (some 42) rfl rfl Tryd.func14 (by kernel_rfl) rfl #[.slice Ao32 t158.length co32, .slice Ao33 t148.length co33] rfl (by (try simp only [List.map_toArray, List.map_cons, List.map_nil]); first | done | rfl | (simp only [List.length_drop, List.length_take]; rfl)) ?_; (with_reducible refine (laws_eqInt32S.calls k _ _ t158 _ _ t148 false _ ?side1 ?side2 ?side3 ?side4 A28.out).mono ?_); (case side1 => repeat (first | exact (Kd.R_reads' HO160.out).2.2 | (with_reducible refine Kd.C_alloc ?_ _) | (with_reducible refine Kd.C_drewN ?_ _) | (with_reducible refine Kd.C_drew ?_))); (case side2 => exact (Kd.R_reads' HO160.out).2.1); (case side3 => repeat (first | exact (Kd.R_reads' HO150.out).2.2 | (with_reducible refine Kd.C_alloc ?_ _) | (with_reducible refine Kd.C_drewN ?_ _) | (with_reducible refine Kd.C_drew ?_))); (case side4 => exact (Kd.R_reads' HO150.out).2.1); rintro e w' ⟨rfl, ⟨nd, rfl⟩⟩; refine ⟨_, rfl, ?_⟩))
        go_meet
        case rel => exact ⟨_, (true), (by first | rfl | (simp; done) | (simp [*]; done)), H', ⟨by first | omega | exact Nat.le_refl _⟩, ⟨by (with_reducible repeat (first | apply Kd.R_alloc | apply Kd.R_drewN | apply Kd.R_drew)); exact Kd.R_mono HO150.out (fun _ hk => ⟨hk.2, hk.1.2⟩)⟩, ⟨by (with_reducible repeat (first | apply Kd.R_alloc | apply Kd.R_drewN | apply Kd.R_drew)); exact Kd.R_mono HO160.out (fun _ hk => ⟨hk.1.2, hk.2⟩)⟩, ⟨by (with_reducible repeat (first | apply Kd.R_alloc | apply Kd.R_drewN | apply Kd.R_drew)); exact Kd.R_mono HO154.out (fun _ hk => ⟨hk.1.2, hk.2⟩)⟩, ⟨by (with_reducible repeat (first | refine blk_drewN ?_ _ | refine blk_drew ?_ | refine blk_alloc ?_ _)); exact BK141.out⟩, ⟨by (with_reducible repeat (first | refine blk_drewN ?_ _ | refine blk_drew ?_ | refine blk_alloc ?_ _)); exact BK157.out⟩, ⟨by repeat (first | (with_reducible first | exact HB.out | apply below_alloc | apply pw_below_drewN | apply below_drew1 | refine below_set ?_ GE141.out | refine below_set ?_ GE157.out) | exact HB.out)⟩⟩
    case rest =>
      clear HC13
      try clear c1
      try clear c2
      try clear p2
      try clear c3
      try clear c5
      try clear c5b0
      try clear c10
      try clear c11
      try clear c12
      try clear c13
      try clear c14
      try clear c25
      try clear c29
      try clear hcz15_0
      try clear hcz15_1
      try clear hcz15_2
      try clear hcz17_0
      try clear hcz17_1
      try clear hcz17_2
      try clear hcz21_0
      try clear hcz21_1
      try clear hcz21_2
      try clear hcz26_0
      try clear hcz26_1
      try clear hcz26_2
      try clear hcz7_0
      try clear hcz7_1
      try clear hcz7_2
      try clear hfz15_0
      try clear hfz15_1
      try clear hfz15_2
      try clear hfz17_0
      try clear hfz17_1
      try clear hfz17_2
      try clear hfz21_0
      try clear hfz21_1
      try clear hfz21_2
      try clear hfz26_0
      try clear hfz26_1
      try clear hfz26_2
      try clear hfz7_0
      try clear hfz7_1
      try clear hfz7_2
      obtain ⟨kq, x48_12, rfl, HA, HJ12, HO_8, HO_11, HO_158000, BK141, BK157, HB⟩ := hcut
      cases kq with
      | zero => exact absurd HA.out (by simp [laws_FnExactGapRead.j0])
      | succ kj12 =>
        have H := HA.out
        clear HA
        simp only [laws_FnExactGapRead.j0] at H
        by_cases c34 : x48_12 = true
        · subst c34
          have H1 : (some false) = some r := by rw [if_pos rfl] at H; exact H
          clear H
          have H := H1
          clear H1
          obtain rfl := Option.some.inj H
          go_wp2
          go_ret
          exact ⟨by first | rfl | (simp [errW_none, errW_some] <;> rfl) | (simp [*, errW_none, errW_some] <;> rfl), by repeat (first | (with_reducible first | exact HB.out | apply below_alloc | apply pw_below_drewN | apply below_drew1 | refine below_set ?_ GE141.out | refine below_set ?_ GE157.out) | exact HB.out)⟩
        · replace c34 := Bool.eq_false_iff.mpr c34
          subst c34
          have H1 : ((laws_toGap.f kj12 l0_0 a0_1 a0_2).bind fun bt163 => ((laws_eqGap.f kj12 t152 t155 t156 bt163.1 bt163.2.1 bt163.2.2).bind fun t168 => (if t168 = true then ((laws_markGap.f kj12 t152 t155 t156 1).bind fun bt169 => (if bt169.1 < 0 then (laws_FnExactGapRead.j1 kj12 a1 a2 t148 t151 t158 true l0_0 a0_1 a0_2) else ((laws_eqInt32S.f kj12 t158 t148).bind fun t171 => (if t171 = true then (laws_FnExactGapRead.j1 kj12 a1 a2 t148 t151 t158 (t161 != t151) l0_0 a0_1 a0_2) else (laws_FnExactGapRead.j1 kj12 a1 a2 t148 t151 t158 true l0_0 a0_1 a0_2))))) else (some false)))) = some r := by rw [if_neg (show ¬ (false = true) by decide)] at H; exact H
          clear H
          have H := H1
          clear H1
          replace H := Option.bind_eq_some_iff.mp H
          obtain ⟨⟨t163, t166, t167⟩, A350, H⟩ := H
          replace H : ((laws_eqGap.f kj12 t152 t155 t156 t163 t166 t167).bind fun t168 => (if t168 = true then ((laws_markGap.f kj12 t152 t155 t156 1).bind fun bt169 => (if bt169.1 < 0 then (laws_FnExactGapRead.j1 kj12 a1 a2 t148 t151 t158 true l0_0 a0_1 a0_2) else ((laws_eqInt32S.f kj12 t158 t148).bind fun t171 => (if t171 = true then (laws_FnExactGapRead.j1 kj12 a1 a2 t148 t151 t158 (t161 != t151) l0_0 a0_1 a0_2) else (laws_FnExactGapRead.j1 kj12 a1 a2 t148 t151 t158 true l0_0 a0_1 a0_2))))) else (some false))) = some r := H
          have A35 := Aside0.mk A350
          clear A350
          replace H := Option.bind_eq_some_iff.mp H
          obtain ⟨t168, A360, H⟩ := H
          replace H : (if t168 = true then ((laws_markGap.f kj12 t152 t155 t156 1).bind fun bt169 => (if bt169.1 < 0 then (laws_FnExactGapRead.j1 kj12 a1 a2 t148 t151 t158 true l0_0 a0_1 a0_2) else ((laws_eqInt32S.f kj12 t158 t148).bind fun t171 => (if t171 = true then (laws_FnExactGapRead.j1 kj12 a1 a2 t148 t151 t158 (t161 != t151) l0_0 a0_1 a0_2) else (laws_FnExactGapRead.j1 kj12 a1 a2 t148 t151 t158 true l0_0 a0_1 a0_2))))) else (some false)) = some r := H
          have A36 := Aside0.mk A360
          clear A360
          by_cases c37 : t168 = true
          · subst c37
            have H1 : ((laws_markGap.f kj12 t152 t155 t156 1).bind fun bt169 => (if bt169.1 < 0 then (laws_FnExactGapRead.j1 kj12 a1 a2 t148 t151 t158 true l0_0 a0_1 a0_2) else ((laws_eqInt32S.f kj12 t158 t148).bind fun t171 => (if t171 = true then (laws_FnExactGapRead.j1 kj12 a1 a2 t148 t151 t158 (t161 != t151) l0_0 a0_1 a0_2) else (laws_FnExactGapRead.j1 kj12 a1 a2 t148 t151 t158 true l0_0 a0_1 a0_2))))) = some r := by rw [if_pos rfl] at H; exact H
            clear H
            have H := H1
            clear H1
            replace H := Option.bind_eq_some_iff.mp H
            obtain ⟨⟨t169, t170⟩, A380, H⟩ := H
            replace H : (if t169 < 0 then (laws_FnExactGapRead.j1 kj12 a1 a2 t148 t151 t158 true l0_0 a0_1 a0_2) else ((laws_eqInt32S.f kj12 t158 t148).bind fun t171 => (if t171 = true then (laws_FnExactGapRead.j1 kj12 a1 a2 t148 t151 t158 (t161 != t151) l0_0 a0_1 a0_2) else (laws_FnExactGapRead.j1 kj12 a1 a2 t148 t151 t158 true l0_0 a0_1 a0_2)))) = some r := H
            have A38 := Aside0.mk A380
            clear A380
            have HC39 := Aside0.mk H
            clear H
            try go_wp2
            have n0_ := Aside0.mk (Kd.R_drew HO_8.out)
            have n1_ := Aside0.mk (Kd.R_drew HO_11.out)
            have n2_ := Aside0.mk (Kd.R_drew HO_158000.out)
            have n3_ := Aside0.mk (blk_drew BK141.out)
            have n4_ := Aside0.mk (blk_drew BK157.out)
            have n5_ := Aside0.mk (below_drew1 HB.out)
            clear HO_8
            clear HO_11
            clear HO_158000
            clear BK141
            clear BK157
            clear HB
            have HO_8 := n0_
            have HO_11 := n1_
            have HO_158000 := n2_
            have BK141 := n3_
            have BK157 := n4_
            have HB := n5_
            clear n0_ n1_ n2_ n3_ n4_ n5_
            refine start_ (n := 5) (S := fun w' => w'.cell? ⟨gb157, 0, none⟩ = some (.slice Ao24 t152.length co24) ∧ w'.cell? ⟨gb157, 1, none⟩ = some (.int .i64 t155) ∧ w'.cell? ⟨gb157, 2, none⟩ = some (.int .i64 t156) ∧ w'.cell? ⟨gb141, 0, none⟩ = some (.slice A0_0 l0_0.length c0_0) ∧ w'.cell? ⟨gb141, 1, none⟩ = some (.int .i64 a0_1) ∧ w'.cell? ⟨gb141, 2, none⟩ = some (.int .i64 a0_2)) (ds := []) #[false, false, false, false, false] (by kernel_rfl) rfl rfl ⟨(blk_cell BK157.out 0).trans rfl, (blk_cell BK157.out 1).trans rfl, (blk_cell BK157.out 2).trans rfl, (blk_cell BK141.out 0).trans rfl, (blk_cell BK141.out 1).trans rfl, (blk_cell BK141.out 2).trans rfl⟩ (fun hHeld => ?_)
            generalize wc.drew = w40 at HO_8 HO_11 HO_158000 BK141 BK157 HB hHeld ⊢
            refine take_ (i := 0) (N := some 49) (v := ?_) (a' := ?_) #[true, false, false, false, false] rfl rfl (by kernel_rfl) (fun _ _ _ h => h) (Or.inl ⟨by rfl, ?_⟩) hHeld ?_ ?_
            rotate_left
            · rintro w' ⟨s0, s1, s2, s3, s4, s5⟩
              go_simp
              with_reducible rfl
            rotate_left
            · simp only [Act.put, List.setIfInBounds_toArray, List.set_cons_zero, List.set_cons_succ, i64_w, i32_w]
              rfl
            refine take_ (i := 1) (N := some 50) (v := ?_) (a' := ?_) #[true, true, false, false, false] rfl rfl (by kernel_rfl) (fun _ _ _ h => h) (Or.inl ⟨by rfl, ?_⟩) hHeld ?_ ?_
            rotate_left
            · rintro w' ⟨s0, s1, s2, s3, s4, s5⟩
              go_simp
              with_reducible rfl
            rotate_left
            · simp only [Act.put, List.setIfInBounds_toArray, List.set_cons_zero, List.set_cons_succ, i64_w, i32_w]
              rfl
            refine one_ (i := 2) (N := some 51) #[true, true, true, false, false] rfl rfl (by kernel_rfl) (by decide) (fun K hK => ?_)
            refine goes_ Tryd.func12 (by kernel_rfl) rfl #[.agg #[.slice A0_0 l0_0.length c0_0, .int .i64 a0_1, .int .i64 a0_2]] (by rfl) rfl rfl (by (try simp only [List.map_toArray, List.map_cons, List.map_nil]); first | done | rfl | (simp only [List.length_drop, List.length_take]; rfl)) ?_
            with_reducible refine (laws_toGap.calls kj12 _ _ l0_0 a0_1 a0_2 t163 t166 t167 _ ?side1 ?side2 A35.out).mono ?_
            (case side1 => repeat (first | exact (Kd.C_below HR0_0.out HB.out) | (with_reducible refine Kd.C_alloc ?_ _) | (with_reducible refine Kd.C_drewN ?_ _) | (with_reducible refine Kd.C_drew ?_)))
            (case side2 => exact HC0_0.out)
            rintro e w41 ⟨v164, rfl, ho0, hb⟩
            refine ⟨_, rfl, ?_⟩
            have n0_ := Aside0.mk (Kd.R_elder' (by (with_reducible repeat (first | apply Kd.R_alloc | apply Kd.R_drewN | apply Kd.R_drew)); exact HO_8.out) (Kd.R_base ho0) hb)
            have n1_ := Aside0.mk (Kd.R_elder' (by (with_reducible repeat (first | apply Kd.R_alloc | apply Kd.R_drewN | apply Kd.R_drew)); exact HO_11.out) (Kd.R_base ho0) hb)
            have n2_ := Aside0.mk (Kd.R_elder' (by (with_reducible repeat (first | apply Kd.R_alloc | apply Kd.R_drewN | apply Kd.R_drew)); exact HO_158000.out) (Kd.R_base ho0) hb)
            have n3_ := Aside0.mk (Kd.R_lower (Kd.R_new' (Kd.R_new' (Kd.R_new' ho0 (Kd.R_lt (by (with_reducible repeat (first | apply Kd.R_alloc | apply Kd.R_drewN | apply Kd.R_drew)); exact HO_8.out))) (Kd.R_lt (by (with_reducible repeat (first | apply Kd.R_alloc | apply Kd.R_drewN | apply Kd.R_drew)); exact HO_11.out))) (Kd.R_lt (by (with_reducible repeat (first | apply Kd.R_alloc | apply Kd.R_drewN | apply Kd.R_drew)); exact HO_158000.out))) (below_size (by repeat (first | (with_reducible first | exact HB.out | apply below_alloc | apply pw_below_drewN | apply below_drew1 | refine below_set ?_ GE141.out | refine below_set ?_ GE157.out) | exact HB.out))))
            have n4_ := Aside0.mk (blk_below (g := gb141) (o := .cells #[.slice A0_0 l0_0.length c0_0, .int .i64 a0_1, .int .i64 a0_2] 24 (0, 0)) (by (with_reducible repeat (first | refine blk_drewN ?_ _ | refine blk_drew ?_ | refine blk_alloc ?_ _)); exact BK141.out) hb)
            have n5_ := Aside0.mk (blk_below (g := gb157) (o := .cells #[.slice Ao24 t152.length co24, .int .i64 t155, .int .i64 t156] 28 (0, 0)) (by (with_reducible repeat (first | refine blk_drewN ?_ _ | refine blk_drew ?_ | refine blk_alloc ?_ _)); exact BK157.out) hb)
            have n6_ := Aside0.mk (below_step (by repeat (first | (with_reducible first | exact HB.out | apply below_alloc | apply pw_below_drewN | apply below_drew1 | refine below_set ?_ GE141.out | refine below_set ?_ GE157.out) | exact HB.out)) hb)
            clear HO_8
            clear HO_11
            clear HO_158000
            clear BK141
            clear BK157
            clear HB
            have HO_8 := n0_
            have HO_11 := n1_
            have HO_158000 := n2_
            have HO165 := n3_
            have BK141 := n4_
            have BK157 := n5_
            have HB := n6_
            clear n0_ n1_ n2_ n3_ n4_ n5_ n6_
            (try clear hb)
            (try clear hb2)
            (try clear hk)
            (try clear hi)
            (try clear ho0)
            obtain ⟨Ao42, co42, eo42⟩ := Kd.R_slice HO165.out
            (first | subst eo42 | (injection eo42 with f1_ f2_ f3_; have f4_ := f1_.symm; have f5_ := f3_.symm; clear f1_ f2_ f3_; subst f4_; subst f5_))
            refine hK.out _ _ ⟨(blk_cell BK157.out 0).trans rfl, (blk_cell BK157.out 1).trans rfl, (blk_cell BK157.out 2).trans rfl, (blk_cell BK141.out 0).trans rfl, (blk_cell BK141.out 1).trans rfl, (blk_cell BK141.out 2).trans rfl⟩ (fun hHeld => ?_)
            clear hK K
            refine norm_ (a' := ?_) ?_ ?_
            rotate_left
            · show Act.put _ (some 51) _ = _
              simp only [Act.put, List.setIfInBounds_toArray, List.set_cons_zero, List.set_cons_succ, i64_w, i32_w]
              rfl
            refine one_ (i := 3) (N := some 52) #[true, true, true, true, false] rfl rfl (by kernel_rfl) (by decide) (fun K hK => ?_)
            refine goes_ Tryd.func15 (by kernel_rfl) rfl #[.agg #[.slice Ao24 t152.length co24, .int .i64 t155, .int .i64 t156], .agg #[.slice Ao42 t163.length co42, .int .i64 t166, .int .i64 t167]] (by rfl) rfl rfl (by (try simp only [List.map_toArray, List.map_cons, List.map_nil]); first | done | rfl | (simp only [List.length_drop, List.length_take]; rfl)) ?_
            with_reducible refine (laws_eqGap.calls kj12 _ _ t152 t155 t156 _ _ t163 t166 t167 true _ ?side1 ?side2 ?side3 ?side4 A36.out).mono ?_
            (case side1 => repeat (first | exact (Kd.R_reads' HO_158000.out).2.2 | (with_reducible refine Kd.C_alloc ?_ _) | (with_reducible refine Kd.C_drewN ?_ _) | (with_reducible refine Kd.C_drew ?_)))
            (case side2 => exact (Kd.R_reads' HO_158000.out).2.1)
            (case side3 => repeat (first | exact (Kd.R_reads' HO165.out).2.2 | (with_reducible refine Kd.C_alloc ?_ _) | (with_reducible refine Kd.C_drewN ?_ _) | (with_reducible refine Kd.C_drew ?_)))
            (case side4 => exact (Kd.R_reads' HO165.out).2.1)
            rintro e w43 ⟨rfl, hb⟩
            refine ⟨_, rfl, ?_⟩
            have n0_ := Aside0.mk (Kd.R_below (by (with_reducible repeat (first | apply Kd.R_alloc | apply Kd.R_drewN | apply Kd.R_drew)); exact HO_8.out) hb)
            have n1_ := Aside0.mk (Kd.R_below (by (with_reducible repeat (first | apply Kd.R_alloc | apply Kd.R_drewN | apply Kd.R_drew)); exact HO_11.out) hb)
            have n2_ := Aside0.mk (Kd.R_below (by (with_reducible repeat (first | apply Kd.R_alloc | apply Kd.R_drewN | apply Kd.R_drew)); exact HO_158000.out) hb)
            have n3_ := Aside0.mk (Kd.R_below (by (with_reducible repeat (first | apply Kd.R_alloc | apply Kd.R_drewN | apply Kd.R_drew)); exact HO165.out) hb)
            have n4_ := Aside0.mk (blk_below (g := gb141) (o := .cells #[.slice A0_0 l0_0.length c0_0, .int .i64 a0_1, .int .i64 a0_2] 24 (0, 0)) (by (with_reducible repeat (first | refine blk_drewN ?_ _ | refine blk_drew ?_ | refine blk_alloc ?_ _)); exact BK141.out) hb)
            have n5_ := Aside0.mk (blk_below (g := gb157) (o := .cells #[.slice Ao24 t152.length co24, .int .i64 t155, .int .i64 t156] 28 (0, 0)) (by (with_reducible repeat (first | refine blk_drewN ?_ _ | refine blk_drew ?_ | refine blk_alloc ?_ _)); exact BK157.out) hb)
            have n6_ := Aside0.mk (below_step (by repeat (first | (with_reducible first | exact HB.out | apply below_alloc | apply pw_below_drewN | apply below_drew1 | refine below_set ?_ GE141.out | refine below_set ?_ GE157.out) | exact HB.out)) hb)
            clear HO_8
            clear HO_11
            clear HO_158000
            clear HO165
            clear BK141
            clear BK157
            clear HB
            have HO_8 := n0_
            have HO_11 := n1_
            have HO_158000 := n2_
            have HO165 := n3_
            have BK141 := n4_
            have BK157 := n5_
            have HB := n6_
            clear n0_ n1_ n2_ n3_ n4_ n5_ n6_
            (try clear hb)
            (try clear hb2)
            (try clear hk)
            (try clear hi)
            refine hK.out _ _ ⟨(blk_cell BK157.out 0).trans rfl, (blk_cell BK157.out 1).trans rfl, (blk_cell BK157.out 2).trans rfl, (blk_cell BK141.out 0).trans rfl, (blk_cell BK141.out 1).trans rfl, (blk_cell BK141.out 2).trans rfl⟩ (fun hHeld => ?_)
            clear hK K
            refine norm_ (a' := ?_) ?_ ?_
            rotate_left
            · show Act.put _ (some 52) _ = _
              simp only [Act.put, List.setIfInBounds_toArray, List.set_cons_zero, List.set_cons_succ, i64_w, i32_w]
              rfl
            refine pure_ (i := 4) (N := some 53) (v := ?_) (a' := ?_) #[true, true, true, true, true] rfl rfl (by kernel_rfl) (fun _ _ _ h => h) (Or.inl ⟨by rfl, ?_⟩) ?_ ?_
            rotate_left
            · intro w'
              go_simp
              with_reducible rfl
            rotate_left
            · simp only [Act.put, List.setIfInBounds_toArray, List.set_cons_zero, List.set_cons_succ, i64_w, i32_w]
              rfl
            refine done_ (by kernel_rfl) ?_
            have hnb44 := NB157_141.out
            have hnc44 := NB141_157.out
            have hcz45_0 : w43.cell? ⟨gb157, 0, none⟩ = some (.slice Ao24 t152.length co24) := (blk_cell BK157.out 0).trans rfl
            have hcz45_1 : w43.cell? ⟨gb157, 1, none⟩ = some (.int .i64 t155) := (blk_cell BK157.out 1).trans rfl
            have hcz45_2 : w43.cell? ⟨gb157, 2, none⟩ = some (.int .i64 t156) := (blk_cell BK157.out 2).trans rfl
            have hfz45_0 := blk_frozen BK157.out 0
            have hfz45_1 := blk_frozen BK157.out 1
            have hfz45_2 := blk_frozen BK157.out 2
            go_upto_region 14 with (first | ((with_reducible refine gate_callee (f := 16) rfl ?_); refine goesL_ (some 56) rfl rfl Tryd.func16 (by kernel_rfl) rfl #[.agg #[.slice Ao24 t152.length co24, .int .i64 t155, .int .i64 t156], .int .i64 1] rfl (by (try simp only [List.map_toArray, List.map_cons, List.map_nil]); first | done | rfl | (simp only [List.length_drop, List.length_take]; rfl)) ?_; (with_reducible refine (laws_markGap.calls kj12 (fun k_ => some k_ = (.slice Ao24 t152.length co24 : Value).ownBlock) (.slice Ao24 t152.length co24) t152 t155 t156 1 t169 t170 w _ ?side1 ?side2 A38.out).mono ?_); (case side1 => repeat (first | (with_reducible first | exact HB.out | apply below_alloc | apply pw_below_drewN | apply below_drew1 | refine below_set ?_ GE141.out | refine below_set ?_ GE157.out) | exact HB.out)); (case side2 => exact Kd.R_tight rfl HO_158000.out); rintro e w46 ⟨rfl, hy0, hb, hkp⟩; refine ⟨_, rfl, ?_⟩; have n0_ := Aside0.mk (Kd.R_mono (ok' := fun k_ => some k_ ≠ (v159 : Value).ownBlock ∧ some k_ ≠ (.slice Ao24 t152.length co24 : Value).ownBlock ∧ some k_ ≠ (.slice Ao42 t163.length co42 : Value).ownBlock) (Kd.R_keptB (HO_8.out) hkp (fun k_ hk_ hs_ => (hk_.1.2) hs_)) (fun k_ hk_ => ⟨hk_.1.1.1, hk_.1.1.2, hk_.1.2⟩)); have n1_ := Aside0.mk (Kd.R_mono (ok' := fun k_ => some k_ ≠ (v149 : Value).ownBlock ∧ some k_ ≠ (.slice Ao24 t152.length co24 : Value).ownBlock ∧ some k_ ≠ (.slice Ao42 t163.length co42 : Value).ownBlock) (Kd.R_keptB (HO_11.out) hkp (fun k_ hk_ hs_ => (hk_.1.2) hs_)) (fun k_ hk_ => ⟨hk_.1.1.1, hk_.1.1.2, hk_.1.2⟩)); have n2_ := Aside0.mk (Kd.R_reok rfl hy0 (fun k_ e_ => HO_158000.out.1 k_ e_)); have n3_ := Aside0.mk (blk_kept (by (with_reducible repeat (first | refine blk_drewN ?_ _ | refine blk_drew ?_ | refine blk_alloc ?_ _)); exact BK141.out) hkp (fun hs_ => (fun e_ => (Kd.R_ne HO_158000.out BK141.out (by decide)) e_) hs_)); have n4_ := Aside0.mk (blk_kept (by (with_reducible repeat (first | refine blk_drewN ?_ _ | refine blk_drew ?_ | refine blk_alloc ?_ _)); exact BK157.out) hkp (fun hs_ => (fun e_ => (Kd.R_ne HO_158000.out BK157.out (by decide)) e_) hs_)); have n5_ := Aside0.mk (Kd.R_mono (ok' := fun k_ => some k_ ≠ (v149 : Value).ownBlock ∧ some k_ ≠ (v159 : Value).ownBlock ∧ some k_ ≠ (.slice Ao24 t152.length co24 : Value).ownBlock) (Kd.R_keptB (HO165.out) hkp (fun k_ hk_ hs_ => (hk_.2) hs_)) (fun k_ hk_ => ⟨hk_.1.1.1.2, hk_.1.1.2, hk_.1.2⟩)); have n6_ := Aside0.mk (hb); clear HO_8; clear HO_11; clear HO_158000; clear BK141; clear BK157; clear HO165; clear HB; have HO_8 := n0_; have HO_11 := n1_; have HO_158000 := n2_; have BK141 := n3_; have BK157 := n4_; have HO165 := n5_; have HB := n6_; clear n0_ n1_ n2_ n3_ n4_ n5_ n6_; (try clear hb); (try clear hkp); (try clear hy0)))
            (try simp only [Act.put, List.setIfInBounds_toArray, List.set_cons_zero, List.set_cons_succ])
            go_cut [69] (fun v69 wc => ∃ (kq : Nat) (x69_38 : Bool), v69 = .bool x69_38 ∧ Aside0 (laws_FnExactGapRead.j1 kq a1 a2 t148 t151 t158 x69_38 l0_0 a0_1 a0_2 = some r) ∧ Aside0 (kq ≤ kj12) ∧ Aside0 (Kd.R (Kd.int .i32) 21 wc w.heap.size (fun k_ => some k_ ≠ (v159 : Value).ownBlock ∧ some k_ ≠ ((.slice Ao24 t152.length co24) : Value).ownBlock) v149 t148) ∧ Aside0 (Kd.R (Kd.int .i32) 21 wc w.heap.size (fun k_ => some k_ ≠ (v149 : Value).ownBlock ∧ some k_ ≠ ((.slice Ao24 t152.length co24) : Value).ownBlock) v159 t158) ∧ Aside0 (Kd.R (Kd.int .i32) 21 wc w.heap.size (fun k_ => some k_ ≠ (v149 : Value).ownBlock ∧ some k_ ≠ (v159 : Value).ownBlock) (.slice Ao24 t152.length co24) t170) ∧ Aside0 (wc.heap[gb141]? = some (.cells #[(.slice A0_0 l0_0.length c0_0), .int .i64 a0_1, .int .i64 a0_2] 24 (0, 0))) ∧ Aside0 (wc.heap[gb157]? = some (.cells #[(.slice Ao24 t152.length co24), .int .i64 t155, .int .i64 t156] 28 (0, 0))) ∧ Aside0 (Below w.heap.size w wc))
            case first =>
              have H := HC39.out
              clear HC39
              by_cases c47 : t169 < 0
              · rw [if_pos c47] at H
                have c47b0 : decide (t169 < 0) = true := decide_eq_true c47
                clear c47
                (first | rw [c47b0] | (simp only [i64_w, i32_w]; rw [c47b0]) | skip)
                have H' := Aside0.mk H
                clear H
                go_wp2
                go_meet
                case rel => exact ⟨_, (true), (by first | rfl | (simp; done) | (simp [*]; done)), H', ⟨by have := HJ12.out; first | omega | exact Nat.le_refl _⟩, ⟨by (with_reducible repeat (first | apply Kd.R_alloc | apply Kd.R_drewN | apply Kd.R_drew)); exact Kd.R_mono HO_8.out (fun _ hk => ⟨hk.1, hk.2.1⟩)⟩, ⟨by (with_reducible repeat (first | apply Kd.R_alloc | apply Kd.R_drewN | apply Kd.R_drew)); exact Kd.R_mono HO_11.out (fun _ hk => ⟨hk.1, hk.2.1⟩)⟩, ⟨by (with_reducible repeat (first | apply Kd.R_alloc | apply Kd.R_drewN | apply Kd.R_drew)); exact Kd.R_mono HO_158000.out (fun _ hk => ⟨hk.1.1, hk.1.2⟩)⟩, ⟨by (with_reducible repeat (first | refine blk_drewN ?_ _ | refine blk_drew ?_ | refine blk_alloc ?_ _)); exact BK141.out⟩, ⟨by (with_reducible repeat (first | refine blk_drewN ?_ _ | refine blk_drew ?_ | refine blk_alloc ?_ _)); exact BK157.out⟩, ⟨by repeat (first | (with_reducible first | exact HB.out | apply below_alloc | apply pw_below_drewN | apply below_drew1 | refine below_set ?_ GE141.out | refine below_set ?_ GE157.out) | exact HB.out)⟩⟩
              · rw [if_neg c47] at H
                have c47b0 : decide (t169 < 0) = false := decide_eq_false c47
                clear c47
                (first | rw [c47b0] | (simp only [i64_w, i32_w]; rw [c47b0]) | skip)
                replace H := Option.bind_eq_some_iff.mp H
                obtain ⟨t171, A480, H⟩ := H
                replace H : (if t171 = true then (laws_FnExactGapRead.j1 kj12 a1 a2 t148 t151 t158 (t161 != t151) l0_0 a0_1 a0_2) else (laws_FnExactGapRead.j1 kj12 a1 a2 t148 t151 t158 true l0_0 a0_1 a0_2)) = some r := H
                have A48 := Aside0.mk A480
                clear A480
                by_cases c49 : t171 = true
                · subst c49
                  have H1 : (laws_FnExactGapRead.j1 kj12 a1 a2 t148 t151 t158 (t161 != t151) l0_0 a0_1 a0_2) = some r := by rw [if_pos rfl] at H; exact H
                  clear H
                  have H := H1
                  clear H1
                  have H' := Aside0.mk H
                  clear H
                  obtain ⟨Ao50, co50, eo50⟩ := Kd.R_slice HO_11.out
                  subst eo50
                  obtain ⟨Ao51, co51, eo51⟩ := Kd.R_slice HO_8.out
                  subst eo51
                  go_wp2_with (first | (go_at_call 14; (with_reducible refine (laws_eqInt32S.calls kj12 _ _ t158 _ _ t148 true _ ?side1 ?side2 ?side3 ?side4 A48.out).mono ?_); (case side1 => repeat (first | exact (Kd.R_reads' HO_11.out).2.2 | (with_reducible refine Kd.C_alloc ?_ _) | (with_reducible refine Kd.C_drewN ?_ _) | (with_reducible refine Kd.C_drew ?_))); (case side2 => exact (Kd.R_reads' HO_11.out).2.1); (case side3 => repeat (first | exact (Kd.R_reads' HO_8.out).2.2 | (with_reducible refine Kd.C_alloc ?_ _) | (with_reducible refine Kd.C_drewN ?_ _) | (with_reducible refine Kd.C_drew ?_))); (case side4 => exact (Kd.R_reads' HO_8.out).2.1); rintro e w' ⟨rfl, ⟨nd, rfl⟩⟩))
                  go_meet
                  case rel => exact ⟨_, ((t161 != t151)), (by first | rfl | (simp; done) | (simp [*]; done)), H', ⟨by have := HJ12.out; first | omega | exact Nat.le_refl _⟩, ⟨by (with_reducible repeat (first | apply Kd.R_alloc | apply Kd.R_drewN | apply Kd.R_drew)); exact Kd.R_mono HO_8.out (fun _ hk => ⟨hk.1, hk.2.1⟩)⟩, ⟨by (with_reducible repeat (first | apply Kd.R_alloc | apply Kd.R_drewN | apply Kd.R_drew)); exact Kd.R_mono HO_11.out (fun _ hk => ⟨hk.1, hk.2.1⟩)⟩, ⟨by (with_reducible repeat (first | apply Kd.R_alloc | apply Kd.R_drewN | apply Kd.R_drew)); exact Kd.R_mono HO_158000.out (fun _ hk => ⟨hk.1.1, hk.1.2⟩)⟩, ⟨by (with_reducible repeat (first | refine blk_drewN ?_ _ | refine blk_drew ?_ | refine blk_alloc ?_ _)); exact BK141.out⟩, ⟨by (with_reducible repeat (first | refine blk_drewN ?_ _ | refine blk_drew ?_ | refine blk_alloc ?_ _)); exact BK157.out⟩, ⟨by repeat (first | (with_reducible first | exact HB.out | apply below_alloc | apply pw_below_drewN | apply below_drew1 | refine below_set ?_ GE141.out | refine below_set ?_ GE157.out) | exact HB.out)⟩⟩
                · replace c49 := Bool.eq_false_iff.mpr c49
                  subst c49
                  have H1 : (laws_FnExactGapRead.j1 kj12 a1 a2 t148 t151 t158 true l0_0 a0_1 a0_2) = some r := by rw [if_neg (show ¬ (false = true) by decide)] at H; exact H
                  clear H
                  have H := H1
                  clear H1
                  have H' := Aside0.mk H
                  clear H
                  obtain ⟨Ao52, co52, eo52⟩ := Kd.R_slice HO_11.out
                  subst eo52
                  obtain ⟨Ao53, co53, eo53⟩ := Kd.R_slice HO_8.out
                  subst eo53
                  go_wp2_with (first | (go_at_call 14; (with_reducible refine (laws_eqInt32S.calls kj12 _ _ t158 _ _ t148 false _ ?side1 ?side2 ?side3 ?side4 A48.out).mono ?_); (case side1 => repeat (first | exact (Kd.R_reads' HO_11.out).2.2 | (with_reducible refine Kd.C_alloc ?_ _) | (with_reducible refine Kd.C_drewN ?_ _) | (with_reducible refine Kd.C_drew ?_))); (case side2 => exact (Kd.R_reads' HO_11.out).2.1); (case side3 => repeat (first | exact (Kd.R_reads' HO_8.out).2.2 | (with_reducible refine Kd.C_alloc ?_ _) | (with_reducible refine Kd.C_drewN ?_ _) | (with_reducible refine Kd.C_drew ?_))); (case side4 => exact (Kd.R_reads' HO_8.out).2.1); rintro e w' ⟨rfl, ⟨nd, rfl⟩⟩))
                  go_meet
                  case rel => exact ⟨_, (true), (by first | rfl | (simp; done) | (simp [*]; done)), H', ⟨by have := HJ12.out; first | omega | exact Nat.le_refl _⟩, ⟨by (with_reducible repeat (first | apply Kd.R_alloc | apply Kd.R_drewN | apply Kd.R_drew)); exact Kd.R_mono HO_8.out (fun _ hk => ⟨hk.1, hk.2.1⟩)⟩, ⟨by (with_reducible repeat (first | apply Kd.R_alloc | apply Kd.R_drewN | apply Kd.R_drew)); exact Kd.R_mono HO_11.out (fun _ hk => ⟨hk.1, hk.2.1⟩)⟩, ⟨by (with_reducible repeat (first | apply Kd.R_alloc | apply Kd.R_drewN | apply Kd.R_drew)); exact Kd.R_mono HO_158000.out (fun _ hk => ⟨hk.1.1, hk.1.2⟩)⟩, ⟨by (with_reducible repeat (first | refine blk_drewN ?_ _ | refine blk_drew ?_ | refine blk_alloc ?_ _)); exact BK141.out⟩, ⟨by (with_reducible repeat (first | refine blk_drewN ?_ _ | refine blk_drew ?_ | refine blk_alloc ?_ _)); exact BK157.out⟩, ⟨by repeat (first | (with_reducible first | exact HB.out | apply below_alloc | apply pw_below_drewN | apply below_drew1 | refine below_set ?_ GE141.out | refine below_set ?_ GE157.out) | exact HB.out)⟩⟩
            case rest =>
              clear HC39
              try clear c1
              try clear c2
              try clear p2
              try clear c3
              try clear c4
              try clear c5
              try clear c5b0
              try clear c10
              try clear c11
              try clear c12
              try clear c13
              try clear c14
              try clear c15
              try clear c16
              try clear c25
              try clear c29
              try clear c34
              try clear c37
              try clear c44
              try clear c47
              try clear c47b0
              try clear c49
              try clear hcz15_0
              try clear hcz15_1
              try clear hcz15_2
              try clear hcz17_0
              try clear hcz17_1
              try clear hcz17_2
              try clear hcz21_0
              try clear hcz21_1
              try clear hcz21_2
              try clear hcz26_0
              try clear hcz26_1
              try clear hcz26_2
              try clear hcz45_0
              try clear hcz45_1
              try clear hcz45_2
              try clear hcz7_0
              try clear hcz7_1
              try clear hcz7_2
              try clear hfz15_0
              try clear hfz15_1
              try clear hfz15_2
              try clear hfz17_0
              try clear hfz17_1
              try clear hfz17_2
              try clear hfz21_0
              try clear hfz21_1
              try clear hfz21_2
              try clear hfz26_0
              try clear hfz26_1
              try clear hfz26_2
              try clear hfz45_0
              try clear hfz45_1
              try clear hfz45_2
              try clear hfz7_0
              try clear hfz7_1
              try clear hfz7_2
              try clear p2
              obtain ⟨kq, x69_38, rfl, HA, HJ38, HO_8, HO_11, HO_158000, BK141, BK157, HB⟩ := hcut
              have hl158000_38 := (Kd.R_reads' HO_158000.out).1
              rw [hl158000_38] at HO_158000
              (try simp only [hl158000_38])
              (try simp only [hl158000_38] at BK141)
              (try simp only [hl158000_38] at BK157)
              (try simp only [hl158000_38] at HO_8)
              (try simp only [hl158000_38] at HO_11)
              cases kq with
              | zero => exact absurd HA.out (by simp [laws_FnExactGapRead.j1])
              | succ kj38 =>
                have H := HA.out
                clear HA
                simp only [laws_FnExactGapRead.j1] at H
                by_cases c54 : x69_38 = true
                · subst c54
                  have H1 : (some false) = some r := by rw [if_pos rfl] at H; exact H
                  clear H
                  have H := H1
                  clear H1
                  obtain rfl := Option.some.inj H
                  go_wp2
                  go_ret
                  exact ⟨by first | rfl | (simp [errW_none, errW_some] <;> rfl) | (simp [*, errW_none, errW_some] <;> rfl), by repeat (first | (with_reducible first | exact HB.out | apply below_alloc | apply pw_below_drewN | apply below_drew1 | refine below_set ?_ GE141.out | refine below_set ?_ GE157.out) | exact HB.out)⟩
                · replace c54 := Bool.eq_false_iff.mpr c54
                  subst c54
                  have H1 : ((laws_markInt32S.f kj38 t158 1).bind fun bt172 => ((laws_heldInt32S.f kj38 bt172.2 1).bind fun t174 => (if t174 < 0 then (some false) else (if t174 = bt172.1 then ((laws_toGap.f kj38 l0_0 a0_1 a0_2).bind fun bt175 => ((impl_GapRead.f bt175.1 bt175.2.1 bt175.2.2 a1 a2).bind fun bt180 => ((laws_eqInt32S.f kj38 bt180.1 t148).bind fun t184 => (if t184 = true then (laws_FnExactGapRead.j2 kj38 bt172.2 bt172.1 (bt180.2 != t151)) else (laws_FnExactGapRead.j2 kj38 bt172.2 bt172.1 true))))) else (some false))))) = some r := by rw [if_neg (show ¬ (false = true) by decide)] at H; exact H
                  clear H
                  have H := H1
                  clear H1
                  replace H := Option.bind_eq_some_iff.mp H
                  obtain ⟨⟨t172, t173⟩, A550, H⟩ := H
                  replace H : ((laws_heldInt32S.f kj38 t173 1).bind fun t174 => (if t174 < 0 then (some false) else (if t174 = t172 then ((laws_toGap.f kj38 l0_0 a0_1 a0_2).bind fun bt175 => ((impl_GapRead.f bt175.1 bt175.2.1 bt175.2.2 a1 a2).bind fun bt180 => ((laws_eqInt32S.f kj38 bt180.1 t148).bind fun t184 => (if t184 = true then (laws_FnExactGapRead.j2 kj38 t173 t172 (bt180.2 != t151)) else (laws_FnExactGapRead.j2 kj38 t173 t172 true))))) else (some false)))) = some r := H
                  have A55 := Aside0.mk A550
                  clear A550
                  replace H := Option.bind_eq_some_iff.mp H
                  obtain ⟨t174, A560, H⟩ := H
                  replace H : (if t174 < 0 then (some false) else (if t174 = t172 then ((laws_toGap.f kj38 l0_0 a0_1 a0_2).bind fun bt175 => ((impl_GapRead.f bt175.1 bt175.2.1 bt175.2.2 a1 a2).bind fun bt180 => ((laws_eqInt32S.f kj38 bt180.1 t148).bind fun t184 => (if t184 = true then (laws_FnExactGapRead.j2 kj38 t173 t172 (bt180.2 != t151)) else (laws_FnExactGapRead.j2 kj38 t173 t172 true))))) else (some false))) = some r := H
                  have A56 := Aside0.mk A560
                  clear A560
                  by_cases c57 : t174 < 0
                  · rw [if_pos c57] at H
                    have c57b0 : decide (t174 < 0) = true := decide_eq_true c57
                    clear c57
                    obtain rfl := Option.some.inj H
                    obtain ⟨Ao58, co58, eo58⟩ := Kd.R_slice HO_11.out
                    subst eo58
                    go_wp2_with (first | ((with_reducible refine gate_callee (f := 17) rfl ?_); refine goesL_ (some 72) rfl rfl Tryd.func17 (by kernel_rfl) rfl #[.slice Ao58 t158.length co58, .int .i64 1] rfl (by (try simp only [List.map_toArray, List.map_cons, List.map_nil]); first | done | rfl | (simp only [List.length_drop, List.length_take]; rfl)) ?_; (with_reducible refine (laws_markInt32S.calls kj38 (fun k_ => some k_ = (.slice Ao58 t158.length co58 : Value).ownBlock) (.slice Ao58 t158.length co58) t158 1 t172 t173 w _ ?side1 ?side2 A55.out).mono ?_); (case side1 => repeat (first | (with_reducible first | exact HB.out | apply below_alloc | apply pw_below_drewN | apply below_drew1 | refine below_set ?_ GE141.out | refine below_set ?_ GE157.out) | exact HB.out)); (case side2 => exact Kd.R_tight rfl HO_11.out); rintro e w59 ⟨rfl, hy0, hb, hkp⟩; refine ⟨_, rfl, ?_⟩; have n0_ := Aside0.mk (Kd.R_mono (ok' := fun k_ => some k_ ≠ (.slice Ao58 t158.length co58 : Value).ownBlock ∧ some k_ ≠ (.slice Ao24 t170.length co24 : Value).ownBlock) (Kd.R_keptB (HO_8.out) hkp (fun k_ hk_ hs_ => (hk_.1) hs_)) (fun k_ hk_ => ⟨hk_.1.1, hk_.1.2⟩)); have n1_ := Aside0.mk (Kd.R_reok rfl hy0 (fun k_ e_ => HO_11.out.1 k_ e_)); have n2_ := Aside0.mk (Kd.R_mono (ok' := fun k_ => some k_ ≠ (v149 : Value).ownBlock ∧ some k_ ≠ (.slice Ao58 t158.length co58 : Value).ownBlock) (Kd.R_keptB (HO_158000.out) hkp (fun k_ hk_ hs_ => (hk_.2) hs_)) (fun k_ hk_ => ⟨hk_.1.1, hk_.1.2⟩)); have n3_ := Aside0.mk (blk_kept (by (with_reducible repeat (first | refine blk_drewN ?_ _ | refine blk_drew ?_ | refine blk_alloc ?_ _)); exact BK141.out) hkp (fun hs_ => (fun e_ => (Kd.R_ne HO_11.out BK141.out (by decide)) e_) hs_)); have n4_ := Aside0.mk (blk_kept (by (with_reducible repeat (first | refine blk_drewN ?_ _ | refine blk_drew ?_ | refine blk_alloc ?_ _)); exact BK157.out) hkp (fun hs_ => (fun e_ => (Kd.R_ne HO_11.out BK157.out (by decide)) e_) hs_)); have n5_ := Aside0.mk (hb); clear HO_8; clear HO_11; clear HO_158000; clear BK141; clear BK157; clear HB; have HO_8 := n0_; have HO_11 := n1_; have HO_158000 := n2_; have BK141 := n3_; have BK157 := n4_; have HB := n5_; clear n0_ n1_ n2_ n3_ n4_ n5_; (try clear hb); (try clear hkp); (try clear hy0)) | ((with_reducible refine gate_callee (f := 18) rfl ?_); refine goesL_ (some 75) rfl rfl Tryd.func18 (by kernel_rfl) rfl #[.slice Ao58 t173.length co58, .int .i64 1] rfl (by (try simp only [List.map_toArray, List.map_cons, List.map_nil]); first | done | (rw [show t173.length = t158.length from (Kd.R_reads' HO_11.out).1.symm] <;> rfl) | rfl | (simp only [List.length_drop, List.length_take]; rfl)) ?_; (with_reducible refine (laws_heldInt32S.calls kj38 _ _ t173 1 t174 _ ?side1 ?side2 A56.out).mono ?_); (case side1 => repeat (first | exact (Kd.R_reads' HO_11.out).2.2 | (with_reducible refine Kd.C_alloc ?_ _) | (with_reducible refine Kd.C_drewN ?_ _) | (with_reducible refine Kd.C_drew ?_))); (case side2 => rw [show t173.length = t158.length from (Kd.R_reads' HO_11.out).1.symm]; exact (Kd.R_reads' HO_11.out).2.1); rintro e w' ⟨rfl, ⟨nd, rfl⟩⟩; refine ⟨_, rfl, ?_⟩))
                    go_ret
                    exact ⟨by first | rfl | (simp [errW_none, errW_some] <;> rfl) | (simp [*, errW_none, errW_some] <;> rfl), by repeat (first | (with_reducible first | exact HB.out | apply below_alloc | apply pw_below_drewN | apply below_drew1 | refine below_set ?_ GE141.out | refine below_set ?_ GE157.out) | exact HB.out)⟩
                  · rw [if_neg c57] at H
                    have c57b0 : decide (t174 < 0) = false := decide_eq_false c57
                    clear c57
                    by_cases c60 : t174 = t172
                    · rw [if_pos c60] at H
                      have c60b0 : (t174 == t172) = true := beq_iff_eq.mpr c60
                      have c60b1 : (t174 != t172) = false := bne_eq_false_iff_eq.mpr c60
                      clear c60
                      replace H := Option.bind_eq_some_iff.mp H
                      obtain ⟨⟨t175, t178, t179⟩, A610, H⟩ := H
                      replace H : ((impl_GapRead.f t175 t178 t179 a1 a2).bind fun bt180 => ((laws_eqInt32S.f kj38 bt180.1 t148).bind fun t184 => (if t184 = true then (laws_FnExactGapRead.j2 kj38 t173 t172 (bt180.2 != t151)) else (laws_FnExactGapRead.j2 kj38 t173 t172 true)))) = some r := H
                      have A61 := Aside0.mk A610
                      clear A610
                      replace H := Option.bind_eq_some_iff.mp H
                      obtain ⟨⟨t180, t183⟩, A620, H⟩ := H
                      replace H : ((laws_eqInt32S.f kj38 t180 t148).bind fun t184 => (if t184 = true then (laws_FnExactGapRead.j2 kj38 t173 t172 (t183 != t151)) else (laws_FnExactGapRead.j2 kj38 t173 t172 true))) = some r := H
                      have A62 := Aside0.mk A620
                      clear A620
                      have HC63 := Aside0.mk H
                      clear H
                      obtain ⟨Ao64, co64, eo64⟩ := Kd.R_slice HO_11.out
                      subst eo64
                      go_upto_region 25 with (first | ((with_reducible refine gate_callee (f := 17) rfl ?_); refine goesL_ (some 72) rfl rfl Tryd.func17 (by kernel_rfl) rfl #[.slice Ao64 t158.length co64, .int .i64 1] rfl (by (try simp only [List.map_toArray, List.map_cons, List.map_nil]); first | done | rfl | (simp only [List.length_drop, List.length_take]; rfl)) ?_; (with_reducible refine (laws_markInt32S.calls kj38 (fun k_ => some k_ = (.slice Ao64 t158.length co64 : Value).ownBlock) (.slice Ao64 t158.length co64) t158 1 t172 t173 w _ ?side1 ?side2 A55.out).mono ?_); (case side1 => repeat (first | (with_reducible first | exact HB.out | apply below_alloc | apply pw_below_drewN | apply below_drew1 | refine below_set ?_ GE141.out | refine below_set ?_ GE157.out) | exact HB.out)); (case side2 => exact Kd.R_tight rfl HO_11.out); rintro e w65 ⟨rfl, hy0, hb, hkp⟩; refine ⟨_, rfl, ?_⟩; have n0_ := Aside0.mk (Kd.R_mono (ok' := fun k_ => some k_ ≠ (.slice Ao64 t158.length co64 : Value).ownBlock ∧ some k_ ≠ (.slice Ao24 t170.length co24 : Value).ownBlock) (Kd.R_keptB (HO_8.out) hkp (fun k_ hk_ hs_ => (hk_.1) hs_)) (fun k_ hk_ => ⟨hk_.1.1, hk_.1.2⟩)); have n1_ := Aside0.mk (Kd.R_reok rfl hy0 (fun k_ e_ => HO_11.out.1 k_ e_)); have n2_ := Aside0.mk (Kd.R_mono (ok' := fun k_ => some k_ ≠ (v149 : Value).ownBlock ∧ some k_ ≠ (.slice Ao64 t158.length co64 : Value).ownBlock) (Kd.R_keptB (HO_158000.out) hkp (fun k_ hk_ hs_ => (hk_.2) hs_)) (fun k_ hk_ => ⟨hk_.1.1, hk_.1.2⟩)); have n3_ := Aside0.mk (blk_kept (by (with_reducible repeat (first | refine blk_drewN ?_ _ | refine blk_drew ?_ | refine blk_alloc ?_ _)); exact BK141.out) hkp (fun hs_ => (fun e_ => (Kd.R_ne HO_11.out BK141.out (by decide)) e_) hs_)); have n4_ := Aside0.mk (blk_kept (by (with_reducible repeat (first | refine blk_drewN ?_ _ | refine blk_drew ?_ | refine blk_alloc ?_ _)); exact BK157.out) hkp (fun hs_ => (fun e_ => (Kd.R_ne HO_11.out BK157.out (by decide)) e_) hs_)); have n5_ := Aside0.mk (hb); clear HO_8; clear HO_11; clear HO_158000; clear BK141; clear BK157; clear HB; have HO_8 := n0_; have HO_11 := n1_; have HO_158000 := n2_; have BK141 := n3_; have BK157 := n4_; have HB := n5_; clear n0_ n1_ n2_ n3_ n4_ n5_; (try clear hb); (try clear hkp); (try clear hy0)) | ((with_reducible refine gate_callee (f := 18) rfl ?_); refine goesL_ (some 75) rfl rfl Tryd.func18 (by kernel_rfl) rfl #[.slice Ao64 t173.length co64, .int .i64 1] rfl (by (try simp only [List.map_toArray, List.map_cons, List.map_nil]); first | done | (rw [show t173.length = t158.length from (Kd.R_reads' HO_11.out).1.symm] <;> rfl) | rfl | (simp only [List.length_drop, List.length_take]; rfl)) ?_; (with_reducible refine (laws_heldInt32S.calls kj38 _ _ t173 1 t174 _ ?side1 ?side2 A56.out).mono ?_); (case side1 => repeat (first | exact (Kd.R_reads' HO_11.out).2.2 | (with_reducible refine Kd.C_alloc ?_ _) | (with_reducible refine Kd.C_drewN ?_ _) | (with_reducible refine Kd.C_drew ?_))); (case side2 => rw [show t173.length = t158.length from (Kd.R_reads' HO_11.out).1.symm]; exact (Kd.R_reads' HO_11.out).2.1); rintro e w' ⟨rfl, ⟨nd, rfl⟩⟩; refine ⟨_, rfl, ?_⟩; have hnb66 := NB141_157.out; have hnc66 := NB157_141.out; have hcz67_0 : w65.cell? ⟨gb141, 0, none⟩ = some (.slice A0_0 l0_0.length c0_0) := (blk_cell BK141.out 0).trans rfl; have hcz67_1 : w65.cell? ⟨gb141, 1, none⟩ = some (.int .i64 a0_1) := (blk_cell BK141.out 1).trans rfl; have hcz67_2 : w65.cell? ⟨gb141, 2, none⟩ = some (.int .i64 a0_2) := (blk_cell BK141.out 2).trans rfl; have hfz67_0 := blk_frozen BK141.out 0; have hfz67_1 := blk_frozen BK141.out 1; have hfz67_2 := blk_frozen BK141.out 2) | ((with_reducible refine gate_callee (f := 12) rfl ?_); refine goesL_ (some 83) rfl rfl Tryd.func12 (by kernel_rfl) rfl #[.agg #[.slice A0_0 l0_0.length c0_0, .int .i64 a0_1, .int .i64 a0_2]] rfl (by (try simp only [List.map_toArray, List.map_cons, List.map_nil]); first | done | rfl | (simp only [List.length_drop, List.length_take]; rfl)) ?_; (with_reducible refine (laws_toGap.calls kj38 _ _ l0_0 a0_1 a0_2 t175 t178 t179 _ ?side1 ?side2 A61.out).mono ?_); (case side1 => repeat (first | exact (Kd.C_below HR0_0.out (by repeat (first | (with_reducible first | exact HB.out | apply below_alloc | apply pw_below_drewN | apply below_drew1 | refine below_set ?_ GE141.out | refine below_set ?_ GE157.out) | exact HB.out))) | (with_reducible refine Kd.C_alloc ?_ _) | (with_reducible refine Kd.C_drewN ?_ _) | (with_reducible refine Kd.C_drew ?_))); (case side2 => exact HC0_0.out); rintro e w68 ⟨v176, rfl, ho0, hb⟩; refine ⟨_, rfl, ?_⟩; have n0_ := Aside0.mk (Kd.R_elder' (by (with_reducible repeat (first | apply Kd.R_alloc | apply Kd.R_drewN | apply Kd.R_drew)); exact HO_8.out) (Kd.R_base ho0) hb); have n1_ := Aside0.mk (Kd.R_elder' (by (with_reducible repeat (first | apply Kd.R_alloc | apply Kd.R_drewN | apply Kd.R_drew)); exact HO_11.out) (Kd.R_base ho0) hb); have n2_ := Aside0.mk (Kd.R_elder' (by (with_reducible repeat (first | apply Kd.R_alloc | apply Kd.R_drewN | apply Kd.R_drew)); exact HO_158000.out) (Kd.R_base ho0) hb); have n3_ := Aside0.mk (Kd.R_lower (Kd.R_new' (Kd.R_new' (Kd.R_new' ho0 (Kd.R_lt (by (with_reducible repeat (first | apply Kd.R_alloc | apply Kd.R_drewN | apply Kd.R_drew)); exact HO_8.out))) (Kd.R_lt (by (with_reducible repeat (first | apply Kd.R_alloc | apply Kd.R_drewN | apply Kd.R_drew)); exact HO_11.out))) (Kd.R_lt (by (with_reducible repeat (first | apply Kd.R_alloc | apply Kd.R_drewN | apply Kd.R_drew)); exact HO_158000.out))) (below_size (by repeat (first | (with_reducible first | exact HB.out | apply below_alloc | apply pw_below_drewN | apply below_drew1 | refine below_set ?_ GE141.out | refine below_set ?_ GE157.out) | exact HB.out)))); have n4_ := Aside0.mk (blk_below (g := gb141) (o := .cells #[.slice A0_0 l0_0.length c0_0, .int .i64 a0_1, .int .i64 a0_2] 24 (0, 0)) (by (with_reducible repeat (first | refine blk_drewN ?_ _ | refine blk_drew ?_ | refine blk_alloc ?_ _)); exact BK141.out) hb); have n5_ := Aside0.mk (blk_below (g := gb157) (o := .cells #[.slice Ao24 t170.length co24, .int .i64 t155, .int .i64 t156] 28 (0, 0)) (by (with_reducible repeat (first | refine blk_drewN ?_ _ | refine blk_drew ?_ | refine blk_alloc ?_ _)); exact BK157.out) hb); have n6_ := Aside0.mk (below_step (by repeat (first | (with_reducible first | exact HB.out | apply below_alloc | apply pw_below_drewN | apply below_drew1 | refine below_set ?_ GE141.out | refine below_set ?_ GE157.out) | exact HB.out)) hb); clear HO_8; clear HO_11; clear HO_158000; clear BK141; clear BK157; clear HB; have HO_8 := n0_; have HO_11 := n1_; have HO_158000 := n2_; have HO177 := n3_; have BK141 := n4_; have BK157 := n5_; have HB := n6_; clear n0_ n1_ n2_ n3_ n4_ n5_ n6_; (try clear hb); (try clear hb2); (try clear hk); (try clear hi); (try clear ho0); obtain ⟨Ao69, co69, eo69⟩ := Kd.R_slice HO177.out; subst eo69) | ((with_reducible refine gate_callee (f := 13) rfl ?_); refine goesL_ (some 86) rfl rfl Tryd.func13 (by kernel_rfl) rfl #[.agg #[.slice Ao69 t175.length co69, .int .i64 t178, .int .i64 t179], .int .i64 a1, .int .i64 a2] rfl (by (try simp only [List.map_toArray, List.map_cons, List.map_nil]); first | done | rfl | (simp only [List.length_drop, List.length_take]; rfl)) ?_; (with_reducible refine (impl_GapRead.calls _ _ t175 t178 t179 a1 a2 t180 t183 _ ?side1 ?side2 ?side3 A62.out).mono ?_); (case side1 => repeat (first | exact (Kd.R_reads' HO177.out).2.2 | (with_reducible refine Kd.C_alloc ?_ _) | (with_reducible refine Kd.C_drewN ?_ _) | (with_reducible refine Kd.C_drew ?_))); (case side2 => exact (Kd.R_reads' HO177.out).2.1); (case side3 => exact HG.below hgG_ (by repeat (first | (with_reducible first | exact HB.out | apply below_alloc | apply pw_below_drewN | apply below_drew1 | refine below_set ?_ GE141.out | refine below_set ?_ GE157.out) | exact HB.out))); rintro e w70 ⟨v181, rfl, ho0, hb⟩; refine ⟨_, rfl, ?_⟩; have n0_ := Aside0.mk (Kd.R_elder' (by (with_reducible repeat (first | apply Kd.R_alloc | apply Kd.R_drewN | apply Kd.R_drew)); exact HO_8.out) (Kd.R_base ho0) hb); have n1_ := Aside0.mk (Kd.R_elder' (by (with_reducible repeat (first | apply Kd.R_alloc | apply Kd.R_drewN | apply Kd.R_drew)); exact HO_11.out) (Kd.R_base ho0) hb); have n2_ := Aside0.mk (Kd.R_elder' (by (with_reducible repeat (first | apply Kd.R_alloc | apply Kd.R_drewN | apply Kd.R_drew)); exact HO_158000.out) (Kd.R_base ho0) hb); have n3_ := Aside0.mk (Kd.R_elder' (by (with_reducible repeat (first | apply Kd.R_alloc | apply Kd.R_drewN | apply Kd.R_drew)); exact HO177.out) (Kd.R_base ho0) hb); have n4_ := Aside0.mk (Kd.R_lower (Kd.R_new' (Kd.R_new' (Kd.R_new' (Kd.R_new' ho0 (Kd.R_lt (by (with_reducible repeat (first | apply Kd.R_alloc | apply Kd.R_drewN | apply Kd.R_drew)); exact HO_8.out))) (Kd.R_lt (by (with_reducible repeat (first | apply Kd.R_alloc | apply Kd.R_drewN | apply Kd.R_drew)); exact HO_11.out))) (Kd.R_lt (by (with_reducible repeat (first | apply Kd.R_alloc | apply Kd.R_drewN | apply Kd.R_drew)); exact HO_158000.out))) (Kd.R_lt (by (with_reducible repeat (first | apply Kd.R_alloc | apply Kd.R_drewN | apply Kd.R_drew)); exact HO177.out))) (below_size (by repeat (first | (with_reducible first | exact HB.out | apply below_alloc | apply pw_below_drewN | apply below_drew1 | refine below_set ?_ GE141.out | refine below_set ?_ GE157.out) | exact HB.out)))); have n5_ := Aside0.mk (blk_below (g := gb141) (o := .cells #[.slice A0_0 l0_0.length c0_0, .int .i64 a0_1, .int .i64 a0_2] 24 (0, 0)) (by (with_reducible repeat (first | refine blk_drewN ?_ _ | refine blk_drew ?_ | refine blk_alloc ?_ _)); exact BK141.out) hb); have n6_ := Aside0.mk (blk_below (g := gb157) (o := .cells #[.slice Ao24 t170.length co24, .int .i64 t155, .int .i64 t156] 28 (0, 0)) (by (with_reducible repeat (first | refine blk_drewN ?_ _ | refine blk_drew ?_ | refine blk_alloc ?_ _)); exact BK157.out) hb); have n7_ := Aside0.mk (below_step (by repeat (first | (with_reducible first | exact HB.out | apply below_alloc | apply pw_below_drewN | apply below_drew1 | refine below_set ?_ GE141.out | refine below_set ?_ GE157.out) | exact HB.out)) hb); clear HO_8; clear HO_11; clear HO_158000; clear HO177; clear BK141; clear BK157; clear HB; have HO_8 := n0_; have HO_11 := n1_; have HO_158000 := n2_; have HO177 := n3_; have HO182 := n4_; have BK141 := n5_; have BK157 := n6_; have HB := n7_; clear n0_ n1_ n2_ n3_ n4_ n5_ n6_ n7_; (try clear hb); (try clear hb2); (try clear hk); (try clear hi); (try clear ho0)))
                      (try simp only [Act.put, List.setIfInBounds_toArray, List.set_cons_zero, List.set_cons_succ])
                      go_cut [97] (fun v97 wc => ∃ (kq : Nat) (x97_62 : Bool), v97 = .bool x97_62 ∧ Aside0 (laws_FnExactGapRead.j2 kq t173 t172 x97_62 = some r) ∧ Aside0 (kq ≤ kj38) ∧ Aside0 (Kd.R (Kd.int .i32) 21 wc w.heap.size (fun k_ => some k_ ≠ ((.slice Ao24 t170.length co24) : Value).ownBlock) (.slice Ao64 t158.length co64) t173) ∧ Aside0 (Kd.R (Kd.int .i32) 21 wc w.heap.size (fun k_ => some k_ ≠ ((.slice Ao64 t158.length co64) : Value).ownBlock) (.slice Ao24 t170.length co24) t170) ∧ Aside0 (wc.heap[gb141]? = some (.cells #[(.slice A0_0 l0_0.length c0_0), .int .i64 a0_1, .int .i64 a0_2] 24 (0, 0))) ∧ Aside0 (wc.heap[gb157]? = some (.cells #[(.slice Ao24 t170.length co24), .int .i64 t155, .int .i64 t156] 28 (0, 0))) ∧ Aside0 (Below w.heap.size w wc))
                      case first =>
                        have H := HC63.out
                        clear HC63
                        replace H := Option.bind_eq_some_iff.mp H
                        obtain ⟨t184, A710, H⟩ := H
                        replace H : (if t184 = true then (laws_FnExactGapRead.j2 kj38 t173 t172 (t183 != t151)) else (laws_FnExactGapRead.j2 kj38 t173 t172 true)) = some r := H
                        have A71 := Aside0.mk A710
                        clear A710
                        by_cases c72 : t184 = true
                        · subst c72
                          have H1 : (laws_FnExactGapRead.j2 kj38 t173 t172 (t183 != t151)) = some r := by rw [if_pos rfl] at H; exact H
                          clear H
                          have H := H1
                          clear H1
                          have H' := Aside0.mk H
                          clear H
                          obtain ⟨Ao73, co73, eo73⟩ := Kd.R_slice HO182.out
                          subst eo73
                          obtain ⟨Ao74, co74, eo74⟩ := Kd.R_slice HO_8.out
                          subst eo74
                          go_wp2_with (first | ((with_reducible refine gate_callee (f := 14) rfl ?_); refine goesL_ (some 91) rfl rfl Tryd.func14 (by kernel_rfl) rfl #[.slice Ao73 t180.length co73, .slice Ao74 t148.length co74] rfl (by (try simp only [List.map_toArray, List.map_cons, List.map_nil]); first | done | rfl | (simp only [List.length_drop, List.length_take]; rfl)) ?_; (with_reducible refine (laws_eqInt32S.calls kj38 _ _ t180 _ _ t148 true _ ?side1 ?side2 ?side3 ?side4 A71.out).mono ?_); (case side1 => repeat (first | exact (Kd.R_reads' HO182.out).2.2 | (with_reducible refine Kd.C_alloc ?_ _) | (with_reducible refine Kd.C_drewN ?_ _) | (with_reducible refine Kd.C_drew ?_))); (case side2 => exact (Kd.R_reads' HO182.out).2.1); (case side3 => repeat (first | exact (Kd.R_reads' HO_8.out).2.2 | (with_reducible refine Kd.C_alloc ?_ _) | (with_reducible refine Kd.C_drewN ?_ _) | (with_reducible refine Kd.C_drew ?_))); (case side4 => exact (Kd.R_reads' HO_8.out).2.1); rintro e w' ⟨rfl, ⟨nd, rfl⟩⟩; refine ⟨_, rfl, ?_⟩))
                          go_meet
                          case rel => exact ⟨_, ((t183 != t151)), (by first | rfl | (simp; done) | (simp [*]; done)), H', ⟨by have := HJ12.out; have := HJ38.out; first | omega | exact Nat.le_refl _⟩, ⟨by (try simp only [hl158000_38]); (with_reducible repeat (first | apply Kd.R_alloc | apply Kd.R_drewN | apply Kd.R_drew)); exact Kd.R_mono HO_11.out (fun _ hk => hk.1.1.2)⟩, ⟨by (try simp only [hl158000_38]); (with_reducible repeat (first | apply Kd.R_alloc | apply Kd.R_drewN | apply Kd.R_drew)); exact Kd.R_mono HO_158000.out (fun _ hk => hk.1.1.2)⟩, ⟨by (try simp only [hl158000_38]); (with_reducible repeat (first | refine blk_drewN ?_ _ | refine blk_drew ?_ | refine blk_alloc ?_ _)); exact BK141.out⟩, ⟨by (try simp only [hl158000_38]); (with_reducible repeat (first | refine blk_drewN ?_ _ | refine blk_drew ?_ | refine blk_alloc ?_ _)); exact BK157.out⟩, ⟨by repeat (first | (with_reducible first | exact HB.out | apply below_alloc | apply pw_below_drewN | apply below_drew1 | refine below_set ?_ GE141.out | refine below_set ?_ GE157.out) | exact HB.out)⟩⟩
                        · replace c72 := Bool.eq_false_iff.mpr c72
                          subst c72
                          have H1 : (laws_FnExactGapRead.j2 kj38 t173 t172 true) = some r := by rw [if_neg (show ¬ (false = true) by decide)] at H; exact H
                          clear H
                          have H := H1
                          clear H1
                          have H' := Aside0.mk H
                          clear H
                          obtain ⟨Ao75, co75, eo75⟩ := Kd.R_slice HO182.out
                          subst eo75
                          obtain ⟨Ao76, co76, eo76⟩ := Kd.R_slice HO_8.out
                          subst eo76
                          go_wp2_with (first | ((with_reducible refine gate_callee (f := 14) rfl ?_); refine goesL_ (some 91) rfl rfl Tryd.func14 (by kernel_rfl) rfl #[.slice Ao75 t180.length co75, .slice Ao76 t148.length co76] rfl (by (try simp only [List.map_toArray, List.map_cons, List.map_nil]); first | done | rfl | (simp only [List.length_drop, List.length_take]; rfl)) ?_; (with_reducible refine (laws_eqInt32S.calls kj38 _ _ t180 _ _ t148 false _ ?side1 ?side2 ?side3 ?side4 A71.out).mono ?_); (case side1 => repeat (first | exact (Kd.R_reads' HO182.out).2.2 | (with_reducible refine Kd.C_alloc ?_ _) | (with_reducible refine Kd.C_drewN ?_ _) | (with_reducible refine Kd.C_drew ?_))); (case side2 => exact (Kd.R_reads' HO182.out).2.1); (case side3 => repeat (first | exact (Kd.R_reads' HO_8.out).2.2 | (with_reducible refine Kd.C_alloc ?_ _) | (with_reducible refine Kd.C_drewN ?_ _) | (with_reducible refine Kd.C_drew ?_))); (case side4 => exact (Kd.R_reads' HO_8.out).2.1); rintro e w' ⟨rfl, ⟨nd, rfl⟩⟩; refine ⟨_, rfl, ?_⟩))
                          go_meet
                          case rel => exact ⟨_, (true), (by first | rfl | (simp; done) | (simp [*]; done)), H', ⟨by have := HJ12.out; have := HJ38.out; first | omega | exact Nat.le_refl _⟩, ⟨by (try simp only [hl158000_38]); (with_reducible repeat (first | apply Kd.R_alloc | apply Kd.R_drewN | apply Kd.R_drew)); exact Kd.R_mono HO_11.out (fun _ hk => hk.1.1.2)⟩, ⟨by (try simp only [hl158000_38]); (with_reducible repeat (first | apply Kd.R_alloc | apply Kd.R_drewN | apply Kd.R_drew)); exact Kd.R_mono HO_158000.out (fun _ hk => hk.1.1.2)⟩, ⟨by (try simp only [hl158000_38]); (with_reducible repeat (first | refine blk_drewN ?_ _ | refine blk_drew ?_ | refine blk_alloc ?_ _)); exact BK141.out⟩, ⟨by (try simp only [hl158000_38]); (with_reducible repeat (first | refine blk_drewN ?_ _ | refine blk_drew ?_ | refine blk_alloc ?_ _)); exact BK157.out⟩, ⟨by repeat (first | (with_reducible first | exact HB.out | apply below_alloc | apply pw_below_drewN | apply below_drew1 | refine below_set ?_ GE141.out | refine below_set ?_ GE157.out) | exact HB.out)⟩⟩
                      case rest =>
                        clear HC63
                        try clear c1
                        try clear c2
                        try clear p2
                        try clear c3
                        try clear c4
                        try clear c5
                        try clear c5b0
                        try clear c6
                        try clear c7
                        try clear c10
                        try clear c11
                        try clear c12
                        try clear c13
                        try clear c14
                        try clear c15
                        try clear c16
                        try clear c17
                        try clear c18
                        try clear c25
                        try clear c29
                        try clear c34
                        try clear c37
                        try clear c44
                        try clear c47
                        try clear c47b0
                        try clear c49
                        try clear c54
                        try clear c57
                        try clear c57b0
                        try clear c60
                        try clear c60b0
                        try clear c60b1
                        try clear c66
                        try clear c72
                        try clear hcz15_0
                        try clear hcz15_1
                        try clear hcz15_2
                        try clear hcz17_0
                        try clear hcz17_1
                        try clear hcz17_2
                        try clear hcz21_0
                        try clear hcz21_1
                        try clear hcz21_2
                        try clear hcz26_0
                        try clear hcz26_1
                        try clear hcz26_2
                        try clear hcz45_0
                        try clear hcz45_1
                        try clear hcz45_2
                        try clear hcz67_0
                        try clear hcz67_1
                        try clear hcz67_2
                        try clear hcz7_0
                        try clear hcz7_1
                        try clear hcz7_2
                        try clear hfz15_0
                        try clear hfz15_1
                        try clear hfz15_2
                        try clear hfz17_0
                        try clear hfz17_1
                        try clear hfz17_2
                        try clear hfz21_0
                        try clear hfz21_1
                        try clear hfz21_2
                        try clear hfz26_0
                        try clear hfz26_1
                        try clear hfz26_2
                        try clear hfz45_0
                        try clear hfz45_1
                        try clear hfz45_2
                        try clear hfz67_0
                        try clear hfz67_1
                        try clear hfz67_2
                        try clear hfz7_0
                        try clear hfz7_1
                        try clear hfz7_2
                        try clear p2
                        obtain ⟨kq, x97_62, rfl, HA, HJ62, HO_11, HO_158000, BK141, BK157, HB⟩ := hcut
                        have hl11_62 := (Kd.R_reads' HO_11.out).1
                        rw [hl11_62] at HO_11
                        (try simp only [hl11_62])
                        (try simp only [hl11_62] at BK141)
                        (try simp only [hl11_62] at BK157)
                        (try simp only [hl11_62] at HO_158000)
                        cases kq with
                        | zero => exact absurd HA.out (by simp [laws_FnExactGapRead.j2])
                        | succ kj62 =>
                          have H := HA.out
                          clear HA
                          simp only [laws_FnExactGapRead.j2] at H
                          by_cases c77 : x97_62 = true
                          · subst c77
                            have H1 : (some false) = some r := by rw [if_pos rfl] at H; exact H
                            clear H
                            have H := H1
                            clear H1
                            obtain rfl := Option.some.inj H
                            go_wp2
                            go_ret
                            exact ⟨by first | rfl | (simp [errW_none, errW_some] <;> rfl) | (simp [*, errW_none, errW_some] <;> rfl), by repeat (first | (with_reducible first | exact HB.out | apply below_alloc | apply pw_below_drewN | apply below_drew1 | refine below_set ?_ GE141.out | refine below_set ?_ GE157.out) | exact HB.out)⟩
                          · replace c77 := Bool.eq_false_iff.mpr c77
                            subst c77
                            have H1 : ((laws_heldInt32S.f kj62 t173 1).bind fun t185 => (if t185 < 0 then (some false) else (if t185 = t172 then (some true) else (some false)))) = some r := by rw [if_neg (show ¬ (false = true) by decide)] at H; exact H
                            clear H
                            have H := H1
                            clear H1
                            replace H := Option.bind_eq_some_iff.mp H
                            obtain ⟨t185, A780, H⟩ := H
                            replace H : (if t185 < 0 then (some false) else (if t185 = t172 then (some true) else (some false))) = some r := H
                            have A78 := Aside0.mk A780
                            clear A780
                            by_cases c79 : t185 < 0
                            · rw [if_pos c79] at H
                              have c79b0 : decide (t185 < 0) = true := decide_eq_true c79
                              clear c79
                              obtain rfl := Option.some.inj H
                              go_wp2_with (first | ((with_reducible refine gate_callee (f := 18) rfl ?_); refine goesL_ (some 100) rfl rfl Tryd.func18 (by kernel_rfl) rfl #[.slice Ao64 t173.length co64, .int .i64 1] rfl (by (try simp only [List.map_toArray, List.map_cons, List.map_nil]); first | done | rfl | (simp only [List.length_drop, List.length_take]; rfl)) ?_; (with_reducible refine (laws_heldInt32S.calls kj62 _ _ t173 1 t185 _ ?side1 ?side2 A78.out).mono ?_); (case side1 => repeat (first | exact (Kd.R_reads' HO_11.out).2.2 | (with_reducible refine Kd.C_alloc ?_ _) | (with_reducible refine Kd.C_drewN ?_ _) | (with_reducible refine Kd.C_drew ?_))); (case side2 => exact (Kd.R_reads' HO_11.out).2.1); rintro e w' ⟨rfl, ⟨nd, rfl⟩⟩; refine ⟨_, rfl, ?_⟩))
                              go_ret
                              exact ⟨by first | rfl | (simp [errW_none, errW_some] <;> rfl) | (simp [*, errW_none, errW_some] <;> rfl), by repeat (first | (with_reducible first | exact HB.out | apply below_alloc | apply pw_below_drewN | apply below_drew1 | refine below_set ?_ GE141.out | refine below_set ?_ GE157.out) | exact HB.out)⟩
                            · rw [if_neg c79] at H
                              have c79b0 : decide (t185 < 0) = false := decide_eq_false c79
                              clear c79
                              by_cases c80 : t185 = t172
                              · rw [if_pos c80] at H
                                have c80b0 : (t185 == t172) = true := beq_iff_eq.mpr c80
                                have c80b1 : (t185 != t172) = false := bne_eq_false_iff_eq.mpr c80
                                clear c80
                                obtain rfl := Option.some.inj H
                                go_wp2_with (first | ((with_reducible refine gate_callee (f := 18) rfl ?_); refine goesL_ (some 100) rfl rfl Tryd.func18 (by kernel_rfl) rfl #[.slice Ao64 t173.length co64, .int .i64 1] rfl (by (try simp only [List.map_toArray, List.map_cons, List.map_nil]); first | done | rfl | (simp only [List.length_drop, List.length_take]; rfl)) ?_; (with_reducible refine (laws_heldInt32S.calls kj62 _ _ t173 1 t185 _ ?side1 ?side2 A78.out).mono ?_); (case side1 => repeat (first | exact (Kd.R_reads' HO_11.out).2.2 | (with_reducible refine Kd.C_alloc ?_ _) | (with_reducible refine Kd.C_drewN ?_ _) | (with_reducible refine Kd.C_drew ?_))); (case side2 => exact (Kd.R_reads' HO_11.out).2.1); rintro e w' ⟨rfl, ⟨nd, rfl⟩⟩; refine ⟨_, rfl, ?_⟩))
                                go_ret
                                exact ⟨by first | rfl | (simp [errW_none, errW_some] <;> rfl) | (simp [*, errW_none, errW_some] <;> rfl), by repeat (first | (with_reducible first | exact HB.out | apply below_alloc | apply pw_below_drewN | apply below_drew1 | refine below_set ?_ GE141.out | refine below_set ?_ GE157.out) | exact HB.out)⟩
                              · rw [if_neg c80] at H
                                have c80b0 : (t185 == t172) = false := beq_eq_false_iff_ne.mpr c80
                                have c80b1 : (t185 != t172) = true := bne_iff_ne.mpr c80
                                obtain rfl := Option.some.inj H
                                go_wp2_with (first | ((with_reducible refine gate_callee (f := 18) rfl ?_); refine goesL_ (some 100) rfl rfl Tryd.func18 (by kernel_rfl) rfl #[.slice Ao64 t173.length co64, .int .i64 1] rfl (by (try simp only [List.map_toArray, List.map_cons, List.map_nil]); first | done | rfl | (simp only [List.length_drop, List.length_take]; rfl)) ?_; (with_reducible refine (laws_heldInt32S.calls kj62 _ _ t173 1 t185 _ ?side1 ?side2 A78.out).mono ?_); (case side1 => repeat (first | exact (Kd.R_reads' HO_11.out).2.2 | (with_reducible refine Kd.C_alloc ?_ _) | (with_reducible refine Kd.C_drewN ?_ _) | (with_reducible refine Kd.C_drew ?_))); (case side2 => exact (Kd.R_reads' HO_11.out).2.1); rintro e w' ⟨rfl, ⟨nd, rfl⟩⟩; refine ⟨_, rfl, ?_⟩))
                                go_ret
                                exact ⟨by first | rfl | (simp [errW_none, errW_some] <;> rfl) | (simp [*, errW_none, errW_some] <;> rfl), by repeat (first | (with_reducible first | exact HB.out | apply below_alloc | apply pw_below_drewN | apply below_drew1 | refine below_set ?_ GE141.out | refine below_set ?_ GE157.out) | exact HB.out)⟩
                    · rw [if_neg c60] at H
                      have c60b0 : (t174 == t172) = false := beq_eq_false_iff_ne.mpr c60
                      have c60b1 : (t174 != t172) = true := bne_iff_ne.mpr c60
                      obtain rfl := Option.some.inj H
                      obtain ⟨Ao81, co81, eo81⟩ := Kd.R_slice HO_11.out
                      subst eo81
                      go_wp2_with (first | ((with_reducible refine gate_callee (f := 17) rfl ?_); refine goesL_ (some 72) rfl rfl Tryd.func17 (by kernel_rfl) rfl #[.slice Ao81 t158.length co81, .int .i64 1] rfl (by (try simp only [List.map_toArray, List.map_cons, List.map_nil]); first | done | rfl | (simp only [List.length_drop, List.length_take]; rfl)) ?_; (with_reducible refine (laws_markInt32S.calls kj38 (fun k_ => some k_ = (.slice Ao81 t158.length co81 : Value).ownBlock) (.slice Ao81 t158.length co81) t158 1 t172 t173 w _ ?side1 ?side2 A55.out).mono ?_); (case side1 => repeat (first | (with_reducible first | exact HB.out | apply below_alloc | apply pw_below_drewN | apply below_drew1 | refine below_set ?_ GE141.out | refine below_set ?_ GE157.out) | exact HB.out)); (case side2 => exact Kd.R_tight rfl HO_11.out); rintro e w82 ⟨rfl, hy0, hb, hkp⟩; refine ⟨_, rfl, ?_⟩; have n0_ := Aside0.mk (Kd.R_mono (ok' := fun k_ => some k_ ≠ (.slice Ao81 t158.length co81 : Value).ownBlock ∧ some k_ ≠ (.slice Ao24 t170.length co24 : Value).ownBlock) (Kd.R_keptB (HO_8.out) hkp (fun k_ hk_ hs_ => (hk_.1) hs_)) (fun k_ hk_ => ⟨hk_.1.1, hk_.1.2⟩)); have n1_ := Aside0.mk (Kd.R_reok rfl hy0 (fun k_ e_ => HO_11.out.1 k_ e_)); have n2_ := Aside0.mk (Kd.R_mono (ok' := fun k_ => some k_ ≠ (v149 : Value).ownBlock ∧ some k_ ≠ (.slice Ao81 t158.length co81 : Value).ownBlock) (Kd.R_keptB (HO_158000.out) hkp (fun k_ hk_ hs_ => (hk_.2) hs_)) (fun k_ hk_ => ⟨hk_.1.1, hk_.1.2⟩)); have n3_ := Aside0.mk (blk_kept (by (with_reducible repeat (first | refine blk_drewN ?_ _ | refine blk_drew ?_ | refine blk_alloc ?_ _)); exact BK141.out) hkp (fun hs_ => (fun e_ => (Kd.R_ne HO_11.out BK141.out (by decide)) e_) hs_)); have n4_ := Aside0.mk (blk_kept (by (with_reducible repeat (first | refine blk_drewN ?_ _ | refine blk_drew ?_ | refine blk_alloc ?_ _)); exact BK157.out) hkp (fun hs_ => (fun e_ => (Kd.R_ne HO_11.out BK157.out (by decide)) e_) hs_)); have n5_ := Aside0.mk (hb); clear HO_8; clear HO_11; clear HO_158000; clear BK141; clear BK157; clear HB; have HO_8 := n0_; have HO_11 := n1_; have HO_158000 := n2_; have BK141 := n3_; have BK157 := n4_; have HB := n5_; clear n0_ n1_ n2_ n3_ n4_ n5_; (try clear hb); (try clear hkp); (try clear hy0)) | ((with_reducible refine gate_callee (f := 18) rfl ?_); refine goesL_ (some 75) rfl rfl Tryd.func18 (by kernel_rfl) rfl #[.slice Ao81 t173.length co81, .int .i64 1] rfl (by (try simp only [List.map_toArray, List.map_cons, List.map_nil]); first | done | (rw [show t173.length = t158.length from (Kd.R_reads' HO_11.out).1.symm] <;> rfl) | rfl | (simp only [List.length_drop, List.length_take]; rfl)) ?_; (with_reducible refine (laws_heldInt32S.calls kj38 _ _ t173 1 t174 _ ?side1 ?side2 A56.out).mono ?_); (case side1 => repeat (first | exact (Kd.R_reads' HO_11.out).2.2 | (with_reducible refine Kd.C_alloc ?_ _) | (with_reducible refine Kd.C_drewN ?_ _) | (with_reducible refine Kd.C_drew ?_))); (case side2 => rw [show t173.length = t158.length from (Kd.R_reads' HO_11.out).1.symm]; exact (Kd.R_reads' HO_11.out).2.1); rintro e w' ⟨rfl, ⟨nd, rfl⟩⟩; refine ⟨_, rfl, ?_⟩))
                      go_ret
                      exact ⟨by first | rfl | (simp [errW_none, errW_some] <;> rfl) | (simp [*, errW_none, errW_some] <;> rfl), by repeat (first | (with_reducible first | exact HB.out | apply below_alloc | apply pw_below_drewN | apply below_drew1 | refine below_set ?_ GE141.out | refine below_set ?_ GE157.out) | exact HB.out)⟩
          · replace c37 := Bool.eq_false_iff.mpr c37
            subst c37
            have H1 : (some false) = some r := by rw [if_neg (show ¬ (false = true) by decide)] at H; exact H
            clear H
            have H := H1
            clear H1
            obtain rfl := Option.some.inj H
            try go_wp2
            have n0_ := Aside0.mk (Kd.R_drew HO_8.out)
            have n1_ := Aside0.mk (Kd.R_drew HO_11.out)
            have n2_ := Aside0.mk (Kd.R_drew HO_158000.out)
            have n3_ := Aside0.mk (blk_drew BK141.out)
            have n4_ := Aside0.mk (blk_drew BK157.out)
            have n5_ := Aside0.mk (below_drew1 HB.out)
            clear HO_8
            clear HO_11
            clear HO_158000
            clear BK141
            clear BK157
            clear HB
            have HO_8 := n0_
            have HO_11 := n1_
            have HO_158000 := n2_
            have BK141 := n3_
            have BK157 := n4_
            have HB := n5_
            clear n0_ n1_ n2_ n3_ n4_ n5_
            refine start_ (n := 5) (S := fun w' => w'.cell? ⟨gb157, 0, none⟩ = some (.slice Ao24 t152.length co24) ∧ w'.cell? ⟨gb157, 1, none⟩ = some (.int .i64 t155) ∧ w'.cell? ⟨gb157, 2, none⟩ = some (.int .i64 t156) ∧ w'.cell? ⟨gb141, 0, none⟩ = some (.slice A0_0 l0_0.length c0_0) ∧ w'.cell? ⟨gb141, 1, none⟩ = some (.int .i64 a0_1) ∧ w'.cell? ⟨gb141, 2, none⟩ = some (.int .i64 a0_2)) (ds := []) #[false, false, false, false, false] (by kernel_rfl) rfl rfl ⟨(blk_cell BK157.out 0).trans rfl, (blk_cell BK157.out 1).trans rfl, (blk_cell BK157.out 2).trans rfl, (blk_cell BK141.out 0).trans rfl, (blk_cell BK141.out 1).trans rfl, (blk_cell BK141.out 2).trans rfl⟩ (fun hHeld => ?_)
            generalize wc.drew = w83 at HO_8 HO_11 HO_158000 BK141 BK157 HB hHeld ⊢
            refine take_ (i := 0) (N := some 49) (v := ?_) (a' := ?_) #[true, false, false, false, false] rfl rfl (by kernel_rfl) (fun _ _ _ h => h) (Or.inl ⟨by rfl, ?_⟩) hHeld ?_ ?_
            rotate_left
            · rintro w' ⟨s0, s1, s2, s3, s4, s5⟩
              go_simp
              with_reducible rfl
            rotate_left
            · simp only [Act.put, List.setIfInBounds_toArray, List.set_cons_zero, List.set_cons_succ, i64_w, i32_w]
              rfl
            refine take_ (i := 1) (N := some 50) (v := ?_) (a' := ?_) #[true, true, false, false, false] rfl rfl (by kernel_rfl) (fun _ _ _ h => h) (Or.inl ⟨by rfl, ?_⟩) hHeld ?_ ?_
            rotate_left
            · rintro w' ⟨s0, s1, s2, s3, s4, s5⟩
              go_simp
              with_reducible rfl
            rotate_left
            · simp only [Act.put, List.setIfInBounds_toArray, List.set_cons_zero, List.set_cons_succ, i64_w, i32_w]
              rfl
            refine one_ (i := 2) (N := some 51) #[true, true, true, false, false] rfl rfl (by kernel_rfl) (by decide) (fun K hK => ?_)
            refine goes_ Tryd.func12 (by kernel_rfl) rfl #[.agg #[.slice A0_0 l0_0.length c0_0, .int .i64 a0_1, .int .i64 a0_2]] (by rfl) rfl rfl (by (try simp only [List.map_toArray, List.map_cons, List.map_nil]); first | done | rfl | (simp only [List.length_drop, List.length_take]; rfl)) ?_
            with_reducible refine (laws_toGap.calls kj12 _ _ l0_0 a0_1 a0_2 t163 t166 t167 _ ?side1 ?side2 A35.out).mono ?_
            (case side1 => repeat (first | exact (Kd.C_below HR0_0.out HB.out) | (with_reducible refine Kd.C_alloc ?_ _) | (with_reducible refine Kd.C_drewN ?_ _) | (with_reducible refine Kd.C_drew ?_)))
            (case side2 => exact HC0_0.out)
            rintro e w84 ⟨v164, rfl, ho0, hb⟩
            refine ⟨_, rfl, ?_⟩
            have n0_ := Aside0.mk (Kd.R_elder' (by (with_reducible repeat (first | apply Kd.R_alloc | apply Kd.R_drewN | apply Kd.R_drew)); exact HO_8.out) (Kd.R_base ho0) hb)
            have n1_ := Aside0.mk (Kd.R_elder' (by (with_reducible repeat (first | apply Kd.R_alloc | apply Kd.R_drewN | apply Kd.R_drew)); exact HO_11.out) (Kd.R_base ho0) hb)
            have n2_ := Aside0.mk (Kd.R_elder' (by (with_reducible repeat (first | apply Kd.R_alloc | apply Kd.R_drewN | apply Kd.R_drew)); exact HO_158000.out) (Kd.R_base ho0) hb)
            have n3_ := Aside0.mk (Kd.R_lower (Kd.R_new' (Kd.R_new' (Kd.R_new' ho0 (Kd.R_lt (by (with_reducible repeat (first | apply Kd.R_alloc | apply Kd.R_drewN | apply Kd.R_drew)); exact HO_8.out))) (Kd.R_lt (by (with_reducible repeat (first | apply Kd.R_alloc | apply Kd.R_drewN | apply Kd.R_drew)); exact HO_11.out))) (Kd.R_lt (by (with_reducible repeat (first | apply Kd.R_alloc | apply Kd.R_drewN | apply Kd.R_drew)); exact HO_158000.out))) (below_size (by repeat (first | (with_reducible first | exact HB.out | apply below_alloc | apply pw_below_drewN | apply below_drew1 | refine below_set ?_ GE141.out | refine below_set ?_ GE157.out) | exact HB.out))))
            have n4_ := Aside0.mk (blk_below (g := gb141) (o := .cells #[.slice A0_0 l0_0.length c0_0, .int .i64 a0_1, .int .i64 a0_2] 24 (0, 0)) (by (with_reducible repeat (first | refine blk_drewN ?_ _ | refine blk_drew ?_ | refine blk_alloc ?_ _)); exact BK141.out) hb)
            have n5_ := Aside0.mk (blk_below (g := gb157) (o := .cells #[.slice Ao24 t152.length co24, .int .i64 t155, .int .i64 t156] 28 (0, 0)) (by (with_reducible repeat (first | refine blk_drewN ?_ _ | refine blk_drew ?_ | refine blk_alloc ?_ _)); exact BK157.out) hb)
            have n6_ := Aside0.mk (below_step (by repeat (first | (with_reducible first | exact HB.out | apply below_alloc | apply pw_below_drewN | apply below_drew1 | refine below_set ?_ GE141.out | refine below_set ?_ GE157.out) | exact HB.out)) hb)
            clear HO_8
            clear HO_11
            clear HO_158000
            clear BK141
            clear BK157
            clear HB
            have HO_8 := n0_
            have HO_11 := n1_
            have HO_158000 := n2_
            have HO165 := n3_
            have BK141 := n4_
            have BK157 := n5_
            have HB := n6_
            clear n0_ n1_ n2_ n3_ n4_ n5_ n6_
            (try clear hb)
            (try clear hb2)
            (try clear hk)
            (try clear hi)
            (try clear ho0)
            obtain ⟨Ao85, co85, eo85⟩ := Kd.R_slice HO165.out
            (first | subst eo85 | (injection eo85 with f1_ f2_ f3_; have f4_ := f1_.symm; have f5_ := f3_.symm; clear f1_ f2_ f3_; subst f4_; subst f5_))
            refine hK.out _ _ ⟨(blk_cell BK157.out 0).trans rfl, (blk_cell BK157.out 1).trans rfl, (blk_cell BK157.out 2).trans rfl, (blk_cell BK141.out 0).trans rfl, (blk_cell BK141.out 1).trans rfl, (blk_cell BK141.out 2).trans rfl⟩ (fun hHeld => ?_)
            clear hK K
            refine norm_ (a' := ?_) ?_ ?_
            rotate_left
            · show Act.put _ (some 51) _ = _
              simp only [Act.put, List.setIfInBounds_toArray, List.set_cons_zero, List.set_cons_succ, i64_w, i32_w]
              rfl
            refine one_ (i := 3) (N := some 52) #[true, true, true, true, false] rfl rfl (by kernel_rfl) (by decide) (fun K hK => ?_)
            refine goes_ Tryd.func15 (by kernel_rfl) rfl #[.agg #[.slice Ao24 t152.length co24, .int .i64 t155, .int .i64 t156], .agg #[.slice Ao85 t163.length co85, .int .i64 t166, .int .i64 t167]] (by rfl) rfl rfl (by (try simp only [List.map_toArray, List.map_cons, List.map_nil]); first | done | rfl | (simp only [List.length_drop, List.length_take]; rfl)) ?_
            with_reducible refine (laws_eqGap.calls kj12 _ _ t152 t155 t156 _ _ t163 t166 t167 false _ ?side1 ?side2 ?side3 ?side4 A36.out).mono ?_
            (case side1 => repeat (first | exact (Kd.R_reads' HO_158000.out).2.2 | (with_reducible refine Kd.C_alloc ?_ _) | (with_reducible refine Kd.C_drewN ?_ _) | (with_reducible refine Kd.C_drew ?_)))
            (case side2 => exact (Kd.R_reads' HO_158000.out).2.1)
            (case side3 => repeat (first | exact (Kd.R_reads' HO165.out).2.2 | (with_reducible refine Kd.C_alloc ?_ _) | (with_reducible refine Kd.C_drewN ?_ _) | (with_reducible refine Kd.C_drew ?_)))
            (case side4 => exact (Kd.R_reads' HO165.out).2.1)
            rintro e w86 ⟨rfl, hb⟩
            refine ⟨_, rfl, ?_⟩
            have n0_ := Aside0.mk (Kd.R_below (by (with_reducible repeat (first | apply Kd.R_alloc | apply Kd.R_drewN | apply Kd.R_drew)); exact HO_8.out) hb)
            have n1_ := Aside0.mk (Kd.R_below (by (with_reducible repeat (first | apply Kd.R_alloc | apply Kd.R_drewN | apply Kd.R_drew)); exact HO_11.out) hb)
            have n2_ := Aside0.mk (Kd.R_below (by (with_reducible repeat (first | apply Kd.R_alloc | apply Kd.R_drewN | apply Kd.R_drew)); exact HO_158000.out) hb)
            have n3_ := Aside0.mk (Kd.R_below (by (with_reducible repeat (first | apply Kd.R_alloc | apply Kd.R_drewN | apply Kd.R_drew)); exact HO165.out) hb)
            have n4_ := Aside0.mk (blk_below (g := gb141) (o := .cells #[.slice A0_0 l0_0.length c0_0, .int .i64 a0_1, .int .i64 a0_2] 24 (0, 0)) (by (with_reducible repeat (first | refine blk_drewN ?_ _ | refine blk_drew ?_ | refine blk_alloc ?_ _)); exact BK141.out) hb)
            have n5_ := Aside0.mk (blk_below (g := gb157) (o := .cells #[.slice Ao24 t152.length co24, .int .i64 t155, .int .i64 t156] 28 (0, 0)) (by (with_reducible repeat (first | refine blk_drewN ?_ _ | refine blk_drew ?_ | refine blk_alloc ?_ _)); exact BK157.out) hb)
            have n6_ := Aside0.mk (below_step (by repeat (first | (with_reducible first | exact HB.out | apply below_alloc | apply pw_below_drewN | apply below_drew1 | refine below_set ?_ GE141.out | refine below_set ?_ GE157.out) | exact HB.out)) hb)
            clear HO_8
            clear HO_11
            clear HO_158000
            clear HO165
            clear BK141
            clear BK157
            clear HB
            have HO_8 := n0_
            have HO_11 := n1_
            have HO_158000 := n2_
            have HO165 := n3_
            have BK141 := n4_
            have BK157 := n5_
            have HB := n6_
            clear n0_ n1_ n2_ n3_ n4_ n5_ n6_
            (try clear hb)
            (try clear hb2)
            (try clear hk)
            (try clear hi)
            refine hK.out _ _ ⟨(blk_cell BK157.out 0).trans rfl, (blk_cell BK157.out 1).trans rfl, (blk_cell BK157.out 2).trans rfl, (blk_cell BK141.out 0).trans rfl, (blk_cell BK141.out 1).trans rfl, (blk_cell BK141.out 2).trans rfl⟩ (fun hHeld => ?_)
            clear hK K
            refine norm_ (a' := ?_) ?_ ?_
            rotate_left
            · show Act.put _ (some 52) _ = _
              simp only [Act.put, List.setIfInBounds_toArray, List.set_cons_zero, List.set_cons_succ, i64_w, i32_w]
              rfl
            refine pure_ (i := 4) (N := some 53) (v := ?_) (a' := ?_) #[true, true, true, true, true] rfl rfl (by kernel_rfl) (fun _ _ _ h => h) (Or.inl ⟨by rfl, ?_⟩) ?_ ?_
            rotate_left
            · intro w'
              go_simp
              with_reducible rfl
            rotate_left
            · simp only [Act.put, List.setIfInBounds_toArray, List.set_cons_zero, List.set_cons_succ, i64_w, i32_w]
              rfl
            refine done_ (by kernel_rfl) ?_
            try go_wp2
            go_ret
            exact ⟨by first | rfl | (simp [errW_none, errW_some] <;> rfl) | (simp [*, errW_none, errW_some] <;> rfl), by repeat (first | (with_reducible first | exact HB.out | apply below_alloc | apply pw_below_drewN | apply below_drew1 | refine below_set ?_ GE141.out | refine below_set ?_ GE157.out) | exact HB.out)⟩

end Go.Proofs.YtlacoameobpfgaaDoor.QFnExactGapRead
