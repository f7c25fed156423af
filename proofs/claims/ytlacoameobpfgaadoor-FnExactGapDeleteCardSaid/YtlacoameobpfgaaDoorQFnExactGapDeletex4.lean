/- What the law FnExactGapDelete reaches: each function as a plain function, and that the machine's call does it (written by a program). The condition, where there is one: errors.errorType reads as laid. -/
import Derived.Test.YtlacoameobpfgaaDoorQFnExactGapDeletex0
import Derived.Test.YtlacoameobpfgaaDoorQFnExactGapDeletex1
import Derived.Test.YtlacoameobpfgaaDoorQFnExactGapDeletex3
namespace Go.Proofs.YtlacoameobpfgaaDoor.QFnExactGapDelete
open Go.Proofs.YtlacoameobpfgaaDoor.Er
open Go.RowKit Go.Proofs.YtlacoameobpfgaaDoorW.PrintWords Go.Proofs.YtlacoameobpfgaaDoorW.PrintLast Go.Proofs.YtlacoameobpfgaaDoorW.PrintMore
attribute [local go_sem] max2_int min2_int max_two min_two max_three min_three max_four min_four   -- for this text's walks alone
set_option linter.unusedVariables false
set_option linter.unusedSimpArgs false

/-! ### laws_FnExactGapDelete: function 4 -/
mutual
def laws_FnExactGapDelete.j0 : Nat → Int → Int → Int → Int → Bool → List Int → Int → Int → List Int → Int → Int → List Int → Int → Int → List Int → Int → Int → Option (Bool)
  | 0, _, _, _, _, _, _, _, _, _, _, _, _, _, _, _, _, _ => none
  | k + 1, x1, x2, x9, x12, x48, x182000, x182001, x182002, x195000, x195001, x195002, x201000, x201001, x201002, x208000, x208001, x208002 => if x48 = true then (some false) else ((laws_toGap.f k x182000 x182001 x182002).bind fun bt209 => ((laws_eqGap.f k x201000 x201001 x201002 bt209.1 bt209.2.1 bt209.2.2).bind fun t214 => (if t214 = true then ((laws_markGap.f k x201000 x201001 x201002 1).bind fun bt215 => (if bt215.1 < 0 then (laws_FnExactGapDelete.j1 k x1 x2 x9 true x182000 x182001 x182002 x195000 x195001 x195002 x208000 x208001 x208002) else ((laws_eqGap.f k x208000 x208001 x208002 x195000 x195001 x195002).bind fun t217 => (if t217 = true then (laws_FnExactGapDelete.j1 k x1 x2 x9 (x12 != x9) x182000 x182001 x182002 x195000 x195001 x195002 x208000 x208001 x208002) else (laws_FnExactGapDelete.j1 k x1 x2 x9 true x182000 x182001 x182002 x195000 x195001 x195002 x208000 x208001 x208002))))) else (some false))))
def laws_FnExactGapDelete.j1 : Nat → Int → Int → Int → Bool → List Int → Int → Int → List Int → Int → Int → List Int → Int → Int → Option (Bool)
  | 0, _, _, _, _, _, _, _, _, _, _, _, _, _ => none
  | k + 1, x1, x2, x9, x69, x182000, x182001, x182002, x195000, x195001, x195002, x208000, x208001, x208002 => if x69 = true then (some false) else ((laws_markGap.f k x208000 x208001 x208002 1).bind fun bt218 => ((laws_heldGap.f k bt218.2 x208001 x208002 1).bind fun t220 => (if t220 < 0 then (some false) else (if t220 = bt218.1 then ((laws_toGap.f k x182000 x182001 x182002).bind fun bt221 => ((impl_GapDelete.f bt221.1 bt221.2.1 bt221.2.2 x1 x2).bind fun bt226 => ((laws_eqGap.f k bt226.1 bt226.2.1 bt226.2.2.1 x195000 x195001 x195002).bind fun t233 => (if t233 = true then (laws_FnExactGapDelete.j2 k bt218.1 (bt226.2.2.2 != x9) bt218.2 x208001 x208002) else (laws_FnExactGapDelete.j2 k bt218.1 true bt218.2 x208001 x208002))))) else (some false)))))
def laws_FnExactGapDelete.j2 : Nat → Int → Bool → List Int → Int → Int → Option (Bool)
  | 0, _, _, _, _, _ => none
  | k + 1, x14, x97, x208000, x208001, x208002 => if x97 = true then (some false) else ((laws_heldGap.f k x208000 x208001 x208002 1).bind fun t234 => (if t234 < 0 then (some false) else (if t234 = x14 then (some true) else (some false))))
end
def laws_FnExactGapDelete.f (k : Nat) (l0_0 : List Int) (a0_1 : Int) (a0_2 : Int) (a1 : Int) (a2 : Int) : Option (Bool) := (laws_szGap.f l0_0 a0_1 a0_2 1048576).bind fun t182 => (if t182 < 0 then (some true) else ((laws_toGap.f k l0_0 a0_1 a0_2).bind fun bt183 => ((spec_GapDelete.f k bt183.1 bt183.2.1 bt183.2.2 a1 a2).bind fun bt188 => ((laws_toGap.f k l0_0 a0_1 a0_2).bind fun bt195 => ((impl_GapDelete.f bt195.1 bt195.2.1 bt195.2.2 a1 a2).bind fun bt201 => ((laws_eqGap.f k bt201.1 bt201.2.1 bt201.2.2.1 bt188.1 bt188.2.1 bt188.2.2.1).bind fun t208 => (if t208 = true then (laws_FnExactGapDelete.j0 k a1 a2 bt188.2.2.2 bt201.2.2.2 (bt201.2.2.2 != bt188.2.2.2) l0_0 a0_1 a0_2 bt188.1 bt188.2.1 bt188.2.2.1 bt195.1 bt195.2.1 bt195.2.2 bt201.1 bt201.2.1 bt201.2.2.1) else (laws_FnExactGapDelete.j0 k a1 a2 bt188.2.2.2 bt201.2.2.2 true l0_0 a0_1 a0_2 bt188.1 bt188.2.1 bt188.2.2.1 bt195.1 bt195.2.1 bt195.2.2 bt201.1 bt201.2.1 bt201.2.2.1))))))))
theorem laws_FnExactGapDelete.mono_l : ∀ k, (∀ y0 y1 y2 y3 y4 y5 y6 y7 y8 y9 y10 y11 y12 y13 y14 y15 y16, LeO (laws_FnExactGapDelete.j0 k y0 y1 y2 y3 y4 y5 y6 y7 y8 y9 y10 y11 y12 y13 y14 y15 y16) (laws_FnExactGapDelete.j0 (k + 1) y0 y1 y2 y3 y4 y5 y6 y7 y8 y9 y10 y11 y12 y13 y14 y15 y16)) ∧ (∀ y0 y1 y2 y3 y4 y5 y6 y7 y8 y9 y10 y11 y12, LeO (laws_FnExactGapDelete.j1 k y0 y1 y2 y3 y4 y5 y6 y7 y8 y9 y10 y11 y12) (laws_FnExactGapDelete.j1 (k + 1) y0 y1 y2 y3 y4 y5 y6 y7 y8 y9 y10 y11 y12)) ∧ (∀ y0 y1 y2 y3 y4, LeO (laws_FnExactGapDelete.j2 k y0 y1 y2 y3 y4) (laws_FnExactGapDelete.j2 (k + 1) y0 y1 y2 y3 y4))
  | 0 => ⟨fun _ _ _ _ _ _ _ _ _ _ _ _ _ _ _ _ _ r h => by simp [laws_FnExactGapDelete.j0] at h, fun _ _ _ _ _ _ _ _ _ _ _ _ _ r h => by simp [laws_FnExactGapDelete.j1] at h, fun _ _ _ _ _ r h => by simp [laws_FnExactGapDelete.j2] at h⟩
  | k + 1 => by
    obtain ⟨ih0, ih1, ih2⟩ := laws_FnExactGapDelete.mono_l k
    refine ⟨?_, ?_, ?_⟩
    · intro y0 y1 y2 y3 y4 y5 y6 y7 y8 y9 y10 y11 y12 y13 y14 y15 y16
      unfold laws_FnExactGapDelete.j0
      repeat' first
      | (with_reducible exact ih0 _ _ _ _ _ _ _ _ _ _ _ _ _ _ _ _ _)
      | (with_reducible exact ih1 _ _ _ _ _ _ _ _ _ _ _ _ _)
      | (with_reducible exact ih2 _ _ _ _ _)
      | (with_reducible exact laws_eqGap.mono _ _ _ _ _ _ _)
      | (with_reducible exact laws_heldGap.mono _ _ _ _ _)
      | (with_reducible exact laws_markGap.mono _ _ _ _ _)
      | (with_reducible exact laws_toGap.mono _ _ _ _)
      | (with_reducible exact spec_GapDelete.mono _ _ _ _ _ _)
      | (with_reducible exact LeO.refl _)
      | (with_reducible exact LeO.none _)
      | (with_reducible refine LeO.ite ?_ ?_)
      | (with_reducible refine LeO.bind ?_ (fun _ => ?_))
      | exact ih0 _ _ _ _ _ _ _ _ _ _ _ _ _ _ _ _ _
      | exact ih1 _ _ _ _ _ _ _ _ _ _ _ _ _
      | exact ih2 _ _ _ _ _
      | exact laws_eqGap.mono _ _ _ _ _ _ _
      | exact laws_heldGap.mono _ _ _ _ _
      | exact laws_markGap.mono _ _ _ _ _
      | exact laws_toGap.mono _ _ _ _
      | exact spec_GapDelete.mono _ _ _ _ _ _
      | exact LeO.none _
      | refine LeO.ite ?_ ?_
      | refine LeO.bind ?_ (fun _ => ?_)
    · intro y0 y1 y2 y3 y4 y5 y6 y7 y8 y9 y10 y11 y12
      unfold laws_FnExactGapDelete.j1
      repeat' first
      | (with_reducible exact ih0 _ _ _ _ _ _ _ _ _ _ _ _ _ _ _ _ _)
      | (with_reducible exact ih1 _ _ _ _ _ _ _ _ _ _ _ _ _)
      | (with_reducible exact ih2 _ _ _ _ _)
      | (with_reducible exact laws_eqGap.mono _ _ _ _ _ _ _)
      | (with_reducible exact laws_heldGap.mono _ _ _ _ _)
      | (with_reducible exact laws_markGap.mono _ _ _ _ _)
      | (with_reducible exact laws_toGap.mono _ _ _ _)
      | (with_reducible exact spec_GapDelete.mono _ _ _ _ _ _)
      | (with_reducible exact LeO.refl _)
      | (with_reducible exact LeO.none _)
      | (with_reducible refine LeO.ite ?_ ?_)
      | (with_reducible refine LeO.bind ?_ (fun _ => ?_))
      | exact ih0 _ _ _ _ _ _ _ _ _ _ _ _ _ _ _ _ _
      | exact ih1 _ _ _ _ _ _ _ _ _ _ _ _ _
      | exact ih2 _ _ _ _ _
      | exact laws_eqGap.mono _ _ _ _ _ _ _
      | exact laws_heldGap.mono _ _ _ _ _
      | exact laws_markGap.mono _ _ _ _ _
      | exact laws_toGap.mono _ _ _ _
      | exact spec_GapDelete.mono _ _ _ _ _ _
      | exact LeO.none _
      | refine LeO.ite ?_ ?_
      | refine LeO.bind ?_ (fun _ => ?_)
    · intro y0 y1 y2 y3 y4
      unfold laws_FnExactGapDelete.j2
      repeat' first
      | (with_reducible exact ih0 _ _ _ _ _ _ _ _ _ _ _ _ _ _ _ _ _)
      | (with_reducible exact ih1 _ _ _ _ _ _ _ _ _ _ _ _ _)
      | (with_reducible exact ih2 _ _ _ _ _)
      | (with_reducible exact laws_eqGap.mono _ _ _ _ _ _ _)
      | (with_reducible exact laws_heldGap.mono _ _ _ _ _)
      | (with_reducible exact laws_markGap.mono _ _ _ _ _)
      | (with_reducible exact laws_toGap.mono _ _ _ _)
      | (with_reducible exact spec_GapDelete.mono _ _ _ _ _ _)
      | (with_reducible exact LeO.refl _)
      | (with_reducible exact LeO.none _)
      | (with_reducible refine LeO.ite ?_ ?_)
      | (with_reducible refine LeO.bind ?_ (fun _ => ?_))
      | exact ih0 _ _ _ _ _ _ _ _ _ _ _ _ _ _ _ _ _
      | exact ih1 _ _ _ _ _ _ _ _ _ _ _ _ _
      | exact ih2 _ _ _ _ _
      | exact laws_eqGap.mono _ _ _ _ _ _ _
      | exact laws_heldGap.mono _ _ _ _ _
      | exact laws_markGap.mono _ _ _ _ _
      | exact laws_toGap.mono _ _ _ _
      | exact spec_GapDelete.mono _ _ _ _ _ _
      | exact LeO.none _
      | refine LeO.ite ?_ ?_
      | refine LeO.bind ?_ (fun _ => ?_)
theorem laws_FnExactGapDelete.mono : ∀ a0 a1 a2 a3 a4 k, LeO (laws_FnExactGapDelete.f k a0 a1 a2 a3 a4) (laws_FnExactGapDelete.f (k + 1) a0 a1 a2 a3 a4) := by
  intro a0 a1 a2 a3 a4 k
  obtain ⟨ih0, ih1, ih2⟩ := laws_FnExactGapDelete.mono_l k
  unfold laws_FnExactGapDelete.f
  repeat' first
      | (with_reducible exact ih0 _ _ _ _ _ _ _ _ _ _ _ _ _ _ _ _ _)
      | (with_reducible exact ih1 _ _ _ _ _ _ _ _ _ _ _ _ _)
      | (with_reducible exact ih2 _ _ _ _ _)
      | (with_reducible exact laws_eqGap.mono _ _ _ _ _ _ _)
      | (with_reducible exact laws_heldGap.mono _ _ _ _ _)
      | (with_reducible exact laws_markGap.mono _ _ _ _ _)
      | (with_reducible exact laws_toGap.mono _ _ _ _)
      | (with_reducible exact spec_GapDelete.mono _ _ _ _ _ _)
      | (with_reducible exact LeO.refl _)
      | (with_reducible exact LeO.none _)
      | (with_reducible refine LeO.ite ?_ ?_)
      | (with_reducible refine LeO.bind ?_ (fun _ => ?_))
      | exact ih0 _ _ _ _ _ _ _ _ _ _ _ _ _ _ _ _ _
      | exact ih1 _ _ _ _ _ _ _ _ _ _ _ _ _
      | exact ih2 _ _ _ _ _
      | exact laws_eqGap.mono _ _ _ _ _ _ _
      | exact laws_heldGap.mono _ _ _ _ _
      | exact laws_markGap.mono _ _ _ _ _
      | exact laws_toGap.mono _ _ _ _
      | exact spec_GapDelete.mono _ _ _ _ _ _
      | exact LeO.none _
      | refine LeO.ite ?_ ?_
      | refine LeO.bind ?_ (fun _ => ?_)
set_option maxHeartbeats 8000000 in
set_option maxRecDepth 100000 in
theorem laws_FnExactGapDelete.calls (k : Nat) (A0_0 : Option Addr) (c0_0 : Nat) (l0_0 : List Int) (a0_1 : Int) (a0_2 : Int) (a1 : Int) (a2 : Int) (r : Bool) (w : World) (hr0_0 : Kd.C (Kd.int .i32) w A0_0 l0_0.length l0_0) (hc0_0 : l0_0.length ≤ c0_0)  (hgG_ : HG w) (h : laws_FnExactGapDelete.f k l0_0 a0_1 a0_2 a1 a2 = some r) :
    Calls Tryd.prog 4 #[.agg #[.slice A0_0 l0_0.length c0_0, .int .i64 a0_1, .int .i64 a0_2], .int .i64 a1, .int .i64 a2] w fun e w' => e = .returned (.bool r) ∧ Below w.heap.size w w' := by
  have hu24 := Tryd.underlying24
  have hu28 := Tryd.underlying28
  have HR0_0 := Aside0.mk hr0_0
  have HC0_0 := Aside0.mk hc0_0
  clear hr0_0 hc0_0
  have HB := Aside0.mk (Below.refl w.heap.size w)
  have H : ((laws_szGap.f l0_0 a0_1 a0_2 1048576).bind fun t182 => (if t182 < 0 then (some true) else ((laws_toGap.f k l0_0 a0_1 a0_2).bind fun bt183 => ((spec_GapDelete.f k bt183.1 bt183.2.1 bt183.2.2 a1 a2).bind fun bt188 => ((laws_toGap.f k l0_0 a0_1 a0_2).bind fun bt195 => ((impl_GapDelete.f bt195.1 bt195.2.1 bt195.2.2 a1 a2).bind fun bt201 => ((laws_eqGap.f k bt201.1 bt201.2.1 bt201.2.2.1 bt188.1 bt188.2.1 bt188.2.2.1).bind fun t208 => (if t208 = true then (laws_FnExactGapDelete.j0 k a1 a2 bt188.2.2.2 bt201.2.2.2 (bt201.2.2.2 != bt188.2.2.2) l0_0 a0_1 a0_2 bt188.1 bt188.2.1 bt188.2.2.1 bt195.1 bt195.2.1 bt195.2.2 bt201.1 bt201.2.1 bt201.2.2.1) else (laws_FnExactGapDelete.j0 k a1 a2 bt188.2.2.2 bt201.2.2.2 true l0_0 a0_1 a0_2 bt188.1 bt188.2.1 bt188.2.2.1 bt195.1 bt195.2.1 bt195.2.2 bt201.1 bt201.2.1 bt201.2.2.1))))))))) = some r := h
  clear h
  replace H := Option.bind_eq_some_iff.mp H
  obtain ⟨t182, A40, H⟩ := H
  replace H : (if t182 < 0 then (some true) else ((laws_toGap.f k l0_0 a0_1 a0_2).bind fun bt183 => ((spec_GapDelete.f k bt183.1 bt183.2.1 bt183.2.2 a1 a2).bind fun bt188 => ((laws_toGap.f k l0_0 a0_1 a0_2).bind fun bt195 => ((impl_GapDelete.f bt195.1 bt195.2.1 bt195.2.2 a1 a2).bind fun bt201 => ((laws_eqGap.f k bt201.1 bt201.2.1 bt201.2.2.1 bt188.1 bt188.2.1 bt188.2.2.1).bind fun t208 => (if t208 = true then (laws_FnExactGapDelete.j0 k a1 a2 bt188.2.2.2 bt201.2.2.2 (bt201.2.2.2 != bt188.2.2.2) l0_0 a0_1 a0_2 bt188.1 bt188.2.1 bt188.2.2.1 bt195.1 bt195.2.1 bt195.2.2 bt201.1 bt201.2.1 bt201.2.2.1) else (laws_FnExactGapDelete.j0 k a1 a2 bt188.2.2.2 bt201.2.2.2 true l0_0 a0_1 a0_2 bt188.1 bt188.2.1 bt188.2.2.1 bt195.1 bt195.2.1 bt195.2.2 bt201.1 bt201.2.1 bt201.2.2.1)))))))) = some r := H
  have A4 := Aside0.mk A40
  clear A40
  by_cases c5 : t182 < 0
  · rw [if_pos c5] at H
    have c5b0 : decide (t182 < 0) = true := decide_eq_true c5
    clear c5
    obtain rfl := Option.some.inj H
    go_enter Tryd.func4, Tryd.ntmps4
    go_wp2_with (first | ((with_reducible refine gate_dst (N := 3) rfl ?_); refine box_event ?hg (N := 3) ?hd (cs := #[.slice A0_0 l0_0.length c0_0, .int .i64 a0_1, .int .i64 a0_2]) (t := 24) ?hr ?_; (case hd => rfl); (case hg => rfl); (case hr => first | (go_simp; done) | (go_simp; rfl)); intro gb181 hg w6 hbox hb; have n0_ := Aside0.mk (below_step (by repeat (first | (with_reducible first | exact HB.out | apply below_alloc | apply pw_below_drewN | apply below_drew1) | exact HB.out)) hb); have n1_ := Aside0.mk (hbox); have n2_ := Aside0.mk ((by rw [hg]; exact (below_size (by repeat (first | (with_reducible first | exact HB.out | apply below_alloc | apply pw_below_drewN | apply below_drew1) | exact HB.out))) : w.heap.size ≤ gb181)); have n3_ := Aside0.mk ((by rw [hg]; exact (below_size (by repeat (first | (with_reducible first | exact HB.out | apply below_alloc | apply pw_below_drewN | apply below_drew1) | exact HB.out))) : w.heap.size ≤ gb181)); clear HB; have HB := n0_; have BK181 := n1_; have GW181 := n2_; have GE181 := n3_; clear n0_ n1_ n2_ n3_; clear hb hbox hg; have hcz7_0 : w6.cell? ⟨gb181, 0, none⟩ = some (.slice A0_0 l0_0.length c0_0) := (blk_cell BK181.out 0).trans rfl; have hcz7_1 : w6.cell? ⟨gb181, 1, none⟩ = some (.int .i64 a0_1) := (blk_cell BK181.out 1).trans rfl; have hcz7_2 : w6.cell? ⟨gb181, 2, none⟩ = some (.int .i64 a0_2) := (blk_cell BK181.out 2).trans rfl; have hfz7_0 := blk_frozen BK181.out 0; have hfz7_1 := blk_frozen BK181.out 1; have hfz7_2 := blk_frozen BK181.out 2) | ((with_reducible refine gate_callee (f := 10) rfl ?_); refine goesL_ (some 20) rfl rfl Tryd.func10 (by kernel_rfl) rfl #[.agg #[.slice A0_0 l0_0.length c0_0, .int .i64 a0_1, .int .i64 a0_2], .int .i64 1048576] rfl (by (try simp only [List.map_toArray, List.map_cons, List.map_nil]); first | done | rfl | (simp only [List.length_drop, List.length_take]; rfl)) ?_; (with_reducible refine (laws_szGap.calls _ _ l0_0 a0_1 a0_2 1048576 t182 _ ?side1 ?side2 A4.out).mono ?_); (case side1 => repeat (first | exact (Kd.C_below HR0_0.out HB.out) | (with_reducible refine Kd.C_alloc ?_ _) | (with_reducible refine Kd.C_drewN ?_ _) | (with_reducible refine Kd.C_drew ?_))); (case side2 => exact HC0_0.out); rintro e w8 ⟨rfl, hb⟩; refine ⟨_, rfl, ?_⟩; have n0_ := Aside0.mk (blk_below (g := gb181) (o := .cells #[.slice A0_0 l0_0.length c0_0, .int .i64 a0_1, .int .i64 a0_2] 24 (0, 0)) (by (with_reducible repeat (first | refine blk_drewN ?_ _ | refine blk_drew ?_ | refine blk_alloc ?_ _)); exact BK181.out) hb); have n1_ := Aside0.mk (below_step (by repeat (first | (with_reducible first | exact HB.out | apply below_alloc | apply pw_below_drewN | apply below_drew1 | refine below_set ?_ GE181.out) | exact HB.out)) hb); clear BK181; clear HB; have BK181 := n0_; have HB := n1_; clear n0_ n1_; (try clear hb); (try clear hb2); (try clear hk); (try clear hi)))
    go_ret
    exact ⟨by first | rfl | (simp [errW_none, errW_some] <;> rfl) | (simp [*, errW_none, errW_some] <;> rfl), by repeat (first | (with_reducible first | exact HB.out | apply below_alloc | apply pw_below_drewN | apply below_drew1 | refine below_set ?_ GE181.out) | exact HB.out)⟩
  · rw [if_neg c5] at H
    have c5b0 : decide (t182 < 0) = false := decide_eq_false c5
    clear c5
    replace H := Option.bind_eq_some_iff.mp H
    obtain ⟨⟨t183, t186, t187⟩, A90, H⟩ := H
    replace H : ((spec_GapDelete.f k t183 t186 t187 a1 a2).bind fun bt188 => ((laws_toGap.f k l0_0 a0_1 a0_2).bind fun bt195 => ((impl_GapDelete.f bt195.1 bt195.2.1 bt195.2.2 a1 a2).bind fun bt201 => ((laws_eqGap.f k bt201.1 bt201.2.1 bt201.2.2.1 bt188.1 bt188.2.1 bt188.2.2.1).bind fun t208 => (if t208 = true then (laws_FnExactGapDelete.j0 k a1 a2 bt188.2.2.2 bt201.2.2.2 (bt201.2.2.2 != bt188.2.2.2) l0_0 a0_1 a0_2 bt188.1 bt188.2.1 bt188.2.2.1 bt195.1 bt195.2.1 bt195.2.2 bt201.1 bt201.2.1 bt201.2.2.1) else (laws_FnExactGapDelete.j0 k a1 a2 bt188.2.2.2 bt201.2.2.2 true l0_0 a0_1 a0_2 bt188.1 bt188.2.1 bt188.2.2.1 bt195.1 bt195.2.1 bt195.2.2 bt201.1 bt201.2.1 bt201.2.2.1)))))) = some r := H
    have A9 := Aside0.mk A90
    clear A90
    replace H := Option.bind_eq_some_iff.mp H
    obtain ⟨⟨t188, t191, t192, t193⟩, A100, H⟩ := H
    replace H : ((laws_toGap.f k l0_0 a0_1 a0_2).bind fun bt195 => ((impl_GapDelete.f bt195.1 bt195.2.1 bt195.2.2 a1 a2).bind fun bt201 => ((laws_eqGap.f k bt201.1 bt201.2.1 bt201.2.2.1 t188 t191 t192).bind fun t208 => (if t208 = true then (laws_FnExactGapDelete.j0 k a1 a2 t193 bt201.2.2.2 (bt201.2.2.2 != t193) l0_0 a0_1 a0_2 t188 t191 t192 bt195.1 bt195.2.1 bt195.2.2 bt201.1 bt201.2.1 bt201.2.2.1) else (laws_FnExactGapDelete.j0 k a1 a2 t193 bt201.2.2.2 true l0_0 a0_1 a0_2 t188 t191 t192 bt195.1 bt195.2.1 bt195.2.2 bt201.1 bt201.2.1 bt201.2.2.1))))) = some r := H
    have A10 := Aside0.mk A100
    clear A100
    replace H := Option.bind_eq_some_iff.mp H
    obtain ⟨⟨t195, t198, t199⟩, A110, H⟩ := H
    replace H : ((impl_GapDelete.f t195 t198 t199 a1 a2).bind fun bt201 => ((laws_eqGap.f k bt201.1 bt201.2.1 bt201.2.2.1 t188 t191 t192).bind fun t208 => (if t208 = true then (laws_FnExactGapDelete.j0 k a1 a2 t193 bt201.2.2.2 (bt201.2.2.2 != t193) l0_0 a0_1 a0_2 t188 t191 t192 t195 t198 t199 bt201.1 bt201.2.1 bt201.2.2.1) else (laws_FnExactGapDelete.j0 k a1 a2 t193 bt201.2.2.2 true l0_0 a0_1 a0_2 t188 t191 t192 t195 t198 t199 bt201.1 bt201.2.1 bt201.2.2.1)))) = some r := H
    have A11 := Aside0.mk A110
    clear A110
    replace H := Option.bind_eq_some_iff.mp H
    obtain ⟨⟨t201, t204, t205, t206⟩, A120, H⟩ := H
    replace H : ((laws_eqGap.f k t201 t204 t205 t188 t191 t192).bind fun t208 => (if t208 = true then (laws_FnExactGapDelete.j0 k a1 a2 t193 t206 (t206 != t193) l0_0 a0_1 a0_2 t188 t191 t192 t195 t198 t199 t201 t204 t205) else (laws_FnExactGapDelete.j0 k a1 a2 t193 t206 true l0_0 a0_1 a0_2 t188 t191 t192 t195 t198 t199 t201 t204 t205))) = some r := H
    have A12 := Aside0.mk A120
    clear A120
    have HC13 := Aside0.mk H
    clear H
    go_enter Tryd.func4, Tryd.ntmps4
    go_upto_region 8 with (first | ((with_reducible refine gate_dst (N := 3) rfl ?_); refine box_event ?hg (N := 3) ?hd (cs := #[.slice A0_0 l0_0.length c0_0, .int .i64 a0_1, .int .i64 a0_2]) (t := 24) ?hr ?_; (case hd => rfl); (case hg => rfl); (case hr => first | (go_simp; done) | (go_simp; rfl)); intro gb181 hg w14 hbox hb; have n0_ := Aside0.mk (below_step (by repeat (first | (with_reducible first | exact HB.out | apply below_alloc | apply pw_below_drewN | apply below_drew1) | exact HB.out)) hb); have n1_ := Aside0.mk (hbox); have n2_ := Aside0.mk ((by rw [hg]; exact (below_size (by repeat (first | (with_reducible first | exact HB.out | apply below_alloc | apply pw_below_drewN | apply below_drew1) | exact HB.out))) : w.heap.size ≤ gb181)); have n3_ := Aside0.mk ((by rw [hg]; exact (below_size (by repeat (first | (with_reducible first | exact HB.out | apply below_alloc | apply pw_below_drewN | apply below_drew1) | exact HB.out))) : w.heap.size ≤ gb181)); clear HB; have HB := n0_; have BK181 := n1_; have GW181 := n2_; have GE181 := n3_; clear n0_ n1_ n2_ n3_; clear hb hbox hg; have hcz15_0 : w14.cell? ⟨gb181, 0, none⟩ = some (.slice A0_0 l0_0.length c0_0) := (blk_cell BK181.out 0).trans rfl; have hcz15_1 : w14.cell? ⟨gb181, 1, none⟩ = some (.int .i64 a0_1) := (blk_cell BK181.out 1).trans rfl; have hcz15_2 : w14.cell? ⟨gb181, 2, none⟩ = some (.int .i64 a0_2) := (blk_cell BK181.out 2).trans rfl; have hfz15_0 := blk_frozen BK181.out 0; have hfz15_1 := blk_frozen BK181.out 1; have hfz15_2 := blk_frozen BK181.out 2) | ((with_reducible refine gate_callee (f := 10) rfl ?_); refine goesL_ (some 20) rfl rfl Tryd.func10 (by kernel_rfl) rfl #[.agg #[.slice A0_0 l0_0.length c0_0, .int .i64 a0_1, .int .i64 a0_2], .int .i64 1048576] rfl (by (try simp only [List.map_toArray, List.map_cons, List.map_nil]); first | done | rfl | (simp only [List.length_drop, List.length_take]; rfl)) ?_; (with_reducible refine (laws_szGap.calls _ _ l0_0 a0_1 a0_2 1048576 t182 _ ?side1 ?side2 A4.out).mono ?_); (case side1 => repeat (first | exact (Kd.C_below HR0_0.out HB.out) | (with_reducible refine Kd.C_alloc ?_ _) | (with_reducible refine Kd.C_drewN ?_ _) | (with_reducible refine Kd.C_drew ?_))); (case side2 => exact HC0_0.out); rintro e w16 ⟨rfl, hb⟩; refine ⟨_, rfl, ?_⟩; have n0_ := Aside0.mk (blk_below (g := gb181) (o := .cells #[.slice A0_0 l0_0.length c0_0, .int .i64 a0_1, .int .i64 a0_2] 24 (0, 0)) (by (with_reducible repeat (first | refine blk_drewN ?_ _ | refine blk_drew ?_ | refine blk_alloc ?_ _)); exact BK181.out) hb); have n1_ := Aside0.mk (below_step (by repeat (first | (with_reducible first | exact HB.out | apply below_alloc | apply pw_below_drewN | apply below_drew1 | refine below_set ?_ GE181.out) | exact HB.out)) hb); clear BK181; clear HB; have BK181 := n0_; have HB := n1_; clear n0_ n1_; (try clear hb); (try clear hb2); (try clear hk); (try clear hi); have hcz17_0 : w16.cell? ⟨gb181, 0, none⟩ = some (.slice A0_0 l0_0.length c0_0) := (blk_cell BK181.out 0).trans rfl; have hcz17_1 : w16.cell? ⟨gb181, 1, none⟩ = some (.int .i64 a0_1) := (blk_cell BK181.out 1).trans rfl; have hcz17_2 : w16.cell? ⟨gb181, 2, none⟩ = some (.int .i64 a0_2) := (blk_cell BK181.out 2).trans rfl; have hfz17_0 := blk_frozen BK181.out 0; have hfz17_1 := blk_frozen BK181.out 1; have hfz17_2 := blk_frozen BK181.out 2) | ((with_reducible refine gate_callee (f := 12) rfl ?_); refine goesL_ (some 25) rfl rfl Tryd.func12 (by kernel_rfl) rfl #[.agg #[.slice A0_0 l0_0.length c0_0, .int .i64 a0_1, .int .i64 a0_2]] rfl (by (try simp only [List.map_toArray, List.map_cons, List.map_nil]); first | done | rfl | (simp only [List.length_drop, List.length_take]; rfl)) ?_; (with_reducible refine (laws_toGap.calls k _ _ l0_0 a0_1 a0_2 t183 t186 t187 _ ?side1 ?side2 A9.out).mono ?_); (case side1 => repeat (first | exact (Kd.C_below HR0_0.out HB.out) | (with_reducible refine Kd.C_alloc ?_ _) | (with_reducible refine Kd.C_drewN ?_ _) | (with_reducible refine Kd.C_drew ?_))); (case side2 => exact HC0_0.out); rintro e w18 ⟨v184, rfl, ho0, hb⟩; refine ⟨_, rfl, ?_⟩; have n0_ := Aside0.mk (Kd.R_lower ho0 (below_size (by repeat (first | (with_reducible first | exact HB.out | apply below_alloc | apply pw_below_drewN | apply below_drew1 | refine below_set ?_ GE181.out) | exact HB.out)))); have n1_ := Aside0.mk (blk_below (g := gb181) (o := .cells #[.slice A0_0 l0_0.length c0_0, .int .i64 a0_1, .int .i64 a0_2] 24 (0, 0)) (by (with_reducible repeat (first | refine blk_drewN ?_ _ | refine blk_drew ?_ | refine blk_alloc ?_ _)); exact BK181.out) hb); have n2_ := Aside0.mk (below_step (by repeat (first | (with_reducible first | exact HB.out | apply below_alloc | apply pw_below_drewN | apply below_drew1 | refine below_set ?_ GE181.out) | exact HB.out)) hb); clear BK181; clear HB; have HO185 := n0_; have BK181 := n1_; have HB := n2_; clear n0_ n1_ n2_; (try clear hb); (try clear hb2); (try clear hk); (try clear hi); (try clear ho0); obtain ⟨Ao19, co19, eo19⟩ := Kd.R_slice HO185.out; subst eo19) | ((with_reducible refine gate_callee (f := 19) rfl ?_); refine goesL_ (some 28) rfl rfl Tryd.func19 (by kernel_rfl) rfl #[.agg #[.slice Ao19 t183.length co19, .int .i64 t186, .int .i64 t187], .int .i64 a1, .int .i64 a2] rfl (by (try simp only [List.map_toArray, List.map_cons, List.map_nil]); first | done | rfl | (simp only [List.length_drop, List.length_take]; rfl)) ?_; (with_reducible refine (spec_GapDelete.calls k _ _ t183 t186 t187 a1 a2 t188 t191 t192 t193 _ ?side1 ?side2 A10.out).mono ?_); (case side1 => repeat (first | exact (Kd.R_reads' HO185.out).2.2 | (with_reducible refine Kd.C_alloc ?_ _) | (with_reducible refine Kd.C_drewN ?_ _) | (with_reducible refine Kd.C_drew ?_))); (case side2 => exact (Kd.R_reads' HO185.out).2.1); rintro e w20 ⟨v189, rfl, ho0, hb⟩; refine ⟨_, rfl, ?_⟩; have n0_ := Aside0.mk (Kd.R_elder' (by (with_reducible repeat (first | apply Kd.R_alloc | apply Kd.R_drewN | apply Kd.R_drew)); exact HO185.out) (Kd.R_base ho0) hb); have n1_ := Aside0.mk (Kd.R_lower (Kd.R_new' ho0 (Kd.R_lt (by (with_reducible repeat (first | apply Kd.R_alloc | apply Kd.R_drewN | apply Kd.R_drew)); exact HO185.out))) (below_size (by repeat (first | (with_reducible first | exact HB.out | apply below_alloc | apply pw_below_drewN | apply below_drew1 | refine below_set ?_ GE181.out) | exact HB.out)))); have n2_ := Aside0.mk (blk_below (g := gb181) (o := .cells #[.slice A0_0 l0_0.length c0_0, .int .i64 a0_1, .int .i64 a0_2] 24 (0, 0)) (by (with_reducible repeat (first | refine blk_drewN ?_ _ | refine blk_drew ?_ | refine blk_alloc ?_ _)); exact BK181.out) hb); have n3_ := Aside0.mk (below_step (by repeat (first | (with_reducible first | exact HB.out | apply below_alloc | apply pw_below_drewN | apply below_drew1 | refine below_set ?_ GE181.out) | exact HB.out)) hb); clear HO185; clear BK181; clear HB; have HO185 := n0_; have HO190 := n1_; have BK181 := n2_; have HB := n3_; clear n0_ n1_ n2_ n3_; (try clear hb); (try clear hb2); (try clear hk); (try clear hi); (try clear ho0)) | ((with_reducible refine gate_dst (N := 8) rfl ?_); refine box_event ?hg (N := 8) ?hd (cs := #[.slice none 0 0, .int .i64 0, .int .i64 0]) (t := 28) ?hr ?_; (case hd => rfl); (case hg => rfl); (case hr => first | (go_simp; done) | (go_simp; rfl)); intro gb194 hg w21 hbox hb; have n0_ := Aside0.mk (Kd.R_below (by (with_reducible repeat (first | apply Kd.R_alloc | apply Kd.R_drewN | apply Kd.R_drew)); exact HO185.out) hb); have n1_ := Aside0.mk (Kd.R_below (by (with_reducible repeat (first | apply Kd.R_alloc | apply Kd.R_drewN | apply Kd.R_drew)); exact HO190.out) hb); have n2_ := Aside0.mk (blk_below (g := gb181) (o := .cells #[.slice A0_0 l0_0.length c0_0, .int .i64 a0_1, .int .i64 a0_2] 24 (0, 0)) (by (with_reducible repeat (first | refine blk_drewN ?_ _ | refine blk_drew ?_ | refine blk_alloc ?_ _)); exact BK181.out) hb); have n3_ := Aside0.mk (below_step (by repeat (first | (with_reducible first | exact HB.out | apply below_alloc | apply pw_below_drewN | apply below_drew1 | refine below_set ?_ GE181.out) | exact HB.out)) hb); have n4_ := Aside0.mk (hbox); have n5_ := Aside0.mk ((by rw [hg]; exact (below_size (by repeat (first | (with_reducible first | exact HB.out | apply below_alloc | apply pw_below_drewN | apply below_drew1 | refine below_set ?_ GE181.out) | exact HB.out))) : w.heap.size ≤ gb194)); have n6_ := Aside0.mk ((by rw [hg]; exact (below_size (by repeat (first | (with_reducible first | exact HB.out | apply below_alloc | apply pw_below_drewN | apply below_drew1 | refine below_set ?_ GE181.out) | exact HB.out))) : w.heap.size ≤ gb194)); have n7_ := Aside0.mk ((by rw [hg]; exact Nat.ne_of_lt (blk_lt (g := gb181) (o := .cells #[.slice A0_0 l0_0.length c0_0, .int .i64 a0_1, .int .i64 a0_2] 24 (0, 0)) (by (with_reducible repeat (first | refine blk_drewN ?_ _ | refine blk_drew ?_ | refine blk_alloc ?_ _)); exact BK181.out)) : gb181 ≠ gb194)); have n8_ := Aside0.mk ((by rw [hg]; exact Nat.ne_of_gt (blk_lt (g := gb181) (o := .cells #[.slice A0_0 l0_0.length c0_0, .int .i64 a0_1, .int .i64 a0_2] 24 (0, 0)) (by (with_reducible repeat (first | refine blk_drewN ?_ _ | refine blk_drew ?_ | refine blk_alloc ?_ _)); exact BK181.out)) : gb194 ≠ gb181)); clear HO185; clear HO190; clear BK181; clear HB; have HO185 := n0_; have HO190 := n1_; have BK181 := n2_; have HB := n3_; have BK194 := n4_; have GW194 := n5_; have GE194 := n6_; have NB181_194 := n7_; have NB194_181 := n8_; clear n0_ n1_ n2_ n3_ n4_ n5_ n6_ n7_ n8_; clear hb hbox hg; obtain ⟨Ao22, co22, eo22⟩ := Kd.R_slice HO190.out; subst eo22; have hnb23 := NB194_181.out; have hnc23 := NB181_194.out; have hcz24_0 : w21.cell? ⟨gb194, 0, none⟩ = some (.slice none 0 0) := (blk_cell BK194.out 0).trans rfl; have hcz24_1 : w21.cell? ⟨gb194, 1, none⟩ = some (.int .i64 0) := (blk_cell BK194.out 1).trans rfl; have hcz24_2 : w21.cell? ⟨gb194, 2, none⟩ = some (.int .i64 0) := (blk_cell BK194.out 2).trans rfl; have hfz24_0 := blk_frozen BK194.out 0; have hfz24_1 := blk_frozen BK194.out 1; have hfz24_2 := blk_frozen BK194.out 2; have hcz25_0 : w21.cell? ⟨gb181, 0, none⟩ = some (.slice A0_0 l0_0.length c0_0) := (blk_cell BK181.out 0).trans rfl; have hcz25_1 : w21.cell? ⟨gb181, 1, none⟩ = some (.int .i64 a0_1) := (blk_cell BK181.out 1).trans rfl; have hcz25_2 : w21.cell? ⟨gb181, 2, none⟩ = some (.int .i64 a0_2) := (blk_cell BK181.out 2).trans rfl; have hfz25_0 := blk_frozen BK181.out 0; have hfz25_1 := blk_frozen BK181.out 1; have hfz25_2 := blk_frozen BK181.out 2) | ((with_reducible refine gate_callee (f := 12) rfl ?_); refine goesL_ (some 32) rfl rfl Tryd.func12 (by kernel_rfl) rfl #[.agg #[.slice A0_0 l0_0.length c0_0, .int .i64 a0_1, .int .i64 a0_2]] rfl (by (try simp only [List.map_toArray, List.map_cons, List.map_nil]); first | done | rfl | (simp only [List.length_drop, List.length_take]; rfl)) ?_; (with_reducible refine (laws_toGap.calls k _ _ l0_0 a0_1 a0_2 t195 t198 t199 _ ?side1 ?side2 A11.out).mono ?_); (case side1 => exact Kd.C_below HR0_0.out (by repeat (first | (with_reducible first | exact HB.out | apply below_alloc | apply pw_below_drewN | apply below_drew1 | refine below_set ?_ GE181.out | refine below_set ?_ GE194.out) | exact HB.out))); (case side2 => exact HC0_0.out); rintro e w26 ⟨v196, rfl, ho0, hb⟩; refine ⟨_, rfl, ?_⟩; have n0_ := Aside0.mk (Kd.R_elder' (by (with_reducible repeat (first | apply Kd.R_alloc | apply Kd.R_drewN | apply Kd.R_drew)); exact (Kd.R_mono (Kd.R_far (p := ⟨gb194, 2, none⟩) (Kd.R_far (p := ⟨gb194, 1, none⟩) (Kd.R_far (p := ⟨gb194, 0, none⟩) (Kd.R_types HO185.out BK194.out (by decide)) (fun _ hk => hk.2) (.slice Ao22 t188.length co22)) (fun _ hk => hk.2) (.int .i64 t191)) (fun _ hk => hk.2) (.int .i64 t192)) (fun _ h_ => h_.1))) (Kd.R_base ho0) hb); have n1_ := Aside0.mk (Kd.R_elder' (by (with_reducible repeat (first | apply Kd.R_alloc | apply Kd.R_drewN | apply Kd.R_drew)); exact (Kd.R_mono (Kd.R_far (p := ⟨gb194, 2, none⟩) (Kd.R_far (p := ⟨gb194, 1, none⟩) (Kd.R_far (p := ⟨gb194, 0, none⟩) (Kd.R_types HO190.out BK194.out (by decide)) (fun _ hk => hk.2) (.slice Ao22 t188.length co22)) (fun _ hk => hk.2) (.int .i64 t191)) (fun _ hk => hk.2) (.int .i64 t192)) (fun _ h_ => h_.1))) (Kd.R_base ho0) hb); have n2_ := Aside0.mk (Kd.R_lower (Kd.R_new' (Kd.R_new' ho0 (Kd.R_lt (by (with_reducible repeat (first | apply Kd.R_alloc | apply Kd.R_drewN | apply Kd.R_drew)); exact (Kd.R_mono (Kd.R_far (p := ⟨gb194, 2, none⟩) (Kd.R_far (p := ⟨gb194, 1, none⟩) (Kd.R_far (p := ⟨gb194, 0, none⟩) (Kd.R_types HO185.out BK194.out (by decide)) (fun _ hk => hk.2) (.slice Ao22 t188.length co22)) (fun _ hk => hk.2) (.int .i64 t191)) (fun _ hk => hk.2) (.int .i64 t192)) (fun _ h_ => h_.1))))) (Kd.R_lt (by (with_reducible repeat (first | apply Kd.R_alloc | apply Kd.R_drewN | apply Kd.R_drew)); exact (Kd.R_mono (Kd.R_far (p := ⟨gb194, 2, none⟩) (Kd.R_far (p := ⟨gb194, 1, none⟩) (Kd.R_far (p := ⟨gb194, 0, none⟩) (Kd.R_types HO190.out BK194.out (by decide)) (fun _ hk => hk.2) (.slice Ao22 t188.length co22)) (fun _ hk => hk.2) (.int .i64 t191)) (fun _ hk => hk.2) (.int .i64 t192)) (fun _ h_ => h_.1))))) (below_size (by repeat (first | (with_reducible first | exact HB.out | apply below_alloc | apply pw_below_drewN | apply below_drew1 | refine below_set ?_ GE181.out | refine below_set ?_ GE194.out) | exact HB.out)))); have n3_ := Aside0.mk (blk_below (g := gb181) (o := .cells #[.slice A0_0 l0_0.length c0_0, .int .i64 a0_1, .int .i64 a0_2] 24 (0, 0)) (by (with_reducible repeat (first | refine blk_drewN ?_ _ | refine blk_drew ?_ | refine blk_alloc ?_ _)); refine blk_far ?_ NB181_194.out _; (with_reducible repeat (first | refine blk_drewN ?_ _ | refine blk_drew ?_ | refine blk_alloc ?_ _)); refine blk_far ?_ NB181_194.out _; (with_reducible repeat (first | refine blk_drewN ?_ _ | refine blk_drew ?_ | refine blk_alloc ?_ _)); refine blk_far ?_ NB181_194.out _; (with_reducible repeat (first | refine blk_drewN ?_ _ | refine blk_drew ?_ | refine blk_alloc ?_ _)); exact BK181.out) hb); have n4_ := Aside0.mk (blk_below (g := gb194) (o := .cells #[.slice Ao22 t188.length co22, .int .i64 t191, .int .i64 t192] 28 (0, 0)) (by (with_reducible repeat (first | refine blk_drewN ?_ _ | refine blk_drew ?_ | refine blk_alloc ?_ _)); refine blk_put (cs := #[.slice Ao22 t188.length co22, .int .i64 t191, .int .i64 0]) ?_ 2 _ rfl; (with_reducible repeat (first | refine blk_drewN ?_ _ | refine blk_drew ?_ | refine blk_alloc ?_ _)); refine blk_put (cs := #[.slice Ao22 t188.length co22, .int .i64 0, .int .i64 0]) ?_ 1 _ rfl; (with_reducible repeat (first | refine blk_drewN ?_ _ | refine blk_drew ?_ | refine blk_alloc ?_ _)); refine blk_put (cs := #[.slice none 0 0, .int .i64 0, .int .i64 0]) ?_ 0 _ rfl; (with_reducible repeat (first | refine blk_drewN ?_ _ | refine blk_drew ?_ | refine blk_alloc ?_ _)); exact BK194.out) hb); have n5_ := Aside0.mk (below_step (by repeat (first | (with_reducible first | exact HB.out | apply below_alloc | apply pw_below_drewN | apply below_drew1 | refine below_set ?_ GE181.out | refine below_set ?_ GE194.out) | exact HB.out)) hb); clear HO185; clear HO190; clear BK181; clear BK194; clear HB; have HO185 := n0_; have HO190 := n1_; have HO197 := n2_; have BK181 := n3_; have BK194 := n4_; have HB := n5_; clear n0_ n1_ n2_ n3_ n4_ n5_; (try clear hb); (try clear hb2); (try clear hk); (try clear hi); (try clear ho0)) | ((with_reducible refine gate_dst (N := 10) rfl ?_); refine box_event ?hg (N := 10) ?hd (cs := #[.slice none 0 0, .int .i64 0, .int .i64 0]) (t := 28) ?hr ?_; (case hd => rfl); (case hg => rfl); (case hr => first | (go_simp; done) | (go_simp; rfl)); intro gb200 hg w27 hbox hb; have n0_ := Aside0.mk (Kd.R_below (by (with_reducible repeat (first | apply Kd.R_alloc | apply Kd.R_drewN | apply Kd.R_drew)); exact HO185.out) hb); have n1_ := Aside0.mk (Kd.R_below (by (with_reducible repeat (first | apply Kd.R_alloc | apply Kd.R_drewN | apply Kd.R_drew)); exact HO190.out) hb); have n2_ := Aside0.mk (Kd.R_below (by (with_reducible repeat (first | apply Kd.R_alloc | apply Kd.R_drewN | apply Kd.R_drew)); exact HO197.out) hb); have n3_ := Aside0.mk (blk_below (g := gb181) (o := .cells #[.slice A0_0 l0_0.length c0_0, .int .i64 a0_1, .int .i64 a0_2] 24 (0, 0)) (by (with_reducible repeat (first | refine blk_drewN ?_ _ | refine blk_drew ?_ | refine blk_alloc ?_ _)); exact BK181.out) hb); have n4_ := Aside0.mk (blk_below (g := gb194) (o := .cells #[.slice Ao22 t188.length co22, .int .i64 t191, .int .i64 t192] 28 (0, 0)) (by (with_reducible repeat (first | refine blk_drewN ?_ _ | refine blk_drew ?_ | refine blk_alloc ?_ _)); exact BK194.out) hb); have n5_ := Aside0.mk (below_step (by repeat (first | (with_reducible first | exact HB.out | apply below_alloc | apply pw_below_drewN | apply below_drew1 | refine below_set ?_ GE181.out | refine below_set ?_ GE194.out) | exact HB.out)) hb); have n6_ := Aside0.mk (hbox); have n7_ := Aside0.mk ((by rw [hg]; exact (below_size (by repeat (first | (with_reducible first | exact HB.out | apply below_alloc | apply pw_below_drewN | apply below_drew1 | refine below_set ?_ GE181.out | refine below_set ?_ GE194.out) | exact HB.out))) : w.heap.size ≤ gb200)); have n8_ := Aside0.mk ((by rw [hg]; exact (below_size (by repeat (first | (with_reducible first | exact HB.out | apply below_alloc | apply pw_below_drewN | apply below_drew1 | refine below_set ?_ GE181.out | refine below_set ?_ GE194.out) | exact HB.out))) : w.heap.size ≤ gb200)); have n9_ := Aside0.mk ((by rw [hg]; exact Nat.ne_of_lt (blk_lt (g := gb181) (o := .cells #[.slice A0_0 l0_0.length c0_0, .int .i64 a0_1, .int .i64 a0_2] 24 (0, 0)) (by (with_reducible repeat (first | refine blk_drewN ?_ _ | refine blk_drew ?_ | refine blk_alloc ?_ _)); exact BK181.out)) : gb181 ≠ gb200)); have n10_ := Aside0.mk ((by rw [hg]; exact Nat.ne_of_gt (blk_lt (g := gb181) (o := .cells #[.slice A0_0 l0_0.length c0_0, .int .i64 a0_1, .int .i64 a0_2] 24 (0, 0)) (by (with_reducible repeat (first | refine blk_drewN ?_ _ | refine blk_drew ?_ | refine blk_alloc ?_ _)); exact BK181.out)) : gb200 ≠ gb181)); have n11_ := Aside0.mk ((by rw [hg]; exact Nat.ne_of_lt (blk_lt (g := gb194) (o := .cells #[.slice Ao22 t188.length co22, .int .i64 t191, .int .i64 t192] 28 (0, 0)) (by (with_reducible repeat (first | refine blk_drewN ?_ _ | refine blk_drew ?_ | refine blk_alloc ?_ _)); exact BK194.out)) : gb194 ≠ gb200)); have n12_ := Aside0.mk ((by rw [hg]; exact Nat.ne_of_gt (blk_lt (g := gb194) (o := .cells #[.slice Ao22 t188.length co22, .int .i64 t191, .int .i64 t192] 28 (0, 0)) (by (with_reducible repeat (first | refine blk_drewN ?_ _ | refine blk_drew ?_ | refine blk_alloc ?_ _)); exact BK194.out)) : gb200 ≠ gb194)); clear HO185; clear HO190; clear HO197; clear BK181; clear BK194; clear HB; have HO185 := n0_; have HO190 := n1_; have HO197 := n2_; have BK181 := n3_; have BK194 := n4_; have HB := n5_; have BK200 := n6_; have GW200 := n7_; have GE200 := n8_; have NB181_200 := n9_; have NB200_181 := n10_; have NB194_200 := n11_; have NB200_194 := n12_; clear n0_ n1_ n2_ n3_ n4_ n5_ n6_ n7_ n8_ n9_ n10_ n11_ n12_; clear hb hbox hg; obtain ⟨Ao28, co28, eo28⟩ := Kd.R_slice HO197.out; subst eo28; have hnb29 := NB200_181.out; have hnc29 := NB181_200.out; have hnb30 := NB200_194.out; have hnc30 := NB194_200.out; have hcz31_0 : w27.cell? ⟨gb200, 0, none⟩ = some (.slice none 0 0) := (blk_cell BK200.out 0).trans rfl; have hcz31_1 : w27.cell? ⟨gb200, 1, none⟩ = some (.int .i64 0) := (blk_cell BK200.out 1).trans rfl; have hcz31_2 : w27.cell? ⟨gb200, 2, none⟩ = some (.int .i64 0) := (blk_cell BK200.out 2).trans rfl; have hfz31_0 := blk_frozen BK200.out 0; have hfz31_1 := blk_frozen BK200.out 1; have hfz31_2 := blk_frozen BK200.out 2) | ((with_reducible refine gate_callee (f := 20) rfl ?_); refine goesL_ (some 37) rfl rfl Tryd.func20 (by kernel_rfl) rfl #[.agg #[.slice Ao28 t195.length co28, .int .i64 t198, .int .i64 t199], .int .i64 a1, .int .i64 a2] rfl (by (try simp only [List.map_toArray, List.map_cons, List.map_nil]); first | done | rfl | (simp only [List.length_drop, List.length_take]; rfl)) ?_; (with_reducible refine (impl_GapDelete.calls _ _ t195 t198 t199 a1 a2 t201 t204 t205 t206 _ ?side1 ?side2 ?side3 A12.out).mono ?_); (case side1 => refine (Kd.R_reads' (e := 21) (base := w.heap.size) (ok := fun k_ => ((True ∧ some k_ ≠ (.slice Ao19 t183.length co19 : Value).ownBlock) ∧ some k_ ≠ (.slice Ao22 t188.length co22 : Value).ownBlock)) (n := t195.length) (c := co28) ?_).2.2; exact (by (with_reducible repeat (first | apply Kd.R_alloc | apply Kd.R_drewN | apply Kd.R_drew)); exact (Kd.R_mono (Kd.R_far (p := ⟨gb200, 2, none⟩) (Kd.R_far (p := ⟨gb200, 1, none⟩) (Kd.R_far (p := ⟨gb200, 0, none⟩) (Kd.R_types HO197.out BK200.out (by decide)) (fun _ hk => hk.2) (.slice Ao28 t195.length co28)) (fun _ hk => hk.2) (.int .i64 t198)) (fun _ hk => hk.2) (.int .i64 t199)) (fun _ h_ => h_.1)))); (case side2 => exact (Kd.R_reads' HO197.out).2.1); (case side3 => exact HG.below hgG_ (by repeat (first | (with_reducible first | exact HB.out | apply below_alloc | apply pw_below_drewN | apply below_drew1 | refine below_set ?_ GE181.out | refine below_set ?_ GE194.out | refine below_set ?_ GE200.out) | exact HB.out))); rintro e w32 ⟨v202, rfl, ho0, hb⟩; refine ⟨_, rfl, ?_⟩; have n0_ := Aside0.mk (Kd.R_elder' (by (with_reducible repeat (first | apply Kd.R_alloc | apply Kd.R_drewN | apply Kd.R_drew)); exact (Kd.R_mono (Kd.R_far (p := ⟨gb200, 2, none⟩) (Kd.R_far (p := ⟨gb200, 1, none⟩) (Kd.R_far (p := ⟨gb200, 0, none⟩) (Kd.R_types HO185.out BK200.out (by decide)) (fun _ hk => hk.2) (.slice Ao28 t195.length co28)) (fun _ hk => hk.2) (.int .i64 t198)) (fun _ hk => hk.2) (.int .i64 t199)) (fun _ h_ => h_.1))) (Kd.R_base ho0) hb); have n1_ := Aside0.mk (Kd.R_elder' (by (with_reducible repeat (first | apply Kd.R_alloc | apply Kd.R_drewN | apply Kd.R_drew)); exact (Kd.R_mono (Kd.R_far (p := ⟨gb200, 2, none⟩) (Kd.R_far (p := ⟨gb200, 1, none⟩) (Kd.R_far (p := ⟨gb200, 0, none⟩) (Kd.R_types HO190.out BK200.out (by decide)) (fun _ hk => hk.2) (.slice Ao28 t195.length co28)) (fun _ hk => hk.2) (.int .i64 t198)) (fun _ hk => hk.2) (.int .i64 t199)) (fun _ h_ => h_.1))) (Kd.R_base ho0) hb); have n2_ := Aside0.mk (Kd.R_elder' (by (with_reducible repeat (first | apply Kd.R_alloc | apply Kd.R_drewN | apply Kd.R_drew)); exact (Kd.R_mono (Kd.R_far (p := ⟨gb200, 2, none⟩) (Kd.R_far (p := ⟨gb200, 1, none⟩) (Kd.R_far (p := ⟨gb200, 0, none⟩) (Kd.R_types HO197.out BK200.out (by decide)) (fun _ hk => hk.2) (.slice Ao28 t195.length co28)) (fun _ hk => hk.2) (.int .i64 t198)) (fun _ hk => hk.2) (.int .i64 t199)) (fun _ h_ => h_.1))) (Kd.R_base ho0) hb); have n3_ := Aside0.mk (Kd.R_lower (Kd.R_new' (Kd.R_new' (Kd.R_new' ho0 (Kd.R_lt (by (with_reducible repeat (first | apply Kd.R_alloc | apply Kd.R_drewN | apply Kd.R_drew)); exact (Kd.R_mono (Kd.R_far (p := ⟨gb200, 2, none⟩) (Kd.R_far (p := ⟨gb200, 1, none⟩) (Kd.R_far (p := ⟨gb200, 0, none⟩) (Kd.R_types HO185.out BK200.out (by decide)) (fun _ hk => hk.2) (.slice Ao28 t195.length co28)) (fun _ hk => hk.2) (.int .i64 t198)) (fun _ hk => hk.2) (.int .i64 t199)) (fun _ h_ => h_.1))))) (Kd.R_lt (by (with_reducible repeat (first | apply Kd.R_alloc | apply Kd.R_drewN | apply Kd.R_drew)); exact (Kd.R_mono (Kd.R_far (p := ⟨gb200, 2, none⟩) (Kd.R_far (p := ⟨gb200, 1, none⟩) (Kd.R_far (p := ⟨gb200, 0, none⟩) (Kd.R_types HO190.out BK200.out (by decide)) (fun _ hk => hk.2) (.slice Ao28 t195.length co28)) (fun _ hk => hk.2) (.int .i64 t198)) (fun _ hk => hk.2) (.int .i64 t199)) (fun _ h_ => h_.1))))) (Kd.R_lt (by (with_reducible repeat (first | apply Kd.R_alloc | apply Kd.R_drewN | apply Kd.R_drew)); exact (Kd.R_mono (Kd.R_far (p := ⟨gb200, 2, none⟩) (Kd.R_far (p := ⟨gb200, 1, none⟩) (Kd.R_far (p := ⟨gb200, 0, none⟩) (Kd.R_types HO197.out BK200.out (by decide)) (fun _ hk => hk.2) (.slice Ao28 t195.length co28)) (fun _ hk => hk.2) (.int .i64 t198)) (fun _ hk => hk.2) (.int .i64 t199)) (fun _ h_ => h_.1))))) (below_size (by repeat (first | (with_reducible first | exact HB.out | apply below_alloc | apply pw_below_drewN | apply below_drew1 | refine below_set ?_ GE181.out | refine below_set ?_ GE194.out | refine below_set ?_ GE200.out) | exact HB.out)))); have n4_ := Aside0.mk (blk_below (g := gb181) (o := .cells #[.slice A0_0 l0_0.length c0_0, .int .i64 a0_1, .int .i64 a0_2] 24 (0, 0)) (by (with_reducible repeat (first | refine blk_drewN ?_ _ | refine blk_drew ?_ | refine blk_alloc ?_ _)); refine blk_far ?_ NB181_200.out _; (with_reducible repeat (first | refine blk_drewN ?_ _ | refine blk_drew ?_ | refine blk_alloc ?_ _)); refine blk_far ?_ NB181_200.out _; (with_reducible repeat (first | refine blk_drewN ?_ _ | refine blk_drew ?_ | refine blk_alloc ?_ _)); refine blk_far ?_ NB181_200.out _; (with_reducible repeat (first | refine blk_drewN ?_ _ | refine blk_drew ?_ | refine blk_alloc ?_ _)); exact BK181.out) hb); have n5_ := Aside0.mk (blk_below (g := gb194) (o := .cells #[.slice Ao22 t188.length co22, .int .i64 t191, .int .i64 t192] 28 (0, 0)) (by (with_reducible repeat (first | refine blk_drewN ?_ _ | refine blk_drew ?_ | refine blk_alloc ?_ _)); refine blk_far ?_ NB194_200.out _; (with_reducible repeat (first | refine blk_drewN ?_ _ | refine blk_drew ?_ | refine blk_alloc ?_ _)); refine blk_far ?_ NB194_200.out _; (with_reducible repeat (first | refine blk_drewN ?_ _ | refine blk_drew ?_ | refine blk_alloc ?_ _)); refine blk_far ?_ NB194_200.out _; (with_reducible repeat (first | refine blk_drewN ?_ _ | refine blk_drew ?_ | refine blk_alloc ?_ _)); exact BK194.out) hb); have n6_ := Aside0.mk (blk_below (g := gb200) (o := .cells #[.slice Ao28 t195.length co28, .int .i64 t198, .int .i64 t199] 28 (0, 0)) (by (with_reducible repeat (first | refine blk_drewN ?_ _ | refine blk_drew ?_ | refine blk_alloc ?_ _)); refine blk_put (cs := #[.slice Ao28 t195.length co28, .int .i64 t198, .int .i64 0]) ?_ 2 _ rfl; (with_reducible repeat (first | refine blk_drewN ?_ _ | refine blk_drew ?_ | refine blk_alloc ?_ _)); refine blk_put (cs := #[.slice Ao28 t195.length co28, .int .i64 0, .int .i64 0]) ?_ 1 _ rfl; (with_reducible repeat (first | refine blk_drewN ?_ _ | refine blk_drew ?_ | refine blk_alloc ?_ _)); refine blk_put (cs := #[.slice none 0 0, .int .i64 0, .int .i64 0]) ?_ 0 _ rfl; (with_reducible repeat (first | refine blk_drewN ?_ _ | refine blk_drew ?_ | refine blk_alloc ?_ _)); exact BK200.out) hb); have n7_ := Aside0.mk (below_step (by repeat (first | (with_reducible first | exact HB.out | apply below_alloc | apply pw_below_drewN | apply below_drew1 | refine below_set ?_ GE181.out | refine below_set ?_ GE194.out | refine below_set ?_ GE200.out) | exact HB.out)) hb); clear HO185; clear HO190; clear HO197; clear BK181; clear BK194; clear BK200; clear HB; have HO185 := n0_; have HO190 := n1_; have HO197 := n2_; have HO203 := n3_; have BK181 := n4_; have BK194 := n5_; have BK200 := n6_; have HB := n7_; clear n0_ n1_ n2_ n3_ n4_ n5_ n6_ n7_; (try clear hb); (try clear hb2); (try clear hk); (try clear hi); (try clear ho0)) | ((with_reducible refine gate_dst (N := 11) rfl ?_); refine box_event ?hg (N := 11) ?hd (cs := #[.slice none 0 0, .int .i64 0, .int .i64 0]) (t := 28) ?hr ?_; (case hd => rfl); (case hg => rfl); (case hr => first | (go_simp; done) | (go_simp; rfl)); intro gb207 hg w33 hbox hb; have n0_ := Aside0.mk (Kd.R_below (by (with_reducible repeat (first | apply Kd.R_alloc | apply Kd.R_drewN | apply Kd.R_drew)); exact HO185.out) hb); have n1_ := Aside0.mk (Kd.R_below (by (with_reducible repeat (first | apply Kd.R_alloc | apply Kd.R_drewN | apply Kd.R_drew)); exact HO190.out) hb); have n2_ := Aside0.mk (Kd.R_below (by (with_reducible repeat (first | apply Kd.R_alloc | apply Kd.R_drewN | apply Kd.R_drew)); exact HO197.out) hb); have n3_ := Aside0.mk (Kd.R_below (by (with_reducible repeat (first | apply Kd.R_alloc | apply Kd.R_drewN | apply Kd.R_drew)); exact HO203.out) hb); have n4_ := Aside0.mk (blk_below (g := gb181) (o := .cells #[.slice A0_0 l0_0.length c0_0, .int .i64 a0_1, .int .i64 a0_2] 24 (0, 0)) (by (with_reducible repeat (first | refine blk_drewN ?_ _ | refine blk_drew ?_ | refine blk_alloc ?_ _)); exact BK181.out) hb); have n5_ := Aside0.mk (blk_below (g := gb194) (o := .cells #[.slice Ao22 t188.length co22, .int .i64 t191, .int .i64 t192] 28 (0, 0)) (by (with_reducible repeat (first | refine blk_drewN ?_ _ | refine blk_drew ?_ | refine blk_alloc ?_ _)); exact BK194.out) hb); have n6_ := Aside0.mk (blk_below (g := gb200) (o := .cells #[.slice Ao28 t195.length co28, .int .i64 t198, .int .i64 t199] 28 (0, 0)) (by (with_reducible repeat (first | refine blk_drewN ?_ _ | refine blk_drew ?_ | refine blk_alloc ?_ _)); exact BK200.out) hb); have n7_ := Aside0.mk (below_step (by repeat (first | (with_reducible first | exact HB.out | apply below_alloc | apply pw_below_drewN | apply below_drew1 | refine below_set ?_ GE181.out | refine below_set ?_ GE194.out | refine below_set ?_ GE200.out) | exact HB.out)) hb); have n8_ := Aside0.mk (hbox); have n9_ := Aside0.mk ((by rw [hg]; exact (below_size (by repeat (first | (with_reducible first | exact HB.out | apply below_alloc | apply pw_below_drewN | apply below_drew1 | refine below_set ?_ GE181.out | refine below_set ?_ GE194.out | refine below_set ?_ GE200.out) | exact HB.out))) : w.heap.size ≤ gb207)); have n10_ := Aside0.mk ((by rw [hg]; exact (below_size (by repeat (first | (with_reducible first | exact HB.out | apply below_alloc | apply pw_below_drewN | apply below_drew1 | refine below_set ?_ GE181.out | refine below_set ?_ GE194.out | refine below_set ?_ GE200.out) | exact HB.out))) : w.heap.size ≤ gb207)); have n11_ := Aside0.mk ((by rw [hg]; exact Nat.ne_of_lt (blk_lt (g := gb181) (o := .cells #[.slice A0_0 l0_0.length c0_0, .int .i64 a0_1, .int .i64 a0_2] 24 (0, 0)) (by (with_reducible repeat (first | refine blk_drewN ?_ _ | refine blk_drew ?_ | refine blk_alloc ?_ _)); exact BK181.out)) : gb181 ≠ gb207)); have n12_ := Aside0.mk ((by rw [hg]; exact Nat.ne_of_gt (blk_lt (g := gb181) (o := .cells #[.slice A0_0 l0_0.length c0_0, .int .i64 a0_1, .int .i64 a0_2] 24 (0, 0)) (by (with_reducible repeat (first | refine blk_drewN ?_ _ | refine blk_drew ?_ | refine blk_alloc ?_ _)); exact BK181.out)) : gb207 ≠ gb181)); have n13_ := Aside0.mk ((by rw [hg]; exact Nat.ne_of_lt (blk_lt (g := gb194) (o := .cells #[.slice Ao22 t188.length co22, .int .i64 t191, .int .i64 t192] 28 (0, 0)) (by (with_reducible repeat (first | refine blk_drewN ?_ _ | refine blk_drew ?_ | refine blk_alloc ?_ _)); exact BK194.out)) : gb194 ≠ gb207)); have n14_ := Aside0.mk ((by rw [hg]; exact Nat.ne_of_gt (blk_lt (g := gb194) (o := .cells #[.slice Ao22 t188.length co22, .int .i64 t191, .int .i64 t192] 28 (0, 0)) (by (with_reducible repeat (first | refine blk_drewN ?_ _ | refine blk_drew ?_ | refine blk_alloc ?_ _)); exact BK194.out)) : gb207 ≠ gb194)); have n15_ := Aside0.mk ((by rw [hg]; exact Nat.ne_of_lt (blk_lt (g := gb200) (o := .cells #[.slice Ao28 t195.length co28, .int .i64 t198, .int .i64 t199] 28 (0, 0)) (by (with_reducible repeat (first | refine blk_drewN ?_ _ | refine blk_drew ?_ | refine blk_alloc ?_ _)); exact BK200.out)) : gb200 ≠ gb207)); have n16_ := Aside0.mk ((by rw [hg]; exact Nat.ne_of_gt (blk_lt (g := gb200) (o := .cells #[.slice Ao28 t195.length co28, .int .i64 t198, .int .i64 t199] 28 (0, 0)) (by (with_reducible repeat (first | refine blk_drewN ?_ _ | refine blk_drew ?_ | refine blk_alloc ?_ _)); exact BK200.out)) : gb207 ≠ gb200)); clear HO185; clear HO190; clear HO197; clear HO203; clear BK181; clear BK194; clear BK200; clear HB; have HO185 := n0_; have HO190 := n1_; have HO197 := n2_; have HO203 := n3_; have BK181 := n4_; have BK194 := n5_; have BK200 := n6_; have HB := n7_; have BK207 := n8_; have GW207 := n9_; have GE207 := n10_; have NB181_207 := n11_; have NB207_181 := n12_; have NB194_207 := n13_; have NB207_194 := n14_; have NB200_207 := n15_; have NB207_200 := n16_; clear n0_ n1_ n2_ n3_ n4_ n5_ n6_ n7_ n8_ n9_ n10_ n11_ n12_ n13_ n14_ n15_ n16_; clear hb hbox hg; obtain ⟨Ao34, co34, eo34⟩ := Kd.R_slice HO203.out; subst eo34; have hnb35 := NB207_181.out; have hnc35 := NB181_207.out; have hnb36 := NB207_194.out; have hnc36 := NB194_207.out; have hnb37 := NB207_200.out; have hnc37 := NB200_207.out; have hcz38_0 : w33.cell? ⟨gb207, 0, none⟩ = some (.slice none 0 0) := (blk_cell BK207.out 0).trans rfl; have hcz38_1 : w33.cell? ⟨gb207, 1, none⟩ = some (.int .i64 0) := (blk_cell BK207.out 1).trans rfl; have hcz38_2 : w33.cell? ⟨gb207, 2, none⟩ = some (.int .i64 0) := (blk_cell BK207.out 2).trans rfl; have hfz38_0 := blk_frozen BK207.out 0; have hfz38_1 := blk_frozen BK207.out 1; have hfz38_2 := blk_frozen BK207.out 2))
    (try simp only [Act.put, List.setIfInBounds_toArray, List.set_cons_zero, List.set_cons_succ])
    go_cut [48] (fun v48 wc => ∃ (kq : Nat) (x48_12 : Bool), v48 = .bool x48_12 ∧ Aside0 (laws_FnExactGapDelete.j0 kq a1 a2 t193 t206 x48_12 l0_0 a0_1 a0_2 t188 t191 t192 t195 t198 t199 t201 t204 t205 = some r) ∧ Aside0 (kq ≤ k) ∧ Aside0 (Kd.R (Kd.int .i32) 21 wc w.heap.size (fun k_ => some k_ ≠ ((.slice Ao28 t195.length co28) : Value).ownBlock ∧ some k_ ≠ ((.slice Ao34 t201.length co34) : Value).ownBlock) (.slice Ao22 t188.length co22) t188) ∧ Aside0 (Kd.R (Kd.int .i32) 21 wc w.heap.size (fun k_ => some k_ ≠ ((.slice Ao22 t188.length co22) : Value).ownBlock ∧ some k_ ≠ ((.slice Ao34 t201.length co34) : Value).ownBlock) (.slice Ao28 t195.length co28) t195) ∧ Aside0 (Kd.R (Kd.int .i32) 21 wc w.heap.size (fun k_ => some k_ ≠ ((.slice Ao22 t188.length co22) : Value).ownBlock ∧ some k_ ≠ ((.slice Ao28 t195.length co28) : Value).ownBlock) (.slice Ao34 t201.length co34) t201) ∧ Aside0 (wc.heap[gb181]? = some (.cells #[(.slice A0_0 l0_0.length c0_0), .int .i64 a0_1, .int .i64 a0_2] 24 (0, 0))) ∧ Aside0 (wc.heap[gb194]? = some (.cells #[(.slice Ao22 t188.length co22), .int .i64 t191, .int .i64 t192] 28 (0, 0))) ∧ Aside0 (wc.heap[gb200]? = some (.cells #[(.slice Ao28 t195.length co28), .int .i64 t198, .int .i64 t199] 28 (0, 0))) ∧ Aside0 (wc.heap[gb207]? = some (.cells #[(.slice Ao34 t201.length co34), .int .i64 t204, .int .i64 t205] 28 (0, 0))) ∧ Aside0 (Below w.heap.size w wc))
    case first =>
      have H := HC13.out
      clear HC13
      replace H := Option.bind_eq_some_iff.mp H
      obtain ⟨t208, A390, H⟩ := H
      replace H : (if t208 = true then (laws_FnExactGapDelete.j0 k a1 a2 t193 t206 (t206 != t193) l0_0 a0_1 a0_2 t188 t191 t192 t195 t198 t199 t201 t204 t205) else (laws_FnExactGapDelete.j0 k a1 a2 t193 t206 true l0_0 a0_1 a0_2 t188 t191 t192 t195 t198 t199 t201 t204 t205)) = some r := H
      have A39 := Aside0.mk A390
      clear A390
      by_cases c40 : t208 = true
      · subst c40
        have H1 : (laws_FnExactGapDelete.j0 k a1 a2 t193 t206 (t206 != t193) l0_0 a0_1 a0_2 t188 t191 t192 t195 t198 t199 t201 t204 t205) = some r := by rw [if_pos rfl] at H; exact H
        clear H
        have H := H1
        clear H1
        have H' := Aside0.mk H
        clear H
        have hnb41 := NB207_181.out
        have hnc41 := NB181_207.out
        have hnb42 := NB207_194.out
        have hnc42 := NB194_207.out
        have hnb43 := NB207_200.out
        have hnc43 := NB200_207.out
        have hcz44_0 : w33.cell? ⟨gb207, 0, none⟩ = some (.slice none 0 0) := (blk_cell BK207.out 0).trans rfl
        have hcz44_1 : w33.cell? ⟨gb207, 1, none⟩ = some (.int .i64 0) := (blk_cell BK207.out 1).trans rfl
        have hcz44_2 : w33.cell? ⟨gb207, 2, none⟩ = some (.int .i64 0) := (blk_cell BK207.out 2).trans rfl
        have hfz44_0 := blk_frozen BK207.out 0
        have hfz44_1 := blk_frozen BK207.out 1
        have hfz44_2 := blk_frozen BK207.out 2
        have hnb45 := NB194_181.out
        have hnc45 := NB181_194.out
        have hnb46 := NB194_200.out
        have hnc46 := NB200_194.out
        have hcz47_0 : w33.cell? ⟨gb194, 0, none⟩ = some (.slice Ao22 t188.length co22) := (blk_cell BK194.out 0).trans rfl
        have hcz47_1 : w33.cell? ⟨gb194, 1, none⟩ = some (.int .i64 t191) := (blk_cell BK194.out 1).trans rfl
        have hcz47_2 : w33.cell? ⟨gb194, 2, none⟩ = some (.int .i64 t192) := (blk_cell BK194.out 2).trans rfl
        have hfz47_0 := blk_frozen BK194.out 0
        have hfz47_1 := blk_frozen BK194.out 1
        have hfz47_2 := blk_frozen BK194.out 2
        go_wp2_with (first | ((with_reducible refine gate_callee (f := 15) rfl ?_); refine goesL_ (some 42) rfl rfl Tryd.func15 (by kernel_rfl) rfl #[.agg #[.slice Ao34 t201.length co34, .int .i64 t204, .int .i64 t205], .agg #[.slice Ao22 t188.length co22, .int .i64 t191, .int .i64 t192]] rfl (by (try simp only [List.map_toArray, List.map_cons, List.map_nil]); first | done | rfl | (simp only [List.length_drop, List.length_take]; rfl)) ?_; (with_reducible refine (laws_eqGap.calls k _ _ t201 t204 t205 _ _ t188 t191 t192 true _ ?side1 ?side2 ?side3 ?side4 A39.out).mono ?_); (case side1 => refine (Kd.R_reads' (e := 21) (base := w.heap.size) (ok := fun k_ => (((True ∧ some k_ ≠ (.slice Ao19 t183.length co19 : Value).ownBlock) ∧ some k_ ≠ (.slice Ao22 t188.length co22 : Value).ownBlock) ∧ some k_ ≠ (.slice Ao28 t195.length co28 : Value).ownBlock)) (n := t201.length) (c := co34) ?_).2.2; exact (by (with_reducible repeat (first | apply Kd.R_alloc | apply Kd.R_drewN | apply Kd.R_drew)); exact (Kd.R_mono (Kd.R_far (p := ⟨gb207, 2, none⟩) (Kd.R_far (p := ⟨gb207, 1, none⟩) (Kd.R_far (p := ⟨gb207, 0, none⟩) (Kd.R_types HO203.out BK207.out (by decide)) (fun _ hk => hk.2) (.slice Ao34 t201.length co34)) (fun _ hk => hk.2) (.int .i64 t204)) (fun _ hk => hk.2) (.int .i64 t205)) (fun _ h_ => h_.1)))); (case side2 => exact (Kd.R_reads' HO203.out).2.1); (case side3 => refine (Kd.R_reads' (e := 21) (base := w.heap.size) (ok := fun k_ => (((True ∧ some k_ ≠ (.slice Ao19 t183.length co19 : Value).ownBlock) ∧ some k_ ≠ (.slice Ao28 t195.length co28 : Value).ownBlock) ∧ some k_ ≠ (.slice Ao34 t201.length co34 : Value).ownBlock)) (n := t188.length) (c := co22) ?_).2.2; exact (by (with_reducible repeat (first | apply Kd.R_alloc | apply Kd.R_drewN | apply Kd.R_drew)); exact (Kd.R_mono (Kd.R_far (p := ⟨gb207, 2, none⟩) (Kd.R_far (p := ⟨gb207, 1, none⟩) (Kd.R_far (p := ⟨gb207, 0, none⟩) (Kd.R_types HO190.out BK207.out (by decide)) (fun _ hk => hk.2) (.slice Ao34 t201.length co34)) (fun _ hk => hk.2) (.int .i64 t204)) (fun _ hk => hk.2) (.int .i64 t205)) (fun _ h_ => h_.1)))); (case side4 => exact (Kd.R_reads' HO190.out).2.1); rintro e w48 ⟨rfl, hb⟩; refine ⟨_, rfl, ?_⟩; have n0_ := Aside0.mk (Kd.R_below (by (with_reducible repeat (first | apply Kd.R_alloc | apply Kd.R_drewN | apply Kd.R_drew)); exact (Kd.R_mono (Kd.R_far (p := ⟨gb207, 2, none⟩) (Kd.R_far (p := ⟨gb207, 1, none⟩) (Kd.R_far (p := ⟨gb207, 0, none⟩) (Kd.R_types HO185.out BK207.out (by decide)) (fun _ hk => hk.2) (.slice Ao34 t201.length co34)) (fun _ hk => hk.2) (.int .i64 t204)) (fun _ hk => hk.2) (.int .i64 t205)) (fun _ h_ => h_.1))) hb); have n1_ := Aside0.mk (Kd.R_below (by (with_reducible repeat (first | apply Kd.R_alloc | apply Kd.R_drewN | apply Kd.R_drew)); exact (Kd.R_mono (Kd.R_far (p := ⟨gb207, 2, none⟩) (Kd.R_far (p := ⟨gb207, 1, none⟩) (Kd.R_far (p := ⟨gb207, 0, none⟩) (Kd.R_types HO190.out BK207.out (by decide)) (fun _ hk => hk.2) (.slice Ao34 t201.length co34)) (fun _ hk => hk.2) (.int .i64 t204)) (fun _ hk => hk.2) (.int .i64 t205)) (fun _ h_ => h_.1))) hb); have n2_ := Aside0.mk (Kd.R_below (by (with_reducible repeat (first | apply Kd.R_alloc | apply Kd.R_drewN | apply Kd.R_drew)); exact (Kd.R_mono (Kd.R_far (p := ⟨gb207, 2, none⟩) (Kd.R_far (p := ⟨gb207, 1, none⟩) (Kd.R_far (p := ⟨gb207, 0, none⟩) (Kd.R_types HO197.out BK207.out (by decide)) (fun _ hk => hk.2) (.slice Ao34 t201.length co34)) (fun _ hk => hk.2) (.int .i64 t204)) (fun _ hk => hk.2) (.int .i64 t205)) (fun _ h_ => h_.1))) hb); have n3_ := Aside0.mk (Kd.R_below (by (with_reducible repeat (first | apply Kd.R_alloc | apply Kd.R_drewN | apply Kd.R_drew)); exact (Kd.R_mono (Kd.R_far (p := ⟨gb207, 2, none⟩) (Kd.R_far (p := ⟨gb207, 1, none⟩) (Kd.R_far (p := ⟨gb207, 0, none⟩) (Kd.R_types HO203.out BK207.out (by decide)) (fun _ hk => hk.2) (.slice Ao34 t201.length co34)) (fun _ hk => hk.2) (.int .i64 t204)) (fun _ hk => hk.2) (.int .i64 t205)) (fun _ h_ => h_.1))) hb); have n4_ := Aside0.mk (blk_below (g := gb181) (o := .cells #[.slice A0_0 l0_0.length c0_0, .int .i64 a0_1, .int .i64 a0_2] 24 (0, 0)) (by (with_reducible repeat (first | refine blk_drewN ?_ _ | refine blk_drew ?_ | refine blk_alloc ?_ _)); refine blk_far ?_ NB181_207.out _; (with_reducible repeat (first | refine blk_drewN ?_ _ | refine blk_drew ?_ | refine blk_alloc ?_ _)); refine blk_far ?_ NB181_207.out _; (with_reducible repeat (first | refine blk_drewN ?_ _ | refine blk_drew ?_ | refine blk_alloc ?_ _)); refine blk_far ?_ NB181_207.out _; (with_reducible repeat (first | refine blk_drewN ?_ _ | refine blk_drew ?_ | refine blk_alloc ?_ _)); exact BK181.out) hb); have n5_ := Aside0.mk (blk_below (g := gb194) (o := .cells #[.slice Ao22 t188.length co22, .int .i64 t191, .int .i64 t192] 28 (0, 0)) (by (with_reducible repeat (first | refine blk_drewN ?_ _ | refine blk_drew ?_ | refine blk_alloc ?_ _)); refine blk_far ?_ NB194_207.out _; (with_reducible repeat (first | refine blk_drewN ?_ _ | refine blk_drew ?_ | refine blk_alloc ?_ _)); refine blk_far ?_ NB194_207.out _; (with_reducible repeat (first | refine blk_drewN ?_ _ | refine blk_drew ?_ | refine blk_alloc ?_ _)); refine blk_far ?_ NB194_207.out _; (with_reducible repeat (first | refine blk_drewN ?_ _ | refine blk_drew ?_ | refine blk_alloc ?_ _)); exact BK194.out) hb); have n6_ := Aside0.mk (blk_below (g := gb200) (o := .cells #[.slice Ao28 t195.length co28, .int .i64 t198, .int .i64 t199] 28 (0, 0)) (by (with_reducible repeat (first | refine blk_drewN ?_ _ | refine blk_drew ?_ | refine blk_alloc ?_ _)); refine blk_far ?_ NB200_207.out _; (with_reducible repeat (first | refine blk_drewN ?_ _ | refine blk_drew ?_ | refine blk_alloc ?_ _)); refine blk_far ?_ NB200_207.out _; (with_reducible repeat (first | refine blk_drewN ?_ _ | refine blk_drew ?_ | refine blk_alloc ?_ _)); refine blk_far ?_ NB200_207.out _; (with_reducible repeat (first | refine blk_drewN ?_ _ | refine blk_drew ?_ | refine blk_alloc ?_ _)); exact BK200.out) hb); have n7_ := Aside0.mk (blk_below (g := gb207) (o := .cells #[.slice Ao34 t201.length co34, .int .i64 t204, .int .i64 t205] 28 (0, 0)) (by (with_reducible repeat (first | refine blk_drewN ?_ _ | refine blk_drew ?_ | refine blk_alloc ?_ _)); refine blk_put (cs := #[.slice Ao34 t201.length co34, .int .i64 t204, .int .i64 0]) ?_ 2 _ rfl; (with_reducible repeat (first | refine blk_drewN ?_ _ | refine blk_drew ?_ | refine blk_alloc ?_ _)); refine blk_put (cs := #[.slice Ao34 t201.length co34, .int .i64 0, .int .i64 0]) ?_ 1 _ rfl; (with_reducible repeat (first | refine blk_drewN ?_ _ | refine blk_drew ?_ | refine blk_alloc ?_ _)); refine blk_put (cs := #[.slice none 0 0, .int .i64 0, .int .i64 0]) ?_ 0 _ rfl; (with_reducible repeat (first | refine blk_drewN ?_ _ | refine blk_drew ?_ | refine blk_alloc ?_ _)); exact BK207.out) hb); have n8_ := Aside0.mk (below_step (by repeat (first | (with_reducible first | exact HB.out | apply below_alloc | apply pw_below_drewN | apply below_drew1 | refine below_set ?_ GE181.out | refine below_set ?_ GE194.out | refine below_set ?_ GE200.out | refine below_set ?_ GE207.out) | exact HB.out)) hb); clear HO185; clear HO190; clear HO197; clear HO203; clear BK181; clear BK194; clear BK200; clear BK207; clear HB; have HO185 := n0_; have HO190 := n1_; have HO197 := n2_; have HO203 := n3_; have BK181 := n4_; have BK194 := n5_; have BK200 := n6_; have BK207 := n7_; have HB := n8_; clear n0_ n1_ n2_ n3_ n4_ n5_ n6_ n7_ n8_; (try clear hb); (try clear hb2); (try clear hk); (try clear hi)))
        go_meet
        case rel => exact ⟨_, ((t206 != t193)), (by first | rfl | (simp; done) | (simp [*]; done)), H', ⟨by first | omega | exact Nat.le_refl _⟩, ⟨by (with_reducible repeat (first | apply Kd.R_alloc | apply Kd.R_drewN | apply Kd.R_drew)); exact Kd.R_mono HO190.out (fun _ hk => ⟨hk.1.2, hk.2⟩)⟩, ⟨by (with_reducible repeat (first | apply Kd.R_alloc | apply Kd.R_drewN | apply Kd.R_drew)); exact Kd.R_mono HO197.out (fun _ hk => ⟨hk.1.2, hk.2⟩)⟩, ⟨by (with_reducible repeat (first | apply Kd.R_alloc | apply Kd.R_drewN | apply Kd.R_drew)); exact Kd.R_mono HO203.out (fun _ hk => ⟨hk.1.2, hk.2⟩)⟩, ⟨by (with_reducible repeat (first | refine blk_drewN ?_ _ | refine blk_drew ?_ | refine blk_alloc ?_ _)); exact BK181.out⟩, ⟨by (with_reducible repeat (first | refine blk_drewN ?_ _ | refine blk_drew ?_ | refine blk_alloc ?_ _)); exact BK194.out⟩, ⟨by (with_reducible repeat (first | refine blk_drewN ?_ _ | refine blk_drew ?_ | refine blk_alloc ?_ _)); exact BK200.out⟩, ⟨by (with_reducible repeat (first | refine blk_drewN ?_ _ | refine blk_drew ?_ | refine blk_alloc ?_ _)); exact BK207.out⟩, ⟨by repeat (first | (with_reducible first | exact HB.out | apply below_alloc | apply pw_below_drewN | apply below_drew1 | refine below_set ?_ GE181.out | refine below_set ?_ GE194.out | refine below_set ?_ GE200.out | refine below_set ?_ GE207.out) | exact HB.out)⟩⟩
      · replace c40 := Bool.eq_false_iff.mpr c40
        subst c40
        have H1 : (laws_FnExactGapDelete.j0 k a1 a2 t193 t206 true l0_0 a0_1 a0_2 t188 t191 t192 t195 t198 t199 t201 t204 t205) = some r := by rw [if_neg (show ¬ (false = true) by decide)] at H; exact H
        clear H
        have H := H1
        clear H1
        have H' := Aside0.mk H
        clear H
        have hnb49 := NB207_181.out
        have hnc49 := NB181_207.out
        have hnb50 := NB207_194.out
        have hnc50 := NB194_207.out
        have hnb51 := NB207_200.out
        have hnc51 := NB200_207.out
        have hcz52_0 : w33.cell? ⟨gb207, 0, none⟩ = some (.slice none 0 0) := (blk_cell BK207.out 0).trans rfl
        have hcz52_1 : w33.cell? ⟨gb207, 1, none⟩ = some (.int .i64 0) := (blk_cell BK207.out 1).trans rfl
        have hcz52_2 : w33.cell? ⟨gb207, 2, none⟩ = some (.int .i64 0) := (blk_cell BK207.out 2).trans rfl
        have hfz52_0 := blk_frozen BK207.out 0
        have hfz52_1 := blk_frozen BK207.out 1
        have hfz52_2 := blk_frozen BK207.out 2
        have hnb53 := NB194_181.out
        have hnc53 := NB181_194.out
        have hnb54 := NB194_200.out
        have hnc54 := NB200_194.out
        have hcz55_0 : w33.cell? ⟨gb194, 0, none⟩ = some (.slice Ao22 t188.length co22) := (blk_cell BK194.out 0).trans rfl
        have hcz55_1 : w33.cell? ⟨gb194, 1, none⟩ = some (.int .i64 t191) := (blk_cell BK194.out 1).trans rfl
        have hcz55_2 : w33.cell? ⟨gb194, 2, none⟩ = some (.int .i64 t192) := (blk_cell BK194.out 2).trans rfl
        have hfz55_0 := blk_frozen BK194.out 0
        have hfz55_1 := blk_frozen BK194.out 1
        have hfz55_2 := blk_frozen BK194.out 2
        go_wp2_with (first | ((with_reducible refine gate_callee (f := 15) rfl ?_); refine goesL_ (some 42) rfl rfl Tryd.func15 (by kernel_rfl) rfl #[.agg #[.slice Ao34 t201.length co34, .int .i64 t204, .int .i64 t205], .agg #[.slice Ao22 t188.length co22, .int .i64 t191, .int .i64 t192]] rfl (by (try simp only [List.map_toArray, List.map_cons, List.map_nil]); first | done | rfl | (simp only [List.length_drop, List.length_take]; rfl)) ?_; (with_reducible refine (laws_eqGap.calls k _ _ t201 t204 t205 _ _ t188 t191 t192 false _ ?side1 ?side2 ?side3 ?side4 A39.out).mono ?_); (case side1 => refine (Kd.R_reads' (e := 21) (base := w.heap.size) (ok := fun k_ => (((True ∧ some k_ ≠ (.slice Ao19 t183.length co19 : Value).ownBlock) ∧ some k_ ≠ (.slice Ao22 t188.length co22 : Value).ownBlock) ∧ some k_ ≠ (.slice Ao28 t195.length co28 : Value).ownBlock)) (n := t201.length) (c := co34) ?_).2.2; exact (by (with_reducible repeat (first | apply Kd.R_alloc | apply Kd.R_drewN | apply Kd.R_drew)); exact (Kd.R_mono (Kd.R_far (p := ⟨gb207, 2, none⟩) (Kd.R_far (p := ⟨gb207, 1, none⟩) (Kd.R_far (p := ⟨gb207, 0, none⟩) (Kd.R_types HO203.out BK207.out (by decide)) (fun _ hk => hk.2) (.slice Ao34 t201.length co34)) (fun _ hk => hk.2) (.int .i64 t204)) (fun _ hk => hk.2) (.int .i64 t205)) (fun _ h_ => h_.1)))); (case side2 => exact (Kd.R_reads' HO203.out).2.1); (case side3 => refine (Kd.R_reads' (e := 21) (base := w.heap.size) (ok := fun k_ => (((True ∧ some k_ ≠ (.slice Ao19 t183.length co19 : Value).ownBlock) ∧ some k_ ≠ (.slice Ao28 t195.length co28 : Value).ownBlock) ∧ some k_ ≠ (.slice Ao34 t201.length co34 : Value).ownBlock)) (n := t188.length) (c := co22) ?_).2.2; exact (by (with_reducible repeat (first | apply Kd.R_alloc | apply Kd.R_drewN | apply Kd.R_drew)); exact (Kd.R_mono (Kd.R_far (p := ⟨gb207, 2, none⟩) (Kd.R_far (p := ⟨gb207, 1, none⟩) (Kd.R_far (p := ⟨gb207, 0, none⟩) (Kd.R_types HO190.out BK207.out (by decide)) (fun _ hk => hk.2) (.slice Ao34 t201.length co34)) (fun _ hk => hk.2) (.int .i64 t204)) (fun _ hk => hk.2) (.int .i64 t205)) (fun _ h_ => h_.1)))); (case side4 => exact (Kd.R_reads' HO190.out).2.1); rintro e w56 ⟨rfl, hb⟩; refine ⟨_, rfl, ?_⟩; have n0_ := Aside0.mk (Kd.R_below (by (with_reducible repeat (first | apply Kd.R_alloc | apply Kd.R_drewN | apply Kd.R_drew)); exact (Kd.R_mono (Kd.R_far (p := ⟨gb207, 2, none⟩) (Kd.R_far (p := ⟨gb207, 1, none⟩) (Kd.R_far (p := ⟨gb207, 0, none⟩) (Kd.R_types HO185.out BK207.out (by decide)) (fun _ hk => hk.2) (.slice Ao34 t201.length co34)) (fun _ hk => hk.2) (.int .i64 t204)) (fun _ hk => hk.2) (.int .i64 t205)) (fun _ h_ => h_.1))) hb); have n1_ := Aside0.mk (Kd.R_below (by (with_reducible repeat (first | apply Kd.R_alloc | apply Kd.R_drewN | apply Kd.R_drew)); exact (Kd.R_mono (Kd.R_far (p := ⟨gb207, 2, none⟩) (Kd.R_far (p := ⟨gb207, 1, none⟩) (Kd.R_far (p := ⟨gb207, 0, none⟩) (Kd.R_types HO190.out BK207.out (by decide)) (fun _ hk => hk.2) (.slice Ao34 t201.length co34)) (fun _ hk => hk.2) (.int .i64 t204)) (fun _ hk => hk.2) (.int .i64 t205)) (fun _ h_ => h_.1))) hb); have n2_ := Aside0.mk (Kd.R_below (by (with_reducible repeat (first | apply Kd.R_alloc | apply Kd.R_drewN | apply Kd.R_drew)); exact (Kd.R_mono (Kd.R_far (p := ⟨gb207, 2, none⟩) (Kd.R_far (p := ⟨gb207, 1, none⟩) (Kd.R_far (p := ⟨gb207, 0, none⟩) (Kd.R_types HO197.out BK207.out (by decide)) (fun _ hk => hk.2) (.slice Ao34 t201.length co34)) (fun _ hk => hk.2) (.int .i64 t204)) (fun _ hk => hk.2) (.int .i64 t205)) (fun _ h_ => h_.1))) hb); have n3_ := Aside0.mk (Kd.R_below (by (with_reducible repeat (first | apply Kd.R_alloc | apply Kd.R_drewN | apply Kd.R_drew)); exact (Kd.R_mono (Kd.R_far (p := ⟨gb207, 2, none⟩) (Kd.R_far (p := ⟨gb207, 1, none⟩) (Kd.R_far (p := ⟨gb207, 0, none⟩) (Kd.R_types HO203.out BK207.out (by decide)) (fun _ hk => hk.2) (.slice Ao34 t201.length co34)) (fun _ hk => hk.2) (.int .i64 t204)) (fun _ hk => hk.2) (.int .i64 t205)) (fun _ h_ => h_.1))) hb); have n4_ := Aside0.mk (blk_below (g := gb181) (o := .cells #[.slice A0_0 l0_0.length c0_0, .int .i64 a0_1, .int .i64 a0_2] 24 (0, 0)) (by (with_reducible repeat (first | refine blk_drewN ?_ _ | refine blk_drew ?_ | refine blk_alloc ?_ _)); refine blk_far ?_ NB181_207.out _; (with_reducible repeat (first | refine blk_drewN ?_ _ | refine blk_drew ?_ | refine blk_alloc ?_ _)); refine blk_far ?_ NB181_207.out _; (with_reducible repeat (first | refine blk_drewN ?_ _ | refine blk_drew ?_ | refine blk_alloc ?_ _)); refine blk_far ?_ NB181_207.out _; (with_reducible repeat (first | refine blk_drewN ?_ _ | refine blk_drew ?_ | refine blk_alloc ?_ _)); exact BK181.out) hb); have n5_ := Aside0.mk (blk_below (g := gb194) (o := .cells #[.slice Ao22 t188.length co22, .int .i64 t191, .int .i64 t192] 28 (0, 0)) (by (with_reducible repeat (first | refine blk_drewN ?_ _ | refine blk_drew ?_ | refine blk_alloc ?_ _)); refine blk_far ?_ NB194_207.out _; (with_reducible repeat (first | refine blk_drewN ?_ _ | refine blk_drew ?_ | refine blk_alloc ?_ _)); refine blk_far ?_ NB194_207.out _; (with_reducible repeat (first | refine blk_drewN ?_ _ | refine blk_drew ?_ | refine blk_alloc ?_ _)); refine blk_far ?_ NB194_207.out _; (with_reducible repeat (first | refine blk_drewN ?_ _ | refine blk_drew ?_ | refine blk_alloc ?_ _)); exact BK194.out) hb); have n6_ := Aside0.mk (blk_below (g := gb200) (o := .cells #[.slice Ao28 t195.length co28, .int .i64 t198, .int .i64 t199] 28 (0, 0)) (by (with_reducible repeat (first | refine blk_drewN ?_ _ | refine blk_drew ?_ | refine blk_alloc ?_ _)); refine blk_far ?_ NB200_207.out _; (with_reducible repeat (first | refine blk_drewN ?_ _ | refine blk_drew ?_ | refine blk_alloc ?_ _)); refine blk_far ?_ NB200_207.out _; (with_reducible repeat (first | refine blk_drewN ?_ _ | refine blk_drew ?_ | refine blk_alloc ?_ _)); refine blk_far ?_ NB200_207.out _; (with_reducible repeat (first | refine blk_drewN ?_ _ | refine blk_drew ?_ | refine blk_alloc ?_ _)); exact BK200.out) hb); have n7_ := Aside0.mk (blk_below (g := gb207) (o := .cells #[.slice Ao34 t201.length co34, .int .i64 t204, .int .i64 t205] 28 (0, 0)) (by (with_reducible repeat (first | refine blk_drewN ?_ _ | refine blk_drew ?_ | refine blk_alloc ?_ _)); refine blk_put (cs := #[.slice Ao34 t201.length co34, .int .i64 t204, .int .i64 0]) ?_ 2 _ rfl; (with_reducible repeat (first | refine blk_drewN ?_ _ | refine blk_drew ?_ | refine blk_alloc ?_ _)); refine blk_put (cs := #[.slice Ao34 t201.length co34, .int .i64 0, .int .i64 0]) ?_ 1 _ rfl; (with_reducible repeat (first | refine blk_drewN ?_ _ | refine blk_drew ?_ | refine blk_alloc ?_ _)); refine blk_put (cs := #[.slice none 0 0, .int .i64 0, .int .i64 0]) ?_ 0 _ rfl; (with_reducible repeat (first | refine blk_drewN ?_ _ | refine blk_drew ?_ | refine blk_alloc ?_ _)); exact BK207.out) hb); have n8_ := Aside0.mk (below_step (by repeat (first | (with_reducible first | exact HB.out | apply below_alloc | apply pw_below_drewN | apply below_drew1 | refine below_set ?_ GE181.out | refine below_set ?_ GE194.out | refine below_set ?_ GE200.out | refine below_set ?_ GE207.out) | exact HB.out)) hb); clear HO185; clear HO190; clear HO197; clear HO203; clear BK181; clear BK194; clear BK200; clear BK207; clear HB; have HO185 := n0_; have HO190 := n1_; have HO197 := n2_; have HO203 := n3_; have BK181 := n4_; have BK194 := n5_; have BK200 := n6_; have BK207 := n7_; have HB := n8_; clear n0_ n1_ n2_ n3_ n4_ n5_ n6_ n7_ n8_; (try clear hb); (try clear hb2); (try clear hk); (try clear hi)))
        go_meet
        case rel => exact ⟨_, (true), (by first | rfl | (simp; done) | (simp [*]; done)), H', ⟨by first | omega | exact Nat.le_refl _⟩, ⟨by (with_reducible repeat (first | apply Kd.R_alloc | apply Kd.R_drewN | apply Kd.R_drew)); exact Kd.R_mono HO190.out (fun _ hk => ⟨hk.1.2, hk.2⟩)⟩, ⟨by (with_reducible repeat (first | apply Kd.R_alloc | apply Kd.R_drewN | apply Kd.R_drew)); exact Kd.R_mono HO197.out (fun _ hk => ⟨hk.1.2, hk.2⟩)⟩, ⟨by (with_reducible repeat (first | apply Kd.R_alloc | apply Kd.R_drewN | apply Kd.R_drew)); exact Kd.R_mono HO203.out (fun _ hk => ⟨hk.1.2, hk.2⟩)⟩, ⟨by (with_reducible repeat (first | refine blk_drewN ?_ _ | refine blk_drew ?_ | refine blk_alloc ?_ _)); exact BK181.out⟩, ⟨by (with_reducible repeat (first | refine blk_drewN ?_ _ | refine blk_drew ?_ | refine blk_alloc ?_ _)); exact BK194.out⟩, ⟨by (with_reducible repeat (first | refine blk_drewN ?_ _ | refine blk_drew ?_ | refine blk_alloc ?_ _)); exact BK200.out⟩, ⟨by (with_reducible repeat (first | refine blk_drewN ?_ _ | refine blk_drew ?_ | refine blk_alloc ?_ _)); exact BK207.out⟩, ⟨by repeat (first | (with_reducible first | exact HB.out | apply below_alloc | apply pw_below_drewN | apply below_drew1 | refine below_set ?_ GE181.out | refine below_set ?_ GE194.out | refine below_set ?_ GE200.out | refine below_set ?_ GE207.out) | exact HB.out)⟩⟩
    case rest =>
      clear HC13
      try clear c1
      try clear c2
      try clear p2
      try clear c3
      try clear c4
      try clear c5
      try clear c5b0
      try clear c10
      try clear c12
      try clear c15
      try clear c19
      try clear c20
      try clear c23
      try clear c29
      try clear c30
      try clear c35
      try clear c36
      try clear c37
      try clear c40
      try clear c41
      try clear c42
      try clear c43
      try clear c45
      try clear c46
      try clear c49
      try clear c50
      try clear c51
      try clear c53
      try clear c54
      try clear hcz15_0
      try clear hcz15_1
      try clear hcz15_2
      try clear hcz17_0
      try clear hcz17_1
      try clear hcz17_2
      try clear hcz24_0
      try clear hcz24_1
      try clear hcz24_2
      try clear hcz25_0
      try clear hcz25_1
      try clear hcz25_2
      try clear hcz31_0
      try clear hcz31_1
      try clear hcz31_2
      try clear hcz38_0
      try clear hcz38_1
      try clear hcz38_2
      try clear hcz44_0
      try clear hcz44_1
      try clear hcz44_2
      try clear hcz47_0
      try clear hcz47_1
      try clear hcz47_2
      try clear hcz52_0
      try clear hcz52_1
      try clear hcz52_2
      try clear hcz55_0
      try clear hcz55_1
      try clear hcz55_2
      try clear hcz7_0
      try clear hcz7_1
      try clear hcz7_2
      try clear hfz15_0
      try clear hfz15_1
      try clear hfz15_2
      try clear hfz17_0
      try clear hfz17_1
      try clear hfz17_2
      try clear hfz24_0
      try clear hfz24_1
      try clear hfz24_2
      try clear hfz25_0
      try clear hfz25_1
      try clear hfz25_2
      try clear hfz31_0
      try clear hfz31_1
      try clear hfz31_2
      try clear hfz38_0
      try clear hfz38_1
      try clear hfz38_2
      try clear hfz44_0
      try clear hfz44_1
      try clear hfz44_2
      try clear hfz47_0
      try clear hfz47_1
      try clear hfz47_2
      try clear hfz52_0
      try clear hfz52_1
      try clear hfz52_2
      try clear hfz55_0
      try clear hfz55_1
      try clear hfz55_2
      try clear hfz7_0
      try clear hfz7_1
      try clear hfz7_2
      obtain ⟨kq, x48_12, rfl, HA, HJ12, HO_195000, HO_201000, HO_208000, BK181, BK194, BK200, BK207, HB⟩ := hcut
      cases kq with
      | zero => exact absurd HA.out (by simp [laws_FnExactGapDelete.j0])
      | succ kj12 =>
        have H := HA.out
        clear HA
        simp only [laws_FnExactGapDelete.j0] at H
        by_cases c57 : x48_12 = true
        · subst c57
          have H1 : (some false) = some r := by rw [if_pos rfl] at H; exact H
          clear H
          have H := H1
          clear H1
          obtain rfl := Option.some.inj H
          go_wp2
          go_ret
          exact ⟨by first | rfl | (simp [errW_none, errW_some] <;> rfl) | (simp [*, errW_none, errW_some] <;> rfl), by repeat (first | (with_reducible first | exact HB.out | apply below_alloc | apply pw_below_drewN | apply below_drew1 | refine below_set ?_ GE181.out | refine below_set ?_ GE194.out | refine below_set ?_ GE200.out | refine below_set ?_ GE207.out) | exact HB.out)⟩
        · replace c57 := Bool.eq_false_iff.mpr c57
          subst c57
          have H1 : ((laws_toGap.f kj12 l0_0 a0_1 a0_2).bind fun bt209 => ((laws_eqGap.f kj12 t195 t198 t199 bt209.1 bt209.2.1 bt209.2.2).bind fun t214 => (if t214 = true then ((laws_markGap.f kj12 t195 t198 t199 1).bind fun bt215 => (if bt215.1 < 0 then (laws_FnExactGapDelete.j1 kj12 a1 a2 t193 true l0_0 a0_1 a0_2 t188 t191 t192 t201 t204 t205) else ((laws_eqGap.f kj12 t201 t204 t205 t188 t191 t192).bind fun t217 => (if t217 = true then (laws_FnExactGapDelete.j1 kj12 a1 a2 t193 (t206 != t193) l0_0 a0_1 a0_2 t188 t191 t192 t201 t204 t205) else (laws_FnExactGapDelete.j1 kj12 a1 a2 t193 true l0_0 a0_1 a0_2 t188 t191 t192 t201 t204 t205))))) else (some false)))) = some r := by rw [if_neg (show ¬ (false = true) by decide)] at H; exact H
          clear H
          have H := H1
          clear H1
          replace H := Option.bind_eq_some_iff.mp H
          obtain ⟨⟨t209, t212, t213⟩, A580, H⟩ := H
          replace H : ((laws_eqGap.f kj12 t195 t198 t199 t209 t212 t213).bind fun t214 => (if t214 = true then ((laws_markGap.f kj12 t195 t198 t199 1).bind fun bt215 => (if bt215.1 < 0 then (laws_FnExactGapDelete.j1 kj12 a1 a2 t193 true l0_0 a0_1 a0_2 t188 t191 t192 t201 t204 t205) else ((laws_eqGap.f kj12 t201 t204 t205 t188 t191 t192).bind fun t217 => (if t217 = true then (laws_FnExactGapDelete.j1 kj12 a1 a2 t193 (t206 != t193) l0_0 a0_1 a0_2 t188 t191 t192 t201 t204 t205) else (laws_FnExactGapDelete.j1 kj12 a1 a2 t193 true l0_0 a0_1 a0_2 t188 t191 t192 t201 t204 t205))))) else (some false))) = some r := H
          have A58 := Aside0.mk A580
          clear A580
          replace H := Option.bind_eq_some_iff.mp H
          obtain ⟨t214, A590, H⟩ := H
          replace H : (if t214 = true then ((laws_markGap.f kj12 t195 t198 t199 1).bind fun bt215 => (if bt215.1 < 0 then (laws_FnExactGapDelete.j1 kj12 a1 a2 t193 true l0_0 a0_1 a0_2 t188 t191 t192 t201 t204 t205) else ((laws_eqGap.f kj12 t201 t204 t205 t188 t191 t192).bind fun t217 => (if t217 = true then (laws_FnExactGapDelete.j1 kj12 a1 a2 t193 (t206 != t193) l0_0 a0_1 a0_2 t188 t191 t192 t201 t204 t205) else (laws_FnExactGapDelete.j1 kj12 a1 a2 t193 true l0_0 a0_1 a0_2 t188 t191 t192 t201 t204 t205))))) else (some false)) = some r := H
          have A59 := Aside0.mk A590
          clear A590
          by_cases c60 : t214 = true
          · subst c60
            have H1 : ((laws_markGap.f kj12 t195 t198 t199 1).bind fun bt215 => (if bt215.1 < 0 then (laws_FnExactGapDelete.j1 kj12 a1 a2 t193 true l0_0 a0_1 a0_2 t188 t191 t192 t201 t204 t205) else ((laws_eqGap.f kj12 t201 t204 t205 t188 t191 t192).bind fun t217 => (if t217 = true then (laws_FnExactGapDelete.j1 kj12 a1 a2 t193 (t206 != t193) l0_0 a0_1 a0_2 t188 t191 t192 t201 t204 t205) else (laws_FnExactGapDelete.j1 kj12 a1 a2 t193 true l0_0 a0_1 a0_2 t188 t191 t192 t201 t204 t205))))) = some r := by rw [if_pos rfl] at H; exact H
            clear H
            have H := H1
            clear H1
            replace H := Option.bind_eq_some_iff.mp H
            obtain ⟨⟨t215, t216⟩, A610, H⟩ := H
            replace H : (if t215 < 0 then (laws_FnExactGapDelete.j1 kj12 a1 a2 t193 true l0_0 a0_1 a0_2 t188 t191 t192 t201 t204 t205) else ((laws_eqGap.f kj12 t201 t204 t205 t188 t191 t192).bind fun t217 => (if t217 = true then (laws_FnExactGapDelete.j1 kj12 a1 a2 t193 (t206 != t193) l0_0 a0_1 a0_2 t188 t191 t192 t201 t204 t205) else (laws_FnExactGapDelete.j1 kj12 a1 a2 t193 true l0_0 a0_1 a0_2 t188 t191 t192 t201 t204 t205)))) = some r := H
            have A61 := Aside0.mk A610
            clear A610
            have HC62 := Aside0.mk H
            clear H
            try go_wp2
            have n0_ := Aside0.mk (Kd.R_drew HO_195000.out)
            have n1_ := Aside0.mk (Kd.R_drew HO_201000.out)
            have n2_ := Aside0.mk (Kd.R_drew HO_208000.out)
            have n3_ := Aside0.mk (blk_drew BK181.out)
            have n4_ := Aside0.mk (blk_drew BK194.out)
            have n5_ := Aside0.mk (blk_drew BK200.out)
            have n6_ := Aside0.mk (blk_drew BK207.out)
            have n7_ := Aside0.mk (below_drew1 HB.out)
            clear HO_195000
            clear HO_201000
            clear HO_208000
            clear BK181
            clear BK194
            clear BK200
            clear BK207
            clear HB
            have HO_195000 := n0_
            have HO_201000 := n1_
            have HO_208000 := n2_
            have BK181 := n3_
            have BK194 := n4_
            have BK200 := n5_
            have BK207 := n6_
            have HB := n7_
            clear n0_ n1_ n2_ n3_ n4_ n5_ n6_ n7_
            refine start_ (n := 5) (S := fun w' => w'.cell? ⟨gb200, 0, none⟩ = some (.slice Ao28 t195.length co28) ∧ w'.cell? ⟨gb200, 1, none⟩ = some (.int .i64 t198) ∧ w'.cell? ⟨gb200, 2, none⟩ = some (.int .i64 t199) ∧ w'.cell? ⟨gb181, 0, none⟩ = some (.slice A0_0 l0_0.length c0_0) ∧ w'.cell? ⟨gb181, 1, none⟩ = some (.int .i64 a0_1) ∧ w'.cell? ⟨gb181, 2, none⟩ = some (.int .i64 a0_2)) (ds := []) #[false, false, false, false, false] (by kernel_rfl) rfl rfl ⟨(blk_cell BK200.out 0).trans rfl, (blk_cell BK200.out 1).trans rfl, (blk_cell BK200.out 2).trans rfl, (blk_cell BK181.out 0).trans rfl, (blk_cell BK181.out 1).trans rfl, (blk_cell BK181.out 2).trans rfl⟩ (fun hHeld => ?_)
            generalize wc.drew = w63 at HO_195000 HO_201000 HO_208000 BK181 BK194 BK200 BK207 HB hHeld ⊢
            refine take_ (i := 0) (N := some 49) (v := ?_) (a' := ?_) #[true, false, false, false, false] rfl rfl (by kernel_rfl) (fun _ _ _ h => h) (Or.inl ⟨by rfl, ?_⟩) hHeld ?_ ?_
            rotate_left
            · rintro w' ⟨s0, s1, s2, s3, s4, s5⟩
              go_simp
              with_reducible rfl
            rotate_left
            · simp only [Act.put, List.setIfInBounds_toArray, List.set_cons_zero, List.set_cons_succ, i64_w, i32_w]
              rfl
            refine take_ (i := 1) (N := some 50) (v := ?_) (a' := ?_) #[true, true, false, false, false] rfl rfl (by kernel_rfl) (fun _ _ _ h => h) (Or.inl ⟨by rfl, ?_⟩) hHeld ?_ ?_
            rotate_left
            · rintro w' ⟨s0, s1, s2, s3, s4, s5⟩
              go_simp
              with_reducible rfl
            rotate_left
            · simp only [Act.put, List.setIfInBounds_toArray, List.set_cons_zero, List.set_cons_succ, i64_w, i32_w]
              rfl
            refine one_ (i := 2) (N := some 51) #[true, true, true, false, false] rfl rfl (by kernel_rfl) (by decide) (fun K hK => ?_)
            refine goes_ Tryd.func12 (by kernel_rfl) rfl #[.agg #[.slice A0_0 l0_0.length c0_0, .int .i64 a0_1, .int .i64 a0_2]] (by rfl) rfl rfl (by (try simp only [List.map_toArray, List.map_cons, List.map_nil]); first | done | rfl | (simp only [List.length_drop, List.length_take]; rfl)) ?_
            with_reducible refine (laws_toGap.calls kj12 _ _ l0_0 a0_1 a0_2 t209 t212 t213 _ ?side1 ?side2 A58.out).mono ?_
            (case side1 => repeat (first | exact (Kd.C_below HR0_0.out HB.out) | (with_reducible refine Kd.C_alloc ?_ _) | (with_reducible refine Kd.C_drewN ?_ _) | (with_reducible refine Kd.C_drew ?_)))
            (case side2 => exact HC0_0.out)
            rintro e w64 ⟨v210, rfl, ho0, hb⟩
            refine ⟨_, rfl, ?_⟩
            have n0_ := Aside0.mk (Kd.R_elder' (by (with_reducible repeat (first | apply Kd.R_alloc | apply Kd.R_drewN | apply Kd.R_drew)); exact HO_195000.out) (Kd.R_base ho0) hb)
            have n1_ := Aside0.mk (Kd.R_elder' (by (with_reducible repeat (first | apply Kd.R_alloc | apply Kd.R_drewN | apply Kd.R_drew)); exact HO_201000.out) (Kd.R_base ho0) hb)
            have n2_ := Aside0.mk (Kd.R_elder' (by (with_reducible repeat (first | apply Kd.R_alloc | apply Kd.R_drewN | apply Kd.R_drew)); exact HO_208000.out) (Kd.R_base ho0) hb)
            have n3_ := Aside0.mk (Kd.R_lower (Kd.R_new' (Kd.R_new' (Kd.R_new' ho0 (Kd.R_lt (by (with_reducible repeat (first | apply Kd.R_alloc | apply Kd.R_drewN | apply Kd.R_drew)); exact HO_195000.out))) (Kd.R_lt (by (with_reducible repeat (first | apply Kd.R_alloc | apply Kd.R_drewN | apply Kd.R_drew)); exact HO_201000.out))) (Kd.R_lt (by (with_reducible repeat (first | apply Kd.R_alloc | apply Kd.R_drewN | apply Kd.R_drew)); exact HO_208000.out))) (below_size (by repeat (first | (with_reducible first | exact HB.out | apply below_alloc | apply pw_below_drewN | apply below_drew1 | refine below_set ?_ GE181.out | refine below_set ?_ GE194.out | refine below_set ?_ GE200.out | refine below_set ?_ GE207.out) | exact HB.out))))
            have n4_ := Aside0.mk (blk_below (g := gb181) (o := .cells #[.slice A0_0 l0_0.length c0_0, .int .i64 a0_1, .int .i64 a0_2] 24 (0, 0)) (by (with_reducible repeat (first | refine blk_drewN ?_ _ | refine blk_drew ?_ | refine blk_alloc ?_ _)); exact BK181.out) hb)
            have n5_ := Aside0.mk (blk_below (g := gb194) (o := .cells #[.slice Ao22 t188.length co22, .int .i64 t191, .int .i64 t192] 28 (0, 0)) (by (with_reducible repeat (first | refine blk_drewN ?_ _ | refine blk_drew ?_ | refine blk_alloc ?_ _)); exact BK194.out) hb)
            have n6_ := Aside0.mk (blk_below (g := gb200) (o := .cells #[.slice Ao28 t195.length co28, .int .i64 t198, .int .i64 t199] 28 (0, 0)) (by (with_reducible repeat (first | refine blk_drewN ?_ _ | refine blk_drew ?_ | refine blk_alloc ?_ _)); exact BK200.out) hb)
            have n7_ := Aside0.mk (blk_below (g := gb207) (o := .cells #[.slice Ao34 t201.length co34, .int .i64 t204, .int .i64 t205] 28 (0, 0)) (by (with_reducible repeat (first | refine blk_drewN ?_ _ | refine blk_drew ?_ | refine blk_alloc ?_ _)); exact BK207.out) hb)
            have n8_ := Aside0.mk (below_step (by repeat (first | (with_reducible first | exact HB.out | apply below_alloc | apply pw_below_drewN | apply below_drew1 | refine below_set ?_ GE181.out | refine below_set ?_ GE194.out | refine below_set ?_ GE200.out | refine below_set ?_ GE207.out) | exact HB.out)) hb)
            clear HO_195000
            clear HO_201000
            clear HO_208000
            clear BK181
            clear BK194
            clear BK200
            clear BK207
            clear HB
            have HO_195000 := n0_
            have HO_201000 := n1_
            have HO_208000 := n2_
            have HO211 := n3_
            have BK181 := n4_
            have BK194 := n5_
            have BK200 := n6_
            have BK207 := n7_
            have HB := n8_
            clear n0_ n1_ n2_ n3_ n4_ n5_ n6_ n7_ n8_
            (try clear hb)
            (try clear hb2)
            (try clear hk)
            (try clear hi)
            (try clear ho0)
            obtain ⟨Ao65, co65, eo65⟩ := Kd.R_slice HO211.out
            (first | subst eo65 | (injection eo65 with f1_ f2_ f3_; have f4_ := f1_.symm; have f5_ := f3_.symm; clear f1_ f2_ f3_; subst f4_; subst f5_))
            refine hK.out _ _ ⟨(blk_cell BK200.out 0).trans rfl, (blk_cell BK200.out 1).trans rfl, (blk_cell BK200.out 2).trans rfl, (blk_cell BK181.out 0).trans rfl, (blk_cell BK181.out 1).trans rfl, (blk_cell BK181.out 2).trans rfl⟩ (fun hHeld => ?_)
            clear hK K
            refine norm_ (a' := ?_) ?_ ?_
            rotate_left
            · show Act.put _ (some 51) _ = _
              simp only [Act.put, List.setIfInBounds_toArray, List.set_cons_zero, List.set_cons_succ, i64_w, i32_w]
              rfl
            refine one_ (i := 3) (N := some 52) #[true, true, true, true, false] rfl rfl (by kernel_rfl) (by decide) (fun K hK => ?_)
            refine goes_ Tryd.func15 (by kernel_rfl) rfl #[.agg #[.slice Ao28 t195.length co28, .int .i64 t198, .int .i64 t199], .agg #[.slice Ao65 t209.length co65, .int .i64 t212, .int .i64 t213]] (by rfl) rfl rfl (by (try simp only [List.map_toArray, List.map_cons, List.map_nil]); first | done | rfl | (simp only [List.length_drop, List.length_take]; rfl)) ?_
            with_reducible refine (laws_eqGap.calls kj12 _ _ t195 t198 t199 _ _ t209 t212 t213 true _ ?side1 ?side2 ?side3 ?side4 A59.out).mono ?_
            (case side1 => repeat (first | exact (Kd.R_reads' HO_201000.out).2.2 | (with_reducible refine Kd.C_alloc ?_ _) | (with_reducible refine Kd.C_drewN ?_ _) | (with_reducible refine Kd.C_drew ?_)))
            (case side2 => exact (Kd.R_reads' HO_201000.out).2.1)
            (case side3 => repeat (first | exact (Kd.R_reads' HO211.out).2.2 | (with_reducible refine Kd.C_alloc ?_ _) | (with_reducible refine Kd.C_drewN ?_ _) | (with_reducible refine Kd.C_drew ?_)))
            (case side4 => exact (Kd.R_reads' HO211.out).2.1)
            rintro e w66 ⟨rfl, hb⟩
            refine ⟨_, rfl, ?_⟩
            have n0_ := Aside0.mk (Kd.R_below (by (with_reducible repeat (first | apply Kd.R_alloc | apply Kd.R_drewN | apply Kd.R_drew)); exact HO_195000.out) hb)
            have n1_ := Aside0.mk (Kd.R_below (by (with_reducible repeat (first | apply Kd.R_alloc | apply Kd.R_drewN | apply Kd.R_drew)); exact HO_201000.out) hb)
            have n2_ := Aside0.mk (Kd.R_below (by (with_reducible repeat (first | apply Kd.R_alloc | apply Kd.R_drewN | apply Kd.R_drew)); exact HO_208000.out) hb)
            have n3_ := Aside0.mk (Kd.R_below (by (with_reducible repeat (first | apply Kd.R_alloc | apply Kd.R_drewN | apply Kd.R_drew)); exact HO211.out) hb)
            have n4_ := Aside0.mk (blk_below (g := gb181) (o := .cells #[.slice A0_0 l0_0.length c0_0, .int .i64 a0_1, .int .i64 a0_2] 24 (0, 0)) (by (with_reducible repeat (first | refine blk_drewN ?_ _ | refine blk_drew ?_ | refine blk_alloc ?_ _)); exact BK181.out) hb)
            have n5_ := Aside0.mk (blk_below (g := gb194) (o := .cells #[.slice Ao22 t188.length co22, .int .i64 t191, .int .i64 t192] 28 (0, 0)) (by (with_reducible repeat (first | refine blk_drewN ?_ _ | refine blk_drew ?_ | refine blk_alloc ?_ _)); exact BK194.out) hb)
            have n6_ := Aside0.mk (blk_below (g := gb200) (o := .cells #[.slice Ao28 t195.length co28, .int .i64 t198, .int .i64 t199] 28 (0, 0)) (by (with_reducible repeat (first | refine blk_drewN ?_ _ | refine blk_drew ?_ | refine blk_alloc ?_ _)); exact BK200.out) hb)
            have n7_ := Aside0.mk (blk_below (g := gb207) (o := .cells #[.slice Ao34 t201.length co34, .int .i64 t204, .int .i64 t205] 28 (0, 0)) (by (with_reducible repeat (first | refine blk_drewN ?_ _ | refine blk_drew ?_ | refine blk_alloc ?_ _)); exact BK207.out) hb)
            have n8_ := Aside0.mk (below_step (by repeat (first | (with_reducible first | exact HB.out | apply below_alloc | apply pw_below_drewN | apply below_drew1 | refine below_set ?_ GE181.out | refine below_set ?_ GE194.out | refine below_set ?_ GE200.out | refine below_set ?_ GE207.out) | exact HB.out)) hb)
            clear HO_195000
            clear HO_201000
            clear HO_208000
            clear HO211
            clear BK181
            clear BK194
            clear BK200
            clear BK207
            clear HB
            have HO_195000 := n0_
            have HO_201000 := n1_
            have HO_208000 := n2_
            have HO211 := n3_
            have BK181 := n4_
            have BK194 := n5_
            have BK200 := n6_
            have BK207 := n7_
            have HB := n8_
            clear n0_ n1_ n2_ n3_ n4_ n5_ n6_ n7_ n8_
            (try clear hb)
            (try clear hb2)
            (try clear hk)
            (try clear hi)
            refine hK.out _ _ ⟨(blk_cell BK200.out 0).trans rfl, (blk_cell BK200.out 1).trans rfl, (blk_cell BK200.out 2).trans rfl, (blk_cell BK181.out 0).trans rfl, (blk_cell BK181.out 1).trans rfl, (blk_cell BK181.out 2).trans rfl⟩ (fun hHeld => ?_)
            clear hK K
            refine norm_ (a' := ?_) ?_ ?_
            rotate_left
            · show Act.put _ (some 52) _ = _
              simp only [Act.put, List.setIfInBounds_toArray, List.set_cons_zero, List.set_cons_succ, i64_w, i32_w]
              rfl
            refine pure_ (i := 4) (N := some 53) (v := ?_) (a' := ?_) #[true, true, true, true, true] rfl rfl (by kernel_rfl) (fun _ _ _ h => h) (Or.inl ⟨by rfl, ?_⟩) ?_ ?_
            rotate_left
            · intro w'
              go_simp
              with_reducible rfl
            rotate_left
            · simp only [Act.put, List.setIfInBounds_toArray, List.set_cons_zero, List.set_cons_succ, i64_w, i32_w]
              rfl
            refine done_ (by kernel_rfl) ?_
            have hnb67 := NB200_181.out
            have hnc67 := NB181_200.out
            have hnb68 := NB200_194.out
            have hnc68 := NB194_200.out
            have hnb69 := NB200_207.out
            have hnc69 := NB207_200.out
            have hcz70_0 : w66.cell? ⟨gb200, 0, none⟩ = some (.slice Ao28 t195.length co28) := (blk_cell BK200.out 0).trans rfl
            have hcz70_1 : w66.cell? ⟨gb200, 1, none⟩ = some (.int .i64 t198) := (blk_cell BK200.out 1).trans rfl
            have hcz70_2 : w66.cell? ⟨gb200, 2, none⟩ = some (.int .i64 t199) := (blk_cell BK200.out 2).trans rfl
            have hfz70_0 := blk_frozen BK200.out 0
            have hfz70_1 := blk_frozen BK200.out 1
            have hfz70_2 := blk_frozen BK200.out 2
            go_upto_region 14 with (first | ((with_reducible refine gate_callee (f := 16) rfl ?_); refine goesL_ (some 56) rfl rfl Tryd.func16 (by kernel_rfl) rfl #[.agg #[.slice Ao28 t195.length co28, .int .i64 t198, .int .i64 t199], .int .i64 1] rfl (by (try simp only [List.map_toArray, List.map_cons, List.map_nil]); first | done | rfl | (simp only [List.length_drop, List.length_take]; rfl)) ?_; (with_reducible refine (laws_markGap.calls kj12 (fun k_ => some k_ = (.slice Ao28 t195.length co28 : Value).ownBlock) (.slice Ao28 t195.length co28) t195 t198 t199 1 t215 t216 w _ ?side1 ?side2 A61.out).mono ?_); (case side1 => repeat (first | (with_reducible first | exact HB.out | apply below_alloc | apply pw_below_drewN | apply below_drew1 | refine below_set ?_ GE181.out | refine below_set ?_ GE194.out | refine below_set ?_ GE200.out | refine below_set ?_ GE207.out) | exact HB.out)); (case side2 => exact Kd.R_tight rfl HO_201000.out); rintro e w71 ⟨rfl, hy0, hb, hkp⟩; refine ⟨_, rfl, ?_⟩; have n0_ := Aside0.mk (Kd.R_mono (ok' := fun k_ => some k_ ≠ (.slice Ao28 t195.length co28 : Value).ownBlock ∧ some k_ ≠ (.slice Ao34 t201.length co34 : Value).ownBlock ∧ some k_ ≠ (.slice Ao65 t209.length co65 : Value).ownBlock) (Kd.R_keptB (HO_195000.out) hkp (fun k_ hk_ hs_ => (hk_.1.1) hs_)) (fun k_ hk_ => ⟨hk_.1.1.1, hk_.1.1.2, hk_.1.2⟩)); have n1_ := Aside0.mk (Kd.R_reok rfl hy0 (fun k_ e_ => HO_201000.out.1 k_ e_)); have n2_ := Aside0.mk (Kd.R_mono (ok' := fun k_ => some k_ ≠ (.slice Ao22 t188.length co22 : Value).ownBlock ∧ some k_ ≠ (.slice Ao28 t195.length co28 : Value).ownBlock ∧ some k_ ≠ (.slice Ao65 t209.length co65 : Value).ownBlock) (Kd.R_keptB (HO_208000.out) hkp (fun k_ hk_ hs_ => (hk_.1.2) hs_)) (fun k_ hk_ => ⟨hk_.1.1.1, hk_.1.1.2, hk_.1.2⟩)); have n3_ := Aside0.mk (blk_kept (by (with_reducible repeat (first | refine blk_drewN ?_ _ | refine blk_drew ?_ | refine blk_alloc ?_ _)); exact BK181.out) hkp (fun hs_ => (fun e_ => (Kd.R_ne HO_201000.out BK181.out (by decide)) e_) hs_)); have n4_ := Aside0.mk (blk_kept (by (with_reducible repeat (first | refine blk_drewN ?_ _ | refine blk_drew ?_ | refine blk_alloc ?_ _)); exact BK194.out) hkp (fun hs_ => (fun e_ => (Kd.R_ne HO_201000.out BK194.out (by decide)) e_) hs_)); have n5_ := Aside0.mk (blk_kept (by (with_reducible repeat (first | refine blk_drewN ?_ _ | refine blk_drew ?_ | refine blk_alloc ?_ _)); exact BK200.out) hkp (fun hs_ => (fun e_ => (Kd.R_ne HO_201000.out BK200.out (by decide)) e_) hs_)); have n6_ := Aside0.mk (blk_kept (by (with_reducible repeat (first | refine blk_drewN ?_ _ | refine blk_drew ?_ | refine blk_alloc ?_ _)); exact BK207.out) hkp (fun hs_ => (fun e_ => (Kd.R_ne HO_201000.out BK207.out (by decide)) e_) hs_)); have n7_ := Aside0.mk (Kd.R_mono (ok' := fun k_ => some k_ ≠ (.slice Ao22 t188.length co22 : Value).ownBlock ∧ some k_ ≠ (.slice Ao28 t195.length co28 : Value).ownBlock ∧ some k_ ≠ (.slice Ao34 t201.length co34 : Value).ownBlock) (Kd.R_keptB (HO211.out) hkp (fun k_ hk_ hs_ => (hk_.1.2) hs_)) (fun k_ hk_ => ⟨hk_.1.1.1.2, hk_.1.1.2, hk_.1.2⟩)); have n8_ := Aside0.mk (hb); clear HO_195000; clear HO_201000; clear HO_208000; clear BK181; clear BK194; clear BK200; clear BK207; clear HO211; clear HB; have HO_195000 := n0_; have HO_201000 := n1_; have HO_208000 := n2_; have BK181 := n3_; have BK194 := n4_; have BK200 := n5_; have BK207 := n6_; have HO211 := n7_; have HB := n8_; clear n0_ n1_ n2_ n3_ n4_ n5_ n6_ n7_ n8_; (try clear hb); (try clear hkp); (try clear hy0)))
            (try simp only [Act.put, List.setIfInBounds_toArray, List.set_cons_zero, List.set_cons_succ])
            go_cut [69] (fun v69 wc => ∃ (kq : Nat) (x69_61 : Bool), v69 = .bool x69_61 ∧ Aside0 (laws_FnExactGapDelete.j1 kq a1 a2 t193 x69_61 l0_0 a0_1 a0_2 t188 t191 t192 t201 t204 t205 = some r) ∧ Aside0 (kq ≤ kj12) ∧ Aside0 (Kd.R (Kd.int .i32) 21 wc w.heap.size (fun k_ => some k_ ≠ ((.slice Ao28 t195.length co28) : Value).ownBlock ∧ some k_ ≠ ((.slice Ao34 t201.length co34) : Value).ownBlock) (.slice Ao22 t188.length co22) t188) ∧ Aside0 (Kd.R (Kd.int .i32) 21 wc w.heap.size (fun k_ => some k_ ≠ ((.slice Ao22 t188.length co22) : Value).ownBlock ∧ some k_ ≠ ((.slice Ao34 t201.length co34) : Value).ownBlock) (.slice Ao28 t195.length co28) t216) ∧ Aside0 (Kd.R (Kd.int .i32) 21 wc w.heap.size (fun k_ => some k_ ≠ ((.slice Ao22 t188.length co22) : Value).ownBlock ∧ some k_ ≠ ((.slice Ao28 t195.length co28) : Value).ownBlock) (.slice Ao34 t201.length co34) t201) ∧ Aside0 (wc.heap[gb181]? = some (.cells #[(.slice A0_0 l0_0.length c0_0), .int .i64 a0_1, .int .i64 a0_2] 24 (0, 0))) ∧ Aside0 (wc.heap[gb194]? = some (.cells #[(.slice Ao22 t188.length co22), .int .i64 t191, .int .i64 t192] 28 (0, 0))) ∧ Aside0 (wc.heap[gb200]? = some (.cells #[(.slice Ao28 t195.length co28), .int .i64 t198, .int .i64 t199] 28 (0, 0))) ∧ Aside0 (wc.heap[gb207]? = some (.cells #[(.slice Ao34 t201.length co34), .int .i64 t204, .int .i64 t205] 28 (0, 0))) ∧ Aside0 (Below w.heap.size w wc))
            case first =>
              have H := HC62.out
              clear HC62
              by_cases c72 : t215 < 0
              · rw [if_pos c72] at H
                have c72b0 : decide (t215 < 0) = true := decide_eq_true c72
                clear c72
                (first | rw [c72b0] | (simp only [i64_w, i32_w]; rw [c72b0]) | skip)
                have H' := Aside0.mk H
                clear H
                go_wp2
                go_meet
                case rel => exact ⟨_, (true), (by first | rfl | (simp; done) | (simp [*]; done)), H', ⟨by have := HJ12.out; first | omega | exact Nat.le_refl _⟩, ⟨by (with_reducible repeat (first | apply Kd.R_alloc | apply Kd.R_drewN | apply Kd.R_drew)); exact Kd.R_mono HO_195000.out (fun _ hk => ⟨hk.1, hk.2.1⟩)⟩, ⟨by (with_reducible repeat (first | apply Kd.R_alloc | apply Kd.R_drewN | apply Kd.R_drew)); exact Kd.R_mono HO_201000.out (fun _ hk => ⟨hk.1.1, hk.1.2⟩)⟩, ⟨by (with_reducible repeat (first | apply Kd.R_alloc | apply Kd.R_drewN | apply Kd.R_drew)); exact Kd.R_mono HO_208000.out (fun _ hk => ⟨hk.1, hk.2.1⟩)⟩, ⟨by (with_reducible repeat (first | refine blk_drewN ?_ _ | refine blk_drew ?_ | refine blk_alloc ?_ _)); exact BK181.out⟩, ⟨by (with_reducible repeat (first | refine blk_drewN ?_ _ | refine blk_drew ?_ | refine blk_alloc ?_ _)); exact BK194.out⟩, ⟨by (with_reducible repeat (first | refine blk_drewN ?_ _ | refine blk_drew ?_ | refine blk_alloc ?_ _)); exact BK200.out⟩, ⟨by (with_reducible repeat (first | refine blk_drewN ?_ _ | refine blk_drew ?_ | refine blk_alloc ?_ _)); exact BK207.out⟩, ⟨by repeat (first | (with_reducible first | exact HB.out | apply below_alloc | apply pw_below_drewN | apply below_drew1 | refine below_set ?_ GE181.out | refine below_set ?_ GE194.out | refine below_set ?_ GE200.out | refine below_set ?_ GE207.out) | exact HB.out)⟩⟩
              · rw [if_neg c72] at H
                have c72b0 : decide (t215 < 0) = false := decide_eq_false c72
                clear c72
                (first | rw [c72b0] | (simp only [i64_w, i32_w]; rw [c72b0]) | skip)
                replace H := Option.bind_eq_some_iff.mp H
                obtain ⟨t217, A730, H⟩ := H
                replace H : (if t217 = true then (laws_FnExactGapDelete.j1 kj12 a1 a2 t193 (t206 != t193) l0_0 a0_1 a0_2 t188 t191 t192 t201 t204 t205) else (laws_FnExactGapDelete.j1 kj12 a1 a2 t193 true l0_0 a0_1 a0_2 t188 t191 t192 t201 t204 t205)) = some r := H
                have A73 := Aside0.mk A730
                clear A730
                by_cases c74 : t217 = true
                · subst c74
                  have H1 : (laws_FnExactGapDelete.j1 kj12 a1 a2 t193 (t206 != t193) l0_0 a0_1 a0_2 t188 t191 t192 t201 t204 t205) = some r := by rw [if_pos rfl] at H; exact H
                  clear H
                  have H := H1
                  clear H1
                  have H' := Aside0.mk H
                  clear H
                  have hnb75 := NB207_181.out
                  have hnc75 := NB181_207.out
                  have hnb76 := NB207_194.out
                  have hnc76 := NB194_207.out
                  have hnb77 := NB207_200.out
                  have hnc77 := NB200_207.out
                  have hcz78_0 : w71.cell? ⟨gb207, 0, none⟩ = some (.slice Ao34 t201.length co34) := (blk_cell BK207.out 0).trans rfl
                  have hcz78_1 : w71.cell? ⟨gb207, 1, none⟩ = some (.int .i64 t204) := (blk_cell BK207.out 1).trans rfl
                  have hcz78_2 : w71.cell? ⟨gb207, 2, none⟩ = some (.int .i64 t205) := (blk_cell BK207.out 2).trans rfl
                  have hfz78_0 := blk_frozen BK207.out 0
                  have hfz78_1 := blk_frozen BK207.out 1
                  have hfz78_2 := blk_frozen BK207.out 2
                  have hnb79 := NB194_181.out
                  have hnc79 := NB181_194.out
                  have hnb80 := NB194_200.out
                  have hnc80 := NB200_194.out
                  have hcz81_0 : w71.cell? ⟨gb194, 0, none⟩ = some (.slice Ao22 t188.length co22) := (blk_cell BK194.out 0).trans rfl
                  have hcz81_1 : w71.cell? ⟨gb194, 1, none⟩ = some (.int .i64 t191) := (blk_cell BK194.out 1).trans rfl
                  have hcz81_2 : w71.cell? ⟨gb194, 2, none⟩ = some (.int .i64 t192) := (blk_cell BK194.out 2).trans rfl
                  have hfz81_0 := blk_frozen BK194.out 0
                  have hfz81_1 := blk_frozen BK194.out 1
                  have hfz81_2 := blk_frozen BK194.out 2
                  go_wp2_with (first | (go_at_call 15; (with_reducible refine (laws_eqGap.calls kj12 _ _ t201 t204 t205 _ _ t188 t191 t192 true _ ?side1 ?side2 ?side3 ?side4 A73.out).mono ?_); (case side1 => repeat (first | exact (Kd.R_reads' HO_208000.out).2.2 | (with_reducible refine Kd.C_alloc ?_ _) | (with_reducible refine Kd.C_drewN ?_ _) | (with_reducible refine Kd.C_drew ?_))); (case side2 => exact (Kd.R_reads' HO_208000.out).2.1); (case side3 => repeat (first | exact (Kd.R_reads' HO_195000.out).2.2 | (with_reducible refine Kd.C_alloc ?_ _) | (with_reducible refine Kd.C_drewN ?_ _) | (with_reducible refine Kd.C_drew ?_))); (case side4 => exact (Kd.R_reads' HO_195000.out).2.1); rintro e w82 ⟨rfl, hb⟩; have n0_ := Aside0.mk (Kd.R_below (by (with_reducible repeat (first | apply Kd.R_alloc | apply Kd.R_drewN | apply Kd.R_drew)); exact HO_195000.out) hb); have n1_ := Aside0.mk (Kd.R_below (by (with_reducible repeat (first | apply Kd.R_alloc | apply Kd.R_drewN | apply Kd.R_drew)); exact HO_201000.out) hb); have n2_ := Aside0.mk (Kd.R_below (by (with_reducible repeat (first | apply Kd.R_alloc | apply Kd.R_drewN | apply Kd.R_drew)); exact HO_208000.out) hb); have n3_ := Aside0.mk (Kd.R_below (by (with_reducible repeat (first | apply Kd.R_alloc | apply Kd.R_drewN | apply Kd.R_drew)); exact HO211.out) hb); have n4_ := Aside0.mk (blk_below (g := gb181) (o := .cells #[.slice A0_0 l0_0.length c0_0, .int .i64 a0_1, .int .i64 a0_2] 24 (0, 0)) (by (with_reducible repeat (first | refine blk_drewN ?_ _ | refine blk_drew ?_ | refine blk_alloc ?_ _)); exact BK181.out) hb); have n5_ := Aside0.mk (blk_below (g := gb194) (o := .cells #[.slice Ao22 t188.length co22, .int .i64 t191, .int .i64 t192] 28 (0, 0)) (by (with_reducible repeat (first | refine blk_drewN ?_ _ | refine blk_drew ?_ | refine blk_alloc ?_ _)); exact BK194.out) hb); have n6_ := Aside0.mk (blk_below (g := gb200) (o := .cells #[.slice Ao28 t195.length co28, .int .i64 t198, .int .i64 t199] 28 (0, 0)) (by (with_reducible repeat (first | refine blk_drewN ?_ _ | refine blk_drew ?_ | refine blk_alloc ?_ _)); exact BK200.out) hb); have n7_ := Aside0.mk (blk_below (g := gb207) (o := .cells #[.slice Ao34 t201.length co34, .int .i64 t204, .int .i64 t205] 28 (0, 0)) (by (with_reducible repeat (first | refine blk_drewN ?_ _ | refine blk_drew ?_ | refine blk_alloc ?_ _)); exact BK207.out) hb); have n8_ := Aside0.mk (below_step (by repeat (first | (with_reducible first | exact HB.out | apply below_alloc | apply pw_below_drewN | apply below_drew1 | refine below_set ?_ GE181.out | refine below_set ?_ GE194.out | refine below_set ?_ GE200.out | refine below_set ?_ GE207.out) | exact HB.out)) hb); clear HO_195000; clear HO_201000; clear HO_208000; clear HO211; clear BK181; clear BK194; clear BK200; clear BK207; clear HB; have HO_195000 := n0_; have HO_201000 := n1_; have HO_208000 := n2_; have HO211 := n3_; have BK181 := n4_; have BK194 := n5_; have BK200 := n6_; have BK207 := n7_; have HB := n8_; clear n0_ n1_ n2_ n3_ n4_ n5_ n6_ n7_ n8_; (try clear hb); (try clear hb2); (try clear hk); (try clear hi)))
                  go_meet
                  case rel => exact ⟨_, ((t206 != t193)), (by first | rfl | (simp; done) | (simp [*]; done)), H', ⟨by have := HJ12.out; first | omega | exact Nat.le_refl _⟩, ⟨by (with_reducible repeat (first | apply Kd.R_alloc | apply Kd.R_drewN | apply Kd.R_drew)); exact Kd.R_mono HO_195000.out (fun _ hk => ⟨hk.1, hk.2.1⟩)⟩, ⟨by (with_reducible repeat (first | apply Kd.R_alloc | apply Kd.R_drewN | apply Kd.R_drew)); exact Kd.R_mono HO_201000.out (fun _ hk => ⟨hk.1.1, hk.1.2⟩)⟩, ⟨by (with_reducible repeat (first | apply Kd.R_alloc | apply Kd.R_drewN | apply Kd.R_drew)); exact Kd.R_mono HO_208000.out (fun _ hk => ⟨hk.1, hk.2.1⟩)⟩, ⟨by (with_reducible repeat (first | refine blk_drewN ?_ _ | refine blk_drew ?_ | refine blk_alloc ?_ _)); exact BK181.out⟩, ⟨by (with_reducible repeat (first | refine blk_drewN ?_ _ | refine blk_drew ?_ | refine blk_alloc ?_ _)); exact BK194.out⟩, ⟨by (with_reducible repeat (first | refine blk_drewN ?_ _ | refine blk_drew ?_ | refine blk_alloc ?_ _)); exact BK200.out⟩, ⟨by (with_reducible repeat (first | refine blk_drewN ?_ _ | refine blk_drew ?_ | refine blk_alloc ?_ _)); exact BK207.out⟩, ⟨by repeat (first | (with_reducible first | exact HB.out | apply below_alloc | apply pw_below_drewN | apply below_drew1 | refine below_set ?_ GE181.out | refine below_set ?_ GE194.out | refine below_set ?_ GE200.out | refine below_set ?_ GE207.out) | exact HB.out)⟩⟩
                · replace c74 := Bool.eq_false_iff.mpr c74
                  subst c74
                  have H1 : (laws_FnExactGapDelete.j1 kj12 a1 a2 t193 true l0_0 a0_1 a0_2 t188 t191 t192 t201 t204 t205) = some r := by rw [if_neg (show ¬ (false = true) by decide)] at H; exact H
                  clear H
                  have H := H1
                  clear H1
                  have H' := Aside0.mk H
                  clear H
                  have hnb83 := NB207_181.out
                  have hnc83 := NB181_207.out
                  have hnb84 := NB207_194.out
                  have hnc84 := NB194_207.out
                  have hnb85 := NB207_200.out
                  have hnc85 := NB200_207.out
                  have hcz86_0 : w71.cell? ⟨gb207, 0, none⟩ = some (.slice Ao34 t201.length co34) := (blk_cell BK207.out 0).trans rfl
                  have hcz86_1 : w71.cell? ⟨gb207, 1, none⟩ = some (.int .i64 t204) := (blk_cell BK207.out 1).trans rfl
                  have hcz86_2 : w71.cell? ⟨gb207, 2, none⟩ = some (.int .i64 t205) := (blk_cell BK207.out 2).trans rfl
                  have hfz86_0 := blk_frozen BK207.out 0
                  have hfz86_1 := blk_frozen BK207.out 1
                  have hfz86_2 := blk_frozen BK207.out 2
                  have hnb87 := NB194_181.out
                  have hnc87 := NB181_194.out
                  have hnb88 := NB194_200.out
                  have hnc88 := NB200_194.out
                  have hcz89_0 : w71.cell? ⟨gb194, 0, none⟩ = some (.slice Ao22 t188.length co22) := (blk_cell BK194.out 0).trans rfl
                  have hcz89_1 : w71.cell? ⟨gb194, 1, none⟩ = some (.int .i64 t191) := (blk_cell BK194.out 1).trans rfl
                  have hcz89_2 : w71.cell? ⟨gb194, 2, none⟩ = some (.int .i64 t192) := (blk_cell BK194.out 2).trans rfl
                  have hfz89_0 := blk_frozen BK194.out 0
                  have hfz89_1 := blk_frozen BK194.out 1
                  have hfz89_2 := blk_frozen BK194.out 2
                  go_wp2_with (first | (go_at_call 15; (with_reducible refine (laws_eqGap.calls kj12 _ _ t201 t204 t205 _ _ t188 t191 t192 false _ ?side1 ?side2 ?side3 ?side4 A73.out).mono ?_); (case side1 => repeat (first | exact (Kd.R_reads' HO_208000.out).2.2 | (with_reducible refine Kd.C_alloc ?_ _) | (with_reducible refine Kd.C_drewN ?_ _) | (with_reducible refine Kd.C_drew ?_))); (case side2 => exact (Kd.R_reads' HO_208000.out).2.1); (case side3 => repeat (first | exact (Kd.R_reads' HO_195000.out).2.2 | (with_reducible refine Kd.C_alloc ?_ _) | (with_reducible refine Kd.C_drewN ?_ _) | (with_reducible refine Kd.C_drew ?_))); (case side4 => exact (Kd.R_reads' HO_195000.out).2.1); rintro e w90 ⟨rfl, hb⟩; have n0_ := Aside0.mk (Kd.R_below (by (with_reducible repeat (first | apply Kd.R_alloc | apply Kd.R_drewN | apply Kd.R_drew)); exact HO_195000.out) hb); have n1_ := Aside0.mk (Kd.R_below (by (with_reducible repeat (first | apply Kd.R_alloc | apply Kd.R_drewN | apply Kd.R_drew)); exact HO_201000.out) hb); have n2_ := Aside0.mk (Kd.R_below (by (with_reducible repeat (first | apply Kd.R_alloc | apply Kd.R_drewN | apply Kd.R_drew)); exact HO_208000.out) hb); have n3_ := Aside0.mk (Kd.R_below (by (with_reducible repeat (first | apply Kd.R_alloc | apply Kd.R_drewN | apply Kd.R_drew)); exact HO211.out) hb); have n4_ := Aside0.mk (blk_below (g := gb181) (o := .cells #[.slice A0_0 l0_0.length c0_0, .int .i64 a0_1, .int .i64 a0_2] 24 (0, 0)) (by (with_reducible repeat (first | refine blk_drewN ?_ _ | refine blk_drew ?_ | refine blk_alloc ?_ _)); exact BK181.out) hb); have n5_ := Aside0.mk (blk_below (g := gb194) (o := .cells #[.slice Ao22 t188.length co22, .int .i64 t191, .int .i64 t192] 28 (0, 0)) (by (with_reducible repeat (first | refine blk_drewN ?_ _ | refine blk_drew ?_ | refine blk_alloc ?_ _)); exact BK194.out) hb); have n6_ := Aside0.mk (blk_below (g := gb200) (o := .cells #[.slice Ao28 t195.length co28, .int .i64 t198, .int .i64 t199] 28 (0, 0)) (by (with_reducible repeat (first | refine blk_drewN ?_ _ | refine blk_drew ?_ | refine blk_alloc ?_ _)); exact BK200.out) hb); have n7_ := Aside0.mk (blk_below (g := gb207) (o := .cells #[.slice Ao34 t201.length co34, .int .i64 t204, .int .i64 t205] 28 (0, 0)) (by (with_reducible repeat (first | refine blk_drewN ?_ _ | refine blk_drew ?_ | refine blk_alloc ?_ _)); exact BK207.out) hb); have n8_ := Aside0.mk (below_step (by repeat (first | (with_reducible first | exact HB.out | apply below_alloc | apply pw_below_drewN | apply below_drew1 | refine below_set ?_ GE181.out | refine below_set ?_ GE194.out | refine below_set ?_ GE200.out | refine below_set ?_ GE207.out) | exact HB.out)) hb); clear HO_195000; clear HO_201000; clear HO_208000; clear HO211; clear BK181; clear BK194; clear BK200; clear BK207; clear HB; have HO_195000 := n0_; have HO_201000 := n1_; have HO_208000 := n2_; have HO211 := n3_; have BK181 := n4_; have BK194 := n5_; have BK200 := n6_; have BK207 := n7_; have HB := n8_; clear n0_ n1_ n2_ n3_ n4_ n5_ n6_ n7_ n8_; (try clear hb); (try clear hb2); (try clear hk); (try clear hi)))
                  go_meet
                  case rel => exact ⟨_, (true), (by first | rfl | (simp; done) | (simp [*]; done)), H', ⟨by have := HJ12.out; first | omega | exact Nat.le_refl _⟩, ⟨by (with_reducible repeat (first | apply Kd.R_alloc | apply Kd.R_drewN | apply Kd.R_drew)); exact Kd.R_mono HO_195000.out (fun _ hk => ⟨hk.1, hk.2.1⟩)⟩, ⟨by (with_reducible repeat (first | apply Kd.R_alloc | apply Kd.R_drewN | apply Kd.R_drew)); exact Kd.R_mono HO_201000.out (fun _ hk => ⟨hk.1.1, hk.1.2⟩)⟩, ⟨by (with_reducible repeat (first | apply Kd.R_alloc | apply Kd.R_drewN | apply Kd.R_drew)); exact Kd.R_mono HO_208000.out (fun _ hk => ⟨hk.1, hk.2.1⟩)⟩, ⟨by (with_reducible repeat (first | refine blk_drewN ?_ _ | refine blk_drew ?_ | refine blk_alloc ?_ _)); exact BK181.out⟩, ⟨by (with_reducible repeat (first | refine blk_drewN ?_ _ | refine blk_drew ?_ | refine blk_alloc ?_ _)); exact BK194.out⟩, ⟨by (with_reducible repeat (first | refine blk_drewN ?_ _ | refine blk_drew ?_ | refine blk_alloc ?_ _)); exact BK200.out⟩, ⟨by (with_reducible repeat (first | refine blk_drewN ?_ _ | refine blk_drew ?_ | refine blk_alloc ?_ _)); exact BK207.out⟩, ⟨by repeat (first | (with_reducible first | exact HB.out | apply below_alloc | apply pw_below_drewN | apply below_drew1 | refine below_set ?_ GE181.out | refine below_set ?_ GE194.out | refine below_set ?_ GE200.out | refine below_set ?_ GE207.out) | exact HB.out)⟩⟩
            case rest =>
              clear HC62
              try clear c1
              try clear c2
              try clear p2
              try clear c3
              try clear c4
              try clear c5
              try clear c5b0
              try clear c6
              try clear c7
              try clear c8
              try clear c10
              try clear c12
              try clear c15
              try clear c16
              try clear c19
              try clear c20
              try clear c23
              try clear c29
              try clear c30
              try clear c35
              try clear c36
              try clear c37
              try clear c40
              try clear c41
              try clear c42
              try clear c43
              try clear c45
              try clear c46
              try clear c49
              try clear c50
              try clear c51
              try clear c53
              try clear c54
              try clear c57
              try clear c60
              try clear c67
              try clear c68
              try clear c69
              try clear c72
              try clear c72b0
              try clear c74
              try clear c75
              try clear c76
              try clear c77
              try clear c79
              try clear c80
              try clear c83
              try clear c84
              try clear c85
              try clear c87
              try clear c88
              try clear hcz15_0
              try clear hcz15_1
              try clear hcz15_2
              try clear hcz17_0
              try clear hcz17_1
              try clear hcz17_2
              try clear hcz24_0
              try clear hcz24_1
              try clear hcz24_2
              try clear hcz25_0
              try clear hcz25_1
              try clear hcz25_2
              try clear hcz31_0
              try clear hcz31_1
              try clear hcz31_2
              try clear hcz38_0
              try clear hcz38_1
              try clear hcz38_2
              try clear hcz44_0
              try clear hcz44_1
              try clear hcz44_2
              try clear hcz47_0
              try clear hcz47_1
              try clear hcz47_2
              try clear hcz52_0
              try clear hcz52_1
              try clear hcz52_2
              try clear hcz55_0
              try clear hcz55_1
              try clear hcz55_2
              try clear hcz70_0
              try clear hcz70_1
              try clear hcz70_2
              try clear hcz78_0
              try clear hcz78_1
              try clear hcz78_2
              try clear hcz7_0
              try clear hcz7_1
              try clear hcz7_2
              try clear hcz81_0
              try clear hcz81_1
              try clear hcz81_2
              try clear hcz86_0
              try clear hcz86_1
              try clear hcz86_2
              try clear hcz89_0
              try clear hcz89_1
              try clear hcz89_2
              try clear hfz15_0
              try clear hfz15_1
              try clear hfz15_2
              try clear hfz17_0
              try clear hfz17_1
              try clear hfz17_2
              try clear hfz24_0
              try clear hfz24_1
              try clear hfz24_2
              try clear hfz25_0
              try clear hfz25_1
              try clear hfz25_2
              try clear hfz31_0
              try clear hfz31_1
              try clear hfz31_2
              try clear hfz38_0
              try clear hfz38_1
              try clear hfz38_2
              try clear hfz44_0
              try clear hfz44_1
              try clear hfz44_2
              try clear hfz47_0
              try clear hfz47_1
              try clear hfz47_2
              try clear hfz52_0
              try clear hfz52_1
              try clear hfz52_2
              try clear hfz55_0
              try clear hfz55_1
              try clear hfz55_2
              try clear hfz70_0
              try clear hfz70_1
              try clear hfz70_2
              try clear hfz78_0
              try clear hfz78_1
              try clear hfz78_2
              try clear hfz7_0
              try clear hfz7_1
              try clear hfz7_2
              try clear hfz81_0
              try clear hfz81_1
              try clear hfz81_2
              try clear hfz86_0
              try clear hfz86_1
              try clear hfz86_2
              try clear hfz89_0
              try clear hfz89_1
              try clear hfz89_2
              try clear p2
              obtain ⟨kq, x69_61, rfl, HA, HJ61, HO_195000, HO_201000, HO_208000, BK181, BK194, BK200, BK207, HB⟩ := hcut
              have hl201000_61 := (Kd.R_reads' HO_201000.out).1
              rw [hl201000_61] at HO_201000
              (try simp only [hl201000_61])
              (try simp only [hl201000_61] at BK181)
              (try simp only [hl201000_61] at BK194)
              (try simp only [hl201000_61] at BK200)
              (try simp only [hl201000_61] at BK207)
              (try simp only [hl201000_61] at HO_195000)
              (try simp only [hl201000_61] at HO_208000)
              cases kq with
              | zero => exact absurd HA.out (by simp [laws_FnExactGapDelete.j1])
              | succ kj61 =>
                have H := HA.out
                clear HA
                simp only [laws_FnExactGapDelete.j1] at H
                by_cases c91 : x69_61 = true
                · subst c91
                  have H1 : (some false) = some r := by rw [if_pos rfl] at H; exact H
                  clear H
                  have H := H1
                  clear H1
                  obtain rfl := Option.some.inj H
                  go_wp2
                  go_ret
                  exact ⟨by first | rfl | (simp [errW_none, errW_some] <;> rfl) | (simp [*, errW_none, errW_some] <;> rfl), by repeat (first | (with_reducible first | exact HB.out | apply below_alloc | apply pw_below_drewN | apply below_drew1 | refine below_set ?_ GE181.out | refine below_set ?_ GE194.out | refine below_set ?_ GE200.out | refine below_set ?_ GE207.out) | exact HB.out)⟩
                · replace c91 := Bool.eq_false_iff.mpr c91
                  subst c91
                  have H1 : ((laws_markGap.f kj61 t201 t204 t205 1).bind fun bt218 => ((laws_heldGap.f kj61 bt218.2 t204 t205 1).bind fun t220 => (if t220 < 0 then (some false) else (if t220 = bt218.1 then ((laws_toGap.f kj61 l0_0 a0_1 a0_2).bind fun bt221 => ((impl_GapDelete.f bt221.1 bt221.2.1 bt221.2.2 a1 a2).bind fun bt226 => ((laws_eqGap.f kj61 bt226.1 bt226.2.1 bt226.2.2.1 t188 t191 t192).bind fun t233 => (if t233 = true then (laws_FnExactGapDelete.j2 kj61 bt218.1 (bt226.2.2.2 != t193) bt218.2 t204 t205) else (laws_FnExactGapDelete.j2 kj61 bt218.1 true bt218.2 t204 t205))))) else (some false))))) = some r := by rw [if_neg (show ¬ (false = true) by decide)] at H; exact H
                  clear H
                  have H := H1
                  clear H1
                  replace H := Option.bind_eq_some_iff.mp H
                  obtain ⟨⟨t218, t219⟩, A920, H⟩ := H
                  replace H : ((laws_heldGap.f kj61 t219 t204 t205 1).bind fun t220 => (if t220 < 0 then (some false) else (if t220 = t218 then ((laws_toGap.f kj61 l0_0 a0_1 a0_2).bind fun bt221 => ((impl_GapDelete.f bt221.1 bt221.2.1 bt221.2.2 a1 a2).bind fun bt226 => ((laws_eqGap.f kj61 bt226.1 bt226.2.1 bt226.2.2.1 t188 t191 t192).bind fun t233 => (if t233 = true then (laws_FnExactGapDelete.j2 kj61 t218 (bt226.2.2.2 != t193) t219 t204 t205) else (laws_FnExactGapDelete.j2 kj61 t218 true t219 t204 t205))))) else (some false)))) = some r := H
                  have A92 := Aside0.mk A920
                  clear A920
                  replace H := Option.bind_eq_some_iff.mp H
                  obtain ⟨t220, A930, H⟩ := H
                  replace H : (if t220 < 0 then (some false) else (if t220 = t218 then ((laws_toGap.f kj61 l0_0 a0_1 a0_2).bind fun bt221 => ((impl_GapDelete.f bt221.1 bt221.2.1 bt221.2.2 a1 a2).bind fun bt226 => ((laws_eqGap.f kj61 bt226.1 bt226.2.1 bt226.2.2.1 t188 t191 t192).bind fun t233 => (if t233 = true then (laws_FnExactGapDelete.j2 kj61 t218 (bt226.2.2.2 != t193) t219 t204 t205) else (laws_FnExactGapDelete.j2 kj61 t218 true t219 t204 t205))))) else (some false))) = some r := H
                  have A93 := Aside0.mk A930
                  clear A930
                  by_cases c94 : t220 < 0
                  · rw [if_pos c94] at H
                    have c94b0 : decide (t220 < 0) = true := decide_eq_true c94
                    clear c94
                    obtain rfl := Option.some.inj H
                    have hnb95 := NB207_181.out
                    have hnc95 := NB181_207.out
                    have hnb96 := NB207_194.out
                    have hnc96 := NB194_207.out
                    have hnb97 := NB207_200.out
                    have hnc97 := NB200_207.out
                    have hcz98_0 : wc.cell? ⟨gb207, 0, none⟩ = some (.slice Ao34 t201.length co34) := (blk_cell BK207.out 0).trans rfl
                    have hcz98_1 : wc.cell? ⟨gb207, 1, none⟩ = some (.int .i64 t204) := (blk_cell BK207.out 1).trans rfl
                    have hcz98_2 : wc.cell? ⟨gb207, 2, none⟩ = some (.int .i64 t205) := (blk_cell BK207.out 2).trans rfl
                    have hfz98_0 := blk_frozen BK207.out 0
                    have hfz98_1 := blk_frozen BK207.out 1
                    have hfz98_2 := blk_frozen BK207.out 2
                    go_wp2_with (first | ((with_reducible refine gate_callee (f := 16) rfl ?_); refine goesL_ (some 72) rfl rfl Tryd.func16 (by kernel_rfl) rfl #[.agg #[.slice Ao34 t201.length co34, .int .i64 t204, .int .i64 t205], .int .i64 1] rfl (by (try simp only [List.map_toArray, List.map_cons, List.map_nil]); first | done | rfl | (simp only [List.length_drop, List.length_take]; rfl)) ?_; (with_reducible refine (laws_markGap.calls kj61 (fun k_ => some k_ = (.slice Ao34 t201.length co34 : Value).ownBlock) (.slice Ao34 t201.length co34) t201 t204 t205 1 t218 t219 w _ ?side1 ?side2 A92.out).mono ?_); (case side1 => repeat (first | (with_reducible first | exact HB.out | apply below_alloc | apply pw_below_drewN | apply below_drew1 | refine below_set ?_ GE181.out | refine below_set ?_ GE194.out | refine below_set ?_ GE200.out | refine below_set ?_ GE207.out) | exact HB.out)); (case side2 => exact Kd.R_tight rfl HO_208000.out); rintro e w99 ⟨rfl, hy0, hb, hkp⟩; refine ⟨_, rfl, ?_⟩; have n0_ := Aside0.mk (Kd.R_mono (ok' := fun k_ => some k_ ≠ (.slice Ao28 t216.length co28 : Value).ownBlock ∧ some k_ ≠ (.slice Ao34 t201.length co34 : Value).ownBlock) (Kd.R_keptB (HO_195000.out) hkp (fun k_ hk_ hs_ => (hk_.2) hs_)) (fun k_ hk_ => ⟨hk_.1.1, hk_.1.2⟩)); have n1_ := Aside0.mk (Kd.R_mono (ok' := fun k_ => some k_ ≠ (.slice Ao22 t188.length co22 : Value).ownBlock ∧ some k_ ≠ (.slice Ao34 t201.length co34 : Value).ownBlock) (Kd.R_keptB (HO_201000.out) hkp (fun k_ hk_ hs_ => (hk_.2) hs_)) (fun k_ hk_ => ⟨hk_.1.1, hk_.1.2⟩)); have n2_ := Aside0.mk (Kd.R_reok rfl hy0 (fun k_ e_ => HO_208000.out.1 k_ e_)); have n3_ := Aside0.mk (blk_kept (by (with_reducible repeat (first | refine blk_drewN ?_ _ | refine blk_drew ?_ | refine blk_alloc ?_ _)); exact BK181.out) hkp (fun hs_ => (fun e_ => (Kd.R_ne HO_208000.out BK181.out (by decide)) e_) hs_)); have n4_ := Aside0.mk (blk_kept (by (with_reducible repeat (first | refine blk_drewN ?_ _ | refine blk_drew ?_ | refine blk_alloc ?_ _)); exact BK194.out) hkp (fun hs_ => (fun e_ => (Kd.R_ne HO_208000.out BK194.out (by decide)) e_) hs_)); have n5_ := Aside0.mk (blk_kept (by (with_reducible repeat (first | refine blk_drewN ?_ _ | refine blk_drew ?_ | refine blk_alloc ?_ _)); exact BK200.out) hkp (fun hs_ => (fun e_ => (Kd.R_ne HO_208000.out BK200.out (by decide)) e_) hs_)); have n6_ := Aside0.mk (blk_kept (by (with_reducible repeat (first | refine blk_drewN ?_ _ | refine blk_drew ?_ | refine blk_alloc ?_ _)); exact BK207.out) hkp (fun hs_ => (fun e_ => (Kd.R_ne HO_208000.out BK207.out (by decide)) e_) hs_)); have n7_ := Aside0.mk (hb); clear HO_195000; clear HO_201000; clear HO_208000; clear BK181; clear BK194; clear BK200; clear BK207; clear HB; have HO_195000 := n0_; have HO_201000 := n1_; have HO_208000 := n2_; have BK181 := n3_; have BK194 := n4_; have BK200 := n5_; have BK207 := n6_; have HB := n7_; clear n0_ n1_ n2_ n3_ n4_ n5_ n6_ n7_; (try clear hb); (try clear hkp); (try clear hy0); have hcz100_0 : w99.cell? ⟨gb207, 0, none⟩ = some (.slice Ao34 t201.length co34) := (blk_cell BK207.out 0).trans rfl; have hcz100_1 : w99.cell? ⟨gb207, 1, none⟩ = some (.int .i64 t204) := (blk_cell BK207.out 1).trans rfl; have hcz100_2 : w99.cell? ⟨gb207, 2, none⟩ = some (.int .i64 t205) := (blk_cell BK207.out 2).trans rfl; have hfz100_0 := blk_frozen BK207.out 0; have hfz100_1 := blk_frozen BK207.out 1; have hfz100_2 := blk_frozen BK207.out 2) | ((with_reducible refine gate_callee (f := 21) rfl ?_); refine goesL_ (some 75) rfl rfl Tryd.func21 (by kernel_rfl) rfl #[.agg #[.slice Ao34 t219.length co34, .int .i64 t204, .int .i64 t205], .int .i64 1] rfl (by (try simp only [List.map_toArray, List.map_cons, List.map_nil]); first | done | (rw [show t219.length = t201.length from (Kd.R_reads' HO_208000.out).1.symm] <;> rfl) | rfl | (simp only [List.length_drop, List.length_take]; rfl)) ?_; (with_reducible refine (laws_heldGap.calls kj61 _ _ t219 t204 t205 1 t220 _ ?side1 ?side2 A93.out).mono ?_); (case side1 => repeat (first | exact (Kd.R_reads' HO_208000.out).2.2 | (with_reducible refine Kd.C_alloc ?_ _) | (with_reducible refine Kd.C_drewN ?_ _) | (with_reducible refine Kd.C_drew ?_))); (case side2 => rw [show t219.length = t201.length from (Kd.R_reads' HO_208000.out).1.symm]; exact (Kd.R_reads' HO_208000.out).2.1); rintro e w101 ⟨rfl, hb⟩; refine ⟨_, rfl, ?_⟩; have n0_ := Aside0.mk (Kd.R_below (by (with_reducible repeat (first | apply Kd.R_alloc | apply Kd.R_drewN | apply Kd.R_drew)); exact HO_195000.out) hb); have n1_ := Aside0.mk (Kd.R_below (by (with_reducible repeat (first | apply Kd.R_alloc | apply Kd.R_drewN | apply Kd.R_drew)); exact HO_201000.out) hb); have n2_ := Aside0.mk (Kd.R_below (by (with_reducible repeat (first | apply Kd.R_alloc | apply Kd.R_drewN | apply Kd.R_drew)); exact HO_208000.out) hb); have n3_ := Aside0.mk (blk_below (g := gb181) (o := .cells #[.slice A0_0 l0_0.length c0_0, .int .i64 a0_1, .int .i64 a0_2] 24 (0, 0)) (by (with_reducible repeat (first | refine blk_drewN ?_ _ | refine blk_drew ?_ | refine blk_alloc ?_ _)); exact BK181.out) hb); have n4_ := Aside0.mk (blk_below (g := gb194) (o := .cells #[.slice Ao22 t188.length co22, .int .i64 t191, .int .i64 t192] 28 (0, 0)) (by (with_reducible repeat (first | refine blk_drewN ?_ _ | refine blk_drew ?_ | refine blk_alloc ?_ _)); exact BK194.out) hb); have n5_ := Aside0.mk (blk_below (g := gb200) (o := .cells #[.slice Ao28 t216.length co28, .int .i64 t198, .int .i64 t199] 28 (0, 0)) (by (with_reducible repeat (first | refine blk_drewN ?_ _ | refine blk_drew ?_ | refine blk_alloc ?_ _)); exact BK200.out) hb); have n6_ := Aside0.mk (blk_below (g := gb207) (o := .cells #[.slice Ao34 t201.length co34, .int .i64 t204, .int .i64 t205] 28 (0, 0)) (by (with_reducible repeat (first | refine blk_drewN ?_ _ | refine blk_drew ?_ | refine blk_alloc ?_ _)); exact BK207.out) hb); have n7_ := Aside0.mk (below_step (by repeat (first | (with_reducible first | exact HB.out | apply below_alloc | apply pw_below_drewN | apply below_drew1 | refine below_set ?_ GE181.out | refine below_set ?_ GE194.out | refine below_set ?_ GE200.out | refine below_set ?_ GE207.out) | exact HB.out)) hb); clear HO_195000; clear HO_201000; clear HO_208000; clear BK181; clear BK194; clear BK200; clear BK207; clear HB; have HO_195000 := n0_; have HO_201000 := n1_; have HO_208000 := n2_; have BK181 := n3_; have BK194 := n4_; have BK200 := n5_; have BK207 := n6_; have HB := n7_; clear n0_ n1_ n2_ n3_ n4_ n5_ n6_ n7_; (try clear hb); (try clear hb2); (try clear hk); (try clear hi)))
                    go_ret
                    exact ⟨by first | rfl | (simp [errW_none, errW_some] <;> rfl) | (simp [*, errW_none, errW_some] <;> rfl), by repeat (first | (with_reducible first | exact HB.out | apply below_alloc | apply pw_below_drewN | apply below_drew1 | refine below_set ?_ GE181.out | refine below_set ?_ GE194.out | refine below_set ?_ GE200.out | refine below_set ?_ GE207.out) | exact HB.out)⟩
                  · rw [if_neg c94] at H
                    have c94b0 : decide (t220 < 0) = false := decide_eq_false c94
                    clear c94
                    by_cases c102 : t220 = t218
                    · rw [if_pos c102] at H
                      have c102b0 : (t220 == t218) = true := beq_iff_eq.mpr c102
                      have c102b1 : (t220 != t218) = false := bne_eq_false_iff_eq.mpr c102
                      clear c102
                      replace H := Option.bind_eq_some_iff.mp H
                      obtain ⟨⟨t221, t224, t225⟩, A1030, H⟩ := H
                      replace H : ((impl_GapDelete.f t221 t224 t225 a1 a2).bind fun bt226 => ((laws_eqGap.f kj61 bt226.1 bt226.2.1 bt226.2.2.1 t188 t191 t192).bind fun t233 => (if t233 = true then (laws_FnExactGapDelete.j2 kj61 t218 (bt226.2.2.2 != t193) t219 t204 t205) else (laws_FnExactGapDelete.j2 kj61 t218 true t219 t204 t205)))) = some r := H
                      have A103 := Aside0.mk A1030
                      clear A1030
                      replace H := Option.bind_eq_some_iff.mp H
                      obtain ⟨⟨t226, t229, t230, t231⟩, A1040, H⟩ := H
                      replace H : ((laws_eqGap.f kj61 t226 t229 t230 t188 t191 t192).bind fun t233 => (if t233 = true then (laws_FnExactGapDelete.j2 kj61 t218 (t231 != t193) t219 t204 t205) else (laws_FnExactGapDelete.j2 kj61 t218 true t219 t204 t205))) = some r := H
                      have A104 := Aside0.mk A1040
                      clear A1040
                      have HC105 := Aside0.mk H
                      clear H
                      have hnb106 := NB207_181.out
                      have hnc106 := NB181_207.out
                      have hnb107 := NB207_194.out
                      have hnc107 := NB194_207.out
                      have hnb108 := NB207_200.out
                      have hnc108 := NB200_207.out
                      have hcz109_0 : wc.cell? ⟨gb207, 0, none⟩ = some (.slice Ao34 t201.length co34) := (blk_cell BK207.out 0).trans rfl
                      have hcz109_1 : wc.cell? ⟨gb207, 1, none⟩ = some (.int .i64 t204) := (blk_cell BK207.out 1).trans rfl
                      have hcz109_2 : wc.cell? ⟨gb207, 2, none⟩ = some (.int .i64 t205) := (blk_cell BK207.out 2).trans rfl
                      have hfz109_0 := blk_frozen BK207.out 0
                      have hfz109_1 := blk_frozen BK207.out 1
                      have hfz109_2 := blk_frozen BK207.out 2
                      go_upto_region 25 with (first | ((with_reducible refine gate_callee (f := 16) rfl ?_); refine goesL_ (some 72) rfl rfl Tryd.func16 (by kernel_rfl) rfl #[.agg #[.slice Ao34 t201.length co34, .int .i64 t204, .int .i64 t205], .int .i64 1] rfl (by (try simp only [List.map_toArray, List.map_cons, List.map_nil]); first | done | rfl | (simp only [List.length_drop, List.length_take]; rfl)) ?_; (with_reducible refine (laws_markGap.calls kj61 (fun k_ => some k_ = (.slice Ao34 t201.length co34 : Value).ownBlock) (.slice Ao34 t201.length co34) t201 t204 t205 1 t218 t219 w _ ?side1 ?side2 A92.out).mono ?_); (case side1 => repeat (first | (with_reducible first | exact HB.out | apply below_alloc | apply pw_below_drewN | apply below_drew1 | refine below_set ?_ GE181.out | refine below_set ?_ GE194.out | refine below_set ?_ GE200.out | refine below_set ?_ GE207.out) | exact HB.out)); (case side2 => exact Kd.R_tight rfl HO_208000.out); rintro e w110 ⟨rfl, hy0, hb, hkp⟩; refine ⟨_, rfl, ?_⟩; have n0_ := Aside0.mk (Kd.R_mono (ok' := fun k_ => some k_ ≠ (.slice Ao28 t216.length co28 : Value).ownBlock ∧ some k_ ≠ (.slice Ao34 t201.length co34 : Value).ownBlock) (Kd.R_keptB (HO_195000.out) hkp (fun k_ hk_ hs_ => (hk_.2) hs_)) (fun k_ hk_ => ⟨hk_.1.1, hk_.1.2⟩)); have n1_ := Aside0.mk (Kd.R_mono (ok' := fun k_ => some k_ ≠ (.slice Ao22 t188.length co22 : Value).ownBlock ∧ some k_ ≠ (.slice Ao34 t201.length co34 : Value).ownBlock) (Kd.R_keptB (HO_201000.out) hkp (fun k_ hk_ hs_ => (hk_.2) hs_)) (fun k_ hk_ => ⟨hk_.1.1, hk_.1.2⟩)); have n2_ := Aside0.mk (Kd.R_reok rfl hy0 (fun k_ e_ => HO_208000.out.1 k_ e_)); have n3_ := Aside0.mk (blk_kept (by (with_reducible repeat (first | refine blk_drewN ?_ _ | refine blk_drew ?_ | refine blk_alloc ?_ _)); exact BK181.out) hkp (fun hs_ => (fun e_ => (Kd.R_ne HO_208000.out BK181.out (by decide)) e_) hs_)); have n4_ := Aside0.mk (blk_kept (by (with_reducible repeat (first | refine blk_drewN ?_ _ | refine blk_drew ?_ | refine blk_alloc ?_ _)); exact BK194.out) hkp (fun hs_ => (fun e_ => (Kd.R_ne HO_208000.out BK194.out (by decide)) e_) hs_)); have n5_ := Aside0.mk (blk_kept (by (with_reducible repeat (first | refine blk_drewN ?_ _ | refine blk_drew ?_ | refine blk_alloc ?_ _)); exact BK200.out) hkp (fun hs_ => (fun e_ => (Kd.R_ne HO_208000.out BK200.out (by decide)) e_) hs_)); have n6_ := Aside0.mk (blk_kept (by (with_reducible repeat (first | refine blk_drewN ?_ _ | refine blk_drew ?_ | refine blk_alloc ?_ _)); exact BK207.out) hkp (fun hs_ => (fun e_ => (Kd.R_ne HO_208000.out BK207.out (by decide)) e_) hs_)); have n7_ := Aside0.mk (hb); clear HO_195000; clear HO_201000; clear HO_208000; clear BK181; clear BK194; clear BK200; clear BK207; clear HB; have HO_195000 := n0_; have HO_201000 := n1_; have HO_208000 := n2_; have BK181 := n3_; have BK194 := n4_; have BK200 := n5_; have BK207 := n6_; have HB := n7_; clear n0_ n1_ n2_ n3_ n4_ n5_ n6_ n7_; (try clear hb); (try clear hkp); (try clear hy0); have hcz111_0 : w110.cell? ⟨gb207, 0, none⟩ = some (.slice Ao34 t201.length co34) := (blk_cell BK207.out 0).trans rfl; have hcz111_1 : w110.cell? ⟨gb207, 1, none⟩ = some (.int .i64 t204) := (blk_cell BK207.out 1).trans rfl; have hcz111_2 : w110.cell? ⟨gb207, 2, none⟩ = some (.int .i64 t205) := (blk_cell BK207.out 2).trans rfl; have hfz111_0 := blk_frozen BK207.out 0; have hfz111_1 := blk_frozen BK207.out 1; have hfz111_2 := blk_frozen BK207.out 2) | ((with_reducible refine gate_callee (f := 21) rfl ?_); refine goesL_ (some 75) rfl rfl Tryd.func21 (by kernel_rfl) rfl #[.agg #[.slice Ao34 t219.length co34, .int .i64 t204, .int .i64 t205], .int .i64 1] rfl (by (try simp only [List.map_toArray, List.map_cons, List.map_nil]); first | done | (rw [show t219.length = t201.length from (Kd.R_reads' HO_208000.out).1.symm] <;> rfl) | rfl | (simp only [List.length_drop, List.length_take]; rfl)) ?_; (with_reducible refine (laws_heldGap.calls kj61 _ _ t219 t204 t205 1 t220 _ ?side1 ?side2 A93.out).mono ?_); (case side1 => repeat (first | exact (Kd.R_reads' HO_208000.out).2.2 | (with_reducible refine Kd.C_alloc ?_ _) | (with_reducible refine Kd.C_drewN ?_ _) | (with_reducible refine Kd.C_drew ?_))); (case side2 => rw [show t219.length = t201.length from (Kd.R_reads' HO_208000.out).1.symm]; exact (Kd.R_reads' HO_208000.out).2.1); rintro e w112 ⟨rfl, hb⟩; refine ⟨_, rfl, ?_⟩; have n0_ := Aside0.mk (Kd.R_below (by (with_reducible repeat (first | apply Kd.R_alloc | apply Kd.R_drewN | apply Kd.R_drew)); exact HO_195000.out) hb); have n1_ := Aside0.mk (Kd.R_below (by (with_reducible repeat (first | apply Kd.R_alloc | apply Kd.R_drewN | apply Kd.R_drew)); exact HO_201000.out) hb); have n2_ := Aside0.mk (Kd.R_below (by (with_reducible repeat (first | apply Kd.R_alloc | apply Kd.R_drewN | apply Kd.R_drew)); exact HO_208000.out) hb); have n3_ := Aside0.mk (blk_below (g := gb181) (o := .cells #[.slice A0_0 l0_0.length c0_0, .int .i64 a0_1, .int .i64 a0_2] 24 (0, 0)) (by (with_reducible repeat (first | refine blk_drewN ?_ _ | refine blk_drew ?_ | refine blk_alloc ?_ _)); exact BK181.out) hb); have n4_ := Aside0.mk (blk_below (g := gb194) (o := .cells #[.slice Ao22 t188.length co22, .int .i64 t191, .int .i64 t192] 28 (0, 0)) (by (with_reducible repeat (first | refine blk_drewN ?_ _ | refine blk_drew ?_ | refine blk_alloc ?_ _)); exact BK194.out) hb); have n5_ := Aside0.mk (blk_below (g := gb200) (o := .cells #[.slice Ao28 t216.length co28, .int .i64 t198, .int .i64 t199] 28 (0, 0)) (by (with_reducible repeat (first | refine blk_drewN ?_ _ | refine blk_drew ?_ | refine blk_alloc ?_ _)); exact BK200.out) hb); have n6_ := Aside0.mk (blk_below (g := gb207) (o := .cells #[.slice Ao34 t201.length co34, .int .i64 t204, .int .i64 t205] 28 (0, 0)) (by (with_reducible repeat (first | refine blk_drewN ?_ _ | refine blk_drew ?_ | refine blk_alloc ?_ _)); exact BK207.out) hb); have n7_ := Aside0.mk (below_step (by repeat (first | (with_reducible first | exact HB.out | apply below_alloc | apply pw_below_drewN | apply below_drew1 | refine below_set ?_ GE181.out | refine below_set ?_ GE194.out | refine below_set ?_ GE200.out | refine below_set ?_ GE207.out) | exact HB.out)) hb); clear HO_195000; clear HO_201000; clear HO_208000; clear BK181; clear BK194; clear BK200; clear BK207; clear HB; have HO_195000 := n0_; have HO_201000 := n1_; have HO_208000 := n2_; have BK181 := n3_; have BK194 := n4_; have BK200 := n5_; have BK207 := n6_; have HB := n7_; clear n0_ n1_ n2_ n3_ n4_ n5_ n6_ n7_; (try clear hb); (try clear hb2); (try clear hk); (try clear hi); have hnb113 := NB181_194.out; have hnc113 := NB194_181.out; have hnb114 := NB181_200.out; have hnc114 := NB200_181.out; have hcz115_0 : w112.cell? ⟨gb181, 0, none⟩ = some (.slice A0_0 l0_0.length c0_0) := (blk_cell BK181.out 0).trans rfl; have hcz115_1 : w112.cell? ⟨gb181, 1, none⟩ = some (.int .i64 a0_1) := (blk_cell BK181.out 1).trans rfl; have hcz115_2 : w112.cell? ⟨gb181, 2, none⟩ = some (.int .i64 a0_2) := (blk_cell BK181.out 2).trans rfl; have hfz115_0 := blk_frozen BK181.out 0; have hfz115_1 := blk_frozen BK181.out 1; have hfz115_2 := blk_frozen BK181.out 2) | ((with_reducible refine gate_callee (f := 12) rfl ?_); refine goesL_ (some 83) rfl rfl Tryd.func12 (by kernel_rfl) rfl #[.agg #[.slice A0_0 l0_0.length c0_0, .int .i64 a0_1, .int .i64 a0_2]] rfl (by (try simp only [List.map_toArray, List.map_cons, List.map_nil]); first | done | rfl | (simp only [List.length_drop, List.length_take]; rfl)) ?_; (with_reducible refine (laws_toGap.calls kj61 _ _ l0_0 a0_1 a0_2 t221 t224 t225 _ ?side1 ?side2 A103.out).mono ?_); (case side1 => repeat (first | exact (Kd.C_below HR0_0.out HB.out) | (with_reducible refine Kd.C_alloc ?_ _) | (with_reducible refine Kd.C_drewN ?_ _) | (with_reducible refine Kd.C_drew ?_))); (case side2 => exact HC0_0.out); rintro e w116 ⟨v222, rfl, ho0, hb⟩; refine ⟨_, rfl, ?_⟩; have n0_ := Aside0.mk (Kd.R_elder' (by (with_reducible repeat (first | apply Kd.R_alloc | apply Kd.R_drewN | apply Kd.R_drew)); exact HO_195000.out) (Kd.R_base ho0) hb); have n1_ := Aside0.mk (Kd.R_elder' (by (with_reducible repeat (first | apply Kd.R_alloc | apply Kd.R_drewN | apply Kd.R_drew)); exact HO_201000.out) (Kd.R_base ho0) hb); have n2_ := Aside0.mk (Kd.R_elder' (by (with_reducible repeat (first | apply Kd.R_alloc | apply Kd.R_drewN | apply Kd.R_drew)); exact HO_208000.out) (Kd.R_base ho0) hb); have n3_ := Aside0.mk (Kd.R_lower (Kd.R_new' (Kd.R_new' (Kd.R_new' ho0 (Kd.R_lt (by (with_reducible repeat (first | apply Kd.R_alloc | apply Kd.R_drewN | apply Kd.R_drew)); exact HO_195000.out))) (Kd.R_lt (by (with_reducible repeat (first | apply Kd.R_alloc | apply Kd.R_drewN | apply Kd.R_drew)); exact HO_201000.out))) (Kd.R_lt (by (with_reducible repeat (first | apply Kd.R_alloc | apply Kd.R_drewN | apply Kd.R_drew)); exact HO_208000.out))) (below_size (by repeat (first | (with_reducible first | exact HB.out | apply below_alloc | apply pw_below_drewN | apply below_drew1 | refine below_set ?_ GE181.out | refine below_set ?_ GE194.out | refine below_set ?_ GE200.out | refine below_set ?_ GE207.out) | exact HB.out)))); have n4_ := Aside0.mk (blk_below (g := gb181) (o := .cells #[.slice A0_0 l0_0.length c0_0, .int .i64 a0_1, .int .i64 a0_2] 24 (0, 0)) (by (with_reducible repeat (first | refine blk_drewN ?_ _ | refine blk_drew ?_ | refine blk_alloc ?_ _)); exact BK181.out) hb); have n5_ := Aside0.mk (blk_below (g := gb194) (o := .cells #[.slice Ao22 t188.length co22, .int .i64 t191, .int .i64 t192] 28 (0, 0)) (by (with_reducible repeat (first | refine blk_drewN ?_ _ | refine blk_drew ?_ | refine blk_alloc ?_ _)); exact BK194.out) hb); have n6_ := Aside0.mk (blk_below (g := gb200) (o := .cells #[.slice Ao28 t216.length co28, .int .i64 t198, .int .i64 t199] 28 (0, 0)) (by (with_reducible repeat (first | refine blk_drewN ?_ _ | refine blk_drew ?_ | refine blk_alloc ?_ _)); exact BK200.out) hb); have n7_ := Aside0.mk (blk_below (g := gb207) (o := .cells #[.slice Ao34 t201.length co34, .int .i64 t204, .int .i64 t205] 28 (0, 0)) (by (with_reducible repeat (first | refine blk_drewN ?_ _ | refine blk_drew ?_ | refine blk_alloc ?_ _)); exact BK207.out) hb); have n8_ := Aside0.mk (below_step (by repeat (first | (with_reducible first | exact HB.out | apply below_alloc | apply pw_below_drewN | apply below_drew1 | refine below_set ?_ GE181.out | refine below_set ?_ GE194.out | refine below_set ?_ GE200.out | refine below_set ?_ GE207.out) | exact HB.out)) hb); clear HO_195000; clear HO_201000; clear HO_208000; clear BK181; clear BK194; clear BK200; clear BK207; clear HB; have HO_195000 := n0_; have HO_201000 := n1_; have HO_208000 := n2_; have HO223 := n3_; have BK181 := n4_; have BK194 := n5_; have BK200 := n6_; have BK207 := n7_; have HB := n8_; clear n0_ n1_ n2_ n3_ n4_ n5_ n6_ n7_ n8_; (try clear hb); (try clear hb2); (try clear hk); (try clear hi); (try clear ho0); obtain ⟨Ao117, co117, eo117⟩ := Kd.R_slice HO223.out; subst eo117) | ((with_reducible refine gate_callee (f := 20) rfl ?_); refine goesL_ (some 86) rfl rfl Tryd.func20 (by kernel_rfl) rfl #[.agg #[.slice Ao117 t221.length co117, .int .i64 t224, .int .i64 t225], .int .i64 a1, .int .i64 a2] rfl (by (try simp only [List.map_toArray, List.map_cons, List.map_nil]); first | done | rfl | (simp only [List.length_drop, List.length_take]; rfl)) ?_; (with_reducible refine (impl_GapDelete.calls _ _ t221 t224 t225 a1 a2 t226 t229 t230 t231 _ ?side1 ?side2 ?side3 A104.out).mono ?_); (case side1 => repeat (first | exact (Kd.R_reads' HO223.out).2.2 | (with_reducible refine Kd.C_alloc ?_ _) | (with_reducible refine Kd.C_drewN ?_ _) | (with_reducible refine Kd.C_drew ?_))); (case side2 => exact (Kd.R_reads' HO223.out).2.1); (case side3 => exact HG.below hgG_ (by repeat (first | (with_reducible first | exact HB.out | apply below_alloc | apply pw_below_drewN | apply below_drew1 | refine below_set ?_ GE181.out | refine below_set ?_ GE194.out | refine below_set ?_ GE200.out | refine below_set ?_ GE207.out) | exact HB.out))); rintro e w118 ⟨v227, rfl, ho0, hb⟩; refine ⟨_, rfl, ?_⟩; have n0_ := Aside0.mk (Kd.R_elder' (by (with_reducible repeat (first | apply Kd.R_alloc | apply Kd.R_drewN | apply Kd.R_drew)); exact HO_195000.out) (Kd.R_base ho0) hb); have n1_ := Aside0.mk (Kd.R_elder' (by (with_reducible repeat (first | apply Kd.R_alloc | apply Kd.R_drewN | apply Kd.R_drew)); exact HO_201000.out) (Kd.R_base ho0) hb); have n2_ := Aside0.mk (Kd.R_elder' (by (with_reducible repeat (first | apply Kd.R_alloc | apply Kd.R_drewN | apply Kd.R_drew)); exact HO_208000.out) (Kd.R_base ho0) hb); have n3_ := Aside0.mk (Kd.R_elder' (by (with_reducible repeat (first | apply Kd.R_alloc | apply Kd.R_drewN | apply Kd.R_drew)); exact HO223.out) (Kd.R_base ho0) hb); have n4_ := Aside0.mk (Kd.R_lower (Kd.R_new' (Kd.R_new' (Kd.R_new' (Kd.R_new' ho0 (Kd.R_lt (by (with_reducible repeat (first | apply Kd.R_alloc | apply Kd.R_drewN | apply Kd.R_drew)); exact HO_195000.out))) (Kd.R_lt (by (with_reducible repeat (first | apply Kd.R_alloc | apply Kd.R_drewN | apply Kd.R_drew)); exact HO_201000.out))) (Kd.R_lt (by (with_reducible repeat (first | apply Kd.R_alloc | apply Kd.R_drewN | apply Kd.R_drew)); exact HO_208000.out))) (Kd.R_lt (by (with_reducible repeat (first | apply Kd.R_alloc | apply Kd.R_drewN | apply Kd.R_drew)); exact HO223.out))) (below_size (by repeat (first | (with_reducible first | exact HB.out | apply below_alloc | apply pw_below_drewN | apply below_drew1 | refine below_set ?_ GE181.out | refine below_set ?_ GE194.out | refine below_set ?_ GE200.out | refine below_set ?_ GE207.out) | exact HB.out)))); have n5_ := Aside0.mk (blk_below (g := gb181) (o := .cells #[.slice A0_0 l0_0.length c0_0, .int .i64 a0_1, .int .i64 a0_2] 24 (0, 0)) (by (with_reducible repeat (first | refine blk_drewN ?_ _ | refine blk_drew ?_ | refine blk_alloc ?_ _)); exact BK181.out) hb); have n6_ := Aside0.mk (blk_below (g := gb194) (o := .cells #[.slice Ao22 t188.length co22, .int .i64 t191, .int .i64 t192] 28 (0, 0)) (by (with_reducible repeat (first | refine blk_drewN ?_ _ | refine blk_drew ?_ | refine blk_alloc ?_ _)); exact BK194.out) hb); have n7_ := Aside0.mk (blk_below (g := gb200) (o := .cells #[.slice Ao28 t216.length co28, .int .i64 t198, .int .i64 t199] 28 (0, 0)) (by (with_reducible repeat (first | refine blk_drewN ?_ _ | refine blk_drew ?_ | refine blk_alloc ?_ _)); exact BK200.out) hb); have n8_ := Aside0.mk (blk_below (g := gb207) (o := .cells #[.slice Ao34 t201.length co34, .int .i64 t204, .int .i64 t205] 28 (0, 0)) (by (with_reducible repeat (first | refine blk_drewN ?_ _ | refine blk_drew ?_ | refine blk_alloc ?_ _)); exact BK207.out) hb); have n9_ := Aside0.mk (below_step (by repeat (first | (with_reducible first | exact HB.out | apply below_alloc | apply pw_below_drewN | apply below_drew1 | refine below_set ?_ GE181.out | refine below_set ?_ GE194.out | refine below_set ?_ GE200.out | refine below_set ?_ GE207.out) | exact HB.out)) hb); clear HO_195000; clear HO_201000; clear HO_208000; clear HO223; clear BK181; clear BK194; clear BK200; clear BK207; clear HB; have HO_195000 := n0_; have HO_201000 := n1_; have HO_208000 := n2_; have HO223 := n3_; have HO228 := n4_; have BK181 := n5_; have BK194 := n6_; have BK200 := n7_; have BK207 := n8_; have HB := n9_; clear n0_ n1_ n2_ n3_ n4_ n5_ n6_ n7_ n8_ n9_; (try clear hb); (try clear hb2); (try clear hk); (try clear hi); (try clear ho0)) | ((with_reducible refine gate_dst (N := 16) rfl ?_); refine box_event ?hg (N := 16) ?hd (cs := #[.slice none 0 0, .int .i64 0, .int .i64 0]) (t := 28) ?hr ?_; (case hd => rfl); (case hg => rfl); (case hr => first | (go_simp; done) | (go_simp; rfl)); intro gb232 hg w119 hbox hb; have n0_ := Aside0.mk (Kd.R_below (by (with_reducible repeat (first | apply Kd.R_alloc | apply Kd.R_drewN | apply Kd.R_drew)); exact HO_195000.out) hb); have n1_ := Aside0.mk (Kd.R_below (by (with_reducible repeat (first | apply Kd.R_alloc | apply Kd.R_drewN | apply Kd.R_drew)); exact HO_201000.out) hb); have n2_ := Aside0.mk (Kd.R_below (by (with_reducible repeat (first | apply Kd.R_alloc | apply Kd.R_drewN | apply Kd.R_drew)); exact HO_208000.out) hb); have n3_ := Aside0.mk (Kd.R_below (by (with_reducible repeat (first | apply Kd.R_alloc | apply Kd.R_drewN | apply Kd.R_drew)); exact HO223.out) hb); have n4_ := Aside0.mk (Kd.R_below (by (with_reducible repeat (first | apply Kd.R_alloc | apply Kd.R_drewN | apply Kd.R_drew)); exact HO228.out) hb); have n5_ := Aside0.mk (blk_below (g := gb181) (o := .cells #[.slice A0_0 l0_0.length c0_0, .int .i64 a0_1, .int .i64 a0_2] 24 (0, 0)) (by (with_reducible repeat (first | refine blk_drewN ?_ _ | refine blk_drew ?_ | refine blk_alloc ?_ _)); exact BK181.out) hb); have n6_ := Aside0.mk (blk_below (g := gb194) (o := .cells #[.slice Ao22 t188.length co22, .int .i64 t191, .int .i64 t192] 28 (0, 0)) (by (with_reducible repeat (first | refine blk_drewN ?_ _ | refine blk_drew ?_ | refine blk_alloc ?_ _)); exact BK194.out) hb); have n7_ := Aside0.mk (blk_below (g := gb200) (o := .cells #[.slice Ao28 t216.length co28, .int .i64 t198, .int .i64 t199] 28 (0, 0)) (by (with_reducible repeat (first | refine blk_drewN ?_ _ | refine blk_drew ?_ | refine blk_alloc ?_ _)); exact BK200.out) hb); have n8_ := Aside0.mk (blk_below (g := gb207) (o := .cells #[.slice Ao34 t201.length co34, .int .i64 t204, .int .i64 t205] 28 (0, 0)) (by (with_reducible repeat (first | refine blk_drewN ?_ _ | refine blk_drew ?_ | refine blk_alloc ?_ _)); exact BK207.out) hb); have n9_ := Aside0.mk (below_step (by repeat (first | (with_reducible first | exact HB.out | apply below_alloc | apply pw_below_drewN | apply below_drew1 | refine below_set ?_ GE181.out | refine below_set ?_ GE194.out | refine below_set ?_ GE200.out | refine below_set ?_ GE207.out) | exact HB.out)) hb); have n10_ := Aside0.mk (hbox); have n11_ := Aside0.mk ((by rw [hg]; exact (below_size (by repeat (first | (with_reducible first | exact HB.out | apply below_alloc | apply pw_below_drewN | apply below_drew1 | refine below_set ?_ GE181.out | refine below_set ?_ GE194.out | refine below_set ?_ GE200.out | refine below_set ?_ GE207.out) | exact HB.out))) : w.heap.size ≤ gb232)); have n12_ := Aside0.mk ((by rw [hg]; exact (below_size (by repeat (first | (with_reducible first | exact HB.out | apply below_alloc | apply pw_below_drewN | apply below_drew1 | refine below_set ?_ GE181.out | refine below_set ?_ GE194.out | refine below_set ?_ GE200.out | refine below_set ?_ GE207.out) | exact HB.out))) : w.heap.size ≤ gb232)); have n13_ := Aside0.mk ((by rw [hg]; exact Nat.ne_of_lt (blk_lt (g := gb181) (o := .cells #[.slice A0_0 l0_0.length c0_0, .int .i64 a0_1, .int .i64 a0_2] 24 (0, 0)) (by (with_reducible repeat (first | refine blk_drewN ?_ _ | refine blk_drew ?_ | refine blk_alloc ?_ _)); exact BK181.out)) : gb181 ≠ gb232)); have n14_ := Aside0.mk ((by rw [hg]; exact Nat.ne_of_gt (blk_lt (g := gb181) (o := .cells #[.slice A0_0 l0_0.length c0_0, .int .i64 a0_1, .int .i64 a0_2] 24 (0, 0)) (by (with_reducible repeat (first | refine blk_drewN ?_ _ | refine blk_drew ?_ | refine blk_alloc ?_ _)); exact BK181.out)) : gb232 ≠ gb181)); have n15_ := Aside0.mk ((by rw [hg]; exact Nat.ne_of_lt (blk_lt (g := gb194) (o := .cells #[.slice Ao22 t188.length co22, .int .i64 t191, .int .i64 t192] 28 (0, 0)) (by (with_reducible repeat (first | refine blk_drewN ?_ _ | refine blk_drew ?_ | refine blk_alloc ?_ _)); exact BK194.out)) : gb194 ≠ gb232)); have n16_ := Aside0.mk ((by rw [hg]; exact Nat.ne_of_gt (blk_lt (g := gb194) (o := .cells #[.slice Ao22 t188.length co22, .int .i64 t191, .int .i64 t192] 28 (0, 0)) (by (with_reducible repeat (first | refine blk_drewN ?_ _ | refine blk_drew ?_ | refine blk_alloc ?_ _)); exact BK194.out)) : gb232 ≠ gb194)); have n17_ := Aside0.mk ((by rw [hg]; exact Nat.ne_of_lt (blk_lt (g := gb200) (o := .cells #[.slice Ao28 t216.length co28, .int .i64 t198, .int .i64 t199] 28 (0, 0)) (by (with_reducible repeat (first | refine blk_drewN ?_ _ | refine blk_drew ?_ | refine blk_alloc ?_ _)); exact BK200.out)) : gb200 ≠ gb232)); have n18_ := Aside0.mk ((by rw [hg]; exact Nat.ne_of_gt (blk_lt (g := gb200) (o := .cells #[.slice Ao28 t216.length co28, .int .i64 t198, .int .i64 t199] 28 (0, 0)) (by (with_reducible repeat (first | refine blk_drewN ?_ _ | refine blk_drew ?_ | refine blk_alloc ?_ _)); exact BK200.out)) : gb232 ≠ gb200)); have n19_ := Aside0.mk ((by rw [hg]; exact Nat.ne_of_lt (blk_lt (g := gb207) (o := .cells #[.slice Ao34 t201.length co34, .int .i64 t204, .int .i64 t205] 28 (0, 0)) (by (with_reducible repeat (first | refine blk_drewN ?_ _ | refine blk_drew ?_ | refine blk_alloc ?_ _)); exact BK207.out)) : gb207 ≠ gb232)); have n20_ := Aside0.mk ((by rw [hg]; exact Nat.ne_of_gt (blk_lt (g := gb207) (o := .cells #[.slice Ao34 t201.length co34, .int .i64 t204, .int .i64 t205] 28 (0, 0)) (by (with_reducible repeat (first | refine blk_drewN ?_ _ | refine blk_drew ?_ | refine blk_alloc ?_ _)); exact BK207.out)) : gb232 ≠ gb207)); clear HO_195000; clear HO_201000; clear HO_208000; clear HO223; clear HO228; clear BK181; clear BK194; clear BK200; clear BK207; clear HB; have HO_195000 := n0_; have HO_201000 := n1_; have HO_208000 := n2_; have HO223 := n3_; have HO228 := n4_; have BK181 := n5_; have BK194 := n6_; have BK200 := n7_; have BK207 := n8_; have HB := n9_; have BK232 := n10_; have GW232 := n11_; have GE232 := n12_; have NB181_232 := n13_; have NB232_181 := n14_; have NB194_232 := n15_; have NB232_194 := n16_; have NB200_232 := n17_; have NB232_200 := n18_; have NB207_232 := n19_; have NB232_207 := n20_; clear n0_ n1_ n2_ n3_ n4_ n5_ n6_ n7_ n8_ n9_ n10_ n11_ n12_ n13_ n14_ n15_ n16_ n17_ n18_ n19_ n20_; clear hb hbox hg; obtain ⟨Ao120, co120, eo120⟩ := Kd.R_slice HO228.out; subst eo120; have hnb121 := NB232_181.out; have hnc121 := NB181_232.out; have hnb122 := NB232_194.out; have hnc122 := NB194_232.out; have hnb123 := NB232_200.out; have hnc123 := NB200_232.out; have hnb124 := NB232_207.out; have hnc124 := NB207_232.out; have hcz125_0 : w119.cell? ⟨gb232, 0, none⟩ = some (.slice none 0 0) := (blk_cell BK232.out 0).trans rfl; have hcz125_1 : w119.cell? ⟨gb232, 1, none⟩ = some (.int .i64 0) := (blk_cell BK232.out 1).trans rfl; have hcz125_2 : w119.cell? ⟨gb232, 2, none⟩ = some (.int .i64 0) := (blk_cell BK232.out 2).trans rfl; have hfz125_0 := blk_frozen BK232.out 0; have hfz125_1 := blk_frozen BK232.out 1; have hfz125_2 := blk_frozen BK232.out 2))
                      (try simp only [Act.put, List.setIfInBounds_toArray, List.set_cons_zero, List.set_cons_succ])
                      go_cut [97] (fun v97 wc => ∃ (kq : Nat) (x97_104 : Bool), v97 = .bool x97_104 ∧ Aside0 (laws_FnExactGapDelete.j2 kq t218 x97_104 t219 t204 t205 = some r) ∧ Aside0 (kq ≤ kj61) ∧ Aside0 (Kd.R (Kd.int .i32) 21 wc w.heap.size (fun k_ => some k_ ≠ ((.slice Ao28 t216.length co28) : Value).ownBlock ∧ some k_ ≠ ((.slice Ao34 t201.length co34) : Value).ownBlock ∧ some k_ ≠ ((.slice Ao120 t226.length co120) : Value).ownBlock) (.slice Ao22 t188.length co22) t188) ∧ Aside0 (Kd.R (Kd.int .i32) 21 wc w.heap.size (fun k_ => some k_ ≠ ((.slice Ao22 t188.length co22) : Value).ownBlock ∧ some k_ ≠ ((.slice Ao34 t201.length co34) : Value).ownBlock ∧ some k_ ≠ ((.slice Ao120 t226.length co120) : Value).ownBlock) (.slice Ao28 t216.length co28) t216) ∧ Aside0 (Kd.R (Kd.int .i32) 21 wc w.heap.size (fun k_ => some k_ ≠ ((.slice Ao22 t188.length co22) : Value).ownBlock ∧ some k_ ≠ ((.slice Ao28 t216.length co28) : Value).ownBlock ∧ some k_ ≠ ((.slice Ao120 t226.length co120) : Value).ownBlock) (.slice Ao34 t201.length co34) t219) ∧ Aside0 (Kd.R (Kd.int .i32) 21 wc w.heap.size (fun k_ => some k_ ≠ ((.slice Ao22 t188.length co22) : Value).ownBlock ∧ some k_ ≠ ((.slice Ao28 t216.length co28) : Value).ownBlock ∧ some k_ ≠ ((.slice Ao34 t201.length co34) : Value).ownBlock) (.slice Ao120 t226.length co120) t226) ∧ Aside0 (wc.heap[gb181]? = some (.cells #[(.slice A0_0 l0_0.length c0_0), .int .i64 a0_1, .int .i64 a0_2] 24 (0, 0))) ∧ Aside0 (wc.heap[gb194]? = some (.cells #[(.slice Ao22 t188.length co22), .int .i64 t191, .int .i64 t192] 28 (0, 0))) ∧ Aside0 (wc.heap[gb200]? = some (.cells #[(.slice Ao28 t216.length co28), .int .i64 t198, .int .i64 t199] 28 (0, 0))) ∧ Aside0 (wc.heap[gb207]? = some (.cells #[(.slice Ao34 t201.length co34), .int .i64 t204, .int .i64 t205] 28 (0, 0))) ∧ Aside0 (wc.heap[gb232]? = some (.cells #[(.slice Ao120 t226.length co120), .int .i64 t229, .int .i64 t230] 28 (0, 0))) ∧ Aside0 (Below w.heap.size w wc))
                      case first =>
                        have H := HC105.out
                        clear HC105
                        replace H := Option.bind_eq_some_iff.mp H
                        obtain ⟨t233, A1260, H⟩ := H
                        replace H : (if t233 = true then (laws_FnExactGapDelete.j2 kj61 t218 (t231 != t193) t219 t204 t205) else (laws_FnExactGapDelete.j2 kj61 t218 true t219 t204 t205)) = some r := H
                        have A126 := Aside0.mk A1260
                        clear A1260
                        by_cases c127 : t233 = true
                        · subst c127
                          have H1 : (laws_FnExactGapDelete.j2 kj61 t218 (t231 != t193) t219 t204 t205) = some r := by rw [if_pos rfl] at H; exact H
                          clear H
                          have H := H1
                          clear H1
                          have H' := Aside0.mk H
                          clear H
                          have hnb128 := NB232_181.out
                          have hnc128 := NB181_232.out
                          have hnb129 := NB232_194.out
                          have hnc129 := NB194_232.out
                          have hnb130 := NB232_200.out
                          have hnc130 := NB200_232.out
                          have hnb131 := NB232_207.out
                          have hnc131 := NB207_232.out
                          have hcz132_0 : w119.cell? ⟨gb232, 0, none⟩ = some (.slice none 0 0) := (blk_cell BK232.out 0).trans rfl
                          have hcz132_1 : w119.cell? ⟨gb232, 1, none⟩ = some (.int .i64 0) := (blk_cell BK232.out 1).trans rfl
                          have hcz132_2 : w119.cell? ⟨gb232, 2, none⟩ = some (.int .i64 0) := (blk_cell BK232.out 2).trans rfl
                          have hfz132_0 := blk_frozen BK232.out 0
                          have hfz132_1 := blk_frozen BK232.out 1
                          have hfz132_2 := blk_frozen BK232.out 2
                          have hnb133 := NB194_181.out
                          have hnc133 := NB181_194.out
                          have hnb134 := NB194_200.out
                          have hnc134 := NB200_194.out
                          have hnb135 := NB194_207.out
                          have hnc135 := NB207_194.out
                          have hcz136_0 : w119.cell? ⟨gb194, 0, none⟩ = some (.slice Ao22 t188.length co22) := (blk_cell BK194.out 0).trans rfl
                          have hcz136_1 : w119.cell? ⟨gb194, 1, none⟩ = some (.int .i64 t191) := (blk_cell BK194.out 1).trans rfl
                          have hcz136_2 : w119.cell? ⟨gb194, 2, none⟩ = some (.int .i64 t192) := (blk_cell BK194.out 2).trans rfl
                          have hfz136_0 := blk_frozen BK194.out 0
                          have hfz136_1 := blk_frozen BK194.out 1
                          have hfz136_2 := blk_frozen BK194.out 2
                          go_wp2_with (first | ((with_reducible refine gate_callee (f := 15) rfl ?_); refine goesL_ (some 91) rfl rfl Tryd.func15 (by kernel_rfl) rfl #[.agg #[.slice Ao120 t226.length co120, .int .i64 t229, .int .i64 t230], .agg #[.slice Ao22 t188.length co22, .int .i64 t191, .int .i64 t192]] rfl (by (try simp only [List.map_toArray, List.map_cons, List.map_nil]); first | done | rfl | (simp only [List.length_drop, List.length_take]; rfl)) ?_; (with_reducible refine (laws_eqGap.calls kj61 _ _ t226 t229 t230 _ _ t188 t191 t192 true _ ?side1 ?side2 ?side3 ?side4 A126.out).mono ?_); (case side1 => refine (Kd.R_reads' (e := 21) (base := w.heap.size) (ok := fun k_ => ((((True ∧ some k_ ≠ (.slice Ao22 t188.length co22 : Value).ownBlock) ∧ some k_ ≠ (.slice Ao28 t216.length co28 : Value).ownBlock) ∧ some k_ ≠ (.slice Ao34 t201.length co34 : Value).ownBlock) ∧ some k_ ≠ (.slice Ao117 t221.length co117 : Value).ownBlock)) (n := t226.length) (c := co120) ?_).2.2; exact (by (with_reducible repeat (first | apply Kd.R_alloc | apply Kd.R_drewN | apply Kd.R_drew)); exact (Kd.R_mono (Kd.R_far (p := ⟨gb232, 2, none⟩) (Kd.R_far (p := ⟨gb232, 1, none⟩) (Kd.R_far (p := ⟨gb232, 0, none⟩) (Kd.R_types HO228.out BK232.out (by decide)) (fun _ hk => hk.2) (.slice Ao120 t226.length co120)) (fun _ hk => hk.2) (.int .i64 t229)) (fun _ hk => hk.2) (.int .i64 t230)) (fun _ h_ => h_.1)))); (case side2 => exact (Kd.R_reads' HO228.out).2.1); (case side3 => refine (Kd.R_reads' (e := 21) (base := w.heap.size) (ok := fun k_ => (((some k_ ≠ (.slice Ao28 t216.length co28 : Value).ownBlock ∧ some k_ ≠ (.slice Ao34 t201.length co34 : Value).ownBlock) ∧ some k_ ≠ (.slice Ao117 t221.length co117 : Value).ownBlock) ∧ some k_ ≠ (.slice Ao120 t226.length co120 : Value).ownBlock)) (n := t188.length) (c := co22) ?_).2.2; exact (by (with_reducible repeat (first | apply Kd.R_alloc | apply Kd.R_drewN | apply Kd.R_drew)); exact (Kd.R_mono (Kd.R_far (p := ⟨gb232, 2, none⟩) (Kd.R_far (p := ⟨gb232, 1, none⟩) (Kd.R_far (p := ⟨gb232, 0, none⟩) (Kd.R_types HO_195000.out BK232.out (by decide)) (fun _ hk => hk.2) (.slice Ao120 t226.length co120)) (fun _ hk => hk.2) (.int .i64 t229)) (fun _ hk => hk.2) (.int .i64 t230)) (fun _ h_ => h_.1)))); (case side4 => exact (Kd.R_reads' HO_195000.out).2.1); rintro e w137 ⟨rfl, hb⟩; refine ⟨_, rfl, ?_⟩; have n0_ := Aside0.mk (Kd.R_below (by (with_reducible repeat (first | apply Kd.R_alloc | apply Kd.R_drewN | apply Kd.R_drew)); exact (Kd.R_mono (Kd.R_far (p := ⟨gb232, 2, none⟩) (Kd.R_far (p := ⟨gb232, 1, none⟩) (Kd.R_far (p := ⟨gb232, 0, none⟩) (Kd.R_types HO_195000.out BK232.out (by decide)) (fun _ hk => hk.2) (.slice Ao120 t226.length co120)) (fun _ hk => hk.2) (.int .i64 t229)) (fun _ hk => hk.2) (.int .i64 t230)) (fun _ h_ => h_.1))) hb); have n1_ := Aside0.mk (Kd.R_below (by (with_reducible repeat (first | apply Kd.R_alloc | apply Kd.R_drewN | apply Kd.R_drew)); exact (Kd.R_mono (Kd.R_far (p := ⟨gb232, 2, none⟩) (Kd.R_far (p := ⟨gb232, 1, none⟩) (Kd.R_far (p := ⟨gb232, 0, none⟩) (Kd.R_types HO_201000.out BK232.out (by decide)) (fun _ hk => hk.2) (.slice Ao120 t226.length co120)) (fun _ hk => hk.2) (.int .i64 t229)) (fun _ hk => hk.2) (.int .i64 t230)) (fun _ h_ => h_.1))) hb); have n2_ := Aside0.mk (Kd.R_below (by (with_reducible repeat (first | apply Kd.R_alloc | apply Kd.R_drewN | apply Kd.R_drew)); exact (Kd.R_mono (Kd.R_far (p := ⟨gb232, 2, none⟩) (Kd.R_far (p := ⟨gb232, 1, none⟩) (Kd.R_far (p := ⟨gb232, 0, none⟩) (Kd.R_types HO_208000.out BK232.out (by decide)) (fun _ hk => hk.2) (.slice Ao120 t226.length co120)) (fun _ hk => hk.2) (.int .i64 t229)) (fun _ hk => hk.2) (.int .i64 t230)) (fun _ h_ => h_.1))) hb); have n3_ := Aside0.mk (Kd.R_below (by (with_reducible repeat (first | apply Kd.R_alloc | apply Kd.R_drewN | apply Kd.R_drew)); exact (Kd.R_mono (Kd.R_far (p := ⟨gb232, 2, none⟩) (Kd.R_far (p := ⟨gb232, 1, none⟩) (Kd.R_far (p := ⟨gb232, 0, none⟩) (Kd.R_types HO223.out BK232.out (by decide)) (fun _ hk => hk.2) (.slice Ao120 t226.length co120)) (fun _ hk => hk.2) (.int .i64 t229)) (fun _ hk => hk.2) (.int .i64 t230)) (fun _ h_ => h_.1))) hb); have n4_ := Aside0.mk (Kd.R_below (by (with_reducible repeat (first | apply Kd.R_alloc | apply Kd.R_drewN | apply Kd.R_drew)); exact (Kd.R_mono (Kd.R_far (p := ⟨gb232, 2, none⟩) (Kd.R_far (p := ⟨gb232, 1, none⟩) (Kd.R_far (p := ⟨gb232, 0, none⟩) (Kd.R_types HO228.out BK232.out (by decide)) (fun _ hk => hk.2) (.slice Ao120 t226.length co120)) (fun _ hk => hk.2) (.int .i64 t229)) (fun _ hk => hk.2) (.int .i64 t230)) (fun _ h_ => h_.1))) hb); have n5_ := Aside0.mk (blk_below (g := gb181) (o := .cells #[.slice A0_0 l0_0.length c0_0, .int .i64 a0_1, .int .i64 a0_2] 24 (0, 0)) (by (with_reducible repeat (first | refine blk_drewN ?_ _ | refine blk_drew ?_ | refine blk_alloc ?_ _)); refine blk_far ?_ NB181_232.out _; (with_reducible repeat (first | refine blk_drewN ?_ _ | refine blk_drew ?_ | refine blk_alloc ?_ _)); refine blk_far ?_ NB181_232.out _; (with_reducible repeat (first | refine blk_drewN ?_ _ | refine blk_drew ?_ | refine blk_alloc ?_ _)); refine blk_far ?_ NB181_232.out _; (with_reducible repeat (first | refine blk_drewN ?_ _ | refine blk_drew ?_ | refine blk_alloc ?_ _)); exact BK181.out) hb); have n6_ := Aside0.mk (blk_below (g := gb194) (o := .cells #[.slice Ao22 t188.length co22, .int .i64 t191, .int .i64 t192] 28 (0, 0)) (by (with_reducible repeat (first | refine blk_drewN ?_ _ | refine blk_drew ?_ | refine blk_alloc ?_ _)); refine blk_far ?_ NB194_232.out _; (with_reducible repeat (first | refine blk_drewN ?_ _ | refine blk_drew ?_ | refine blk_alloc ?_ _)); refine blk_far ?_ NB194_232.out _; (with_reducible repeat (first | refine blk_drewN ?_ _ | refine blk_drew ?_ | refine blk_alloc ?_ _)); refine blk_far ?_ NB194_232.out _; (with_reducible repeat (first | refine blk_drewN ?_ _ | refine blk_drew ?_ | refine blk_alloc ?_ _)); exact BK194.out) hb); have n7_ := Aside0.mk (blk_below (g := gb200) (o := .cells #[.slice Ao28 t216.length co28, .int .i64 t198, .int .i64 t199] 28 (0, 0)) (by (with_reducible repeat (first | refine blk_drewN ?_ _ | refine blk_drew ?_ | refine blk_alloc ?_ _)); refine blk_far ?_ NB200_232.out _; (with_reducible repeat (first | refine blk_drewN ?_ _ | refine blk_drew ?_ | refine blk_alloc ?_ _)); refine blk_far ?_ NB200_232.out _; (with_reducible repeat (first | refine blk_drewN ?_ _ | refine blk_drew ?_ | refine blk_alloc ?_ _)); refine blk_far ?_ NB200_232.out _; (with_reducible repeat (first | refine blk_drewN ?_ _ | refine blk_drew ?_ | refine blk_alloc ?_ _)); exact BK200.out) hb); have n8_ := Aside0.mk (blk_below (g := gb207) (o := .cells #[.slice Ao34 t201.length co34, .int .i64 t204, .int .i64 t205] 28 (0, 0)) (by (with_reducible repeat (first | refine blk_drewN ?_ _ | refine blk_drew ?_ | refine blk_alloc ?_ _)); refine blk_far ?_ NB207_232.out _; (with_reducible repeat (first | refine blk_drewN ?_ _ | refine blk_drew ?_ | refine blk_alloc ?_ _)); refine blk_far ?_ NB207_232.out _; (with_reducible repeat (first | refine blk_drewN ?_ _ | refine blk_drew ?_ | refine blk_alloc ?_ _)); refine blk_far ?_ NB207_232.out _; (with_reducible repeat (first | refine blk_drewN ?_ _ | refine blk_drew ?_ | refine blk_alloc ?_ _)); exact BK207.out) hb); have n9_ := Aside0.mk (blk_below (g := gb232) (o := .cells #[.slice Ao120 t226.length co120, .int .i64 t229, .int .i64 t230] 28 (0, 0)) (by (with_reducible repeat (first | refine blk_drewN ?_ _ | refine blk_drew ?_ | refine blk_alloc ?_ _)); refine blk_put (cs := #[.slice Ao120 t226.length co120, .int .i64 t229, .int .i64 0]) ?_ 2 _ rfl; (with_reducible repeat (first | refine blk_drewN ?_ _ | refine blk_drew ?_ | refine blk_alloc ?_ _)); refine blk_put (cs := #[.slice Ao120 t226.length co120, .int .i64 0, .int .i64 0]) ?_ 1 _ rfl; (with_reducible repeat (first | refine blk_drewN ?_ _ | refine blk_drew ?_ | refine blk_alloc ?_ _)); refine blk_put (cs := #[.slice none 0 0, .int .i64 0, .int .i64 0]) ?_ 0 _ rfl; (with_reducible repeat (first | refine blk_drewN ?_ _ | refine blk_drew ?_ | refine blk_alloc ?_ _)); exact BK232.out) hb); have n10_ := Aside0.mk (below_step (by repeat (first | (with_reducible first | exact HB.out | apply below_alloc | apply pw_below_drewN | apply below_drew1 | refine below_set ?_ GE181.out | refine below_set ?_ GE194.out | refine below_set ?_ GE200.out | refine below_set ?_ GE207.out | refine below_set ?_ GE232.out) | exact HB.out)) hb); clear HO_195000; clear HO_201000; clear HO_208000; clear HO223; clear HO228; clear BK181; clear BK194; clear BK200; clear BK207; clear BK232; clear HB; have HO_195000 := n0_; have HO_201000 := n1_; have HO_208000 := n2_; have HO223 := n3_; have HO228 := n4_; have BK181 := n5_; have BK194 := n6_; have BK200 := n7_; have BK207 := n8_; have BK232 := n9_; have HB := n10_; clear n0_ n1_ n2_ n3_ n4_ n5_ n6_ n7_ n8_ n9_ n10_; (try clear hb); (try clear hb2); (try clear hk); (try clear hi)))
                          go_meet
                          case rel => exact ⟨_, ((t231 != t193)), (by first | rfl | (simp; done) | (simp [*]; done)), H', ⟨by have := HJ12.out; have := HJ61.out; first | omega | exact Nat.le_refl _⟩, ⟨by (try simp only [hl201000_61]); (with_reducible repeat (first | apply Kd.R_alloc | apply Kd.R_drewN | apply Kd.R_drew)); exact Kd.R_mono HO_195000.out (fun _ hk => ⟨hk.1.1.1, ⟨hk.1.1.2, hk.2⟩⟩)⟩, ⟨by (try simp only [hl201000_61]); (with_reducible repeat (first | apply Kd.R_alloc | apply Kd.R_drewN | apply Kd.R_drew)); exact Kd.R_mono HO_201000.out (fun _ hk => ⟨hk.1.1.1, ⟨hk.1.1.2, hk.2⟩⟩)⟩, ⟨by (try simp only [hl201000_61]); (with_reducible repeat (first | apply Kd.R_alloc | apply Kd.R_drewN | apply Kd.R_drew)); exact Kd.R_mono HO_208000.out (fun _ hk => ⟨hk.1.1.1, ⟨hk.1.1.2, hk.2⟩⟩)⟩, ⟨by (try simp only [hl201000_61]); (with_reducible repeat (first | apply Kd.R_alloc | apply Kd.R_drewN | apply Kd.R_drew)); exact Kd.R_mono HO228.out (fun _ hk => ⟨hk.1.1.1.2, ⟨hk.1.1.2, hk.1.2⟩⟩)⟩, ⟨by (try simp only [hl201000_61]); (with_reducible repeat (first | refine blk_drewN ?_ _ | refine blk_drew ?_ | refine blk_alloc ?_ _)); exact BK181.out⟩, ⟨by (try simp only [hl201000_61]); (with_reducible repeat (first | refine blk_drewN ?_ _ | refine blk_drew ?_ | refine blk_alloc ?_ _)); exact BK194.out⟩, ⟨by (try simp only [hl201000_61]); (with_reducible repeat (first | refine blk_drewN ?_ _ | refine blk_drew ?_ | refine blk_alloc ?_ _)); exact BK200.out⟩, ⟨by (try simp only [hl201000_61]); (with_reducible repeat (first | refine blk_drewN ?_ _ | refine blk_drew ?_ | refine blk_alloc ?_ _)); exact BK207.out⟩, ⟨by (try simp only [hl201000_61]); (with_reducible repeat (first | refine blk_drewN ?_ _ | refine blk_drew ?_ | refine blk_alloc ?_ _)); exact BK232.out⟩, ⟨by repeat (first | (with_reducible first | exact HB.out | apply below_alloc | apply pw_below_drewN | apply below_drew1 | refine below_set ?_ GE181.out | refine below_set ?_ GE194.out | refine below_set ?_ GE200.out | refine below_set ?_ GE207.out | refine below_set ?_ GE232.out) | exact HB.out)⟩⟩
                        · replace c127 := Bool.eq_false_iff.mpr c127
                          subst c127
                          have H1 : (laws_FnExactGapDelete.j2 kj61 t218 true t219 t204 t205) = some r := by rw [if_neg (show ¬ (false = true) by decide)] at H; exact H
                          clear H
                          have H := H1
                          clear H1
                          have H' := Aside0.mk H
                          clear H
                          have hnb138 := NB232_181.out
                          have hnc138 := NB181_232.out
                          have hnb139 := NB232_194.out
                          have hnc139 := NB194_232.out
                          have hnb140 := NB232_200.out
                          have hnc140 := NB200_232.out
                          have hnb141 := NB232_207.out
                          have hnc141 := NB207_232.out
                          have hcz142_0 : w119.cell? ⟨gb232, 0, none⟩ = some (.slice none 0 0) := (blk_cell BK232.out 0).trans rfl
                          have hcz142_1 : w119.cell? ⟨gb232, 1, none⟩ = some (.int .i64 0) := (blk_cell BK232.out 1).trans rfl
                          have hcz142_2 : w119.cell? ⟨gb232, 2, none⟩ = some (.int .i64 0) := (blk_cell BK232.out 2).trans rfl
                          have hfz142_0 := blk_frozen BK232.out 0
                          have hfz142_1 := blk_frozen BK232.out 1
                          have hfz142_2 := blk_frozen BK232.out 2
                          have hnb143 := NB194_181.out
                          have hnc143 := NB181_194.out
                          have hnb144 := NB194_200.out
                          have hnc144 := NB200_194.out
                          have hnb145 := NB194_207.out
                          have hnc145 := NB207_194.out
                          have hcz146_0 : w119.cell? ⟨gb194, 0, none⟩ = some (.slice Ao22 t188.length co22) := (blk_cell BK194.out 0).trans rfl
                          have hcz146_1 : w119.cell? ⟨gb194, 1, none⟩ = some (.int .i64 t191) := (blk_cell BK194.out 1).trans rfl
                          have hcz146_2 : w119.cell? ⟨gb194, 2, none⟩ = some (.int .i64 t192) := (blk_cell BK194.out 2).trans rfl
                          have hfz146_0 := blk_frozen BK194.out 0
                          have hfz146_1 := blk_frozen BK194.out 1
                          have hfz146_2 := blk_frozen BK194.out 2
                          go_wp2_with (first | ((with_reducible refine gate_callee (f := 15) rfl ?_); refine goesL_ (some 91) rfl rfl Tryd.func15 (by kernel_rfl) rfl #[.agg #[.slice Ao120 t226.length co120, .int .i64 t229, .int .i64 t230], .agg #[.slice Ao22 t188.length co22, .int .i64 t191, .int .i64 t192]] rfl (by (try simp only [List.map_toArray, List.map_cons, List.map_nil]); first | done | rfl | (simp only [List.length_drop, List.length_take]; rfl)) ?_; (with_reducible refine (laws_eqGap.calls kj61 _ _ t226 t229 t230 _ _ t188 t191 t192 false _ ?side1 ?side2 ?side3 ?side4 A126.out).mono ?_); (case side1 => refine (Kd.R_reads' (e := 21) (base := w.heap.size) (ok := fun k_ => ((((True ∧ some k_ ≠ (.slice Ao22 t188.length co22 : Value).ownBlock) ∧ some k_ ≠ (.slice Ao28 t216.length co28 : Value).ownBlock) ∧ some k_ ≠ (.slice Ao34 t201.length co34 : Value).ownBlock) ∧ some k_ ≠ (.slice Ao117 t221.length co117 : Value).ownBlock)) (n := t226.length) (c := co120) ?_).2.2; exact (by (with_reducible repeat (first | apply Kd.R_alloc | apply Kd.R_drewN | apply Kd.R_drew)); exact (Kd.R_mono (Kd.R_far (p := ⟨gb232, 2, none⟩) (Kd.R_far (p := ⟨gb232, 1, none⟩) (Kd.R_far (p := ⟨gb232, 0, none⟩) (Kd.R_types HO228.out BK232.out (by decide)) (fun _ hk => hk.2) (.slice Ao120 t226.length co120)) (fun _ hk => hk.2) (.int .i64 t229)) (fun _ hk => hk.2) (.int .i64 t230)) (fun _ h_ => h_.1)))); (case side2 => exact (Kd.R_reads' HO228.out).2.1); (case side3 => refine (Kd.R_reads' (e := 21) (base := w.heap.size) (ok := fun k_ => (((some k_ ≠ (.slice Ao28 t216.length co28 : Value).ownBlock ∧ some k_ ≠ (.slice Ao34 t201.length co34 : Value).ownBlock) ∧ some k_ ≠ (.slice Ao117 t221.length co117 : Value).ownBlock) ∧ some k_ ≠ (.slice Ao120 t226.length co120 : Value).ownBlock)) (n := t188.length) (c := co22) ?_).2.2; exact (by (with_reducible repeat (first | apply Kd.R_alloc | apply Kd.R_drewN | apply Kd.R_drew)); exact (Kd.R_mono (Kd.R_far (p := ⟨gb232, 2, none⟩) (Kd.R_far (p := ⟨gb232, 1, none⟩) (Kd.R_far (p := ⟨gb232, 0, none⟩) (Kd.R_types HO_195000.out BK232.out (by decide)) (fun _ hk => hk.2) (.slice Ao120 t226.length co120)) (fun _ hk => hk.2) (.int .i64 t229)) (fun _ hk => hk.2) (.int .i64 t230)) (fun _ h_ => h_.1)))); (case side4 => exact (Kd.R_reads' HO_195000.out).2.1); rintro e w147 ⟨rfl, hb⟩; refine ⟨_, rfl, ?_⟩; have n0_ := Aside0.mk (Kd.R_below (by (with_reducible repeat (first | apply Kd.R_alloc | apply Kd.R_drewN | apply Kd.R_drew)); exact (Kd.R_mono (Kd.R_far (p := ⟨gb232, 2, none⟩) (Kd.R_far (p := ⟨gb232, 1, none⟩) (Kd.R_far (p := ⟨gb232, 0, none⟩) (Kd.R_types HO_195000.out BK232.out (by decide)) (fun _ hk => hk.2) (.slice Ao120 t226.length co120)) (fun _ hk => hk.2) (.int .i64 t229)) (fun _ hk => hk.2) (.int .i64 t230)) (fun _ h_ => h_.1))) hb); have n1_ := Aside0.mk (Kd.R_below (by (with_reducible repeat (first | apply Kd.R_alloc | apply Kd.R_drewN | apply Kd.R_drew)); exact (Kd.R_mono (Kd.R_far (p := ⟨gb232, 2, none⟩) (Kd.R_far (p := ⟨gb232, 1, none⟩) (Kd.R_far (p := ⟨gb232, 0, none⟩) (Kd.R_types HO_201000.out BK232.out (by decide)) (fun _ hk => hk.2) (.slice Ao120 t226.length co120)) (fun _ hk => hk.2) (.int .i64 t229)) (fun _ hk => hk.2) (.int .i64 t230)) (fun _ h_ => h_.1))) hb); have n2_ := Aside0.mk (Kd.R_below (by (with_reducible repeat (first | apply Kd.R_alloc | apply Kd.R_drewN | apply Kd.R_drew)); exact (Kd.R_mono (Kd.R_far (p := ⟨gb232, 2, none⟩) (Kd.R_far (p := ⟨gb232, 1, none⟩) (Kd.R_far (p := ⟨gb232, 0, none⟩) (Kd.R_types HO_208000.out BK232.out (by decide)) (fun _ hk => hk.2) (.slice Ao120 t226.length co120)) (fun _ hk => hk.2) (.int .i64 t229)) (fun _ hk => hk.2) (.int .i64 t230)) (fun _ h_ => h_.1))) hb); have n3_ := Aside0.mk (Kd.R_below (by (with_reducible repeat (first | apply Kd.R_alloc | apply Kd.R_drewN | apply Kd.R_drew)); exact (Kd.R_mono (Kd.R_far (p := ⟨gb232, 2, none⟩) (Kd.R_far (p := ⟨gb232, 1, none⟩) (Kd.R_far (p := ⟨gb232, 0, none⟩) (Kd.R_types HO223.out BK232.out (by decide)) (fun _ hk => hk.2) (.slice Ao120 t226.length co120)) (fun _ hk => hk.2) (.int .i64 t229)) (fun _ hk => hk.2) (.int .i64 t230)) (fun _ h_ => h_.1))) hb); have n4_ := Aside0.mk (Kd.R_below (by (with_reducible repeat (first | apply Kd.R_alloc | apply Kd.R_drewN | apply Kd.R_drew)); exact (Kd.R_mono (Kd.R_far (p := ⟨gb232, 2, none⟩) (Kd.R_far (p := ⟨gb232, 1, none⟩) (Kd.R_far (p := ⟨gb232, 0, none⟩) (Kd.R_types HO228.out BK232.out (by decide)) (fun _ hk => hk.2) (.slice Ao120 t226.length co120)) (fun _ hk => hk.2) (.int .i64 t229)) (fun _ hk => hk.2) (.int .i64 t230)) (fun _ h_ => h_.1))) hb); have n5_ := Aside0.mk (blk_below (g := gb181) (o := .cells #[.slice A0_0 l0_0.length c0_0, .int .i64 a0_1, .int .i64 a0_2] 24 (0, 0)) (by (with_reducible repeat (first | refine blk_drewN ?_ _ | refine blk_drew ?_ | refine blk_alloc ?_ _)); refine blk_far ?_ NB181_232.out _; (with_reducible repeat (first | refine blk_drewN ?_ _ | refine blk_drew ?_ | refine blk_alloc ?_ _)); refine blk_far ?_ NB181_232.out _; (with_reducible repeat (first | refine blk_drewN ?_ _ | refine blk_drew ?_ | refine blk_alloc ?_ _)); refine blk_far ?_ NB181_232.out _; (with_reducible repeat (first | refine blk_drewN ?_ _ | refine blk_drew ?_ | refine blk_alloc ?_ _)); exact BK181.out) hb); have n6_ := Aside0.mk (blk_below (g := gb194) (o := .cells #[.slice Ao22 t188.length co22, .int .i64 t191, .int .i64 t192] 28 (0, 0)) (by (with_reducible repeat (first | refine blk_drewN ?_ _ | refine blk_drew ?_ | refine blk_alloc ?_ _)); refine blk_far ?_ NB194_232.out _; (with_reducible repeat (first | refine blk_drewN ?_ _ | refine blk_drew ?_ | refine blk_alloc ?_ _)); refine blk_far ?_ NB194_232.out _; (with_reducible repeat (first | refine blk_drewN ?_ _ | refine blk_drew ?_ | refine blk_alloc ?_ _)); refine blk_far ?_ NB194_232.out _; (with_reducible repeat (first | refine blk_drewN ?_ _ | refine blk_drew ?_ | refine blk_alloc ?_ _)); exact BK194.out) hb); have n7_ := Aside0.mk (blk_below (g := gb200) (o := .cells #[.slice Ao28 t216.length co28, .int .i64 t198, .int .i64 t199] 28 (0, 0)) (by (with_reducible repeat (first | refine blk_drewN ?_ _ | refine blk_drew ?_ | refine blk_alloc ?_ _)); refine blk_far ?_ NB200_232.out _; (with_reducible repeat (first | refine blk_drewN ?_ _ | refine blk_drew ?_ | refine blk_alloc ?_ _)); refine blk_far ?_ NB200_232.out _; (with_reducible repeat (first | refine blk_drewN ?_ _ | refine blk_drew ?_ | refine blk_alloc ?_ _)); refine blk_far ?_ NB200_232.out _; (with_reducible repeat (first | refine blk_drewN ?_ _ | refine blk_drew ?_ | refine blk_alloc ?_ _)); exact BK200.out) hb); have n8_ := Aside0.mk (blk_below (g := gb207) (o := .cells #[.slice Ao34 t201.length co34, .int .i64 t204, .int .i64 t205] 28 (0, 0)) (by (with_reducible repeat (first | refine blk_drewN ?_ _ | refine blk_drew ?_ | refine blk_alloc ?_ _)); refine blk_far ?_ NB207_232.out _; (with_reducible repeat (first | refine blk_drewN ?_ _ | refine blk_drew ?_ | refine blk_alloc ?_ _)); refine blk_far ?_ NB207_232.out _; (with_reducible repeat (first | refine blk_drewN ?_ _ | refine blk_drew ?_ | refine blk_alloc ?_ _)); refine blk_far ?_ NB207_232.out _; (with_reducible repeat (first | refine blk_drewN ?_ _ | refine blk_drew ?_ | refine blk_alloc ?_ _)); exact BK207.out) hb); have n9_ := Aside0.mk (blk_below (g := gb232) (o := .cells #[.slice Ao120 t226.length co120, .int .i64 t229, .int .i64 t230] 28 (0, 0)) (by (with_reducible repeat (first | refine blk_drewN ?_ _ | refine blk_drew ?_ | refine blk_alloc ?_ _)); refine blk_put (cs := #[.slice Ao120 t226.length co120, .int .i64 t229, .int .i64 0]) ?_ 2 _ rfl; (with_reducible repeat (first | refine blk_drewN ?_ _ | refine blk_drew ?_ | refine blk_alloc ?_ _)); refine blk_put (cs := #[.slice Ao120 t226.length co120, .int .i64 0, .int .i64 0]) ?_ 1 _ rfl; (with_reducible repeat (first | refine blk_drewN ?_ _ | refine blk_drew ?_ | refine blk_alloc ?_ _)); refine blk_put (cs := #[.slice none 0 0, .int .i64 0, .int .i64 0]) ?_ 0 _ rfl; (with_reducible repeat (first | refine blk_drewN ?_ _ | refine blk_drew ?_ | refine blk_alloc ?_ _)); exact BK232.out) hb); have n10_ := Aside0.mk (below_step (by repeat (first | (with_reducible first | exact HB.out | apply below_alloc | apply pw_below_drewN | apply below_drew1 | refine below_set ?_ GE181.out | refine below_set ?_ GE194.out | refine below_set ?_ GE200.out | refine below_set ?_ GE207.out | refine below_set ?_ GE232.out) | exact HB.out)) hb); clear HO_195000; clear HO_201000; clear HO_208000; clear HO223; clear HO228; clear BK181; clear BK194; clear BK200; clear BK207; clear BK232; clear HB; have HO_195000 := n0_; have HO_201000 := n1_; have HO_208000 := n2_; have HO223 := n3_; have HO228 := n4_; have BK181 := n5_; have BK194 := n6_; have BK200 := n7_; have BK207 := n8_; have BK232 := n9_; have HB := n10_; clear n0_ n1_ n2_ n3_ n4_ n5_ n6_ n7_ n8_ n9_ n10_; (try clear hb); (try clear hb2); (try clear hk); (try clear hi)))
                          go_meet
                          case rel => exact ⟨_, (true), (by first | rfl | (simp; done) | (simp [*]; done)), H', ⟨by have := HJ12.out; have := HJ61.out; first | omega | exact Nat.le_refl _⟩, ⟨by (try simp only [hl201000_61]); (with_reducible repeat (first | apply Kd.R_alloc | apply Kd.R_drewN | apply Kd.R_drew)); exact Kd.R_mono HO_195000.out (fun _ hk => ⟨hk.1.1.1, ⟨hk.1.1.2, hk.2⟩⟩)⟩, ⟨by (try simp only [hl201000_61]); (with_reducible repeat (first | apply Kd.R_alloc | apply Kd.R_drewN | apply Kd.R_drew)); exact Kd.R_mono HO_201000.out (fun _ hk => ⟨hk.1.1.1, ⟨hk.1.1.2, hk.2⟩⟩)⟩, ⟨by (try simp only [hl201000_61]); (with_reducible repeat (first | apply Kd.R_alloc | apply Kd.R_drewN | apply Kd.R_drew)); exact Kd.R_mono HO_208000.out (fun _ hk => ⟨hk.1.1.1, ⟨hk.1.1.2, hk.2⟩⟩)⟩, ⟨by (try simp only [hl201000_61]); (with_reducible repeat (first | apply Kd.R_alloc | apply Kd.R_drewN | apply Kd.R_drew)); exact Kd.R_mono HO228.out (fun _ hk => ⟨hk.1.1.1.2, ⟨hk.1.1.2, hk.1.2⟩⟩)⟩, ⟨by (try simp only [hl201000_61]); (with_reducible repeat (first | refine blk_drewN ?_ _ | refine blk_drew ?_ | refine blk_alloc ?_ _)); exact BK181.out⟩, ⟨by (try simp only [hl201000_61]); (with_reducible repeat (first | refine blk_drewN ?_ _ | refine blk_drew ?_ | refine blk_alloc ?_ _)); exact BK194.out⟩, ⟨by (try simp only [hl201000_61]); (with_reducible repeat (first | refine blk_drewN ?_ _ | refine blk_drew ?_ | refine blk_alloc ?_ _)); exact BK200.out⟩, ⟨by (try simp only [hl201000_61]); (with_reducible repeat (first | refine blk_drewN ?_ _ | refine blk_drew ?_ | refine blk_alloc ?_ _)); exact BK207.out⟩, ⟨by (try simp only [hl201000_61]); (with_reducible repeat (first | refine blk_drewN ?_ _ | refine blk_drew ?_ | refine blk_alloc ?_ _)); exact BK232.out⟩, ⟨by repeat (first | (with_reducible first | exact HB.out | apply below_alloc | apply pw_below_drewN | apply below_drew1 | refine below_set ?_ GE181.out | refine below_set ?_ GE194.out | refine below_set ?_ GE200.out | refine below_set ?_ GE207.out | refine below_set ?_ GE232.out) | exact HB.out)⟩⟩
                      case rest =>
                        clear HC105
                        try clear c1
                        try clear c2
                        try clear p2
                        try clear c3
                        try clear c4
                        try clear c5
                        try clear c5b0
                        try clear c6
                        try clear c7
                        try clear c8
                        try clear c9
                        try clear c10
                        try clear c11
                        try clear c12
                        try clear c13
                        try clear c14
                        try clear c15
                        try clear c16
                        try clear c19
                        try clear c20
                        try clear c21
                        try clear c23
                        try clear c29
                        try clear c30
                        try clear c35
                        try clear c36
                        try clear c37
                        try clear c40
                        try clear c41
                        try clear c42
                        try clear c43
                        try clear c45
                        try clear c46
                        try clear c49
                        try clear c50
                        try clear c51
                        try clear c53
                        try clear c54
                        try clear c57
                        try clear c60
                        try clear c67
                        try clear c68
                        try clear c69
                        try clear c72
                        try clear c72b0
                        try clear c74
                        try clear c75
                        try clear c76
                        try clear c77
                        try clear c79
                        try clear c80
                        try clear c83
                        try clear c84
                        try clear c85
                        try clear c87
                        try clear c88
                        try clear c91
                        try clear c94
                        try clear c94b0
                        try clear c95
                        try clear c96
                        try clear c97
                        try clear c102
                        try clear c102b0
                        try clear c102b1
                        try clear c106
                        try clear c107
                        try clear c108
                        try clear c113
                        try clear c114
                        try clear c121
                        try clear c122
                        try clear c123
                        try clear c124
                        try clear c127
                        try clear c128
                        try clear c129
                        try clear c130
                        try clear c131
                        try clear c133
                        try clear c134
                        try clear c135
                        try clear c138
                        try clear c139
                        try clear c140
                        try clear c141
                        try clear c143
                        try clear c144
                        try clear c145
                        try clear hcz100_0
                        try clear hcz100_1
                        try clear hcz100_2
                        try clear hcz109_0
                        try clear hcz109_1
                        try clear hcz109_2
                        try clear hcz111_0
                        try clear hcz111_1
                        try clear hcz111_2
                        try clear hcz115_0
                        try clear hcz115_1
                        try clear hcz115_2
                        try clear hcz125_0
                        try clear hcz125_1
                        try clear hcz125_2
                        try clear hcz132_0
                        try clear hcz132_1
                        try clear hcz132_2
                        try clear hcz136_0
                        try clear hcz136_1
                        try clear hcz136_2
                        try clear hcz142_0
                        try clear hcz142_1
                        try clear hcz142_2
                        try clear hcz146_0
                        try clear hcz146_1
                        try clear hcz146_2
                        try clear hcz15_0
                        try clear hcz15_1
                        try clear hcz15_2
                        try clear hcz17_0
                        try clear hcz17_1
                        try clear hcz17_2
                        try clear hcz24_0
                        try clear hcz24_1
                        try clear hcz24_2
                        try clear hcz25_0
                        try clear hcz25_1
                        try clear hcz25_2
                        try clear hcz31_0
                        try clear hcz31_1
                        try clear hcz31_2
                        try clear hcz38_0
                        try clear hcz38_1
                        try clear hcz38_2
                        try clear hcz44_0
                        try clear hcz44_1
                        try clear hcz44_2
                        try clear hcz47_0
                        try clear hcz47_1
                        try clear hcz47_2
                        try clear hcz52_0
                        try clear hcz52_1
                        try clear hcz52_2
                        try clear hcz55_0
                        try clear hcz55_1
                        try clear hcz55_2
                        try clear hcz70_0
                        try clear hcz70_1
                        try clear hcz70_2
                        try clear hcz78_0
                        try clear hcz78_1
                        try clear hcz78_2
                        try clear hcz7_0
                        try clear hcz7_1
                        try clear hcz7_2
                        try clear hcz81_0
                        try clear hcz81_1
                        try clear hcz81_2
                        try clear hcz86_0
                        try clear hcz86_1
                        try clear hcz86_2
                        try clear hcz89_0
                        try clear hcz89_1
                        try clear hcz89_2
                        try clear hcz98_0
                        try clear hcz98_1
                        try clear hcz98_2
                        try clear hfz100_0
                        try clear hfz100_1
                        try clear hfz100_2
                        try clear hfz109_0
                        try clear hfz109_1
                        try clear hfz109_2
                        try clear hfz111_0
                        try clear hfz111_1
                        try clear hfz111_2
                        try clear hfz115_0
                        try clear hfz115_1
                        try clear hfz115_2
                        try clear hfz125_0
                        try clear hfz125_1
                        try clear hfz125_2
                        try clear hfz132_0
                        try clear hfz132_1
                        try clear hfz132_2
                        try clear hfz136_0
                        try clear hfz136_1
                        try clear hfz136_2
                        try clear hfz142_0
                        try clear hfz142_1
                        try clear hfz142_2
                        try clear hfz146_0
                        try clear hfz146_1
                        try clear hfz146_2
                        try clear hfz15_0
                        try clear hfz15_1
                        try clear hfz15_2
                        try clear hfz17_0
                        try clear hfz17_1
                        try clear hfz17_2
                        try clear hfz24_0
                        try clear hfz24_1
                        try clear hfz24_2
                        try clear hfz25_0
                        try clear hfz25_1
                        try clear hfz25_2
                        try clear hfz31_0
                        try clear hfz31_1
                        try clear hfz31_2
                        try clear hfz38_0
                        try clear hfz38_1
                        try clear hfz38_2
                        try clear hfz44_0
                        try clear hfz44_1
                        try clear hfz44_2
                        try clear hfz47_0
                        try clear hfz47_1
                        try clear hfz47_2
                        try clear hfz52_0
                        try clear hfz52_1
                        try clear hfz52_2
                        try clear hfz55_0
                        try clear hfz55_1
                        try clear hfz55_2
                        try clear hfz70_0
                        try clear hfz70_1
                        try clear hfz70_2
                        try clear hfz78_0
                        try clear hfz78_1
                        try clear hfz78_2
                        try clear hfz7_0
                        try clear hfz7_1
                        try clear hfz7_2
                        try clear hfz81_0
                        try clear hfz81_1
                        try clear hfz81_2
                        try clear hfz86_0
                        try clear hfz86_1
                        try clear hfz86_2
                        try clear hfz89_0
                        try clear hfz89_1
                        try clear hfz89_2
                        try clear hfz98_0
                        try clear hfz98_1
                        try clear hfz98_2
                        try clear p2
                        obtain ⟨kq, x97_104, rfl, HA, HJ104, HO_195000, HO_201000, HO_208000, HO_233000, BK181, BK194, BK200, BK207, BK232, HB⟩ := hcut
                        have hl208000_104 := (Kd.R_reads' HO_208000.out).1
                        rw [hl208000_104] at HO_208000
                        (try simp only [hl208000_104])
                        (try simp only [hl208000_104] at BK181)
                        (try simp only [hl208000_104] at BK194)
                        (try simp only [hl208000_104] at BK200)
                        (try simp only [hl208000_104] at BK207)
                        (try simp only [hl208000_104] at BK232)
                        (try simp only [hl208000_104] at HO_195000)
                        (try simp only [hl208000_104] at HO_201000)
                        (try simp only [hl208000_104] at HO_233000)
                        cases kq with
                        | zero => exact absurd HA.out (by simp [laws_FnExactGapDelete.j2])
                        | succ kj104 =>
                          have H := HA.out
                          clear HA
                          simp only [laws_FnExactGapDelete.j2] at H
                          by_cases c148 : x97_104 = true
                          · subst c148
                            have H1 : (some false) = some r := by rw [if_pos rfl] at H; exact H
                            clear H
                            have H := H1
                            clear H1
                            obtain rfl := Option.some.inj H
                            go_wp2
                            go_ret
                            exact ⟨by first | rfl | (simp [errW_none, errW_some] <;> rfl) | (simp [*, errW_none, errW_some] <;> rfl), by repeat (first | (with_reducible first | exact HB.out | apply below_alloc | apply pw_below_drewN | apply below_drew1 | refine below_set ?_ GE181.out | refine below_set ?_ GE194.out | refine below_set ?_ GE200.out | refine below_set ?_ GE207.out | refine below_set ?_ GE232.out) | exact HB.out)⟩
                          · replace c148 := Bool.eq_false_iff.mpr c148
                            subst c148
                            have H1 : ((laws_heldGap.f kj104 t219 t204 t205 1).bind fun t234 => (if t234 < 0 then (some false) else (if t234 = t218 then (some true) else (some false)))) = some r := by rw [if_neg (show ¬ (false = true) by decide)] at H; exact H
                            clear H
                            have H := H1
                            clear H1
                            replace H := Option.bind_eq_some_iff.mp H
                            obtain ⟨t234, A1490, H⟩ := H
                            replace H : (if t234 < 0 then (some false) else (if t234 = t218 then (some true) else (some false))) = some r := H
                            have A149 := Aside0.mk A1490
                            clear A1490
                            by_cases c150 : t234 < 0
                            · rw [if_pos c150] at H
                              have c150b0 : decide (t234 < 0) = true := decide_eq_true c150
                              clear c150
                              obtain rfl := Option.some.inj H
                              have hnb151 := NB207_181.out
                              have hnc151 := NB181_207.out
                              have hnb152 := NB207_194.out
                              have hnc152 := NB194_207.out
                              have hnb153 := NB207_200.out
                              have hnc153 := NB200_207.out
                              have hnb154 := NB207_232.out
                              have hnc154 := NB232_207.out
                              have hcz155_0 : wc.cell? ⟨gb207, 0, none⟩ = some (.slice Ao34 t219.length co34) := (blk_cell BK207.out 0).trans rfl
                              have hcz155_1 : wc.cell? ⟨gb207, 1, none⟩ = some (.int .i64 t204) := (blk_cell BK207.out 1).trans rfl
                              have hcz155_2 : wc.cell? ⟨gb207, 2, none⟩ = some (.int .i64 t205) := (blk_cell BK207.out 2).trans rfl
                              have hfz155_0 := blk_frozen BK207.out 0
                              have hfz155_1 := blk_frozen BK207.out 1
                              have hfz155_2 := blk_frozen BK207.out 2
                              go_wp2_with (first | ((with_reducible refine gate_callee (f := 21) rfl ?_); refine goesL_ (some 100) rfl rfl Tryd.func21 (by kernel_rfl) rfl #[.agg #[.slice Ao34 t219.length co34, .int .i64 t204, .int .i64 t205], .int .i64 1] rfl (by (try simp only [List.map_toArray, List.map_cons, List.map_nil]); first | done | rfl | (simp only [List.length_drop, List.length_take]; rfl)) ?_; (with_reducible refine (laws_heldGap.calls kj104 _ _ t219 t204 t205 1 t234 _ ?side1 ?side2 A149.out).mono ?_); (case side1 => repeat (first | exact (Kd.R_reads' HO_208000.out).2.2 | (with_reducible refine Kd.C_alloc ?_ _) | (with_reducible refine Kd.C_drewN ?_ _) | (with_reducible refine Kd.C_drew ?_))); (case side2 => exact (Kd.R_reads' HO_208000.out).2.1); rintro e w156 ⟨rfl, hb⟩; refine ⟨_, rfl, ?_⟩; have n0_ := Aside0.mk (Kd.R_below (by (with_reducible repeat (first | apply Kd.R_alloc | apply Kd.R_drewN | apply Kd.R_drew)); exact HO_195000.out) hb); have n1_ := Aside0.mk (Kd.R_below (by (with_reducible repeat (first | apply Kd.R_alloc | apply Kd.R_drewN | apply Kd.R_drew)); exact HO_201000.out) hb); have n2_ := Aside0.mk (Kd.R_below (by (with_reducible repeat (first | apply Kd.R_alloc | apply Kd.R_drewN | apply Kd.R_drew)); exact HO_208000.out) hb); have n3_ := Aside0.mk (Kd.R_below (by (with_reducible repeat (first | apply Kd.R_alloc | apply Kd.R_drewN | apply Kd.R_drew)); exact HO_233000.out) hb); have n4_ := Aside0.mk (blk_below (g := gb181) (o := .cells #[.slice A0_0 l0_0.length c0_0, .int .i64 a0_1, .int .i64 a0_2] 24 (0, 0)) (by (with_reducible repeat (first | refine blk_drewN ?_ _ | refine blk_drew ?_ | refine blk_alloc ?_ _)); exact BK181.out) hb); have n5_ := Aside0.mk (blk_below (g := gb194) (o := .cells #[.slice Ao22 t188.length co22, .int .i64 t191, .int .i64 t192] 28 (0, 0)) (by (with_reducible repeat (first | refine blk_drewN ?_ _ | refine blk_drew ?_ | refine blk_alloc ?_ _)); exact BK194.out) hb); have n6_ := Aside0.mk (blk_below (g := gb200) (o := .cells #[.slice Ao28 t216.length co28, .int .i64 t198, .int .i64 t199] 28 (0, 0)) (by (with_reducible repeat (first | refine blk_drewN ?_ _ | refine blk_drew ?_ | refine blk_alloc ?_ _)); exact BK200.out) hb); have n7_ := Aside0.mk (blk_below (g := gb207) (o := .cells #[.slice Ao34 t219.length co34, .int .i64 t204, .int .i64 t205] 28 (0, 0)) (by (with_reducible repeat (first | refine blk_drewN ?_ _ | refine blk_drew ?_ | refine blk_alloc ?_ _)); exact BK207.out) hb); have n8_ := Aside0.mk (blk_below (g := gb232) (o := .cells #[.slice Ao120 t226.length co120, .int .i64 t229, .int .i64 t230] 28 (0, 0)) (by (with_reducible repeat (first | refine blk_drewN ?_ _ | refine blk_drew ?_ | refine blk_alloc ?_ _)); exact BK232.out) hb); have n9_ := Aside0.mk (below_step (by repeat (first | (with_reducible first | exact HB.out | apply below_alloc | apply pw_below_drewN | apply below_drew1 | refine below_set ?_ GE181.out | refine below_set ?_ GE194.out | refine below_set ?_ GE200.out | refine below_set ?_ GE207.out | refine below_set ?_ GE232.out) | exact HB.out)) hb); clear HO_195000; clear HO_201000; clear HO_208000; clear HO_233000; clear BK181; clear BK194; clear BK200; clear BK207; clear BK232; clear HB; have HO_195000 := n0_; have HO_201000 := n1_; have HO_208000 := n2_; have HO_233000 := n3_; have BK181 := n4_; have BK194 := n5_; have BK200 := n6_; have BK207 := n7_; have BK232 := n8_; have HB := n9_; clear n0_ n1_ n2_ n3_ n4_ n5_ n6_ n7_ n8_ n9_; (try clear hb); (try clear hb2); (try clear hk); (try clear hi)))
                              go_ret
                              exact ⟨by first | rfl | (simp [errW_none, errW_some] <;> rfl) | (simp [*, errW_none, errW_some] <;> rfl), by repeat (first | (with_reducible first | exact HB.out | apply below_alloc | apply pw_below_drewN | apply below_drew1 | refine below_set ?_ GE181.out | refine below_set ?_ GE194.out | refine below_set ?_ GE200.out | refine below_set ?_ GE207.out | refine below_set ?_ GE232.out) | exact HB.out)⟩
                            · rw [if_neg c150] at H
                              have c150b0 : decide (t234 < 0) = false := decide_eq_false c150
                              clear c150
                              by_cases c157 : t234 = t218
                              · rw [if_pos c157] at H
                                have c157b0 : (t234 == t218) = true := beq_iff_eq.mpr c157
                                have c157b1 : (t234 != t218) = false := bne_eq_false_iff_eq.mpr c157
                                clear c157
                                obtain rfl := Option.some.inj H
                                have hnb158 := NB207_181.out
                                have hnc158 := NB181_207.out
                                have hnb159 := NB207_194.out
                                have hnc159 := NB194_207.out
                                have hnb160 := NB207_200.out
                                have hnc160 := NB200_207.out
                                have hnb161 := NB207_232.out
                                have hnc161 := NB232_207.out
                                have hcz162_0 : wc.cell? ⟨gb207, 0, none⟩ = some (.slice Ao34 t219.length co34) := (blk_cell BK207.out 0).trans rfl
                                have hcz162_1 : wc.cell? ⟨gb207, 1, none⟩ = some (.int .i64 t204) := (blk_cell BK207.out 1).trans rfl
                                have hcz162_2 : wc.cell? ⟨gb207, 2, none⟩ = some (.int .i64 t205) := (blk_cell BK207.out 2).trans rfl
                                have hfz162_0 := blk_frozen BK207.out 0
                                have hfz162_1 := blk_frozen BK207.out 1
                                have hfz162_2 := blk_frozen BK207.out 2
                                go_wp2_with (first | ((with_reducible refine gate_callee (f := 21) rfl ?_); refine goesL_ (some 100) rfl rfl Tryd.func21 (by kernel_rfl) rfl #[.agg #[.slice Ao34 t219.length co34, .int .i64 t204, .int .i64 t205], .int .i64 1] rfl (by (try simp only [List.map_toArray, List.map_cons, List.map_nil]); first | done | rfl | (simp only [List.length_drop, List.length_take]; rfl)) ?_; (with_reducible refine (laws_heldGap.calls kj104 _ _ t219 t204 t205 1 t234 _ ?side1 ?side2 A149.out).mono ?_); (case side1 => repeat (first | exact (Kd.R_reads' HO_208000.out).2.2 | (with_reducible refine Kd.C_alloc ?_ _) | (with_reducible refine Kd.C_drewN ?_ _) | (with_reducible refine Kd.C_drew ?_))); (case side2 => exact (Kd.R_reads' HO_208000.out).2.1); rintro e w163 ⟨rfl, hb⟩; refine ⟨_, rfl, ?_⟩; have n0_ := Aside0.mk (Kd.R_below (by (with_reducible repeat (first | apply Kd.R_alloc | apply Kd.R_drewN | apply Kd.R_drew)); exact HO_195000.out) hb); have n1_ := Aside0.mk (Kd.R_below (by (with_reducible repeat (first | apply Kd.R_alloc | apply Kd.R_drewN | apply Kd.R_drew)); exact HO_201000.out) hb); have n2_ := Aside0.mk (Kd.R_below (by (with_reducible repeat (first | apply Kd.R_alloc | apply Kd.R_drewN | apply Kd.R_drew)); exact HO_208000.out) hb); have n3_ := Aside0.mk (Kd.R_below (by (with_reducible repeat (first | apply Kd.R_alloc | apply Kd.R_drewN | apply Kd.R_drew)); exact HO_233000.out) hb); have n4_ := Aside0.mk (blk_below (g := gb181) (o := .cells #[.slice A0_0 l0_0.length c0_0, .int .i64 a0_1, .int .i64 a0_2] 24 (0, 0)) (by (with_reducible repeat (first | refine blk_drewN ?_ _ | refine blk_drew ?_ | refine blk_alloc ?_ _)); exact BK181.out) hb); have n5_ := Aside0.mk (blk_below (g := gb194) (o := .cells #[.slice Ao22 t188.length co22, .int .i64 t191, .int .i64 t192] 28 (0, 0)) (by (with_reducible repeat (first | refine blk_drewN ?_ _ | refine blk_drew ?_ | refine blk_alloc ?_ _)); exact BK194.out) hb); have n6_ := Aside0.mk (blk_below (g := gb200) (o := .cells #[.slice Ao28 t216.length co28, .int .i64 t198, .int .i64 t199] 28 (0, 0)) (by (with_reducible repeat (first | refine blk_drewN ?_ _ | refine blk_drew ?_ | refine blk_alloc ?_ _)); exact BK200.out) hb); have n7_ := Aside0.mk (blk_below (g := gb207) (o := .cells #[.slice Ao34 t219.length co34, .int .i64 t204, .int .i64 t205] 28 (0, 0)) (by (with_reducible repeat (first | refine blk_drewN ?_ _ | refine blk_drew ?_ | refine blk_alloc ?_ _)); exact BK207.out) hb); have n8_ := Aside0.mk (blk_below (g := gb232) (o := .cells #[.slice Ao120 t226.length co120, .int .i64 t229, .int .i64 t230] 28 (0, 0)) (by (with_reducible repeat (first | refine blk_drewN ?_ _ | refine blk_drew ?_ | refine blk_alloc ?_ _)); exact BK232.out) hb); have n9_ := Aside0.mk (below_step (by repeat (first | (with_reducible first | exact HB.out | apply below_alloc | apply pw_below_drewN | apply below_drew1 | refine below_set ?_ GE181.out | refine below_set ?_ GE194.out | refine below_set ?_ GE200.out | refine below_set ?_ GE207.out | refine below_set ?_ GE232.out) | exact HB.out)) hb); clear HO_195000; clear HO_201000; clear HO_208000; clear HO_233000; clear BK181; clear BK194; clear BK200; clear BK207; clear BK232; clear HB; have HO_195000 := n0_; have HO_201000 := n1_; have HO_208000 := n2_; have HO_233000 := n3_; have BK181 := n4_; have BK194 := n5_; have BK200 := n6_; have BK207 := n7_; have BK232 := n8_; have HB := n9_; clear n0_ n1_ n2_ n3_ n4_ n5_ n6_ n7_ n8_ n9_; (try clear hb); (try clear hb2); (try clear hk); (try clear hi)))
                                go_ret
                                exact ⟨by first | rfl | (simp [errW_none, errW_some] <;> rfl) | (simp [*, errW_none, errW_some] <;> rfl), by repeat (first | (with_reducible first | exact HB.out | apply below_alloc | apply pw_below_drewN | apply below_drew1 | refine below_set ?_ GE181.out | refine below_set ?_ GE194.out | refine below_set ?_ GE200.out | refine below_set ?_ GE207.out | refine below_set ?_ GE232.out) | exact HB.out)⟩
                              · rw [if_neg c157] at H
                                have c157b0 : (t234 == t218) = false := beq_eq_false_iff_ne.mpr c157
                                have c157b1 : (t234 != t218) = true := bne_iff_ne.mpr c157
                                obtain rfl := Option.some.inj H
                                have hnb164 := NB207_181.out
                                have hnc164 := NB181_207.out
                                have hnb165 := NB207_194.out
                                have hnc165 := NB194_207.out
                                have hnb166 := NB207_200.out
                                have hnc166 := NB200_207.out
                                have hnb167 := NB207_232.out
                                have hnc167 := NB232_207.out
                                have hcz168_0 : wc.cell? ⟨gb207, 0, none⟩ = some (.slice Ao34 t219.length co34) := (blk_cell BK207.out 0).trans rfl
                                have hcz168_1 : wc.cell? ⟨gb207, 1, none⟩ = some (.int .i64 t204) := (blk_cell BK207.out 1).trans rfl
                                have hcz168_2 : wc.cell? ⟨gb207, 2, none⟩ = some (.int .i64 t205) := (blk_cell BK207.out 2).trans rfl
                                have hfz168_0 := blk_frozen BK207.out 0
                                have hfz168_1 := blk_frozen BK207.out 1
                                have hfz168_2 := blk_frozen BK207.out 2
                                go_wp2_with (first | ((with_reducible refine gate_callee (f := 21) rfl ?_); refine goesL_ (some 100) rfl rfl Tryd.func21 (by kernel_rfl) rfl #[.agg #[.slice Ao34 t219.length co34, .int .i64 t204, .int .i64 t205], .int .i64 1] rfl (by (try simp only [List.map_toArray, List.map_cons, List.map_nil]); first | done | rfl | (simp only [List.length_drop, List.length_take]; rfl)) ?_; (with_reducible refine (laws_heldGap.calls kj104 _ _ t219 t204 t205 1 t234 _ ?side1 ?side2 A149.out).mono ?_); (case side1 => repeat (first | exact (Kd.R_reads' HO_208000.out).2.2 | (with_reducible refine Kd.C_alloc ?_ _) | (with_reducible refine Kd.C_drewN ?_ _) | (with_reducible refine Kd.C_drew ?_))); (case side2 => exact (Kd.R_reads' HO_208000.out).2.1); rintro e w169 ⟨rfl, hb⟩; refine ⟨_, rfl, ?_⟩; have n0_ := Aside0.mk (Kd.R_below (by (with_reducible repeat (first | apply Kd.R_alloc | apply Kd.R_drewN | apply Kd.R_drew)); exact HO_195000.out) hb); have n1_ := Aside0.mk (Kd.R_below (by (with_reducible repeat (first | apply Kd.R_alloc | apply Kd.R_drewN | apply Kd.R_drew)); exact HO_201000.out) hb); have n2_ := Aside0.mk (Kd.R_below (by (with_reducible repeat (first | apply Kd.R_alloc | apply Kd.R_drewN | apply Kd.R_drew)); exact HO_208000.out) hb); have n3_ := Aside0.mk (Kd.R_below (by (with_reducible repeat (first | apply Kd.R_alloc | apply Kd.R_drewN | apply Kd.R_drew)); exact HO_233000.out) hb); have n4_ := Aside0.mk (blk_below (g := gb181) (o := .cells #[.slice A0_0 l0_0.length c0_0, .int .i64 a0_1, .int .i64 a0_2] 24 (0, 0)) (by (with_reducible repeat (first | refine blk_drewN ?_ _ | refine blk_drew ?_ | refine blk_alloc ?_ _)); exact BK181.out) hb); have n5_ := Aside0.mk (blk_below (g := gb194) (o := .cells #[.slice Ao22 t188.length co22, .int .i64 t191, .int .i64 t192] 28 (0, 0)) (by (with_reducible repeat (first | refine blk_drewN ?_ _ | refine blk_drew ?_ | refine blk_alloc ?_ _)); exact BK194.out) hb); have n6_ := Aside0.mk (blk_below (g := gb200) (o := .cells #[.slice Ao28 t216.length co28, .int .i64 t198, .int .i64 t199] 28 (0, 0)) (by (with_reducible repeat (first | refine blk_drewN ?_ _ | refine blk_drew ?_ | refine blk_alloc ?_ _)); exact BK200.out) hb); have n7_ := Aside0.mk (blk_below (g := gb207) (o := .cells #[.slice Ao34 t219.length co34, .int .i64 t204, .int .i64 t205] 28 (0, 0)) (by (with_reducible repeat (first | refine blk_drewN ?_ _ | refine blk_drew ?_ | refine blk_alloc ?_ _)); exact BK207.out) hb); have n8_ := Aside0.mk (blk_below (g := gb232) (o := .cells #[.slice Ao120 t226.length co120, .int .i64 t229, .int .i64 t230] 28 (0, 0)) (by (with_reducible repeat (first | refine blk_drewN ?_ _ | refine blk_drew ?_ | refine blk_alloc ?_ _)); exact BK232.out) hb); have n9_ := Aside0.mk (below_step (by repeat (first | (with_reducible first | exact HB.out | apply below_alloc | apply pw_below_drewN | apply below_drew1 | refine below_set ?_ GE181.out | refine below_set ?_ GE194.out | refine below_set ?_ GE200.out | refine below_set ?_ GE207.out | refine below_set ?_ GE232.out) | exact HB.out)) hb); clear HO_195000; clear HO_201000; clear HO_208000; clear HO_233000; clear BK181; clear BK194; clear BK200; clear BK207; clear BK232; clear HB; have HO_195000 := n0_; have HO_201000 := n1_; have HO_208000 := n2_; have HO_233000 := n3_; have BK181 := n4_; have BK194 := n5_; have BK200 := n6_; have BK207 := n7_; have BK232 := n8_; have HB := n9_; clear n0_ n1_ n2_ n3_ n4_ n5_ n6_ n7_ n8_ n9_; (try clear hb); (try clear hb2); (try clear hk); (try clear hi)))
                                go_ret
                                exact ⟨by first | rfl | (simp [errW_none, errW_some] <;> rfl) | (simp [*, errW_none, errW_some] <;> rfl), by repeat (first | (with_reducible first | exact HB.out | apply below_alloc | apply pw_below_drewN | apply below_drew1 | refine below_set ?_ GE181.out | refine below_set ?_ GE194.out | refine below_set ?_ GE200.out | refine below_set ?_ GE207.out | refine below_set ?_ GE232.out) | exact HB.out)⟩
                    · rw [if_neg c102] at H
                      have c102b0 : (t220 == t218) = false := beq_eq_false_iff_ne.mpr c102
                      have c102b1 : (t220 != t218) = true := bne_iff_ne.mpr c102
                      obtain rfl := Option.some.inj H
                      have hnb170 := NB207_181.out
                      have hnc170 := NB181_207.out
                      have hnb171 := NB207_194.out
                      have hnc171 := NB194_207.out
                      have hnb172 := NB207_200.out
                      have hnc172 := NB200_207.out
                      have hcz173_0 : wc.cell? ⟨gb207, 0, none⟩ = some (.slice Ao34 t201.length co34) := (blk_cell BK207.out 0).trans rfl
                      have hcz173_1 : wc.cell? ⟨gb207, 1, none⟩ = some (.int .i64 t204) := (blk_cell BK207.out 1).trans rfl
                      have hcz173_2 : wc.cell? ⟨gb207, 2, none⟩ = some (.int .i64 t205) := (blk_cell BK207.out 2).trans rfl
                      have hfz173_0 := blk_frozen BK207.out 0
                      have hfz173_1 := blk_frozen BK207.out 1
                      have hfz173_2 := blk_frozen BK207.out 2
                      go_wp2_with (first | ((with_reducible refine gate_callee (f := 16) rfl ?_); refine goesL_ (some 72) rfl rfl Tryd.func16 (by kernel_rfl) rfl #[.agg #[.slice Ao34 t201.length co34, .int .i64 t204, .int .i64 t205], .int .i64 1] rfl (by (try simp only [List.map_toArray, List.map_cons, List.map_nil]); first | done | rfl | (simp only [List.length_drop, List.length_take]; rfl)) ?_; (with_reducible refine (laws_markGap.calls kj61 (fun k_ => some k_ = (.slice Ao34 t201.length co34 : Value).ownBlock) (.slice Ao34 t201.length co34) t201 t204 t205 1 t218 t219 w _ ?side1 ?side2 A92.out).mono ?_); (case side1 => repeat (first | (with_reducible first | exact HB.out | apply below_alloc | apply pw_below_drewN | apply below_drew1 | refine below_set ?_ GE181.out | refine below_set ?_ GE194.out | refine below_set ?_ GE200.out | refine below_set ?_ GE207.out) | exact HB.out)); (case side2 => exact Kd.R_tight rfl HO_208000.out); rintro e w174 ⟨rfl, hy0, hb, hkp⟩; refine ⟨_, rfl, ?_⟩; have n0_ := Aside0.mk (Kd.R_mono (ok' := fun k_ => some k_ ≠ (.slice Ao28 t216.length co28 : Value).ownBlock ∧ some k_ ≠ (.slice Ao34 t201.length co34 : Value).ownBlock) (Kd.R_keptB (HO_195000.out) hkp (fun k_ hk_ hs_ => (hk_.2) hs_)) (fun k_ hk_ => ⟨hk_.1.1, hk_.1.2⟩)); have n1_ := Aside0.mk (Kd.R_mono (ok' := fun k_ => some k_ ≠ (.slice Ao22 t188.length co22 : Value).ownBlock ∧ some k_ ≠ (.slice Ao34 t201.length co34 : Value).ownBlock) (Kd.R_keptB (HO_201000.out) hkp (fun k_ hk_ hs_ => (hk_.2) hs_)) (fun k_ hk_ => ⟨hk_.1.1, hk_.1.2⟩)); have n2_ := Aside0.mk (Kd.R_reok rfl hy0 (fun k_ e_ => HO_208000.out.1 k_ e_)); have n3_ := Aside0.mk (blk_kept (by (with_reducible repeat (first | refine blk_drewN ?_ _ | refine blk_drew ?_ | refine blk_alloc ?_ _)); exact BK181.out) hkp (fun hs_ => (fun e_ => (Kd.R_ne HO_208000.out BK181.out (by decide)) e_) hs_)); have n4_ := Aside0.mk (blk_kept (by (with_reducible repeat (first | refine blk_drewN ?_ _ | refine blk_drew ?_ | refine blk_alloc ?_ _)); exact BK194.out) hkp (fun hs_ => (fun e_ => (Kd.R_ne HO_208000.out BK194.out (by decide)) e_) hs_)); have n5_ := Aside0.mk (blk_kept (by (with_reducible repeat (first | refine blk_drewN ?_ _ | refine blk_drew ?_ | refine blk_alloc ?_ _)); exact BK200.out) hkp (fun hs_ => (fun e_ => (Kd.R_ne HO_208000.out BK200.out (by decide)) e_) hs_)); have n6_ := Aside0.mk (blk_kept (by (with_reducible repeat (first | refine blk_drewN ?_ _ | refine blk_drew ?_ | refine blk_alloc ?_ _)); exact BK207.out) hkp (fun hs_ => (fun e_ => (Kd.R_ne HO_208000.out BK207.out (by decide)) e_) hs_)); have n7_ := Aside0.mk (hb); clear HO_195000; clear HO_201000; clear HO_208000; clear BK181; clear BK194; clear BK200; clear BK207; clear HB; have HO_195000 := n0_; have HO_201000 := n1_; have HO_208000 := n2_; have BK181 := n3_; have BK194 := n4_; have BK200 := n5_; have BK207 := n6_; have HB := n7_; clear n0_ n1_ n2_ n3_ n4_ n5_ n6_ n7_; (try clear hb); (try clear hkp); (try clear hy0); have hcz175_0 : w174.cell? ⟨gb207, 0, none⟩ = some (.slice Ao34 t201.length co34) := (blk_cell BK207.out 0).trans rfl; have hcz175_1 : w174.cell? ⟨gb207, 1, none⟩ = some (.int .i64 t204) := (blk_cell BK207.out 1).trans rfl; have hcz175_2 : w174.cell? ⟨gb207, 2, none⟩ = some (.int .i64 t205) := (blk_cell BK207.out 2).trans rfl; have hfz175_0 := blk_frozen BK207.out 0; have hfz175_1 := blk_frozen BK207.out 1; have hfz175_2 := blk_frozen BK207.out 2) | ((with_reducible refine gate_callee (f := 21) rfl ?_); refine goesL_ (some 75) rfl rfl Tryd.func21 (by kernel_rfl) rfl #[.agg #[.slice Ao34 t219.length co34, .int .i64 t204, .int .i64 t205], .int .i64 1] rfl (by (try simp only [List.map_toArray, List.map_cons, List.map_nil]); first | done | (rw [show t219.length = t201.length from (Kd.R_reads' HO_208000.out).1.symm] <;> rfl) | rfl | (simp only [List.length_drop, List.length_take]; rfl)) ?_; (with_reducible refine (laws_heldGap.calls kj61 _ _ t219 t204 t205 1 t220 _ ?side1 ?side2 A93.out).mono ?_); (case side1 => repeat (first | exact (Kd.R_reads' HO_208000.out).2.2 | (with_reducible refine Kd.C_alloc ?_ _) | (with_reducible refine Kd.C_drewN ?_ _) | (with_reducible refine Kd.C_drew ?_))); (case side2 => rw [show t219.length = t201.length from (Kd.R_reads' HO_208000.out).1.symm]; exact (Kd.R_reads' HO_208000.out).2.1); rintro e w176 ⟨rfl, hb⟩; refine ⟨_, rfl, ?_⟩; have n0_ := Aside0.mk (Kd.R_below (by (with_reducible repeat (first | apply Kd.R_alloc | apply Kd.R_drewN | apply Kd.R_drew)); exact HO_195000.out) hb); have n1_ := Aside0.mk (Kd.R_below (by (with_reducible repeat (first | apply Kd.R_alloc | apply Kd.R_drewN | apply Kd.R_drew)); exact HO_201000.out) hb); have n2_ := Aside0.mk (Kd.R_below (by (with_reducible repeat (first | apply Kd.R_alloc | apply Kd.R_drewN | apply Kd.R_drew)); exact HO_208000.out) hb); have n3_ := Aside0.mk (blk_below (g := gb181) (o := .cells #[.slice A0_0 l0_0.length c0_0, .int .i64 a0_1, .int .i64 a0_2] 24 (0, 0)) (by (with_reducible repeat (first | refine blk_drewN ?_ _ | refine blk_drew ?_ | refine blk_alloc ?_ _)); exact BK181.out) hb); have n4_ := Aside0.mk (blk_below (g := gb194) (o := .cells #[.slice Ao22 t188.length co22, .int .i64 t191, .int .i64 t192] 28 (0, 0)) (by (with_reducible repeat (first | refine blk_drewN ?_ _ | refine blk_drew ?_ | refine blk_alloc ?_ _)); exact BK194.out) hb); have n5_ := Aside0.mk (blk_below (g := gb200) (o := .cells #[.slice Ao28 t216.length co28, .int .i64 t198, .int .i64 t199] 28 (0, 0)) (by (with_reducible repeat (first | refine blk_drewN ?_ _ | refine blk_drew ?_ | refine blk_alloc ?_ _)); exact BK200.out) hb); have n6_ := Aside0.mk (blk_below (g := gb207) (o := .cells #[.slice Ao34 t201.length co34, .int .i64 t204, .int .i64 t205] 28 (0, 0)) (by (with_reducible repeat (first | refine blk_drewN ?_ _ | refine blk_drew ?_ | refine blk_alloc ?_ _)); exact BK207.out) hb); have n7_ := Aside0.mk (below_step (by repeat (first | (with_reducible first | exact HB.out | apply below_alloc | apply pw_below_drewN | apply below_drew1 | refine below_set ?_ GE181.out | refine below_set ?_ GE194.out | refine below_set ?_ GE200.out | refine below_set ?_ GE207.out) | exact HB.out)) hb); clear HO_195000; clear HO_201000; clear HO_208000; clear BK181; clear BK194; clear BK200; clear BK207; clear HB; have HO_195000 := n0_; have HO_201000 := n1_; have HO_208000 := n2_; have BK181 := n3_; have BK194 := n4_; have BK200 := n5_; have BK207 := n6_; have HB := n7_; clear n0_ n1_ n2_ n3_ n4_ n5_ n6_ n7_; (try clear hb); (try clear hb2); (try clear hk); (try clear hi)))
                      go_ret
                      exact ⟨by first | rfl | (simp [errW_none, errW_some] <;> rfl) | (simp [*, errW_none, errW_some] <;> rfl), by repeat (first | (with_reducible first | exact HB.out | apply below_alloc | apply pw_below_drewN | apply below_drew1 | refine below_set ?_ GE181.out | refine below_set ?_ GE194.out | refine below_set ?_ GE200.out | refine below_set ?_ GE207.out) | exact HB.out)⟩
          · replace c60 := Bool.eq_false_iff.mpr c60
            subst c60
            have H1 : (some false) = some r := by rw [if_neg (show ¬ (false = true) by decide)] at H; exact H
            clear H
            have H := H1
            clear H1
            obtain rfl := Option.some.inj H
            try go_wp2
            have n0_ := Aside0.mk (Kd.R_drew HO_195000.out)
            have n1_ := Aside0.mk (Kd.R_drew HO_201000.out)
            have n2_ := Aside0.mk (Kd.R_drew HO_208000.out)
            have n3_ := Aside0.mk (blk_drew BK181.out)
            have n4_ := Aside0.mk (blk_drew BK194.out)
            have n5_ := Aside0.mk (blk_drew BK200.out)
            have n6_ := Aside0.mk (blk_drew BK207.out)
            have n7_ := Aside0.mk (below_drew1 HB.out)
            clear HO_195000
            clear HO_201000
            clear HO_208000
            clear BK181
            clear BK194
            clear BK200
            clear BK207
            clear HB
            have HO_195000 := n0_
            have HO_201000 := n1_
            have HO_208000 := n2_
            have BK181 := n3_
            have BK194 := n4_
            have BK200 := n5_
            have BK207 := n6_
            have HB := n7_
            clear n0_ n1_ n2_ n3_ n4_ n5_ n6_ n7_
            refine start_ (n := 5) (S := fun w' => w'.cell? ⟨gb200, 0, none⟩ = some (.slice Ao28 t195.length co28) ∧ w'.cell? ⟨gb200, 1, none⟩ = some (.int .i64 t198) ∧ w'.cell? ⟨gb200, 2, none⟩ = some (.int .i64 t199) ∧ w'.cell? ⟨gb181, 0, none⟩ = some (.slice A0_0 l0_0.length c0_0) ∧ w'.cell? ⟨gb181, 1, none⟩ = some (.int .i64 a0_1) ∧ w'.cell? ⟨gb181, 2, none⟩ = some (.int .i64 a0_2)) (ds := []) #[false, false, false, false, false] (by kernel_rfl) rfl rfl ⟨(blk_cell BK200.out 0).trans rfl, (blk_cell BK200.out 1).trans rfl, (blk_cell BK200.out 2).trans rfl, (blk_cell BK181.out 0).trans rfl, (blk_cell BK181.out 1).trans rfl, (blk_cell BK181.out 2).trans rfl⟩ (fun hHeld => ?_)
            generalize wc.drew = w177 at HO_195000 HO_201000 HO_208000 BK181 BK194 BK200 BK207 HB hHeld ⊢
            refine take_ (i := 0) (N := some 49) (v := ?_) (a' := ?_) #[true, false, false, false, false] rfl rfl (by kernel_rfl) (fun _ _ _ h => h) (Or.inl ⟨by rfl, ?_⟩) hHeld ?_ ?_
            rotate_left
            · rintro w' ⟨s0, s1, s2, s3, s4, s5⟩
              go_simp
              with_reducible rfl
            rotate_left
            · simp only [Act.put, List.setIfInBounds_toArray, List.set_cons_zero, List.set_cons_succ, i64_w, i32_w]
              rfl
            refine take_ (i := 1) (N := some 50) (v := ?_) (a' := ?_) #[true, true, false, false, false] rfl rfl (by kernel_rfl) (fun _ _ _ h => h) (Or.inl ⟨by rfl, ?_⟩) hHeld ?_ ?_
            rotate_left
            · rintro w' ⟨s0, s1, s2, s3, s4, s5⟩
              go_simp
              with_reducible rfl
            rotate_left
            · simp only [Act.put, List.setIfInBounds_toArray, List.set_cons_zero, List.set_cons_succ, i64_w, i32_w]
              rfl
            refine one_ (i := 2) (N := some 51) #[true, true, true, false, false] rfl rfl (by kernel_rfl) (by decide) (fun K hK => ?_)
            refine goes_ Tryd.func12 (by kernel_rfl) rfl #[.agg #[.slice A0_0 l0_0.length c0_0, .int .i64 a0_1, .int .i64 a0_2]] (by rfl) rfl rfl (by (try simp only [List.map_toArray, List.map_cons, List.map_nil]); first | done | rfl | (simp only [List.length_drop, List.length_take]; rfl)) ?_
            with_reducible refine (laws_toGap.calls kj12 _ _ l0_0 a0_1 a0_2 t209 t212 t213 _ ?side1 ?side2 A58.out).mono ?_
            (case side1 => repeat (first | exact (Kd.C_below HR0_0.out HB.out) | (with_reducible refine Kd.C_alloc ?_ _) | (with_reducible refine Kd.C_drewN ?_ _) | (with_reducible refine Kd.C_drew ?_)))
            (case side2 => exact HC0_0.out)
            rintro e w178 ⟨v210, rfl, ho0, hb⟩
            refine ⟨_, rfl, ?_⟩
            have n0_ := Aside0.mk (Kd.R_elder' (by (with_reducible repeat (first | apply Kd.R_alloc | apply Kd.R_drewN | apply Kd.R_drew)); exact HO_195000.out) (Kd.R_base ho0) hb)
            have n1_ := Aside0.mk (Kd.R_elder' (by (with_reducible repeat (first | apply Kd.R_alloc | apply Kd.R_drewN | apply Kd.R_drew)); exact HO_201000.out) (Kd.R_base ho0) hb)
            have n2_ := Aside0.mk (Kd.R_elder' (by (with_reducible repeat (first | apply Kd.R_alloc | apply Kd.R_drewN | apply Kd.R_drew)); exact HO_208000.out) (Kd.R_base ho0) hb)
            have n3_ := Aside0.mk (Kd.R_lower (Kd.R_new' (Kd.R_new' (Kd.R_new' ho0 (Kd.R_lt (by (with_reducible repeat (first | apply Kd.R_alloc | apply Kd.R_drewN | apply Kd.R_drew)); exact HO_195000.out))) (Kd.R_lt (by (with_reducible repeat (first | apply Kd.R_alloc | apply Kd.R_drewN | apply Kd.R_drew)); exact HO_201000.out))) (Kd.R_lt (by (with_reducible repeat (first | apply Kd.R_alloc | apply Kd.R_drewN | apply Kd.R_drew)); exact HO_208000.out))) (below_size (by repeat (first | (with_reducible first | exact HB.out | apply below_alloc | apply pw_below_drewN | apply below_drew1 | refine below_set ?_ GE181.out | refine below_set ?_ GE194.out | refine below_set ?_ GE200.out | refine below_set ?_ GE207.out) | exact HB.out))))
            have n4_ := Aside0.mk (blk_below (g := gb181) (o := .cells #[.slice A0_0 l0_0.length c0_0, .int .i64 a0_1, .int .i64 a0_2] 24 (0, 0)) (by (with_reducible repeat (first | refine blk_drewN ?_ _ | refine blk_drew ?_ | refine blk_alloc ?_ _)); exact BK181.out) hb)
            have n5_ := Aside0.mk (blk_below (g := gb194) (o := .cells #[.slice Ao22 t188.length co22, .int .i64 t191, .int .i64 t192] 28 (0, 0)) (by (with_reducible repeat (first | refine blk_drewN ?_ _ | refine blk_drew ?_ | refine blk_alloc ?_ _)); exact BK194.out) hb)
            have n6_ := Aside0.mk (blk_below (g := gb200) (o := .cells #[.slice Ao28 t195.length co28, .int .i64 t198, .int .i64 t199] 28 (0, 0)) (by (with_reducible repeat (first | refine blk_drewN ?_ _ | refine blk_drew ?_ | refine blk_alloc ?_ _)); exact BK200.out) hb)
            have n7_ := Aside0.mk (blk_below (g := gb207) (o := .cells #[.slice Ao34 t201.length co34, .int .i64 t204, .int .i64 t205] 28 (0, 0)) (by (with_reducible repeat (first | refine blk_drewN ?_ _ | refine blk_drew ?_ | refine blk_alloc ?_ _)); exact BK207.out) hb)
            have n8_ := Aside0.mk (below_step (by repeat (first | (with_reducible first | exact HB.out | apply below_alloc | apply pw_below_drewN | apply below_drew1 | refine below_set ?_ GE181.out | refine below_set ?_ GE194.out | refine below_set ?_ GE200.out | refine below_set ?_ GE207.out) | exact HB.out)) hb)
            clear HO_195000
            clear HO_201000
            clear HO_208000
            clear BK181
            clear BK194
            clear BK200
            clear BK207
            clear HB
            have HO_195000 := n0_
            have HO_201000 := n1_
            have HO_208000 := n2_
            have HO211 := n3_
            have BK181 := n4_
            have BK194 := n5_
            have BK200 := n6_
            have BK207 := n7_
            have HB := n8_
            clear n0_ n1_ n2_ n3_ n4_ n5_ n6_ n7_ n8_
            (try clear hb)
            (try clear hb2)
            (try clear hk)
            (try clear hi)
            (try clear ho0)
            obtain ⟨Ao179, co179, eo179⟩ := Kd.R_slice HO211.out
            (first | subst eo179 | (injection eo179 with f1_ f2_ f3_; have f4_ := f1_.symm; have f5_ := f3_.symm; clear f1_ f2_ f3_; subst f4_; subst f5_))
            refine hK.out _ _ ⟨(blk_cell BK200.out 0).trans rfl, (blk_cell BK200.out 1).trans rfl, (blk_cell BK200.out 2).trans rfl, (blk_cell BK181.out 0).trans rfl, (blk_cell BK181.out 1).trans rfl, (blk_cell BK181.out 2).trans rfl⟩ (fun hHeld => ?_)
            clear hK K
            refine norm_ (a' := ?_) ?_ ?_
            rotate_left
            · show Act.put _ (some 51) _ = _
              simp only [Act.put, List.setIfInBounds_toArray, List.set_cons_zero, List.set_cons_succ, i64_w, i32_w]
              rfl
            refine one_ (i := 3) (N := some 52) #[true, true, true, true, false] rfl rfl (by kernel_rfl) (by decide) (fun K hK => ?_)
            refine goes_ Tryd.func15 (by kernel_rfl) rfl #[.agg #[.slice Ao28 t195.length co28, .int .i64 t198, .int .i64 t199], .agg #[.slice Ao179 t209.length co179, .int .i64 t212, .int .i64 t213]] (by rfl) rfl rfl (by (try simp only [List.map_toArray, List.map_cons, List.map_nil]); first | done | rfl | (simp only [List.length_drop, List.length_take]; rfl)) ?_
            with_reducible refine (laws_eqGap.calls kj12 _ _ t195 t198 t199 _ _ t209 t212 t213 false _ ?side1 ?side2 ?side3 ?side4 A59.out).mono ?_
            (case side1 => repeat (first | exact (Kd.R_reads' HO_201000.out).2.2 | (with_reducible refine Kd.C_alloc ?_ _) | (with_reducible refine Kd.C_drewN ?_ _) | (with_reducible refine Kd.C_drew ?_)))
            (case side2 => exact (Kd.R_reads' HO_201000.out).2.1)
            (case side3 => repeat (first | exact (Kd.R_reads' HO211.out).2.2 | (with_reducible refine Kd.C_alloc ?_ _) | (with_reducible refine Kd.C_drewN ?_ _) | (with_reducible refine Kd.C_drew ?_)))
            (case side4 => exact (Kd.R_reads' HO211.out).2.1)
            rintro e w180 ⟨rfl, hb⟩
            refine ⟨_, rfl, ?_⟩
            have n0_ := Aside0.mk (Kd.R_below (by (with_reducible repeat (first | apply Kd.R_alloc | apply Kd.R_drewN | apply Kd.R_drew)); exact HO_195000.out) hb)
            have n1_ := Aside0.mk (Kd.R_below (by (with_reducible repeat (first | apply Kd.R_alloc | apply Kd.R_drewN | apply Kd.R_drew)); exact HO_201000.out) hb)
            have n2_ := Aside0.mk (Kd.R_below (by (with_reducible repeat (first | apply Kd.R_alloc | apply Kd.R_drewN | apply Kd.R_drew)); exact HO_208000.out) hb)
            have n3_ := Aside0.mk (Kd.R_below (by (with_reducible repeat (first | apply Kd.R_alloc | apply Kd.R_drewN | apply Kd.R_drew)); exact HO211.out) hb)
            have n4_ := Aside0.mk (blk_below (g := gb181) (o := .cells #[.slice A0_0 l0_0.length c0_0, .int .i64 a0_1, .int .i64 a0_2] 24 (0, 0)) (by (with_reducible repeat (first | refine blk_drewN ?_ _ | refine blk_drew ?_ | refine blk_alloc ?_ _)); exact BK181.out) hb)
            have n5_ := Aside0.mk (blk_below (g := gb194) (o := .cells #[.slice Ao22 t188.length co22, .int .i64 t191, .int .i64 t192] 28 (0, 0)) (by (with_reducible repeat (first | refine blk_drewN ?_ _ | refine blk_drew ?_ | refine blk_alloc ?_ _)); exact BK194.out) hb)
            have n6_ := Aside0.mk (blk_below (g := gb200) (o := .cells #[.slice Ao28 t195.length co28, .int .i64 t198, .int .i64 t199] 28 (0, 0)) (by (with_reducible repeat (first | refine blk_drewN ?_ _ | refine blk_drew ?_ | refine blk_alloc ?_ _)); exact BK200.out) hb)
            have n7_ := Aside0.mk (blk_below (g := gb207) (o := .cells #[.slice Ao34 t201.length co34, .int .i64 t204, .int .i64 t205] 28 (0, 0)) (by (with_reducible repeat (first | refine blk_drewN ?_ _ | refine blk_drew ?_ | refine blk_alloc ?_ _)); exact BK207.out) hb)
            have n8_ := Aside0.mk (below_step (by repeat (first | (with_reducible first | exact HB.out | apply below_alloc | apply pw_below_drewN | apply below_drew1 | refine below_set ?_ GE181.out | refine below_set ?_ GE194.out | refine below_set ?_ GE200.out | refine below_set ?_ GE207.out) | exact HB.out)) hb)
            clear HO_195000
            clear HO_201000
            clear HO_208000
            clear HO211
            clear BK181
            clear BK194
            clear BK200
            clear BK207
            clear HB
            have HO_195000 := n0_
            have HO_201000 := n1_
            have HO_208000 := n2_
            have HO211 := n3_
            have BK181 := n4_
            have BK194 := n5_
            have BK200 := n6_
            have BK207 := n7_
            have HB := n8_
            clear n0_ n1_ n2_ n3_ n4_ n5_ n6_ n7_ n8_
            (try clear hb)
            (try clear hb2)
            (try clear hk)
            (try clear hi)
            refine hK.out _ _ ⟨(blk_cell BK200.out 0).trans rfl, (blk_cell BK200.out 1).trans rfl, (blk_cell BK200.out 2).trans rfl, (blk_cell BK181.out 0).trans rfl, (blk_cell BK181.out 1).trans rfl, (blk_cell BK181.out 2).trans rfl⟩ (fun hHeld => ?_)
            clear hK K
            refine norm_ (a' := ?_) ?_ ?_
            rotate_left
            · show Act.put _ (some 52) _ = _
              simp only [Act.put, List.setIfInBounds_toArray, List.set_cons_zero, List.set_cons_succ, i64_w, i32_w]
              rfl
            refine pure_ (i := 4) (N := some 53) (v := ?_) (a' := ?_) #[true, true, true, true, true] rfl rfl (by kernel_rfl) (fun _ _ _ h => h) (Or.inl ⟨by rfl, ?_⟩) ?_ ?_
            rotate_left
            · intro w'
              go_simp
              with_reducible rfl
            rotate_left
            · simp only [Act.put, List.setIfInBounds_toArray, List.set_cons_zero, List.set_cons_succ, i64_w, i32_w]
              rfl
            refine done_ (by kernel_rfl) ?_
            try go_wp2
            go_ret
            exact ⟨by first | rfl | (simp [errW_none, errW_some] <;> rfl) | (simp [*, errW_none, errW_some] <;> rfl), by repeat (first | (with_reducible first | exact HB.out | apply below_alloc | apply pw_below_drewN | apply below_drew1 | refine below_set ?_ GE181.out | refine below_set ?_ GE194.out | refine below_set ?_ GE200.out | refine below_set ?_ GE207.out) | exact HB.out)⟩

end Go.Proofs.YtlacoameobpfgaaDoor.QFnExactGapDelete
