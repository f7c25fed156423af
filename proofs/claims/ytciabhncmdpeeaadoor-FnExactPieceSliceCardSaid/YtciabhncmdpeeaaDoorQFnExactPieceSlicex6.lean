/- What the law FnExactPieceSlice reaches: each function as a plain function, and that the machine's call does it (written by a program). The condition, where there is one: errors.errorType reads as laid. -/
import Derived.Test.YtciabhncmdpeeaaDoorQFnExactPieceSlicex0
import Derived.Test.YtciabhncmdpeeaaDoorQFnExactPieceSlicex1
import Derived.Test.YtciabhncmdpeeaaDoorQFnExactPieceSlicex3
import Derived.Test.YtciabhncmdpeeaaDoorQFnExactPieceSlicex4
import Derived.Test.YtciabhncmdpeeaaDoorQFnExactPieceSlicex5
namespace Go.Proofs.YtciabhncmdpeeaaDoor.QFnExactPieceSlice
open Go.Proofs.YtciabhncmdpeeaaDoor.Er
open Go.RowKit Go.Proofs.YtciabhncmdpeeaaDoorW.PrintWords Go.Proofs.YtciabhncmdpeeaaDoorW.PrintLast Go.Proofs.YtciabhncmdpeeaaDoorW.PrintMore
attribute [local go_sem] max2_int min2_int max_two min_two max_three min_three max_four min_four   -- for this text's walks alone
set_option linter.unusedVariables false
set_option linter.unusedSimpArgs false

/-! ### laws_FnExactPieceSlice: function 8 -/
mutual
def laws_FnExactPieceSlice.j0 : Nat → Int → Int → List Int → Int → List Int → Int → Bool → List Int → List (S128) → List Int → List (S54) → Option (Bool)
  | 0, _, _, _, _, _, _, _, _, _, _, _ => none
  | k + 1, x1, x2, x8, x9, x11, x12, x48, x221000, x221001, x239000, x239001 => if x48 = true then (some false) else ((laws_toPieceBuf.f k x221000 x221001).bind fun bt244 => ((laws_eqPieceBuf.f k x239000 x239001 bt244.1 bt244.2).bind fun t250 => (if t250 = true then ((laws_markPieceBuf.f k x239000 x239001 1).bind fun bt251 => (if bt251.1 < 0 then (laws_FnExactPieceSlice.j1 k x1 x2 x8 x9 x11 true x221000 x221001) else ((laws_eqInt32S.f k x11 x8).bind fun t254 => (if t254 = true then (laws_FnExactPieceSlice.j1 k x1 x2 x8 x9 x11 (x12 != x9) x221000 x221001) else (laws_FnExactPieceSlice.j1 k x1 x2 x8 x9 x11 true x221000 x221001))))) else (some false))))
def laws_FnExactPieceSlice.j1 : Nat → Int → Int → List Int → Int → List Int → Bool → List Int → List (S128) → Option (Bool)
  | 0, _, _, _, _, _, _, _, _ => none
  | k + 1, x1, x2, x8, x9, x11, x69, x221000, x221001 => if x69 = true then (some false) else ((laws_markInt32S.f k x11 1).bind fun bt255 => ((laws_heldInt32S.f k bt255.2 1).bind fun t257 => (if t257 < 0 then (some false) else (if t257 = bt255.1 then ((laws_toPieceBuf.f k x221000 x221001).bind fun bt258 => ((impl_PieceSlice.f bt258.1 bt258.2 x1 x2).bind fun bt264 => ((laws_eqInt32S.f k bt264.1 x8).bind fun t268 => (if t268 = true then (laws_FnExactPieceSlice.j2 k bt255.2 bt255.1 (bt264.2 != x9)) else (laws_FnExactPieceSlice.j2 k bt255.2 bt255.1 true))))) else (some false)))))
def laws_FnExactPieceSlice.j2 : Nat → List Int → Int → Bool → Option (Bool)
  | 0, _, _, _ => none
  | k + 1, x11, x14, x97 => if x97 = true then (some false) else ((laws_heldInt32S.f k x11 1).bind fun t269 => (if t269 < 0 then (some false) else (if t269 = x14 then (some true) else (some false))))
end
def laws_FnExactPieceSlice.f (k : Nat) (l0_0 : List Int) (l0_1 : List (S128)) (a1 : Int) (a2 : Int) : Option (Bool) := (laws_szPieceBuf.f l0_0 l0_1 1048576).bind fun t221 => (if t221 < 0 then (some true) else ((laws_toPieceBuf.f k l0_0 l0_1).bind fun bt222 => ((spec_PieceSlice.f k bt222.1 bt222.2 a1 a2).bind fun bt228 => ((laws_toPieceBuf.f k l0_0 l0_1).bind fun bt232 => ((impl_PieceSlice.f bt232.1 bt232.2 a1 a2).bind fun bt239 => ((laws_eqInt32S.f k bt239.1 bt228.1).bind fun t243 => (if t243 = true then (laws_FnExactPieceSlice.j0 k a1 a2 bt228.1 bt228.2 bt239.1 bt239.2 (bt239.2 != bt228.2) l0_0 l0_1 bt232.1 bt232.2) else (laws_FnExactPieceSlice.j0 k a1 a2 bt228.1 bt228.2 bt239.1 bt239.2 true l0_0 l0_1 bt232.1 bt232.2))))))))
theorem laws_FnExactPieceSlice.mono_l : ∀ k, (∀ y0 y1 y2 y3 y4 y5 y6 y7 y8 y9 y10, LeO (laws_FnExactPieceSlice.j0 k y0 y1 y2 y3 y4 y5 y6 y7 y8 y9 y10) (laws_FnExactPieceSlice.j0 (k + 1) y0 y1 y2 y3 y4 y5 y6 y7 y8 y9 y10)) ∧ (∀ y0 y1 y2 y3 y4 y5 y6 y7, LeO (laws_FnExactPieceSlice.j1 k y0 y1 y2 y3 y4 y5 y6 y7) (laws_FnExactPieceSlice.j1 (k + 1) y0 y1 y2 y3 y4 y5 y6 y7)) ∧ (∀ y0 y1 y2, LeO (laws_FnExactPieceSlice.j2 k y0 y1 y2) (laws_FnExactPieceSlice.j2 (k + 1) y0 y1 y2))
  | 0 => ⟨fun _ _ _ _ _ _ _ _ _ _ _ r h => by simp [laws_FnExactPieceSlice.j0] at h, fun _ _ _ _ _ _ _ _ r h => by simp [laws_FnExactPieceSlice.j1] at h, fun _ _ _ r h => by simp [laws_FnExactPieceSlice.j2] at h⟩
  | k + 1 => by
    obtain ⟨ih0, ih1, ih2⟩ := laws_FnExactPieceSlice.mono_l k
    refine ⟨?_, ?_, ?_⟩
    · intro y0 y1 y2 y3 y4 y5 y6 y7 y8 y9 y10
      unfold laws_FnExactPieceSlice.j0
      repeat' first
      | (with_reducible exact ih0 _ _ _ _ _ _ _ _ _ _ _)
      | (with_reducible exact ih1 _ _ _ _ _ _ _ _)
      | (with_reducible exact ih2 _ _ _)
      | (with_reducible exact laws_eqInt32S.mono _ _ _)
      | (with_reducible exact laws_eqPieceBuf.mono _ _ _ _ _)
      | (with_reducible exact laws_heldInt32S.mono _ _ _)
      | (with_reducible exact laws_markInt32S.mono _ _ _)
      | (with_reducible exact laws_markPieceBuf.mono _ _ _ _)
      | (with_reducible exact laws_toPieceBuf.mono _ _ _)
      | (with_reducible exact spec_PieceSlice.mono _ _ _ _ _)
      | (with_reducible exact LeO.refl _)
      | (with_reducible exact LeO.none _)
      | (with_reducible refine LeO.ite ?_ ?_)
      | (with_reducible refine LeO.bind ?_ (fun _ => ?_))
      | exact ih0 _ _ _ _ _ _ _ _ _ _ _
      | exact ih1 _ _ _ _ _ _ _ _
      | exact ih2 _ _ _
      | exact laws_eqInt32S.mono _ _ _
      | exact laws_eqPieceBuf.mono _ _ _ _ _
      | exact laws_heldInt32S.mono _ _ _
      | exact laws_markInt32S.mono _ _ _
      | exact laws_markPieceBuf.mono _ _ _ _
      | exact laws_toPieceBuf.mono _ _ _
      | exact spec_PieceSlice.mono _ _ _ _ _
      | exact LeO.none _
      | refine LeO.ite ?_ ?_
      | refine LeO.bind ?_ (fun _ => ?_)
    · intro y0 y1 y2 y3 y4 y5 y6 y7
      unfold laws_FnExactPieceSlice.j1
      repeat' first
      | (with_reducible exact ih0 _ _ _ _ _ _ _ _ _ _ _)
      | (with_reducible exact ih1 _ _ _ _ _ _ _ _)
      | (with_reducible exact ih2 _ _ _)
      | (with_reducible exact laws_eqInt32S.mono _ _ _)
      | (with_reducible exact laws_eqPieceBuf.mono _ _ _ _ _)
      | (with_reducible exact laws_heldInt32S.mono _ _ _)
      | (with_reducible exact laws_markInt32S.mono _ _ _)
      | (with_reducible exact laws_markPieceBuf.mono _ _ _ _)
      | (with_reducible exact laws_toPieceBuf.mono _ _ _)
      | (with_reducible exact spec_PieceSlice.mono _ _ _ _ _)
      | (with_reducible exact LeO.refl _)
      | (with_reducible exact LeO.none _)
      | (with_reducible refine LeO.ite ?_ ?_)
      | (with_reducible refine LeO.bind ?_ (fun _ => ?_))
      | exact ih0 _ _ _ _ _ _ _ _ _ _ _
      | exact ih1 _ _ _ _ _ _ _ _
      | exact ih2 _ _ _
      | exact laws_eqInt32S.mono _ _ _
      | exact laws_eqPieceBuf.mono _ _ _ _ _
      | exact laws_heldInt32S.mono _ _ _
      | exact laws_markInt32S.mono _ _ _
      | exact laws_markPieceBuf.mono _ _ _ _
      | exact laws_toPieceBuf.mono _ _ _
      | exact spec_PieceSlice.mono _ _ _ _ _
      | exact LeO.none _
      | refine LeO.ite ?_ ?_
      | refine LeO.bind ?_ (fun _ => ?_)
    · intro y0 y1 y2
      unfold laws_FnExactPieceSlice.j2
      repeat' first
      | (with_reducible exact ih0 _ _ _ _ _ _ _ _ _ _ _)
      | (with_reducible exact ih1 _ _ _ _ _ _ _ _)
      | (with_reducible exact ih2 _ _ _)
      | (with_reducible exact laws_eqInt32S.mono _ _ _)
      | (with_reducible exact laws_eqPieceBuf.mono _ _ _ _ _)
      | (with_reducible exact laws_heldInt32S.mono _ _ _)
      | (with_reducible exact laws_markInt32S.mono _ _ _)
      | (with_reducible exact laws_markPieceBuf.mono _ _ _ _)
      | (with_reducible exact laws_toPieceBuf.mono _ _ _)
      | (with_reducible exact spec_PieceSlice.mono _ _ _ _ _)
      | (with_reducible exact LeO.refl _)
      | (with_reducible exact LeO.none _)
      | (with_reducible refine LeO.ite ?_ ?_)
      | (with_reducible refine LeO.bind ?_ (fun _ => ?_))
      | exact ih0 _ _ _ _ _ _ _ _ _ _ _
      | exact ih1 _ _ _ _ _ _ _ _
      | exact ih2 _ _ _
      | exact laws_eqInt32S.mono _ _ _
      | exact laws_eqPieceBuf.mono _ _ _ _ _
      | exact laws_heldInt32S.mono _ _ _
      | exact laws_markInt32S.mono _ _ _
      | exact laws_markPieceBuf.mono _ _ _ _
      | exact laws_toPieceBuf.mono _ _ _
      | exact spec_PieceSlice.mono _ _ _ _ _
      | exact LeO.none _
      | refine LeO.ite ?_ ?_
      | refine LeO.bind ?_ (fun _ => ?_)
theorem laws_FnExactPieceSlice.mono : ∀ a0 a1 a2 a3 k, LeO (laws_FnExactPieceSlice.f k a0 a1 a2 a3) (laws_FnExactPieceSlice.f (k + 1) a0 a1 a2 a3) := by
  intro a0 a1 a2 a3 k
  obtain ⟨ih0, ih1, ih2⟩ := laws_FnExactPieceSlice.mono_l k
  unfold laws_FnExactPieceSlice.f
  repeat' first
      | (with_reducible exact ih0 _ _ _ _ _ _ _ _ _ _ _)
      | (with_reducible exact ih1 _ _ _ _ _ _ _ _)
      | (with_reducible exact ih2 _ _ _)
      | (with_reducible exact laws_eqInt32S.mono _ _ _)
      | (with_reducible exact laws_eqPieceBuf.mono _ _ _ _ _)
      | (with_reducible exact laws_heldInt32S.mono _ _ _)
      | (with_reducible exact laws_markInt32S.mono _ _ _)
      | (with_reducible exact laws_markPieceBuf.mono _ _ _ _)
      | (with_reducible exact laws_toPieceBuf.mono _ _ _)
      | (with_reducible exact spec_PieceSlice.mono _ _ _ _ _)
      | (with_reducible exact LeO.refl _)
      | (with_reducible exact LeO.none _)
      | (with_reducible refine LeO.ite ?_ ?_)
      | (with_reducible refine LeO.bind ?_ (fun _ => ?_))
      | exact ih0 _ _ _ _ _ _ _ _ _ _ _
      | exact ih1 _ _ _ _ _ _ _ _
      | exact ih2 _ _ _
      | exact laws_eqInt32S.mono _ _ _
      | exact laws_eqPieceBuf.mono _ _ _ _ _
      | exact laws_heldInt32S.mono _ _ _
      | exact laws_markInt32S.mono _ _ _
      | exact laws_markPieceBuf.mono _ _ _ _
      | exact laws_toPieceBuf.mono _ _ _
      | exact spec_PieceSlice.mono _ _ _ _ _
      | exact LeO.none _
      | refine LeO.ite ?_ ?_
      | refine LeO.bind ?_ (fun _ => ?_)
set_option maxHeartbeats 8000000 in
set_option maxRecDepth 100000 in
theorem laws_FnExactPieceSlice.calls (k : Nat) (A0_0 : Option Addr) (c0_0 : Nat) (l0_0 : List Int) (A0_1 : Option Addr) (c0_1 : Nat) (l0_1 : List (S128)) (a1 : Int) (a2 : Int) (r : Bool) (w : World) (hr0_0 : Kd.C (Kd.int .i32) w A0_0 l0_0.length l0_0) (hc0_0 : l0_0.length ≤ c0_0) (hr0_1 : Kd.C k128 w A0_1 l0_1.length l0_1) (hc0_1 : l0_1.length ≤ c0_1)  (hgG_ : HG w) (h : laws_FnExactPieceSlice.f k l0_0 l0_1 a1 a2 = some r) :
    Calls Tryd.prog 8 #[.agg #[.slice A0_0 l0_0.length c0_0, .slice A0_1 l0_1.length c0_1], .int .i64 a1, .int .i64 a2] w fun e w' => e = .returned (.bool r) ∧ Below w.heap.size w w' := by
  have hu59 := Tryd.underlying59
  have hu64 := Tryd.underlying64
  have HR0_0 := Aside0.mk hr0_0
  have HC0_0 := Aside0.mk hc0_0
  clear hr0_0 hc0_0
  have HR0_1 := Aside0.mk hr0_1
  have HC0_1 := Aside0.mk hc0_1
  clear hr0_1 hc0_1
  have HB := Aside0.mk (Below.refl w.heap.size w)
  have H : ((laws_szPieceBuf.f l0_0 l0_1 1048576).bind fun t221 => (if t221 < 0 then (some true) else ((laws_toPieceBuf.f k l0_0 l0_1).bind fun bt222 => ((spec_PieceSlice.f k bt222.1 bt222.2 a1 a2).bind fun bt228 => ((laws_toPieceBuf.f k l0_0 l0_1).bind fun bt232 => ((impl_PieceSlice.f bt232.1 bt232.2 a1 a2).bind fun bt239 => ((laws_eqInt32S.f k bt239.1 bt228.1).bind fun t243 => (if t243 = true then (laws_FnExactPieceSlice.j0 k a1 a2 bt228.1 bt228.2 bt239.1 bt239.2 (bt239.2 != bt228.2) l0_0 l0_1 bt232.1 bt232.2) else (laws_FnExactPieceSlice.j0 k a1 a2 bt228.1 bt228.2 bt239.1 bt239.2 true l0_0 l0_1 bt232.1 bt232.2))))))))) = some r := h
  clear h
  replace H := Option.bind_eq_some_iff.mp H
  obtain ⟨t221, A40, H⟩ := H
  replace H : (if t221 < 0 then (some true) else ((laws_toPieceBuf.f k l0_0 l0_1).bind fun bt222 => ((spec_PieceSlice.f k bt222.1 bt222.2 a1 a2).bind fun bt228 => ((laws_toPieceBuf.f k l0_0 l0_1).bind fun bt232 => ((impl_PieceSlice.f bt232.1 bt232.2 a1 a2).bind fun bt239 => ((laws_eqInt32S.f k bt239.1 bt228.1).bind fun t243 => (if t243 = true then (laws_FnExactPieceSlice.j0 k a1 a2 bt228.1 bt228.2 bt239.1 bt239.2 (bt239.2 != bt228.2) l0_0 l0_1 bt232.1 bt232.2) else (laws_FnExactPieceSlice.j0 k a1 a2 bt228.1 bt228.2 bt239.1 bt239.2 true l0_0 l0_1 bt232.1 bt232.2)))))))) = some r := H
  have A4 := Aside0.mk A40
  clear A40
  by_cases c5 : t221 < 0
  · rw [if_pos c5] at H
    have c5b0 : decide (t221 < 0) = true := decide_eq_true c5
    clear c5
    obtain rfl := Option.some.inj H
    go_enter Tryd.func8, Tryd.ntmps8
    go_wp2_with (first | ((with_reducible refine gate_dst (N := 3) rfl ?_); refine box_event ?hg (N := 3) ?hd (cs := #[.slice A0_0 l0_0.length c0_0, .slice A0_1 l0_1.length c0_1]) (t := 59) ?hr ?_; (case hd => rfl); (case hg => rfl); (case hr => first | (go_simp; done) | (go_simp; rfl)); intro gb220 hg w6 hbox hb; have n0_ := Aside0.mk (below_step (by repeat (first | (with_reducible first | exact HB.out | apply below_alloc | apply pw_below_drewN | apply below_drew1) | exact HB.out)) hb); have n1_ := Aside0.mk (hbox); have n2_ := Aside0.mk ((by rw [hg]; exact (below_size (by repeat (first | (with_reducible first | exact HB.out | apply below_alloc | apply pw_below_drewN | apply below_drew1) | exact HB.out))) : w.heap.size ≤ gb220)); have n3_ := Aside0.mk ((by rw [hg]; exact (below_size (by repeat (first | (with_reducible first | exact HB.out | apply below_alloc | apply pw_below_drewN | apply below_drew1) | exact HB.out))) : w.heap.size ≤ gb220)); clear HB; have HB := n0_; have BK220 := n1_; have GW220 := n2_; have GE220 := n3_; clear n0_ n1_ n2_ n3_; clear hb hbox hg; have hcz7_0 : w6.cell? ⟨gb220, 0, none⟩ = some (.slice A0_0 l0_0.length c0_0) := (blk_cell BK220.out 0).trans rfl; have hcz7_1 : w6.cell? ⟨gb220, 1, none⟩ = some (.slice A0_1 l0_1.length c0_1) := (blk_cell BK220.out 1).trans rfl; have hfz7_0 := blk_frozen BK220.out 0; have hfz7_1 := blk_frozen BK220.out 1) | ((with_reducible refine gate_callee (f := 35) rfl ?_); refine goesL_ (some 20) rfl rfl Tryd.func35 (by kernel_rfl) rfl #[.agg #[.slice A0_0 l0_0.length c0_0, .slice A0_1 l0_1.length c0_1], .int .i64 1048576] rfl (by (try simp only [List.map_toArray, List.map_cons, List.map_nil]); first | done | rfl | (simp only [List.length_drop, List.length_take]; rfl)) ?_; (with_reducible refine (laws_szPieceBuf.calls _ _ l0_0 _ _ l0_1 1048576 t221 _ ?side1 ?side2 ?side3 ?side4 A4.out).mono ?_); (case side1 => repeat (first | exact (Kd.C_below HR0_0.out HB.out) | (with_reducible refine Kd.C_alloc ?_ _) | (with_reducible refine Kd.C_drewN ?_ _) | (with_reducible refine Kd.C_drew ?_))); (case side2 => exact HC0_0.out); (case side3 => repeat (first | exact (Kd.C_below HR0_1.out HB.out) | (with_reducible refine Kd.C_alloc ?_ _) | (with_reducible refine Kd.C_drewN ?_ _) | (with_reducible refine Kd.C_drew ?_))); (case side4 => exact HC0_1.out); rintro e w8 ⟨rfl, hb⟩; refine ⟨_, rfl, ?_⟩; have n0_ := Aside0.mk (blk_below (g := gb220) (o := .cells #[.slice A0_0 l0_0.length c0_0, .slice A0_1 l0_1.length c0_1] 59 (0, 0)) (by (with_reducible repeat (first | refine blk_drewN ?_ _ | refine blk_drew ?_ | refine blk_alloc ?_ _)); exact BK220.out) hb); have n1_ := Aside0.mk (below_step (by repeat (first | (with_reducible first | exact HB.out | apply below_alloc | apply pw_below_drewN | apply below_drew1 | refine below_set ?_ GE220.out) | exact HB.out)) hb); clear BK220; clear HB; have BK220 := n0_; have HB := n1_; clear n0_ n1_; (try clear hb); (try clear hb2); (try clear hk); (try clear hi)))
    go_ret
    exact ⟨by first | rfl | (simp [errW_none, errW_some] <;> rfl) | (simp [*, errW_none, errW_some] <;> rfl), by repeat (first | (with_reducible first | exact HB.out | apply below_alloc | apply pw_below_drewN | apply below_drew1 | refine below_set ?_ GE220.out) | exact HB.out)⟩
  · rw [if_neg c5] at H
    have c5b0 : decide (t221 < 0) = false := decide_eq_false c5
    clear c5
    replace H := Option.bind_eq_some_iff.mp H
    obtain ⟨⟨t222, t225⟩, A90, H⟩ := H
    replace H : ((spec_PieceSlice.f k t222 t225 a1 a2).bind fun bt228 => ((laws_toPieceBuf.f k l0_0 l0_1).bind fun bt232 => ((impl_PieceSlice.f bt232.1 bt232.2 a1 a2).bind fun bt239 => ((laws_eqInt32S.f k bt239.1 bt228.1).bind fun t243 => (if t243 = true then (laws_FnExactPieceSlice.j0 k a1 a2 bt228.1 bt228.2 bt239.1 bt239.2 (bt239.2 != bt228.2) l0_0 l0_1 bt232.1 bt232.2) else (laws_FnExactPieceSlice.j0 k a1 a2 bt228.1 bt228.2 bt239.1 bt239.2 true l0_0 l0_1 bt232.1 bt232.2)))))) = some r := H
    have A9 := Aside0.mk A90
    clear A90
    replace H := Option.bind_eq_some_iff.mp H
    obtain ⟨⟨t228, t231⟩, A100, H⟩ := H
    replace H : ((laws_toPieceBuf.f k l0_0 l0_1).bind fun bt232 => ((impl_PieceSlice.f bt232.1 bt232.2 a1 a2).bind fun bt239 => ((laws_eqInt32S.f k bt239.1 t228).bind fun t243 => (if t243 = true then (laws_FnExactPieceSlice.j0 k a1 a2 t228 t231 bt239.1 bt239.2 (bt239.2 != t231) l0_0 l0_1 bt232.1 bt232.2) else (laws_FnExactPieceSlice.j0 k a1 a2 t228 t231 bt239.1 bt239.2 true l0_0 l0_1 bt232.1 bt232.2))))) = some r := H
    have A10 := Aside0.mk A100
    clear A100
    replace H := Option.bind_eq_some_iff.mp H
    obtain ⟨⟨t232, t235⟩, A110, H⟩ := H
    replace H : ((impl_PieceSlice.f t232 t235 a1 a2).bind fun bt239 => ((laws_eqInt32S.f k bt239.1 t228).bind fun t243 => (if t243 = true then (laws_FnExactPieceSlice.j0 k a1 a2 t228 t231 bt239.1 bt239.2 (bt239.2 != t231) l0_0 l0_1 t232 t235) else (laws_FnExactPieceSlice.j0 k a1 a2 t228 t231 bt239.1 bt239.2 true l0_0 l0_1 t232 t235)))) = some r := H
    have A11 := Aside0.mk A110
    clear A110
    replace H := Option.bind_eq_some_iff.mp H
    obtain ⟨⟨t239, t242⟩, A120, H⟩ := H
    replace H : ((laws_eqInt32S.f k t239 t228).bind fun t243 => (if t243 = true then (laws_FnExactPieceSlice.j0 k a1 a2 t228 t231 t239 t242 (t242 != t231) l0_0 l0_1 t232 t235) else (laws_FnExactPieceSlice.j0 k a1 a2 t228 t231 t239 t242 true l0_0 l0_1 t232 t235))) = some r := H
    have A12 := Aside0.mk A120
    clear A120
    have HC13 := Aside0.mk H
    clear H
    go_enter Tryd.func8, Tryd.ntmps8
    go_upto_region 8 with (first | ((with_reducible refine gate_dst (N := 3) rfl ?_); refine box_event ?hg (N := 3) ?hd (cs := #[.slice A0_0 l0_0.length c0_0, .slice A0_1 l0_1.length c0_1]) (t := 59) ?hr ?_; (case hd => rfl); (case hg => rfl); (case hr => first | (go_simp; done) | (go_simp; rfl)); intro gb220 hg w14 hbox hb; have n0_ := Aside0.mk (below_step (by repeat (first | (with_reducible first | exact HB.out | apply below_alloc | apply pw_below_drewN | apply below_drew1) | exact HB.out)) hb); have n1_ := Aside0.mk (hbox); have n2_ := Aside0.mk ((by rw [hg]; exact (below_size (by repeat (first | (with_reducible first | exact HB.out | apply below_alloc | apply pw_below_drewN | apply below_drew1) | exact HB.out))) : w.heap.size ≤ gb220)); have n3_ := Aside0.mk ((by rw [hg]; exact (below_size (by repeat (first | (with_reducible first | exact HB.out | apply below_alloc | apply pw_below_drewN | apply below_drew1) | exact HB.out))) : w.heap.size ≤ gb220)); clear HB; have HB := n0_; have BK220 := n1_; have GW220 := n2_; have GE220 := n3_; clear n0_ n1_ n2_ n3_; clear hb hbox hg; have hcz15_0 : w14.cell? ⟨gb220, 0, none⟩ = some (.slice A0_0 l0_0.length c0_0) := (blk_cell BK220.out 0).trans rfl; have hcz15_1 : w14.cell? ⟨gb220, 1, none⟩ = some (.slice A0_1 l0_1.length c0_1) := (blk_cell BK220.out 1).trans rfl; have hfz15_0 := blk_frozen BK220.out 0; have hfz15_1 := blk_frozen BK220.out 1) | ((with_reducible refine gate_callee (f := 35) rfl ?_); refine goesL_ (some 20) rfl rfl Tryd.func35 (by kernel_rfl) rfl #[.agg #[.slice A0_0 l0_0.length c0_0, .slice A0_1 l0_1.length c0_1], .int .i64 1048576] rfl (by (try simp only [List.map_toArray, List.map_cons, List.map_nil]); first | done | rfl | (simp only [List.length_drop, List.length_take]; rfl)) ?_; (with_reducible refine (laws_szPieceBuf.calls _ _ l0_0 _ _ l0_1 1048576 t221 _ ?side1 ?side2 ?side3 ?side4 A4.out).mono ?_); (case side1 => repeat (first | exact (Kd.C_below HR0_0.out HB.out) | (with_reducible refine Kd.C_alloc ?_ _) | (with_reducible refine Kd.C_drewN ?_ _) | (with_reducible refine Kd.C_drew ?_))); (case side2 => exact HC0_0.out); (case side3 => repeat (first | exact (Kd.C_below HR0_1.out HB.out) | (with_reducible refine Kd.C_alloc ?_ _) | (with_reducible refine Kd.C_drewN ?_ _) | (with_reducible refine Kd.C_drew ?_))); (case side4 => exact HC0_1.out); rintro e w16 ⟨rfl, hb⟩; refine ⟨_, rfl, ?_⟩; have n0_ := Aside0.mk (blk_below (g := gb220) (o := .cells #[.slice A0_0 l0_0.length c0_0, .slice A0_1 l0_1.length c0_1] 59 (0, 0)) (by (with_reducible repeat (first | refine blk_drewN ?_ _ | refine blk_drew ?_ | refine blk_alloc ?_ _)); exact BK220.out) hb); have n1_ := Aside0.mk (below_step (by repeat (first | (with_reducible first | exact HB.out | apply below_alloc | apply pw_below_drewN | apply below_drew1 | refine below_set ?_ GE220.out) | exact HB.out)) hb); clear BK220; clear HB; have BK220 := n0_; have HB := n1_; clear n0_ n1_; (try clear hb); (try clear hb2); (try clear hk); (try clear hi); have hcz17_0 : w16.cell? ⟨gb220, 0, none⟩ = some (.slice A0_0 l0_0.length c0_0) := (blk_cell BK220.out 0).trans rfl; have hcz17_1 : w16.cell? ⟨gb220, 1, none⟩ = some (.slice A0_1 l0_1.length c0_1) := (blk_cell BK220.out 1).trans rfl; have hfz17_0 := blk_frozen BK220.out 0; have hfz17_1 := blk_frozen BK220.out 1) | ((with_reducible refine gate_callee (f := 37) rfl ?_); refine goesL_ (some 25) rfl rfl Tryd.func37 (by kernel_rfl) rfl #[.agg #[.slice A0_0 l0_0.length c0_0, .slice A0_1 l0_1.length c0_1]] rfl (by (try simp only [List.map_toArray, List.map_cons, List.map_nil]); first | done | rfl | (simp only [List.length_drop, List.length_take]; rfl)) ?_; (with_reducible refine (laws_toPieceBuf.calls k _ _ l0_0 _ _ l0_1 t222 t225 _ ?side1 ?side2 ?side3 ?side4 A9.out).mono ?_); (case side1 => repeat (first | exact (Kd.C_below HR0_0.out HB.out) | (with_reducible refine Kd.C_alloc ?_ _) | (with_reducible refine Kd.C_drewN ?_ _) | (with_reducible refine Kd.C_drew ?_))); (case side2 => exact HC0_0.out); (case side3 => repeat (first | exact (Kd.C_below HR0_1.out HB.out) | (with_reducible refine Kd.C_alloc ?_ _) | (with_reducible refine Kd.C_drewN ?_ _) | (with_reducible refine Kd.C_drew ?_))); (case side4 => exact HC0_1.out); rintro e w18 ⟨v223, v226, rfl, ho0, ho1, hb⟩; refine ⟨_, rfl, ?_⟩; have n0_ := Aside0.mk (Kd.R_lower ho0 (below_size (by repeat (first | (with_reducible first | exact HB.out | apply below_alloc | apply pw_below_drewN | apply below_drew1 | refine below_set ?_ GE220.out) | exact HB.out)))); have n1_ := Aside0.mk (Kd.R_lower ho1 (below_size (by repeat (first | (with_reducible first | exact HB.out | apply below_alloc | apply pw_below_drewN | apply below_drew1 | refine below_set ?_ GE220.out) | exact HB.out)))); have n2_ := Aside0.mk (blk_below (g := gb220) (o := .cells #[.slice A0_0 l0_0.length c0_0, .slice A0_1 l0_1.length c0_1] 59 (0, 0)) (by (with_reducible repeat (first | refine blk_drewN ?_ _ | refine blk_drew ?_ | refine blk_alloc ?_ _)); exact BK220.out) hb); have n3_ := Aside0.mk (below_step (by repeat (first | (with_reducible first | exact HB.out | apply below_alloc | apply pw_below_drewN | apply below_drew1 | refine below_set ?_ GE220.out) | exact HB.out)) hb); clear BK220; clear HB; have HO224 := n0_; have HO227 := n1_; have BK220 := n2_; have HB := n3_; clear n0_ n1_ n2_ n3_; (try clear hb); (try clear hb2); (try clear hk); (try clear hi); (try clear ho0); (try clear ho1); obtain ⟨Ao19, co19, eo19⟩ := Kd.R_slice HO224.out; subst eo19; obtain ⟨Ao20, co20, eo20⟩ := Kd.R_slice HO227.out; subst eo20) | ((with_reducible refine gate_callee (f := 36) rfl ?_); refine goesL_ (some 28) rfl rfl Tryd.func36 (by kernel_rfl) rfl #[.agg #[.slice Ao19 t222.length co19, .slice Ao20 t225.length co20], .int .i64 a1, .int .i64 a2] rfl (by (try simp only [List.map_toArray, List.map_cons, List.map_nil]); first | done | rfl | (simp only [List.length_drop, List.length_take]; rfl)) ?_; (with_reducible refine (spec_PieceSlice.calls k _ _ t222 _ _ t225 a1 a2 t228 t231 _ ?side1 ?side2 ?side3 ?side4 A10.out).mono ?_); (case side1 => repeat (first | exact (Kd.R_reads' HO224.out).2.2 | (with_reducible refine Kd.C_alloc ?_ _) | (with_reducible refine Kd.C_drewN ?_ _) | (with_reducible refine Kd.C_drew ?_))); (case side2 => exact (Kd.R_reads' HO224.out).2.1); (case side3 => repeat (first | exact (Kd.R_reads' HO227.out).2.2 | (with_reducible refine Kd.C_alloc ?_ _) | (with_reducible refine Kd.C_drewN ?_ _) | (with_reducible refine Kd.C_drew ?_))); (case side4 => exact (Kd.R_reads' HO227.out).2.1); rintro e w21 ⟨v229, rfl, ho0, hb⟩; refine ⟨_, rfl, ?_⟩; have n0_ := Aside0.mk (Kd.R_elder' (by (with_reducible repeat (first | apply Kd.R_alloc | apply Kd.R_drewN | apply Kd.R_drew)); exact HO224.out) (Kd.R_base ho0) hb); have n1_ := Aside0.mk (Kd.R_below (by (with_reducible repeat (first | apply Kd.R_alloc | apply Kd.R_drewN | apply Kd.R_drew)); exact HO227.out) hb); have n2_ := Aside0.mk (Kd.R_lower (Kd.R_new' ho0 (Kd.R_lt (by (with_reducible repeat (first | apply Kd.R_alloc | apply Kd.R_drewN | apply Kd.R_drew)); exact HO224.out))) (below_size (by repeat (first | (with_reducible first | exact HB.out | apply below_alloc | apply pw_below_drewN | apply below_drew1 | refine below_set ?_ GE220.out) | exact HB.out)))); have n3_ := Aside0.mk (blk_below (g := gb220) (o := .cells #[.slice A0_0 l0_0.length c0_0, .slice A0_1 l0_1.length c0_1] 59 (0, 0)) (by (with_reducible repeat (first | refine blk_drewN ?_ _ | refine blk_drew ?_ | refine blk_alloc ?_ _)); exact BK220.out) hb); have n4_ := Aside0.mk (below_step (by repeat (first | (with_reducible first | exact HB.out | apply below_alloc | apply pw_below_drewN | apply below_drew1 | refine below_set ?_ GE220.out) | exact HB.out)) hb); clear HO224; clear HO227; clear BK220; clear HB; have HO224 := n0_; have HO227 := n1_; have HO230 := n2_; have BK220 := n3_; have HB := n4_; clear n0_ n1_ n2_ n3_ n4_; (try clear hb); (try clear hb2); (try clear hk); (try clear hi); (try clear ho0); have hcz22_0 : w21.cell? ⟨gb220, 0, none⟩ = some (.slice A0_0 l0_0.length c0_0) := (blk_cell BK220.out 0).trans rfl; have hcz22_1 : w21.cell? ⟨gb220, 1, none⟩ = some (.slice A0_1 l0_1.length c0_1) := (blk_cell BK220.out 1).trans rfl; have hfz22_0 := blk_frozen BK220.out 0; have hfz22_1 := blk_frozen BK220.out 1) | ((with_reducible refine gate_callee (f := 37) rfl ?_); refine goesL_ (some 32) rfl rfl Tryd.func37 (by kernel_rfl) rfl #[.agg #[.slice A0_0 l0_0.length c0_0, .slice A0_1 l0_1.length c0_1]] rfl (by (try simp only [List.map_toArray, List.map_cons, List.map_nil]); first | done | rfl | (simp only [List.length_drop, List.length_take]; rfl)) ?_; (with_reducible refine (laws_toPieceBuf.calls k _ _ l0_0 _ _ l0_1 t232 t235 _ ?side1 ?side2 ?side3 ?side4 A11.out).mono ?_); (case side1 => repeat (first | exact (Kd.C_below HR0_0.out HB.out) | (with_reducible refine Kd.C_alloc ?_ _) | (with_reducible refine Kd.C_drewN ?_ _) | (with_reducible refine Kd.C_drew ?_))); (case side2 => exact HC0_0.out); (case side3 => repeat (first | exact (Kd.C_below HR0_1.out HB.out) | (with_reducible refine Kd.C_alloc ?_ _) | (with_reducible refine Kd.C_drewN ?_ _) | (with_reducible refine Kd.C_drew ?_))); (case side4 => exact HC0_1.out); rintro e w23 ⟨v233, v236, rfl, ho0, ho1, hb⟩; refine ⟨_, rfl, ?_⟩; have n0_ := Aside0.mk (Kd.R_elder' (by (with_reducible repeat (first | apply Kd.R_alloc | apply Kd.R_drewN | apply Kd.R_drew)); exact HO224.out) (Kd.R_base ho0) hb); have n1_ := Aside0.mk (Kd.R_elder' (by (with_reducible repeat (first | apply Kd.R_alloc | apply Kd.R_drewN | apply Kd.R_drew)); exact HO227.out) (Kd.R_base ho1) hb); have n2_ := Aside0.mk (Kd.R_elder' (by (with_reducible repeat (first | apply Kd.R_alloc | apply Kd.R_drewN | apply Kd.R_drew)); exact HO230.out) (Kd.R_base ho0) hb); have n3_ := Aside0.mk (Kd.R_lower (Kd.R_new' (Kd.R_new' ho0 (Kd.R_lt (by (with_reducible repeat (first | apply Kd.R_alloc | apply Kd.R_drewN | apply Kd.R_drew)); exact HO224.out))) (Kd.R_lt (by (with_reducible repeat (first | apply Kd.R_alloc | apply Kd.R_drewN | apply Kd.R_drew)); exact HO230.out))) (below_size (by repeat (first | (with_reducible first | exact HB.out | apply below_alloc | apply pw_below_drewN | apply below_drew1 | refine below_set ?_ GE220.out) | exact HB.out)))); have n4_ := Aside0.mk (Kd.R_lower (Kd.R_new' ho1 (Kd.R_lt (by (with_reducible repeat (first | apply Kd.R_alloc | apply Kd.R_drewN | apply Kd.R_drew)); exact HO227.out))) (below_size (by repeat (first | (with_reducible first | exact HB.out | apply below_alloc | apply pw_below_drewN | apply below_drew1 | refine below_set ?_ GE220.out) | exact HB.out)))); have n5_ := Aside0.mk (blk_below (g := gb220) (o := .cells #[.slice A0_0 l0_0.length c0_0, .slice A0_1 l0_1.length c0_1] 59 (0, 0)) (by (with_reducible repeat (first | refine blk_drewN ?_ _ | refine blk_drew ?_ | refine blk_alloc ?_ _)); exact BK220.out) hb); have n6_ := Aside0.mk (below_step (by repeat (first | (with_reducible first | exact HB.out | apply below_alloc | apply pw_below_drewN | apply below_drew1 | refine below_set ?_ GE220.out) | exact HB.out)) hb); clear HO224; clear HO227; clear HO230; clear BK220; clear HB; have HO224 := n0_; have HO227 := n1_; have HO230 := n2_; have HO234 := n3_; have HO237 := n4_; have BK220 := n5_; have HB := n6_; clear n0_ n1_ n2_ n3_ n4_ n5_ n6_; (try clear hb); (try clear hb2); (try clear hk); (try clear hi); (try clear ho0); (try clear ho1)) | ((with_reducible refine gate_dst (N := 10) rfl ?_); refine box_event ?hg (N := 10) ?hd (cs := #[.slice none 0 0, .slice none 0 0]) (t := 64) ?hr ?_; (case hd => rfl); (case hg => rfl); (case hr => first | (go_simp; done) | (go_simp; rfl)); intro gb238 hg w24 hbox hb; have n0_ := Aside0.mk (Kd.R_below (by (with_reducible repeat (first | apply Kd.R_alloc | apply Kd.R_drewN | apply Kd.R_drew)); exact HO224.out) hb); have n1_ := Aside0.mk (Kd.R_below (by (with_reducible repeat (first | apply Kd.R_alloc | apply Kd.R_drewN | apply Kd.R_drew)); exact HO227.out) hb); have n2_ := Aside0.mk (Kd.R_below (by (with_reducible repeat (first | apply Kd.R_alloc | apply Kd.R_drewN | apply Kd.R_drew)); exact HO230.out) hb); have n3_ := Aside0.mk (Kd.R_below (by (with_reducible repeat (first | apply Kd.R_alloc | apply Kd.R_drewN | apply Kd.R_drew)); exact HO234.out) hb); have n4_ := Aside0.mk (Kd.R_below (by (with_reducible repeat (first | apply Kd.R_alloc | apply Kd.R_drewN | apply Kd.R_drew)); exact HO237.out) hb); have n5_ := Aside0.mk (blk_below (g := gb220) (o := .cells #[.slice A0_0 l0_0.length c0_0, .slice A0_1 l0_1.length c0_1] 59 (0, 0)) (by (with_reducible repeat (first | refine blk_drewN ?_ _ | refine blk_drew ?_ | refine blk_alloc ?_ _)); exact BK220.out) hb); have n6_ := Aside0.mk (below_step (by repeat (first | (with_reducible first | exact HB.out | apply below_alloc | apply pw_below_drewN | apply below_drew1 | refine below_set ?_ GE220.out) | exact HB.out)) hb); have n7_ := Aside0.mk (hbox); have n8_ := Aside0.mk ((by rw [hg]; exact (below_size (by repeat (first | (with_reducible first | exact HB.out | apply below_alloc | apply pw_below_drewN | apply below_drew1 | refine below_set ?_ GE220.out) | exact HB.out))) : w.heap.size ≤ gb238)); have n9_ := Aside0.mk ((by rw [hg]; exact (below_size (by repeat (first | (with_reducible first | exact HB.out | apply below_alloc | apply pw_below_drewN | apply below_drew1 | refine below_set ?_ GE220.out) | exact HB.out))) : w.heap.size ≤ gb238)); have n10_ := Aside0.mk ((by rw [hg]; exact Nat.ne_of_lt (blk_lt (g := gb220) (o := .cells #[.slice A0_0 l0_0.length c0_0, .slice A0_1 l0_1.length c0_1] 59 (0, 0)) (by (with_reducible repeat (first | refine blk_drewN ?_ _ | refine blk_drew ?_ | refine blk_alloc ?_ _)); exact BK220.out)) : gb220 ≠ gb238)); have n11_ := Aside0.mk ((by rw [hg]; exact Nat.ne_of_gt (blk_lt (g := gb220) (o := .cells #[.slice A0_0 l0_0.length c0_0, .slice A0_1 l0_1.length c0_1] 59 (0, 0)) (by (with_reducible repeat (first | refine blk_drewN ?_ _ | refine blk_drew ?_ | refine blk_alloc ?_ _)); exact BK220.out)) : gb238 ≠ gb220)); clear HO224; clear HO227; clear HO230; clear HO234; clear HO237; clear BK220; clear HB; have HO224 := n0_; have HO227 := n1_; have HO230 := n2_; have HO234 := n3_; have HO237 := n4_; have BK220 := n5_; have HB := n6_; have BK238 := n7_; have GW238 := n8_; have GE238 := n9_; have NB220_238 := n10_; have NB238_220 := n11_; clear n0_ n1_ n2_ n3_ n4_ n5_ n6_ n7_ n8_ n9_ n10_ n11_; clear hb hbox hg; obtain ⟨Ao25, co25, eo25⟩ := Kd.R_slice HO234.out; subst eo25; have hnb26 := NB238_220.out; have hnc26 := NB220_238.out; have hcz27_0 : w24.cell? ⟨gb238, 0, none⟩ = some (.slice none 0 0) := (blk_cell BK238.out 0).trans rfl; have hcz27_1 : w24.cell? ⟨gb238, 1, none⟩ = some (.slice none 0 0) := (blk_cell BK238.out 1).trans rfl; have hfz27_0 := blk_frozen BK238.out 0; have hfz27_1 := blk_frozen BK238.out 1; obtain ⟨Ao28, co28, eo28⟩ := Kd.R_slice HO237.out; subst eo28) | ((with_reducible refine gate_callee (f := 38) rfl ?_); refine goesL_ (some 37) rfl rfl Tryd.func38 (by kernel_rfl) rfl #[.agg #[.slice Ao25 t232.length co25, .slice Ao28 t235.length co28], .int .i64 a1, .int .i64 a2] rfl (by (try simp only [List.map_toArray, List.map_cons, List.map_nil]); first | done | rfl | (simp only [List.length_drop, List.length_take]; rfl)) ?_; (with_reducible refine (impl_PieceSlice.calls _ _ t232 _ _ t235 a1 a2 t239 t242 _ ?side1 ?side2 ?side3 ?side4 ?side5 A12.out).mono ?_); (case side1 => refine (Kd.R_reads' (e := 21) (base := w.heap.size) (ok := fun k_ => ((True ∧ some k_ ≠ (.slice Ao19 t222.length co19 : Value).ownBlock) ∧ some k_ ≠ (v229 : Value).ownBlock)) (n := t232.length) (c := co25) ?_).2.2; exact (by (with_reducible repeat (first | apply Kd.R_alloc | apply Kd.R_drewN | apply Kd.R_drew)); exact (Kd.R_mono (Kd.R_far (p := ⟨gb238, 1, none⟩) (Kd.R_far (p := ⟨gb238, 0, none⟩) (Kd.R_types HO234.out BK238.out (by decide)) (fun _ hk => hk.2) (.slice Ao25 t232.length co25)) (fun _ hk => hk.2) (.slice Ao28 t235.length co28)) (fun _ h_ => h_.1)))); (case side2 => exact (Kd.R_reads' HO234.out).2.1); (case side3 => refine (Kd.R_reads' (e := 54) (base := w.heap.size) (ok := fun k_ => (True ∧ some k_ ≠ (.slice Ao20 t225.length co20 : Value).ownBlock)) (n := t235.length) (c := co28) ?_).2.2; exact (by (with_reducible repeat (first | apply Kd.R_alloc | apply Kd.R_drewN | apply Kd.R_drew)); exact (Kd.R_mono (Kd.R_far (p := ⟨gb238, 1, none⟩) (Kd.R_far (p := ⟨gb238, 0, none⟩) (Kd.R_types HO237.out BK238.out (by decide)) (fun _ hk => hk.2) (.slice Ao25 t232.length co25)) (fun _ hk => hk.2) (.slice Ao28 t235.length co28)) (fun _ h_ => h_.1)))); (case side4 => exact (Kd.R_reads' HO237.out).2.1); (case side5 => exact HG.below hgG_ (by repeat (first | (with_reducible first | exact HB.out | apply below_alloc | apply pw_below_drewN | apply below_drew1 | refine below_set ?_ GE220.out | refine below_set ?_ GE238.out) | exact HB.out))); rintro e w29 ⟨v240, rfl, ho0, hb⟩; refine ⟨_, rfl, ?_⟩; have n0_ := Aside0.mk (Kd.R_elder' (by (with_reducible repeat (first | apply Kd.R_alloc | apply Kd.R_drewN | apply Kd.R_drew)); exact (Kd.R_mono (Kd.R_far (p := ⟨gb238, 1, none⟩) (Kd.R_far (p := ⟨gb238, 0, none⟩) (Kd.R_types HO224.out BK238.out (by decide)) (fun _ hk => hk.2) (.slice Ao25 t232.length co25)) (fun _ hk => hk.2) (.slice Ao28 t235.length co28)) (fun _ h_ => h_.1))) (Kd.R_base ho0) hb); have n1_ := Aside0.mk (Kd.R_below (by (with_reducible repeat (first | apply Kd.R_alloc | apply Kd.R_drewN | apply Kd.R_drew)); exact (Kd.R_mono (Kd.R_far (p := ⟨gb238, 1, none⟩) (Kd.R_far (p := ⟨gb238, 0, none⟩) (Kd.R_types HO227.out BK238.out (by decide)) (fun _ hk => hk.2) (.slice Ao25 t232.length co25)) (fun _ hk => hk.2) (.slice Ao28 t235.length co28)) (fun _ h_ => h_.1))) hb); have n2_ := Aside0.mk (Kd.R_elder' (by (with_reducible repeat (first | apply Kd.R_alloc | apply Kd.R_drewN | apply Kd.R_drew)); exact (Kd.R_mono (Kd.R_far (p := ⟨gb238, 1, none⟩) (Kd.R_far (p := ⟨gb238, 0, none⟩) (Kd.R_types HO230.out BK238.out (by decide)) (fun _ hk => hk.2) (.slice Ao25 t232.length co25)) (fun _ hk => hk.2) (.slice Ao28 t235.length co28)) (fun _ h_ => h_.1))) (Kd.R_base ho0) hb); have n3_ := Aside0.mk (Kd.R_elder' (by (with_reducible repeat (first | apply Kd.R_alloc | apply Kd.R_drewN | apply Kd.R_drew)); exact (Kd.R_mono (Kd.R_far (p := ⟨gb238, 1, none⟩) (Kd.R_far (p := ⟨gb238, 0, none⟩) (Kd.R_types HO234.out BK238.out (by decide)) (fun _ hk => hk.2) (.slice Ao25 t232.length co25)) (fun _ hk => hk.2) (.slice Ao28 t235.length co28)) (fun _ h_ => h_.1))) (Kd.R_base ho0) hb); have n4_ := Aside0.mk (Kd.R_below (by (with_reducible repeat (first | apply Kd.R_alloc | apply Kd.R_drewN | apply Kd.R_drew)); exact (Kd.R_mono (Kd.R_far (p := ⟨gb238, 1, none⟩) (Kd.R_far (p := ⟨gb238, 0, none⟩) (Kd.R_types HO237.out BK238.out (by decide)) (fun _ hk => hk.2) (.slice Ao25 t232.length co25)) (fun _ hk => hk.2) (.slice Ao28 t235.length co28)) (fun _ h_ => h_.1))) hb); have n5_ := Aside0.mk (Kd.R_lower (Kd.R_new' (Kd.R_new' (Kd.R_new' ho0 (Kd.R_lt (by (with_reducible repeat (first | apply Kd.R_alloc | apply Kd.R_drewN | apply Kd.R_drew)); exact (Kd.R_mono (Kd.R_far (p := ⟨gb238, 1, none⟩) (Kd.R_far (p := ⟨gb238, 0, none⟩) (Kd.R_types HO224.out BK238.out (by decide)) (fun _ hk => hk.2) (.slice Ao25 t232.length co25)) (fun _ hk => hk.2) (.slice Ao28 t235.length co28)) (fun _ h_ => h_.1))))) (Kd.R_lt (by (with_reducible repeat (first | apply Kd.R_alloc | apply Kd.R_drewN | apply Kd.R_drew)); exact (Kd.R_mono (Kd.R_far (p := ⟨gb238, 1, none⟩) (Kd.R_far (p := ⟨gb238, 0, none⟩) (Kd.R_types HO230.out BK238.out (by decide)) (fun _ hk => hk.2) (.slice Ao25 t232.length co25)) (fun _ hk => hk.2) (.slice Ao28 t235.length co28)) (fun _ h_ => h_.1))))) (Kd.R_lt (by (with_reducible repeat (first | apply Kd.R_alloc | apply Kd.R_drewN | apply Kd.R_drew)); exact (Kd.R_mono (Kd.R_far (p := ⟨gb238, 1, none⟩) (Kd.R_far (p := ⟨gb238, 0, none⟩) (Kd.R_types HO234.out BK238.out (by decide)) (fun _ hk => hk.2) (.slice Ao25 t232.length co25)) (fun _ hk => hk.2) (.slice Ao28 t235.length co28)) (fun _ h_ => h_.1))))) (below_size (by repeat (first | (with_reducible first | exact HB.out | apply below_alloc | apply pw_below_drewN | apply below_drew1 | refine below_set ?_ GE220.out | refine below_set ?_ GE238.out) | exact HB.out)))); have n6_ := Aside0.mk (blk_below (g := gb220) (o := .cells #[.slice A0_0 l0_0.length c0_0, .slice A0_1 l0_1.length c0_1] 59 (0, 0)) (by (with_reducible repeat (first | refine blk_drewN ?_ _ | refine blk_drew ?_ | refine blk_alloc ?_ _)); refine blk_far ?_ NB220_238.out _; (with_reducible repeat (first | refine blk_drewN ?_ _ | refine blk_drew ?_ | refine blk_alloc ?_ _)); refine blk_far ?_ NB220_238.out _; (with_reducible repeat (first | refine blk_drewN ?_ _ | refine blk_drew ?_ | refine blk_alloc ?_ _)); exact BK220.out) hb); have n7_ := Aside0.mk (blk_below (g := gb238) (o := .cells #[.slice Ao25 t232.length co25, .slice Ao28 t235.length co28] 64 (0, 0)) (by (with_reducible repeat (first | refine blk_drewN ?_ _ | refine blk_drew ?_ | refine blk_alloc ?_ _)); refine blk_put (cs := #[.slice Ao25 t232.length co25, .slice none 0 0]) ?_ 1 _ rfl; (with_reducible repeat (first | refine blk_drewN ?_ _ | refine blk_drew ?_ | refine blk_alloc ?_ _)); refine blk_put (cs := #[.slice none 0 0, .slice none 0 0]) ?_ 0 _ rfl; (with_reducible repeat (first | refine blk_drewN ?_ _ | refine blk_drew ?_ | refine blk_alloc ?_ _)); exact BK238.out) hb); have n8_ := Aside0.mk (below_step (by repeat (first | (with_reducible first | exact HB.out | apply below_alloc | apply pw_below_drewN | apply below_drew1 | refine below_set ?_ GE220.out | refine below_set ?_ GE238.out) | exact HB.out)) hb); clear HO224; clear HO227; clear HO230; clear HO234; clear HO237; clear BK220; clear BK238; clear HB; have HO224 := n0_; have HO227 := n1_; have HO230 := n2_; have HO234 := n3_; have HO237 := n4_; have HO241 := n5_; have BK220 := n6_; have BK238 := n7_; have HB := n8_; clear n0_ n1_ n2_ n3_ n4_ n5_ n6_ n7_ n8_; (try clear hb); (try clear hb2); (try clear hk); (try clear hi); (try clear ho0)))
    (try simp only [Act.put, List.setIfInBounds_toArray, List.set_cons_zero, List.set_cons_succ])
    go_cut [48] (fun v48 wc => ∃ (kq : Nat) (x48_12 : Bool), v48 = .bool x48_12 ∧ Aside0 (laws_FnExactPieceSlice.j0 kq a1 a2 t228 t231 t239 t242 x48_12 l0_0 l0_1 t232 t235 = some r) ∧ Aside0 (kq ≤ k) ∧ Aside0 (Kd.R (Kd.int .i32) 21 wc w.heap.size (fun k_ => some k_ ≠ (v240 : Value).ownBlock ∧ some k_ ≠ ((.slice Ao25 t232.length co25) : Value).ownBlock) v229 t228) ∧ Aside0 (Kd.R (Kd.int .i32) 21 wc w.heap.size (fun k_ => some k_ ≠ (v229 : Value).ownBlock ∧ some k_ ≠ ((.slice Ao25 t232.length co25) : Value).ownBlock) v240 t239) ∧ Aside0 (Kd.R (Kd.int .i32) 21 wc w.heap.size (fun k_ => some k_ ≠ (v229 : Value).ownBlock ∧ some k_ ≠ (v240 : Value).ownBlock) (.slice Ao25 t232.length co25) t232) ∧ Aside0 (Kd.R k54 54 wc w.heap.size (fun _ => True) (.slice Ao28 t235.length co28) t235) ∧ Aside0 (wc.heap[gb220]? = some (.cells #[(.slice A0_0 l0_0.length c0_0), (.slice A0_1 l0_1.length c0_1)] 59 (0, 0))) ∧ Aside0 (wc.heap[gb238]? = some (.cells #[(.slice Ao25 t232.length co25), (.slice Ao28 t235.length co28)] 64 (0, 0))) ∧ Aside0 (Below w.heap.size w wc))
    case first =>
      have H := HC13.out
      clear HC13
      replace H := Option.bind_eq_some_iff.mp H
      obtain ⟨t243, A300, H⟩ := H
      replace H : (if t243 = true then (laws_FnExactPieceSlice.j0 k a1 a2 t228 t231 t239 t242 (t242 != t231) l0_0 l0_1 t232 t235) else (laws_FnExactPieceSlice.j0 k a1 a2 t228 t231 t239 t242 true l0_0 l0_1 t232 t235)) = some r := H
      have A30 := Aside0.mk A300
      clear A300
      by_cases c31 : t243 = true
      · subst c31
        have H1 : (laws_FnExactPieceSlice.j0 k a1 a2 t228 t231 t239 t242 (t242 != t231) l0_0 l0_1 t232 t235) = some r := by rw [if_pos rfl] at H; exact H
        clear H
        have H := H1
        clear H1
        have H' := Aside0.mk H
        clear H
        obtain ⟨Ao32, co32, eo32⟩ := Kd.R_slice HO241.out
        subst eo32
        obtain ⟨Ao33, co33, eo33⟩ := Kd.R_slice HO230.out
        subst eo33
        go_wp2_with (first | ((with_reducible refine gate_callee (f := 39) rfl ?_); refine goesL_ (some 42) rfl rfl Tryd.func39 (by kernel_rfl) rfl #[.slice Ao32 t239.length co32, .slice Ao33 t228.length co33] rfl (by (try simp only [List.map_toArray, List.map_cons, List.map_nil]); first | done | rfl | (simp only [List.length_drop, List.length_take]; rfl)) ?_; (with_reducible refine (laws_eqInt32S.calls k _ _ t239 _ _ t228 true _ ?side1 ?side2 ?side3 ?side4 A30.out).mono ?_); (case side1 => repeat (first | exact (Kd.R_reads' HO241.out).2.2 | (with_reducible refine Kd.C_alloc ?_ _) | (with_reducible refine Kd.C_drewN ?_ _) | (with_reducible refine Kd.C_drew ?_))); (case side2 => exact (Kd.R_reads' HO241.out).2.1); (case side3 => repeat (first | exact (Kd.R_reads' HO230.out).2.2 | (with_reducible refine Kd.C_alloc ?_ _) | (with_reducible refine Kd.C_drewN ?_ _) | (with_reducible refine Kd.C_drew ?_))); (case side4 => exact (Kd.R_reads' HO230.out).2.1); rintro e w' ⟨rfl, ⟨nd, rfl⟩⟩; refine ⟨_, rfl, ?_⟩))
        go_meet
        case rel => exact ⟨_, ((t242 != t231)), (by first | rfl | (simp; done) | (simp [*]; done)), H', ⟨by first | omega | exact Nat.le_refl _⟩, ⟨by (with_reducible repeat (first | apply Kd.R_alloc | apply Kd.R_drewN | apply Kd.R_drew)); exact Kd.R_mono HO230.out (fun _ hk => ⟨hk.2, hk.1.2⟩)⟩, ⟨by (with_reducible repeat (first | apply Kd.R_alloc | apply Kd.R_drewN | apply Kd.R_drew)); exact Kd.R_mono HO241.out (fun _ hk => ⟨hk.1.2, hk.2⟩)⟩, ⟨by (with_reducible repeat (first | apply Kd.R_alloc | apply Kd.R_drewN | apply Kd.R_drew)); exact Kd.R_mono HO234.out (fun _ hk => ⟨hk.1.2, hk.2⟩)⟩, ⟨by (with_reducible repeat (first | apply Kd.R_alloc | apply Kd.R_drewN | apply Kd.R_drew)); exact Kd.R_mono HO237.out (fun _ hk => trivial)⟩, ⟨by (with_reducible repeat (first | refine blk_drewN ?_ _ | refine blk_drew ?_ | refine blk_alloc ?_ _)); exact BK220.out⟩, ⟨by (with_reducible repeat (first | refine blk_drewN ?_ _ | refine blk_drew ?_ | refine blk_alloc ?_ _)); exact BK238.out⟩, ⟨by repeat (first | (with_reducible first | exact HB.out | apply below_alloc | apply pw_below_drewN | apply below_drew1 | refine below_set ?_ GE220.out | refine below_set ?_ GE238.out) | exact HB.out)⟩⟩
      · replace c31 := Bool.eq_false_iff.mpr c31
        subst c31
        have H1 : (laws_FnExactPieceSlice.j0 k a1 a2 t228 t231 t239 t242 true l0_0 l0_1 t232 t235) = some r := by rw [if_neg (show ¬ (false = true) by decide)] at H; exact H
        clear H
        have H := H1
        clear H1
        have H' := Aside0.mk H
        clear H
        obtain ⟨Ao34, co34, eo34⟩ := Kd.R_slice HO241.out
        subst eo34
        obtain ⟨Ao35, co35, eo35⟩ := Kd.R_slice HO230.out
        subst eo35
        go_wp2_with (first | ((with_reducible refine gate_callee (f := 39) rfl ?_); refine goesL_ (some 42) rfl rfl Tryd.func39 (by kernel_rfl) rfl #[.slice Ao34 t239.length co34, .slice Ao35 t228.length co35] rfl (by (try simp only [List.map_toArray, List.map_cons, List.map_nil]); first | done | rfl | (simp only [List.length_drop, List.length_take]; rfl)) ?_; (with_reducible refine (laws_eqInt32S.calls k _ _ t239 _ _ t228 false _ ?side1 ?side2 ?side3 ?side4 A30.out).mono ?_); (case side1 => repeat (first | exact (Kd.R_reads' HO241.out).2.2 | (with_reducible refine Kd.C_alloc ?_ _) | (with_reducible refine Kd.C_drewN ?_ _) | (with_reducible refine Kd.C_drew ?_))); (case side2 => exact (Kd.R_reads' HO241.out).2.1); (case side3 => repeat (first | exact (Kd.R_reads' HO230.out).2.2 | (with_reducible refine Kd.C_alloc ?_ _) | (with_reducible refine Kd.C_drewN ?_ _) | (with_reducible refine Kd.C_drew ?_))); (case side4 => exact (Kd.R_reads' HO230.out).2.1); rintro e w' ⟨rfl, ⟨nd, rfl⟩⟩; refine ⟨_, rfl, ?_⟩))
        go_meet
        case rel => exact ⟨_, (true), (by first | rfl | (simp; done) | (simp [*]; done)), H', ⟨by first | omega | exact Nat.le_refl _⟩, ⟨by (with_reducible repeat (first | apply Kd.R_alloc | apply Kd.R_drewN | apply Kd.R_drew)); exact Kd.R_mono HO230.out (fun _ hk => ⟨hk.2, hk.1.2⟩)⟩, ⟨by (with_reducible repeat (first | apply Kd.R_alloc | apply Kd.R_drewN | apply Kd.R_drew)); exact Kd.R_mono HO241.out (fun _ hk => ⟨hk.1.2, hk.2⟩)⟩, ⟨by (with_reducible repeat (first | apply Kd.R_alloc | apply Kd.R_drewN | apply Kd.R_drew)); exact Kd.R_mono HO234.out (fun _ hk => ⟨hk.1.2, hk.2⟩)⟩, ⟨by (with_reducible repeat (first | apply Kd.R_alloc | apply Kd.R_drewN | apply Kd.R_drew)); exact Kd.R_mono HO237.out (fun _ hk => trivial)⟩, ⟨by (with_reducible repeat (first | refine blk_drewN ?_ _ | refine blk_drew ?_ | refine blk_alloc ?_ _)); exact BK220.out⟩, ⟨by (with_reducible repeat (first | refine blk_drewN ?_ _ | refine blk_drew ?_ | refine blk_alloc ?_ _)); exact BK238.out⟩, ⟨by repeat (first | (with_reducible first | exact HB.out | apply below_alloc | apply pw_below_drewN | apply below_drew1 | refine below_set ?_ GE220.out | refine below_set ?_ GE238.out) | exact HB.out)⟩⟩
    case rest =>
      clear HC13
      try clear c2
      try clear p2
      try clear c3
      try clear c5
      try clear c5b0
      try clear c8
      try clear c26
      try clear c31
      try clear c35
      try clear hcz15_0
      try clear hcz15_1
      try clear hcz17_0
      try clear hcz17_1
      try clear hcz22_0
      try clear hcz22_1
      try clear hcz27_0
      try clear hcz27_1
      try clear hcz7_0
      try clear hcz7_1
      try clear hfz15_0
      try clear hfz15_1
      try clear hfz17_0
      try clear hfz17_1
      try clear hfz22_0
      try clear hfz22_1
      try clear hfz27_0
      try clear hfz27_1
      try clear hfz7_0
      try clear hfz7_1
      obtain ⟨kq, x48_12, rfl, HA, HJ12, HO_8, HO_11, HO_239000, HO_239001, BK220, BK238, HB⟩ := hcut
      cases kq with
      | zero => exact absurd HA.out (by simp [laws_FnExactPieceSlice.j0])
      | succ kj12 =>
        have H := HA.out
        clear HA
        simp only [laws_FnExactPieceSlice.j0] at H
        by_cases c36 : x48_12 = true
        · subst c36
          have H1 : (some false) = some r := by rw [if_pos rfl] at H; exact H
          clear H
          have H := H1
          clear H1
          obtain rfl := Option.some.inj H
          go_wp2
          go_ret
          exact ⟨by first | rfl | (simp [errW_none, errW_some] <;> rfl) | (simp [*, errW_none, errW_some] <;> rfl), by repeat (first | (with_reducible first | exact HB.out | apply below_alloc | apply pw_below_drewN | apply below_drew1 | refine below_set ?_ GE220.out | refine below_set ?_ GE238.out) | exact HB.out)⟩
        · replace c36 := Bool.eq_false_iff.mpr c36
          subst c36
          have H1 : ((laws_toPieceBuf.f kj12 l0_0 l0_1).bind fun bt244 => ((laws_eqPieceBuf.f kj12 t232 t235 bt244.1 bt244.2).bind fun t250 => (if t250 = true then ((laws_markPieceBuf.f kj12 t232 t235 1).bind fun bt251 => (if bt251.1 < 0 then (laws_FnExactPieceSlice.j1 kj12 a1 a2 t228 t231 t239 true l0_0 l0_1) else ((laws_eqInt32S.f kj12 t239 t228).bind fun t254 => (if t254 = true then (laws_FnExactPieceSlice.j1 kj12 a1 a2 t228 t231 t239 (t242 != t231) l0_0 l0_1) else (laws_FnExactPieceSlice.j1 kj12 a1 a2 t228 t231 t239 true l0_0 l0_1))))) else (some false)))) = some r := by rw [if_neg (show ¬ (false = true) by decide)] at H; exact H
          clear H
          have H := H1
          clear H1
          replace H := Option.bind_eq_some_iff.mp H
          obtain ⟨⟨t244, t247⟩, A370, H⟩ := H
          replace H : ((laws_eqPieceBuf.f kj12 t232 t235 t244 t247).bind fun t250 => (if t250 = true then ((laws_markPieceBuf.f kj12 t232 t235 1).bind fun bt251 => (if bt251.1 < 0 then (laws_FnExactPieceSlice.j1 kj12 a1 a2 t228 t231 t239 true l0_0 l0_1) else ((laws_eqInt32S.f kj12 t239 t228).bind fun t254 => (if t254 = true then (laws_FnExactPieceSlice.j1 kj12 a1 a2 t228 t231 t239 (t242 != t231) l0_0 l0_1) else (laws_FnExactPieceSlice.j1 kj12 a1 a2 t228 t231 t239 true l0_0 l0_1))))) else (some false))) = some r := H
          have A37 := Aside0.mk A370
          clear A370
          replace H := Option.bind_eq_some_iff.mp H
          obtain ⟨t250, A380, H⟩ := H
          replace H : (if t250 = true then ((laws_markPieceBuf.f kj12 t232 t235 1).bind fun bt251 => (if bt251.1 < 0 then (laws_FnExactPieceSlice.j1 kj12 a1 a2 t228 t231 t239 true l0_0 l0_1) else ((laws_eqInt32S.f kj12 t239 t228).bind fun t254 => (if t254 = true then (laws_FnExactPieceSlice.j1 kj12 a1 a2 t228 t231 t239 (t242 != t231) l0_0 l0_1) else (laws_FnExactPieceSlice.j1 kj12 a1 a2 t228 t231 t239 true l0_0 l0_1))))) else (some false)) = some r := H
          have A38 := Aside0.mk A380
          clear A380
          by_cases c39 : t250 = true
          · subst c39
            have H1 : ((laws_markPieceBuf.f kj12 t232 t235 1).bind fun bt251 => (if bt251.1 < 0 then (laws_FnExactPieceSlice.j1 kj12 a1 a2 t228 t231 t239 true l0_0 l0_1) else ((laws_eqInt32S.f kj12 t239 t228).bind fun t254 => (if t254 = true then (laws_FnExactPieceSlice.j1 kj12 a1 a2 t228 t231 t239 (t242 != t231) l0_0 l0_1) else (laws_FnExactPieceSlice.j1 kj12 a1 a2 t228 t231 t239 true l0_0 l0_1))))) = some r := by rw [if_pos rfl] at H; exact H
            clear H
            have H := H1
            clear H1
            replace H := Option.bind_eq_some_iff.mp H
            obtain ⟨⟨t251, t252, t253⟩, A400, H⟩ := H
            replace H : (if t251 < 0 then (laws_FnExactPieceSlice.j1 kj12 a1 a2 t228 t231 t239 true l0_0 l0_1) else ((laws_eqInt32S.f kj12 t239 t228).bind fun t254 => (if t254 = true then (laws_FnExactPieceSlice.j1 kj12 a1 a2 t228 t231 t239 (t242 != t231) l0_0 l0_1) else (laws_FnExactPieceSlice.j1 kj12 a1 a2 t228 t231 t239 true l0_0 l0_1)))) = some r := H
            have A40 := Aside0.mk A400
            clear A400
            have HC41 := Aside0.mk H
            clear H
            try go_wp2
            have n0_ := Aside0.mk (Kd.R_drew HO_8.out)
            have n1_ := Aside0.mk (Kd.R_drew HO_11.out)
            have n2_ := Aside0.mk (Kd.R_drew HO_239000.out)
            have n3_ := Aside0.mk (Kd.R_drew HO_239001.out)
            have n4_ := Aside0.mk (blk_drew BK220.out)
            have n5_ := Aside0.mk (blk_drew BK238.out)
            have n6_ := Aside0.mk (below_drew1 HB.out)
            clear HO_8
            clear HO_11
            clear HO_239000
            clear HO_239001
            clear BK220
            clear BK238
            clear HB
            have HO_8 := n0_
            have HO_11 := n1_
            have HO_239000 := n2_
            have HO_239001 := n3_
            have BK220 := n4_
            have BK238 := n5_
            have HB := n6_
            clear n0_ n1_ n2_ n3_ n4_ n5_ n6_
            refine start_ (n := 5) (S := fun w' => w'.cell? ⟨gb238, 0, none⟩ = some (.slice Ao25 t232.length co25) ∧ w'.cell? ⟨gb238, 1, none⟩ = some (.slice Ao28 t235.length co28) ∧ w'.cell? ⟨gb220, 0, none⟩ = some (.slice A0_0 l0_0.length c0_0) ∧ w'.cell? ⟨gb220, 1, none⟩ = some (.slice A0_1 l0_1.length c0_1)) (ds := []) #[false, false, false, false, false] (by kernel_rfl) rfl rfl ⟨(blk_cell BK238.out 0).trans rfl, (blk_cell BK238.out 1).trans rfl, (blk_cell BK220.out 0).trans rfl, (blk_cell BK220.out 1).trans rfl⟩ (fun hHeld => ?_)
            generalize wc.drew = w42 at HO_8 HO_11 HO_239000 HO_239001 BK220 BK238 HB hHeld ⊢
            refine take_ (i := 0) (N := some 49) (v := ?_) (a' := ?_) #[true, false, false, false, false] rfl rfl (by kernel_rfl) (fun _ _ _ h => h) (Or.inl ⟨by rfl, ?_⟩) hHeld ?_ ?_
            rotate_left
            · rintro w' ⟨s0, s1, s2, s3⟩
              go_simp
              with_reducible rfl
            rotate_left
            · simp only [Act.put, List.setIfInBounds_toArray, List.set_cons_zero, List.set_cons_succ, i64_w, i32_w]
              rfl
            refine take_ (i := 1) (N := some 50) (v := ?_) (a' := ?_) #[true, true, false, false, false] rfl rfl (by kernel_rfl) (fun _ _ _ h => h) (Or.inl ⟨by rfl, ?_⟩) hHeld ?_ ?_
            rotate_left
            · rintro w' ⟨s0, s1, s2, s3⟩
              go_simp
              with_reducible rfl
            rotate_left
            · simp only [Act.put, List.setIfInBounds_toArray, List.set_cons_zero, List.set_cons_succ, i64_w, i32_w]
              rfl
            refine one_ (i := 2) (N := some 51) #[true, true, true, false, false] rfl rfl (by kernel_rfl) (by decide) (fun K hK => ?_)
            refine goes_ Tryd.func37 (by kernel_rfl) rfl #[.agg #[.slice A0_0 l0_0.length c0_0, .slice A0_1 l0_1.length c0_1]] (by rfl) rfl rfl (by (try simp only [List.map_toArray, List.map_cons, List.map_nil]); first | done | rfl | (simp only [List.length_drop, List.length_take]; rfl)) ?_
            with_reducible refine (laws_toPieceBuf.calls kj12 _ _ l0_0 _ _ l0_1 t244 t247 _ ?side1 ?side2 ?side3 ?side4 A37.out).mono ?_
            (case side1 => repeat (first | exact (Kd.C_below HR0_0.out HB.out) | (with_reducible refine Kd.C_alloc ?_ _) | (with_reducible refine Kd.C_drewN ?_ _) | (with_reducible refine Kd.C_drew ?_)))
            (case side2 => exact HC0_0.out)
            (case side3 => repeat (first | exact (Kd.C_below HR0_1.out HB.out) | (with_reducible refine Kd.C_alloc ?_ _) | (with_reducible refine Kd.C_drewN ?_ _) | (with_reducible refine Kd.C_drew ?_)))
            (case side4 => exact HC0_1.out)
            rintro e w43 ⟨v245, v248, rfl, ho0, ho1, hb⟩
            refine ⟨_, rfl, ?_⟩
            have n0_ := Aside0.mk (Kd.R_elder' (by (with_reducible repeat (first | apply Kd.R_alloc | apply Kd.R_drewN | apply Kd.R_drew)); exact HO_8.out) (Kd.R_base ho0) hb)
            have n1_ := Aside0.mk (Kd.R_elder' (by (with_reducible repeat (first | apply Kd.R_alloc | apply Kd.R_drewN | apply Kd.R_drew)); exact HO_11.out) (Kd.R_base ho0) hb)
            have n2_ := Aside0.mk (Kd.R_elder' (by (with_reducible repeat (first | apply Kd.R_alloc | apply Kd.R_drewN | apply Kd.R_drew)); exact HO_239000.out) (Kd.R_base ho0) hb)
            have n3_ := Aside0.mk (Kd.R_elder' (by (with_reducible repeat (first | apply Kd.R_alloc | apply Kd.R_drewN | apply Kd.R_drew)); exact HO_239001.out) (Kd.R_base ho1) hb)
            have n4_ := Aside0.mk (Kd.R_lower (Kd.R_new' (Kd.R_new' (Kd.R_new' ho0 (Kd.R_lt (by (with_reducible repeat (first | apply Kd.R_alloc | apply Kd.R_drewN | apply Kd.R_drew)); exact HO_8.out))) (Kd.R_lt (by (with_reducible repeat (first | apply Kd.R_alloc | apply Kd.R_drewN | apply Kd.R_drew)); exact HO_11.out))) (Kd.R_lt (by (with_reducible repeat (first | apply Kd.R_alloc | apply Kd.R_drewN | apply Kd.R_drew)); exact HO_239000.out))) (below_size (by repeat (first | (with_reducible first | exact HB.out | apply below_alloc | apply pw_below_drewN | apply below_drew1 | refine below_set ?_ GE220.out | refine below_set ?_ GE238.out) | exact HB.out))))
            have n5_ := Aside0.mk (Kd.R_lower (Kd.R_new' ho1 (Kd.R_lt (by (with_reducible repeat (first | apply Kd.R_alloc | apply Kd.R_drewN | apply Kd.R_drew)); exact HO_239001.out))) (below_size (by repeat (first | (with_reducible first | exact HB.out | apply below_alloc | apply pw_below_drewN | apply below_drew1 | refine below_set ?_ GE220.out | refine below_set ?_ GE238.out) | exact HB.out))))
            have n6_ := Aside0.mk (blk_below (g := gb220) (o := .cells #[.slice A0_0 l0_0.length c0_0, .slice A0_1 l0_1.length c0_1] 59 (0, 0)) (by (with_reducible repeat (first | refine blk_drewN ?_ _ | refine blk_drew ?_ | refine blk_alloc ?_ _)); exact BK220.out) hb)
            have n7_ := Aside0.mk (blk_below (g := gb238) (o := .cells #[.slice Ao25 t232.length co25, .slice Ao28 t235.length co28] 64 (0, 0)) (by (with_reducible repeat (first | refine blk_drewN ?_ _ | refine blk_drew ?_ | refine blk_alloc ?_ _)); exact BK238.out) hb)
            have n8_ := Aside0.mk (below_step (by repeat (first | (with_reducible first | exact HB.out | apply below_alloc | apply pw_below_drewN | apply below_drew1 | refine below_set ?_ GE220.out | refine below_set ?_ GE238.out) | exact HB.out)) hb)
            clear HO_8
            clear HO_11
            clear HO_239000
            clear HO_239001
            clear BK220
            clear BK238
            clear HB
            have HO_8 := n0_
            have HO_11 := n1_
            have HO_239000 := n2_
            have HO_239001 := n3_
            have HO246 := n4_
            have HO249 := n5_
            have BK220 := n6_
            have BK238 := n7_
            have HB := n8_
            clear n0_ n1_ n2_ n3_ n4_ n5_ n6_ n7_ n8_
            (try clear hb)
            (try clear hb2)
            (try clear hk)
            (try clear hi)
            (try clear ho0)
            (try clear ho1)
            obtain ⟨Ao44, co44, eo44⟩ := Kd.R_slice HO246.out
            (first | subst eo44 | (injection eo44 with f1_ f2_ f3_; have f4_ := f1_.symm; have f5_ := f3_.symm; clear f1_ f2_ f3_; subst f4_; subst f5_))
            obtain ⟨Ao45, co45, eo45⟩ := Kd.R_slice HO249.out
            (first | subst eo45 | (injection eo45 with f1_ f2_ f3_; have f4_ := f1_.symm; have f5_ := f3_.symm; clear f1_ f2_ f3_; subst f4_; subst f5_))
            refine hK.out _ _ ⟨(blk_cell BK238.out 0).trans rfl, (blk_cell BK238.out 1).trans rfl, (blk_cell BK220.out 0).trans rfl, (blk_cell BK220.out 1).trans rfl⟩ (fun hHeld => ?_)
            clear hK K
            refine norm_ (a' := ?_) ?_ ?_
            rotate_left
            · show Act.put _ (some 51) _ = _
              simp only [Act.put, List.setIfInBounds_toArray, List.set_cons_zero, List.set_cons_succ, i64_w, i32_w]
              rfl
            refine one_ (i := 3) (N := some 52) #[true, true, true, true, false] rfl rfl (by kernel_rfl) (by decide) (fun K hK => ?_)
            refine goes_ Tryd.func40 (by kernel_rfl) rfl #[.agg #[.slice Ao25 t232.length co25, .slice Ao28 t235.length co28], .agg #[.slice Ao44 t244.length co44, .slice Ao45 t247.length co45]] (by rfl) rfl rfl (by (try simp only [List.map_toArray, List.map_cons, List.map_nil]); first | done | rfl | (simp only [List.length_drop, List.length_take]; rfl)) ?_
            with_reducible refine (laws_eqPieceBuf.calls kj12 _ _ t232 _ _ t235 _ _ t244 _ _ t247 true _ ?side1 ?side2 ?side3 ?side4 ?side5 ?side6 ?side7 ?side8 A38.out).mono ?_
            (case side1 => repeat (first | exact (Kd.R_reads' HO_239000.out).2.2 | (with_reducible refine Kd.C_alloc ?_ _) | (with_reducible refine Kd.C_drewN ?_ _) | (with_reducible refine Kd.C_drew ?_)))
            (case side2 => exact (Kd.R_reads' HO_239000.out).2.1)
            (case side3 => repeat (first | exact (Kd.R_reads' HO_239001.out).2.2 | (with_reducible refine Kd.C_alloc ?_ _) | (with_reducible refine Kd.C_drewN ?_ _) | (with_reducible refine Kd.C_drew ?_)))
            (case side4 => exact (Kd.R_reads' HO_239001.out).2.1)
            (case side5 => repeat (first | exact (Kd.R_reads' HO246.out).2.2 | (with_reducible refine Kd.C_alloc ?_ _) | (with_reducible refine Kd.C_drewN ?_ _) | (with_reducible refine Kd.C_drew ?_)))
            (case side6 => exact (Kd.R_reads' HO246.out).2.1)
            (case side7 => repeat (first | exact (Kd.R_reads' HO249.out).2.2 | (with_reducible refine Kd.C_alloc ?_ _) | (with_reducible refine Kd.C_drewN ?_ _) | (with_reducible refine Kd.C_drew ?_)))
            (case side8 => exact (Kd.R_reads' HO249.out).2.1)
            rintro e w46 ⟨rfl, hb⟩
            refine ⟨_, rfl, ?_⟩
            have n0_ := Aside0.mk (Kd.R_below (by (with_reducible repeat (first | apply Kd.R_alloc | apply Kd.R_drewN | apply Kd.R_drew)); exact HO_8.out) hb)
            have n1_ := Aside0.mk (Kd.R_below (by (with_reducible repeat (first | apply Kd.R_alloc | apply Kd.R_drewN | apply Kd.R_drew)); exact HO_11.out) hb)
            have n2_ := Aside0.mk (Kd.R_below (by (with_reducible repeat (first | apply Kd.R_alloc | apply Kd.R_drewN | apply Kd.R_drew)); exact HO_239000.out) hb)
            have n3_ := Aside0.mk (Kd.R_below (by (with_reducible repeat (first | apply Kd.R_alloc | apply Kd.R_drewN | apply Kd.R_drew)); exact HO_239001.out) hb)
            have n4_ := Aside0.mk (Kd.R_below (by (with_reducible repeat (first | apply Kd.R_alloc | apply Kd.R_drewN | apply Kd.R_drew)); exact HO246.out) hb)
            have n5_ := Aside0.mk (Kd.R_below (by (with_reducible repeat (first | apply Kd.R_alloc | apply Kd.R_drewN | apply Kd.R_drew)); exact HO249.out) hb)
            have n6_ := Aside0.mk (blk_below (g := gb220) (o := .cells #[.slice A0_0 l0_0.length c0_0, .slice A0_1 l0_1.length c0_1] 59 (0, 0)) (by (with_reducible repeat (first | refine blk_drewN ?_ _ | refine blk_drew ?_ | refine blk_alloc ?_ _)); exact BK220.out) hb)
            have n7_ := Aside0.mk (blk_below (g := gb238) (o := .cells #[.slice Ao25 t232.length co25, .slice Ao28 t235.length co28] 64 (0, 0)) (by (with_reducible repeat (first | refine blk_drewN ?_ _ | refine blk_drew ?_ | refine blk_alloc ?_ _)); exact BK238.out) hb)
            have n8_ := Aside0.mk (below_step (by repeat (first | (with_reducible first | exact HB.out | apply below_alloc | apply pw_below_drewN | apply below_drew1 | refine below_set ?_ GE220.out | refine below_set ?_ GE238.out) | exact HB.out)) hb)
            clear HO_8
            clear HO_11
            clear HO_239000
            clear HO_239001
            clear HO246
            clear HO249
            clear BK220
            clear BK238
            clear HB
            have HO_8 := n0_
            have HO_11 := n1_
            have HO_239000 := n2_
            have HO_239001 := n3_
            have HO246 := n4_
            have HO249 := n5_
            have BK220 := n6_
            have BK238 := n7_
            have HB := n8_
            clear n0_ n1_ n2_ n3_ n4_ n5_ n6_ n7_ n8_
            (try clear hb)
            (try clear hb2)
            (try clear hk)
            (try clear hi)
            refine hK.out _ _ ⟨(blk_cell BK238.out 0).trans rfl, (blk_cell BK238.out 1).trans rfl, (blk_cell BK220.out 0).trans rfl, (blk_cell BK220.out 1).trans rfl⟩ (fun hHeld => ?_)
            clear hK K
            refine norm_ (a' := ?_) ?_ ?_
            rotate_left
            · show Act.put _ (some 52) _ = _
              simp only [Act.put, List.setIfInBounds_toArray, List.set_cons_zero, List.set_cons_succ, i64_w, i32_w]
              rfl
            refine pure_ (i := 4) (N := some 53) (v := ?_) (a' := ?_) #[true, true, true, true, true] rfl rfl (by kernel_rfl) (fun _ _ _ h => h) (Or.inl ⟨by rfl, ?_⟩) ?_ ?_
            rotate_left
            · intro w'
              go_simp
              with_reducible rfl
            rotate_left
            · simp only [Act.put, List.setIfInBounds_toArray, List.set_cons_zero, List.set_cons_succ, i64_w, i32_w]
              rfl
            refine done_ (by kernel_rfl) ?_
            have hnb47 := NB238_220.out
            have hnc47 := NB220_238.out
            have hcz48_0 : w46.cell? ⟨gb238, 0, none⟩ = some (.slice Ao25 t232.length co25) := (blk_cell BK238.out 0).trans rfl
            have hcz48_1 : w46.cell? ⟨gb238, 1, none⟩ = some (.slice Ao28 t235.length co28) := (blk_cell BK238.out 1).trans rfl
            have hfz48_0 := blk_frozen BK238.out 0
            have hfz48_1 := blk_frozen BK238.out 1
            go_upto_region 14 with (first | ((with_reducible refine gate_callee (f := 41) rfl ?_); refine goesL_ (some 56) rfl rfl Tryd.func41 (by kernel_rfl) rfl #[.agg #[.slice Ao25 t232.length co25, .slice Ao28 t235.length co28], .int .i64 1] rfl (by (try simp only [List.map_toArray, List.map_cons, List.map_nil]); first | done | rfl | (simp only [List.length_drop, List.length_take]; rfl)) ?_; (with_reducible refine (laws_markPieceBuf.calls kj12 (fun k_ => some k_ = (.slice Ao25 t232.length co25 : Value).ownBlock) (.slice Ao25 t232.length co25) t232 (fun k_ => some k_ = (.slice Ao28 t235.length co28 : Value).ownBlock) (.slice Ao28 t235.length co28) t235 1 t251 t252 t253 w _ ?side1 ?side2 ?side3 A40.out).mono ?_); (case side1 => repeat (first | (with_reducible first | exact HB.out | apply below_alloc | apply pw_below_drewN | apply below_drew1 | refine below_set ?_ GE220.out | refine below_set ?_ GE238.out) | exact HB.out)); (case side2 => exact Kd.R_tight rfl HO_239000.out); (case side3 => exact Kd.R_tight rfl HO_239001.out); rintro e w49 ⟨rfl, hy0, hy1, hb, hkp⟩; refine ⟨_, rfl, ?_⟩; have n0_ := Aside0.mk (Kd.R_mono (ok' := fun k_ => some k_ ≠ (v240 : Value).ownBlock ∧ some k_ ≠ (.slice Ao25 t232.length co25 : Value).ownBlock ∧ some k_ ≠ (.slice Ao44 t244.length co44 : Value).ownBlock) (Kd.R_keptB ((Kd.R_apart' HO_8.out (Kd.R_typed HO_239001.out) (by decide))) hkp (fun k_ hk_ hs_ => Or.elim hs_ (fun e_ => (hk_.1.1.2) e_) (fun e_ => (hk_.2) e_))) (fun k_ hk_ => ⟨hk_.1.1.1.1, hk_.1.1.1.2, hk_.1.1.2⟩)); have n1_ := Aside0.mk (Kd.R_mono (ok' := fun k_ => some k_ ≠ (v229 : Value).ownBlock ∧ some k_ ≠ (.slice Ao25 t232.length co25 : Value).ownBlock ∧ some k_ ≠ (.slice Ao44 t244.length co44 : Value).ownBlock) (Kd.R_keptB ((Kd.R_apart' HO_11.out (Kd.R_typed HO_239001.out) (by decide))) hkp (fun k_ hk_ hs_ => Or.elim hs_ (fun e_ => (hk_.1.1.2) e_) (fun e_ => (hk_.2) e_))) (fun k_ hk_ => ⟨hk_.1.1.1.1, hk_.1.1.1.2, hk_.1.1.2⟩)); have n2_ := Aside0.mk (Kd.R_reok rfl hy0 (fun k_ e_ => HO_239000.out.1 k_ e_)); have n3_ := Aside0.mk (Kd.R_reok rfl hy1 (fun k_ e_ => HO_239001.out.1 k_ e_)); have n4_ := Aside0.mk (blk_kept (by (with_reducible repeat (first | refine blk_drewN ?_ _ | refine blk_drew ?_ | refine blk_alloc ?_ _)); exact BK220.out) hkp (fun hs_ => Or.elim hs_ (fun e_ => (fun e_ => (Kd.R_ne HO_239000.out BK220.out (by decide)) e_) e_) (fun e_ => (fun e_ => (Kd.R_ne HO_239001.out BK220.out (by decide)) e_) e_))); have n5_ := Aside0.mk (blk_kept (by (with_reducible repeat (first | refine blk_drewN ?_ _ | refine blk_drew ?_ | refine blk_alloc ?_ _)); exact BK238.out) hkp (fun hs_ => Or.elim hs_ (fun e_ => (fun e_ => (Kd.R_ne HO_239000.out BK238.out (by decide)) e_) e_) (fun e_ => (fun e_ => (Kd.R_ne HO_239001.out BK238.out (by decide)) e_) e_))); have n6_ := Aside0.mk (Kd.R_mono (ok' := fun k_ => some k_ ≠ (v229 : Value).ownBlock ∧ some k_ ≠ (v240 : Value).ownBlock ∧ some k_ ≠ (.slice Ao25 t232.length co25 : Value).ownBlock) (Kd.R_keptB ((Kd.R_apart' HO246.out (Kd.R_typed HO_239001.out) (by decide))) hkp (fun k_ hk_ hs_ => Or.elim hs_ (fun e_ => (hk_.1.2) e_) (fun e_ => (hk_.2) e_))) (fun k_ hk_ => ⟨hk_.1.1.1.1.2, hk_.1.1.1.2, hk_.1.1.2⟩)); have n7_ := Aside0.mk (Kd.R_mono (ok' := fun k_ => some k_ ≠ (.slice Ao28 t235.length co28 : Value).ownBlock) (Kd.R_keptB ((Kd.R_apart' HO249.out (Kd.R_typed HO_239000.out) (by decide))) hkp (fun k_ hk_ hs_ => Or.elim hs_ (fun e_ => (hk_.2) e_) (fun e_ => (hk_.1.2) e_))) (fun k_ hk_ => hk_.1.1.2)); have n8_ := Aside0.mk (hb); clear HO_8; clear HO_11; clear HO_239000; clear HO_239001; clear BK220; clear BK238; clear HO246; clear HO249; clear HB; have HO_8 := n0_; have HO_11 := n1_; have HO_239000 := n2_; have HO_239001 := n3_; have BK220 := n4_; have BK238 := n5_; have HO246 := n6_; have HO249 := n7_; have HB := n8_; clear n0_ n1_ n2_ n3_ n4_ n5_ n6_ n7_ n8_; (try clear hb); (try clear hkp); (try clear hy0); (try clear hy1)))
            (try simp only [Act.put, List.setIfInBounds_toArray, List.set_cons_zero, List.set_cons_succ])
            go_cut [69] (fun v69 wc => ∃ (kq : Nat) (x69_40 : Bool), v69 = .bool x69_40 ∧ Aside0 (laws_FnExactPieceSlice.j1 kq a1 a2 t228 t231 t239 x69_40 l0_0 l0_1 = some r) ∧ Aside0 (kq ≤ kj12) ∧ Aside0 (Kd.R (Kd.int .i32) 21 wc w.heap.size (fun k_ => some k_ ≠ (v240 : Value).ownBlock ∧ some k_ ≠ ((.slice Ao25 t232.length co25) : Value).ownBlock) v229 t228) ∧ Aside0 (Kd.R (Kd.int .i32) 21 wc w.heap.size (fun k_ => some k_ ≠ (v229 : Value).ownBlock ∧ some k_ ≠ ((.slice Ao25 t232.length co25) : Value).ownBlock) v240 t239) ∧ Aside0 (Kd.R (Kd.int .i32) 21 wc w.heap.size (fun k_ => some k_ ≠ (v229 : Value).ownBlock ∧ some k_ ≠ (v240 : Value).ownBlock) (.slice Ao25 t232.length co25) t252) ∧ Aside0 (Kd.R k54 54 wc w.heap.size (fun _ => True) (.slice Ao28 t235.length co28) t253) ∧ Aside0 (wc.heap[gb220]? = some (.cells #[(.slice A0_0 l0_0.length c0_0), (.slice A0_1 l0_1.length c0_1)] 59 (0, 0))) ∧ Aside0 (wc.heap[gb238]? = some (.cells #[(.slice Ao25 t232.length co25), (.slice Ao28 t235.length co28)] 64 (0, 0))) ∧ Aside0 (Below w.heap.size w wc))
            case first =>
              have H := HC41.out
              clear HC41
              by_cases c50 : t251 < 0
              · rw [if_pos c50] at H
                have c50b0 : decide (t251 < 0) = true := decide_eq_true c50
                clear c50
                (first | rw [c50b0] | (simp only [i64_w, i32_w]; rw [c50b0]) | skip)
                have H' := Aside0.mk H
                clear H
                go_wp2
                go_meet
                case rel => exact ⟨_, (true), (by first | rfl | (simp; done) | (simp [*]; done)), H', ⟨by have := HJ12.out; first | omega | exact Nat.le_refl _⟩, ⟨by (with_reducible repeat (first | apply Kd.R_alloc | apply Kd.R_drewN | apply Kd.R_drew)); exact Kd.R_mono HO_8.out (fun _ hk => ⟨hk.1, hk.2.1⟩)⟩, ⟨by (with_reducible repeat (first | apply Kd.R_alloc | apply Kd.R_drewN | apply Kd.R_drew)); exact Kd.R_mono HO_11.out (fun _ hk => ⟨hk.1, hk.2.1⟩)⟩, ⟨by (with_reducible repeat (first | apply Kd.R_alloc | apply Kd.R_drewN | apply Kd.R_drew)); exact Kd.R_mono HO_239000.out (fun _ hk => ⟨hk.1.1, hk.1.2⟩)⟩, ⟨by (with_reducible repeat (first | apply Kd.R_alloc | apply Kd.R_drewN | apply Kd.R_drew)); exact Kd.R_mono HO_239001.out (fun _ hk => trivial)⟩, ⟨by (with_reducible repeat (first | refine blk_drewN ?_ _ | refine blk_drew ?_ | refine blk_alloc ?_ _)); exact BK220.out⟩, ⟨by (with_reducible repeat (first | refine blk_drewN ?_ _ | refine blk_drew ?_ | refine blk_alloc ?_ _)); exact BK238.out⟩, ⟨by repeat (first | (with_reducible first | exact HB.out | apply below_alloc | apply pw_below_drewN | apply below_drew1 | refine below_set ?_ GE220.out | refine below_set ?_ GE238.out) | exact HB.out)⟩⟩
              · rw [if_neg c50] at H
                have c50b0 : decide (t251 < 0) = false := decide_eq_false c50
                clear c50
                (first | rw [c50b0] | (simp only [i64_w, i32_w]; rw [c50b0]) | skip)
                replace H := Option.bind_eq_some_iff.mp H
                obtain ⟨t254, A510, H⟩ := H
                replace H : (if t254 = true then (laws_FnExactPieceSlice.j1 kj12 a1 a2 t228 t231 t239 (t242 != t231) l0_0 l0_1) else (laws_FnExactPieceSlice.j1 kj12 a1 a2 t228 t231 t239 true l0_0 l0_1)) = some r := H
                have A51 := Aside0.mk A510
                clear A510
                by_cases c52 : t254 = true
                · subst c52
                  have H1 : (laws_FnExactPieceSlice.j1 kj12 a1 a2 t228 t231 t239 (t242 != t231) l0_0 l0_1) = some r := by rw [if_pos rfl] at H; exact H
                  clear H
                  have H := H1
                  clear H1
                  have H' := Aside0.mk H
                  clear H
                  obtain ⟨Ao53, co53, eo53⟩ := Kd.R_slice HO_11.out
                  subst eo53
                  obtain ⟨Ao54, co54, eo54⟩ := Kd.R_slice HO_8.out
                  subst eo54
                  go_wp2_with (first | (go_at_call 39; (with_reducible refine (laws_eqInt32S.calls kj12 _ _ t239 _ _ t228 true _ ?side1 ?side2 ?side3 ?side4 A51.out).mono ?_); (case side1 => repeat (first | exact (Kd.R_reads' HO_11.out).2.2 | (with_reducible refine Kd.C_alloc ?_ _) | (with_reducible refine Kd.C_drewN ?_ _) | (with_reducible refine Kd.C_drew ?_))); (case side2 => exact (Kd.R_reads' HO_11.out).2.1); (case side3 => repeat (first | exact (Kd.R_reads' HO_8.out).2.2 | (with_reducible refine Kd.C_alloc ?_ _) | (with_reducible refine Kd.C_drewN ?_ _) | (with_reducible refine Kd.C_drew ?_))); (case side4 => exact (Kd.R_reads' HO_8.out).2.1); rintro e w' ⟨rfl, ⟨nd, rfl⟩⟩))
                  go_meet
                  case rel => exact ⟨_, ((t242 != t231)), (by first | rfl | (simp; done) | (simp [*]; done)), H', ⟨by have := HJ12.out; first | omega | exact Nat.le_refl _⟩, ⟨by (with_reducible repeat (first | apply Kd.R_alloc | apply Kd.R_drewN | apply Kd.R_drew)); exact Kd.R_mono HO_8.out (fun _ hk => ⟨hk.1, hk.2.1⟩)⟩, ⟨by (with_reducible repeat (first | apply Kd.R_alloc | apply Kd.R_drewN | apply Kd.R_drew)); exact Kd.R_mono HO_11.out (fun _ hk => ⟨hk.1, hk.2.1⟩)⟩, ⟨by (with_reducible repeat (first | apply Kd.R_alloc | apply Kd.R_drewN | apply Kd.R_drew)); exact Kd.R_mono HO_239000.out (fun _ hk => ⟨hk.1.1, hk.1.2⟩)⟩, ⟨by (with_reducible repeat (first | apply Kd.R_alloc | apply Kd.R_drewN | apply Kd.R_drew)); exact Kd.R_mono HO_239001.out (fun _ hk => trivial)⟩, ⟨by (with_reducible repeat (first | refine blk_drewN ?_ _ | refine blk_drew ?_ | refine blk_alloc ?_ _)); exact BK220.out⟩, ⟨by (with_reducible repeat (first | refine blk_drewN ?_ _ | refine blk_drew ?_ | refine blk_alloc ?_ _)); exact BK238.out⟩, ⟨by repeat (first | (with_reducible first | exact HB.out | apply below_alloc | apply pw_below_drewN | apply below_drew1 | refine below_set ?_ GE220.out | refine below_set ?_ GE238.out) | exact HB.out)⟩⟩
                · replace c52 := Bool.eq_false_iff.mpr c52
                  subst c52
                  have H1 : (laws_FnExactPieceSlice.j1 kj12 a1 a2 t228 t231 t239 true l0_0 l0_1) = some r := by rw [if_neg (show ¬ (false = true) by decide)] at H; exact H
                  clear H
                  have H := H1
                  clear H1
                  have H' := Aside0.mk H
                  clear H
                  obtain ⟨Ao55, co55, eo55⟩ := Kd.R_slice HO_11.out
                  subst eo55
                  obtain ⟨Ao56, co56, eo56⟩ := Kd.R_slice HO_8.out
                  subst eo56
                  go_wp2_with (first | (go_at_call 39; (with_reducible refine (laws_eqInt32S.calls kj12 _ _ t239 _ _ t228 false _ ?side1 ?side2 ?side3 ?side4 A51.out).mono ?_); (case side1 => repeat (first | exact (Kd.R_reads' HO_11.out).2.2 | (with_reducible refine Kd.C_alloc ?_ _) | (with_reducible refine Kd.C_drewN ?_ _) | (with_reducible refine Kd.C_drew ?_))); (case side2 => exact (Kd.R_reads' HO_11.out).2.1); (case side3 => repeat (first | exact (Kd.R_reads' HO_8.out).2.2 | (with_reducible refine Kd.C_alloc ?_ _) | (with_reducible refine Kd.C_drewN ?_ _) | (with_reducible refine Kd.C_drew ?_))); (case side4 => exact (Kd.R_reads' HO_8.out).2.1); rintro e w' ⟨rfl, ⟨nd, rfl⟩⟩))
                  go_meet
                  case rel => exact ⟨_, (true), (by first | rfl | (simp; done) | (simp [*]; done)), H', ⟨by have := HJ12.out; first | omega | exact Nat.le_refl _⟩, ⟨by (with_reducible repeat (first | apply Kd.R_alloc | apply Kd.R_drewN | apply Kd.R_drew)); exact Kd.R_mono HO_8.out (fun _ hk => ⟨hk.1, hk.2.1⟩)⟩, ⟨by (with_reducible repeat (first | apply Kd.R_alloc | apply Kd.R_drewN | apply Kd.R_drew)); exact Kd.R_mono HO_11.out (fun _ hk => ⟨hk.1, hk.2.1⟩)⟩, ⟨by (with_reducible repeat (first | apply Kd.R_alloc | apply Kd.R_drewN | apply Kd.R_drew)); exact Kd.R_mono HO_239000.out (fun _ hk => ⟨hk.1.1, hk.1.2⟩)⟩, ⟨by (with_reducible repeat (first | apply Kd.R_alloc | apply Kd.R_drewN | apply Kd.R_drew)); exact Kd.R_mono HO_239001.out (fun _ hk => trivial)⟩, ⟨by (with_reducible repeat (first | refine blk_drewN ?_ _ | refine blk_drew ?_ | refine blk_alloc ?_ _)); exact BK220.out⟩, ⟨by (with_reducible repeat (first | refine blk_drewN ?_ _ | refine blk_drew ?_ | refine blk_alloc ?_ _)); exact BK238.out⟩, ⟨by repeat (first | (with_reducible first | exact HB.out | apply below_alloc | apply pw_below_drewN | apply below_drew1 | refine below_set ?_ GE220.out | refine below_set ?_ GE238.out) | exact HB.out)⟩⟩
            case rest =>
              clear HC41
              try clear c2
              try clear p2
              try clear c3
              try clear c4
              try clear c5
              try clear c5b0
              try clear c8
              try clear c26
              try clear c31
              try clear c35
              try clear c36
              try clear c37
              try clear c38
              try clear c39
              try clear c40
              try clear c41
              try clear c47
              try clear c50
              try clear c50b0
              try clear c52
              try clear hcz15_0
              try clear hcz15_1
              try clear hcz17_0
              try clear hcz17_1
              try clear hcz22_0
              try clear hcz22_1
              try clear hcz27_0
              try clear hcz27_1
              try clear hcz48_0
              try clear hcz48_1
              try clear hcz7_0
              try clear hcz7_1
              try clear hfz15_0
              try clear hfz15_1
              try clear hfz17_0
              try clear hfz17_1
              try clear hfz22_0
              try clear hfz22_1
              try clear hfz27_0
              try clear hfz27_1
              try clear hfz48_0
              try clear hfz48_1
              try clear hfz7_0
              try clear hfz7_1
              try clear p2
              obtain ⟨kq, x69_40, rfl, HA, HJ40, HO_8, HO_11, HO_239000, HO_239001, BK220, BK238, HB⟩ := hcut
              have hl239000_40 := (Kd.R_reads' HO_239000.out).1
              rw [hl239000_40] at HO_239000
              (try simp only [hl239000_40])
              (try simp only [hl239000_40] at BK220)
              (try simp only [hl239000_40] at BK238)
              (try simp only [hl239000_40] at HO_8)
              (try simp only [hl239000_40] at HO_11)
              (try simp only [hl239000_40] at HO_239001)
              have hl239001_40 := (Kd.R_reads' HO_239001.out).1
              rw [hl239001_40] at HO_239001
              (try simp only [hl239001_40])
              (try simp only [hl239001_40] at BK220)
              (try simp only [hl239001_40] at BK238)
              (try simp only [hl239001_40] at HO_8)
              (try simp only [hl239001_40] at HO_11)
              (try simp only [hl239001_40] at HO_239000)
              cases kq with
              | zero => exact absurd HA.out (by simp [laws_FnExactPieceSlice.j1])
              | succ kj40 =>
                have H := HA.out
                clear HA
                simp only [laws_FnExactPieceSlice.j1] at H
                by_cases c57 : x69_40 = true
                · subst c57
                  have H1 : (some false) = some r := by rw [if_pos rfl] at H; exact H
                  clear H
                  have H := H1
                  clear H1
                  obtain rfl := Option.some.inj H
                  go_wp2
                  go_ret
                  exact ⟨by first | rfl | (simp [errW_none, errW_some] <;> rfl) | (simp [*, errW_none, errW_some] <;> rfl), by repeat (first | (with_reducible first | exact HB.out | apply below_alloc | apply pw_below_drewN | apply below_drew1 | refine below_set ?_ GE220.out | refine below_set ?_ GE238.out) | exact HB.out)⟩
                · replace c57 := Bool.eq_false_iff.mpr c57
                  subst c57
                  have H1 : ((laws_markInt32S.f kj40 t239 1).bind fun bt255 => ((laws_heldInt32S.f kj40 bt255.2 1).bind fun t257 => (if t257 < 0 then (some false) else (if t257 = bt255.1 then ((laws_toPieceBuf.f kj40 l0_0 l0_1).bind fun bt258 => ((impl_PieceSlice.f bt258.1 bt258.2 a1 a2).bind fun bt264 => ((laws_eqInt32S.f kj40 bt264.1 t228).bind fun t268 => (if t268 = true then (laws_FnExactPieceSlice.j2 kj40 bt255.2 bt255.1 (bt264.2 != t231)) else (laws_FnExactPieceSlice.j2 kj40 bt255.2 bt255.1 true))))) else (some false))))) = some r := by rw [if_neg (show ¬ (false = true) by decide)] at H; exact H
                  clear H
                  have H := H1
                  clear H1
                  replace H := Option.bind_eq_some_iff.mp H
                  obtain ⟨⟨t255, t256⟩, A580, H⟩ := H
                  replace H : ((laws_heldInt32S.f kj40 t256 1).bind fun t257 => (if t257 < 0 then (some false) else (if t257 = t255 then ((laws_toPieceBuf.f kj40 l0_0 l0_1).bind fun bt258 => ((impl_PieceSlice.f bt258.1 bt258.2 a1 a2).bind fun bt264 => ((laws_eqInt32S.f kj40 bt264.1 t228).bind fun t268 => (if t268 = true then (laws_FnExactPieceSlice.j2 kj40 t256 t255 (bt264.2 != t231)) else (laws_FnExactPieceSlice.j2 kj40 t256 t255 true))))) else (some false)))) = some r := H
                  have A58 := Aside0.mk A580
                  clear A580
                  replace H := Option.bind_eq_some_iff.mp H
                  obtain ⟨t257, A590, H⟩ := H
                  replace H : (if t257 < 0 then (some false) else (if t257 = t255 then ((laws_toPieceBuf.f kj40 l0_0 l0_1).bind fun bt258 => ((impl_PieceSlice.f bt258.1 bt258.2 a1 a2).bind fun bt264 => ((laws_eqInt32S.f kj40 bt264.1 t228).bind fun t268 => (if t268 = true then (laws_FnExactPieceSlice.j2 kj40 t256 t255 (bt264.2 != t231)) else (laws_FnExactPieceSlice.j2 kj40 t256 t255 true))))) else (some false))) = some r := H
                  have A59 := Aside0.mk A590
                  clear A590
                  by_cases c60 : t257 < 0
                  · rw [if_pos c60] at H
                    have c60b0 : decide (t257 < 0) = true := decide_eq_true c60
                    clear c60
                    obtain rfl := Option.some.inj H
                    obtain ⟨Ao61, co61, eo61⟩ := Kd.R_slice HO_11.out
                    subst eo61
                    go_wp2_with (first | ((with_reducible refine gate_callee (f := 42) rfl ?_); refine goesL_ (some 72) rfl rfl Tryd.func42 (by kernel_rfl) rfl #[.slice Ao61 t239.length co61, .int .i64 1] rfl (by (try simp only [List.map_toArray, List.map_cons, List.map_nil]); first | done | rfl | (simp only [List.length_drop, List.length_take]; rfl)) ?_; (with_reducible refine (laws_markInt32S.calls kj40 (fun k_ => some k_ = (.slice Ao61 t239.length co61 : Value).ownBlock) (.slice Ao61 t239.length co61) t239 1 t255 t256 w _ ?side1 ?side2 A58.out).mono ?_); (case side1 => repeat (first | (with_reducible first | exact HB.out | apply below_alloc | apply pw_below_drewN | apply below_drew1 | refine below_set ?_ GE220.out | refine below_set ?_ GE238.out) | exact HB.out)); (case side2 => exact Kd.R_tight rfl HO_11.out); rintro e w62 ⟨rfl, hy0, hb, hkp⟩; refine ⟨_, rfl, ?_⟩; have n0_ := Aside0.mk (Kd.R_mono (ok' := fun k_ => some k_ ≠ (.slice Ao61 t239.length co61 : Value).ownBlock ∧ some k_ ≠ (.slice Ao25 t252.length co25 : Value).ownBlock) (Kd.R_keptB (HO_8.out) hkp (fun k_ hk_ hs_ => (hk_.1) hs_)) (fun k_ hk_ => ⟨hk_.1.1, hk_.1.2⟩)); have n1_ := Aside0.mk (Kd.R_reok rfl hy0 (fun k_ e_ => HO_11.out.1 k_ e_)); have n2_ := Aside0.mk (Kd.R_mono (ok' := fun k_ => some k_ ≠ (v229 : Value).ownBlock ∧ some k_ ≠ (.slice Ao61 t239.length co61 : Value).ownBlock) (Kd.R_keptB (HO_239000.out) hkp (fun k_ hk_ hs_ => (hk_.2) hs_)) (fun k_ hk_ => ⟨hk_.1.1, hk_.1.2⟩)); have n3_ := Aside0.mk (Kd.R_mono (ok' := fun k_ => True) (Kd.R_keptB ((Kd.R_apart' HO_239001.out (Kd.R_typed HO_11.out) (by decide))) hkp (fun k_ hk_ hs_ => (hk_.2) hs_)) (fun k_ hk_ => trivial)); have n4_ := Aside0.mk (blk_kept (by (with_reducible repeat (first | refine blk_drewN ?_ _ | refine blk_drew ?_ | refine blk_alloc ?_ _)); exact BK220.out) hkp (fun hs_ => (fun e_ => (Kd.R_ne HO_11.out BK220.out (by decide)) e_) hs_)); have n5_ := Aside0.mk (blk_kept (by (with_reducible repeat (first | refine blk_drewN ?_ _ | refine blk_drew ?_ | refine blk_alloc ?_ _)); exact BK238.out) hkp (fun hs_ => (fun e_ => (Kd.R_ne HO_11.out BK238.out (by decide)) e_) hs_)); have n6_ := Aside0.mk (hb); clear HO_8; clear HO_11; clear HO_239000; clear HO_239001; clear BK220; clear BK238; clear HB; have HO_8 := n0_; have HO_11 := n1_; have HO_239000 := n2_; have HO_239001 := n3_; have BK220 := n4_; have BK238 := n5_; have HB := n6_; clear n0_ n1_ n2_ n3_ n4_ n5_ n6_; (try clear hb); (try clear hkp); (try clear hy0)) | ((with_reducible refine gate_callee (f := 43) rfl ?_); refine goesL_ (some 75) rfl rfl Tryd.func43 (by kernel_rfl) rfl #[.slice Ao61 t256.length co61, .int .i64 1] rfl (by (try simp only [List.map_toArray, List.map_cons, List.map_nil]); first | done | (rw [show t256.length = t239.length from (Kd.R_reads' HO_11.out).1.symm] <;> rfl) | rfl | (simp only [List.length_drop, List.length_take]; rfl)) ?_; (with_reducible refine (laws_heldInt32S.calls kj40 _ _ t256 1 t257 _ ?side1 ?side2 A59.out).mono ?_); (case side1 => repeat (first | exact (Kd.R_reads' HO_11.out).2.2 | (with_reducible refine Kd.C_alloc ?_ _) | (with_reducible refine Kd.C_drewN ?_ _) | (with_reducible refine Kd.C_drew ?_))); (case side2 => rw [show t256.length = t239.length from (Kd.R_reads' HO_11.out).1.symm]; exact (Kd.R_reads' HO_11.out).2.1); rintro e w' ⟨rfl, ⟨nd, rfl⟩⟩; refine ⟨_, rfl, ?_⟩))
                    go_ret
                    exact ⟨by first | rfl | (simp [errW_none, errW_some] <;> rfl) | (simp [*, errW_none, errW_some] <;> rfl), by repeat (first | (with_reducible first | exact HB.out | apply below_alloc | apply pw_below_drewN | apply below_drew1 | refine below_set ?_ GE220.out | refine below_set ?_ GE238.out) | exact HB.out)⟩
                  · rw [if_neg c60] at H
                    have c60b0 : decide (t257 < 0) = false := decide_eq_false c60
                    clear c60
                    by_cases c63 : t257 = t255
                    · rw [if_pos c63] at H
                      have c63b0 : (t257 == t255) = true := beq_iff_eq.mpr c63
                      have c63b1 : (t257 != t255) = false := bne_eq_false_iff_eq.mpr c63
                      clear c63
                      replace H := Option.bind_eq_some_iff.mp H
                      obtain ⟨⟨t258, t261⟩, A640, H⟩ := H
                      replace H : ((impl_PieceSlice.f t258 t261 a1 a2).bind fun bt264 => ((laws_eqInt32S.f kj40 bt264.1 t228).bind fun t268 => (if t268 = true then (laws_FnExactPieceSlice.j2 kj40 t256 t255 (bt264.2 != t231)) else (laws_FnExactPieceSlice.j2 kj40 t256 t255 true)))) = some r := H
                      have A64 := Aside0.mk A640
                      clear A640
                      replace H := Option.bind_eq_some_iff.mp H
                      obtain ⟨⟨t264, t267⟩, A650, H⟩ := H
                      replace H : ((laws_eqInt32S.f kj40 t264 t228).bind fun t268 => (if t268 = true then (laws_FnExactPieceSlice.j2 kj40 t256 t255 (t267 != t231)) else (laws_FnExactPieceSlice.j2 kj40 t256 t255 true))) = some r := H
                      have A65 := Aside0.mk A650
                      clear A650
                      have HC66 := Aside0.mk H
                      clear H
                      obtain ⟨Ao67, co67, eo67⟩ := Kd.R_slice HO_11.out
                      subst eo67
                      go_upto_region 25 with (first | ((with_reducible refine gate_callee (f := 42) rfl ?_); refine goesL_ (some 72) rfl rfl Tryd.func42 (by kernel_rfl) rfl #[.slice Ao67 t239.length co67, .int .i64 1] rfl (by (try simp only [List.map_toArray, List.map_cons, List.map_nil]); first | done | rfl | (simp only [List.length_drop, List.length_take]; rfl)) ?_; (with_reducible refine (laws_markInt32S.calls kj40 (fun k_ => some k_ = (.slice Ao67 t239.length co67 : Value).ownBlock) (.slice Ao67 t239.length co67) t239 1 t255 t256 w _ ?side1 ?side2 A58.out).mono ?_); (case side1 => repeat (first | (with_reducible first | exact HB.out | apply below_alloc | apply pw_below_drewN | apply below_drew1 | refine below_set ?_ GE220.out | refine below_set ?_ GE238.out) | exact HB.out)); (case side2 => exact Kd.R_tight rfl HO_11.out); rintro e w68 ⟨rfl, hy0, hb, hkp⟩; refine ⟨_, rfl, ?_⟩; have n0_ := Aside0.mk (Kd.R_mono (ok' := fun k_ => some k_ ≠ (.slice Ao67 t239.length co67 : Value).ownBlock ∧ some k_ ≠ (.slice Ao25 t252.length co25 : Value).ownBlock) (Kd.R_keptB (HO_8.out) hkp (fun k_ hk_ hs_ => (hk_.1) hs_)) (fun k_ hk_ => ⟨hk_.1.1, hk_.1.2⟩)); have n1_ := Aside0.mk (Kd.R_reok rfl hy0 (fun k_ e_ => HO_11.out.1 k_ e_)); have n2_ := Aside0.mk (Kd.R_mono (ok' := fun k_ => some k_ ≠ (v229 : Value).ownBlock ∧ some k_ ≠ (.slice Ao67 t239.length co67 : Value).ownBlock) (Kd.R_keptB (HO_239000.out) hkp (fun k_ hk_ hs_ => (hk_.2) hs_)) (fun k_ hk_ => ⟨hk_.1.1, hk_.1.2⟩)); have n3_ := Aside0.mk (Kd.R_mono (ok' := fun k_ => True) (Kd.R_keptB ((Kd.R_apart' HO_239001.out (Kd.R_typed HO_11.out) (by decide))) hkp (fun k_ hk_ hs_ => (hk_.2) hs_)) (fun k_ hk_ => trivial)); have n4_ := Aside0.mk (blk_kept (by (with_reducible repeat (first | refine blk_drewN ?_ _ | refine blk_drew ?_ | refine blk_alloc ?_ _)); exact BK220.out) hkp (fun hs_ => (fun e_ => (Kd.R_ne HO_11.out BK220.out (by decide)) e_) hs_)); have n5_ := Aside0.mk (blk_kept (by (with_reducible repeat (first | refine blk_drewN ?_ _ | refine blk_drew ?_ | refine blk_alloc ?_ _)); exact BK238.out) hkp (fun hs_ => (fun e_ => (Kd.R_ne HO_11.out BK238.out (by decide)) e_) hs_)); have n6_ := Aside0.mk (hb); clear HO_8; clear HO_11; clear HO_239000; clear HO_239001; clear BK220; clear BK238; clear HB; have HO_8 := n0_; have HO_11 := n1_; have HO_239000 := n2_; have HO_239001 := n3_; have BK220 := n4_; have BK238 := n5_; have HB := n6_; clear n0_ n1_ n2_ n3_ n4_ n5_ n6_; (try clear hb); (try clear hkp); (try clear hy0)) | ((with_reducible refine gate_callee (f := 43) rfl ?_); refine goesL_ (some 75) rfl rfl Tryd.func43 (by kernel_rfl) rfl #[.slice Ao67 t256.length co67, .int .i64 1] rfl (by (try simp only [List.map_toArray, List.map_cons, List.map_nil]); first | done | (rw [show t256.length = t239.length from (Kd.R_reads' HO_11.out).1.symm] <;> rfl) | rfl | (simp only [List.length_drop, List.length_take]; rfl)) ?_; (with_reducible refine (laws_heldInt32S.calls kj40 _ _ t256 1 t257 _ ?side1 ?side2 A59.out).mono ?_); (case side1 => repeat (first | exact (Kd.R_reads' HO_11.out).2.2 | (with_reducible refine Kd.C_alloc ?_ _) | (with_reducible refine Kd.C_drewN ?_ _) | (with_reducible refine Kd.C_drew ?_))); (case side2 => rw [show t256.length = t239.length from (Kd.R_reads' HO_11.out).1.symm]; exact (Kd.R_reads' HO_11.out).2.1); rintro e w' ⟨rfl, ⟨nd, rfl⟩⟩; refine ⟨_, rfl, ?_⟩; have hnb69 := NB220_238.out; have hnc69 := NB238_220.out; have hcz70_0 : w68.cell? ⟨gb220, 0, none⟩ = some (.slice A0_0 l0_0.length c0_0) := (blk_cell BK220.out 0).trans rfl; have hcz70_1 : w68.cell? ⟨gb220, 1, none⟩ = some (.slice A0_1 l0_1.length c0_1) := (blk_cell BK220.out 1).trans rfl; have hfz70_0 := blk_frozen BK220.out 0; have hfz70_1 := blk_frozen BK220.out 1) | ((with_reducible refine gate_callee (f := 37) rfl ?_); refine goesL_ (some 83) rfl rfl Tryd.func37 (by kernel_rfl) rfl #[.agg #[.slice A0_0 l0_0.length c0_0, .slice A0_1 l0_1.length c0_1]] rfl (by (try simp only [List.map_toArray, List.map_cons, List.map_nil]); first | done | rfl | (simp only [List.length_drop, List.length_take]; rfl)) ?_; (with_reducible refine (laws_toPieceBuf.calls kj40 _ _ l0_0 _ _ l0_1 t258 t261 _ ?side1 ?side2 ?side3 ?side4 A64.out).mono ?_); (case side1 => repeat (first | exact (Kd.C_below HR0_0.out (by repeat (first | (with_reducible first | exact HB.out | apply below_alloc | apply pw_below_drewN | apply below_drew1 | refine below_set ?_ GE220.out | refine below_set ?_ GE238.out) | exact HB.out))) | (with_reducible refine Kd.C_alloc ?_ _) | (with_reducible refine Kd.C_drewN ?_ _) | (with_reducible refine Kd.C_drew ?_))); (case side2 => exact HC0_0.out); (case side3 => repeat (first | exact (Kd.C_below HR0_1.out (by repeat (first | (with_reducible first | exact HB.out | apply below_alloc | apply pw_below_drewN | apply below_drew1 | refine below_set ?_ GE220.out | refine below_set ?_ GE238.out) | exact HB.out))) | (with_reducible refine Kd.C_alloc ?_ _) | (with_reducible refine Kd.C_drewN ?_ _) | (with_reducible refine Kd.C_drew ?_))); (case side4 => exact HC0_1.out); rintro e w71 ⟨v259, v262, rfl, ho0, ho1, hb⟩; refine ⟨_, rfl, ?_⟩; have n0_ := Aside0.mk (Kd.R_elder' (by (with_reducible repeat (first | apply Kd.R_alloc | apply Kd.R_drewN | apply Kd.R_drew)); exact HO_8.out) (Kd.R_base ho0) hb); have n1_ := Aside0.mk (Kd.R_elder' (by (with_reducible repeat (first | apply Kd.R_alloc | apply Kd.R_drewN | apply Kd.R_drew)); exact HO_11.out) (Kd.R_base ho0) hb); have n2_ := Aside0.mk (Kd.R_elder' (by (with_reducible repeat (first | apply Kd.R_alloc | apply Kd.R_drewN | apply Kd.R_drew)); exact HO_239000.out) (Kd.R_base ho0) hb); have n3_ := Aside0.mk (Kd.R_elder' (by (with_reducible repeat (first | apply Kd.R_alloc | apply Kd.R_drewN | apply Kd.R_drew)); exact HO_239001.out) (Kd.R_base ho1) hb); have n4_ := Aside0.mk (Kd.R_lower (Kd.R_new' (Kd.R_new' (Kd.R_new' ho0 (Kd.R_lt (by (with_reducible repeat (first | apply Kd.R_alloc | apply Kd.R_drewN | apply Kd.R_drew)); exact HO_8.out))) (Kd.R_lt (by (with_reducible repeat (first | apply Kd.R_alloc | apply Kd.R_drewN | apply Kd.R_drew)); exact HO_11.out))) (Kd.R_lt (by (with_reducible repeat (first | apply Kd.R_alloc | apply Kd.R_drewN | apply Kd.R_drew)); exact HO_239000.out))) (below_size (by repeat (first | (with_reducible first | exact HB.out | apply below_alloc | apply pw_below_drewN | apply below_drew1 | refine below_set ?_ GE220.out | refine below_set ?_ GE238.out) | exact HB.out)))); have n5_ := Aside0.mk (Kd.R_lower (Kd.R_new' ho1 (Kd.R_lt (by (with_reducible repeat (first | apply Kd.R_alloc | apply Kd.R_drewN | apply Kd.R_drew)); exact HO_239001.out))) (below_size (by repeat (first | (with_reducible first | exact HB.out | apply below_alloc | apply pw_below_drewN | apply below_drew1 | refine below_set ?_ GE220.out | refine below_set ?_ GE238.out) | exact HB.out)))); have n6_ := Aside0.mk (blk_below (g := gb220) (o := .cells #[.slice A0_0 l0_0.length c0_0, .slice A0_1 l0_1.length c0_1] 59 (0, 0)) (by (with_reducible repeat (first | refine blk_drewN ?_ _ | refine blk_drew ?_ | refine blk_alloc ?_ _)); exact BK220.out) hb); have n7_ := Aside0.mk (blk_below (g := gb238) (o := .cells #[.slice Ao25 t252.length co25, .slice Ao28 t253.length co28] 64 (0, 0)) (by (with_reducible repeat (first | refine blk_drewN ?_ _ | refine blk_drew ?_ | refine blk_alloc ?_ _)); exact BK238.out) hb); have n8_ := Aside0.mk (below_step (by repeat (first | (with_reducible first | exact HB.out | apply below_alloc | apply pw_below_drewN | apply below_drew1 | refine below_set ?_ GE220.out | refine below_set ?_ GE238.out) | exact HB.out)) hb); clear HO_8; clear HO_11; clear HO_239000; clear HO_239001; clear BK220; clear BK238; clear HB; have HO_8 := n0_; have HO_11 := n1_; have HO_239000 := n2_; have HO_239001 := n3_; have HO260 := n4_; have HO263 := n5_; have BK220 := n6_; have BK238 := n7_; have HB := n8_; clear n0_ n1_ n2_ n3_ n4_ n5_ n6_ n7_ n8_; (try clear hb); (try clear hb2); (try clear hk); (try clear hi); (try clear ho0); (try clear ho1); obtain ⟨Ao72, co72, eo72⟩ := Kd.R_slice HO260.out; subst eo72; obtain ⟨Ao73, co73, eo73⟩ := Kd.R_slice HO263.out; subst eo73) | ((with_reducible refine gate_callee (f := 38) rfl ?_); refine goesL_ (some 86) rfl rfl Tryd.func38 (by kernel_rfl) rfl #[.agg #[.slice Ao72 t258.length co72, .slice Ao73 t261.length co73], .int .i64 a1, .int .i64 a2] rfl (by (try simp only [List.map_toArray, List.map_cons, List.map_nil]); first | done | rfl | (simp only [List.length_drop, List.length_take]; rfl)) ?_; (with_reducible refine (impl_PieceSlice.calls _ _ t258 _ _ t261 a1 a2 t264 t267 _ ?side1 ?side2 ?side3 ?side4 ?side5 A65.out).mono ?_); (case side1 => repeat (first | exact (Kd.R_reads' HO260.out).2.2 | (with_reducible refine Kd.C_alloc ?_ _) | (with_reducible refine Kd.C_drewN ?_ _) | (with_reducible refine Kd.C_drew ?_))); (case side2 => exact (Kd.R_reads' HO260.out).2.1); (case side3 => repeat (first | exact (Kd.R_reads' HO263.out).2.2 | (with_reducible refine Kd.C_alloc ?_ _) | (with_reducible refine Kd.C_drewN ?_ _) | (with_reducible refine Kd.C_drew ?_))); (case side4 => exact (Kd.R_reads' HO263.out).2.1); (case side5 => exact HG.below hgG_ (by repeat (first | (with_reducible first | exact HB.out | apply below_alloc | apply pw_below_drewN | apply below_drew1 | refine below_set ?_ GE220.out | refine below_set ?_ GE238.out) | exact HB.out))); rintro e w74 ⟨v265, rfl, ho0, hb⟩; refine ⟨_, rfl, ?_⟩; have n0_ := Aside0.mk (Kd.R_elder' (by (with_reducible repeat (first | apply Kd.R_alloc | apply Kd.R_drewN | apply Kd.R_drew)); exact HO_8.out) (Kd.R_base ho0) hb); have n1_ := Aside0.mk (Kd.R_elder' (by (with_reducible repeat (first | apply Kd.R_alloc | apply Kd.R_drewN | apply Kd.R_drew)); exact HO_11.out) (Kd.R_base ho0) hb); have n2_ := Aside0.mk (Kd.R_elder' (by (with_reducible repeat (first | apply Kd.R_alloc | apply Kd.R_drewN | apply Kd.R_drew)); exact HO_239000.out) (Kd.R_base ho0) hb); have n3_ := Aside0.mk (Kd.R_below (by (with_reducible repeat (first | apply Kd.R_alloc | apply Kd.R_drewN | apply Kd.R_drew)); exact HO_239001.out) hb); have n4_ := Aside0.mk (Kd.R_elder' (by (with_reducible repeat (first | apply Kd.R_alloc | apply Kd.R_drewN | apply Kd.R_drew)); exact HO260.out) (Kd.R_base ho0) hb); have n5_ := Aside0.mk (Kd.R_below (by (with_reducible repeat (first | apply Kd.R_alloc | apply Kd.R_drewN | apply Kd.R_drew)); exact HO263.out) hb); have n6_ := Aside0.mk (Kd.R_lower (Kd.R_new' (Kd.R_new' (Kd.R_new' (Kd.R_new' ho0 (Kd.R_lt (by (with_reducible repeat (first | apply Kd.R_alloc | apply Kd.R_drewN | apply Kd.R_drew)); exact HO_8.out))) (Kd.R_lt (by (with_reducible repeat (first | apply Kd.R_alloc | apply Kd.R_drewN | apply Kd.R_drew)); exact HO_11.out))) (Kd.R_lt (by (with_reducible repeat (first | apply Kd.R_alloc | apply Kd.R_drewN | apply Kd.R_drew)); exact HO_239000.out))) (Kd.R_lt (by (with_reducible repeat (first | apply Kd.R_alloc | apply Kd.R_drewN | apply Kd.R_drew)); exact HO260.out))) (below_size (by repeat (first | (with_reducible first | exact HB.out | apply below_alloc | apply pw_below_drewN | apply below_drew1 | refine below_set ?_ GE220.out | refine below_set ?_ GE238.out) | exact HB.out)))); have n7_ := Aside0.mk (blk_below (g := gb220) (o := .cells #[.slice A0_0 l0_0.length c0_0, .slice A0_1 l0_1.length c0_1] 59 (0, 0)) (by (with_reducible repeat (first | refine blk_drewN ?_ _ | refine blk_drew ?_ | refine blk_alloc ?_ _)); exact BK220.out) hb); have n8_ := Aside0.mk (blk_below (g := gb238) (o := .cells #[.slice Ao25 t252.length co25, .slice Ao28 t253.length co28] 64 (0, 0)) (by (with_reducible repeat (first | refine blk_drewN ?_ _ | refine blk_drew ?_ | refine blk_alloc ?_ _)); exact BK238.out) hb); have n9_ := Aside0.mk (below_step (by repeat (first | (with_reducible first | exact HB.out | apply below_alloc | apply pw_below_drewN | apply below_drew1 | refine below_set ?_ GE220.out | refine below_set ?_ GE238.out) | exact HB.out)) hb); clear HO_8; clear HO_11; clear HO_239000; clear HO_239001; clear HO260; clear HO263; clear BK220; clear BK238; clear HB; have HO_8 := n0_; have HO_11 := n1_; have HO_239000 := n2_; have HO_239001 := n3_; have HO260 := n4_; have HO263 := n5_; have HO266 := n6_; have BK220 := n7_; have BK238 := n8_; have HB := n9_; clear n0_ n1_ n2_ n3_ n4_ n5_ n6_ n7_ n8_ n9_; (try clear hb); (try clear hb2); (try clear hk); (try clear hi); (try clear ho0)))
                      (try simp only [Act.put, List.setIfInBounds_toArray, List.set_cons_zero, List.set_cons_succ])
                      go_cut [97] (fun v97 wc => ∃ (kq : Nat) (x97_65 : Bool), v97 = .bool x97_65 ∧ Aside0 (laws_FnExactPieceSlice.j2 kq t256 t255 x97_65 = some r) ∧ Aside0 (kq ≤ kj40) ∧ Aside0 (Kd.R (Kd.int .i32) 21 wc w.heap.size (fun k_ => some k_ ≠ ((.slice Ao25 t252.length co25) : Value).ownBlock) (.slice Ao67 t239.length co67) t256) ∧ Aside0 (Kd.R (Kd.int .i32) 21 wc w.heap.size (fun k_ => some k_ ≠ ((.slice Ao67 t239.length co67) : Value).ownBlock) (.slice Ao25 t252.length co25) t252) ∧ Aside0 (Kd.R k54 54 wc w.heap.size (fun _ => True) (.slice Ao28 t253.length co28) t253) ∧ Aside0 (wc.heap[gb220]? = some (.cells #[(.slice A0_0 l0_0.length c0_0), (.slice A0_1 l0_1.length c0_1)] 59 (0, 0))) ∧ Aside0 (wc.heap[gb238]? = some (.cells #[(.slice Ao25 t252.length co25), (.slice Ao28 t253.length co28)] 64 (0, 0))) ∧ Aside0 (Below w.heap.size w wc))
                      case first =>
                        have H := HC66.out
                        clear HC66
                        replace H := Option.bind_eq_some_iff.mp H
                        obtain ⟨t268, A750, H⟩ := H
                        replace H : (if t268 = true then (laws_FnExactPieceSlice.j2 kj40 t256 t255 (t267 != t231)) else (laws_FnExactPieceSlice.j2 kj40 t256 t255 true)) = some r := H
                        have A75 := Aside0.mk A750
                        clear A750
                        by_cases c76 : t268 = true
                        · subst c76
                          have H1 : (laws_FnExactPieceSlice.j2 kj40 t256 t255 (t267 != t231)) = some r := by rw [if_pos rfl] at H; exact H
                          clear H
                          have H := H1
                          clear H1
                          have H' := Aside0.mk H
                          clear H
                          obtain ⟨Ao77, co77, eo77⟩ := Kd.R_slice HO266.out
                          subst eo77
                          obtain ⟨Ao78, co78, eo78⟩ := Kd.R_slice HO_8.out
                          subst eo78
                          go_wp2_with (first | ((with_reducible refine gate_callee (f := 39) rfl ?_); refine goesL_ (some 91) rfl rfl Tryd.func39 (by kernel_rfl) rfl #[.slice Ao77 t264.length co77, .slice Ao78 t228.length co78] rfl (by (try simp only [List.map_toArray, List.map_cons, List.map_nil]); first | done | rfl | (simp only [List.length_drop, List.length_take]; rfl)) ?_; (with_reducible refine (laws_eqInt32S.calls kj40 _ _ t264 _ _ t228 true _ ?side1 ?side2 ?side3 ?side4 A75.out).mono ?_); (case side1 => repeat (first | exact (Kd.R_reads' HO266.out).2.2 | (with_reducible refine Kd.C_alloc ?_ _) | (with_reducible refine Kd.C_drewN ?_ _) | (with_reducible refine Kd.C_drew ?_))); (case side2 => exact (Kd.R_reads' HO266.out).2.1); (case side3 => repeat (first | exact (Kd.R_reads' HO_8.out).2.2 | (with_reducible refine Kd.C_alloc ?_ _) | (with_reducible refine Kd.C_drewN ?_ _) | (with_reducible refine Kd.C_drew ?_))); (case side4 => exact (Kd.R_reads' HO_8.out).2.1); rintro e w' ⟨rfl, ⟨nd, rfl⟩⟩; refine ⟨_, rfl, ?_⟩))
                          go_meet
                          case rel => exact ⟨_, ((t267 != t231)), (by first | rfl | (simp; done) | (simp [*]; done)), H', ⟨by have := HJ12.out; have := HJ40.out; first | omega | exact Nat.le_refl _⟩, ⟨by (try simp only [hl239000_40]); (try simp only [hl239001_40]); (with_reducible repeat (first | apply Kd.R_alloc | apply Kd.R_drewN | apply Kd.R_drew)); exact Kd.R_mono HO_11.out (fun _ hk => hk.1.1.2)⟩, ⟨by (try simp only [hl239000_40]); (try simp only [hl239001_40]); (with_reducible repeat (first | apply Kd.R_alloc | apply Kd.R_drewN | apply Kd.R_drew)); exact Kd.R_mono HO_239000.out (fun _ hk => hk.1.1.2)⟩, ⟨by (try simp only [hl239000_40]); (try simp only [hl239001_40]); (with_reducible repeat (first | apply Kd.R_alloc | apply Kd.R_drewN | apply Kd.R_drew)); exact Kd.R_mono HO_239001.out (fun _ hk => trivial)⟩, ⟨by (try simp only [hl239000_40]); (try simp only [hl239001_40]); (with_reducible repeat (first | refine blk_drewN ?_ _ | refine blk_drew ?_ | refine blk_alloc ?_ _)); exact BK220.out⟩, ⟨by (try simp only [hl239000_40]); (try simp only [hl239001_40]); (with_reducible repeat (first | refine blk_drewN ?_ _ | refine blk_drew ?_ | refine blk_alloc ?_ _)); exact BK238.out⟩, ⟨by repeat (first | (with_reducible first | exact HB.out | apply below_alloc | apply pw_below_drewN | apply below_drew1 | refine below_set ?_ GE220.out | refine below_set ?_ GE238.out) | exact HB.out)⟩⟩
                        · replace c76 := Bool.eq_false_iff.mpr c76
                          subst c76
                          have H1 : (laws_FnExactPieceSlice.j2 kj40 t256 t255 true) = some r := by rw [if_neg (show ¬ (false = true) by decide)] at H; exact H
                          clear H
                          have H := H1
                          clear H1
                          have H' := Aside0.mk H
                          clear H
                          obtain ⟨Ao79, co79, eo79⟩ := Kd.R_slice HO266.out
                          subst eo79
                          obtain ⟨Ao80, co80, eo80⟩ := Kd.R_slice HO_8.out
                          subst eo80
                          go_wp2_with (first | ((with_reducible refine gate_callee (f := 39) rfl ?_); refine goesL_ (some 91) rfl rfl Tryd.func39 (by kernel_rfl) rfl #[.slice Ao79 t264.length co79, .slice Ao80 t228.length co80] rfl (by (try simp only [List.map_toArray, List.map_cons, List.map_nil]); first | done | rfl | (simp only [List.length_drop, List.length_take]; rfl)) ?_; (with_reducible refine (laws_eqInt32S.calls kj40 _ _ t264 _ _ t228 false _ ?side1 ?side2 ?side3 ?side4 A75.out).mono ?_); (case side1 => repeat (first | exact (Kd.R_reads' HO266.out).2.2 | (with_reducible refine Kd.C_alloc ?_ _) | (with_reducible refine Kd.C_drewN ?_ _) | (with_reducible refine Kd.C_drew ?_))); (case side2 => exact (Kd.R_reads' HO266.out).2.1); (case side3 => repeat (first | exact (Kd.R_reads' HO_8.out).2.2 | (with_reducible refine Kd.C_alloc ?_ _) | (with_reducible refine Kd.C_drewN ?_ _) | (with_reducible refine Kd.C_drew ?_))); (case side4 => exact (Kd.R_reads' HO_8.out).2.1); rintro e w' ⟨rfl, ⟨nd, rfl⟩⟩; refine ⟨_, rfl, ?_⟩))
                          go_meet
                          case rel => exact ⟨_, (true), (by first | rfl | (simp; done) | (simp [*]; done)), H', ⟨by have := HJ12.out; have := HJ40.out; first | omega | exact Nat.le_refl _⟩, ⟨by (try simp only [hl239000_40]); (try simp only [hl239001_40]); (with_reducible repeat (first | apply Kd.R_alloc | apply Kd.R_drewN | apply Kd.R_drew)); exact Kd.R_mono HO_11.out (fun _ hk => hk.1.1.2)⟩, ⟨by (try simp only [hl239000_40]); (try simp only [hl239001_40]); (with_reducible repeat (first | apply Kd.R_alloc | apply Kd.R_drewN | apply Kd.R_drew)); exact Kd.R_mono HO_239000.out (fun _ hk => hk.1.1.2)⟩, ⟨by (try simp only [hl239000_40]); (try simp only [hl239001_40]); (with_reducible repeat (first | apply Kd.R_alloc | apply Kd.R_drewN | apply Kd.R_drew)); exact Kd.R_mono HO_239001.out (fun _ hk => trivial)⟩, ⟨by (try simp only [hl239000_40]); (try simp only [hl239001_40]); (with_reducible repeat (first | refine blk_drewN ?_ _ | refine blk_drew ?_ | refine blk_alloc ?_ _)); exact BK220.out⟩, ⟨by (try simp only [hl239000_40]); (try simp only [hl239001_40]); (with_reducible repeat (first | refine blk_drewN ?_ _ | refine blk_drew ?_ | refine blk_alloc ?_ _)); exact BK238.out⟩, ⟨by repeat (first | (with_reducible first | exact HB.out | apply below_alloc | apply pw_below_drewN | apply below_drew1 | refine below_set ?_ GE220.out | refine below_set ?_ GE238.out) | exact HB.out)⟩⟩
                      case rest =>
                        clear HC66
                        try clear c2
                        try clear p2
                        try clear c3
                        try clear c4
                        try clear c5
                        try clear c5b0
                        try clear c6
                        try clear c7
                        try clear c8
                        try clear c26
                        try clear c31
                        try clear c35
                        try clear c36
                        try clear c37
                        try clear c38
                        try clear c39
                        try clear c40
                        try clear c41
                        try clear c42
                        try clear c43
                        try clear c47
                        try clear c50
                        try clear c50b0
                        try clear c52
                        try clear c57
                        try clear c60
                        try clear c60b0
                        try clear c63
                        try clear c63b0
                        try clear c63b1
                        try clear c69
                        try clear c76
                        try clear hcz15_0
                        try clear hcz15_1
                        try clear hcz17_0
                        try clear hcz17_1
                        try clear hcz22_0
                        try clear hcz22_1
                        try clear hcz27_0
                        try clear hcz27_1
                        try clear hcz48_0
                        try clear hcz48_1
                        try clear hcz70_0
                        try clear hcz70_1
                        try clear hcz7_0
                        try clear hcz7_1
                        try clear hfz15_0
                        try clear hfz15_1
                        try clear hfz17_0
                        try clear hfz17_1
                        try clear hfz22_0
                        try clear hfz22_1
                        try clear hfz27_0
                        try clear hfz27_1
                        try clear hfz48_0
                        try clear hfz48_1
                        try clear hfz70_0
                        try clear hfz70_1
                        try clear hfz7_0
                        try clear hfz7_1
                        try clear p2
                        obtain ⟨kq, x97_65, rfl, HA, HJ65, HO_11, HO_239000, HO_239001, BK220, BK238, HB⟩ := hcut
                        have hl11_65 := (Kd.R_reads' HO_11.out).1
                        rw [hl11_65] at HO_11
                        (try simp only [hl11_65])
                        (try simp only [hl11_65] at BK220)
                        (try simp only [hl11_65] at BK238)
                        (try simp only [hl11_65] at HO_239000)
                        (try simp only [hl11_65] at HO_239001)
                        cases kq with
                        | zero => exact absurd HA.out (by simp [laws_FnExactPieceSlice.j2])
                        | succ kj65 =>
                          have H := HA.out
                          clear HA
                          simp only [laws_FnExactPieceSlice.j2] at H
                          by_cases c81 : x97_65 = true
                          · subst c81
                            have H1 : (some false) = some r := by rw [if_pos rfl] at H; exact H
                            clear H
                            have H := H1
                            clear H1
                            obtain rfl := Option.some.inj H
                            go_wp2
                            go_ret
                            exact ⟨by first | rfl | (simp [errW_none, errW_some] <;> rfl) | (simp [*, errW_none, errW_some] <;> rfl), by repeat (first | (with_reducible first | exact HB.out | apply below_alloc | apply pw_below_drewN | apply below_drew1 | refine below_set ?_ GE220.out | refine below_set ?_ GE238.out) | exact HB.out)⟩
                          · replace c81 := Bool.eq_false_iff.mpr c81
                            subst c81
                            have H1 : ((laws_heldInt32S.f kj65 t256 1).bind fun t269 => (if t269 < 0 then (some false) else (if t269 = t255 then (some true) else (some false)))) = some r := by rw [if_neg (show ¬ (false = true) by decide)] at H; exact H
                            clear H
                            have H := H1
                            clear H1
                            replace H := Option.bind_eq_some_iff.mp H
                            obtain ⟨t269, A820, H⟩ := H
                            replace H : (if t269 < 0 then (some false) else (if t269 = t255 then (some true) else (some false))) = some r := H
                            have A82 := Aside0.mk A820
                            clear A820
                            by_cases c83 : t269 < 0
                            · rw [if_pos c83] at H
                              have c83b0 : decide (t269 < 0) = true := decide_eq_true c83
                              clear c83
                              obtain rfl := Option.some.inj H
                              go_wp2_with (first | ((with_reducible refine gate_callee (f := 43) rfl ?_); refine goesL_ (some 100) rfl rfl Tryd.func43 (by kernel_rfl) rfl #[.slice Ao67 t256.length co67, .int .i64 1] rfl (by (try simp only [List.map_toArray, List.map_cons, List.map_nil]); first | done | rfl | (simp only [List.length_drop, List.length_take]; rfl)) ?_; (with_reducible refine (laws_heldInt32S.calls kj65 _ _ t256 1 t269 _ ?side1 ?side2 A82.out).mono ?_); (case side1 => repeat (first | exact (Kd.R_reads' HO_11.out).2.2 | (with_reducible refine Kd.C_alloc ?_ _) | (with_reducible refine Kd.C_drewN ?_ _) | (with_reducible refine Kd.C_drew ?_))); (case side2 => exact (Kd.R_reads' HO_11.out).2.1); rintro e w' ⟨rfl, ⟨nd, rfl⟩⟩; refine ⟨_, rfl, ?_⟩))
                              go_ret
                              exact ⟨by first | rfl | (simp [errW_none, errW_some] <;> rfl) | (simp [*, errW_none, errW_some] <;> rfl), by repeat (first | (with_reducible first | exact HB.out | apply below_alloc | apply pw_below_drewN | apply below_drew1 | refine below_set ?_ GE220.out | refine below_set ?_ GE238.out) | exact HB.out)⟩
                            · rw [if_neg c83] at H
                              have c83b0 : decide (t269 < 0) = false := decide_eq_false c83
                              clear c83
                              by_cases c84 : t269 = t255
                              · rw [if_pos c84] at H
                                have c84b0 : (t269 == t255) = true := beq_iff_eq.mpr c84
                                have c84b1 : (t269 != t255) = false := bne_eq_false_iff_eq.mpr c84
                                clear c84
                                obtain rfl := Option.some.inj H
                                go_wp2_with (first | ((with_reducible refine gate_callee (f := 43) rfl ?_); refine goesL_ (some 100) rfl rfl Tryd.func43 (by kernel_rfl) rfl #[.slice Ao67 t256.length co67, .int .i64 1] rfl (by (try simp only [List.map_toArray, List.map_cons, List.map_nil]); first | done | rfl | (simp only [List.length_drop, List.length_take]; rfl)) ?_; (with_reducible refine (laws_heldInt32S.calls kj65 _ _ t256 1 t269 _ ?side1 ?side2 A82.out).mono ?_); (case side1 => repeat (first | exact (Kd.R_reads' HO_11.out).2.2 | (with_reducible refine Kd.C_alloc ?_ _) | (with_reducible refine Kd.C_drewN ?_ _) | (with_reducible refine Kd.C_drew ?_))); (case side2 => exact (Kd.R_reads' HO_11.out).2.1); rintro e w' ⟨rfl, ⟨nd, rfl⟩⟩; refine ⟨_, rfl, ?_⟩))
                                go_ret
                                exact ⟨by first | rfl | (simp [errW_none, errW_some] <;> rfl) | (simp [*, errW_none, errW_some] <;> rfl), by repeat (first | (with_reducible first | exact HB.out | apply below_alloc | apply pw_below_drewN | apply below_drew1 | refine below_set ?_ GE220.out | refine below_set ?_ GE238.out) | exact HB.out)⟩
                              · rw [if_neg c84] at H
                                have c84b0 : (t269 == t255) = false := beq_eq_false_iff_ne.mpr c84
                                have c84b1 : (t269 != t255) = true := bne_iff_ne.mpr c84
                                obtain rfl := Option.some.inj H
                                go_wp2_with (first | ((with_reducible refine gate_callee (f := 43) rfl ?_); refine goesL_ (some 100) rfl rfl Tryd.func43 (by kernel_rfl) rfl #[.slice Ao67 t256.length co67, .int .i64 1] rfl (by (try simp only [List.map_toArray, List.map_cons, List.map_nil]); first | done | rfl | (simp only [List.length_drop, List.length_take]; rfl)) ?_; (with_reducible refine (laws_heldInt32S.calls kj65 _ _ t256 1 t269 _ ?side1 ?side2 A82.out).mono ?_); (case side1 => repeat (first | exact (Kd.R_reads' HO_11.out).2.2 | (with_reducible refine Kd.C_alloc ?_ _) | (with_reducible refine Kd.C_drewN ?_ _) | (with_reducible refine Kd.C_drew ?_))); (case side2 => exact (Kd.R_reads' HO_11.out).2.1); rintro e w' ⟨rfl, ⟨nd, rfl⟩⟩; refine ⟨_, rfl, ?_⟩))
                                go_ret
                                exact ⟨by first | rfl | (simp [errW_none, errW_some] <;> rfl) | (simp [*, errW_none, errW_some] <;> rfl), by repeat (first | (with_reducible first | exact HB.out | apply below_alloc | apply pw_below_drewN | apply below_drew1 | refine below_set ?_ GE220.out | refine below_set ?_ GE238.out) | exact HB.out)⟩
                    · rw [if_neg c63] at H
                      have c63b0 : (t257 == t255) = false := beq_eq_false_iff_ne.mpr c63
                      have c63b1 : (t257 != t255) = true := bne_iff_ne.mpr c63
                      obtain rfl := Option.some.inj H
                      obtain ⟨Ao85, co85, eo85⟩ := Kd.R_slice HO_11.out
                      subst eo85
                      go_wp2_with (first | ((with_reducible refine gate_callee (f := 42) rfl ?_); refine goesL_ (some 72) rfl rfl Tryd.func42 (by kernel_rfl) rfl #[.slice Ao85 t239.length co85, .int .i64 1] rfl (by (try simp only [List.map_toArray, List.map_cons, List.map_nil]); first | done | rfl | (simp only [List.length_drop, List.length_take]; rfl)) ?_; (with_reducible refine (laws_markInt32S.calls kj40 (fun k_ => some k_ = (.slice Ao85 t239.length co85 : Value).ownBlock) (.slice Ao85 t239.length co85) t239 1 t255 t256 w _ ?side1 ?side2 A58.out).mono ?_); (case side1 => repeat (first | (with_reducible first | exact HB.out | apply below_alloc | apply pw_below_drewN | apply below_drew1 | refine below_set ?_ GE220.out | refine below_set ?_ GE238.out) | exact HB.out)); (case side2 => exact Kd.R_tight rfl HO_11.out); rintro e w86 ⟨rfl, hy0, hb, hkp⟩; refine ⟨_, rfl, ?_⟩; have n0_ := Aside0.mk (Kd.R_mono (ok' := fun k_ => some k_ ≠ (.slice Ao85 t239.length co85 : Value).ownBlock ∧ some k_ ≠ (.slice Ao25 t252.length co25 : Value).ownBlock) (Kd.R_keptB (HO_8.out) hkp (fun k_ hk_ hs_ => (hk_.1) hs_)) (fun k_ hk_ => ⟨hk_.1.1, hk_.1.2⟩)); have n1_ := Aside0.mk (Kd.R_reok rfl hy0 (fun k_ e_ => HO_11.out.1 k_ e_)); have n2_ := Aside0.mk (Kd.R_mono (ok' := fun k_ => some k_ ≠ (v229 : Value).ownBlock ∧ some k_ ≠ (.slice Ao85 t239.length co85 : Value).ownBlock) (Kd.R_keptB (HO_239000.out) hkp (fun k_ hk_ hs_ => (hk_.2) hs_)) (fun k_ hk_ => ⟨hk_.1.1, hk_.1.2⟩)); have n3_ := Aside0.mk (Kd.R_mono (ok' := fun k_ => True) (Kd.R_keptB ((Kd.R_apart' HO_239001.out (Kd.R_typed HO_11.out) (by decide))) hkp (fun k_ hk_ hs_ => (hk_.2) hs_)) (fun k_ hk_ => trivial)); have n4_ := Aside0.mk (blk_kept (by (with_reducible repeat (first | refine blk_drewN ?_ _ | refine blk_drew ?_ | refine blk_alloc ?_ _)); exact BK220.out) hkp (fun hs_ => (fun e_ => (Kd.R_ne HO_11.out BK220.out (by decide)) e_) hs_)); have n5_ := Aside0.mk (blk_kept (by (with_reducible repeat (first | refine blk_drewN ?_ _ | refine blk_drew ?_ | refine blk_alloc ?_ _)); exact BK238.out) hkp (fun hs_ => (fun e_ => (Kd.R_ne HO_11.out BK238.out (by decide)) e_) hs_)); have n6_ := Aside0.mk (hb); clear HO_8; clear HO_11; clear HO_239000; clear HO_239001; clear BK220; clear BK238; clear HB; have HO_8 := n0_; have HO_11 := n1_; have HO_239000 := n2_; have HO_239001 := n3_; have BK220 := n4_; have BK238 := n5_; have HB := n6_; clear n0_ n1_ n2_ n3_ n4_ n5_ n6_; (try clear hb); (try clear hkp); (try clear hy0)) | ((with_reducible refine gate_callee (f := 43) rfl ?_); refine goesL_ (some 75) rfl rfl Tryd.func43 (by kernel_rfl) rfl #[.slice Ao85 t256.length co85, .int .i64 1] rfl (by (try simp only [List.map_toArray, List.map_cons, List.map_nil]); first | done | (rw [show t256.length = t239.length from (Kd.R_reads' HO_11.out).1.symm] <;> rfl) | rfl | (simp only [List.length_drop, List.length_take]; rfl)) ?_; (with_reducible refine (laws_heldInt32S.calls kj40 _ _ t256 1 t257 _ ?side1 ?side2 A59.out).mono ?_); (case side1 => repeat (first | exact (Kd.R_reads' HO_11.out).2.2 | (with_reducible refine Kd.C_alloc ?_ _) | (with_reducible refine Kd.C_drewN ?_ _) | (with_reducible refine Kd.C_drew ?_))); (case side2 => rw [show t256.length = t239.length from (Kd.R_reads' HO_11.out).1.symm]; exact (Kd.R_reads' HO_11.out).2.1); rintro e w' ⟨rfl, ⟨nd, rfl⟩⟩; refine ⟨_, rfl, ?_⟩))
                      go_ret
                      exact ⟨by first | rfl | (simp [errW_none, errW_some] <;> rfl) | (simp [*, errW_none, errW_some] <;> rfl), by repeat (first | (with_reducible first | exact HB.out | apply below_alloc | apply pw_below_drewN | apply below_drew1 | refine below_set ?_ GE220.out | refine below_set ?_ GE238.out) | exact HB.out)⟩
          · replace c39 := Bool.eq_false_iff.mpr c39
            subst c39
            have H1 : (some false) = some r := by rw [if_neg (show ¬ (false = true) by decide)] at H; exact H
            clear H
            have H := H1
            clear H1
            obtain rfl := Option.some.inj H
            try go_wp2
            have n0_ := Aside0.mk (Kd.R_drew HO_8.out)
            have n1_ := Aside0.mk (Kd.R_drew HO_11.out)
            have n2_ := Aside0.mk (Kd.R_drew HO_239000.out)
            have n3_ := Aside0.mk (Kd.R_drew HO_239001.out)
            have n4_ := Aside0.mk (blk_drew BK220.out)
            have n5_ := Aside0.mk (blk_drew BK238.out)
            have n6_ := Aside0.mk (below_drew1 HB.out)
            clear HO_8
            clear HO_11
            clear HO_239000
            clear HO_239001
            clear BK220
            clear BK238
            clear HB
            have HO_8 := n0_
            have HO_11 := n1_
            have HO_239000 := n2_
            have HO_239001 := n3_
            have BK220 := n4_
            have BK238 := n5_
            have HB := n6_
            clear n0_ n1_ n2_ n3_ n4_ n5_ n6_
            refine start_ (n := 5) (S := fun w' => w'.cell? ⟨gb238, 0, none⟩ = some (.slice Ao25 t232.length co25) ∧ w'.cell? ⟨gb238, 1, none⟩ = some (.slice Ao28 t235.length co28) ∧ w'.cell? ⟨gb220, 0, none⟩ = some (.slice A0_0 l0_0.length c0_0) ∧ w'.cell? ⟨gb220, 1, none⟩ = some (.slice A0_1 l0_1.length c0_1)) (ds := []) #[false, false, false, false, false] (by kernel_rfl) rfl rfl ⟨(blk_cell BK238.out 0).trans rfl, (blk_cell BK238.out 1).trans rfl, (blk_cell BK220.out 0).trans rfl, (blk_cell BK220.out 1).trans rfl⟩ (fun hHeld => ?_)
            generalize wc.drew = w87 at HO_8 HO_11 HO_239000 HO_239001 BK220 BK238 HB hHeld ⊢
            refine take_ (i := 0) (N := some 49) (v := ?_) (a' := ?_) #[true, false, false, false, false] rfl rfl (by kernel_rfl) (fun _ _ _ h => h) (Or.inl ⟨by rfl, ?_⟩) hHeld ?_ ?_
            rotate_left
            · rintro w' ⟨s0, s1, s2, s3⟩
              go_simp
              with_reducible rfl
            rotate_left
            · simp only [Act.put, List.setIfInBounds_toArray, List.set_cons_zero, List.set_cons_succ, i64_w, i32_w]
              rfl
            refine take_ (i := 1) (N := some 50) (v := ?_) (a' := ?_) #[true, true, false, false, false] rfl rfl (by kernel_rfl) (fun _ _ _ h => h) (Or.inl ⟨by rfl, ?_⟩) hHeld ?_ ?_
            rotate_left
            · rintro w' ⟨s0, s1, s2, s3⟩
              go_simp
              with_reducible rfl
            rotate_left
            · simp only [Act.put, List.setIfInBounds_toArray, List.set_cons_zero, List.set_cons_succ, i64_w, i32_w]
              rfl
            refine one_ (i := 2) (N := some 51) #[true, true, true, false, false] rfl rfl (by kernel_rfl) (by decide) (fun K hK => ?_)
            refine goes_ Tryd.func37 (by kernel_rfl) rfl #[.agg #[.slice A0_0 l0_0.length c0_0, .slice A0_1 l0_1.length c0_1]] (by rfl) rfl rfl (by (try simp only [List.map_toArray, List.map_cons, List.map_nil]); first | done | rfl | (simp only [List.length_drop, List.length_take]; rfl)) ?_
            with_reducible refine (laws_toPieceBuf.calls kj12 _ _ l0_0 _ _ l0_1 t244 t247 _ ?side1 ?side2 ?side3 ?side4 A37.out).mono ?_
            (case side1 => repeat (first | exact (Kd.C_below HR0_0.out HB.out) | (with_reducible refine Kd.C_alloc ?_ _) | (with_reducible refine Kd.C_drewN ?_ _) | (with_reducible refine Kd.C_drew ?_)))
            (case side2 => exact HC0_0.out)
            (case side3 => repeat (first | exact (Kd.C_below HR0_1.out HB.out) | (with_reducible refine Kd.C_alloc ?_ _) | (with_reducible refine Kd.C_drewN ?_ _) | (with_reducible refine Kd.C_drew ?_)))
            (case side4 => exact HC0_1.out)
            rintro e w88 ⟨v245, v248, rfl, ho0, ho1, hb⟩
            refine ⟨_, rfl, ?_⟩
            have n0_ := Aside0.mk (Kd.R_elder' (by (with_reducible repeat (first | apply Kd.R_alloc | apply Kd.R_drewN | apply Kd.R_drew)); exact HO_8.out) (Kd.R_base ho0) hb)
            have n1_ := Aside0.mk (Kd.R_elder' (by (with_reducible repeat (first | apply Kd.R_alloc | apply Kd.R_drewN | apply Kd.R_drew)); exact HO_11.out) (Kd.R_base ho0) hb)
            have n2_ := Aside0.mk (Kd.R_elder' (by (with_reducible repeat (first | apply Kd.R_alloc | apply Kd.R_drewN | apply Kd.R_drew)); exact HO_239000.out) (Kd.R_base ho0) hb)
            have n3_ := Aside0.mk (Kd.R_elder' (by (with_reducible repeat (first | apply Kd.R_alloc | apply Kd.R_drewN | apply Kd.R_drew)); exact HO_239001.out) (Kd.R_base ho1) hb)
            have n4_ := Aside0.mk (Kd.R_lower (Kd.R_new' (Kd.R_new' (Kd.R_new' ho0 (Kd.R_lt (by (with_reducible repeat (first | apply Kd.R_alloc | apply Kd.R_drewN | apply Kd.R_drew)); exact HO_8.out))) (Kd.R_lt (by (with_reducible repeat (first | apply Kd.R_alloc | apply Kd.R_drewN | apply Kd.R_drew)); exact HO_11.out))) (Kd.R_lt (by (with_reducible repeat (first | apply Kd.R_alloc | apply Kd.R_drewN | apply Kd.R_drew)); exact HO_239000.out))) (below_size (by repeat (first | (with_reducible first | exact HB.out | apply below_alloc | apply pw_below_drewN | apply below_drew1 | refine below_set ?_ GE220.out | refine below_set ?_ GE238.out) | exact HB.out))))
            have n5_ := Aside0.mk (Kd.R_lower (Kd.R_new' ho1 (Kd.R_lt (by (with_reducible repeat (first | apply Kd.R_alloc | apply Kd.R_drewN | apply Kd.R_drew)); exact HO_239001.out))) (below_size (by repeat (first | (with_reducible first | exact HB.out | apply below_alloc | apply pw_below_drewN | apply below_drew1 | refine below_set ?_ GE220.out | refine below_set ?_ GE238.out) | exact HB.out))))
            have n6_ := Aside0.mk (blk_below (g := gb220) (o := .cells #[.slice A0_0 l0_0.length c0_0, .slice A0_1 l0_1.length c0_1] 59 (0, 0)) (by (with_reducible repeat (first | refine blk_drewN ?_ _ | refine blk_drew ?_ | refine blk_alloc ?_ _)); exact BK220.out) hb)
            have n7_ := Aside0.mk (blk_below (g := gb238) (o := .cells #[.slice Ao25 t232.length co25, .slice Ao28 t235.length co28] 64 (0, 0)) (by (with_reducible repeat (first | refine blk_drewN ?_ _ | refine blk_drew ?_ | refine blk_alloc ?_ _)); exact BK238.out) hb)
            have n8_ := Aside0.mk (below_step (by repeat (first | (with_reducible first | exact HB.out | apply below_alloc | apply pw_below_drewN | apply below_drew1 | refine below_set ?_ GE220.out | refine below_set ?_ GE238.out) | exact HB.out)) hb)
            clear HO_8
            clear HO_11
            clear HO_239000
            clear HO_239001
            clear BK220
            clear BK238
            clear HB
            have HO_8 := n0_
            have HO_11 := n1_
            have HO_239000 := n2_
            have HO_239001 := n3_
            have HO246 := n4_
            have HO249 := n5_
            have BK220 := n6_
            have BK238 := n7_
            have HB := n8_
            clear n0_ n1_ n2_ n3_ n4_ n5_ n6_ n7_ n8_
            (try clear hb)
            (try clear hb2)
            (try clear hk)
            (try clear hi)
            (try clear ho0)
            (try clear ho1)
            obtain ⟨Ao89, co89, eo89⟩ := Kd.R_slice HO246.out
            (first | subst eo89 | (injection eo89 with f1_ f2_ f3_; have f4_ := f1_.symm; have f5_ := f3_.symm; clear f1_ f2_ f3_; subst f4_; subst f5_))
            obtain ⟨Ao90, co90, eo90⟩ := Kd.R_slice HO249.out
            (first | subst eo90 | (injection eo90 with f1_ f2_ f3_; have f4_ := f1_.symm; have f5_ := f3_.symm; clear f1_ f2_ f3_; subst f4_; subst f5_))
            refine hK.out _ _ ⟨(blk_cell BK238.out 0).trans rfl, (blk_cell BK238.out 1).trans rfl, (blk_cell BK220.out 0).trans rfl, (blk_cell BK220.out 1).trans rfl⟩ (fun hHeld => ?_)
            clear hK K
            refine norm_ (a' := ?_) ?_ ?_
            rotate_left
            · show Act.put _ (some 51) _ = _
              simp only [Act.put, List.setIfInBounds_toArray, List.set_cons_zero, List.set_cons_succ, i64_w, i32_w]
              rfl
            refine one_ (i := 3) (N := some 52) #[true, true, true, true, false] rfl rfl (by kernel_rfl) (by decide) (fun K hK => ?_)
            refine goes_ Tryd.func40 (by kernel_rfl) rfl #[.agg #[.slice Ao25 t232.length co25, .slice Ao28 t235.length co28], .agg #[.slice Ao89 t244.length co89, .slice Ao90 t247.length co90]] (by rfl) rfl rfl (by (try simp only [List.map_toArray, List.map_cons, List.map_nil]); first | done | rfl | (simp only [List.length_drop, List.length_take]; rfl)) ?_
            with_reducible refine (laws_eqPieceBuf.calls kj12 _ _ t232 _ _ t235 _ _ t244 _ _ t247 false _ ?side1 ?side2 ?side3 ?side4 ?side5 ?side6 ?side7 ?side8 A38.out).mono ?_
            (case side1 => repeat (first | exact (Kd.R_reads' HO_239000.out).2.2 | (with_reducible refine Kd.C_alloc ?_ _) | (with_reducible refine Kd.C_drewN ?_ _) | (with_reducible refine Kd.C_drew ?_)))
            (case side2 => exact (Kd.R_reads' HO_239000.out).2.1)
            (case side3 => repeat (first | exact (Kd.R_reads' HO_239001.out).2.2 | (with_reducible refine Kd.C_alloc ?_ _) | (with_reducible refine Kd.C_drewN ?_ _) | (with_reducible refine Kd.C_drew ?_)))
            (case side4 => exact (Kd.R_reads' HO_239001.out).2.1)
            (case side5 => repeat (first | exact (Kd.R_reads' HO246.out).2.2 | (with_reducible refine Kd.C_alloc ?_ _) | (with_reducible refine Kd.C_drewN ?_ _) | (with_reducible refine Kd.C_drew ?_)))
            (case side6 => exact (Kd.R_reads' HO246.out).2.1)
            (case side7 => repeat (first | exact (Kd.R_reads' HO249.out).2.2 | (with_reducible refine Kd.C_alloc ?_ _) | (with_reducible refine Kd.C_drewN ?_ _) | (with_reducible refine Kd.C_drew ?_)))
            (case side8 => exact (Kd.R_reads' HO249.out).2.1)
            rintro e w91 ⟨rfl, hb⟩
            refine ⟨_, rfl, ?_⟩
            have n0_ := Aside0.mk (Kd.R_below (by (with_reducible repeat (first | apply Kd.R_alloc | apply Kd.R_drewN | apply Kd.R_drew)); exact HO_8.out) hb)
            have n1_ := Aside0.mk (Kd.R_below (by (with_reducible repeat (first | apply Kd.R_alloc | apply Kd.R_drewN | apply Kd.R_drew)); exact HO_11.out) hb)
            have n2_ := Aside0.mk (Kd.R_below (by (with_reducible repeat (first | apply Kd.R_alloc | apply Kd.R_drewN | apply Kd.R_drew)); exact HO_239000.out) hb)
            have n3_ := Aside0.mk (Kd.R_below (by (with_reducible repeat (first | apply Kd.R_alloc | apply Kd.R_drewN | apply Kd.R_drew)); exact HO_239001.out) hb)
            have n4_ := Aside0.mk (Kd.R_below (by (with_reducible repeat (first | apply Kd.R_alloc | apply Kd.R_drewN | apply Kd.R_drew)); exact HO246.out) hb)
            have n5_ := Aside0.mk (Kd.R_below (by (with_reducible repeat (first | apply Kd.R_alloc | apply Kd.R_drewN | apply Kd.R_drew)); exact HO249.out) hb)
            have n6_ := Aside0.mk (blk_below (g := gb220) (o := .cells #[.slice A0_0 l0_0.length c0_0, .slice A0_1 l0_1.length c0_1] 59 (0, 0)) (by (with_reducible repeat (first | refine blk_drewN ?_ _ | refine blk_drew ?_ | refine blk_alloc ?_ _)); exact BK220.out) hb)
            have n7_ := Aside0.mk (blk_below (g := gb238) (o := .cells #[.slice Ao25 t232.length co25, .slice Ao28 t235.length co28] 64 (0, 0)) (by (with_reducible repeat (first | refine blk_drewN ?_ _ | refine blk_drew ?_ | refine blk_alloc ?_ _)); exact BK238.out) hb)
            have n8_ := Aside0.mk (below_step (by repeat (first | (with_reducible first | exact HB.out | apply below_alloc | apply pw_below_drewN | apply below_drew1 | refine below_set ?_ GE220.out | refine below_set ?_ GE238.out) | exact HB.out)) hb)
            clear HO_8
            clear HO_11
            clear HO_239000
            clear HO_239001
            clear HO246
            clear HO249
            clear BK220
            clear BK238
            clear HB
            have HO_8 := n0_
            have HO_11 := n1_
            have HO_239000 := n2_
            have HO_239001 := n3_
            have HO246 := n4_
            have HO249 := n5_
            have BK220 := n6_
            have BK238 := n7_
            have HB := n8_
            clear n0_ n1_ n2_ n3_ n4_ n5_ n6_ n7_ n8_
            (try clear hb)
            (try clear hb2)
            (try clear hk)
            (try clear hi)
            refine hK.out _ _ ⟨(blk_cell BK238.out 0).trans rfl, (blk_cell BK238.out 1).trans rfl, (blk_cell BK220.out 0).trans rfl, (blk_cell BK220.out 1).trans rfl⟩ (fun hHeld => ?_)
            clear hK K
            refine norm_ (a' := ?_) ?_ ?_
            rotate_left
            · show Act.put _ (some 52) _ = _
              simp only [Act.put, List.setIfInBounds_toArray, List.set_cons_zero, List.set_cons_succ, i64_w, i32_w]
              rfl
            refine pure_ (i := 4) (N := some 53) (v := ?_) (a' := ?_) #[true, true, true, true, true] rfl rfl (by kernel_rfl) (fun _ _ _ h => h) (Or.inl ⟨by rfl, ?_⟩) ?_ ?_
            rotate_left
            · intro w'
              go_simp
              with_reducible rfl
            rotate_left
            · simp only [Act.put, List.setIfInBounds_toArray, List.set_cons_zero, List.set_cons_succ, i64_w, i32_w]
              rfl
            refine done_ (by kernel_rfl) ?_
            try go_wp2
            go_ret
            exact ⟨by first | rfl | (simp [errW_none, errW_some] <;> rfl) | (simp [*, errW_none, errW_some] <;> rfl), by repeat (first | (with_reducible first | exact HB.out | apply below_alloc | apply pw_below_drewN | apply below_drew1 | refine below_set ?_ GE220.out | refine below_set ?_ GE238.out) | exact HB.out)⟩

end Go.Proofs.YtciabhncmdpeeaaDoor.QFnExactPieceSlice
