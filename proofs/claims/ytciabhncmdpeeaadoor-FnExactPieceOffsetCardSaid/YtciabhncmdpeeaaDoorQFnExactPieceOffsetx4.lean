/- What the law FnExactPieceOffset reaches: each function as a plain function, and that the machine's call does it (written by a program). The condition, where there is one: errors.errorType reads as laid. -/
import Derived.Test.YtciabhncmdpeeaaDoorQFnExactPieceOffsetx0
import Derived.Test.YtciabhncmdpeeaaDoorQFnExactPieceOffsetx3
namespace Go.Proofs.YtciabhncmdpeeaaDoor.QFnExactPieceOffset
open Go.Proofs.YtciabhncmdpeeaaDoor.Er
open Go.RowKit Go.Proofs.YtciabhncmdpeeaaDoorW.PrintWords Go.Proofs.YtciabhncmdpeeaaDoorW.PrintLast Go.Proofs.YtciabhncmdpeeaaDoorW.PrintMore
attribute [local go_sem] max2_int min2_int max_two min_two max_three min_three max_four min_four   -- for this text's walks alone
set_option linter.unusedVariables false
set_option linter.unusedSimpArgs false

/-! ### spec_L4PieceValid: function 83 -/
mutual
def spec_L4PieceValid.j0 : Nat → Bool → List Int → List (S54) → Option (Bool)
  | 0, _, _, _ => none
  | k + 1, x14, x176000, x176001 => if x14 = true then (some false) else (spec_L4PieceValid.l0 k x176001 (x176001.length : Int) 0 x176000 x176001)
def spec_L4PieceValid.l0 : Nat → List (S54) → Int → Int → List Int → List (S54) → Option (Bool)
  | 0, _, _, _, _, _ => none
  | k + 1, x17, x18, x19, x176000, x176001 => if x19 < x18 then (if 0 ≤ x19 then (if x19 < (x17.length : Int) then (if (wrap64 (((rd_T54 x17 x19).f0.f0) + ((rd_T54 x17 x19).f0.f1))) > (x176000.length : Int) then (some false) else (if 0 ≤ ((rd_T54 x17 x19).f0.f0) then (if ((rd_T54 x17 x19).f0.f0) ≤ (wrap64 (((rd_T54 x17 x19).f0.f0) + ((rd_T54 x17 x19).f0.f1))) then (if (wrap64 (((rd_T54 x17 x19).f0.f0) + ((rd_T54 x17 x19).f0.f1))) ≤ (x176000.length : Int) then ((spec_l1Breaks.f k ((x176000.take ((wrap64 (((rd_T54 x17 x19).f0.f0) + ((rd_T54 x17 x19).f0.f1))) : Int).toNat).drop (((rd_T54 x17 x19).f0.f0) : Int).toNat)).bind fun t180 => (if ((rd_T54 x17 x19).f0.f2) = t180 then (spec_L4PieceValid.l0 k x17 x18 (wrap64 (x19 + 1)) x176000 x176001) else (some false))) else (none)) else (none)) else (none))) else (none)) else (none)) else (some true)
end
def spec_L4PieceValid.f (k : Nat) (l0_0 : List Int) (l0_1 : List (S54)) : Option (Bool) := if (l0_0.length : Int) > 220000 then (spec_L4PieceValid.j0 k true l0_0 l0_1) else ((spec_L2Valid.f k l0_1).bind fun t176 => (spec_L4PieceValid.j0 k (!t176) l0_0 l0_1))
theorem spec_L4PieceValid.mono_l : ∀ k, (∀ y0 y1 y2, LeO (spec_L4PieceValid.j0 k y0 y1 y2) (spec_L4PieceValid.j0 (k + 1) y0 y1 y2)) ∧ (∀ y0 y1 y2 y3 y4, LeO (spec_L4PieceValid.l0 k y0 y1 y2 y3 y4) (spec_L4PieceValid.l0 (k + 1) y0 y1 y2 y3 y4))
  | 0 => ⟨fun _ _ _ r h => by simp [spec_L4PieceValid.j0] at h, fun _ _ _ _ _ r h => by simp [spec_L4PieceValid.l0] at h⟩
  | k + 1 => by
    obtain ⟨ih0, ih1⟩ := spec_L4PieceValid.mono_l k
    refine ⟨?_, ?_⟩
    · intro y0 y1 y2
      unfold spec_L4PieceValid.j0
      repeat' first
      | (with_reducible exact ih0 _ _ _)
      | (with_reducible exact ih1 _ _ _ _ _)
      | (with_reducible exact spec_L2Valid.mono _ _)
      | (with_reducible exact spec_l1Breaks.mono _ _)
      | (with_reducible exact LeO.refl _)
      | (with_reducible exact LeO.none _)
      | (with_reducible refine LeO.ite ?_ ?_)
      | (with_reducible refine LeO.bind ?_ (fun _ => ?_))
      | exact ih0 _ _ _
      | exact ih1 _ _ _ _ _
      | exact spec_L2Valid.mono _ _
      | exact spec_l1Breaks.mono _ _
      | exact LeO.none _
      | refine LeO.ite ?_ ?_
      | refine LeO.bind ?_ (fun _ => ?_)
    · intro y0 y1 y2 y3 y4
      unfold spec_L4PieceValid.l0
      repeat' first
      | (with_reducible exact ih0 _ _ _)
      | (with_reducible exact ih1 _ _ _ _ _)
      | (with_reducible exact spec_L2Valid.mono _ _)
      | (with_reducible exact spec_l1Breaks.mono _ _)
      | (with_reducible exact LeO.refl _)
      | (with_reducible exact LeO.none _)
      | (with_reducible refine LeO.ite ?_ ?_)
      | (with_reducible refine LeO.bind ?_ (fun _ => ?_))
      | exact ih0 _ _ _
      | exact ih1 _ _ _ _ _
      | exact spec_L2Valid.mono _ _
      | exact spec_l1Breaks.mono _ _
      | exact LeO.none _
      | refine LeO.ite ?_ ?_
      | refine LeO.bind ?_ (fun _ => ?_)
theorem spec_L4PieceValid.mono : ∀ a0 a1 k, LeO (spec_L4PieceValid.f k a0 a1) (spec_L4PieceValid.f (k + 1) a0 a1) := by
  intro a0 a1 k
  obtain ⟨ih0, ih1⟩ := spec_L4PieceValid.mono_l k
  unfold spec_L4PieceValid.f
  repeat' first
      | (with_reducible exact ih0 _ _ _)
      | (with_reducible exact ih1 _ _ _ _ _)
      | (with_reducible exact spec_L2Valid.mono _ _)
      | (with_reducible exact spec_l1Breaks.mono _ _)
      | (with_reducible exact LeO.refl _)
      | (with_reducible exact LeO.none _)
      | (with_reducible refine LeO.ite ?_ ?_)
      | (with_reducible refine LeO.bind ?_ (fun _ => ?_))
      | exact ih0 _ _ _
      | exact ih1 _ _ _ _ _
      | exact spec_L2Valid.mono _ _
      | exact spec_l1Breaks.mono _ _
      | exact LeO.none _
      | refine LeO.ite ?_ ?_
      | refine LeO.bind ?_ (fun _ => ?_)
set_option maxHeartbeats 8000000 in
set_option maxRecDepth 100000 in
theorem spec_L4PieceValid.calls (k : Nat) (A0_0 : Option Addr) (c0_0 : Nat) (l0_0 : List Int) (A0_1 : Option Addr) (c0_1 : Nat) (l0_1 : List (S54)) (r : Bool) (w : World) (hr0_0 : Kd.C (Kd.int .i32) w A0_0 l0_0.length l0_0) (hc0_0 : l0_0.length ≤ c0_0) (hr0_1 : Kd.C k54 w A0_1 l0_1.length l0_1) (hc0_1 : l0_1.length ≤ c0_1) (h : spec_L4PieceValid.f k l0_0 l0_1 = some r) :
    Calls Tryd.prog 83 #[.agg #[.slice A0_0 l0_0.length c0_0, .slice A0_1 l0_1.length c0_1]] w fun e w' => e = .returned (.bool r) ∧ Below w.heap.size w w' := by
  have hu64 := Tryd.underlying64
  have hu30 := Tryd.underlying30
  have hu54 := Tryd.underlying54
  have HR0_0 := Aside0.mk hr0_0
  have HC0_0 := Aside0.mk hc0_0
  clear hr0_0 hc0_0
  have HR0_1 := Aside0.mk hr0_1
  have HC0_1 := Aside0.mk hc0_1
  clear hr0_1 hc0_1
  have HB := Aside0.mk (Below.refl w.heap.size w)
  have H : (if (l0_0.length : Int) > 220000 then (spec_L4PieceValid.j0 k true l0_0 l0_1) else ((spec_L2Valid.f k l0_1).bind fun t176 => (spec_L4PieceValid.j0 k (!t176) l0_0 l0_1))) = some r := h
  clear h
  have HC2 := Aside0.mk H
  clear H
  go_enter Tryd.func83, Tryd.ntmps83
  go_upto_region 1 with (first | ((with_reducible refine gate_dst (N := 1) rfl ?_); refine box_event ?hg (N := 1) ?hd (cs := #[.slice A0_0 l0_0.length c0_0, .slice A0_1 l0_1.length c0_1]) (t := 64) ?hr ?_; (case hd => rfl); (case hg => rfl); (case hr => first | (go_simp; done) | (go_simp; rfl)); intro gb175 hg w3 hbox hb; have n0_ := Aside0.mk (below_step (by repeat (first | (with_reducible first | exact HB.out | apply below_alloc | apply pw_below_drewN | apply below_drew1) | exact HB.out)) hb); have n1_ := Aside0.mk (hbox); have n2_ := Aside0.mk ((by rw [hg]; exact (below_size (by repeat (first | (with_reducible first | exact HB.out | apply below_alloc | apply pw_below_drewN | apply below_drew1) | exact HB.out))) : w.heap.size ≤ gb175)); have n3_ := Aside0.mk ((by rw [hg]; exact (below_size (by repeat (first | (with_reducible first | exact HB.out | apply below_alloc | apply pw_below_drewN | apply below_drew1) | exact HB.out))) : w.heap.size ≤ gb175)); clear HB; have HB := n0_; have BK175 := n1_; have GW175 := n2_; have GE175 := n3_; clear n0_ n1_ n2_ n3_; clear hb hbox hg))
  repeat (go_quiet (first | ((with_reducible refine gate_dst (N := 1) rfl ?_); refine box_event ?hg (N := 1) ?hd (cs := #[.slice A0_0 l0_0.length c0_0, .slice A0_1 l0_1.length c0_1]) (t := 64) ?hr ?_; (case hd => rfl); (case hg => rfl); (case hr => first | (go_simp; done) | (go_simp; rfl)); intro gb175 hg w3 hbox hb; have n0_ := Aside0.mk (below_step (by repeat (first | (with_reducible first | exact HB.out | apply below_alloc | apply pw_below_drewN | apply below_drew1) | exact HB.out)) hb); have n1_ := Aside0.mk (hbox); have n2_ := Aside0.mk ((by rw [hg]; exact (below_size (by repeat (first | (with_reducible first | exact HB.out | apply below_alloc | apply pw_below_drewN | apply below_drew1) | exact HB.out))) : w.heap.size ≤ gb175)); have n3_ := Aside0.mk ((by rw [hg]; exact (below_size (by repeat (first | (with_reducible first | exact HB.out | apply below_alloc | apply pw_below_drewN | apply below_drew1) | exact HB.out))) : w.heap.size ≤ gb175)); clear HB; have HB := n0_; have BK175 := n1_; have GW175 := n2_; have GE175 := n3_; clear n0_ n1_ n2_ n3_; clear hb hbox hg)); go_upto_region 1 with (first | ((with_reducible refine gate_dst (N := 1) rfl ?_); refine box_event ?hg (N := 1) ?hd (cs := #[.slice A0_0 l0_0.length c0_0, .slice A0_1 l0_1.length c0_1]) (t := 64) ?hr ?_; (case hd => rfl); (case hg => rfl); (case hr => first | (go_simp; done) | (go_simp; rfl)); intro gb175 hg w3 hbox hb; have n0_ := Aside0.mk (below_step (by repeat (first | (with_reducible first | exact HB.out | apply below_alloc | apply pw_below_drewN | apply below_drew1) | exact HB.out)) hb); have n1_ := Aside0.mk (hbox); have n2_ := Aside0.mk ((by rw [hg]; exact (below_size (by repeat (first | (with_reducible first | exact HB.out | apply below_alloc | apply pw_below_drewN | apply below_drew1) | exact HB.out))) : w.heap.size ≤ gb175)); have n3_ := Aside0.mk ((by rw [hg]; exact (below_size (by repeat (first | (with_reducible first | exact HB.out | apply below_alloc | apply pw_below_drewN | apply below_drew1) | exact HB.out))) : w.heap.size ≤ gb175)); clear HB; have HB := n0_; have BK175 := n1_; have GW175 := n2_; have GE175 := n3_; clear n0_ n1_ n2_ n3_; clear hb hbox hg)))
  (try simp only [Act.put, List.setIfInBounds_toArray, List.set_cons_zero, List.set_cons_succ])
  go_cut [14] (fun v14 wc => ∃ (kq : Nat) (x14_1 : Bool), v14 = .bool x14_1 ∧ Aside0 (spec_L4PieceValid.j0 kq x14_1 l0_0 l0_1 = some r) ∧ Aside0 (kq ≤ k) ∧ Aside0 (wc.heap[gb175]? = some (.cells #[(.slice A0_0 l0_0.length c0_0), (.slice A0_1 l0_1.length c0_1)] 64 (0, 0))) ∧ Aside0 (Below w.heap.size w wc))
  case first =>
    have H := HC2.out
    clear HC2
    by_cases c4 : (l0_0.length : Int) > 220000
    · rw [if_pos c4] at H
      have c4b0 : decide (220000 < (l0_0.length : Int)) = true := decide_eq_true c4
      have c4b1 : decide (220000 < l0_0.length) = true := decide_eq_true (by omega)
      clear c4
      (first | rw [c4b0] | (simp only [i64_w, i32_w]; rw [c4b0]) | skip)
      have H' := Aside0.mk H
      clear H
      have hcz5_0 : w3.cell? ⟨gb175, 0, none⟩ = some (.slice A0_0 l0_0.length c0_0) := (blk_cell BK175.out 0).trans rfl
      have hcz5_1 : w3.cell? ⟨gb175, 1, none⟩ = some (.slice A0_1 l0_1.length c0_1) := (blk_cell BK175.out 1).trans rfl
      have hfz5_0 := blk_frozen BK175.out 0
      have hfz5_1 := blk_frozen BK175.out 1
      go_wp2
      repeat (go_quiet (fail); try go_wp2)
      go_meet
      case rel => exact ⟨_, (true), (by first | rfl | (simp; done) | (simp [*]; done)), H', ⟨by first | omega | exact Nat.le_refl _⟩, ⟨by (with_reducible repeat (first | refine blk_drewN ?_ _ | refine blk_drew ?_ | refine blk_alloc ?_ _)); exact BK175.out⟩, ⟨by repeat (first | (with_reducible first | exact HB.out | apply below_alloc | apply pw_below_drewN | apply below_drew1 | refine below_set ?_ GE175.out) | exact HB.out)⟩⟩
    · rw [if_neg c4] at H
      have c4b0 : decide (220000 < (l0_0.length : Int)) = false := decide_eq_false c4
      have c4b1 : decide (220000 < l0_0.length) = false := decide_eq_false (by omega)
      clear c4
      (first | rw [c4b0] | (simp only [i64_w, i32_w]; rw [c4b0]) | skip)
      replace H := Option.bind_eq_some_iff.mp H
      obtain ⟨t176, A60, H⟩ := H
      replace H : (spec_L4PieceValid.j0 k (!t176) l0_0 l0_1) = some r := H
      have A6 := Aside0.mk A60
      clear A60
      have H' := Aside0.mk H
      clear H
      have hcz7_0 : w3.cell? ⟨gb175, 0, none⟩ = some (.slice A0_0 l0_0.length c0_0) := (blk_cell BK175.out 0).trans rfl
      have hcz7_1 : w3.cell? ⟨gb175, 1, none⟩ = some (.slice A0_1 l0_1.length c0_1) := (blk_cell BK175.out 1).trans rfl
      have hfz7_0 := blk_frozen BK175.out 0
      have hfz7_1 := blk_frozen BK175.out 1
      go_wp2_with (first | (go_at_call 28; (first | rw [← hln28_] | rw [← hln33_] | rw [← hln17_] | skip); (with_reducible refine (spec_L2Valid.calls k _ _ l0_1 t176 _ ?side1 ?side2 A6.out).mono ?_); (case side1 => repeat (first | exact (Kd.C_below HR0_1.out HB.out) | (with_reducible refine Kd.C_alloc ?_ _) | (with_reducible refine Kd.C_drewN ?_ _) | (with_reducible refine Kd.C_drew ?_))); (case side2 => exact HC0_1.out); rintro e w8 ⟨rfl, hb⟩; have n0_ := Aside0.mk (blk_below (g := gb175) (o := .cells #[.slice A0_0 l0_0.length c0_0, .slice A0_1 l0_1.length c0_1] 64 (0, 0)) (by (with_reducible repeat (first | refine blk_drewN ?_ _ | refine blk_drew ?_ | refine blk_alloc ?_ _)); exact BK175.out) hb); have n1_ := Aside0.mk (below_step (by repeat (first | (with_reducible first | exact HB.out | apply below_alloc | apply pw_below_drewN | apply below_drew1 | refine below_set ?_ GE175.out) | exact HB.out)) hb); clear BK175; clear HB; have BK175 := n0_; have HB := n1_; clear n0_ n1_; (try clear hb); (try clear hb2); (try clear hk); (try clear hi)))
      repeat (go_quiet (first | (go_at_call 28; (first | rw [← hln28_] | rw [← hln33_] | rw [← hln17_] | skip); (with_reducible refine (spec_L2Valid.calls k _ _ l0_1 t176 _ ?side1 ?side2 A6.out).mono ?_); (case side1 => repeat (first | exact (Kd.C_below HR0_1.out HB.out) | (with_reducible refine Kd.C_alloc ?_ _) | (with_reducible refine Kd.C_drewN ?_ _) | (with_reducible refine Kd.C_drew ?_))); (case side2 => exact HC0_1.out); rintro e w8 ⟨rfl, hb⟩; have n0_ := Aside0.mk (blk_below (g := gb175) (o := .cells #[.slice A0_0 l0_0.length c0_0, .slice A0_1 l0_1.length c0_1] 64 (0, 0)) (by (with_reducible repeat (first | refine blk_drewN ?_ _ | refine blk_drew ?_ | refine blk_alloc ?_ _)); exact BK175.out) hb); have n1_ := Aside0.mk (below_step (by repeat (first | (with_reducible first | exact HB.out | apply below_alloc | apply pw_below_drewN | apply below_drew1 | refine below_set ?_ GE175.out) | exact HB.out)) hb); clear BK175; clear HB; have BK175 := n0_; have HB := n1_; clear n0_ n1_; (try clear hb); (try clear hb2); (try clear hk); (try clear hi))); try go_wp2_with (first | (go_at_call 28; (first | rw [← hln28_] | rw [← hln33_] | rw [← hln17_] | skip); (with_reducible refine (spec_L2Valid.calls k _ _ l0_1 t176 _ ?side1 ?side2 A6.out).mono ?_); (case side1 => repeat (first | exact (Kd.C_below HR0_1.out HB.out) | (with_reducible refine Kd.C_alloc ?_ _) | (with_reducible refine Kd.C_drewN ?_ _) | (with_reducible refine Kd.C_drew ?_))); (case side2 => exact HC0_1.out); rintro e w8 ⟨rfl, hb⟩; have n0_ := Aside0.mk (blk_below (g := gb175) (o := .cells #[.slice A0_0 l0_0.length c0_0, .slice A0_1 l0_1.length c0_1] 64 (0, 0)) (by (with_reducible repeat (first | refine blk_drewN ?_ _ | refine blk_drew ?_ | refine blk_alloc ?_ _)); exact BK175.out) hb); have n1_ := Aside0.mk (below_step (by repeat (first | (with_reducible first | exact HB.out | apply below_alloc | apply pw_below_drewN | apply below_drew1 | refine below_set ?_ GE175.out) | exact HB.out)) hb); clear BK175; clear HB; have BK175 := n0_; have HB := n1_; clear n0_ n1_; (try clear hb); (try clear hb2); (try clear hk); (try clear hi))))
      go_meet
      case rel => exact ⟨_, (!t176), (by first | rfl | (simp; done) | (simp [*]; done)), H', ⟨by first | omega | exact Nat.le_refl _⟩, ⟨by (with_reducible repeat (first | refine blk_drewN ?_ _ | refine blk_drew ?_ | refine blk_alloc ?_ _)); exact BK175.out⟩, ⟨by repeat (first | (with_reducible first | exact HB.out | apply below_alloc | apply pw_below_drewN | apply below_drew1 | refine below_set ?_ GE175.out) | exact HB.out)⟩⟩
  case rest =>
    clear HC2
    try clear p2
    try clear c4
    try clear c4b0
    try clear c4b1
    try clear c8
    try clear hcz5_0
    try clear hcz5_1
    try clear hcz7_0
    try clear hcz7_1
    try clear hfz5_0
    try clear hfz5_1
    try clear hfz7_0
    try clear hfz7_1
    obtain ⟨kq, x14_1, rfl, HA, HJ1, BK175, HB⟩ := hcut
    cases kq with
    | zero => exact absurd HA.out (by simp [spec_L4PieceValid.j0])
    | succ kj1 =>
      have H := HA.out
      clear HA
      simp only [spec_L4PieceValid.j0] at H
      by_cases c9 : x14_1 = true
      · subst c9
        have H1 : (some false) = some r := by rw [if_pos rfl] at H; exact H
        clear H
        have H := H1
        clear H1
        obtain rfl := Option.some.inj H
        go_wp2
        repeat (go_quiet (fail); try go_wp2)
        go_ret
        exact ⟨by first | rfl | (simp [errW_none, errW_some] <;> rfl) | (simp [*, errW_none, errW_some] <;> rfl), by repeat (first | (with_reducible first | exact HB.out | apply below_alloc | apply pw_below_drewN | apply below_drew1 | refine below_set ?_ GE175.out) | exact HB.out)⟩
      · replace c9 := Bool.eq_false_iff.mpr c9
        subst c9
        have H1 : (spec_L4PieceValid.l0 kj1 l0_1 (l0_1.length : Int) 0 l0_0 l0_1) = some r := by rw [if_neg (show ¬ (false = true) by decide)] at H; exact H
        clear H
        have H := H1
        clear H1
        have H' := Aside0.mk H
        clear H
        have hcz10_0 : wc.cell? ⟨gb175, 0, none⟩ = some (.slice A0_0 l0_0.length c0_0) := (blk_cell BK175.out 0).trans rfl
        have hcz10_1 : wc.cell? ⟨gb175, 1, none⟩ = some (.slice A0_1 l0_1.length c0_1) := (blk_cell BK175.out 1).trans rfl
        have hfz10_0 := blk_frozen BK175.out 0
        have hfz10_1 := blk_frozen BK175.out 1
        go_wp2
        repeat (go_quiet (fail); try go_wp2)
        go_loopg [19] kj1 (fun kq v19 w' => ∃ (x19_2 : Int), v19 = .int .i64 x19_2 ∧ Aside0 (spec_L4PieceValid.l0 kq l0_1 (l0_1.length : Int) x19_2 l0_0 l0_1 = some r) ∧ Aside0 (kq ≤ kj1) ∧ Aside0 (w'.heap[gb175]? = some (.cells #[(.slice A0_0 l0_0.length c0_0), (.slice A0_1 l0_1.length c0_1)] 64 (0, 0))) ∧ Aside0 (Below w.heap.size w w'))
        case atStart => exact ⟨(0), (by first | rfl | (simp; done) | (simp [*]; done)), H', ⟨Nat.le_refl _⟩, ⟨by (with_reducible repeat (first | refine blk_drewN ?_ _ | refine blk_drew ?_ | refine blk_alloc ?_ _)); exact BK175.out⟩, ⟨by repeat (first | (with_reducible first | exact HB.out | apply below_alloc | apply pw_below_drewN | apply below_drew1 | refine below_set ?_ GE175.out) | exact HB.out)⟩⟩
        case round =>
          clear H'
          try clear p2
          try clear c4
          try clear c4b0
          try clear c4b1
          try clear c8
          try clear c9
          try clear hcz10_0
          try clear hcz10_1
          try clear hcz5_0
          try clear hcz5_1
          try clear hcz7_0
          try clear hcz7_1
          try clear hfz10_0
          try clear hfz10_1
          try clear hfz5_0
          try clear hfz5_1
          try clear hfz7_0
          try clear hfz7_1
          try clear p2
          obtain ⟨x19_2, rfl, HA, HK2, BK175, HB⟩ := hrel
          cases gk with
          | zero => exact absurd HA.out (by simp [spec_L4PieceValid.l0])
          | succ k2 =>
            have H := HA.out
            clear HA
            simp only [spec_L4PieceValid.l0] at H
            by_cases c11 : x19_2 < (l0_1.length : Int)
            · rw [if_pos c11] at H
              have c11b0 : decide (x19_2 < (l0_1.length : Int)) = true := decide_eq_true c11
              clear c11
              by_cases c12 : 0 ≤ x19_2
              · rw [if_pos c12] at H
                have c12b0 : decide (0 ≤ x19_2) = true := decide_eq_true c12
                clear c12
                by_cases c13 : x19_2 < (l0_1.length : Int)
                · rw [if_pos c13] at H
                  have c13b0 : decide (x19_2 < (l0_1.length : Int)) = true := decide_eq_true c13
                  clear c13
                  by_cases c14 : (wrap64 (((rd_T54 l0_1 x19_2).f0.f0) + ((rd_T54 l0_1 x19_2).f0.f1))) > (l0_0.length : Int)
                  · rw [if_pos c14] at H
                    have c14b0 : decide ((l0_0.length : Int) < (wrap64 (((rd_T54 l0_1 x19_2).f0.f0) + ((rd_T54 l0_1 x19_2).f0.f1)))) = true := decide_eq_true c14
                    clear c14
                    obtain rfl := Option.some.inj H
                    have p177 : 0 ≤ (x19_2 : Int) := of_decide_eq_true (by first | (with_reducible assumption) | assumption)
                    have q177 : x19_2 < (l0_1.length : Int) := of_decide_eq_true (by first | (with_reducible assumption) | assumption)
                    obtain ⟨ad177, e177, hx177_0, hx177_1, hx177_2, hx177_3⟩ := at_T54 HR0_1.out x19_2 p177 q177
                    cases e177
                    replace hx177_0 := (HB.out.cell (World.block_lt_of_cell? w _ hx177_0)).trans hx177_0
                    replace hx177_1 := (HB.out.cell (World.block_lt_of_cell? w _ hx177_1)).trans hx177_1
                    replace hx177_2 := (HB.out.cell (World.block_lt_of_cell? w _ hx177_2)).trans hx177_2
                    replace hx177_3 := (HB.out.cell (World.block_lt_of_cell? w _ hx177_3)).trans hx177_3
                    replace p177 := eq_true p177
                    replace q177 := eq_true q177
                    go_wp2_with (first | ((with_reducible refine gate_dst (N := 4) rfl ?_); refine box_event ?hg (N := 4) ?hd (cs := #[.int .i64 0, .int .i64 0, .int .i64 0, .int .i64 0]) (t := 54) ?hr ?_; (case hd => rfl); (case hg => rfl); (case hr => first | (go_simp; done) | (go_simp; rfl)); intro gb178 hg w15 hbox hb; have n0_ := Aside0.mk (blk_below (g := gb175) (o := .cells #[.slice A0_0 l0_0.length c0_0, .slice (some ad177) l0_1.length c0_1] 64 (0, 0)) (by (with_reducible repeat (first | refine blk_drewN ?_ _ | refine blk_drew ?_ | refine blk_alloc ?_ _)); exact BK175.out) hb); have n1_ := Aside0.mk (below_step (by repeat (first | (with_reducible first | exact HB.out | apply below_alloc | apply pw_below_drewN | apply below_drew1 | refine below_set ?_ GE175.out) | exact HB.out)) hb); have n2_ := Aside0.mk (hbox); have n3_ := Aside0.mk ((by rw [hg]; exact (below_size (by repeat (first | (with_reducible first | exact HB.out | apply below_alloc | apply pw_below_drewN | apply below_drew1 | refine below_set ?_ GE175.out) | exact HB.out))) : w.heap.size ≤ gb178)); have n4_ := Aside0.mk ((by rw [hg]; exact (below_size (by repeat (first | (with_reducible first | exact HB.out | apply below_alloc | apply pw_below_drewN | apply below_drew1 | refine below_set ?_ GE175.out) | exact HB.out))) : w.heap.size ≤ gb178)); have n5_ := Aside0.mk ((by rw [hg]; exact Nat.ne_of_lt (blk_lt (g := gb175) (o := .cells #[.slice A0_0 l0_0.length c0_0, .slice (some ad177) l0_1.length c0_1] 64 (0, 0)) (by (with_reducible repeat (first | refine blk_drewN ?_ _ | refine blk_drew ?_ | refine blk_alloc ?_ _)); exact BK175.out)) : gb175 ≠ gb178)); have n6_ := Aside0.mk ((by rw [hg]; exact Nat.ne_of_gt (blk_lt (g := gb175) (o := .cells #[.slice A0_0 l0_0.length c0_0, .slice (some ad177) l0_1.length c0_1] 64 (0, 0)) (by (with_reducible repeat (first | refine blk_drewN ?_ _ | refine blk_drew ?_ | refine blk_alloc ?_ _)); exact BK175.out)) : gb178 ≠ gb175)); clear BK175; clear HB; have BK175 := n0_; have HB := n1_; have BK178 := n2_; have GW178 := n3_; have GE178 := n4_; have NB175_178 := n5_; have NB178_175 := n6_; clear n0_ n1_ n2_ n3_ n4_ n5_ n6_; clear hb hbox hg; have hnb16 := NB178_175.out; have hnc16 := NB175_178.out; have hcz17_0 : w15.cell? ⟨gb178, 0, none⟩ = some (.int .i64 0) := (blk_cell BK178.out 0).trans rfl; have hcz17_1 : w15.cell? ⟨gb178, 1, none⟩ = some (.int .i64 0) := (blk_cell BK178.out 1).trans rfl; have hcz17_2 : w15.cell? ⟨gb178, 2, none⟩ = some (.int .i64 0) := (blk_cell BK178.out 2).trans rfl; have hcz17_3 : w15.cell? ⟨gb178, 3, none⟩ = some (.int .i64 0) := (blk_cell BK178.out 3).trans rfl; have hfz17_0 := blk_frozen BK178.out 0; have hfz17_1 := blk_frozen BK178.out 1; have hfz17_2 := blk_frozen BK178.out 2; have hfz17_3 := blk_frozen BK178.out 3; have hcz18_0 : w15.cell? ⟨gb175, 0, none⟩ = some (.slice A0_0 l0_0.length c0_0) := (blk_cell BK175.out 0).trans rfl; have hcz18_1 : w15.cell? ⟨gb175, 1, none⟩ = some (.slice (some ad177) l0_1.length c0_1) := (blk_cell BK175.out 1).trans rfl; have hfz18_0 := blk_frozen BK175.out 0; have hfz18_1 := blk_frozen BK175.out 1))
                    repeat (go_quiet (first | ((with_reducible refine gate_dst (N := 4) rfl ?_); refine box_event ?hg (N := 4) ?hd (cs := #[.int .i64 0, .int .i64 0, .int .i64 0, .int .i64 0]) (t := 54) ?hr ?_; (case hd => rfl); (case hg => rfl); (case hr => first | (go_simp; done) | (go_simp; rfl)); intro gb178 hg w15 hbox hb; have n0_ := Aside0.mk (blk_below (g := gb175) (o := .cells #[.slice A0_0 l0_0.length c0_0, .slice (some ad177) l0_1.length c0_1] 64 (0, 0)) (by (with_reducible repeat (first | refine blk_drewN ?_ _ | refine blk_drew ?_ | refine blk_alloc ?_ _)); exact BK175.out) hb); have n1_ := Aside0.mk (below_step (by repeat (first | (with_reducible first | exact HB.out | apply below_alloc | apply pw_below_drewN | apply below_drew1 | refine below_set ?_ GE175.out) | exact HB.out)) hb); have n2_ := Aside0.mk (hbox); have n3_ := Aside0.mk ((by rw [hg]; exact (below_size (by repeat (first | (with_reducible first | exact HB.out | apply below_alloc | apply pw_below_drewN | apply below_drew1 | refine below_set ?_ GE175.out) | exact HB.out))) : w.heap.size ≤ gb178)); have n4_ := Aside0.mk ((by rw [hg]; exact (below_size (by repeat (first | (with_reducible first | exact HB.out | apply below_alloc | apply pw_below_drewN | apply below_drew1 | refine below_set ?_ GE175.out) | exact HB.out))) : w.heap.size ≤ gb178)); have n5_ := Aside0.mk ((by rw [hg]; exact Nat.ne_of_lt (blk_lt (g := gb175) (o := .cells #[.slice A0_0 l0_0.length c0_0, .slice (some ad177) l0_1.length c0_1] 64 (0, 0)) (by (with_reducible repeat (first | refine blk_drewN ?_ _ | refine blk_drew ?_ | refine blk_alloc ?_ _)); exact BK175.out)) : gb175 ≠ gb178)); have n6_ := Aside0.mk ((by rw [hg]; exact Nat.ne_of_gt (blk_lt (g := gb175) (o := .cells #[.slice A0_0 l0_0.length c0_0, .slice (some ad177) l0_1.length c0_1] 64 (0, 0)) (by (with_reducible repeat (first | refine blk_drewN ?_ _ | refine blk_drew ?_ | refine blk_alloc ?_ _)); exact BK175.out)) : gb178 ≠ gb175)); clear BK175; clear HB; have BK175 := n0_; have HB := n1_; have BK178 := n2_; have GW178 := n3_; have GE178 := n4_; have NB175_178 := n5_; have NB178_175 := n6_; clear n0_ n1_ n2_ n3_ n4_ n5_ n6_; clear hb hbox hg; have hnb16 := NB178_175.out; have hnc16 := NB175_178.out; have hcz17_0 : w15.cell? ⟨gb178, 0, none⟩ = some (.int .i64 0) := (blk_cell BK178.out 0).trans rfl; have hcz17_1 : w15.cell? ⟨gb178, 1, none⟩ = some (.int .i64 0) := (blk_cell BK178.out 1).trans rfl; have hcz17_2 : w15.cell? ⟨gb178, 2, none⟩ = some (.int .i64 0) := (blk_cell BK178.out 2).trans rfl; have hcz17_3 : w15.cell? ⟨gb178, 3, none⟩ = some (.int .i64 0) := (blk_cell BK178.out 3).trans rfl; have hfz17_0 := blk_frozen BK178.out 0; have hfz17_1 := blk_frozen BK178.out 1; have hfz17_2 := blk_frozen BK178.out 2; have hfz17_3 := blk_frozen BK178.out 3; have hcz18_0 : w15.cell? ⟨gb175, 0, none⟩ = some (.slice A0_0 l0_0.length c0_0) := (blk_cell BK175.out 0).trans rfl; have hcz18_1 : w15.cell? ⟨gb175, 1, none⟩ = some (.slice (some ad177) l0_1.length c0_1) := (blk_cell BK175.out 1).trans rfl; have hfz18_0 := blk_frozen BK175.out 0; have hfz18_1 := blk_frozen BK175.out 1)); try go_wp2_with (first | ((with_reducible refine gate_dst (N := 4) rfl ?_); refine box_event ?hg (N := 4) ?hd (cs := #[.int .i64 0, .int .i64 0, .int .i64 0, .int .i64 0]) (t := 54) ?hr ?_; (case hd => rfl); (case hg => rfl); (case hr => first | (go_simp; done) | (go_simp; rfl)); intro gb178 hg w15 hbox hb; have n0_ := Aside0.mk (blk_below (g := gb175) (o := .cells #[.slice A0_0 l0_0.length c0_0, .slice (some ad177) l0_1.length c0_1] 64 (0, 0)) (by (with_reducible repeat (first | refine blk_drewN ?_ _ | refine blk_drew ?_ | refine blk_alloc ?_ _)); exact BK175.out) hb); have n1_ := Aside0.mk (below_step (by repeat (first | (with_reducible first | exact HB.out | apply below_alloc | apply pw_below_drewN | apply below_drew1 | refine below_set ?_ GE175.out) | exact HB.out)) hb); have n2_ := Aside0.mk (hbox); have n3_ := Aside0.mk ((by rw [hg]; exact (below_size (by repeat (first | (with_reducible first | exact HB.out | apply below_alloc | apply pw_below_drewN | apply below_drew1 | refine below_set ?_ GE175.out) | exact HB.out))) : w.heap.size ≤ gb178)); have n4_ := Aside0.mk ((by rw [hg]; exact (below_size (by repeat (first | (with_reducible first | exact HB.out | apply below_alloc | apply pw_below_drewN | apply below_drew1 | refine below_set ?_ GE175.out) | exact HB.out))) : w.heap.size ≤ gb178)); have n5_ := Aside0.mk ((by rw [hg]; exact Nat.ne_of_lt (blk_lt (g := gb175) (o := .cells #[.slice A0_0 l0_0.length c0_0, .slice (some ad177) l0_1.length c0_1] 64 (0, 0)) (by (with_reducible repeat (first | refine blk_drewN ?_ _ | refine blk_drew ?_ | refine blk_alloc ?_ _)); exact BK175.out)) : gb175 ≠ gb178)); have n6_ := Aside0.mk ((by rw [hg]; exact Nat.ne_of_gt (blk_lt (g := gb175) (o := .cells #[.slice A0_0 l0_0.length c0_0, .slice (some ad177) l0_1.length c0_1] 64 (0, 0)) (by (with_reducible repeat (first | refine blk_drewN ?_ _ | refine blk_drew ?_ | refine blk_alloc ?_ _)); exact BK175.out)) : gb178 ≠ gb175)); clear BK175; clear HB; have BK175 := n0_; have HB := n1_; have BK178 := n2_; have GW178 := n3_; have GE178 := n4_; have NB175_178 := n5_; have NB178_175 := n6_; clear n0_ n1_ n2_ n3_ n4_ n5_ n6_; clear hb hbox hg; have hnb16 := NB178_175.out; have hnc16 := NB175_178.out; have hcz17_0 : w15.cell? ⟨gb178, 0, none⟩ = some (.int .i64 0) := (blk_cell BK178.out 0).trans rfl; have hcz17_1 : w15.cell? ⟨gb178, 1, none⟩ = some (.int .i64 0) := (blk_cell BK178.out 1).trans rfl; have hcz17_2 : w15.cell? ⟨gb178, 2, none⟩ = some (.int .i64 0) := (blk_cell BK178.out 2).trans rfl; have hcz17_3 : w15.cell? ⟨gb178, 3, none⟩ = some (.int .i64 0) := (blk_cell BK178.out 3).trans rfl; have hfz17_0 := blk_frozen BK178.out 0; have hfz17_1 := blk_frozen BK178.out 1; have hfz17_2 := blk_frozen BK178.out 2; have hfz17_3 := blk_frozen BK178.out 3; have hcz18_0 : w15.cell? ⟨gb175, 0, none⟩ = some (.slice A0_0 l0_0.length c0_0) := (blk_cell BK175.out 0).trans rfl; have hcz18_1 : w15.cell? ⟨gb175, 1, none⟩ = some (.slice (some ad177) l0_1.length c0_1) := (blk_cell BK175.out 1).trans rfl; have hfz18_0 := blk_frozen BK175.out 0; have hfz18_1 := blk_frozen BK175.out 1)))
                    go_ret
                    exact ⟨by first | rfl | (simp [errW_none, errW_some] <;> rfl) | (simp [*, errW_none, errW_some] <;> rfl), by repeat (first | (with_reducible first | exact HB.out | apply below_alloc | apply pw_below_drewN | apply below_drew1 | refine below_set ?_ GE175.out | refine below_set ?_ GE178.out) | exact HB.out)⟩
                  · rw [if_neg c14] at H
                    have c14b0 : decide ((l0_0.length : Int) < (wrap64 (((rd_T54 l0_1 x19_2).f0.f0) + ((rd_T54 l0_1 x19_2).f0.f1)))) = false := decide_eq_false c14
                    clear c14
                    by_cases c19 : 0 ≤ ((rd_T54 l0_1 x19_2).f0.f0)
                    · rw [if_pos c19] at H
                      have c19b0 := eq_true c19
                      have c19b1 : decide (0 ≤ ((rd_T54 l0_1 x19_2).f0.f0)) = true := decide_eq_true c19
                      clear c19
                      by_cases c20 : ((rd_T54 l0_1 x19_2).f0.f0) ≤ (wrap64 (((rd_T54 l0_1 x19_2).f0.f0) + ((rd_T54 l0_1 x19_2).f0.f1)))
                      · rw [if_pos c20] at H
                        have c20b0 := eq_true c20
                        have c20b1 : decide (((rd_T54 l0_1 x19_2).f0.f0) ≤ (wrap64 (((rd_T54 l0_1 x19_2).f0.f0) + ((rd_T54 l0_1 x19_2).f0.f1)))) = true := decide_eq_true c20
                        by_cases c21 : (wrap64 (((rd_T54 l0_1 x19_2).f0.f0) + ((rd_T54 l0_1 x19_2).f0.f1))) ≤ (l0_0.length : Int)
                        · rw [if_pos c21] at H
                          have c21b0 := eq_true c21
                          have c21b1 : decide ((wrap64 (((rd_T54 l0_1 x19_2).f0.f0) + ((rd_T54 l0_1 x19_2).f0.f1))) ≤ (l0_0.length : Int)) = true := decide_eq_true c21
                          replace H := Option.bind_eq_some_iff.mp H
                          obtain ⟨t180, A220, H⟩ := H
                          replace H : (if ((rd_T54 l0_1 x19_2).f0.f2) = t180 then (spec_L4PieceValid.l0 k2 l0_1 (l0_1.length : Int) (wrap64 (x19_2 + 1)) l0_0 l0_1) else (some false)) = some r := H
                          have A22 := Aside0.mk A220
                          clear A220
                          by_cases c23 : ((rd_T54 l0_1 x19_2).f0.f2) = t180
                          · rw [if_pos c23] at H
                            have c23b0 : (((rd_T54 l0_1 x19_2).f0.f2) == t180) = true := beq_iff_eq.mpr c23
                            have c23b1 : (((rd_T54 l0_1 x19_2).f0.f2) != t180) = false := bne_eq_false_iff_eq.mpr c23
                            clear c23
                            have H' := Aside0.mk H
                            clear H
                            have p177 : 0 ≤ (x19_2 : Int) := of_decide_eq_true (by first | (with_reducible assumption) | assumption)
                            have q177 : x19_2 < (l0_1.length : Int) := of_decide_eq_true (by first | (with_reducible assumption) | assumption)
                            obtain ⟨ad177, e177, hx177_0, hx177_1, hx177_2, hx177_3⟩ := at_T54 HR0_1.out x19_2 p177 q177
                            cases e177
                            replace hx177_0 := (HB.out.cell (World.block_lt_of_cell? w _ hx177_0)).trans hx177_0
                            replace hx177_1 := (HB.out.cell (World.block_lt_of_cell? w _ hx177_1)).trans hx177_1
                            replace hx177_2 := (HB.out.cell (World.block_lt_of_cell? w _ hx177_2)).trans hx177_2
                            replace hx177_3 := (HB.out.cell (World.block_lt_of_cell? w _ hx177_3)).trans hx177_3
                            replace p177 := eq_true p177
                            replace q177 := eq_true q177
                            go_wp2_with (first | ((with_reducible refine gate_dst (N := 4) rfl ?_); refine box_event ?hg (N := 4) ?hd (cs := #[.int .i64 0, .int .i64 0, .int .i64 0, .int .i64 0]) (t := 54) ?hr ?_; (case hd => rfl); (case hg => rfl); (case hr => first | (go_simp; done) | (go_simp; rfl)); intro gb178 hg w24 hbox hb; have n0_ := Aside0.mk (blk_below (g := gb175) (o := .cells #[.slice A0_0 l0_0.length c0_0, .slice (some ad177) l0_1.length c0_1] 64 (0, 0)) (by (with_reducible repeat (first | refine blk_drewN ?_ _ | refine blk_drew ?_ | refine blk_alloc ?_ _)); exact BK175.out) hb); have n1_ := Aside0.mk (below_step (by repeat (first | (with_reducible first | exact HB.out | apply below_alloc | apply pw_below_drewN | apply below_drew1 | refine below_set ?_ GE175.out) | exact HB.out)) hb); have n2_ := Aside0.mk (hbox); have n3_ := Aside0.mk ((by rw [hg]; exact (below_size (by repeat (first | (with_reducible first | exact HB.out | apply below_alloc | apply pw_below_drewN | apply below_drew1 | refine below_set ?_ GE175.out) | exact HB.out))) : w.heap.size ≤ gb178)); have n4_ := Aside0.mk ((by rw [hg]; exact (below_size (by repeat (first | (with_reducible first | exact HB.out | apply below_alloc | apply pw_below_drewN | apply below_drew1 | refine below_set ?_ GE175.out) | exact HB.out))) : w.heap.size ≤ gb178)); have n5_ := Aside0.mk ((by rw [hg]; exact Nat.ne_of_lt (blk_lt (g := gb175) (o := .cells #[.slice A0_0 l0_0.length c0_0, .slice (some ad177) l0_1.length c0_1] 64 (0, 0)) (by (with_reducible repeat (first | refine blk_drewN ?_ _ | refine blk_drew ?_ | refine blk_alloc ?_ _)); exact BK175.out)) : gb175 ≠ gb178)); have n6_ := Aside0.mk ((by rw [hg]; exact Nat.ne_of_gt (blk_lt (g := gb175) (o := .cells #[.slice A0_0 l0_0.length c0_0, .slice (some ad177) l0_1.length c0_1] 64 (0, 0)) (by (with_reducible repeat (first | refine blk_drewN ?_ _ | refine blk_drew ?_ | refine blk_alloc ?_ _)); exact BK175.out)) : gb178 ≠ gb175)); clear BK175; clear HB; have BK175 := n0_; have HB := n1_; have BK178 := n2_; have GW178 := n3_; have GE178 := n4_; have NB175_178 := n5_; have NB178_175 := n6_; clear n0_ n1_ n2_ n3_ n4_ n5_ n6_; clear hb hbox hg; have hnb25 := NB178_175.out; have hnc25 := NB175_178.out; have hcz26_0 : w24.cell? ⟨gb178, 0, none⟩ = some (.int .i64 0) := (blk_cell BK178.out 0).trans rfl; have hcz26_1 : w24.cell? ⟨gb178, 1, none⟩ = some (.int .i64 0) := (blk_cell BK178.out 1).trans rfl; have hcz26_2 : w24.cell? ⟨gb178, 2, none⟩ = some (.int .i64 0) := (blk_cell BK178.out 2).trans rfl; have hcz26_3 : w24.cell? ⟨gb178, 3, none⟩ = some (.int .i64 0) := (blk_cell BK178.out 3).trans rfl; have hfz26_0 := blk_frozen BK178.out 0; have hfz26_1 := blk_frozen BK178.out 1; have hfz26_2 := blk_frozen BK178.out 2; have hfz26_3 := blk_frozen BK178.out 3; have hcz27_0 : w24.cell? ⟨gb175, 0, none⟩ = some (.slice A0_0 l0_0.length c0_0) := (blk_cell BK175.out 0).trans rfl; have hcz27_1 : w24.cell? ⟨gb175, 1, none⟩ = some (.slice (some ad177) l0_1.length c0_1) := (blk_cell BK175.out 1).trans rfl; have hfz27_0 := blk_frozen BK175.out 0; have hfz27_1 := blk_frozen BK175.out 1; obtain ⟨i028, hi028, _, hsz28, _⟩ := info_parts info21; obtain ⟨A28, hcut28, hA28, hC28⟩ := print_mid_of (P := Tryd.prog) (Value.int .i32) 0 57 21 .i64 .i64 Tryd.underlying57 hi028 hsz28 A0_0 c0_0 l0_0 ((rd_T54 l0_1 x19_2).f0.f0) (wrap64 (((rd_T54 l0_1 x19_2).f0.f0) + ((rd_T54 l0_1 x19_2).f0.f1))) (of_decide_eq_true (by first | (with_reducible assumption) | assumption)) (by first | omega | exact of_decide_eq_true (by first | (with_reducible assumption) | assumption)) (of_decide_eq_true (by first | (with_reducible assumption) | assumption)) HC0_0.out; have hle28_ : ((wrap64 (((rd_T54 l0_1 x19_2).f0.f0) + ((rd_T54 l0_1 x19_2).f0.f1))) : Int) ≤ (l0_0.length : Int) := of_decide_eq_true (by first | (with_reducible assumption) | assumption); have hln28_ : ((l0_0.take ((wrap64 (((rd_T54 l0_1 x19_2).f0.f0) + ((rd_T54 l0_1 x19_2).f0.f1))) : Int).toNat).drop (((rd_T54 l0_1 x19_2).f0.f0) : Int).toNat).length = ((wrap64 (((rd_T54 l0_1 x19_2).f0.f0) + ((rd_T54 l0_1 x19_2).f0.f1))) : Int).toNat - (((rd_T54 l0_1 x19_2).f0.f0) : Int).toNat := (by rw [List.length_drop, List.length_take]; omega); clear hle28_; have HR179 := Aside0.mk (Kd.C_of_reads (h1 := fun _ => rfl) (hA28 _ (Kd.reads_of_C HR0_0.out))); have HC179 := Aside0.mk hC28; clear hA28 hC28 hi028 hsz28) | (go_at_call 113; (first | rw [← hln28_] | rw [← hln33_] | rw [← hln17_] | skip); (with_reducible refine (spec_l1Breaks.calls k2 _ _ ((l0_0.take ((wrap64 (((rd_T54 l0_1 x19_2).f0.f0) + ((rd_T54 l0_1 x19_2).f0.f1))) : Int).toNat).drop (((rd_T54 l0_1 x19_2).f0.f0) : Int).toNat) t180 _ ?side1 ?side2 A22.out).mono ?_); (case side1 => exact Kd.C_below HR179.out (by repeat (first | (with_reducible first | exact HB.out | apply below_alloc | apply pw_below_drewN | apply below_drew1 | refine below_set ?_ GE175.out | refine below_set ?_ GE178.out) | exact HB.out))); (case side2 => exact HC179.out); rintro e w' ⟨rfl, ⟨nd, rfl⟩⟩; (try first | exact ⟨rfl, _, World.drewN_drewN _ _ _⟩ | exact ⟨rfl, _, Eq.trans (World.drewN_drewN _ _ _) (congrArg (World.drewN _) (Nat.add_assoc _ _ _))⟩)))
                            repeat (go_quiet (first | ((with_reducible refine gate_dst (N := 4) rfl ?_); refine box_event ?hg (N := 4) ?hd (cs := #[.int .i64 0, .int .i64 0, .int .i64 0, .int .i64 0]) (t := 54) ?hr ?_; (case hd => rfl); (case hg => rfl); (case hr => first | (go_simp; done) | (go_simp; rfl)); intro gb178 hg w24 hbox hb; have n0_ := Aside0.mk (blk_below (g := gb175) (o := .cells #[.slice A0_0 l0_0.length c0_0, .slice (some ad177) l0_1.length c0_1] 64 (0, 0)) (by (with_reducible repeat (first | refine blk_drewN ?_ _ | refine blk_drew ?_ | refine blk_alloc ?_ _)); exact BK175.out) hb); have n1_ := Aside0.mk (below_step (by repeat (first | (with_reducible first | exact HB.out | apply below_alloc | apply pw_below_drewN | apply below_drew1 | refine below_set ?_ GE175.out) | exact HB.out)) hb); have n2_ := Aside0.mk (hbox); have n3_ := Aside0.mk ((by rw [hg]; exact (below_size (by repeat (first | (with_reducible first | exact HB.out | apply below_alloc | apply pw_below_drewN | apply below_drew1 | refine below_set ?_ GE175.out) | exact HB.out))) : w.heap.size ≤ gb178)); have n4_ := Aside0.mk ((by rw [hg]; exact (below_size (by repeat (first | (with_reducible first | exact HB.out | apply below_alloc | apply pw_below_drewN | apply below_drew1 | refine below_set ?_ GE175.out) | exact HB.out))) : w.heap.size ≤ gb178)); have n5_ := Aside0.mk ((by rw [hg]; exact Nat.ne_of_lt (blk_lt (g := gb175) (o := .cells #[.slice A0_0 l0_0.length c0_0, .slice (some ad177) l0_1.length c0_1] 64 (0, 0)) (by (with_reducible repeat (first | refine blk_drewN ?_ _ | refine blk_drew ?_ | refine blk_alloc ?_ _)); exact BK175.out)) : gb175 ≠ gb178)); have n6_ := Aside0.mk ((by rw [hg]; exact Nat.ne_of_gt (blk_lt (g := gb175) (o := .cells #[.slice A0_0 l0_0.length c0_0, .slice (some ad177) l0_1.length c0_1] 64 (0, 0)) (by (with_reducible repeat (first | refine blk_drewN ?_ _ | refine blk_drew ?_ | refine blk_alloc ?_ _)); exact BK175.out)) : gb178 ≠ gb175)); clear BK175; clear HB; have BK175 := n0_; have HB := n1_; have BK178 := n2_; have GW178 := n3_; have GE178 := n4_; have NB175_178 := n5_; have NB178_175 := n6_; clear n0_ n1_ n2_ n3_ n4_ n5_ n6_; clear hb hbox hg; have hnb25 := NB178_175.out; have hnc25 := NB175_178.out; have hcz26_0 : w24.cell? ⟨gb178, 0, none⟩ = some (.int .i64 0) := (blk_cell BK178.out 0).trans rfl; have hcz26_1 : w24.cell? ⟨gb178, 1, none⟩ = some (.int .i64 0) := (blk_cell BK178.out 1).trans rfl; have hcz26_2 : w24.cell? ⟨gb178, 2, none⟩ = some (.int .i64 0) := (blk_cell BK178.out 2).trans rfl; have hcz26_3 : w24.cell? ⟨gb178, 3, none⟩ = some (.int .i64 0) := (blk_cell BK178.out 3).trans rfl; have hfz26_0 := blk_frozen BK178.out 0; have hfz26_1 := blk_frozen BK178.out 1; have hfz26_2 := blk_frozen BK178.out 2; have hfz26_3 := blk_frozen BK178.out 3; have hcz27_0 : w24.cell? ⟨gb175, 0, none⟩ = some (.slice A0_0 l0_0.length c0_0) := (blk_cell BK175.out 0).trans rfl; have hcz27_1 : w24.cell? ⟨gb175, 1, none⟩ = some (.slice (some ad177) l0_1.length c0_1) := (blk_cell BK175.out 1).trans rfl; have hfz27_0 := blk_frozen BK175.out 0; have hfz27_1 := blk_frozen BK175.out 1; obtain ⟨i028, hi028, _, hsz28, _⟩ := info_parts info21; obtain ⟨A28, hcut28, hA28, hC28⟩ := print_mid_of (P := Tryd.prog) (Value.int .i32) 0 57 21 .i64 .i64 Tryd.underlying57 hi028 hsz28 A0_0 c0_0 l0_0 ((rd_T54 l0_1 x19_2).f0.f0) (wrap64 (((rd_T54 l0_1 x19_2).f0.f0) + ((rd_T54 l0_1 x19_2).f0.f1))) (of_decide_eq_true (by first | (with_reducible assumption) | assumption)) (by first | omega | exact of_decide_eq_true (by first | (with_reducible assumption) | assumption)) (of_decide_eq_true (by first | (with_reducible assumption) | assumption)) HC0_0.out; have hle28_ : ((wrap64 (((rd_T54 l0_1 x19_2).f0.f0) + ((rd_T54 l0_1 x19_2).f0.f1))) : Int) ≤ (l0_0.length : Int) := of_decide_eq_true (by first | (with_reducible assumption) | assumption); have hln28_ : ((l0_0.take ((wrap64 (((rd_T54 l0_1 x19_2).f0.f0) + ((rd_T54 l0_1 x19_2).f0.f1))) : Int).toNat).drop (((rd_T54 l0_1 x19_2).f0.f0) : Int).toNat).length = ((wrap64 (((rd_T54 l0_1 x19_2).f0.f0) + ((rd_T54 l0_1 x19_2).f0.f1))) : Int).toNat - (((rd_T54 l0_1 x19_2).f0.f0) : Int).toNat := (by rw [List.length_drop, List.length_take]; omega); clear hle28_; have HR179 := Aside0.mk (Kd.C_of_reads (h1 := fun _ => rfl) (hA28 _ (Kd.reads_of_C HR0_0.out))); have HC179 := Aside0.mk hC28; clear hA28 hC28 hi028 hsz28) | (go_at_call 113; (first | rw [← hln28_] | rw [← hln33_] | rw [← hln17_] | skip); (with_reducible refine (spec_l1Breaks.calls k2 _ _ ((l0_0.take ((wrap64 (((rd_T54 l0_1 x19_2).f0.f0) + ((rd_T54 l0_1 x19_2).f0.f1))) : Int).toNat).drop (((rd_T54 l0_1 x19_2).f0.f0) : Int).toNat) t180 _ ?side1 ?side2 A22.out).mono ?_); (case side1 => exact Kd.C_below HR179.out (by repeat (first | (with_reducible first | exact HB.out | apply below_alloc | apply pw_below_drewN | apply below_drew1 | refine below_set ?_ GE175.out | refine below_set ?_ GE178.out) | exact HB.out))); (case side2 => exact HC179.out); rintro e w' ⟨rfl, ⟨nd, rfl⟩⟩; (try first | exact ⟨rfl, _, World.drewN_drewN _ _ _⟩ | exact ⟨rfl, _, Eq.trans (World.drewN_drewN _ _ _) (congrArg (World.drewN _) (Nat.add_assoc _ _ _))⟩))); try go_wp2_with (first | ((with_reducible refine gate_dst (N := 4) rfl ?_); refine box_event ?hg (N := 4) ?hd (cs := #[.int .i64 0, .int .i64 0, .int .i64 0, .int .i64 0]) (t := 54) ?hr ?_; (case hd => rfl); (case hg => rfl); (case hr => first | (go_simp; done) | (go_simp; rfl)); intro gb178 hg w24 hbox hb; have n0_ := Aside0.mk (blk_below (g := gb175) (o := .cells #[.slice A0_0 l0_0.length c0_0, .slice (some ad177) l0_1.length c0_1] 64 (0, 0)) (by (with_reducible repeat (first | refine blk_drewN ?_ _ | refine blk_drew ?_ | refine blk_alloc ?_ _)); exact BK175.out) hb); have n1_ := Aside0.mk (below_step (by repeat (first | (with_reducible first | exact HB.out | apply below_alloc | apply pw_below_drewN | apply below_drew1 | refine below_set ?_ GE175.out) | exact HB.out)) hb); have n2_ := Aside0.mk (hbox); have n3_ := Aside0.mk ((by rw [hg]; exact (below_size (by repeat (first | (with_reducible first | exact HB.out | apply below_alloc | apply pw_below_drewN | apply below_drew1 | refine below_set ?_ GE175.out) | exact HB.out))) : w.heap.size ≤ gb178)); have n4_ := Aside0.mk ((by rw [hg]; exact (below_size (by repeat (first | (with_reducible first | exact HB.out | apply below_alloc | apply pw_below_drewN | apply below_drew1 | refine below_set ?_ GE175.out) | exact HB.out))) : w.heap.size ≤ gb178)); have n5_ := Aside0.mk ((by rw [hg]; exact Nat.ne_of_lt (blk_lt (g := gb175) (o := .cells #[.slice A0_0 l0_0.length c0_0, .slice (some ad177) l0_1.length c0_1] 64 (0, 0)) (by (with_reducible repeat (first | refine blk_drewN ?_ _ | refine blk_drew ?_ | refine blk_alloc ?_ _)); exact BK175.out)) : gb175 ≠ gb178)); have n6_ := Aside0.mk ((by rw [hg]; exact Nat.ne_of_gt (blk_lt (g := gb175) (o := .cells #[.slice A0_0 l0_0.length c0_0, .slice (some ad177) l0_1.length c0_1] 64 (0, 0)) (by (with_reducible repeat (first | refine blk_drewN ?_ _ | refine blk_drew ?_ | refine blk_alloc ?_ _)); exact BK175.out)) : gb178 ≠ gb175)); clear BK175; clear HB; have BK175 := n0_; have HB := n1_; have BK178 := n2_; have GW178 := n3_; have GE178 := n4_; have NB175_178 := n5_; have NB178_175 := n6_; clear n0_ n1_ n2_ n3_ n4_ n5_ n6_; clear hb hbox hg; have hnb25 := NB178_175.out; have hnc25 := NB175_178.out; have hcz26_0 : w24.cell? ⟨gb178, 0, none⟩ = some (.int .i64 0) := (blk_cell BK178.out 0).trans rfl; have hcz26_1 : w24.cell? ⟨gb178, 1, none⟩ = some (.int .i64 0) := (blk_cell BK178.out 1).trans rfl; have hcz26_2 : w24.cell? ⟨gb178, 2, none⟩ = some (.int .i64 0) := (blk_cell BK178.out 2).trans rfl; have hcz26_3 : w24.cell? ⟨gb178, 3, none⟩ = some (.int .i64 0) := (blk_cell BK178.out 3).trans rfl; have hfz26_0 := blk_frozen BK178.out 0; have hfz26_1 := blk_frozen BK178.out 1; have hfz26_2 := blk_frozen BK178.out 2; have hfz26_3 := blk_frozen BK178.out 3; have hcz27_0 : w24.cell? ⟨gb175, 0, none⟩ = some (.slice A0_0 l0_0.length c0_0) := (blk_cell BK175.out 0).trans rfl; have hcz27_1 : w24.cell? ⟨gb175, 1, none⟩ = some (.slice (some ad177) l0_1.length c0_1) := (blk_cell BK175.out 1).trans rfl; have hfz27_0 := blk_frozen BK175.out 0; have hfz27_1 := blk_frozen BK175.out 1; obtain ⟨i028, hi028, _, hsz28, _⟩ := info_parts info21; obtain ⟨A28, hcut28, hA28, hC28⟩ := print_mid_of (P := Tryd.prog) (Value.int .i32) 0 57 21 .i64 .i64 Tryd.underlying57 hi028 hsz28 A0_0 c0_0 l0_0 ((rd_T54 l0_1 x19_2).f0.f0) (wrap64 (((rd_T54 l0_1 x19_2).f0.f0) + ((rd_T54 l0_1 x19_2).f0.f1))) (of_decide_eq_true (by first | (with_reducible assumption) | assumption)) (by first | omega | exact of_decide_eq_true (by first | (with_reducible assumption) | assumption)) (of_decide_eq_true (by first | (with_reducible assumption) | assumption)) HC0_0.out; have hle28_ : ((wrap64 (((rd_T54 l0_1 x19_2).f0.f0) + ((rd_T54 l0_1 x19_2).f0.f1))) : Int) ≤ (l0_0.length : Int) := of_decide_eq_true (by first | (with_reducible assumption) | assumption); have hln28_ : ((l0_0.take ((wrap64 (((rd_T54 l0_1 x19_2).f0.f0) + ((rd_T54 l0_1 x19_2).f0.f1))) : Int).toNat).drop (((rd_T54 l0_1 x19_2).f0.f0) : Int).toNat).length = ((wrap64 (((rd_T54 l0_1 x19_2).f0.f0) + ((rd_T54 l0_1 x19_2).f0.f1))) : Int).toNat - (((rd_T54 l0_1 x19_2).f0.f0) : Int).toNat := (by rw [List.length_drop, List.length_take]; omega); clear hle28_; have HR179 := Aside0.mk (Kd.C_of_reads (h1 := fun _ => rfl) (hA28 _ (Kd.reads_of_C HR0_0.out))); have HC179 := Aside0.mk hC28; clear hA28 hC28 hi028 hsz28) | (go_at_call 113; (first | rw [← hln28_] | rw [← hln33_] | rw [← hln17_] | skip); (with_reducible refine (spec_l1Breaks.calls k2 _ _ ((l0_0.take ((wrap64 (((rd_T54 l0_1 x19_2).f0.f0) + ((rd_T54 l0_1 x19_2).f0.f1))) : Int).toNat).drop (((rd_T54 l0_1 x19_2).f0.f0) : Int).toNat) t180 _ ?side1 ?side2 A22.out).mono ?_); (case side1 => exact Kd.C_below HR179.out (by repeat (first | (with_reducible first | exact HB.out | apply below_alloc | apply pw_below_drewN | apply below_drew1 | refine below_set ?_ GE175.out | refine below_set ?_ GE178.out) | exact HB.out))); (case side2 => exact HC179.out); rintro e w' ⟨rfl, ⟨nd, rfl⟩⟩; (try first | exact ⟨rfl, _, World.drewN_drewN _ _ _⟩ | exact ⟨rfl, _, Eq.trans (World.drewN_drewN _ _ _) (congrArg (World.drewN _) (Nat.add_assoc _ _ _))⟩))))
                            go_roundg k2
                            case measure => have := HJ1.out; have := HK2.out; omega
                            case rel => exact ⟨(wrap64 (x19_2 + 1)), (by first | rfl | (simp; done) | (simp [*]; done)), H', ⟨by have := HJ1.out; have := HK2.out; omega⟩, ⟨by (with_reducible repeat (first | refine blk_drewN ?_ _ | refine blk_drew ?_ | refine blk_alloc ?_ _)); refine blk_far ?_ NB175_178.out _; (with_reducible repeat (first | refine blk_drewN ?_ _ | refine blk_drew ?_ | refine blk_alloc ?_ _)); refine blk_far ?_ NB175_178.out _; (with_reducible repeat (first | refine blk_drewN ?_ _ | refine blk_drew ?_ | refine blk_alloc ?_ _)); refine blk_far ?_ NB175_178.out _; (with_reducible repeat (first | refine blk_drewN ?_ _ | refine blk_drew ?_ | refine blk_alloc ?_ _)); refine blk_far ?_ NB175_178.out _; (with_reducible repeat (first | refine blk_drewN ?_ _ | refine blk_drew ?_ | refine blk_alloc ?_ _)); exact BK175.out⟩, ⟨by repeat (first | (with_reducible first | exact HB.out | apply below_alloc | apply pw_below_drewN | apply below_drew1 | refine below_set ?_ GE175.out | refine below_set ?_ GE178.out) | exact HB.out)⟩⟩
                          · rw [if_neg c23] at H
                            have c23b0 : (((rd_T54 l0_1 x19_2).f0.f2) == t180) = false := beq_eq_false_iff_ne.mpr c23
                            have c23b1 : (((rd_T54 l0_1 x19_2).f0.f2) != t180) = true := bne_iff_ne.mpr c23
                            obtain rfl := Option.some.inj H
                            have p177 : 0 ≤ (x19_2 : Int) := of_decide_eq_true (by first | (with_reducible assumption) | assumption)
                            have q177 : x19_2 < (l0_1.length : Int) := of_decide_eq_true (by first | (with_reducible assumption) | assumption)
                            obtain ⟨ad177, e177, hx177_0, hx177_1, hx177_2, hx177_3⟩ := at_T54 HR0_1.out x19_2 p177 q177
                            cases e177
                            replace hx177_0 := (HB.out.cell (World.block_lt_of_cell? w _ hx177_0)).trans hx177_0
                            replace hx177_1 := (HB.out.cell (World.block_lt_of_cell? w _ hx177_1)).trans hx177_1
                            replace hx177_2 := (HB.out.cell (World.block_lt_of_cell? w _ hx177_2)).trans hx177_2
                            replace hx177_3 := (HB.out.cell (World.block_lt_of_cell? w _ hx177_3)).trans hx177_3
                            replace p177 := eq_true p177
                            replace q177 := eq_true q177
                            go_wp2_with (first | ((with_reducible refine gate_dst (N := 4) rfl ?_); refine box_event ?hg (N := 4) ?hd (cs := #[.int .i64 0, .int .i64 0, .int .i64 0, .int .i64 0]) (t := 54) ?hr ?_; (case hd => rfl); (case hg => rfl); (case hr => first | (go_simp; done) | (go_simp; rfl)); intro gb178 hg w29 hbox hb; have n0_ := Aside0.mk (blk_below (g := gb175) (o := .cells #[.slice A0_0 l0_0.length c0_0, .slice (some ad177) l0_1.length c0_1] 64 (0, 0)) (by (with_reducible repeat (first | refine blk_drewN ?_ _ | refine blk_drew ?_ | refine blk_alloc ?_ _)); exact BK175.out) hb); have n1_ := Aside0.mk (below_step (by repeat (first | (with_reducible first | exact HB.out | apply below_alloc | apply pw_below_drewN | apply below_drew1 | refine below_set ?_ GE175.out) | exact HB.out)) hb); have n2_ := Aside0.mk (hbox); have n3_ := Aside0.mk ((by rw [hg]; exact (below_size (by repeat (first | (with_reducible first | exact HB.out | apply below_alloc | apply pw_below_drewN | apply below_drew1 | refine below_set ?_ GE175.out) | exact HB.out))) : w.heap.size ≤ gb178)); have n4_ := Aside0.mk ((by rw [hg]; exact (below_size (by repeat (first | (with_reducible first | exact HB.out | apply below_alloc | apply pw_below_drewN | apply below_drew1 | refine below_set ?_ GE175.out) | exact HB.out))) : w.heap.size ≤ gb178)); have n5_ := Aside0.mk ((by rw [hg]; exact Nat.ne_of_lt (blk_lt (g := gb175) (o := .cells #[.slice A0_0 l0_0.length c0_0, .slice (some ad177) l0_1.length c0_1] 64 (0, 0)) (by (with_reducible repeat (first | refine blk_drewN ?_ _ | refine blk_drew ?_ | refine blk_alloc ?_ _)); exact BK175.out)) : gb175 ≠ gb178)); have n6_ := Aside0.mk ((by rw [hg]; exact Nat.ne_of_gt (blk_lt (g := gb175) (o := .cells #[.slice A0_0 l0_0.length c0_0, .slice (some ad177) l0_1.length c0_1] 64 (0, 0)) (by (with_reducible repeat (first | refine blk_drewN ?_ _ | refine blk_drew ?_ | refine blk_alloc ?_ _)); exact BK175.out)) : gb178 ≠ gb175)); clear BK175; clear HB; have BK175 := n0_; have HB := n1_; have BK178 := n2_; have GW178 := n3_; have GE178 := n4_; have NB175_178 := n5_; have NB178_175 := n6_; clear n0_ n1_ n2_ n3_ n4_ n5_ n6_; clear hb hbox hg; have hnb30 := NB178_175.out; have hnc30 := NB175_178.out; have hcz31_0 : w29.cell? ⟨gb178, 0, none⟩ = some (.int .i64 0) := (blk_cell BK178.out 0).trans rfl; have hcz31_1 : w29.cell? ⟨gb178, 1, none⟩ = some (.int .i64 0) := (blk_cell BK178.out 1).trans rfl; have hcz31_2 : w29.cell? ⟨gb178, 2, none⟩ = some (.int .i64 0) := (blk_cell BK178.out 2).trans rfl; have hcz31_3 : w29.cell? ⟨gb178, 3, none⟩ = some (.int .i64 0) := (blk_cell BK178.out 3).trans rfl; have hfz31_0 := blk_frozen BK178.out 0; have hfz31_1 := blk_frozen BK178.out 1; have hfz31_2 := blk_frozen BK178.out 2; have hfz31_3 := blk_frozen BK178.out 3; have hcz32_0 : w29.cell? ⟨gb175, 0, none⟩ = some (.slice A0_0 l0_0.length c0_0) := (blk_cell BK175.out 0).trans rfl; have hcz32_1 : w29.cell? ⟨gb175, 1, none⟩ = some (.slice (some ad177) l0_1.length c0_1) := (blk_cell BK175.out 1).trans rfl; have hfz32_0 := blk_frozen BK175.out 0; have hfz32_1 := blk_frozen BK175.out 1; obtain ⟨i033, hi033, _, hsz33, _⟩ := info_parts info21; obtain ⟨A33, hcut33, hA33, hC33⟩ := print_mid_of (P := Tryd.prog) (Value.int .i32) 0 57 21 .i64 .i64 Tryd.underlying57 hi033 hsz33 A0_0 c0_0 l0_0 ((rd_T54 l0_1 x19_2).f0.f0) (wrap64 (((rd_T54 l0_1 x19_2).f0.f0) + ((rd_T54 l0_1 x19_2).f0.f1))) (of_decide_eq_true (by first | (with_reducible assumption) | assumption)) (by first | omega | exact of_decide_eq_true (by first | (with_reducible assumption) | assumption)) (of_decide_eq_true (by first | (with_reducible assumption) | assumption)) HC0_0.out; have hle33_ : ((wrap64 (((rd_T54 l0_1 x19_2).f0.f0) + ((rd_T54 l0_1 x19_2).f0.f1))) : Int) ≤ (l0_0.length : Int) := of_decide_eq_true (by first | (with_reducible assumption) | assumption); have hln33_ : ((l0_0.take ((wrap64 (((rd_T54 l0_1 x19_2).f0.f0) + ((rd_T54 l0_1 x19_2).f0.f1))) : Int).toNat).drop (((rd_T54 l0_1 x19_2).f0.f0) : Int).toNat).length = ((wrap64 (((rd_T54 l0_1 x19_2).f0.f0) + ((rd_T54 l0_1 x19_2).f0.f1))) : Int).toNat - (((rd_T54 l0_1 x19_2).f0.f0) : Int).toNat := (by rw [List.length_drop, List.length_take]; omega); clear hle33_; have HR179 := Aside0.mk (Kd.C_of_reads (h1 := fun _ => rfl) (hA33 _ (Kd.reads_of_C HR0_0.out))); have HC179 := Aside0.mk hC33; clear hA33 hC33 hi033 hsz33) | (go_at_call 113; (first | rw [← hln28_] | rw [← hln33_] | rw [← hln17_] | skip); (with_reducible refine (spec_l1Breaks.calls k2 _ _ ((l0_0.take ((wrap64 (((rd_T54 l0_1 x19_2).f0.f0) + ((rd_T54 l0_1 x19_2).f0.f1))) : Int).toNat).drop (((rd_T54 l0_1 x19_2).f0.f0) : Int).toNat) t180 _ ?side1 ?side2 A22.out).mono ?_); (case side1 => exact Kd.C_below HR179.out (by repeat (first | (with_reducible first | exact HB.out | apply below_alloc | apply pw_below_drewN | apply below_drew1 | refine below_set ?_ GE175.out | refine below_set ?_ GE178.out) | exact HB.out))); (case side2 => exact HC179.out); rintro e w' ⟨rfl, ⟨nd, rfl⟩⟩; (try first | exact ⟨rfl, _, World.drewN_drewN _ _ _⟩ | exact ⟨rfl, _, Eq.trans (World.drewN_drewN _ _ _) (congrArg (World.drewN _) (Nat.add_assoc _ _ _))⟩)))
                            repeat (go_quiet (first | ((with_reducible refine gate_dst (N := 4) rfl ?_); refine box_event ?hg (N := 4) ?hd (cs := #[.int .i64 0, .int .i64 0, .int .i64 0, .int .i64 0]) (t := 54) ?hr ?_; (case hd => rfl); (case hg => rfl); (case hr => first | (go_simp; done) | (go_simp; rfl)); intro gb178 hg w29 hbox hb; have n0_ := Aside0.mk (blk_below (g := gb175) (o := .cells #[.slice A0_0 l0_0.length c0_0, .slice (some ad177) l0_1.length c0_1] 64 (0, 0)) (by (with_reducible repeat (first | refine blk_drewN ?_ _ | refine blk_drew ?_ | refine blk_alloc ?_ _)); exact BK175.out) hb); have n1_ := Aside0.mk (below_step (by repeat (first | (with_reducible first | exact HB.out | apply below_alloc | apply pw_below_drewN | apply below_drew1 | refine below_set ?_ GE175.out) | exact HB.out)) hb); have n2_ := Aside0.mk (hbox); have n3_ := Aside0.mk ((by rw [hg]; exact (below_size (by repeat (first | (with_reducible first | exact HB.out | apply below_alloc | apply pw_below_drewN | apply below_drew1 | refine below_set ?_ GE175.out) | exact HB.out))) : w.heap.size ≤ gb178)); have n4_ := Aside0.mk ((by rw [hg]; exact (below_size (by repeat (first | (with_reducible first | exact HB.out | apply below_alloc | apply pw_below_drewN | apply below_drew1 | refine below_set ?_ GE175.out) | exact HB.out))) : w.heap.size ≤ gb178)); have n5_ := Aside0.mk ((by rw [hg]; exact Nat.ne_of_lt (blk_lt (g := gb175) (o := .cells #[.slice A0_0 l0_0.length c0_0, .slice (some ad177) l0_1.length c0_1] 64 (0, 0)) (by (with_reducible repeat (first | refine blk_drewN ?_ _ | refine blk_drew ?_ | refine blk_alloc ?_ _)); exact BK175.out)) : gb175 ≠ gb178)); have n6_ := Aside0.mk ((by rw [hg]; exact Nat.ne_of_gt (blk_lt (g := gb175) (o := .cells #[.slice A0_0 l0_0.length c0_0, .slice (some ad177) l0_1.length c0_1] 64 (0, 0)) (by (with_reducible repeat (first | refine blk_drewN ?_ _ | refine blk_drew ?_ | refine blk_alloc ?_ _)); exact BK175.out)) : gb178 ≠ gb175)); clear BK175; clear HB; have BK175 := n0_; have HB := n1_; have BK178 := n2_; have GW178 := n3_; have GE178 := n4_; have NB175_178 := n5_; have NB178_175 := n6_; clear n0_ n1_ n2_ n3_ n4_ n5_ n6_; clear hb hbox hg; have hnb30 := NB178_175.out; have hnc30 := NB175_178.out; have hcz31_0 : w29.cell? ⟨gb178, 0, none⟩ = some (.int .i64 0) := (blk_cell BK178.out 0).trans rfl; have hcz31_1 : w29.cell? ⟨gb178, 1, none⟩ = some (.int .i64 0) := (blk_cell BK178.out 1).trans rfl; have hcz31_2 : w29.cell? ⟨gb178, 2, none⟩ = some (.int .i64 0) := (blk_cell BK178.out 2).trans rfl; have hcz31_3 : w29.cell? ⟨gb178, 3, none⟩ = some (.int .i64 0) := (blk_cell BK178.out 3).trans rfl; have hfz31_0 := blk_frozen BK178.out 0; have hfz31_1 := blk_frozen BK178.out 1; have hfz31_2 := blk_frozen BK178.out 2; have hfz31_3 := blk_frozen BK178.out 3; have hcz32_0 : w29.cell? ⟨gb175, 0, none⟩ = some (.slice A0_0 l0_0.length c0_0) := (blk_cell BK175.out 0).trans rfl; have hcz32_1 : w29.cell? ⟨gb175, 1, none⟩ = some (.slice (some ad177) l0_1.length c0_1) := (blk_cell BK175.out 1).trans rfl; have hfz32_0 := blk_frozen BK175.out 0; have hfz32_1 := blk_frozen BK175.out 1; obtain ⟨i033, hi033, _, hsz33, _⟩ := info_parts info21; obtain ⟨A33, hcut33, hA33, hC33⟩ := print_mid_of (P := Tryd.prog) (Value.int .i32) 0 57 21 .i64 .i64 Tryd.underlying57 hi033 hsz33 A0_0 c0_0 l0_0 ((rd_T54 l0_1 x19_2).f0.f0) (wrap64 (((rd_T54 l0_1 x19_2).f0.f0) + ((rd_T54 l0_1 x19_2).f0.f1))) (of_decide_eq_true (by first | (with_reducible assumption) | assumption)) (by first | omega | exact of_decide_eq_true (by first | (with_reducible assumption) | assumption)) (of_decide_eq_true (by first | (with_reducible assumption) | assumption)) HC0_0.out; have hle33_ : ((wrap64 (((rd_T54 l0_1 x19_2).f0.f0) + ((rd_T54 l0_1 x19_2).f0.f1))) : Int) ≤ (l0_0.length : Int) := of_decide_eq_true (by first | (with_reducible assumption) | assumption); have hln33_ : ((l0_0.take ((wrap64 (((rd_T54 l0_1 x19_2).f0.f0) + ((rd_T54 l0_1 x19_2).f0.f1))) : Int).toNat).drop (((rd_T54 l0_1 x19_2).f0.f0) : Int).toNat).length = ((wrap64 (((rd_T54 l0_1 x19_2).f0.f0) + ((rd_T54 l0_1 x19_2).f0.f1))) : Int).toNat - (((rd_T54 l0_1 x19_2).f0.f0) : Int).toNat := (by rw [List.length_drop, List.length_take]; omega); clear hle33_; have HR179 := Aside0.mk (Kd.C_of_reads (h1 := fun _ => rfl) (hA33 _ (Kd.reads_of_C HR0_0.out))); have HC179 := Aside0.mk hC33; clear hA33 hC33 hi033 hsz33) | (go_at_call 113; (first | rw [← hln28_] | rw [← hln33_] | rw [← hln17_] | skip); (with_reducible refine (spec_l1Breaks.calls k2 _ _ ((l0_0.take ((wrap64 (((rd_T54 l0_1 x19_2).f0.f0) + ((rd_T54 l0_1 x19_2).f0.f1))) : Int).toNat).drop (((rd_T54 l0_1 x19_2).f0.f0) : Int).toNat) t180 _ ?side1 ?side2 A22.out).mono ?_); (case side1 => exact Kd.C_below HR179.out (by repeat (first | (with_reducible first | exact HB.out | apply below_alloc | apply pw_below_drewN | apply below_drew1 | refine below_set ?_ GE175.out | refine below_set ?_ GE178.out) | exact HB.out))); (case side2 => exact HC179.out); rintro e w' ⟨rfl, ⟨nd, rfl⟩⟩; (try first | exact ⟨rfl, _, World.drewN_drewN _ _ _⟩ | exact ⟨rfl, _, Eq.trans (World.drewN_drewN _ _ _) (congrArg (World.drewN _) (Nat.add_assoc _ _ _))⟩))); try go_wp2_with (first | ((with_reducible refine gate_dst (N := 4) rfl ?_); refine box_event ?hg (N := 4) ?hd (cs := #[.int .i64 0, .int .i64 0, .int .i64 0, .int .i64 0]) (t := 54) ?hr ?_; (case hd => rfl); (case hg => rfl); (case hr => first | (go_simp; done) | (go_simp; rfl)); intro gb178 hg w29 hbox hb; have n0_ := Aside0.mk (blk_below (g := gb175) (o := .cells #[.slice A0_0 l0_0.length c0_0, .slice (some ad177) l0_1.length c0_1] 64 (0, 0)) (by (with_reducible repeat (first | refine blk_drewN ?_ _ | refine blk_drew ?_ | refine blk_alloc ?_ _)); exact BK175.out) hb); have n1_ := Aside0.mk (below_step (by repeat (first | (with_reducible first | exact HB.out | apply below_alloc | apply pw_below_drewN | apply below_drew1 | refine below_set ?_ GE175.out) | exact HB.out)) hb); have n2_ := Aside0.mk (hbox); have n3_ := Aside0.mk ((by rw [hg]; exact (below_size (by repeat (first | (with_reducible first | exact HB.out | apply below_alloc | apply pw_below_drewN | apply below_drew1 | refine below_set ?_ GE175.out) | exact HB.out))) : w.heap.size ≤ gb178)); have n4_ := Aside0.mk ((by rw [hg]; exact (below_size (by repeat (first | (with_reducible first | exact HB.out | apply below_alloc | apply pw_below_drewN | apply below_drew1 | refine below_set ?_ GE175.out) | exact HB.out))) : w.heap.size ≤ gb178)); have n5_ := Aside0.mk ((by rw [hg]; exact Nat.ne_of_lt (blk_lt (g := gb175) (o := .cells #[.slice A0_0 l0_0.length c0_0, .slice (some ad177) l0_1.length c0_1] 64 (0, 0)) (by (with_reducible repeat (first | refine blk_drewN ?_ _ | refine blk_drew ?_ | refine blk_alloc ?_ _)); exact BK175.out)) : gb175 ≠ gb178)); have n6_ := Aside0.mk ((by rw [hg]; exact Nat.ne_of_gt (blk_lt (g := gb175) (o := .cells #[.slice A0_0 l0_0.length c0_0, .slice (some ad177) l0_1.length c0_1] 64 (0, 0)) (by (with_reducible repeat (first | refine blk_drewN ?_ _ | refine blk_drew ?_ | refine blk_alloc ?_ _)); exact BK175.out)) : gb178 ≠ gb175)); clear BK175; clear HB; have BK175 := n0_; have HB := n1_; have BK178 := n2_; have GW178 := n3_; have GE178 := n4_; have NB175_178 := n5_; have NB178_175 := n6_; clear n0_ n1_ n2_ n3_ n4_ n5_ n6_; clear hb hbox hg; have hnb30 := NB178_175.out; have hnc30 := NB175_178.out; have hcz31_0 : w29.cell? ⟨gb178, 0, none⟩ = some (.int .i64 0) := (blk_cell BK178.out 0).trans rfl; have hcz31_1 : w29.cell? ⟨gb178, 1, none⟩ = some (.int .i64 0) := (blk_cell BK178.out 1).trans rfl; have hcz31_2 : w29.cell? ⟨gb178, 2, none⟩ = some (.int .i64 0) := (blk_cell BK178.out 2).trans rfl; have hcz31_3 : w29.cell? ⟨gb178, 3, none⟩ = some (.int .i64 0) := (blk_cell BK178.out 3).trans rfl; have hfz31_0 := blk_frozen BK178.out 0; have hfz31_1 := blk_frozen BK178.out 1; have hfz31_2 := blk_frozen BK178.out 2; have hfz31_3 := blk_frozen BK178.out 3; have hcz32_0 : w29.cell? ⟨gb175, 0, none⟩ = some (.slice A0_0 l0_0.length c0_0) := (blk_cell BK175.out 0).trans rfl; have hcz32_1 : w29.cell? ⟨gb175, 1, none⟩ = some (.slice (some ad177) l0_1.length c0_1) := (blk_cell BK175.out 1).trans rfl; have hfz32_0 := blk_frozen BK175.out 0; have hfz32_1 := blk_frozen BK175.out 1; obtain ⟨i033, hi033, _, hsz33, _⟩ := info_parts info21; obtain ⟨A33, hcut33, hA33, hC33⟩ := print_mid_of (P := Tryd.prog) (Value.int .i32) 0 57 21 .i64 .i64 Tryd.underlying57 hi033 hsz33 A0_0 c0_0 l0_0 ((rd_T54 l0_1 x19_2).f0.f0) (wrap64 (((rd_T54 l0_1 x19_2).f0.f0) + ((rd_T54 l0_1 x19_2).f0.f1))) (of_decide_eq_true (by first | (with_reducible assumption) | assumption)) (by first | omega | exact of_decide_eq_true (by first | (with_reducible assumption) | assumption)) (of_decide_eq_true (by first | (with_reducible assumption) | assumption)) HC0_0.out; have hle33_ : ((wrap64 (((rd_T54 l0_1 x19_2).f0.f0) + ((rd_T54 l0_1 x19_2).f0.f1))) : Int) ≤ (l0_0.length : Int) := of_decide_eq_true (by first | (with_reducible assumption) | assumption); have hln33_ : ((l0_0.take ((wrap64 (((rd_T54 l0_1 x19_2).f0.f0) + ((rd_T54 l0_1 x19_2).f0.f1))) : Int).toNat).drop (((rd_T54 l0_1 x19_2).f0.f0) : Int).toNat).length = ((wrap64 (((rd_T54 l0_1 x19_2).f0.f0) + ((rd_T54 l0_1 x19_2).f0.f1))) : Int).toNat - (((rd_T54 l0_1 x19_2).f0.f0) : Int).toNat := (by rw [List.length_drop, List.length_take]; omega); clear hle33_; have HR179 := Aside0.mk (Kd.C_of_reads (h1 := fun _ => rfl) (hA33 _ (Kd.reads_of_C HR0_0.out))); have HC179 := Aside0.mk hC33; clear hA33 hC33 hi033 hsz33) | (go_at_call 113; (first | rw [← hln28_] | rw [← hln33_] | rw [← hln17_] | skip); (with_reducible refine (spec_l1Breaks.calls k2 _ _ ((l0_0.take ((wrap64 (((rd_T54 l0_1 x19_2).f0.f0) + ((rd_T54 l0_1 x19_2).f0.f1))) : Int).toNat).drop (((rd_T54 l0_1 x19_2).f0.f0) : Int).toNat) t180 _ ?side1 ?side2 A22.out).mono ?_); (case side1 => exact Kd.C_below HR179.out (by repeat (first | (with_reducible first | exact HB.out | apply below_alloc | apply pw_below_drewN | apply below_drew1 | refine below_set ?_ GE175.out | refine below_set ?_ GE178.out) | exact HB.out))); (case side2 => exact HC179.out); rintro e w' ⟨rfl, ⟨nd, rfl⟩⟩; (try first | exact ⟨rfl, _, World.drewN_drewN _ _ _⟩ | exact ⟨rfl, _, Eq.trans (World.drewN_drewN _ _ _) (congrArg (World.drewN _) (Nat.add_assoc _ _ _))⟩))))
                            go_ret
                            exact ⟨by first | rfl | (simp [errW_none, errW_some] <;> rfl) | (simp [*, errW_none, errW_some] <;> rfl), by repeat (first | (with_reducible first | exact HB.out | apply below_alloc | apply pw_below_drewN | apply below_drew1 | refine below_set ?_ GE175.out | refine below_set ?_ GE178.out) | exact HB.out)⟩
                        · rw [if_neg c21] at H
                          exact absurd H (by simp)
                      · rw [if_neg c20] at H
                        exact absurd H (by simp)
                    · rw [if_neg c19] at H
                      exact absurd H (by simp)
                · rw [if_neg c13] at H
                  exact absurd H (by simp)
              · rw [if_neg c12] at H
                exact absurd H (by simp)
            · rw [if_neg c11] at H
              have c11b0 : decide (x19_2 < (l0_1.length : Int)) = false := decide_eq_false c11
              clear c11
              obtain rfl := Option.some.inj H
              go_wp2
              repeat (go_quiet (fail); try go_wp2)
              go_ret
              exact ⟨by first | rfl | (simp [errW_none, errW_some] <;> rfl) | (simp [*, errW_none, errW_some] <;> rfl), by repeat (first | (with_reducible first | exact HB.out | apply below_alloc | apply pw_below_drewN | apply below_drew1 | refine below_set ?_ GE175.out) | exact HB.out)⟩

/-! ### spec_L4PieceText: function 84 -/
def spec_L4PieceText.l0 : Nat → List Int → List (S54) → Int → Int → List Int → List (S54) → Option (List Int)
  | 0, _, _, _, _, _, _ => none
  | k + 1, x3, x9, x10, x11, x182000, x182001 => if x11 < x10 then (if 0 ≤ x11 then (if x11 < (x9.length : Int) then (if 0 ≤ ((rd_T54 x9 x11).f0.f0) then (if ((rd_T54 x9 x11).f0.f0) ≤ (wrap64 (((rd_T54 x9 x11).f0.f0) + ((rd_T54 x9 x11).f0.f1))) then (if (wrap64 (((rd_T54 x9 x11).f0.f0) + ((rd_T54 x9 x11).f0.f1))) ≤ (x182000.length : Int) then (if x3.length + ((x182000.take ((wrap64 (((rd_T54 x9 x11).f0.f0) + ((rd_T54 x9 x11).f0.f1))) : Int).toNat).drop (((rd_T54 x9 x11).f0.f0) : Int).toNat).length < 35184372088832 then (spec_L4PieceText.l0 k (x3 ++ ((x182000.take ((wrap64 (((rd_T54 x9 x11).f0.f0) + ((rd_T54 x9 x11).f0.f1))) : Int).toNat).drop (((rd_T54 x9 x11).f0.f0) : Int).toNat)) x9 x10 (wrap64 (x11 + 1)) x182000 x182001) else (none)) else (none)) else (none)) else (none)) else (none)) else (none)) else (some x3)
def spec_L4PieceText.f (k : Nat) (l0_0 : List Int) (l0_1 : List (S54)) : Option (List Int) := spec_L4PieceText.l0 k (([] : List Int)) l0_1 (l0_1.length : Int) 0 l0_0 l0_1
theorem spec_L4PieceText.mono_l : ∀ k, (∀ y0 y1 y2 y3 y4 y5, LeO (spec_L4PieceText.l0 k y0 y1 y2 y3 y4 y5) (spec_L4PieceText.l0 (k + 1) y0 y1 y2 y3 y4 y5))
  | 0 => fun _ _ _ _ _ _ r h => by simp [spec_L4PieceText.l0] at h
  | k + 1 => by
    have ih0 := spec_L4PieceText.mono_l k
    · intro y0 y1 y2 y3 y4 y5
      unfold spec_L4PieceText.l0
      repeat' first
      | (with_reducible exact ih0 _ _ _ _ _ _)
      | (with_reducible exact LeO.refl _)
      | (with_reducible exact LeO.none _)
      | (with_reducible refine LeO.ite ?_ ?_)
      | (with_reducible refine LeO.bind ?_ (fun _ => ?_))
      | exact ih0 _ _ _ _ _ _
      | exact LeO.none _
      | refine LeO.ite ?_ ?_
      | refine LeO.bind ?_ (fun _ => ?_)
theorem spec_L4PieceText.mono : ∀ a0 a1 k, LeO (spec_L4PieceText.f k a0 a1) (spec_L4PieceText.f (k + 1) a0 a1) := by
  intro a0 a1 k
  have ih0 := spec_L4PieceText.mono_l k
  unfold spec_L4PieceText.f
  repeat' first
      | (with_reducible exact ih0 _ _ _ _ _ _)
      | (with_reducible exact LeO.refl _)
      | (with_reducible exact LeO.none _)
      | (with_reducible refine LeO.ite ?_ ?_)
      | (with_reducible refine LeO.bind ?_ (fun _ => ?_))
      | exact ih0 _ _ _ _ _ _
      | exact LeO.none _
      | refine LeO.ite ?_ ?_
      | refine LeO.bind ?_ (fun _ => ?_)
set_option maxHeartbeats 8000000 in
set_option maxRecDepth 100000 in
theorem spec_L4PieceText.calls (k : Nat) (A0_0 : Option Addr) (c0_0 : Nat) (l0_0 : List Int) (A0_1 : Option Addr) (c0_1 : Nat) (l0_1 : List (S54)) (r : List Int) (w : World) (hr0_0 : Kd.C (Kd.int .i32) w A0_0 l0_0.length l0_0) (hc0_0 : l0_0.length ≤ c0_0) (hr0_1 : Kd.C k54 w A0_1 l0_1.length l0_1) (hc0_1 : l0_1.length ≤ c0_1) (h : spec_L4PieceText.f k l0_0 l0_1 = some r) :
    Calls Tryd.prog 84 #[.agg #[.slice A0_0 l0_0.length c0_0, .slice A0_1 l0_1.length c0_1]] w fun e w' => ∃ v0_ : Value, e = .returned (v0_) ∧ Kd.R (Kd.int .i32) 21 w' w.heap.size (fun _ => True) v0_ r ∧ Below w.heap.size w w' := by
  have hu64 := Tryd.underlying64
  have hu54 := Tryd.underlying54
  have HR0_0 := Aside0.mk hr0_0
  have HC0_0 := Aside0.mk hc0_0
  clear hr0_0 hc0_0
  have HR0_1 := Aside0.mk hr0_1
  have HC0_1 := Aside0.mk hc0_1
  clear hr0_1 hc0_1
  have HB := Aside0.mk (Below.refl w.heap.size w)
  have H : (spec_L4PieceText.l0 k (([] : List Int)) l0_1 (l0_1.length : Int) 0 l0_0 l0_1) = some r := h
  clear h
  obtain ⟨y182, hy182⟩ : ∃ y_ : List Int, y_ = (([] : List Int)) := ⟨_, rfl⟩
  replace H : (spec_L4PieceText.l0 k y182 l0_1 (l0_1.length : Int) 0 l0_0 l0_1) = some r := by first | (rw [hy182]; with_reducible exact H) | (have H2_ := (Option.bind_some _ _).symm.trans H; rw [hy182]; with_reducible exact H2_) | (have H2_ := (Option.bind_some _ _).symm.trans H; with_reducible exact H2_) | with_reducible exact H | (rw [hy182]; exact H) | exact H
  have Ny182 := Aside0.mk hy182
  clear hy182
  have H' := Aside0.mk H
  clear H
  go_enter Tryd.func84, Tryd.ntmps84
  go_wp2_with (first | ((with_reducible refine gate_dst (N := 1) rfl ?_); refine box_event ?hg (N := 1) ?hd (cs := #[.slice A0_0 l0_0.length c0_0, .slice A0_1 l0_1.length c0_1]) (t := 64) ?hr ?_; (case hd => rfl); (case hg => rfl); (case hr => first | (go_simp; done) | (go_simp; rfl)); intro gb181 hg w2 hbox hb; have n0_ := Aside0.mk (below_step (by repeat (first | (with_reducible first | exact HB.out | apply below_alloc | apply pw_below_drewN | apply below_drew1) | exact HB.out)) hb); have n1_ := Aside0.mk (hbox); have n2_ := Aside0.mk ((by rw [hg]; exact (below_size (by repeat (first | (with_reducible first | exact HB.out | apply below_alloc | apply pw_below_drewN | apply below_drew1) | exact HB.out))) : w.heap.size ≤ gb181)); have n3_ := Aside0.mk ((by rw [hg]; exact (below_size (by repeat (first | (with_reducible first | exact HB.out | apply below_alloc | apply pw_below_drewN | apply below_drew1) | exact HB.out))) : w.heap.size ≤ gb181)); clear HB; have HB := n0_; have BK181 := n1_; have GW181 := n2_; have GE181 := n3_; clear n0_ n1_ n2_ n3_; clear hb hbox hg) | ((with_reducible refine gate_dst (N := 6) rfl ?_); refine Kd.R_lit (Kd.int .i32) _ 21 ?hg (N := 6) ?hd (xs := ([] : List Int)) (inner := []) (ok := fun _ => True) (okp := fun _ => True) ?hr ?hp (fun _ hk => hk) trivial (Below.refl _ _) (Nat.le_refl _) (by simp) ?_; (case hd => rfl); (case hg => rfl); (case hr => first | (go_simp; done) | (go_simp; rfl)); (case hp => exact (Reps.none _ _)); intro v183 w3 ho4 hb hg_ hnew_; clear hg_ hnew_; (first | rw [← Ny182.out] at ho4 | (simp only [Int.reduceToNat] at ho4; rw [← Ny182.out] at ho4)); have n0_ := Aside0.mk (Kd.R_lower ho4 (below_size (by repeat (first | (with_reducible first | exact HB.out | apply below_alloc | apply pw_below_drewN | apply below_drew1 | refine below_set ?_ GE181.out) | exact HB.out)))); have n1_ := Aside0.mk (blk_below (g := gb181) (o := .cells #[.slice A0_0 l0_0.length c0_0, .slice A0_1 l0_1.length c0_1] 64 (0, 0)) (by (with_reducible repeat (first | refine blk_drewN ?_ _ | refine blk_drew ?_ | refine blk_alloc ?_ _)); exact BK181.out) hb); have n2_ := Aside0.mk (below_step (by repeat (first | (with_reducible first | exact HB.out | apply below_alloc | apply pw_below_drewN | apply below_drew1 | refine below_set ?_ GE181.out) | exact HB.out)) hb); clear BK181; clear HB; have HO184 := n0_; have BK181 := n1_; have HB := n2_; clear n0_ n1_ n2_; clear hb ho4; have hcz5_0 : w3.cell? ⟨gb181, 0, none⟩ = some (.slice A0_0 l0_0.length c0_0) := (blk_cell BK181.out 0).trans rfl; have hcz5_1 : w3.cell? ⟨gb181, 1, none⟩ = some (.slice A0_1 l0_1.length c0_1) := (blk_cell BK181.out 1).trans rfl; have hfz5_0 := blk_frozen BK181.out 0; have hfz5_1 := blk_frozen BK181.out 1))
  go_loopg [3, 11] k (fun kq v3 v11 w' => ∃ (x3_1 : List Int) (x11_1 : Int), v11 = .int .i64 x11_1 ∧ Aside0 (spec_L4PieceText.l0 kq x3_1 l0_1 (l0_1.length : Int) x11_1 l0_0 l0_1 = some r) ∧ Aside0 (kq ≤ k) ∧ Aside0 (Kd.R (Kd.int .i32) 21 w' w.heap.size (fun _ => True) v3 x3_1) ∧ Aside0 (w'.heap[gb181]? = some (.cells #[(.slice A0_0 l0_0.length c0_0), (.slice A0_1 l0_1.length c0_1)] 64 (0, 0))) ∧ Aside0 (Below w.heap.size w w'))
  case atStart => exact ⟨(y182), (0), (by first | rfl | (simp; done) | (simp [*]; done)), H', ⟨Nat.le_refl _⟩, ⟨by (with_reducible repeat (first | apply Kd.R_alloc | apply Kd.R_drewN | apply Kd.R_drew)); exact HO184.out⟩, ⟨by (with_reducible repeat (first | refine blk_drewN ?_ _ | refine blk_drew ?_ | refine blk_alloc ?_ _)); exact BK181.out⟩, ⟨by repeat (first | (with_reducible first | exact HB.out | apply below_alloc | apply pw_below_drewN | apply below_drew1 | refine below_set ?_ GE181.out) | exact HB.out)⟩⟩
  case round =>
    clear H'
    try clear p2
    try clear hcz5_0
    try clear hcz5_1
    try clear hfz5_0
    try clear hfz5_1
    obtain ⟨x3_1, x11_1, rfl, HA, HK1, HO_3, BK181, HB⟩ := hrel
    cases gk with
    | zero => exact absurd HA.out (by simp [spec_L4PieceText.l0])
    | succ k1 =>
      have H := HA.out
      clear HA
      simp only [spec_L4PieceText.l0] at H
      by_cases c6 : x11_1 < (l0_1.length : Int)
      · rw [if_pos c6] at H
        have c6b0 : decide (x11_1 < (l0_1.length : Int)) = true := decide_eq_true c6
        clear c6
        by_cases c7 : 0 ≤ x11_1
        · rw [if_pos c7] at H
          have c7b0 : decide (0 ≤ x11_1) = true := decide_eq_true c7
          clear c7
          by_cases c8 : x11_1 < (l0_1.length : Int)
          · rw [if_pos c8] at H
            have c8b0 : decide (x11_1 < (l0_1.length : Int)) = true := decide_eq_true c8
            clear c8
            by_cases c9 : 0 ≤ ((rd_T54 l0_1 x11_1).f0.f0)
            · rw [if_pos c9] at H
              have c9b0 := eq_true c9
              have c9b1 : decide (0 ≤ ((rd_T54 l0_1 x11_1).f0.f0)) = true := decide_eq_true c9
              clear c9
              by_cases c10 : ((rd_T54 l0_1 x11_1).f0.f0) ≤ (wrap64 (((rd_T54 l0_1 x11_1).f0.f0) + ((rd_T54 l0_1 x11_1).f0.f1)))
              · rw [if_pos c10] at H
                have c10b0 := eq_true c10
                have c10b1 : decide (((rd_T54 l0_1 x11_1).f0.f0) ≤ (wrap64 (((rd_T54 l0_1 x11_1).f0.f0) + ((rd_T54 l0_1 x11_1).f0.f1)))) = true := decide_eq_true c10
                by_cases c11 : (wrap64 (((rd_T54 l0_1 x11_1).f0.f0) + ((rd_T54 l0_1 x11_1).f0.f1))) ≤ (l0_0.length : Int)
                · rw [if_pos c11] at H
                  have c11b0 := eq_true c11
                  have c11b1 : decide ((wrap64 (((rd_T54 l0_1 x11_1).f0.f0) + ((rd_T54 l0_1 x11_1).f0.f1))) ≤ (l0_0.length : Int)) = true := decide_eq_true c11
                  by_cases c12 : x3_1.length + ((l0_0.take ((wrap64 (((rd_T54 l0_1 x11_1).f0.f0) + ((rd_T54 l0_1 x11_1).f0.f1))) : Int).toNat).drop (((rd_T54 l0_1 x11_1).f0.f0) : Int).toNat).length < 35184372088832
                  · rw [if_pos c12] at H
                    have LMc12 := Aside0.mk c12
                    clear c12
                    obtain ⟨y188, hy188⟩ : ∃ y_ : List Int, y_ = (x3_1 ++ ((l0_0.take ((wrap64 (((rd_T54 l0_1 x11_1).f0.f0) + ((rd_T54 l0_1 x11_1).f0.f1))) : Int).toNat).drop (((rd_T54 l0_1 x11_1).f0.f0) : Int).toNat)) := ⟨_, rfl⟩
                    replace H : (spec_L4PieceText.l0 k1 y188 l0_1 (l0_1.length : Int) (wrap64 (x11_1 + 1)) l0_0 l0_1) = some r := by first | (rw [hy188]; with_reducible exact H) | (have H2_ := (Option.bind_some _ _).symm.trans H; rw [hy188]; with_reducible exact H2_) | (have H2_ := (Option.bind_some _ _).symm.trans H; with_reducible exact H2_) | with_reducible exact H | (rw [hy188]; exact H) | exact H
                    have Ny188 := Aside0.mk hy188
                    clear hy188
                    have H' := Aside0.mk H
                    clear H
                    have p185 : 0 ≤ (x11_1 : Int) := of_decide_eq_true (by first | (with_reducible assumption) | assumption)
                    have q185 : x11_1 < (l0_1.length : Int) := of_decide_eq_true (by first | (with_reducible assumption) | assumption)
                    obtain ⟨ad185, e185, hx185_0, hx185_1, hx185_2, hx185_3⟩ := at_T54 HR0_1.out x11_1 p185 q185
                    cases e185
                    replace hx185_0 := (HB.out.cell (World.block_lt_of_cell? w _ hx185_0)).trans hx185_0
                    replace hx185_1 := (HB.out.cell (World.block_lt_of_cell? w _ hx185_1)).trans hx185_1
                    replace hx185_2 := (HB.out.cell (World.block_lt_of_cell? w _ hx185_2)).trans hx185_2
                    replace hx185_3 := (HB.out.cell (World.block_lt_of_cell? w _ hx185_3)).trans hx185_3
                    replace p185 := eq_true p185
                    replace q185 := eq_true q185
                    go_wp2_with (first | ((with_reducible refine gate_dst (N := 5) rfl ?_); refine box_event ?hg (N := 5) ?hd (cs := #[.int .i64 0, .int .i64 0, .int .i64 0, .int .i64 0]) (t := 54) ?hr ?_; (case hd => rfl); (case hg => rfl); (case hr => first | (go_simp; done) | (go_simp; rfl)); intro gb186 hg w13 hbox hb; have n0_ := Aside0.mk (Kd.R_below (by (with_reducible repeat (first | apply Kd.R_alloc | apply Kd.R_drewN | apply Kd.R_drew)); exact HO_3.out) hb); have n1_ := Aside0.mk (blk_below (g := gb181) (o := .cells #[.slice A0_0 l0_0.length c0_0, .slice (some ad185) l0_1.length c0_1] 64 (0, 0)) (by (with_reducible repeat (first | refine blk_drewN ?_ _ | refine blk_drew ?_ | refine blk_alloc ?_ _)); exact BK181.out) hb); have n2_ := Aside0.mk (below_step (by repeat (first | (with_reducible first | exact HB.out | apply below_alloc | apply pw_below_drewN | apply below_drew1 | refine below_set ?_ GE181.out) | exact HB.out)) hb); have n3_ := Aside0.mk (hbox); have n4_ := Aside0.mk ((by rw [hg]; exact (below_size (by repeat (first | (with_reducible first | exact HB.out | apply below_alloc | apply pw_below_drewN | apply below_drew1 | refine below_set ?_ GE181.out) | exact HB.out))) : w.heap.size ≤ gb186)); have n5_ := Aside0.mk ((by rw [hg]; exact (below_size (by repeat (first | (with_reducible first | exact HB.out | apply below_alloc | apply pw_below_drewN | apply below_drew1 | refine below_set ?_ GE181.out) | exact HB.out))) : w.heap.size ≤ gb186)); have n6_ := Aside0.mk ((by rw [hg]; exact Nat.ne_of_lt (blk_lt (g := gb181) (o := .cells #[.slice A0_0 l0_0.length c0_0, .slice (some ad185) l0_1.length c0_1] 64 (0, 0)) (by (with_reducible repeat (first | refine blk_drewN ?_ _ | refine blk_drew ?_ | refine blk_alloc ?_ _)); exact BK181.out)) : gb181 ≠ gb186)); have n7_ := Aside0.mk ((by rw [hg]; exact Nat.ne_of_gt (blk_lt (g := gb181) (o := .cells #[.slice A0_0 l0_0.length c0_0, .slice (some ad185) l0_1.length c0_1] 64 (0, 0)) (by (with_reducible repeat (first | refine blk_drewN ?_ _ | refine blk_drew ?_ | refine blk_alloc ?_ _)); exact BK181.out)) : gb186 ≠ gb181)); clear HO_3; clear BK181; clear HB; have HO_3 := n0_; have BK181 := n1_; have HB := n2_; have BK186 := n3_; have GW186 := n4_; have GE186 := n5_; have NB181_186 := n6_; have NB186_181 := n7_; clear n0_ n1_ n2_ n3_ n4_ n5_ n6_ n7_; clear hb hbox hg; have hnb14 := NB186_181.out; have hnc14 := NB181_186.out; have hcz15_0 : w13.cell? ⟨gb186, 0, none⟩ = some (.int .i64 0) := (blk_cell BK186.out 0).trans rfl; have hcz15_1 : w13.cell? ⟨gb186, 1, none⟩ = some (.int .i64 0) := (blk_cell BK186.out 1).trans rfl; have hcz15_2 : w13.cell? ⟨gb186, 2, none⟩ = some (.int .i64 0) := (blk_cell BK186.out 2).trans rfl; have hcz15_3 : w13.cell? ⟨gb186, 3, none⟩ = some (.int .i64 0) := (blk_cell BK186.out 3).trans rfl; have hfz15_0 := blk_frozen BK186.out 0; have hfz15_1 := blk_frozen BK186.out 1; have hfz15_2 := blk_frozen BK186.out 2; have hfz15_3 := blk_frozen BK186.out 3; have hcz16_0 : w13.cell? ⟨gb181, 0, none⟩ = some (.slice A0_0 l0_0.length c0_0) := (blk_cell BK181.out 0).trans rfl; have hcz16_1 : w13.cell? ⟨gb181, 1, none⟩ = some (.slice (some ad185) l0_1.length c0_1) := (blk_cell BK181.out 1).trans rfl; have hfz16_0 := blk_frozen BK181.out 0; have hfz16_1 := blk_frozen BK181.out 1; obtain ⟨i017, hi017, _, hsz17, _⟩ := info_parts info21; obtain ⟨A17, hcut17, hA17, hC17⟩ := print_mid_of (P := Tryd.prog) (Value.int .i32) 0 57 21 .i64 .i64 Tryd.underlying57 hi017 hsz17 A0_0 c0_0 l0_0 ((rd_T54 l0_1 x11_1).f0.f0) (wrap64 (((rd_T54 l0_1 x11_1).f0.f0) + ((rd_T54 l0_1 x11_1).f0.f1))) (of_decide_eq_true (by first | (with_reducible assumption) | assumption)) (by first | omega | exact of_decide_eq_true (by first | (with_reducible assumption) | assumption)) (of_decide_eq_true (by first | (with_reducible assumption) | assumption)) HC0_0.out; have hle17_ : ((wrap64 (((rd_T54 l0_1 x11_1).f0.f0) + ((rd_T54 l0_1 x11_1).f0.f1))) : Int) ≤ (l0_0.length : Int) := of_decide_eq_true (by first | (with_reducible assumption) | assumption); have hln17_ : ((l0_0.take ((wrap64 (((rd_T54 l0_1 x11_1).f0.f0) + ((rd_T54 l0_1 x11_1).f0.f1))) : Int).toNat).drop (((rd_T54 l0_1 x11_1).f0.f0) : Int).toNat).length = ((wrap64 (((rd_T54 l0_1 x11_1).f0.f0) + ((rd_T54 l0_1 x11_1).f0.f1))) : Int).toNat - (((rd_T54 l0_1 x11_1).f0.f0) : Int).toNat := (by rw [List.length_drop, List.length_take]; omega); clear hle17_; have HR187 := Aside0.mk (Kd.C_of_reads (h1 := fun _ => rfl) (hA17 _ (Kd.reads_of_C HR0_0.out))); have HC187 := Aside0.mk hC17; clear hA17 hC17 hi017 hsz17) | ((with_reducible refine gate_builtin (b := .append) (xs := #[.tmp 15, .tmp 28]) rfl ?_); at_builtin; refine Kd.R_append_rows (Kd.int .i32) (w0 := w) w.heap.size rfl (.tmp 15) (.tmp 28) 57 21 (.int .i32 0) 4 rfl Tryd.underlying57 info21 rfl (by decide) (by omega) u3 x3_1 ((l0_0.take ((wrap64 (((rd_T54 l0_1 x11_1).f0.f0) + ((rd_T54 l0_1 x11_1).f0.f1))) : Int).toNat).drop (((rd_T54 l0_1 x11_1).f0.f0) : Int).toNat) _ _ _ (fun _ => True) (fun _ => False) rfl rfl ?aO ?aR (fun _ _ h => h) (fun _ h => h.elim) ?aF ?aB ?aS ?aL ?_; (case aR => first | (refine C_len_ (show ((l0_0.take ((wrap64 (((rd_T54 l0_1 x11_1).f0.f0) + ((rd_T54 l0_1 x11_1).f0.f1))) : Int).toNat).drop (((rd_T54 l0_1 x11_1).f0.f0) : Int).toNat).length = ((wrap64 (((rd_T54 l0_1 x11_1).f0.f0) + ((rd_T54 l0_1 x11_1).f0.f1))).toNat - ((rd_T54 l0_1 x11_1).f0.f0).toNat) from (by rw [List.length_drop, List.length_take]; have h_ : ((wrap64 (((rd_T54 l0_1 x11_1).f0.f0) + ((rd_T54 l0_1 x11_1).f0.f1))) : Int) ≤ (l0_0.length : Int) := of_decide_eq_true (by first | (with_reducible assumption) | assumption); omega)) ?_; exact Kd.C_below HR187.out (by repeat (first | (with_reducible first | exact HB.out | apply below_alloc | apply pw_below_drewN | apply below_drew1 | refine below_set ?_ GE181.out | refine below_set ?_ GE186.out) | exact HB.out))) | (exact Kd.C_below HR187.out (by repeat (first | (with_reducible first | exact HB.out | apply below_alloc | apply pw_below_drewN | apply below_drew1 | refine below_set ?_ GE181.out | refine below_set ?_ GE186.out) | exact HB.out)))); (case aB => exact (by repeat (first | (with_reducible first | exact HB.out | apply below_alloc | apply pw_below_drewN | apply below_drew1 | refine below_set ?_ GE181.out | refine below_set ?_ GE186.out) | exact HB.out))); (case aF => exact (fun _ _ => trivial)); (case aO => exact (by (with_reducible repeat (first | apply Kd.R_alloc | apply Kd.R_drewN | apply Kd.R_drew)); exact Kd.R_mono (Kd.R_far (p := ⟨gb186, 3, none⟩) (Kd.R_far (p := ⟨gb186, 2, none⟩) (Kd.R_far (p := ⟨gb186, 1, none⟩) (Kd.R_far (p := ⟨gb186, 0, none⟩) (Kd.R_types HO_3.out BK186.out (by decide)) (fun _ hk => hk.2) (.int .i64 ((rd_T54 l0_1 x11_1).f0.f0))) (fun _ hk => hk.2) (.int .i64 ((rd_T54 l0_1 x11_1).f0.f1))) (fun _ hk => hk.2) (.int .i64 ((rd_T54 l0_1 x11_1).f0.f2))) (fun _ hk => hk.2) (.int .i64 ((rd_T54 l0_1 x11_1).f1))) (fun _ hk => trivial))); (case aS => exact (below_size (by repeat (first | (with_reducible first | exact HB.out | apply below_alloc | apply pw_below_drewN | apply below_drew1 | refine below_set ?_ GE181.out | refine below_set ?_ GE186.out) | exact HB.out)))); (case aL => have := LMc12.out; have hlx_ := (show ((l0_0.take ((wrap64 (((rd_T54 l0_1 x11_1).f0.f0) + ((rd_T54 l0_1 x11_1).f0.f1))) : Int).toNat).drop (((rd_T54 l0_1 x11_1).f0.f0) : Int).toNat).length = ((wrap64 (((rd_T54 l0_1 x11_1).f0.f0) + ((rd_T54 l0_1 x11_1).f0.f1))).toNat - ((rd_T54 l0_1 x11_1).f0.f0).toNat) from (by rw [List.length_drop, List.length_take]; have h_ : ((wrap64 (((rd_T54 l0_1 x11_1).f0.f0) + ((rd_T54 l0_1 x11_1).f0.f1))) : Int) ≤ (l0_0.length : Int) := of_decide_eq_true (by first | (with_reducible assumption) | assumption); omega)); omega); intro v189 w18 ho hb hg hat; rw [← Ny188.out] at ho; have n0_ := Aside0.mk (blk_grown (g := gb181) (o := .cells #[.slice A0_0 l0_0.length c0_0, .slice (some ad185) l0_1.length c0_1] 64 (0, 0)) (by (with_reducible repeat (first | refine blk_drewN ?_ _ | refine blk_drew ?_ | refine blk_alloc ?_ _)); refine blk_far ?_ NB181_186.out _; (with_reducible repeat (first | refine blk_drewN ?_ _ | refine blk_drew ?_ | refine blk_alloc ?_ _)); refine blk_far ?_ NB181_186.out _; (with_reducible repeat (first | refine blk_drewN ?_ _ | refine blk_drew ?_ | refine blk_alloc ?_ _)); refine blk_far ?_ NB181_186.out _; (with_reducible repeat (first | refine blk_drewN ?_ _ | refine blk_drew ?_ | refine blk_alloc ?_ _)); refine blk_far ?_ NB181_186.out _; (with_reducible repeat (first | refine blk_drewN ?_ _ | refine blk_drew ?_ | refine blk_alloc ?_ _)); exact BK181.out) hg (Kd.R_ne HO_3.out BK181.out (by decide))); have n1_ := Aside0.mk (blk_grown (g := gb186) (o := .cells #[.int .i64 ((rd_T54 l0_1 x11_1).f0.f0), .int .i64 ((rd_T54 l0_1 x11_1).f0.f1), .int .i64 ((rd_T54 l0_1 x11_1).f0.f2), .int .i64 ((rd_T54 l0_1 x11_1).f1)] 54 (0, 0)) (by (with_reducible repeat (first | refine blk_drewN ?_ _ | refine blk_drew ?_ | refine blk_alloc ?_ _)); refine blk_put (cs := #[.int .i64 ((rd_T54 l0_1 x11_1).f0.f0), .int .i64 ((rd_T54 l0_1 x11_1).f0.f1), .int .i64 ((rd_T54 l0_1 x11_1).f0.f2), .int .i64 0]) ?_ 3 _ rfl; (with_reducible repeat (first | refine blk_drewN ?_ _ | refine blk_drew ?_ | refine blk_alloc ?_ _)); refine blk_put (cs := #[.int .i64 ((rd_T54 l0_1 x11_1).f0.f0), .int .i64 ((rd_T54 l0_1 x11_1).f0.f1), .int .i64 0, .int .i64 0]) ?_ 2 _ rfl; (with_reducible repeat (first | refine blk_drewN ?_ _ | refine blk_drew ?_ | refine blk_alloc ?_ _)); refine blk_put (cs := #[.int .i64 ((rd_T54 l0_1 x11_1).f0.f0), .int .i64 0, .int .i64 0, .int .i64 0]) ?_ 1 _ rfl; (with_reducible repeat (first | refine blk_drewN ?_ _ | refine blk_drew ?_ | refine blk_alloc ?_ _)); refine blk_put (cs := #[.int .i64 0, .int .i64 0, .int .i64 0, .int .i64 0]) ?_ 0 _ rfl; (with_reducible repeat (first | refine blk_drewN ?_ _ | refine blk_drew ?_ | refine blk_alloc ?_ _)); exact BK186.out) hg (Kd.R_ne HO_3.out BK186.out (by decide))); have n2_ := Aside0.mk (hb); have n3_ := Aside0.mk (ho); clear BK181; clear BK186; clear HB; clear HO_3; have BK181 := n0_; have BK186 := n1_; have HB := n2_; have HO190 := n3_; clear n0_ n1_ n2_ n3_; clear ho hb hg hat))
                    go_roundg k1
                    case measure => have := HK1.out; omega
                    case rel => exact ⟨(y188), (wrap64 (x11_1 + 1)), (by first | rfl | (simp; done) | (simp [*]; done)), H', ⟨by have := HK1.out; omega⟩, ⟨by (with_reducible repeat (first | apply Kd.R_alloc | apply Kd.R_drewN | apply Kd.R_drew)); exact HO190.out⟩, ⟨by (with_reducible repeat (first | refine blk_drewN ?_ _ | refine blk_drew ?_ | refine blk_alloc ?_ _)); exact BK181.out⟩, ⟨by repeat (first | (with_reducible first | exact HB.out | apply below_alloc | apply pw_below_drewN | apply below_drew1 | refine below_set ?_ GE181.out | refine below_set ?_ GE186.out) | exact HB.out)⟩⟩
                  · rw [if_neg c12] at H
                    exact absurd H (by simp)
                · rw [if_neg c11] at H
                  exact absurd H (by simp)
              · rw [if_neg c10] at H
                exact absurd H (by simp)
            · rw [if_neg c9] at H
              exact absurd H (by simp)
          · rw [if_neg c8] at H
            exact absurd H (by simp)
        · rw [if_neg c7] at H
          exact absurd H (by simp)
      · rw [if_neg c6] at H
        have c6b0 : decide (x11_1 < (l0_1.length : Int)) = false := decide_eq_false c6
        clear c6
        obtain rfl := Option.some.inj H
        go_wp2
        go_ret
        exact ⟨_, by first | rfl | (simp [errW_none, errW_some] <;> rfl) | (simp [*, errW_none, errW_some] <;> rfl), by (with_reducible repeat (first | apply Kd.R_alloc | apply Kd.R_drewN | apply Kd.R_drew)); exact HO_3.out, by repeat (first | (with_reducible first | exact HB.out | apply below_alloc | apply pw_below_drewN | apply below_drew1 | refine below_set ?_ GE181.out) | exact HB.out)⟩

/-! ### spec_l4Offset: function 90 -/
mutual
def spec_l4Offset.l0 : Nat → List Int → Int → Int → Int → Int → Int → Option (Int)
  | 0, _, _, _, _, _, _ => none
  | k + 1, x0, x1, x2, x7, x8, x9 => if x9 ≤ (x0.length : Int) then (if x7 = x1 then (spec_l4Offset.j1 k x0 x1 x2 x7 x8 x9 (x8 == x2)) else (spec_l4Offset.j1 k x0 x1 x2 x7 x8 x9 false)) else (some (-1))
def spec_l4Offset.j1 : Nat → List Int → Int → Int → Int → Int → Int → Bool → Option (Int)
  | 0, _, _, _, _, _, _, _ => none
  | k + 1, x0, x1, x2, x7, x8, x9, x23 => if x23 = true then (some x9) else (if x9 < (x0.length : Int) then (if 0 ≤ x9 then (if (rd x0 x9) = 10 then (spec_l4Offset.l0 k x0 x1 x2 (wrap64 (x7 + 1)) 0 (wrap64 (x9 + 1))) else (spec_l4Offset.l0 k x0 x1 x2 x7 (wrap64 (x8 + 1)) (wrap64 (x9 + 1)))) else (none)) else (spec_l4Offset.l0 k x0 x1 x2 x7 x8 (wrap64 (x9 + 1))))
end
def spec_l4Offset.f (k : Nat) (l0 : List Int) (a1 : Int) (a2 : Int) : Option (Int) := spec_l4Offset.l0 k l0 a1 a2 0 0 0
theorem spec_l4Offset.mono_l : ∀ k, (∀ y0 y1 y2 y3 y4 y5, LeO (spec_l4Offset.l0 k y0 y1 y2 y3 y4 y5) (spec_l4Offset.l0 (k + 1) y0 y1 y2 y3 y4 y5)) ∧ (∀ y0 y1 y2 y3 y4 y5 y6, LeO (spec_l4Offset.j1 k y0 y1 y2 y3 y4 y5 y6) (spec_l4Offset.j1 (k + 1) y0 y1 y2 y3 y4 y5 y6))
  | 0 => ⟨fun _ _ _ _ _ _ r h => by simp [spec_l4Offset.l0] at h, fun _ _ _ _ _ _ _ r h => by simp [spec_l4Offset.j1] at h⟩
  | k + 1 => by
    obtain ⟨ih0, ih1⟩ := spec_l4Offset.mono_l k
    refine ⟨?_, ?_⟩
    · intro y0 y1 y2 y3 y4 y5
      unfold spec_l4Offset.l0
      repeat' first
      | (with_reducible exact ih0 _ _ _ _ _ _)
      | (with_reducible exact ih1 _ _ _ _ _ _ _)
      | (with_reducible exact LeO.refl _)
      | (with_reducible exact LeO.none _)
      | (with_reducible refine LeO.ite ?_ ?_)
      | (with_reducible refine LeO.bind ?_ (fun _ => ?_))
      | exact ih0 _ _ _ _ _ _
      | exact ih1 _ _ _ _ _ _ _
      | exact LeO.none _
      | refine LeO.ite ?_ ?_
      | refine LeO.bind ?_ (fun _ => ?_)
    · intro y0 y1 y2 y3 y4 y5 y6
      unfold spec_l4Offset.j1
      repeat' first
      | (with_reducible exact ih0 _ _ _ _ _ _)
      | (with_reducible exact ih1 _ _ _ _ _ _ _)
      | (with_reducible exact LeO.refl _)
      | (with_reducible exact LeO.none _)
      | (with_reducible refine LeO.ite ?_ ?_)
      | (with_reducible refine LeO.bind ?_ (fun _ => ?_))
      | exact ih0 _ _ _ _ _ _
      | exact ih1 _ _ _ _ _ _ _
      | exact LeO.none _
      | refine LeO.ite ?_ ?_
      | refine LeO.bind ?_ (fun _ => ?_)
theorem spec_l4Offset.mono : ∀ a0 a1 a2 k, LeO (spec_l4Offset.f k a0 a1 a2) (spec_l4Offset.f (k + 1) a0 a1 a2) := by
  intro a0 a1 a2 k
  obtain ⟨ih0, ih1⟩ := spec_l4Offset.mono_l k
  unfold spec_l4Offset.f
  repeat' first
      | (with_reducible exact ih0 _ _ _ _ _ _)
      | (with_reducible exact ih1 _ _ _ _ _ _ _)
      | (with_reducible exact LeO.refl _)
      | (with_reducible exact LeO.none _)
      | (with_reducible refine LeO.ite ?_ ?_)
      | (with_reducible refine LeO.bind ?_ (fun _ => ?_))
      | exact ih0 _ _ _ _ _ _
      | exact ih1 _ _ _ _ _ _ _
      | exact LeO.none _
      | refine LeO.ite ?_ ?_
      | refine LeO.bind ?_ (fun _ => ?_)
set_option maxHeartbeats 8000000 in
set_option maxRecDepth 100000 in
theorem spec_l4Offset.calls (k : Nat) (A0 : Option Addr) (c0 : Nat) (l0 : List Int) (a1 : Int) (a2 : Int) (r : Int) (w : World) (hr0 : Kd.C (Kd.int .i32) w A0 l0.length l0) (hc0 : l0.length ≤ c0) (h : spec_l4Offset.f k l0 a1 a2 = some r) :
    Calls Tryd.prog 90 #[.slice A0 l0.length c0, .int .i64 a1, .int .i64 a2] w fun e w' => e = .returned (.int .i64 r) ∧ Drawn0 w w' := by
  have HR0 := Aside0.mk hr0
  have HC0 := Aside0.mk hc0
  clear hr0 hc0
  have H : (spec_l4Offset.l0 k l0 a1 a2 0 0 0) = some r := h
  clear h
  have H' := Aside0.mk H
  clear H
  go_enter Tryd.func90, Tryd.ntmps90
  go_wp2
  go_loopg [7, 8, 9] k (fun kq v7 v8 v9 w' => ∃ (x7_1 : Int) (x8_1 : Int) (x9_1 : Int), v7 = .int .i64 x7_1 ∧ v8 = .int .i64 x8_1 ∧ v9 = .int .i64 x9_1 ∧ Aside0 (spec_l4Offset.l0 kq l0 a1 a2 x7_1 x8_1 x9_1 = some r) ∧ Aside0 (kq ≤ k) ∧ Drawn0 w w')
  case atStart => exact ⟨(0), (0), (0), (by first | rfl | (simp; done) | (simp [*]; done)), (by first | rfl | (simp; done) | (simp [*]; done)), (by first | rfl | (simp; done) | (simp [*]; done)), H', ⟨Nat.le_refl _⟩, by repeat (first | exact Drawn0.refl _ | apply Drawn0.step)⟩
  case round =>
    clear H'
    try clear p2
    obtain ⟨x7_1, x8_1, x9_1, rfl, rfl, rfl, HA, HK1, ⟨m1, rfl⟩⟩ := hrel
    cases gk with
    | zero => exact absurd HA.out (by simp [spec_l4Offset.l0])
    | succ k1 =>
      have H := HA.out
      clear HA
      simp only [spec_l4Offset.l0] at H
      by_cases c4 : x9_1 ≤ (l0.length : Int)
      · rw [if_pos c4] at H
        have c4b0 : decide (x9_1 ≤ (l0.length : Int)) = true := decide_eq_true c4
        clear c4
        have HC5 := Aside0.mk H
        clear H
        go_upto_region 6 with (fail)
        go_cut [23] (fun v23 wc => ∃ (kq : Nat) (x23_4 : Bool), v23 = .bool x23_4 ∧ Aside0 (spec_l4Offset.j1 kq l0 a1 a2 x7_1 x8_1 x9_1 x23_4 = some r) ∧ Aside0 (kq ≤ k1) ∧ Drawn0 w wc)
        case first =>
          have H := HC5.out
          clear HC5
          by_cases c6 : x7_1 = a1
          · rw [if_pos c6] at H
            have c6b0 : (x7_1 == a1) = true := beq_iff_eq.mpr c6
            have c6b1 : (x7_1 != a1) = false := bne_eq_false_iff_eq.mpr c6
            clear c6
            (first | rw [c6b0] | (simp only [i64_w, i32_w]; rw [c6b0]) | skip)
            have H' := Aside0.mk H
            clear H
            go_wp2
            go_meet
            case rel => exact ⟨_, ((x8_1 == a2)), (by first | rfl | (simp; done) | (simp [*]; done)), H', ⟨by have := HK1.out; first | omega | exact Nat.le_refl _⟩, by repeat (first | exact Drawn0.refl _ | apply Drawn0.step)⟩
          · rw [if_neg c6] at H
            have c6b0 : (x7_1 == a1) = false := beq_eq_false_iff_ne.mpr c6
            have c6b1 : (x7_1 != a1) = true := bne_iff_ne.mpr c6
            (first | rw [c6b0] | (simp only [i64_w, i32_w]; rw [c6b0]) | skip)
            have H' := Aside0.mk H
            clear H
            go_wp2
            go_meet
            case rel => exact ⟨_, (false), (by first | rfl | (simp; done) | (simp [*]; done)), H', ⟨by have := HK1.out; first | omega | exact Nat.le_refl _⟩, by repeat (first | exact Drawn0.refl _ | apply Drawn0.step)⟩
        case rest =>
          clear HC5
          try clear p2
          try clear c4
          try clear c4b0
          try clear c6
          try clear c6b0
          try clear c6b1
          try clear p2
          obtain ⟨kq, x23_4, rfl, HA, HJ4, ⟨mc4, rfl⟩⟩ := hcut
          cases kq with
          | zero => exact absurd HA.out (by simp [spec_l4Offset.j1])
          | succ kj4 =>
            have H := HA.out
            clear HA
            simp only [spec_l4Offset.j1] at H
            by_cases c7 : x23_4 = true
            · subst c7
              have H1 : (some x9_1) = some r := by rw [if_pos rfl] at H; exact H
              clear H
              have H := H1
              clear H1
              obtain rfl := Option.some.inj H
              go_wp2
              go_ret
              exact ⟨by first | rfl | (simp; done) | (simp [*]; done), by repeat (first | exact Drawn0.refl _ | apply Drawn0.step)⟩
            · replace c7 := Bool.eq_false_iff.mpr c7
              subst c7
              have H1 : (if x9_1 < (l0.length : Int) then (if 0 ≤ x9_1 then (if (rd l0 x9_1) = 10 then (spec_l4Offset.l0 kj4 l0 a1 a2 (wrap64 (x7_1 + 1)) 0 (wrap64 (x9_1 + 1))) else (spec_l4Offset.l0 kj4 l0 a1 a2 x7_1 (wrap64 (x8_1 + 1)) (wrap64 (x9_1 + 1)))) else (none)) else (spec_l4Offset.l0 kj4 l0 a1 a2 x7_1 x8_1 (wrap64 (x9_1 + 1)))) = some r := by rw [if_neg (show ¬ (false = true) by decide)] at H; exact H
              clear H
              have H := H1
              clear H1
              by_cases c8 : x9_1 < (l0.length : Int)
              · rw [if_pos c8] at H
                have c8b0 : decide (x9_1 < (l0.length : Int)) = true := decide_eq_true c8
                clear c8
                by_cases c9 : 0 ≤ x9_1
                · rw [if_pos c9] at H
                  have c9b0 : decide (0 ≤ x9_1) = true := decide_eq_true c9
                  clear c9
                  by_cases c10 : (rd l0 x9_1) = 10
                  · rw [if_pos c10] at H
                    have c10b0 : ((rd l0 x9_1) == 10) = true := beq_iff_eq.mpr c10
                    have c10b1 : ((rd l0 x9_1) != 10) = false := bne_eq_false_iff_eq.mpr c10
                    clear c10
                    have H' := Aside0.mk H
                    clear H
                    have p191 : 0 ≤ (x9_1 : Int) := of_decide_eq_true (by first | (with_reducible assumption) | assumption)
                    have q191 : x9_1 < (l0.length : Int) := of_decide_eq_true (by first | (with_reducible assumption) | assumption)
                    obtain ⟨ad191, e191, hx191_0⟩ := Kd.at_int HR0.out x9_1 p191 q191
                    cases e191
                    replace p191 := eq_true p191
                    replace q191 := eq_true q191
                    go_wp2
                    go_roundg kj4
                    case measure => have := HK1.out; have := HJ4.out; omega
                    case rel => exact ⟨(wrap64 (x7_1 + 1)), (0), (wrap64 (x9_1 + 1)), (by first | rfl | (simp; done) | (simp [*]; done)), (by first | rfl | (simp; done) | (simp [*]; done)), (by first | rfl | (simp; done) | (simp [*]; done)), H', ⟨by have := HK1.out; have := HJ4.out; omega⟩, by repeat (first | exact Drawn0.refl _ | apply Drawn0.step)⟩
                  · rw [if_neg c10] at H
                    have c10b0 : ((rd l0 x9_1) == 10) = false := beq_eq_false_iff_ne.mpr c10
                    have c10b1 : ((rd l0 x9_1) != 10) = true := bne_iff_ne.mpr c10
                    have H' := Aside0.mk H
                    clear H
                    have p191 : 0 ≤ (x9_1 : Int) := of_decide_eq_true (by first | (with_reducible assumption) | assumption)
                    have q191 : x9_1 < (l0.length : Int) := of_decide_eq_true (by first | (with_reducible assumption) | assumption)
                    obtain ⟨ad191, e191, hx191_0⟩ := Kd.at_int HR0.out x9_1 p191 q191
                    cases e191
                    replace p191 := eq_true p191
                    replace q191 := eq_true q191
                    go_wp2
                    go_roundg kj4
                    case measure => have := HK1.out; have := HJ4.out; omega
                    case rel => exact ⟨(x7_1), (wrap64 (x8_1 + 1)), (wrap64 (x9_1 + 1)), (by first | rfl | (simp; done) | (simp [*]; done)), (by first | rfl | (simp; done) | (simp [*]; done)), (by first | rfl | (simp; done) | (simp [*]; done)), H', ⟨by have := HK1.out; have := HJ4.out; omega⟩, by repeat (first | exact Drawn0.refl _ | apply Drawn0.step)⟩
                · rw [if_neg c9] at H
                  exact absurd H (by simp)
              · rw [if_neg c8] at H
                have c8b0 : decide (x9_1 < (l0.length : Int)) = false := decide_eq_false c8
                clear c8
                have H' := Aside0.mk H
                clear H
                go_wp2
                go_roundg kj4
                case measure => have := HK1.out; have := HJ4.out; omega
                case rel => exact ⟨(x7_1), (x8_1), (wrap64 (x9_1 + 1)), (by first | rfl | (simp; done) | (simp [*]; done)), (by first | rfl | (simp; done) | (simp [*]; done)), (by first | rfl | (simp; done) | (simp [*]; done)), H', ⟨by have := HK1.out; have := HJ4.out; omega⟩, by repeat (first | exact Drawn0.refl _ | apply Drawn0.step)⟩
      · rw [if_neg c4] at H
        have c4b0 : decide (x9_1 ≤ (l0.length : Int)) = false := decide_eq_false c4
        clear c4
        obtain rfl := Option.some.inj H
        go_wp2
        go_ret
        exact ⟨by first | rfl | (simp; done) | (simp [*]; done), by repeat (first | exact Drawn0.refl _ | apply Drawn0.step)⟩

/-! ### spec_PieceOffset: function 44 -/
def spec_PieceOffset.f (k : Nat) (l0_0 : List Int) (l0_1 : List (S54)) (a1 : Int) (a2 : Int) : Option (Int × Int) := (spec_L4PieceValid.f k l0_0 l0_1).bind fun t193 => (if t193 = true then ((spec_L4PieceText.f k l0_0 l0_1).bind fun t194 => ((spec_l4Offset.f k t194 a1 a2).bind fun t197 => (if t197 < 0 then (some (0, 3)) else (some (t197, 0))))) else (some (0, 1)))
theorem spec_PieceOffset.mono : ∀ a0 a1 a2 a3 k, LeO (spec_PieceOffset.f k a0 a1 a2 a3) (spec_PieceOffset.f (k + 1) a0 a1 a2 a3) := by
  intro a0 a1 a2 a3 k
  unfold spec_PieceOffset.f
  repeat' first
      | (with_reducible exact spec_L4PieceText.mono _ _ _)
      | (with_reducible exact spec_L4PieceValid.mono _ _ _)
      | (with_reducible exact spec_l4Offset.mono _ _ _ _)
      | (with_reducible exact LeO.refl _)
      | (with_reducible exact LeO.none _)
      | (with_reducible refine LeO.ite ?_ ?_)
      | (with_reducible refine LeO.bind ?_ (fun _ => ?_))
      | exact spec_L4PieceText.mono _ _ _
      | exact spec_L4PieceValid.mono _ _ _
      | exact spec_l4Offset.mono _ _ _ _
      | exact LeO.none _
      | refine LeO.ite ?_ ?_
      | refine LeO.bind ?_ (fun _ => ?_)
set_option maxHeartbeats 8000000 in
set_option maxRecDepth 100000 in
theorem spec_PieceOffset.calls (k : Nat) (A0_0 : Option Addr) (c0_0 : Nat) (l0_0 : List Int) (A0_1 : Option Addr) (c0_1 : Nat) (l0_1 : List (S54)) (a1 : Int) (a2 : Int) (r1 : Int) (r2 : Int) (w : World) (hr0_0 : Kd.C (Kd.int .i32) w A0_0 l0_0.length l0_0) (hc0_0 : l0_0.length ≤ c0_0) (hr0_1 : Kd.C k54 w A0_1 l0_1.length l0_1) (hc0_1 : l0_1.length ≤ c0_1) (h : spec_PieceOffset.f k l0_0 l0_1 a1 a2 = some (r1, r2)) :
    Calls Tryd.prog 44 #[.agg #[.slice A0_0 l0_0.length c0_0, .slice A0_1 l0_1.length c0_1], .int .i64 a1, .int .i64 a2] w fun e w' => e = .returned (.tuple #[.int .i64 r1, .int .i64 r2]) ∧ Below w.heap.size w w' := by
  have hu64 := Tryd.underlying64
  have HR0_0 := Aside0.mk hr0_0
  have HC0_0 := Aside0.mk hc0_0
  clear hr0_0 hc0_0
  have HR0_1 := Aside0.mk hr0_1
  have HC0_1 := Aside0.mk hc0_1
  clear hr0_1 hc0_1
  have HB := Aside0.mk (Below.refl w.heap.size w)
  have H : ((spec_L4PieceValid.f k l0_0 l0_1).bind fun t193 => (if t193 = true then ((spec_L4PieceText.f k l0_0 l0_1).bind fun t194 => ((spec_l4Offset.f k t194 a1 a2).bind fun t197 => (if t197 < 0 then (some (0, 3)) else (some (t197, 0))))) else (some (0, 1)))) = some (r1, r2) := h
  clear h
  replace H := Option.bind_eq_some_iff.mp H
  obtain ⟨t193, A40, H⟩ := H
  replace H : (if t193 = true then ((spec_L4PieceText.f k l0_0 l0_1).bind fun t194 => ((spec_l4Offset.f k t194 a1 a2).bind fun t197 => (if t197 < 0 then (some (0, 3)) else (some (t197, 0))))) else (some (0, 1))) = some (r1, r2) := H
  have A4 := Aside0.mk A40
  clear A40
  by_cases c5 : t193 = true
  · subst c5
    have H1 : ((spec_L4PieceText.f k l0_0 l0_1).bind fun t194 => ((spec_l4Offset.f k t194 a1 a2).bind fun t197 => (if t197 < 0 then (some (0, 3)) else (some (t197, 0))))) = some (r1, r2) := by rw [if_pos rfl] at H; exact H
    clear H
    have H := H1
    clear H1
    replace H := Option.bind_eq_some_iff.mp H
    obtain ⟨t194, A60, H⟩ := H
    replace H : ((spec_l4Offset.f k t194 a1 a2).bind fun t197 => (if t197 < 0 then (some (0, 3)) else (some (t197, 0)))) = some (r1, r2) := H
    have A6 := Aside0.mk A60
    clear A60
    replace H := Option.bind_eq_some_iff.mp H
    obtain ⟨t197, A70, H⟩ := H
    replace H : (if t197 < 0 then (some (0, 3)) else (some (t197, 0))) = some (r1, r2) := H
    have A7 := Aside0.mk A70
    clear A70
    by_cases c8 : t197 < 0
    · rw [if_pos c8] at H
      have c8b0 : decide (t197 < 0) = true := decide_eq_true c8
      clear c8
      simp only [Option.some.injEq, Prod.mk.injEq] at H
      obtain ⟨rfl, rfl⟩ := H
      go_enter Tryd.func44, Tryd.ntmps44
      go_wp2_with (first | ((with_reducible refine gate_dst (N := 3) rfl ?_); refine box_event ?hg (N := 3) ?hd (cs := #[.slice A0_0 l0_0.length c0_0, .slice A0_1 l0_1.length c0_1]) (t := 64) ?hr ?_; (case hd => rfl); (case hg => rfl); (case hr => first | (go_simp; done) | (go_simp; rfl)); intro gb192 hg w9 hbox hb; have n0_ := Aside0.mk (below_step (by repeat (first | (with_reducible first | exact HB.out | apply below_alloc | apply pw_below_drewN | apply below_drew1) | exact HB.out)) hb); have n1_ := Aside0.mk (hbox); have n2_ := Aside0.mk ((by rw [hg]; exact (below_size (by repeat (first | (with_reducible first | exact HB.out | apply below_alloc | apply pw_below_drewN | apply below_drew1) | exact HB.out))) : w.heap.size ≤ gb192)); have n3_ := Aside0.mk ((by rw [hg]; exact (below_size (by repeat (first | (with_reducible first | exact HB.out | apply below_alloc | apply pw_below_drewN | apply below_drew1) | exact HB.out))) : w.heap.size ≤ gb192)); clear HB; have HB := n0_; have BK192 := n1_; have GW192 := n2_; have GE192 := n3_; clear n0_ n1_ n2_ n3_; clear hb hbox hg; have hcz10_0 : w9.cell? ⟨gb192, 0, none⟩ = some (.slice A0_0 l0_0.length c0_0) := (blk_cell BK192.out 0).trans rfl; have hcz10_1 : w9.cell? ⟨gb192, 1, none⟩ = some (.slice A0_1 l0_1.length c0_1) := (blk_cell BK192.out 1).trans rfl; have hfz10_0 := blk_frozen BK192.out 0; have hfz10_1 := blk_frozen BK192.out 1) | ((with_reducible refine gate_callee (f := 83) rfl ?_); refine goesL_ (some 10) rfl rfl Tryd.func83 (by kernel_rfl) rfl #[.agg #[.slice A0_0 l0_0.length c0_0, .slice A0_1 l0_1.length c0_1]] rfl (by (try simp only [List.map_toArray, List.map_cons, List.map_nil]); first | done | rfl | (simp only [List.length_drop, List.length_take]; rfl)) ?_; (with_reducible refine (spec_L4PieceValid.calls k _ _ l0_0 _ _ l0_1 true _ ?side1 ?side2 ?side3 ?side4 A4.out).mono ?_); (case side1 => repeat (first | exact (Kd.C_below HR0_0.out HB.out) | (with_reducible refine Kd.C_alloc ?_ _) | (with_reducible refine Kd.C_drewN ?_ _) | (with_reducible refine Kd.C_drew ?_))); (case side2 => exact HC0_0.out); (case side3 => repeat (first | exact (Kd.C_below HR0_1.out HB.out) | (with_reducible refine Kd.C_alloc ?_ _) | (with_reducible refine Kd.C_drewN ?_ _) | (with_reducible refine Kd.C_drew ?_))); (case side4 => exact HC0_1.out); rintro e w11 ⟨rfl, hb⟩; refine ⟨_, rfl, ?_⟩; have n0_ := Aside0.mk (blk_below (g := gb192) (o := .cells #[.slice A0_0 l0_0.length c0_0, .slice A0_1 l0_1.length c0_1] 64 (0, 0)) (by (with_reducible repeat (first | refine blk_drewN ?_ _ | refine blk_drew ?_ | refine blk_alloc ?_ _)); exact BK192.out) hb); have n1_ := Aside0.mk (below_step (by repeat (first | (with_reducible first | exact HB.out | apply below_alloc | apply pw_below_drewN | apply below_drew1 | refine below_set ?_ GE192.out) | exact HB.out)) hb); clear BK192; clear HB; have BK192 := n0_; have HB := n1_; clear n0_ n1_; (try clear hb); (try clear hb2); (try clear hk); (try clear hi); have hcz12_0 : w11.cell? ⟨gb192, 0, none⟩ = some (.slice A0_0 l0_0.length c0_0) := (blk_cell BK192.out 0).trans rfl; have hcz12_1 : w11.cell? ⟨gb192, 1, none⟩ = some (.slice A0_1 l0_1.length c0_1) := (blk_cell BK192.out 1).trans rfl; have hfz12_0 := blk_frozen BK192.out 0; have hfz12_1 := blk_frozen BK192.out 1) | ((with_reducible refine gate_callee (f := 84) rfl ?_); refine goesL_ (some 13) rfl rfl Tryd.func84 (by kernel_rfl) rfl #[.agg #[.slice A0_0 l0_0.length c0_0, .slice A0_1 l0_1.length c0_1]] rfl (by (try simp only [List.map_toArray, List.map_cons, List.map_nil]); first | done | rfl | (simp only [List.length_drop, List.length_take]; rfl)) ?_; (with_reducible refine (spec_L4PieceText.calls k _ _ l0_0 _ _ l0_1 t194 _ ?side1 ?side2 ?side3 ?side4 A6.out).mono ?_); (case side1 => repeat (first | exact (Kd.C_below HR0_0.out HB.out) | (with_reducible refine Kd.C_alloc ?_ _) | (with_reducible refine Kd.C_drewN ?_ _) | (with_reducible refine Kd.C_drew ?_))); (case side2 => exact HC0_0.out); (case side3 => repeat (first | exact (Kd.C_below HR0_1.out HB.out) | (with_reducible refine Kd.C_alloc ?_ _) | (with_reducible refine Kd.C_drewN ?_ _) | (with_reducible refine Kd.C_drew ?_))); (case side4 => exact HC0_1.out); rintro e w13 ⟨v195, rfl, ho0, hb⟩; refine ⟨_, rfl, ?_⟩; have n0_ := Aside0.mk (Kd.R_lower ho0 (below_size (by repeat (first | (with_reducible first | exact HB.out | apply below_alloc | apply pw_below_drewN | apply below_drew1 | refine below_set ?_ GE192.out) | exact HB.out)))); have n1_ := Aside0.mk (blk_below (g := gb192) (o := .cells #[.slice A0_0 l0_0.length c0_0, .slice A0_1 l0_1.length c0_1] 64 (0, 0)) (by (with_reducible repeat (first | refine blk_drewN ?_ _ | refine blk_drew ?_ | refine blk_alloc ?_ _)); exact BK192.out) hb); have n2_ := Aside0.mk (below_step (by repeat (first | (with_reducible first | exact HB.out | apply below_alloc | apply pw_below_drewN | apply below_drew1 | refine below_set ?_ GE192.out) | exact HB.out)) hb); clear BK192; clear HB; have HO196 := n0_; have BK192 := n1_; have HB := n2_; clear n0_ n1_ n2_; (try clear hb); (try clear hb2); (try clear hk); (try clear hi); (try clear ho0); obtain ⟨Ao14, co14, eo14⟩ := Kd.R_slice HO196.out; subst eo14) | ((with_reducible refine gate_callee (f := 90) rfl ?_); refine goesL_ (some 16) rfl rfl Tryd.func90 (by kernel_rfl) rfl #[.slice Ao14 t194.length co14, .int .i64 a1, .int .i64 a2] rfl (by (try simp only [List.map_toArray, List.map_cons, List.map_nil]); first | done | rfl | (simp only [List.length_drop, List.length_take]; rfl)) ?_; (with_reducible refine (spec_l4Offset.calls k _ _ t194 a1 a2 t197 _ ?side1 ?side2 A7.out).mono ?_); (case side1 => repeat (first | exact (Kd.R_reads' HO196.out).2.2 | (with_reducible refine Kd.C_alloc ?_ _) | (with_reducible refine Kd.C_drewN ?_ _) | (with_reducible refine Kd.C_drew ?_))); (case side2 => exact (Kd.R_reads' HO196.out).2.1); rintro e w' ⟨rfl, ⟨nd, rfl⟩⟩; refine ⟨_, rfl, ?_⟩))
      go_ret2
      exact ⟨by first | rfl | (simp [errW_none, errW_some] <;> rfl) | (simp [*, errW_none, errW_some] <;> rfl), by repeat (first | (with_reducible first | exact HB.out | apply below_alloc | apply pw_below_drewN | apply below_drew1 | refine below_set ?_ GE192.out) | exact HB.out)⟩
    · rw [if_neg c8] at H
      have c8b0 : decide (t197 < 0) = false := decide_eq_false c8
      clear c8
      simp only [Option.some.injEq, Prod.mk.injEq] at H
      obtain ⟨rfl, rfl⟩ := H
      go_enter Tryd.func44, Tryd.ntmps44
      go_wp2_with (first | ((with_reducible refine gate_dst (N := 3) rfl ?_); refine box_event ?hg (N := 3) ?hd (cs := #[.slice A0_0 l0_0.length c0_0, .slice A0_1 l0_1.length c0_1]) (t := 64) ?hr ?_; (case hd => rfl); (case hg => rfl); (case hr => first | (go_simp; done) | (go_simp; rfl)); intro gb192 hg w15 hbox hb; have n0_ := Aside0.mk (below_step (by repeat (first | (with_reducible first | exact HB.out | apply below_alloc | apply pw_below_drewN | apply below_drew1) | exact HB.out)) hb); have n1_ := Aside0.mk (hbox); have n2_ := Aside0.mk ((by rw [hg]; exact (below_size (by repeat (first | (with_reducible first | exact HB.out | apply below_alloc | apply pw_below_drewN | apply below_drew1) | exact HB.out))) : w.heap.size ≤ gb192)); have n3_ := Aside0.mk ((by rw [hg]; exact (below_size (by repeat (first | (with_reducible first | exact HB.out | apply below_alloc | apply pw_below_drewN | apply below_drew1) | exact HB.out))) : w.heap.size ≤ gb192)); clear HB; have HB := n0_; have BK192 := n1_; have GW192 := n2_; have GE192 := n3_; clear n0_ n1_ n2_ n3_; clear hb hbox hg; have hcz16_0 : w15.cell? ⟨gb192, 0, none⟩ = some (.slice A0_0 l0_0.length c0_0) := (blk_cell BK192.out 0).trans rfl; have hcz16_1 : w15.cell? ⟨gb192, 1, none⟩ = some (.slice A0_1 l0_1.length c0_1) := (blk_cell BK192.out 1).trans rfl; have hfz16_0 := blk_frozen BK192.out 0; have hfz16_1 := blk_frozen BK192.out 1) | ((with_reducible refine gate_callee (f := 83) rfl ?_); refine goesL_ (some 10) rfl rfl Tryd.func83 (by kernel_rfl) rfl #[.agg #[.slice A0_0 l0_0.length c0_0, .slice A0_1 l0_1.length c0_1]] rfl (by (try simp only [List.map_toArray, List.map_cons, List.map_nil]); first | done | rfl | (simp only [List.length_drop, List.length_take]; rfl)) ?_; (with_reducible refine (spec_L4PieceValid.calls k _ _ l0_0 _ _ l0_1 true _ ?side1 ?side2 ?side3 ?side4 A4.out).mono ?_); (case side1 => repeat (first | exact (Kd.C_below HR0_0.out HB.out) | (with_reducible refine Kd.C_alloc ?_ _) | (with_reducible refine Kd.C_drewN ?_ _) | (with_reducible refine Kd.C_drew ?_))); (case side2 => exact HC0_0.out); (case side3 => repeat (first | exact (Kd.C_below HR0_1.out HB.out) | (with_reducible refine Kd.C_alloc ?_ _) | (with_reducible refine Kd.C_drewN ?_ _) | (with_reducible refine Kd.C_drew ?_))); (case side4 => exact HC0_1.out); rintro e w17 ⟨rfl, hb⟩; refine ⟨_, rfl, ?_⟩; have n0_ := Aside0.mk (blk_below (g := gb192) (o := .cells #[.slice A0_0 l0_0.length c0_0, .slice A0_1 l0_1.length c0_1] 64 (0, 0)) (by (with_reducible repeat (first | refine blk_drewN ?_ _ | refine blk_drew ?_ | refine blk_alloc ?_ _)); exact BK192.out) hb); have n1_ := Aside0.mk (below_step (by repeat (first | (with_reducible first | exact HB.out | apply below_alloc | apply pw_below_drewN | apply below_drew1 | refine below_set ?_ GE192.out) | exact HB.out)) hb); clear BK192; clear HB; have BK192 := n0_; have HB := n1_; clear n0_ n1_; (try clear hb); (try clear hb2); (try clear hk); (try clear hi); have hcz18_0 : w17.cell? ⟨gb192, 0, none⟩ = some (.slice A0_0 l0_0.length c0_0) := (blk_cell BK192.out 0).trans rfl; have hcz18_1 : w17.cell? ⟨gb192, 1, none⟩ = some (.slice A0_1 l0_1.length c0_1) := (blk_cell BK192.out 1).trans rfl; have hfz18_0 := blk_frozen BK192.out 0; have hfz18_1 := blk_frozen BK192.out 1) | ((with_reducible refine gate_callee (f := 84) rfl ?_); refine goesL_ (some 13) rfl rfl Tryd.func84 (by kernel_rfl) rfl #[.agg #[.slice A0_0 l0_0.length c0_0, .slice A0_1 l0_1.length c0_1]] rfl (by (try simp only [List.map_toArray, List.map_cons, List.map_nil]); first | done | rfl | (simp only [List.length_drop, List.length_take]; rfl)) ?_; (with_reducible refine (spec_L4PieceText.calls k _ _ l0_0 _ _ l0_1 t194 _ ?side1 ?side2 ?side3 ?side4 A6.out).mono ?_); (case side1 => repeat (first | exact (Kd.C_below HR0_0.out HB.out) | (with_reducible refine Kd.C_alloc ?_ _) | (with_reducible refine Kd.C_drewN ?_ _) | (with_reducible refine Kd.C_drew ?_))); (case side2 => exact HC0_0.out); (case side3 => repeat (first | exact (Kd.C_below HR0_1.out HB.out) | (with_reducible refine Kd.C_alloc ?_ _) | (with_reducible refine Kd.C_drewN ?_ _) | (with_reducible refine Kd.C_drew ?_))); (case side4 => exact HC0_1.out); rintro e w19 ⟨v195, rfl, ho0, hb⟩; refine ⟨_, rfl, ?_⟩; have n0_ := Aside0.mk (Kd.R_lower ho0 (below_size (by repeat (first | (with_reducible first | exact HB.out | apply below_alloc | apply pw_below_drewN | apply below_drew1 | refine below_set ?_ GE192.out) | exact HB.out)))); have n1_ := Aside0.mk (blk_below (g := gb192) (o := .cells #[.slice A0_0 l0_0.length c0_0, .slice A0_1 l0_1.length c0_1] 64 (0, 0)) (by (with_reducible repeat (first | refine blk_drewN ?_ _ | refine blk_drew ?_ | refine blk_alloc ?_ _)); exact BK192.out) hb); have n2_ := Aside0.mk (below_step (by repeat (first | (with_reducible first | exact HB.out | apply below_alloc | apply pw_below_drewN | apply below_drew1 | refine below_set ?_ GE192.out) | exact HB.out)) hb); clear BK192; clear HB; have HO196 := n0_; have BK192 := n1_; have HB := n2_; clear n0_ n1_ n2_; (try clear hb); (try clear hb2); (try clear hk); (try clear hi); (try clear ho0); obtain ⟨Ao20, co20, eo20⟩ := Kd.R_slice HO196.out; subst eo20) | ((with_reducible refine gate_callee (f := 90) rfl ?_); refine goesL_ (some 16) rfl rfl Tryd.func90 (by kernel_rfl) rfl #[.slice Ao20 t194.length co20, .int .i64 a1, .int .i64 a2] rfl (by (try simp only [List.map_toArray, List.map_cons, List.map_nil]); first | done | rfl | (simp only [List.length_drop, List.length_take]; rfl)) ?_; (with_reducible refine (spec_l4Offset.calls k _ _ t194 a1 a2 t197 _ ?side1 ?side2 A7.out).mono ?_); (case side1 => repeat (first | exact (Kd.R_reads' HO196.out).2.2 | (with_reducible refine Kd.C_alloc ?_ _) | (with_reducible refine Kd.C_drewN ?_ _) | (with_reducible refine Kd.C_drew ?_))); (case side2 => exact (Kd.R_reads' HO196.out).2.1); rintro e w' ⟨rfl, ⟨nd, rfl⟩⟩; refine ⟨_, rfl, ?_⟩))
      go_ret2
      exact ⟨by first | rfl | (simp [errW_none, errW_some] <;> rfl) | (simp [*, errW_none, errW_some] <;> rfl), by repeat (first | (with_reducible first | exact HB.out | apply below_alloc | apply pw_below_drewN | apply below_drew1 | refine below_set ?_ GE192.out) | exact HB.out)⟩
  · replace c5 := Bool.eq_false_iff.mpr c5
    subst c5
    have H1 : (some (0, 1)) = some (r1, r2) := by rw [if_neg (show ¬ (false = true) by decide)] at H; exact H
    clear H
    have H := H1
    clear H1
    simp only [Option.some.injEq, Prod.mk.injEq] at H
    obtain ⟨rfl, rfl⟩ := H
    go_enter Tryd.func44, Tryd.ntmps44
    go_wp2_with (first | ((with_reducible refine gate_dst (N := 3) rfl ?_); refine box_event ?hg (N := 3) ?hd (cs := #[.slice A0_0 l0_0.length c0_0, .slice A0_1 l0_1.length c0_1]) (t := 64) ?hr ?_; (case hd => rfl); (case hg => rfl); (case hr => first | (go_simp; done) | (go_simp; rfl)); intro gb192 hg w21 hbox hb; have n0_ := Aside0.mk (below_step (by repeat (first | (with_reducible first | exact HB.out | apply below_alloc | apply pw_below_drewN | apply below_drew1) | exact HB.out)) hb); have n1_ := Aside0.mk (hbox); have n2_ := Aside0.mk ((by rw [hg]; exact (below_size (by repeat (first | (with_reducible first | exact HB.out | apply below_alloc | apply pw_below_drewN | apply below_drew1) | exact HB.out))) : w.heap.size ≤ gb192)); have n3_ := Aside0.mk ((by rw [hg]; exact (below_size (by repeat (first | (with_reducible first | exact HB.out | apply below_alloc | apply pw_below_drewN | apply below_drew1) | exact HB.out))) : w.heap.size ≤ gb192)); clear HB; have HB := n0_; have BK192 := n1_; have GW192 := n2_; have GE192 := n3_; clear n0_ n1_ n2_ n3_; clear hb hbox hg; have hcz22_0 : w21.cell? ⟨gb192, 0, none⟩ = some (.slice A0_0 l0_0.length c0_0) := (blk_cell BK192.out 0).trans rfl; have hcz22_1 : w21.cell? ⟨gb192, 1, none⟩ = some (.slice A0_1 l0_1.length c0_1) := (blk_cell BK192.out 1).trans rfl; have hfz22_0 := blk_frozen BK192.out 0; have hfz22_1 := blk_frozen BK192.out 1) | ((with_reducible refine gate_callee (f := 83) rfl ?_); refine goesL_ (some 10) rfl rfl Tryd.func83 (by kernel_rfl) rfl #[.agg #[.slice A0_0 l0_0.length c0_0, .slice A0_1 l0_1.length c0_1]] rfl (by (try simp only [List.map_toArray, List.map_cons, List.map_nil]); first | done | rfl | (simp only [List.length_drop, List.length_take]; rfl)) ?_; (with_reducible refine (spec_L4PieceValid.calls k _ _ l0_0 _ _ l0_1 false _ ?side1 ?side2 ?side3 ?side4 A4.out).mono ?_); (case side1 => repeat (first | exact (Kd.C_below HR0_0.out HB.out) | (with_reducible refine Kd.C_alloc ?_ _) | (with_reducible refine Kd.C_drewN ?_ _) | (with_reducible refine Kd.C_drew ?_))); (case side2 => exact HC0_0.out); (case side3 => repeat (first | exact (Kd.C_below HR0_1.out HB.out) | (with_reducible refine Kd.C_alloc ?_ _) | (with_reducible refine Kd.C_drewN ?_ _) | (with_reducible refine Kd.C_drew ?_))); (case side4 => exact HC0_1.out); rintro e w23 ⟨rfl, hb⟩; refine ⟨_, rfl, ?_⟩; have n0_ := Aside0.mk (blk_below (g := gb192) (o := .cells #[.slice A0_0 l0_0.length c0_0, .slice A0_1 l0_1.length c0_1] 64 (0, 0)) (by (with_reducible repeat (first | refine blk_drewN ?_ _ | refine blk_drew ?_ | refine blk_alloc ?_ _)); exact BK192.out) hb); have n1_ := Aside0.mk (below_step (by repeat (first | (with_reducible first | exact HB.out | apply below_alloc | apply pw_below_drewN | apply below_drew1 | refine below_set ?_ GE192.out) | exact HB.out)) hb); clear BK192; clear HB; have BK192 := n0_; have HB := n1_; clear n0_ n1_; (try clear hb); (try clear hb2); (try clear hk); (try clear hi)))
    go_ret2
    exact ⟨by first | rfl | (simp [errW_none, errW_some] <;> rfl) | (simp [*, errW_none, errW_some] <;> rfl), by repeat (first | (with_reducible first | exact HB.out | apply below_alloc | apply pw_below_drewN | apply below_drew1 | refine below_set ?_ GE192.out) | exact HB.out)⟩

def cv (x : S54) : It := ⟨⟨x.f0.f0, x.f0.f1, x.f0.f2⟩, x.f1⟩
theorem C_cv {w : World} {A : Option Addr} {n : Nat} {xs : List S54} (h : Kd.C k54 w A n xs) : Kd.C QBase.k54 w A n (xs.map cv) := by
  obtain ⟨h1, h2, h3⟩ := h
  refine ⟨by simpa using h1, h2, fun hn => ?_⟩
  obtain ⟨ad, e, hc⟩ := h3 hn
  refine ⟨ad, e, fun j p hj => ?_⟩
  rw [List.getElem?_map] at hj
  obtain ⟨q, hq, rfl⟩ := Option.map_eq_some_iff.1 hj
  obtain ⟨c, hl, hK, hcell⟩ := hc j q hq
  refine ⟨c, hl, ?_, hcell⟩
  have hc := k54_open hK
  subst hc
  exact QBase.k54_mk w (cv q)
/-! ### impl_PieceOffset: function 45 -/
def impl_PieceOffset.f (l0_0 : List Int) (l0_1 : List (S54)) (a1 : Int) (a2 : Int) : Option (Int × Int) := if l0_0.length ≤ 1048576 ∧ l0_1.length ≤ 1048576 then some (pieceOffsetV l0_0 (l0_1.map cv) a1 a2) else none
set_option maxHeartbeats 8000000 in
set_option maxRecDepth 100000 in
theorem impl_PieceOffset.calls (A0_0 : Option Addr) (c0_0 : Nat) (l0_0 : List Int) (A0_1 : Option Addr) (c0_1 : Nat) (l0_1 : List (S54)) (a1 : Int) (a2 : Int) (r1 : Int) (r2 : Int) (w : World) (hr0_0 : Kd.C (Kd.int .i32) w A0_0 l0_0.length l0_0) (hc0_0 : l0_0.length ≤ c0_0) (hr0_1 : Kd.C k54 w A0_1 l0_1.length l0_1) (hc0_1 : l0_1.length ≤ c0_1)  (hgG_ : HG w) (h : impl_PieceOffset.f l0_0 l0_1 a1 a2 = some (r1, r2)) :
    Calls Tryd.prog 45 #[.agg #[.slice A0_0 l0_0.length c0_0, .slice A0_1 l0_1.length c0_1], .int .i64 a1, .int .i64 a2] w (fun e w' => e = .returned (.tuple #[.int .i64 r1, .int .i64 r2]) ∧ Below w.heap.size w w') := by
  unfold impl_PieceOffset.f at h
  by_cases hl : l0_0.length ≤ 1048576 ∧ l0_1.length ≤ 1048576
  · rw [if_pos hl] at h
    have hh := pieceOffset_any w l0_0 A0_0 c0_0 (l0_1.map cv) A0_1 c0_1 a1 a2 (by rw [List.length_map]; exact hl.2) hl.1 hr0_0 hc0_0 (by rw [List.length_map]; exact C_cv hr0_1) (by rw [List.length_map]; exact hc0_1) hgG_
    rw [List.length_map] at hh
    refine hh.mono ?_
    rintro e w' ⟨he, hb⟩
    simp only [Option.some.injEq] at h
    rw [h] at he
    exact ⟨he, hb⟩
  · rw [if_neg hl] at h; cases h

end Go.Proofs.YtciabhncmdpeeaaDoor.QFnExactPieceOffset
