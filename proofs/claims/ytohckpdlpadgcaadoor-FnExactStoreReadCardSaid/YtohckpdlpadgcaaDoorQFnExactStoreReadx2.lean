/- What the law FnExactStoreRead reaches: each function as a plain function, and that the machine's call does it (written by a program). The condition, where there is one: errors.errorType reads as laid. -/
import Derived.Test.YtohckpdlpadgcaaDoorQFnExactStoreReadx0
import Derived.Test.YtohckpdlpadgcaaDoorQFnExactStoreReadx1
namespace Go.Proofs.YtohckpdlpadgcaaDoor.QFnExactStoreRead
open Go.Proofs.YtohckpdlpadgcaaDoor.Er
open Go.RowKit Go.Proofs.YtohckpdlpadgcaaDoorW.PrintWords Go.Proofs.YtohckpdlpadgcaaDoorW.PrintLast Go.Proofs.YtohckpdlpadgcaaDoorW.PrintMore
attribute [local go_sem] max2_int min2_int max_two min_two max_three min_three max_four min_four   -- for this text's walks alone
set_option linter.unusedVariables false
set_option linter.unusedSimpArgs false

/-! ### laws_FnExactStoreRead: function 3 -/
mutual
def laws_FnExactStoreRead.j0 : Nat → List Int → List Int → Int → Int → List Int → List Int → Int → Int → Bool → Int → Int → Option (Bool)
  | 0, _, _, _, _, _, _, _, _, _, _, _ => none
  | k + 1, x0, x5, x6, x7, x8, x9, x10, x11, x53, x124000, x124001 => if x53 = true then (some false) else ((laws_toInt32S.f k x0).bind fun t145 => ((laws_eqInt32S.f k x8 t145).bind fun t148 => (if t148 = true then ((laws_markInt32S.f k x8 1).bind fun bt149 => (if bt149.1 < 0 then (laws_FnExactStoreRead.j1 k x0 x5 x6 x7 x9 true x124000 x124001) else ((laws_eqInt32S.f k x9 x5).bind fun t151 => (if t151 = true then (if x10 = x6 then (laws_FnExactStoreRead.j1 k x0 x5 x6 x7 x9 (x11 != x7) x124000 x124001) else (laws_FnExactStoreRead.j1 k x0 x5 x6 x7 x9 true x124000 x124001)) else (laws_FnExactStoreRead.j1 k x0 x5 x6 x7 x9 true x124000 x124001))))) else (some false))))
def laws_FnExactStoreRead.j1 : Nat → List Int → List Int → Int → Int → List Int → Bool → Int → Int → Option (Bool)
  | 0, _, _, _, _, _, _, _, _ => none
  | k + 1, x0, x5, x6, x7, x9, x79, x124000, x124001 => if x79 = true then (some false) else ((laws_markInt32S.f k x9 1).bind fun bt152 => ((laws_heldInt32S.f k bt152.2 1).bind fun t154 => (if t154 < 0 then (some false) else (if t154 = bt152.1 then ((laws_toInt32S.f k x0).bind fun t155 => ((laws_toSpan.f x124000 x124001).bind fun bt158 => ((impl_StoreRead.f t155 bt158.1 bt158.2).bind fun bt160 => ((laws_eqInt32S.f k bt160.1 x5).bind fun t165 => (if t165 = true then (if bt160.2.1 = x6 then (laws_FnExactStoreRead.j2 k bt152.2 bt152.1 (bt160.2.2 != x7)) else (laws_FnExactStoreRead.j2 k bt152.2 bt152.1 true)) else (laws_FnExactStoreRead.j2 k bt152.2 bt152.1 true)))))) else (some false)))))
def laws_FnExactStoreRead.j2 : Nat → List Int → Int → Bool → Option (Bool)
  | 0, _, _, _ => none
  | k + 1, x9, x13, x113 => if x113 = true then (some false) else ((laws_heldInt32S.f k x9 1).bind fun t166 => (if t166 < 0 then (some false) else (if t166 = x13 then (some true) else (some false))))
end
def laws_FnExactStoreRead.f (k : Nat) (l0 : List Int) (a1_0 : Int) (a1_1 : Int) : Option (Bool) := if (l0.length : Int) > 1048576 then (some true) else ((laws_toInt32S.f k l0).bind fun t124 => ((laws_toSpan.f a1_0 a1_1).bind fun bt127 => ((spec_StoreRead.f k t124 bt127.1 bt127.2).bind fun bt129 => ((laws_toInt32S.f k l0).bind fun t134 => ((laws_toSpan.f a1_0 a1_1).bind fun bt137 => ((impl_StoreRead.f t134 bt137.1 bt137.2).bind fun bt139 => ((laws_eqInt32S.f k bt139.1 bt129.1).bind fun t144 => (if t144 = true then (if bt139.2.1 = bt129.2.1 then (laws_FnExactStoreRead.j0 k l0 bt129.1 bt129.2.1 bt129.2.2 t134 bt139.1 bt139.2.1 bt139.2.2 (bt139.2.2 != bt129.2.2) a1_0 a1_1) else (laws_FnExactStoreRead.j0 k l0 bt129.1 bt129.2.1 bt129.2.2 t134 bt139.1 bt139.2.1 bt139.2.2 true a1_0 a1_1)) else (laws_FnExactStoreRead.j0 k l0 bt129.1 bt129.2.1 bt129.2.2 t134 bt139.1 bt139.2.1 bt139.2.2 true a1_0 a1_1)))))))))
theorem laws_FnExactStoreRead.mono_l : ∀ k, (∀ y0 y1 y2 y3 y4 y5 y6 y7 y8 y9 y10, LeO (laws_FnExactStoreRead.j0 k y0 y1 y2 y3 y4 y5 y6 y7 y8 y9 y10) (laws_FnExactStoreRead.j0 (k + 1) y0 y1 y2 y3 y4 y5 y6 y7 y8 y9 y10)) ∧ (∀ y0 y1 y2 y3 y4 y5 y6 y7, LeO (laws_FnExactStoreRead.j1 k y0 y1 y2 y3 y4 y5 y6 y7) (laws_FnExactStoreRead.j1 (k + 1) y0 y1 y2 y3 y4 y5 y6 y7)) ∧ (∀ y0 y1 y2, LeO (laws_FnExactStoreRead.j2 k y0 y1 y2) (laws_FnExactStoreRead.j2 (k + 1) y0 y1 y2))
  | 0 => ⟨fun _ _ _ _ _ _ _ _ _ _ _ r h => by simp [laws_FnExactStoreRead.j0] at h, fun _ _ _ _ _ _ _ _ r h => by simp [laws_FnExactStoreRead.j1] at h, fun _ _ _ r h => by simp [laws_FnExactStoreRead.j2] at h⟩
  | k + 1 => by
    obtain ⟨ih0, ih1, ih2⟩ := laws_FnExactStoreRead.mono_l k
    refine ⟨?_, ?_, ?_⟩
    · intro y0 y1 y2 y3 y4 y5 y6 y7 y8 y9 y10
      unfold laws_FnExactStoreRead.j0
      repeat' first
      | (with_reducible exact ih0 _ _ _ _ _ _ _ _ _ _ _)
      | (with_reducible exact ih1 _ _ _ _ _ _ _ _)
      | (with_reducible exact ih2 _ _ _)
      | (with_reducible exact laws_eqInt32S.mono _ _ _)
      | (with_reducible exact laws_heldInt32S.mono _ _ _)
      | (with_reducible exact laws_markInt32S.mono _ _ _)
      | (with_reducible exact laws_toInt32S.mono _ _)
      | (with_reducible exact spec_StoreRead.mono _ _ _ _)
      | (with_reducible exact LeO.refl _)
      | (with_reducible exact LeO.none _)
      | (with_reducible refine LeO.ite ?_ ?_)
      | (with_reducible refine LeO.bind ?_ (fun _ => ?_))
      | exact ih0 _ _ _ _ _ _ _ _ _ _ _
      | exact ih1 _ _ _ _ _ _ _ _
      | exact ih2 _ _ _
      | exact laws_eqInt32S.mono _ _ _
      | exact laws_heldInt32S.mono _ _ _
      | exact laws_markInt32S.mono _ _ _
      | exact laws_toInt32S.mono _ _
      | exact spec_StoreRead.mono _ _ _ _
      | exact LeO.none _
      | refine LeO.ite ?_ ?_
      | refine LeO.bind ?_ (fun _ => ?_)
    · intro y0 y1 y2 y3 y4 y5 y6 y7
      unfold laws_FnExactStoreRead.j1
      repeat' first
      | (with_reducible exact ih0 _ _ _ _ _ _ _ _ _ _ _)
      | (with_reducible exact ih1 _ _ _ _ _ _ _ _)
      | (with_reducible exact ih2 _ _ _)
      | (with_reducible exact laws_eqInt32S.mono _ _ _)
      | (with_reducible exact laws_heldInt32S.mono _ _ _)
      | (with_reducible exact laws_markInt32S.mono _ _ _)
      | (with_reducible exact laws_toInt32S.mono _ _)
      | (with_reducible exact spec_StoreRead.mono _ _ _ _)
      | (with_reducible exact LeO.refl _)
      | (with_reducible exact LeO.none _)
      | (with_reducible refine LeO.ite ?_ ?_)
      | (with_reducible refine LeO.bind ?_ (fun _ => ?_))
      | exact ih0 _ _ _ _ _ _ _ _ _ _ _
      | exact ih1 _ _ _ _ _ _ _ _
      | exact ih2 _ _ _
      | exact laws_eqInt32S.mono _ _ _
      | exact laws_heldInt32S.mono _ _ _
      | exact laws_markInt32S.mono _ _ _
      | exact laws_toInt32S.mono _ _
      | exact spec_StoreRead.mono _ _ _ _
      | exact LeO.none _
      | refine LeO.ite ?_ ?_
      | refine LeO.bind ?_ (fun _ => ?_)
    · intro y0 y1 y2
      unfold laws_FnExactStoreRead.j2
      repeat' first
      | (with_reducible exact ih0 _ _ _ _ _ _ _ _ _ _ _)
      | (with_reducible exact ih1 _ _ _ _ _ _ _ _)
      | (with_reducible exact ih2 _ _ _)
      | (with_reducible exact laws_eqInt32S.mono _ _ _)
      | (with_reducible exact laws_heldInt32S.mono _ _ _)
      | (with_reducible exact laws_markInt32S.mono _ _ _)
      | (with_reducible exact laws_toInt32S.mono _ _)
      | (with_reducible exact spec_StoreRead.mono _ _ _ _)
      | (with_reducible exact LeO.refl _)
      | (with_reducible exact LeO.none _)
      | (with_reducible refine LeO.ite ?_ ?_)
      | (with_reducible refine LeO.bind ?_ (fun _ => ?_))
      | exact ih0 _ _ _ _ _ _ _ _ _ _ _
      | exact ih1 _ _ _ _ _ _ _ _
      | exact ih2 _ _ _
      | exact laws_eqInt32S.mono _ _ _
      | exact laws_heldInt32S.mono _ _ _
      | exact laws_markInt32S.mono _ _ _
      | exact laws_toInt32S.mono _ _
      | exact spec_StoreRead.mono _ _ _ _
      | exact LeO.none _
      | refine LeO.ite ?_ ?_
      | refine LeO.bind ?_ (fun _ => ?_)
theorem laws_FnExactStoreRead.mono : ∀ a0 a1 a2 k, LeO (laws_FnExactStoreRead.f k a0 a1 a2) (laws_FnExactStoreRead.f (k + 1) a0 a1 a2) := by
  intro a0 a1 a2 k
  obtain ⟨ih0, ih1, ih2⟩ := laws_FnExactStoreRead.mono_l k
  unfold laws_FnExactStoreRead.f
  repeat' first
      | (with_reducible exact ih0 _ _ _ _ _ _ _ _ _ _ _)
      | (with_reducible exact ih1 _ _ _ _ _ _ _ _)
      | (with_reducible exact ih2 _ _ _)
      | (with_reducible exact laws_eqInt32S.mono _ _ _)
      | (with_reducible exact laws_heldInt32S.mono _ _ _)
      | (with_reducible exact laws_markInt32S.mono _ _ _)
      | (with_reducible exact laws_toInt32S.mono _ _)
      | (with_reducible exact spec_StoreRead.mono _ _ _ _)
      | (with_reducible exact LeO.refl _)
      | (with_reducible exact LeO.none _)
      | (with_reducible refine LeO.ite ?_ ?_)
      | (with_reducible refine LeO.bind ?_ (fun _ => ?_))
      | exact ih0 _ _ _ _ _ _ _ _ _ _ _
      | exact ih1 _ _ _ _ _ _ _ _
      | exact ih2 _ _ _
      | exact laws_eqInt32S.mono _ _ _
      | exact laws_heldInt32S.mono _ _ _
      | exact laws_markInt32S.mono _ _ _
      | exact laws_toInt32S.mono _ _
      | exact spec_StoreRead.mono _ _ _ _
      | exact LeO.none _
      | refine LeO.ite ?_ ?_
      | refine LeO.bind ?_ (fun _ => ?_)
def laws_FnExactStoreRead.T3 : Bool × List (List Nat × List Nat) := (true, [([], []), ([0], [0]), ([], []), ([2, 1], [2]), ([1, 3, 3], [1, 3]), ([4], [4]), ([5], [5]), ([5], [5]), ([5], [5]), ([6, 4, 0, 1, 2, 3, 4, 5, 6], [6]), ([7, 9, 0, 1, 2, 3, 4, 5, 6, 7, 9], [7]), ([8, 10, 0, 1, 2, 3, 4, 5, 6, 7, 8, 9, 10], [8])])
def laws_FnExactStoreRead.B3 : List Nat := [0, 1, 0, 7, 15, 31, 63, 63, 63, 127, 767, 2047]
theorem laws_FnExactStoreRead.tab3 : rtab .any (opsOf Tryd.f3 3) = laws_FnExactStoreRead.T3 := by kernel_rfl
theorem laws_FnExactStoreRead.bits3 : waitsOk laws_FnExactStoreRead.T3.2 laws_FnExactStoreRead.B3 = true := by kernel_rfl
def laws_FnExactStoreRead.T22 : Bool × List (List Nat × List Nat) := (true, [([], []), ([0], [0]), ([], []), ([2, 1], [2]), ([1, 3, 3], [1, 3]), ([4], [4]), ([5], [5]), ([5], [5]), ([5], [5]), ([6, 4, 0, 1, 2, 3, 4, 5, 6], [6]), ([7, 9, 0, 1, 2, 3, 4, 5, 6, 7, 9], [7]), ([8, 10, 0, 1, 2, 3, 4, 5, 6, 7, 8, 9, 10], [8])])
def laws_FnExactStoreRead.B22 : List Nat := [0, 1, 0, 7, 15, 31, 63, 63, 63, 127, 767, 2047]
theorem laws_FnExactStoreRead.tab22 : rtab .any (opsOf Tryd.f3 22) = laws_FnExactStoreRead.T22 := by kernel_rfl
theorem laws_FnExactStoreRead.bits22 : waitsOk laws_FnExactStoreRead.T22.2 laws_FnExactStoreRead.B22 = true := by kernel_rfl
set_option maxHeartbeats 8000000 in
set_option maxRecDepth 100000 in
theorem laws_FnExactStoreRead.calls (k : Nat) (A0 : Option Addr) (c0 : Nat) (l0 : List Int) (a1_0 : Int) (a1_1 : Int) (r : Bool) (w : World) (hr0 : Kd.C (Kd.int .i32) w A0 l0.length l0) (hc0 : l0.length ≤ c0)  (hgG_ : HG w) (h : laws_FnExactStoreRead.f k l0 a1_0 a1_1 = some r) :
    Calls Tryd.prog 3 #[.slice A0 l0.length c0, .agg #[.int .i64 a1_0, .int .i64 a1_1]] w fun e w' => e = .returned (.bool r) ∧ Below w.heap.size w w' := by
  have hu24 := Tryd.underlying24
  have HR0 := Aside0.mk hr0
  have HC0 := Aside0.mk hc0
  clear hr0 hc0
  have HB := Aside0.mk (Below.refl w.heap.size w)
  have H : (if (l0.length : Int) > 1048576 then (some true) else ((laws_toInt32S.f k l0).bind fun t124 => ((laws_toSpan.f a1_0 a1_1).bind fun bt127 => ((spec_StoreRead.f k t124 bt127.1 bt127.2).bind fun bt129 => ((laws_toInt32S.f k l0).bind fun t134 => ((laws_toSpan.f a1_0 a1_1).bind fun bt137 => ((impl_StoreRead.f t134 bt137.1 bt137.2).bind fun bt139 => ((laws_eqInt32S.f k bt139.1 bt129.1).bind fun t144 => (if t144 = true then (if bt139.2.1 = bt129.2.1 then (laws_FnExactStoreRead.j0 k l0 bt129.1 bt129.2.1 bt129.2.2 t134 bt139.1 bt139.2.1 bt139.2.2 (bt139.2.2 != bt129.2.2) a1_0 a1_1) else (laws_FnExactStoreRead.j0 k l0 bt129.1 bt129.2.1 bt129.2.2 t134 bt139.1 bt139.2.1 bt139.2.2 true a1_0 a1_1)) else (laws_FnExactStoreRead.j0 k l0 bt129.1 bt129.2.1 bt129.2.2 t134 bt139.1 bt139.2.1 bt139.2.2 true a1_0 a1_1)))))))))) = some r := h
  clear h
  by_cases c3 : (l0.length : Int) > 1048576
  · rw [if_pos c3] at H
    have c3b0 : decide (1048576 < (l0.length : Int)) = true := decide_eq_true c3
    have c3b1 : decide (1048576 < l0.length) = true := decide_eq_true (by omega)
    clear c3
    obtain rfl := Option.some.inj H
    go_enter Tryd.func3, Tryd.ntmps3
    go_wp2_with (first | ((with_reducible refine gate_dst (N := 3) rfl ?_); refine box_event ?hg (N := 3) ?hd (cs := #[.int .i64 a1_0, .int .i64 a1_1]) (t := 24) ?hr ?_; (case hd => rfl); (case hg => rfl); (case hr => first | (go_simp; done) | (go_simp; rfl)); intro gb123 hg w4 hbox hb; have n0_ := Aside0.mk (below_step (by repeat (first | (with_reducible first | exact HB.out | apply below_alloc | apply pw_below_drewN | apply below_drew1) | exact HB.out)) hb); have n1_ := Aside0.mk (hbox); have n2_ := Aside0.mk ((by rw [hg]; exact (below_size (by repeat (first | (with_reducible first | exact HB.out | apply below_alloc | apply pw_below_drewN | apply below_drew1) | exact HB.out))) : w.heap.size ≤ gb123)); have n3_ := Aside0.mk ((by rw [hg]; exact (below_size (by repeat (first | (with_reducible first | exact HB.out | apply below_alloc | apply pw_below_drewN | apply below_drew1) | exact HB.out))) : w.heap.size ≤ gb123)); clear HB; have HB := n0_; have BK123 := n1_; have GW123 := n2_; have GE123 := n3_; clear n0_ n1_ n2_ n3_; clear hb hbox hg))
    go_ret
    exact ⟨by first | rfl | (simp [errW_none, errW_some] <;> rfl) | (simp [*, errW_none, errW_some] <;> rfl), by repeat (first | (with_reducible first | exact HB.out | apply below_alloc | apply pw_below_drewN | apply below_drew1 | refine below_set ?_ GE123.out) | exact HB.out)⟩
  · rw [if_neg c3] at H
    have c3b0 : decide (1048576 < (l0.length : Int)) = false := decide_eq_false c3
    have c3b1 : decide (1048576 < l0.length) = false := decide_eq_false (by omega)
    clear c3
    replace H := Option.bind_eq_some_iff.mp H
    obtain ⟨t124, A50, H⟩ := H
    replace H : ((laws_toSpan.f a1_0 a1_1).bind fun bt127 => ((spec_StoreRead.f k t124 bt127.1 bt127.2).bind fun bt129 => ((laws_toInt32S.f k l0).bind fun t134 => ((laws_toSpan.f a1_0 a1_1).bind fun bt137 => ((impl_StoreRead.f t134 bt137.1 bt137.2).bind fun bt139 => ((laws_eqInt32S.f k bt139.1 bt129.1).bind fun t144 => (if t144 = true then (if bt139.2.1 = bt129.2.1 then (laws_FnExactStoreRead.j0 k l0 bt129.1 bt129.2.1 bt129.2.2 t134 bt139.1 bt139.2.1 bt139.2.2 (bt139.2.2 != bt129.2.2) a1_0 a1_1) else (laws_FnExactStoreRead.j0 k l0 bt129.1 bt129.2.1 bt129.2.2 t134 bt139.1 bt139.2.1 bt139.2.2 true a1_0 a1_1)) else (laws_FnExactStoreRead.j0 k l0 bt129.1 bt129.2.1 bt129.2.2 t134 bt139.1 bt139.2.1 bt139.2.2 true a1_0 a1_1)))))))) = some r := H
    have A5 := Aside0.mk A50
    clear A50
    replace H := Option.bind_eq_some_iff.mp H
    obtain ⟨⟨t127, t128⟩, A60, H⟩ := H
    replace H : ((spec_StoreRead.f k t124 t127 t128).bind fun bt129 => ((laws_toInt32S.f k l0).bind fun t134 => ((laws_toSpan.f a1_0 a1_1).bind fun bt137 => ((impl_StoreRead.f t134 bt137.1 bt137.2).bind fun bt139 => ((laws_eqInt32S.f k bt139.1 bt129.1).bind fun t144 => (if t144 = true then (if bt139.2.1 = bt129.2.1 then (laws_FnExactStoreRead.j0 k l0 bt129.1 bt129.2.1 bt129.2.2 t134 bt139.1 bt139.2.1 bt139.2.2 (bt139.2.2 != bt129.2.2) a1_0 a1_1) else (laws_FnExactStoreRead.j0 k l0 bt129.1 bt129.2.1 bt129.2.2 t134 bt139.1 bt139.2.1 bt139.2.2 true a1_0 a1_1)) else (laws_FnExactStoreRead.j0 k l0 bt129.1 bt129.2.1 bt129.2.2 t134 bt139.1 bt139.2.1 bt139.2.2 true a1_0 a1_1))))))) = some r := H
    have A6 := Aside0.mk A60
    clear A60
    replace H := Option.bind_eq_some_iff.mp H
    obtain ⟨⟨t129, t132, t133⟩, A70, H⟩ := H
    replace H : ((laws_toInt32S.f k l0).bind fun t134 => ((laws_toSpan.f a1_0 a1_1).bind fun bt137 => ((impl_StoreRead.f t134 bt137.1 bt137.2).bind fun bt139 => ((laws_eqInt32S.f k bt139.1 t129).bind fun t144 => (if t144 = true then (if bt139.2.1 = t132 then (laws_FnExactStoreRead.j0 k l0 t129 t132 t133 t134 bt139.1 bt139.2.1 bt139.2.2 (bt139.2.2 != t133) a1_0 a1_1) else (laws_FnExactStoreRead.j0 k l0 t129 t132 t133 t134 bt139.1 bt139.2.1 bt139.2.2 true a1_0 a1_1)) else (laws_FnExactStoreRead.j0 k l0 t129 t132 t133 t134 bt139.1 bt139.2.1 bt139.2.2 true a1_0 a1_1)))))) = some r := H
    have A7 := Aside0.mk A70
    clear A70
    replace H := Option.bind_eq_some_iff.mp H
    obtain ⟨t134, A80, H⟩ := H
    replace H : ((laws_toSpan.f a1_0 a1_1).bind fun bt137 => ((impl_StoreRead.f t134 bt137.1 bt137.2).bind fun bt139 => ((laws_eqInt32S.f k bt139.1 t129).bind fun t144 => (if t144 = true then (if bt139.2.1 = t132 then (laws_FnExactStoreRead.j0 k l0 t129 t132 t133 t134 bt139.1 bt139.2.1 bt139.2.2 (bt139.2.2 != t133) a1_0 a1_1) else (laws_FnExactStoreRead.j0 k l0 t129 t132 t133 t134 bt139.1 bt139.2.1 bt139.2.2 true a1_0 a1_1)) else (laws_FnExactStoreRead.j0 k l0 t129 t132 t133 t134 bt139.1 bt139.2.1 bt139.2.2 true a1_0 a1_1))))) = some r := H
    have A8 := Aside0.mk A80
    clear A80
    replace H := Option.bind_eq_some_iff.mp H
    obtain ⟨⟨t137, t138⟩, A90, H⟩ := H
    replace H : ((impl_StoreRead.f t134 t137 t138).bind fun bt139 => ((laws_eqInt32S.f k bt139.1 t129).bind fun t144 => (if t144 = true then (if bt139.2.1 = t132 then (laws_FnExactStoreRead.j0 k l0 t129 t132 t133 t134 bt139.1 bt139.2.1 bt139.2.2 (bt139.2.2 != t133) a1_0 a1_1) else (laws_FnExactStoreRead.j0 k l0 t129 t132 t133 t134 bt139.1 bt139.2.1 bt139.2.2 true a1_0 a1_1)) else (laws_FnExactStoreRead.j0 k l0 t129 t132 t133 t134 bt139.1 bt139.2.1 bt139.2.2 true a1_0 a1_1)))) = some r := H
    have A9 := Aside0.mk A90
    clear A90
    replace H := Option.bind_eq_some_iff.mp H
    obtain ⟨⟨t139, t142, t143⟩, A100, H⟩ := H
    replace H : ((laws_eqInt32S.f k t139 t129).bind fun t144 => (if t144 = true then (if t142 = t132 then (laws_FnExactStoreRead.j0 k l0 t129 t132 t133 t134 t139 t142 t143 (t143 != t133) a1_0 a1_1) else (laws_FnExactStoreRead.j0 k l0 t129 t132 t133 t134 t139 t142 t143 true a1_0 a1_1)) else (laws_FnExactStoreRead.j0 k l0 t129 t132 t133 t134 t139 t142 t143 true a1_0 a1_1))) = some r := H
    have A10 := Aside0.mk A100
    clear A100
    have HC11 := Aside0.mk H
    clear H
    go_enter Tryd.func3, Tryd.ntmps3
    try go_wp2_with (first | ((with_reducible refine gate_dst (N := 3) rfl ?_); refine box_event ?hg (N := 3) ?hd (cs := #[.int .i64 a1_0, .int .i64 a1_1]) (t := 24) ?hr ?_; (case hd => rfl); (case hg => rfl); (case hr => first | (go_simp; done) | (go_simp; rfl)); intro gb123 hg w12 hbox hb; have n0_ := Aside0.mk (below_step (by repeat (first | (with_reducible first | exact HB.out | apply below_alloc | apply pw_below_drewN | apply below_drew1) | exact HB.out)) hb); have n1_ := Aside0.mk (hbox); have n2_ := Aside0.mk ((by rw [hg]; exact (below_size (by repeat (first | (with_reducible first | exact HB.out | apply below_alloc | apply pw_below_drewN | apply below_drew1) | exact HB.out))) : w.heap.size ≤ gb123)); have n3_ := Aside0.mk ((by rw [hg]; exact (below_size (by repeat (first | (with_reducible first | exact HB.out | apply below_alloc | apply pw_below_drewN | apply below_drew1) | exact HB.out))) : w.heap.size ≤ gb123)); clear HB; have HB := n0_; have BK123 := n1_; have GW123 := n2_; have GE123 := n3_; clear n0_ n1_ n2_ n3_; clear hb hbox hg))
    have n0_ := Aside0.mk (blk_drew BK123.out)
    have n1_ := Aside0.mk (below_drew1 HB.out)
    clear BK123
    clear HB
    have BK123 := n0_
    have HB := n1_
    clear n0_ n1_
    refine start_ (n := 12) (S := fun w' => w'.cell? ⟨gb123, 0, none⟩ = some (.int .i64 a1_0) ∧ w'.cell? ⟨gb123, 1, none⟩ = some (.int .i64 a1_1)) (ds := []) #[false, false, false, false, false, false, false, false, false, false, false, false] (by kernel_rfl) rfl rfl ⟨(blk_cell BK123.out 0).trans rfl, (blk_cell BK123.out 1).trans rfl⟩ (fun hHeld => ?_); refine with_tabW laws_FnExactStoreRead.tab3 laws_FnExactStoreRead.bits3 (fun HT_ HW_ => ?_)
    generalize w12.drew = w13 at BK123 HB hHeld ⊢
    refine pure_ (i := 0) (N := some 22) (v := ?_) (a' := ?_) #[true, false, false, false, false, false, false, false, false, false, false, false] rfl rfl (any_of HT_.out (by kernel_rfl)) (fun _ _ _ h => h) (Or.inl ⟨by rfl, ?_⟩) ?_ ?_
    rotate_left
    · intro w'
      go_simp
      with_reducible rfl
    rotate_left
    · simp only [Act.put, List.setIfInBounds_toArray, List.set_cons_zero, List.set_cons_succ, i64_w, i32_w]
      rfl
    refine take_ (i := 2) (N := some 24) (v := ?_) (a' := ?_) #[true, false, true, false, false, false, false, false, false, false, false, false] rfl rfl (take_ofW HT_.out HW_.out (by kernel_rfl)) (fun _ _ _ h => h) (Or.inl ⟨by rfl, ?_⟩) hHeld ?_ ?_
    rotate_left
    · rintro w' ⟨s0, s1⟩
      go_simp
      with_reducible rfl
    rotate_left
    · simp only [Act.put, List.setIfInBounds_toArray, List.set_cons_zero, List.set_cons_succ, i64_w, i32_w]
      rfl
    refine one_ (i := 1) (N := some 23) #[true, true, true, false, false, false, false, false, false, false, false, false] rfl rfl (one_of HT_.out (by kernel_rfl)) (by decide) (fun K hK => ?_)
    refine goes_ Tryd.func7 (by kernel_rfl) rfl #[.slice A0 l0.length c0] (by rfl) rfl rfl (by (try simp only [List.map_toArray, List.map_cons, List.map_nil]); first | done | rfl | (simp only [List.length_drop, List.length_take]; rfl)) ?_
    with_reducible refine (laws_toInt32S.calls k _ _ l0 t124 _ ?side1 ?side2 A5.out).mono ?_
    (case side1 => repeat (first | exact (Kd.C_below HR0.out HB.out) | (with_reducible refine Kd.C_alloc ?_ _) | (with_reducible refine Kd.C_drewN ?_ _) | (with_reducible refine Kd.C_drew ?_)))
    (case side2 => exact HC0.out)
    rintro e w14 ⟨v125, rfl, ho0, hb⟩
    refine ⟨_, rfl, ?_⟩
    have n0_ := Aside0.mk (Kd.R_lower ho0 (below_size (by repeat (first | (with_reducible first | exact HB.out | apply below_alloc | apply pw_below_drewN | apply below_drew1 | refine below_set ?_ GE123.out) | exact HB.out))))
    have n1_ := Aside0.mk (blk_below (g := gb123) (o := .cells #[.int .i64 a1_0, .int .i64 a1_1] 24 (0, 0)) (by (with_reducible repeat (first | refine blk_drewN ?_ _ | refine blk_drew ?_ | refine blk_alloc ?_ _)); exact BK123.out) hb)
    have n2_ := Aside0.mk (below_step (by repeat (first | (with_reducible first | exact HB.out | apply below_alloc | apply pw_below_drewN | apply below_drew1 | refine below_set ?_ GE123.out) | exact HB.out)) hb)
    clear BK123
    clear HB
    have HO126 := n0_
    have BK123 := n1_
    have HB := n2_
    clear n0_ n1_ n2_
    (try clear hb)
    (try clear hb2)
    (try clear hk)
    (try clear hi)
    (try clear ho0)
    refine hK.out _ _ ⟨(blk_cell BK123.out 0).trans rfl, (blk_cell BK123.out 1).trans rfl⟩ (fun hHeld => ?_)
    clear hK K
    refine norm_ (a' := ?_) ?_ ?_
    rotate_left
    · show Act.put _ (some 23) _ = _
      simp only [Act.put, List.setIfInBounds_toArray, List.set_cons_zero, List.set_cons_succ, i64_w, i32_w]
      rfl
    refine one_ (i := 3) (N := some 25) #[true, true, true, true, false, false, false, false, false, false, false, false] rfl rfl (one_of HT_.out (by kernel_rfl)) (by decide) (fun K hK => ?_)
    refine goes_ Tryd.func8 (by kernel_rfl) rfl #[.agg #[.int .i64 a1_0, .int .i64 a1_1]] (by rfl) rfl rfl (by (try simp only [List.map_toArray, List.map_cons, List.map_nil]); first | done | rfl | (simp only [List.length_drop, List.length_take]; rfl)) ?_
    with_reducible refine (laws_toSpan.calls a1_0 a1_1 t127 t128 _ A6.out).mono ?_
    rintro e w15 ⟨rfl, hb⟩
    refine ⟨_, rfl, ?_⟩
    have n0_ := Aside0.mk (Kd.R_below (by (with_reducible repeat (first | apply Kd.R_alloc | apply Kd.R_drewN | apply Kd.R_drew)); exact HO126.out) hb)
    have n1_ := Aside0.mk (blk_below (g := gb123) (o := .cells #[.int .i64 a1_0, .int .i64 a1_1] 24 (0, 0)) (by (with_reducible repeat (first | refine blk_drewN ?_ _ | refine blk_drew ?_ | refine blk_alloc ?_ _)); exact BK123.out) hb)
    have n2_ := Aside0.mk (below_step (by repeat (first | (with_reducible first | exact HB.out | apply below_alloc | apply pw_below_drewN | apply below_drew1 | refine below_set ?_ GE123.out) | exact HB.out)) hb)
    clear HO126
    clear BK123
    clear HB
    have HO126 := n0_
    have BK123 := n1_
    have HB := n2_
    clear n0_ n1_ n2_
    (try clear hb)
    (try clear hb2)
    (try clear hk)
    (try clear hi)
    obtain ⟨Ao16, co16, eo16⟩ := Kd.R_slice HO126.out
    (first | subst eo16 | (injection eo16 with f1_ f2_ f3_; have f4_ := f1_.symm; have f5_ := f3_.symm; clear f1_ f2_ f3_; subst f4_; subst f5_))
    refine hK.out _ _ ⟨(blk_cell BK123.out 0).trans rfl, (blk_cell BK123.out 1).trans rfl⟩ (fun hHeld => ?_)
    clear hK K
    refine norm_ (a' := ?_) ?_ ?_
    rotate_left
    · show Act.put _ (some 25) _ = _
      simp only [Act.put, List.setIfInBounds_toArray, List.set_cons_zero, List.set_cons_succ, i64_w, i32_w]
      rfl
    refine one_ (i := 4) (N := some 26) #[true, true, true, true, true, false, false, false, false, false, false, false] rfl rfl (one_of HT_.out (by kernel_rfl)) (by decide) (fun K hK => ?_)
    refine goes_ Tryd.func6 (by kernel_rfl) rfl #[.slice Ao16 t124.length co16, .agg #[.int .i64 t127, .int .i64 t128]] (by rfl) rfl rfl (by (try simp only [List.map_toArray, List.map_cons, List.map_nil]); first | done | rfl | (simp only [List.length_drop, List.length_take]; rfl)) ?_
    with_reducible refine (spec_StoreRead.calls k _ _ t124 t127 t128 t129 t132 t133 _ ?side1 ?side2 A7.out).mono ?_
    (case side1 => repeat (first | exact (Kd.R_reads' HO126.out).2.2 | (with_reducible refine Kd.C_alloc ?_ _) | (with_reducible refine Kd.C_drewN ?_ _) | (with_reducible refine Kd.C_drew ?_)))
    (case side2 => exact (Kd.R_reads' HO126.out).2.1)
    rintro e w17 ⟨v130, rfl, ho0, hb⟩
    refine ⟨_, rfl, ?_⟩
    have n0_ := Aside0.mk (Kd.R_elder' (by (with_reducible repeat (first | apply Kd.R_alloc | apply Kd.R_drewN | apply Kd.R_drew)); exact HO126.out) (Kd.R_base ho0) hb)
    have n1_ := Aside0.mk (Kd.R_lower (Kd.R_new' ho0 (Kd.R_lt (by (with_reducible repeat (first | apply Kd.R_alloc | apply Kd.R_drewN | apply Kd.R_drew)); exact HO126.out))) (below_size (by repeat (first | (with_reducible first | exact HB.out | apply below_alloc | apply pw_below_drewN | apply below_drew1 | refine below_set ?_ GE123.out) | exact HB.out))))
    have n2_ := Aside0.mk (blk_below (g := gb123) (o := .cells #[.int .i64 a1_0, .int .i64 a1_1] 24 (0, 0)) (by (with_reducible repeat (first | refine blk_drewN ?_ _ | refine blk_drew ?_ | refine blk_alloc ?_ _)); exact BK123.out) hb)
    have n3_ := Aside0.mk (below_step (by repeat (first | (with_reducible first | exact HB.out | apply below_alloc | apply pw_below_drewN | apply below_drew1 | refine below_set ?_ GE123.out) | exact HB.out)) hb)
    clear HO126
    clear BK123
    clear HB
    have HO126 := n0_
    have HO131 := n1_
    have BK123 := n2_
    have HB := n3_
    clear n0_ n1_ n2_ n3_
    (try clear hb)
    (try clear hb2)
    (try clear hk)
    (try clear hi)
    (try clear ho0)
    refine hK.out _ _ ⟨(blk_cell BK123.out 0).trans rfl, (blk_cell BK123.out 1).trans rfl⟩ (fun hHeld => ?_)
    clear hK K
    refine norm_ (a' := ?_) ?_ ?_
    rotate_left
    · show Act.put _ (some 26) _ = _
      simp only [Act.put, List.setIfInBounds_toArray, List.set_cons_zero, List.set_cons_succ, i64_w, i32_w]
      rfl
    refine pure_ (i := 5) (N := some 21) (v := ?_) (a' := ?_) #[true, true, true, true, true, true, false, false, false, false, false, false] rfl rfl (any_of HT_.out (by kernel_rfl)) (fun _ _ _ h => h) (Or.inl ⟨by rfl, ?_⟩) ?_ ?_
    rotate_left
    · intro w'
      go_simp
      with_reducible rfl
    rotate_left
    · simp only [Act.put, List.setIfInBounds_toArray, List.set_cons_zero, List.set_cons_succ, i64_w, i32_w]
      rfl
    refine pure_ (i := 6) (N := some 27) (v := ?_) (a' := ?_) #[true, true, true, true, true, true, true, false, false, false, false, false] rfl rfl (any_of HT_.out (by kernel_rfl)) (fun _ _ _ h => h) (Or.inl ⟨by rfl, ?_⟩) ?_ ?_
    rotate_left
    · intro w'
      go_simp
      with_reducible rfl
    rotate_left
    · simp only [Act.put, List.setIfInBounds_toArray, List.set_cons_zero, List.set_cons_succ, i64_w, i32_w]
      rfl
    refine pure_ (i := 7) (N := some 28) (v := ?_) (a' := ?_) #[true, true, true, true, true, true, true, true, false, false, false, false] rfl rfl (any_of HT_.out (by kernel_rfl)) (fun _ _ _ h => h) (Or.inl ⟨by rfl, ?_⟩) ?_ ?_
    rotate_left
    · intro w'
      go_simp
      with_reducible rfl
    rotate_left
    · simp only [Act.put, List.setIfInBounds_toArray, List.set_cons_zero, List.set_cons_succ, i64_w, i32_w]
      rfl
    refine pure_ (i := 8) (N := some 29) (v := ?_) (a' := ?_) #[true, true, true, true, true, true, true, true, true, false, false, false] rfl rfl (any_of HT_.out (by kernel_rfl)) (fun _ _ _ h => h) (Or.inl ⟨by rfl, ?_⟩) ?_ ?_
    rotate_left
    · intro w'
      go_simp
      with_reducible rfl
    rotate_left
    · simp only [Act.put, List.setIfInBounds_toArray, List.set_cons_zero, List.set_cons_succ, i64_w, i32_w]
      rfl
    refine pure_ (i := 9) (N := some 5) (v := ?_) (a' := ?_) #[true, true, true, true, true, true, true, true, true, true, false, false] rfl rfl (any_of HT_.out (by kernel_rfl)) (fun _ _ _ h => h) (Or.inl ⟨by rfl, ?_⟩) ?_ ?_
    rotate_left
    · intro w'
      go_simp
      with_reducible rfl
    rotate_left
    · simp only [Act.put, List.setIfInBounds_toArray, List.set_cons_zero, List.set_cons_succ, i64_w, i32_w]
      rfl
    refine pure_ (i := 10) (N := some 6) (v := ?_) (a' := ?_) #[true, true, true, true, true, true, true, true, true, true, true, false] rfl rfl (any_of HT_.out (by kernel_rfl)) (fun _ _ _ h => h) (Or.inl ⟨by rfl, ?_⟩) ?_ ?_
    rotate_left
    · intro w'
      go_simp
      with_reducible rfl
    rotate_left
    · simp only [Act.put, List.setIfInBounds_toArray, List.set_cons_zero, List.set_cons_succ, i64_w, i32_w]
      rfl
    refine pure_ (i := 11) (N := some 7) (v := ?_) (a' := ?_) #[true, true, true, true, true, true, true, true, true, true, true, true] rfl rfl (any_of HT_.out (by kernel_rfl)) (fun _ _ _ h => h) (Or.inl ⟨by rfl, ?_⟩) ?_ ?_
    rotate_left
    · intro w'
      go_simp
      with_reducible rfl
    rotate_left
    · simp only [Act.put, List.setIfInBounds_toArray, List.set_cons_zero, List.set_cons_succ, i64_w, i32_w]
      rfl
    refine done_ (done_of HT_.out (by kernel_rfl)) ?_
    go_upto_region 6 with (first | ((with_reducible refine gate_callee (f := 7) rfl ?_); refine goesL_ (some 31) rfl rfl Tryd.func7 (by kernel_rfl) rfl #[.slice A0 l0.length c0] rfl (by (try simp only [List.map_toArray, List.map_cons, List.map_nil]); first | done | rfl | (simp only [List.length_drop, List.length_take]; rfl)) ?_; (with_reducible refine (laws_toInt32S.calls k _ _ l0 t134 _ ?side1 ?side2 A8.out).mono ?_); (case side1 => repeat (first | exact (Kd.C_below HR0.out HB.out) | (with_reducible refine Kd.C_alloc ?_ _) | (with_reducible refine Kd.C_drewN ?_ _) | (with_reducible refine Kd.C_drew ?_))); (case side2 => exact HC0.out); rintro e w18 ⟨v135, rfl, ho0, hb⟩; refine ⟨_, rfl, ?_⟩; have n0_ := Aside0.mk (Kd.R_elder' (by (with_reducible repeat (first | apply Kd.R_alloc | apply Kd.R_drewN | apply Kd.R_drew)); exact HO126.out) (Kd.R_base ho0) hb); have n1_ := Aside0.mk (Kd.R_elder' (by (with_reducible repeat (first | apply Kd.R_alloc | apply Kd.R_drewN | apply Kd.R_drew)); exact HO131.out) (Kd.R_base ho0) hb); have n2_ := Aside0.mk (Kd.R_lower (Kd.R_new' (Kd.R_new' ho0 (Kd.R_lt (by (with_reducible repeat (first | apply Kd.R_alloc | apply Kd.R_drewN | apply Kd.R_drew)); exact HO126.out))) (Kd.R_lt (by (with_reducible repeat (first | apply Kd.R_alloc | apply Kd.R_drewN | apply Kd.R_drew)); exact HO131.out))) (below_size (by repeat (first | (with_reducible first | exact HB.out | apply below_alloc | apply pw_below_drewN | apply below_drew1 | refine below_set ?_ GE123.out) | exact HB.out)))); have n3_ := Aside0.mk (blk_below (g := gb123) (o := .cells #[.int .i64 a1_0, .int .i64 a1_1] 24 (0, 0)) (by (with_reducible repeat (first | refine blk_drewN ?_ _ | refine blk_drew ?_ | refine blk_alloc ?_ _)); exact BK123.out) hb); have n4_ := Aside0.mk (below_step (by repeat (first | (with_reducible first | exact HB.out | apply below_alloc | apply pw_below_drewN | apply below_drew1 | refine below_set ?_ GE123.out) | exact HB.out)) hb); clear HO126; clear HO131; clear BK123; clear HB; have HO126 := n0_; have HO131 := n1_; have HO136 := n2_; have BK123 := n3_; have HB := n4_; clear n0_ n1_ n2_ n3_ n4_; (try clear hb); (try clear hb2); (try clear hk); (try clear hi); (try clear ho0); have hcz19_0 : w18.cell? ⟨gb123, 0, none⟩ = some (.int .i64 a1_0) := (blk_cell BK123.out 0).trans rfl; have hcz19_1 : w18.cell? ⟨gb123, 1, none⟩ = some (.int .i64 a1_1) := (blk_cell BK123.out 1).trans rfl; have hfz19_0 := blk_frozen BK123.out 0; have hfz19_1 := blk_frozen BK123.out 1) | ((with_reducible refine gate_callee (f := 8) rfl ?_); refine goesL_ (some 35) rfl rfl Tryd.func8 (by kernel_rfl) rfl #[.agg #[.int .i64 a1_0, .int .i64 a1_1]] rfl (by (try simp only [List.map_toArray, List.map_cons, List.map_nil]); first | done | rfl | (simp only [List.length_drop, List.length_take]; rfl)) ?_; (with_reducible refine (laws_toSpan.calls a1_0 a1_1 t137 t138 _ A9.out).mono ?_); rintro e w20 ⟨rfl, hb⟩; refine ⟨_, rfl, ?_⟩; have n0_ := Aside0.mk (Kd.R_below (by (with_reducible repeat (first | apply Kd.R_alloc | apply Kd.R_drewN | apply Kd.R_drew)); exact HO126.out) hb); have n1_ := Aside0.mk (Kd.R_below (by (with_reducible repeat (first | apply Kd.R_alloc | apply Kd.R_drewN | apply Kd.R_drew)); exact HO131.out) hb); have n2_ := Aside0.mk (Kd.R_below (by (with_reducible repeat (first | apply Kd.R_alloc | apply Kd.R_drewN | apply Kd.R_drew)); exact HO136.out) hb); have n3_ := Aside0.mk (blk_below (g := gb123) (o := .cells #[.int .i64 a1_0, .int .i64 a1_1] 24 (0, 0)) (by (with_reducible repeat (first | refine blk_drewN ?_ _ | refine blk_drew ?_ | refine blk_alloc ?_ _)); exact BK123.out) hb); have n4_ := Aside0.mk (below_step (by repeat (first | (with_reducible first | exact HB.out | apply below_alloc | apply pw_below_drewN | apply below_drew1 | refine below_set ?_ GE123.out) | exact HB.out)) hb); clear HO126; clear HO131; clear HO136; clear BK123; clear HB; have HO126 := n0_; have HO131 := n1_; have HO136 := n2_; have BK123 := n3_; have HB := n4_; clear n0_ n1_ n2_ n3_ n4_; (try clear hb); (try clear hb2); (try clear hk); (try clear hi); obtain ⟨Ao21, co21, eo21⟩ := Kd.R_slice HO136.out; subst eo21) | ((with_reducible refine gate_callee (f := 9) rfl ?_); refine goesL_ (some 36) rfl rfl Tryd.func9 (by kernel_rfl) rfl #[.slice Ao21 t134.length co21, .agg #[.int .i64 t137, .int .i64 t138]] rfl (by (try simp only [List.map_toArray, List.map_cons, List.map_nil]); first | done | rfl | (simp only [List.length_drop, List.length_take]; rfl)) ?_; (with_reducible refine (impl_StoreRead.calls _ _ t134 t137 t138 t139 t142 t143 _ ?side1 ?side2 ?side3 A10.out).mono ?_); (case side1 => repeat (first | exact (Kd.R_reads' HO136.out).2.2 | (with_reducible refine Kd.C_alloc ?_ _) | (with_reducible refine Kd.C_drewN ?_ _) | (with_reducible refine Kd.C_drew ?_))); (case side2 => exact (Kd.R_reads' HO136.out).2.1); (case side3 => exact HG.below hgG_ (by repeat (first | (with_reducible first | exact HB.out | apply below_alloc | apply pw_below_drewN | apply below_drew1 | refine below_set ?_ GE123.out) | exact HB.out))); rintro e w22 ⟨v140, rfl, ho0, hb⟩; refine ⟨_, rfl, ?_⟩; have n0_ := Aside0.mk (Kd.R_elder' (by (with_reducible repeat (first | apply Kd.R_alloc | apply Kd.R_drewN | apply Kd.R_drew)); exact HO126.out) (Kd.R_base ho0) hb); have n1_ := Aside0.mk (Kd.R_elder' (by (with_reducible repeat (first | apply Kd.R_alloc | apply Kd.R_drewN | apply Kd.R_drew)); exact HO131.out) (Kd.R_base ho0) hb); have n2_ := Aside0.mk (Kd.R_elder' (by (with_reducible repeat (first | apply Kd.R_alloc | apply Kd.R_drewN | apply Kd.R_drew)); exact HO136.out) (Kd.R_base ho0) hb); have n3_ := Aside0.mk (Kd.R_lower (Kd.R_new' (Kd.R_new' (Kd.R_new' ho0 (Kd.R_lt (by (with_reducible repeat (first | apply Kd.R_alloc | apply Kd.R_drewN | apply Kd.R_drew)); exact HO126.out))) (Kd.R_lt (by (with_reducible repeat (first | apply Kd.R_alloc | apply Kd.R_drewN | apply Kd.R_drew)); exact HO131.out))) (Kd.R_lt (by (with_reducible repeat (first | apply Kd.R_alloc | apply Kd.R_drewN | apply Kd.R_drew)); exact HO136.out))) (below_size (by repeat (first | (with_reducible first | exact HB.out | apply below_alloc | apply pw_below_drewN | apply below_drew1 | refine below_set ?_ GE123.out) | exact HB.out)))); have n4_ := Aside0.mk (blk_below (g := gb123) (o := .cells #[.int .i64 a1_0, .int .i64 a1_1] 24 (0, 0)) (by (with_reducible repeat (first | refine blk_drewN ?_ _ | refine blk_drew ?_ | refine blk_alloc ?_ _)); exact BK123.out) hb); have n5_ := Aside0.mk (below_step (by repeat (first | (with_reducible first | exact HB.out | apply below_alloc | apply pw_below_drewN | apply below_drew1 | refine below_set ?_ GE123.out) | exact HB.out)) hb); clear HO126; clear HO131; clear HO136; clear BK123; clear HB; have HO126 := n0_; have HO131 := n1_; have HO136 := n2_; have HO141 := n3_; have BK123 := n4_; have HB := n5_; clear n0_ n1_ n2_ n3_ n4_ n5_; (try clear hb); (try clear hb2); (try clear hk); (try clear hi); (try clear ho0)))
    (try simp only [Act.put, List.setIfInBounds_toArray, List.set_cons_zero, List.set_cons_succ])
    go_cut [53] (fun v53 wc => ∃ (kq : Nat) (x53_10 : Bool), v53 = .bool x53_10 ∧ Aside0 (laws_FnExactStoreRead.j0 kq l0 t129 t132 t133 t134 t139 t142 t143 x53_10 a1_0 a1_1 = some r) ∧ Aside0 (kq ≤ k) ∧ Aside0 (Kd.R (Kd.int .i32) 21 wc w.heap.size (fun k_ => some k_ ≠ ((.slice Ao21 t134.length co21) : Value).ownBlock ∧ some k_ ≠ (v140 : Value).ownBlock) v130 t129) ∧ Aside0 (Kd.R (Kd.int .i32) 21 wc w.heap.size (fun k_ => some k_ ≠ (v130 : Value).ownBlock ∧ some k_ ≠ (v140 : Value).ownBlock) (.slice Ao21 t134.length co21) t134) ∧ Aside0 (Kd.R (Kd.int .i32) 21 wc w.heap.size (fun k_ => some k_ ≠ (v130 : Value).ownBlock ∧ some k_ ≠ ((.slice Ao21 t134.length co21) : Value).ownBlock) v140 t139) ∧ Aside0 (wc.heap[gb123]? = some (.cells #[.int .i64 a1_0, .int .i64 a1_1] 24 (0, 0))) ∧ Aside0 (Below w.heap.size w wc))
    case first =>
      have H := HC11.out
      clear HC11
      replace H := Option.bind_eq_some_iff.mp H
      obtain ⟨t144, A230, H⟩ := H
      replace H : (if t144 = true then (if t142 = t132 then (laws_FnExactStoreRead.j0 k l0 t129 t132 t133 t134 t139 t142 t143 (t143 != t133) a1_0 a1_1) else (laws_FnExactStoreRead.j0 k l0 t129 t132 t133 t134 t139 t142 t143 true a1_0 a1_1)) else (laws_FnExactStoreRead.j0 k l0 t129 t132 t133 t134 t139 t142 t143 true a1_0 a1_1)) = some r := H
      have A23 := Aside0.mk A230
      clear A230
      by_cases c24 : t144 = true
      · subst c24
        have H1 : (if t142 = t132 then (laws_FnExactStoreRead.j0 k l0 t129 t132 t133 t134 t139 t142 t143 (t143 != t133) a1_0 a1_1) else (laws_FnExactStoreRead.j0 k l0 t129 t132 t133 t134 t139 t142 t143 true a1_0 a1_1)) = some r := by rw [if_pos rfl] at H; exact H
        clear H
        have H := H1
        clear H1
        by_cases c25 : t142 = t132
        · rw [if_pos c25] at H
          have c25b0 : (t142 == t132) = true := beq_iff_eq.mpr c25
          have c25b1 : (t142 != t132) = false := bne_eq_false_iff_eq.mpr c25
          clear c25
          (first | rw [c25b0] | (simp only [i64_w, i32_w]; rw [c25b0]) | skip)
          have H' := Aside0.mk H
          clear H
          obtain ⟨Ao26, co26, eo26⟩ := Kd.R_slice HO141.out
          subst eo26
          obtain ⟨Ao27, co27, eo27⟩ := Kd.R_slice HO131.out
          subst eo27
          go_wp2_with (first | ((with_reducible refine gate_callee (f := 10) rfl ?_); refine goesL_ (some 42) rfl rfl Tryd.func10 (by kernel_rfl) rfl #[.slice Ao26 t139.length co26, .slice Ao27 t129.length co27] rfl (by (try simp only [List.map_toArray, List.map_cons, List.map_nil]); first | done | rfl | (simp only [List.length_drop, List.length_take]; rfl)) ?_; (with_reducible refine (laws_eqInt32S.calls k _ _ t139 _ _ t129 true _ ?side1 ?side2 ?side3 ?side4 A23.out).mono ?_); (case side1 => repeat (first | exact (Kd.R_reads' HO141.out).2.2 | (with_reducible refine Kd.C_alloc ?_ _) | (with_reducible refine Kd.C_drewN ?_ _) | (with_reducible refine Kd.C_drew ?_))); (case side2 => exact (Kd.R_reads' HO141.out).2.1); (case side3 => repeat (first | exact (Kd.R_reads' HO131.out).2.2 | (with_reducible refine Kd.C_alloc ?_ _) | (with_reducible refine Kd.C_drewN ?_ _) | (with_reducible refine Kd.C_drew ?_))); (case side4 => exact (Kd.R_reads' HO131.out).2.1); rintro e w' ⟨rfl, ⟨nd, rfl⟩⟩; refine ⟨_, rfl, ?_⟩))
          go_meet
          case rel => exact ⟨_, ((t143 != t133)), (by first | rfl | (simp; done) | (simp [*]; done)), H', ⟨by first | omega | exact Nat.le_refl _⟩, ⟨by (with_reducible repeat (first | apply Kd.R_alloc | apply Kd.R_drewN | apply Kd.R_drew)); exact Kd.R_mono HO131.out (fun _ hk => ⟨hk.1.2, hk.2⟩)⟩, ⟨by (with_reducible repeat (first | apply Kd.R_alloc | apply Kd.R_drewN | apply Kd.R_drew)); exact Kd.R_mono HO136.out (fun _ hk => ⟨hk.1.2, hk.2⟩)⟩, ⟨by (with_reducible repeat (first | apply Kd.R_alloc | apply Kd.R_drewN | apply Kd.R_drew)); exact Kd.R_mono HO141.out (fun _ hk => ⟨hk.1.2, hk.2⟩)⟩, ⟨by (with_reducible repeat (first | refine blk_drewN ?_ _ | refine blk_drew ?_ | refine blk_alloc ?_ _)); exact BK123.out⟩, ⟨by repeat (first | (with_reducible first | exact HB.out | apply below_alloc | apply pw_below_drewN | apply below_drew1 | refine below_set ?_ GE123.out) | exact HB.out)⟩⟩
        · rw [if_neg c25] at H
          have c25b0 : (t142 == t132) = false := beq_eq_false_iff_ne.mpr c25
          have c25b1 : (t142 != t132) = true := bne_iff_ne.mpr c25
          (first | rw [c25b0] | (simp only [i64_w, i32_w]; rw [c25b0]) | skip)
          have H' := Aside0.mk H
          clear H
          obtain ⟨Ao28, co28, eo28⟩ := Kd.R_slice HO141.out
          subst eo28
          obtain ⟨Ao29, co29, eo29⟩ := Kd.R_slice HO131.out
          subst eo29
          go_wp2_with (first | ((with_reducible refine gate_callee (f := 10) rfl ?_); refine goesL_ (some 42) rfl rfl Tryd.func10 (by kernel_rfl) rfl #[.slice Ao28 t139.length co28, .slice Ao29 t129.length co29] rfl (by (try simp only [List.map_toArray, List.map_cons, List.map_nil]); first | done | rfl | (simp only [List.length_drop, List.length_take]; rfl)) ?_; (with_reducible refine (laws_eqInt32S.calls k _ _ t139 _ _ t129 true _ ?side1 ?side2 ?side3 ?side4 A23.out).mono ?_); (case side1 => repeat (first | exact (Kd.R_reads' HO141.out).2.2 | (with_reducible refine Kd.C_alloc ?_ _) | (with_reducible refine Kd.C_drewN ?_ _) | (with_reducible refine Kd.C_drew ?_))); (case side2 => exact (Kd.R_reads' HO141.out).2.1); (case side3 => repeat (first | exact (Kd.R_reads' HO131.out).2.2 | (with_reducible refine Kd.C_alloc ?_ _) | (with_reducible refine Kd.C_drewN ?_ _) | (with_reducible refine Kd.C_drew ?_))); (case side4 => exact (Kd.R_reads' HO131.out).2.1); rintro e w' ⟨rfl, ⟨nd, rfl⟩⟩; refine ⟨_, rfl, ?_⟩))
          go_meet
          case rel => exact ⟨_, (true), (by first | rfl | (simp; done) | (simp [*]; done)), H', ⟨by first | omega | exact Nat.le_refl _⟩, ⟨by (with_reducible repeat (first | apply Kd.R_alloc | apply Kd.R_drewN | apply Kd.R_drew)); exact Kd.R_mono HO131.out (fun _ hk => ⟨hk.1.2, hk.2⟩)⟩, ⟨by (with_reducible repeat (first | apply Kd.R_alloc | apply Kd.R_drewN | apply Kd.R_drew)); exact Kd.R_mono HO136.out (fun _ hk => ⟨hk.1.2, hk.2⟩)⟩, ⟨by (with_reducible repeat (first | apply Kd.R_alloc | apply Kd.R_drewN | apply Kd.R_drew)); exact Kd.R_mono HO141.out (fun _ hk => ⟨hk.1.2, hk.2⟩)⟩, ⟨by (with_reducible repeat (first | refine blk_drewN ?_ _ | refine blk_drew ?_ | refine blk_alloc ?_ _)); exact BK123.out⟩, ⟨by repeat (first | (with_reducible first | exact HB.out | apply below_alloc | apply pw_below_drewN | apply below_drew1 | refine below_set ?_ GE123.out) | exact HB.out)⟩⟩
      · replace c24 := Bool.eq_false_iff.mpr c24
        subst c24
        have H1 : (laws_FnExactStoreRead.j0 k l0 t129 t132 t133 t134 t139 t142 t143 true a1_0 a1_1) = some r := by rw [if_neg (show ¬ (false = true) by decide)] at H; exact H
        clear H
        have H := H1
        clear H1
        have H' := Aside0.mk H
        clear H
        obtain ⟨Ao30, co30, eo30⟩ := Kd.R_slice HO141.out
        subst eo30
        obtain ⟨Ao31, co31, eo31⟩ := Kd.R_slice HO131.out
        subst eo31
        go_wp2_with (first | ((with_reducible refine gate_callee (f := 10) rfl ?_); refine goesL_ (some 42) rfl rfl Tryd.func10 (by kernel_rfl) rfl #[.slice Ao30 t139.length co30, .slice Ao31 t129.length co31] rfl (by (try simp only [List.map_toArray, List.map_cons, List.map_nil]); first | done | rfl | (simp only [List.length_drop, List.length_take]; rfl)) ?_; (with_reducible refine (laws_eqInt32S.calls k _ _ t139 _ _ t129 false _ ?side1 ?side2 ?side3 ?side4 A23.out).mono ?_); (case side1 => repeat (first | exact (Kd.R_reads' HO141.out).2.2 | (with_reducible refine Kd.C_alloc ?_ _) | (with_reducible refine Kd.C_drewN ?_ _) | (with_reducible refine Kd.C_drew ?_))); (case side2 => exact (Kd.R_reads' HO141.out).2.1); (case side3 => repeat (first | exact (Kd.R_reads' HO131.out).2.2 | (with_reducible refine Kd.C_alloc ?_ _) | (with_reducible refine Kd.C_drewN ?_ _) | (with_reducible refine Kd.C_drew ?_))); (case side4 => exact (Kd.R_reads' HO131.out).2.1); rintro e w' ⟨rfl, ⟨nd, rfl⟩⟩; refine ⟨_, rfl, ?_⟩))
        go_meet
        case rel => exact ⟨_, (true), (by first | rfl | (simp; done) | (simp [*]; done)), H', ⟨by first | omega | exact Nat.le_refl _⟩, ⟨by (with_reducible repeat (first | apply Kd.R_alloc | apply Kd.R_drewN | apply Kd.R_drew)); exact Kd.R_mono HO131.out (fun _ hk => ⟨hk.1.2, hk.2⟩)⟩, ⟨by (with_reducible repeat (first | apply Kd.R_alloc | apply Kd.R_drewN | apply Kd.R_drew)); exact Kd.R_mono HO136.out (fun _ hk => ⟨hk.1.2, hk.2⟩)⟩, ⟨by (with_reducible repeat (first | apply Kd.R_alloc | apply Kd.R_drewN | apply Kd.R_drew)); exact Kd.R_mono HO141.out (fun _ hk => ⟨hk.1.2, hk.2⟩)⟩, ⟨by (with_reducible repeat (first | refine blk_drewN ?_ _ | refine blk_drew ?_ | refine blk_alloc ?_ _)); exact BK123.out⟩, ⟨by repeat (first | (with_reducible first | exact HB.out | apply below_alloc | apply pw_below_drewN | apply below_drew1 | refine below_set ?_ GE123.out) | exact HB.out)⟩⟩
    case rest =>
      clear HC11
      try clear c1
      try clear c2
      try clear p2
      try clear c3
      try clear c3b0
      try clear c3b1
      try clear c6
      try clear c7
      try clear c8
      try clear c9
      try clear c10
      try clear c24
      try clear c25
      try clear c25b0
      try clear c25b1
      try clear hcz19_0
      try clear hcz19_1
      try clear hfz19_0
      try clear hfz19_1
      obtain ⟨kq, x53_10, rfl, HA, HJ10, HO_5, HO_8, HO_9, BK123, HB⟩ := hcut
      cases kq with
      | zero => exact absurd HA.out (by simp [laws_FnExactStoreRead.j0])
      | succ kj10 =>
        have H := HA.out
        clear HA
        simp only [laws_FnExactStoreRead.j0] at H
        by_cases c32 : x53_10 = true
        · subst c32
          have H1 : (some false) = some r := by rw [if_pos rfl] at H; exact H
          clear H
          have H := H1
          clear H1
          obtain rfl := Option.some.inj H
          go_wp2
          go_ret
          exact ⟨by first | rfl | (simp [errW_none, errW_some] <;> rfl) | (simp [*, errW_none, errW_some] <;> rfl), by repeat (first | (with_reducible first | exact HB.out | apply below_alloc | apply pw_below_drewN | apply below_drew1 | refine below_set ?_ GE123.out) | exact HB.out)⟩
        · replace c32 := Bool.eq_false_iff.mpr c32
          subst c32
          have H1 : ((laws_toInt32S.f kj10 l0).bind fun t145 => ((laws_eqInt32S.f kj10 t134 t145).bind fun t148 => (if t148 = true then ((laws_markInt32S.f kj10 t134 1).bind fun bt149 => (if bt149.1 < 0 then (laws_FnExactStoreRead.j1 kj10 l0 t129 t132 t133 t139 true a1_0 a1_1) else ((laws_eqInt32S.f kj10 t139 t129).bind fun t151 => (if t151 = true then (if t142 = t132 then (laws_FnExactStoreRead.j1 kj10 l0 t129 t132 t133 t139 (t143 != t133) a1_0 a1_1) else (laws_FnExactStoreRead.j1 kj10 l0 t129 t132 t133 t139 true a1_0 a1_1)) else (laws_FnExactStoreRead.j1 kj10 l0 t129 t132 t133 t139 true a1_0 a1_1))))) else (some false)))) = some r := by rw [if_neg (show ¬ (false = true) by decide)] at H; exact H
          clear H
          have H := H1
          clear H1
          replace H := Option.bind_eq_some_iff.mp H
          obtain ⟨t145, A330, H⟩ := H
          replace H : ((laws_eqInt32S.f kj10 t134 t145).bind fun t148 => (if t148 = true then ((laws_markInt32S.f kj10 t134 1).bind fun bt149 => (if bt149.1 < 0 then (laws_FnExactStoreRead.j1 kj10 l0 t129 t132 t133 t139 true a1_0 a1_1) else ((laws_eqInt32S.f kj10 t139 t129).bind fun t151 => (if t151 = true then (if t142 = t132 then (laws_FnExactStoreRead.j1 kj10 l0 t129 t132 t133 t139 (t143 != t133) a1_0 a1_1) else (laws_FnExactStoreRead.j1 kj10 l0 t129 t132 t133 t139 true a1_0 a1_1)) else (laws_FnExactStoreRead.j1 kj10 l0 t129 t132 t133 t139 true a1_0 a1_1))))) else (some false))) = some r := H
          have A33 := Aside0.mk A330
          clear A330
          replace H := Option.bind_eq_some_iff.mp H
          obtain ⟨t148, A340, H⟩ := H
          replace H : (if t148 = true then ((laws_markInt32S.f kj10 t134 1).bind fun bt149 => (if bt149.1 < 0 then (laws_FnExactStoreRead.j1 kj10 l0 t129 t132 t133 t139 true a1_0 a1_1) else ((laws_eqInt32S.f kj10 t139 t129).bind fun t151 => (if t151 = true then (if t142 = t132 then (laws_FnExactStoreRead.j1 kj10 l0 t129 t132 t133 t139 (t143 != t133) a1_0 a1_1) else (laws_FnExactStoreRead.j1 kj10 l0 t129 t132 t133 t139 true a1_0 a1_1)) else (laws_FnExactStoreRead.j1 kj10 l0 t129 t132 t133 t139 true a1_0 a1_1))))) else (some false)) = some r := H
          have A34 := Aside0.mk A340
          clear A340
          by_cases c35 : t148 = true
          · subst c35
            have H1 : ((laws_markInt32S.f kj10 t134 1).bind fun bt149 => (if bt149.1 < 0 then (laws_FnExactStoreRead.j1 kj10 l0 t129 t132 t133 t139 true a1_0 a1_1) else ((laws_eqInt32S.f kj10 t139 t129).bind fun t151 => (if t151 = true then (if t142 = t132 then (laws_FnExactStoreRead.j1 kj10 l0 t129 t132 t133 t139 (t143 != t133) a1_0 a1_1) else (laws_FnExactStoreRead.j1 kj10 l0 t129 t132 t133 t139 true a1_0 a1_1)) else (laws_FnExactStoreRead.j1 kj10 l0 t129 t132 t133 t139 true a1_0 a1_1))))) = some r := by rw [if_pos rfl] at H; exact H
            clear H
            have H := H1
            clear H1
            replace H := Option.bind_eq_some_iff.mp H
            obtain ⟨⟨t149, t150⟩, A360, H⟩ := H
            replace H : (if t149 < 0 then (laws_FnExactStoreRead.j1 kj10 l0 t129 t132 t133 t139 true a1_0 a1_1) else ((laws_eqInt32S.f kj10 t139 t129).bind fun t151 => (if t151 = true then (if t142 = t132 then (laws_FnExactStoreRead.j1 kj10 l0 t129 t132 t133 t139 (t143 != t133) a1_0 a1_1) else (laws_FnExactStoreRead.j1 kj10 l0 t129 t132 t133 t139 true a1_0 a1_1)) else (laws_FnExactStoreRead.j1 kj10 l0 t129 t132 t133 t139 true a1_0 a1_1)))) = some r := H
            have A36 := Aside0.mk A360
            clear A360
            have HC37 := Aside0.mk H
            clear H
            go_upto_region 12 with (first | ((with_reducible refine gate_callee (f := 7) rfl ?_); refine goesL_ (some 56) rfl rfl Tryd.func7 (by kernel_rfl) rfl #[.slice A0 l0.length c0] rfl (by (try simp only [List.map_toArray, List.map_cons, List.map_nil]); first | done | rfl | (simp only [List.length_drop, List.length_take]; rfl)) ?_; (with_reducible refine (laws_toInt32S.calls kj10 _ _ l0 t145 _ ?side1 ?side2 A33.out).mono ?_); (case side1 => repeat (first | exact (Kd.C_below HR0.out HB.out) | (with_reducible refine Kd.C_alloc ?_ _) | (with_reducible refine Kd.C_drewN ?_ _) | (with_reducible refine Kd.C_drew ?_))); (case side2 => exact HC0.out); rintro e w38 ⟨v146, rfl, ho0, hb⟩; refine ⟨_, rfl, ?_⟩; have n0_ := Aside0.mk (Kd.R_elder' (by (with_reducible repeat (first | apply Kd.R_alloc | apply Kd.R_drewN | apply Kd.R_drew)); exact HO_5.out) (Kd.R_base ho0) hb); have n1_ := Aside0.mk (Kd.R_elder' (by (with_reducible repeat (first | apply Kd.R_alloc | apply Kd.R_drewN | apply Kd.R_drew)); exact HO_8.out) (Kd.R_base ho0) hb); have n2_ := Aside0.mk (Kd.R_elder' (by (with_reducible repeat (first | apply Kd.R_alloc | apply Kd.R_drewN | apply Kd.R_drew)); exact HO_9.out) (Kd.R_base ho0) hb); have n3_ := Aside0.mk (Kd.R_lower (Kd.R_new' (Kd.R_new' (Kd.R_new' ho0 (Kd.R_lt (by (with_reducible repeat (first | apply Kd.R_alloc | apply Kd.R_drewN | apply Kd.R_drew)); exact HO_5.out))) (Kd.R_lt (by (with_reducible repeat (first | apply Kd.R_alloc | apply Kd.R_drewN | apply Kd.R_drew)); exact HO_8.out))) (Kd.R_lt (by (with_reducible repeat (first | apply Kd.R_alloc | apply Kd.R_drewN | apply Kd.R_drew)); exact HO_9.out))) (below_size (by repeat (first | (with_reducible first | exact HB.out | apply below_alloc | apply pw_below_drewN | apply below_drew1 | refine below_set ?_ GE123.out) | exact HB.out)))); have n4_ := Aside0.mk (blk_below (g := gb123) (o := .cells #[.int .i64 a1_0, .int .i64 a1_1] 24 (0, 0)) (by (with_reducible repeat (first | refine blk_drewN ?_ _ | refine blk_drew ?_ | refine blk_alloc ?_ _)); exact BK123.out) hb); have n5_ := Aside0.mk (below_step (by repeat (first | (with_reducible first | exact HB.out | apply below_alloc | apply pw_below_drewN | apply below_drew1 | refine below_set ?_ GE123.out) | exact HB.out)) hb); clear HO_5; clear HO_8; clear HO_9; clear BK123; clear HB; have HO_5 := n0_; have HO_8 := n1_; have HO_9 := n2_; have HO147 := n3_; have BK123 := n4_; have HB := n5_; clear n0_ n1_ n2_ n3_ n4_ n5_; (try clear hb); (try clear hb2); (try clear hk); (try clear hi); (try clear ho0); obtain ⟨Ao39, co39, eo39⟩ := Kd.R_slice HO147.out; subst eo39) | ((with_reducible refine gate_callee (f := 10) rfl ?_); refine goesL_ (some 57) rfl rfl Tryd.func10 (by kernel_rfl) rfl #[.slice Ao21 t134.length co21, .slice Ao39 t145.length co39] rfl (by (try simp only [List.map_toArray, List.map_cons, List.map_nil]); first | done | rfl | (simp only [List.length_drop, List.length_take]; rfl)) ?_; (with_reducible refine (laws_eqInt32S.calls kj10 _ _ t134 _ _ t145 true _ ?side1 ?side2 ?side3 ?side4 A34.out).mono ?_); (case side1 => repeat (first | exact (Kd.R_reads' HO_8.out).2.2 | (with_reducible refine Kd.C_alloc ?_ _) | (with_reducible refine Kd.C_drewN ?_ _) | (with_reducible refine Kd.C_drew ?_))); (case side2 => exact (Kd.R_reads' HO_8.out).2.1); (case side3 => repeat (first | exact (Kd.R_reads' HO147.out).2.2 | (with_reducible refine Kd.C_alloc ?_ _) | (with_reducible refine Kd.C_drewN ?_ _) | (with_reducible refine Kd.C_drew ?_))); (case side4 => exact (Kd.R_reads' HO147.out).2.1); rintro e w' ⟨rfl, ⟨nd, rfl⟩⟩; refine ⟨_, rfl, ?_⟩) | ((with_reducible refine gate_callee (f := 11) rfl ?_); refine goesL_ (some 61) rfl rfl Tryd.func11 (by kernel_rfl) rfl #[.slice Ao21 t134.length co21, .int .i64 1] rfl (by (try simp only [List.map_toArray, List.map_cons, List.map_nil]); first | done | rfl | (simp only [List.length_drop, List.length_take]; rfl)) ?_; (with_reducible refine (laws_markInt32S.calls kj10 (fun k_ => some k_ = (.slice Ao21 t134.length co21 : Value).ownBlock) (.slice Ao21 t134.length co21) t134 1 t149 t150 w _ ?side1 ?side2 A36.out).mono ?_); (case side1 => repeat (first | (with_reducible first | exact HB.out | apply below_alloc | apply pw_below_drewN | apply below_drew1 | refine below_set ?_ GE123.out) | exact HB.out)); (case side2 => exact Kd.R_tight rfl HO_8.out); rintro e w40 ⟨rfl, hy0, hb, hkp⟩; refine ⟨_, rfl, ?_⟩; have n0_ := Aside0.mk (Kd.R_mono (ok' := fun k_ => some k_ ≠ (.slice Ao21 t134.length co21 : Value).ownBlock ∧ some k_ ≠ (v140 : Value).ownBlock ∧ some k_ ≠ (.slice Ao39 t145.length co39 : Value).ownBlock) (Kd.R_keptB (HO_5.out) hkp (fun k_ hk_ hs_ => (hk_.1.1) hs_)) (fun k_ hk_ => ⟨hk_.1.1.1, hk_.1.1.2, hk_.1.2⟩)); have n1_ := Aside0.mk (Kd.R_reok rfl hy0 (fun k_ e_ => HO_8.out.1 k_ e_)); have n2_ := Aside0.mk (Kd.R_mono (ok' := fun k_ => some k_ ≠ (v130 : Value).ownBlock ∧ some k_ ≠ (.slice Ao21 t134.length co21 : Value).ownBlock ∧ some k_ ≠ (.slice Ao39 t145.length co39 : Value).ownBlock) (Kd.R_keptB (HO_9.out) hkp (fun k_ hk_ hs_ => (hk_.1.2) hs_)) (fun k_ hk_ => ⟨hk_.1.1.1, hk_.1.1.2, hk_.1.2⟩)); have n3_ := Aside0.mk (blk_kept (by (with_reducible repeat (first | refine blk_drewN ?_ _ | refine blk_drew ?_ | refine blk_alloc ?_ _)); exact BK123.out) hkp (fun hs_ => (fun e_ => (Kd.R_ne HO_8.out BK123.out (by decide)) e_) hs_)); have n4_ := Aside0.mk (Kd.R_mono (ok' := fun k_ => some k_ ≠ (v130 : Value).ownBlock ∧ some k_ ≠ (.slice Ao21 t134.length co21 : Value).ownBlock ∧ some k_ ≠ (v140 : Value).ownBlock) (Kd.R_keptB (HO147.out) hkp (fun k_ hk_ hs_ => (hk_.1.2) hs_)) (fun k_ hk_ => ⟨hk_.1.1.1.2, hk_.1.1.2, hk_.1.2⟩)); have n5_ := Aside0.mk (hb); clear HO_5; clear HO_8; clear HO_9; clear BK123; clear HO147; clear HB; have HO_5 := n0_; have HO_8 := n1_; have HO_9 := n2_; have BK123 := n3_; have HO147 := n4_; have HB := n5_; clear n0_ n1_ n2_ n3_ n4_ n5_; (try clear hb); (try clear hkp); (try clear hy0)))
            (try simp only [Act.put, List.setIfInBounds_toArray, List.set_cons_zero, List.set_cons_succ])
            go_cut [79] (fun v79 wc => ∃ (kq : Nat) (x79_36 : Bool), v79 = .bool x79_36 ∧ Aside0 (laws_FnExactStoreRead.j1 kq l0 t129 t132 t133 t139 x79_36 a1_0 a1_1 = some r) ∧ Aside0 (kq ≤ kj10) ∧ Aside0 (Kd.R (Kd.int .i32) 21 wc w.heap.size (fun k_ => some k_ ≠ (v140 : Value).ownBlock) v130 t129) ∧ Aside0 (Kd.R (Kd.int .i32) 21 wc w.heap.size (fun k_ => some k_ ≠ (v130 : Value).ownBlock) v140 t139) ∧ Aside0 (wc.heap[gb123]? = some (.cells #[.int .i64 a1_0, .int .i64 a1_1] 24 (0, 0))) ∧ Aside0 (Below w.heap.size w wc))
            case first =>
              have H := HC37.out
              clear HC37
              by_cases c41 : t149 < 0
              · rw [if_pos c41] at H
                have c41b0 : decide (t149 < 0) = true := decide_eq_true c41
                clear c41
                (first | rw [c41b0] | (simp only [i64_w, i32_w]; rw [c41b0]) | skip)
                have H' := Aside0.mk H
                clear H
                go_wp2
                go_meet
                case rel => exact ⟨_, (true), (by first | rfl | (simp; done) | (simp [*]; done)), H', ⟨by have := HJ10.out; first | omega | exact Nat.le_refl _⟩, ⟨by (with_reducible repeat (first | apply Kd.R_alloc | apply Kd.R_drewN | apply Kd.R_drew)); exact Kd.R_mono HO_5.out (fun _ hk => hk.2.1)⟩, ⟨by (with_reducible repeat (first | apply Kd.R_alloc | apply Kd.R_drewN | apply Kd.R_drew)); exact Kd.R_mono HO_9.out (fun _ hk => hk.1)⟩, ⟨by (with_reducible repeat (first | refine blk_drewN ?_ _ | refine blk_drew ?_ | refine blk_alloc ?_ _)); exact BK123.out⟩, ⟨by repeat (first | (with_reducible first | exact HB.out | apply below_alloc | apply pw_below_drewN | apply below_drew1 | refine below_set ?_ GE123.out) | exact HB.out)⟩⟩
              · rw [if_neg c41] at H
                have c41b0 : decide (t149 < 0) = false := decide_eq_false c41
                clear c41
                (first | rw [c41b0] | (simp only [i64_w, i32_w]; rw [c41b0]) | skip)
                replace H := Option.bind_eq_some_iff.mp H
                obtain ⟨t151, A420, H⟩ := H
                replace H : (if t151 = true then (if t142 = t132 then (laws_FnExactStoreRead.j1 kj10 l0 t129 t132 t133 t139 (t143 != t133) a1_0 a1_1) else (laws_FnExactStoreRead.j1 kj10 l0 t129 t132 t133 t139 true a1_0 a1_1)) else (laws_FnExactStoreRead.j1 kj10 l0 t129 t132 t133 t139 true a1_0 a1_1)) = some r := H
                have A42 := Aside0.mk A420
                clear A420
                by_cases c43 : t151 = true
                · subst c43
                  have H1 : (if t142 = t132 then (laws_FnExactStoreRead.j1 kj10 l0 t129 t132 t133 t139 (t143 != t133) a1_0 a1_1) else (laws_FnExactStoreRead.j1 kj10 l0 t129 t132 t133 t139 true a1_0 a1_1)) = some r := by rw [if_pos rfl] at H; exact H
                  clear H
                  have H := H1
                  clear H1
                  by_cases c44 : t142 = t132
                  · rw [if_pos c44] at H
                    have c44b0 : (t142 == t132) = true := beq_iff_eq.mpr c44
                    have c44b1 : (t142 != t132) = false := bne_eq_false_iff_eq.mpr c44
                    clear c44
                    have H' := Aside0.mk H
                    clear H
                    obtain ⟨Ao45, co45, eo45⟩ := Kd.R_slice HO_9.out
                    subst eo45
                    obtain ⟨Ao46, co46, eo46⟩ := Kd.R_slice HO_5.out
                    subst eo46
                    go_wp2_with (first | (go_at_call 10; (with_reducible refine (laws_eqInt32S.calls kj10 _ _ t139 _ _ t129 true _ ?side1 ?side2 ?side3 ?side4 A42.out).mono ?_); (case side1 => repeat (first | exact (Kd.R_reads' HO_9.out).2.2 | (with_reducible refine Kd.C_alloc ?_ _) | (with_reducible refine Kd.C_drewN ?_ _) | (with_reducible refine Kd.C_drew ?_))); (case side2 => exact (Kd.R_reads' HO_9.out).2.1); (case side3 => repeat (first | exact (Kd.R_reads' HO_5.out).2.2 | (with_reducible refine Kd.C_alloc ?_ _) | (with_reducible refine Kd.C_drewN ?_ _) | (with_reducible refine Kd.C_drew ?_))); (case side4 => exact (Kd.R_reads' HO_5.out).2.1); rintro e w' ⟨rfl, ⟨nd, rfl⟩⟩))
                    go_meet
                    case rel => exact ⟨_, ((t143 != t133)), (by first | rfl | (simp; done) | (simp [*]; done)), H', ⟨by have := HJ10.out; first | omega | exact Nat.le_refl _⟩, ⟨by (with_reducible repeat (first | apply Kd.R_alloc | apply Kd.R_drewN | apply Kd.R_drew)); exact Kd.R_mono HO_5.out (fun _ hk => hk.2.1)⟩, ⟨by (with_reducible repeat (first | apply Kd.R_alloc | apply Kd.R_drewN | apply Kd.R_drew)); exact Kd.R_mono HO_9.out (fun _ hk => hk.1)⟩, ⟨by (with_reducible repeat (first | refine blk_drewN ?_ _ | refine blk_drew ?_ | refine blk_alloc ?_ _)); exact BK123.out⟩, ⟨by repeat (first | (with_reducible first | exact HB.out | apply below_alloc | apply pw_below_drewN | apply below_drew1 | refine below_set ?_ GE123.out) | exact HB.out)⟩⟩
                  · rw [if_neg c44] at H
                    have c44b0 : (t142 == t132) = false := beq_eq_false_iff_ne.mpr c44
                    have c44b1 : (t142 != t132) = true := bne_iff_ne.mpr c44
                    have H' := Aside0.mk H
                    clear H
                    obtain ⟨Ao47, co47, eo47⟩ := Kd.R_slice HO_9.out
                    subst eo47
                    obtain ⟨Ao48, co48, eo48⟩ := Kd.R_slice HO_5.out
                    subst eo48
                    go_wp2_with (first | (go_at_call 10; (with_reducible refine (laws_eqInt32S.calls kj10 _ _ t139 _ _ t129 true _ ?side1 ?side2 ?side3 ?side4 A42.out).mono ?_); (case side1 => repeat (first | exact (Kd.R_reads' HO_9.out).2.2 | (with_reducible refine Kd.C_alloc ?_ _) | (with_reducible refine Kd.C_drewN ?_ _) | (with_reducible refine Kd.C_drew ?_))); (case side2 => exact (Kd.R_reads' HO_9.out).2.1); (case side3 => repeat (first | exact (Kd.R_reads' HO_5.out).2.2 | (with_reducible refine Kd.C_alloc ?_ _) | (with_reducible refine Kd.C_drewN ?_ _) | (with_reducible refine Kd.C_drew ?_))); (case side4 => exact (Kd.R_reads' HO_5.out).2.1); rintro e w' ⟨rfl, ⟨nd, rfl⟩⟩))
                    go_meet
                    case rel => exact ⟨_, (true), (by first | rfl | (simp; done) | (simp [*]; done)), H', ⟨by have := HJ10.out; first | omega | exact Nat.le_refl _⟩, ⟨by (with_reducible repeat (first | apply Kd.R_alloc | apply Kd.R_drewN | apply Kd.R_drew)); exact Kd.R_mono HO_5.out (fun _ hk => hk.2.1)⟩, ⟨by (with_reducible repeat (first | apply Kd.R_alloc | apply Kd.R_drewN | apply Kd.R_drew)); exact Kd.R_mono HO_9.out (fun _ hk => hk.1)⟩, ⟨by (with_reducible repeat (first | refine blk_drewN ?_ _ | refine blk_drew ?_ | refine blk_alloc ?_ _)); exact BK123.out⟩, ⟨by repeat (first | (with_reducible first | exact HB.out | apply below_alloc | apply pw_below_drewN | apply below_drew1 | refine below_set ?_ GE123.out) | exact HB.out)⟩⟩
                · replace c43 := Bool.eq_false_iff.mpr c43
                  subst c43
                  have H1 : (laws_FnExactStoreRead.j1 kj10 l0 t129 t132 t133 t139 true a1_0 a1_1) = some r := by rw [if_neg (show ¬ (false = true) by decide)] at H; exact H
                  clear H
                  have H := H1
                  clear H1
                  have H' := Aside0.mk H
                  clear H
                  obtain ⟨Ao49, co49, eo49⟩ := Kd.R_slice HO_9.out
                  subst eo49
                  obtain ⟨Ao50, co50, eo50⟩ := Kd.R_slice HO_5.out
                  subst eo50
                  go_wp2_with (first | (go_at_call 10; (with_reducible refine (laws_eqInt32S.calls kj10 _ _ t139 _ _ t129 false _ ?side1 ?side2 ?side3 ?side4 A42.out).mono ?_); (case side1 => repeat (first | exact (Kd.R_reads' HO_9.out).2.2 | (with_reducible refine Kd.C_alloc ?_ _) | (with_reducible refine Kd.C_drewN ?_ _) | (with_reducible refine Kd.C_drew ?_))); (case side2 => exact (Kd.R_reads' HO_9.out).2.1); (case side3 => repeat (first | exact (Kd.R_reads' HO_5.out).2.2 | (with_reducible refine Kd.C_alloc ?_ _) | (with_reducible refine Kd.C_drewN ?_ _) | (with_reducible refine Kd.C_drew ?_))); (case side4 => exact (Kd.R_reads' HO_5.out).2.1); rintro e w' ⟨rfl, ⟨nd, rfl⟩⟩))
                  go_meet
                  case rel => exact ⟨_, (true), (by first | rfl | (simp; done) | (simp [*]; done)), H', ⟨by have := HJ10.out; first | omega | exact Nat.le_refl _⟩, ⟨by (with_reducible repeat (first | apply Kd.R_alloc | apply Kd.R_drewN | apply Kd.R_drew)); exact Kd.R_mono HO_5.out (fun _ hk => hk.2.1)⟩, ⟨by (with_reducible repeat (first | apply Kd.R_alloc | apply Kd.R_drewN | apply Kd.R_drew)); exact Kd.R_mono HO_9.out (fun _ hk => hk.1)⟩, ⟨by (with_reducible repeat (first | refine blk_drewN ?_ _ | refine blk_drew ?_ | refine blk_alloc ?_ _)); exact BK123.out⟩, ⟨by repeat (first | (with_reducible first | exact HB.out | apply below_alloc | apply pw_below_drewN | apply below_drew1 | refine below_set ?_ GE123.out) | exact HB.out)⟩⟩
            case rest =>
              clear HC37
              try clear c1
              try clear c2
              try clear p2
              try clear c3
              try clear c3b0
              try clear c3b1
              try clear c4
              try clear c6
              try clear c7
              try clear c8
              try clear c9
              try clear c10
              try clear c11
              try clear c24
              try clear c25
              try clear c25b0
              try clear c25b1
              try clear c32
              try clear c35
              try clear c41
              try clear c41b0
              try clear c43
              try clear c44
              try clear c44b0
              try clear c44b1
              try clear hcz19_0
              try clear hcz19_1
              try clear hfz19_0
              try clear hfz19_1
              try clear p2
              obtain ⟨kq, x79_36, rfl, HA, HJ36, HO_5, HO_9, BK123, HB⟩ := hcut
              cases kq with
              | zero => exact absurd HA.out (by simp [laws_FnExactStoreRead.j1])
              | succ kj36 =>
                have H := HA.out
                clear HA
                simp only [laws_FnExactStoreRead.j1] at H
                by_cases c51 : x79_36 = true
                · subst c51
                  have H1 : (some false) = some r := by rw [if_pos rfl] at H; exact H
                  clear H
                  have H := H1
                  clear H1
                  obtain rfl := Option.some.inj H
                  go_wp2
                  go_ret
                  exact ⟨by first | rfl | (simp [errW_none, errW_some] <;> rfl) | (simp [*, errW_none, errW_some] <;> rfl), by repeat (first | (with_reducible first | exact HB.out | apply below_alloc | apply pw_below_drewN | apply below_drew1 | refine below_set ?_ GE123.out) | exact HB.out)⟩
                · replace c51 := Bool.eq_false_iff.mpr c51
                  subst c51
                  have H1 : ((laws_markInt32S.f kj36 t139 1).bind fun bt152 => ((laws_heldInt32S.f kj36 bt152.2 1).bind fun t154 => (if t154 < 0 then (some false) else (if t154 = bt152.1 then ((laws_toInt32S.f kj36 l0).bind fun t155 => ((laws_toSpan.f a1_0 a1_1).bind fun bt158 => ((impl_StoreRead.f t155 bt158.1 bt158.2).bind fun bt160 => ((laws_eqInt32S.f kj36 bt160.1 t129).bind fun t165 => (if t165 = true then (if bt160.2.1 = t132 then (laws_FnExactStoreRead.j2 kj36 bt152.2 bt152.1 (bt160.2.2 != t133)) else (laws_FnExactStoreRead.j2 kj36 bt152.2 bt152.1 true)) else (laws_FnExactStoreRead.j2 kj36 bt152.2 bt152.1 true)))))) else (some false))))) = some r := by rw [if_neg (show ¬ (false = true) by decide)] at H; exact H
                  clear H
                  have H := H1
                  clear H1
                  replace H := Option.bind_eq_some_iff.mp H
                  obtain ⟨⟨t152, t153⟩, A520, H⟩ := H
                  replace H : ((laws_heldInt32S.f kj36 t153 1).bind fun t154 => (if t154 < 0 then (some false) else (if t154 = t152 then ((laws_toInt32S.f kj36 l0).bind fun t155 => ((laws_toSpan.f a1_0 a1_1).bind fun bt158 => ((impl_StoreRead.f t155 bt158.1 bt158.2).bind fun bt160 => ((laws_eqInt32S.f kj36 bt160.1 t129).bind fun t165 => (if t165 = true then (if bt160.2.1 = t132 then (laws_FnExactStoreRead.j2 kj36 t153 t152 (bt160.2.2 != t133)) else (laws_FnExactStoreRead.j2 kj36 t153 t152 true)) else (laws_FnExactStoreRead.j2 kj36 t153 t152 true)))))) else (some false)))) = some r := H
                  have A52 := Aside0.mk A520
                  clear A520
                  replace H := Option.bind_eq_some_iff.mp H
                  obtain ⟨t154, A530, H⟩ := H
                  replace H : (if t154 < 0 then (some false) else (if t154 = t152 then ((laws_toInt32S.f kj36 l0).bind fun t155 => ((laws_toSpan.f a1_0 a1_1).bind fun bt158 => ((impl_StoreRead.f t155 bt158.1 bt158.2).bind fun bt160 => ((laws_eqInt32S.f kj36 bt160.1 t129).bind fun t165 => (if t165 = true then (if bt160.2.1 = t132 then (laws_FnExactStoreRead.j2 kj36 t153 t152 (bt160.2.2 != t133)) else (laws_FnExactStoreRead.j2 kj36 t153 t152 true)) else (laws_FnExactStoreRead.j2 kj36 t153 t152 true)))))) else (some false))) = some r := H
                  have A53 := Aside0.mk A530
                  clear A530
                  by_cases c54 : t154 < 0
                  · rw [if_pos c54] at H
                    have c54b0 : decide (t154 < 0) = true := decide_eq_true c54
                    clear c54
                    obtain rfl := Option.some.inj H
                    obtain ⟨Ao55, co55, eo55⟩ := Kd.R_slice HO_9.out
                    subst eo55
                    go_wp2_with (first | ((with_reducible refine gate_callee (f := 11) rfl ?_); refine goesL_ (some 82) rfl rfl Tryd.func11 (by kernel_rfl) rfl #[.slice Ao55 t139.length co55, .int .i64 1] rfl (by (try simp only [List.map_toArray, List.map_cons, List.map_nil]); first | done | rfl | (simp only [List.length_drop, List.length_take]; rfl)) ?_; (with_reducible refine (laws_markInt32S.calls kj36 (fun k_ => some k_ = (.slice Ao55 t139.length co55 : Value).ownBlock) (.slice Ao55 t139.length co55) t139 1 t152 t153 w _ ?side1 ?side2 A52.out).mono ?_); (case side1 => repeat (first | (with_reducible first | exact HB.out | apply below_alloc | apply pw_below_drewN | apply below_drew1 | refine below_set ?_ GE123.out) | exact HB.out)); (case side2 => exact Kd.R_tight rfl HO_9.out); rintro e w56 ⟨rfl, hy0, hb, hkp⟩; refine ⟨_, rfl, ?_⟩; have n0_ := Aside0.mk (Kd.R_mono (ok' := fun k_ => some k_ ≠ (.slice Ao55 t139.length co55 : Value).ownBlock) (Kd.R_keptB (HO_5.out) hkp (fun k_ hk_ hs_ => (hk_) hs_)) (fun k_ hk_ => hk_.1)); have n1_ := Aside0.mk (Kd.R_reok rfl hy0 (fun k_ e_ => HO_9.out.1 k_ e_)); have n2_ := Aside0.mk (blk_kept (by (with_reducible repeat (first | refine blk_drewN ?_ _ | refine blk_drew ?_ | refine blk_alloc ?_ _)); exact BK123.out) hkp (fun hs_ => (fun e_ => (Kd.R_ne HO_9.out BK123.out (by decide)) e_) hs_)); have n3_ := Aside0.mk (hb); clear HO_5; clear HO_9; clear BK123; clear HB; have HO_5 := n0_; have HO_9 := n1_; have BK123 := n2_; have HB := n3_; clear n0_ n1_ n2_ n3_; (try clear hb); (try clear hkp); (try clear hy0)) | ((with_reducible refine gate_callee (f := 12) rfl ?_); refine goesL_ (some 85) rfl rfl Tryd.func12 (by kernel_rfl) rfl #[.slice Ao55 t153.length co55, .int .i64 1] rfl (by (try simp only [List.map_toArray, List.map_cons, List.map_nil]); first | done | (rw [show t153.length = t139.length from (Kd.R_reads' HO_9.out).1.symm] <;> rfl) | rfl | (simp only [List.length_drop, List.length_take]; rfl)) ?_; (with_reducible refine (laws_heldInt32S.calls kj36 _ _ t153 1 t154 _ ?side1 ?side2 A53.out).mono ?_); (case side1 => repeat (first | exact (Kd.R_reads' HO_9.out).2.2 | (with_reducible refine Kd.C_alloc ?_ _) | (with_reducible refine Kd.C_drewN ?_ _) | (with_reducible refine Kd.C_drew ?_))); (case side2 => rw [show t153.length = t139.length from (Kd.R_reads' HO_9.out).1.symm]; exact (Kd.R_reads' HO_9.out).2.1); rintro e w' ⟨rfl, ⟨nd, rfl⟩⟩; refine ⟨_, rfl, ?_⟩))
                    go_ret
                    exact ⟨by first | rfl | (simp [errW_none, errW_some] <;> rfl) | (simp [*, errW_none, errW_some] <;> rfl), by repeat (first | (with_reducible first | exact HB.out | apply below_alloc | apply pw_below_drewN | apply below_drew1 | refine below_set ?_ GE123.out) | exact HB.out)⟩
                  · rw [if_neg c54] at H
                    have c54b0 : decide (t154 < 0) = false := decide_eq_false c54
                    clear c54
                    by_cases c57 : t154 = t152
                    · rw [if_pos c57] at H
                      have c57b0 : (t154 == t152) = true := beq_iff_eq.mpr c57
                      have c57b1 : (t154 != t152) = false := bne_eq_false_iff_eq.mpr c57
                      clear c57
                      replace H := Option.bind_eq_some_iff.mp H
                      obtain ⟨t155, A580, H⟩ := H
                      replace H : ((laws_toSpan.f a1_0 a1_1).bind fun bt158 => ((impl_StoreRead.f t155 bt158.1 bt158.2).bind fun bt160 => ((laws_eqInt32S.f kj36 bt160.1 t129).bind fun t165 => (if t165 = true then (if bt160.2.1 = t132 then (laws_FnExactStoreRead.j2 kj36 t153 t152 (bt160.2.2 != t133)) else (laws_FnExactStoreRead.j2 kj36 t153 t152 true)) else (laws_FnExactStoreRead.j2 kj36 t153 t152 true))))) = some r := H
                      have A58 := Aside0.mk A580
                      clear A580
                      replace H := Option.bind_eq_some_iff.mp H
                      obtain ⟨⟨t158, t159⟩, A590, H⟩ := H
                      replace H : ((impl_StoreRead.f t155 t158 t159).bind fun bt160 => ((laws_eqInt32S.f kj36 bt160.1 t129).bind fun t165 => (if t165 = true then (if bt160.2.1 = t132 then (laws_FnExactStoreRead.j2 kj36 t153 t152 (bt160.2.2 != t133)) else (laws_FnExactStoreRead.j2 kj36 t153 t152 true)) else (laws_FnExactStoreRead.j2 kj36 t153 t152 true)))) = some r := H
                      have A59 := Aside0.mk A590
                      clear A590
                      replace H := Option.bind_eq_some_iff.mp H
                      obtain ⟨⟨t160, t163, t164⟩, A600, H⟩ := H
                      replace H : ((laws_eqInt32S.f kj36 t160 t129).bind fun t165 => (if t165 = true then (if t163 = t132 then (laws_FnExactStoreRead.j2 kj36 t153 t152 (t164 != t133)) else (laws_FnExactStoreRead.j2 kj36 t153 t152 true)) else (laws_FnExactStoreRead.j2 kj36 t153 t152 true))) = some r := H
                      have A60 := Aside0.mk A600
                      clear A600
                      have HC61 := Aside0.mk H
                      clear H
                      obtain ⟨Ao62, co62, eo62⟩ := Kd.R_slice HO_9.out
                      subst eo62
                      try go_wp2_with (first | ((with_reducible refine gate_callee (f := 11) rfl ?_); refine goesL_ (some 82) rfl rfl Tryd.func11 (by kernel_rfl) rfl #[.slice Ao62 t139.length co62, .int .i64 1] rfl (by (try simp only [List.map_toArray, List.map_cons, List.map_nil]); first | done | rfl | (simp only [List.length_drop, List.length_take]; rfl)) ?_; (with_reducible refine (laws_markInt32S.calls kj36 (fun k_ => some k_ = (.slice Ao62 t139.length co62 : Value).ownBlock) (.slice Ao62 t139.length co62) t139 1 t152 t153 w _ ?side1 ?side2 A52.out).mono ?_); (case side1 => repeat (first | (with_reducible first | exact HB.out | apply below_alloc | apply pw_below_drewN | apply below_drew1 | refine below_set ?_ GE123.out) | exact HB.out)); (case side2 => exact Kd.R_tight rfl HO_9.out); rintro e w63 ⟨rfl, hy0, hb, hkp⟩; refine ⟨_, rfl, ?_⟩; have n0_ := Aside0.mk (Kd.R_mono (ok' := fun k_ => some k_ ≠ (.slice Ao62 t139.length co62 : Value).ownBlock) (Kd.R_keptB (HO_5.out) hkp (fun k_ hk_ hs_ => (hk_) hs_)) (fun k_ hk_ => hk_.1)); have n1_ := Aside0.mk (Kd.R_reok rfl hy0 (fun k_ e_ => HO_9.out.1 k_ e_)); have n2_ := Aside0.mk (blk_kept (by (with_reducible repeat (first | refine blk_drewN ?_ _ | refine blk_drew ?_ | refine blk_alloc ?_ _)); exact BK123.out) hkp (fun hs_ => (fun e_ => (Kd.R_ne HO_9.out BK123.out (by decide)) e_) hs_)); have n3_ := Aside0.mk (hb); clear HO_5; clear HO_9; clear BK123; clear HB; have HO_5 := n0_; have HO_9 := n1_; have BK123 := n2_; have HB := n3_; clear n0_ n1_ n2_ n3_; (try clear hb); (try clear hkp); (try clear hy0)) | ((with_reducible refine gate_callee (f := 12) rfl ?_); refine goesL_ (some 85) rfl rfl Tryd.func12 (by kernel_rfl) rfl #[.slice Ao62 t153.length co62, .int .i64 1] rfl (by (try simp only [List.map_toArray, List.map_cons, List.map_nil]); first | done | (rw [show t153.length = t139.length from (Kd.R_reads' HO_9.out).1.symm] <;> rfl) | rfl | (simp only [List.length_drop, List.length_take]; rfl)) ?_; (with_reducible refine (laws_heldInt32S.calls kj36 _ _ t153 1 t154 _ ?side1 ?side2 A53.out).mono ?_); (case side1 => repeat (first | exact (Kd.R_reads' HO_9.out).2.2 | (with_reducible refine Kd.C_alloc ?_ _) | (with_reducible refine Kd.C_drewN ?_ _) | (with_reducible refine Kd.C_drew ?_))); (case side2 => rw [show t153.length = t139.length from (Kd.R_reads' HO_9.out).1.symm]; exact (Kd.R_reads' HO_9.out).2.1); rintro e w' ⟨rfl, ⟨nd, rfl⟩⟩; refine ⟨_, rfl, ?_⟩))
                      (try (rw [drewN_self w63]; generalize hq_ : World.drewN w63 _ = w63; have n0_ : Aside0 (Kd.R (Kd.int .i32) 21 w63 w.heap.size (fun k_ => some k_ ≠ (.slice Ao62 t139.length co62 : Value).ownBlock) v130 t129) := ⟨by rw [← hq_]; exact (by (with_reducible repeat (first | apply Kd.R_alloc | apply Kd.R_drewN | apply Kd.R_drew)); exact HO_5.out)⟩; have n1_ : Aside0 (Kd.R (Kd.int .i32) 21 w63 w.heap.size (fun k_ => some k_ ≠ (v130 : Value).ownBlock) (.slice Ao62 t139.length co62) t153) := ⟨by rw [← hq_]; exact (by (with_reducible repeat (first | apply Kd.R_alloc | apply Kd.R_drewN | apply Kd.R_drew)); exact HO_9.out)⟩; have n2_ : Aside0 (w63.heap[gb123]? = some (.cells #[.int .i64 a1_0, .int .i64 a1_1] 24 (0, 0))) := ⟨by rw [← hq_]; exact (by (with_reducible repeat (first | refine blk_drewN ?_ _ | refine blk_drew ?_ | refine blk_alloc ?_ _)); exact BK123.out)⟩; have n3_ : Aside0 (Below w.heap.size w w63) := ⟨by rw [← hq_]; exact (by repeat (first | (with_reducible first | exact HB.out | apply below_alloc | apply pw_below_drewN | apply below_drew1 | refine below_set ?_ GE123.out) | exact HB.out))⟩; clear HO_5 HO_9 BK123 HB hq_; have HO_5 := n0_; have HO_9 := n1_; have BK123 := n2_; have HB := n3_; clear n0_ n1_ n2_ n3_))
                      have n0_ := Aside0.mk (Kd.R_drew HO_5.out)
                      have n1_ := Aside0.mk (Kd.R_drew HO_9.out)
                      have n2_ := Aside0.mk (blk_drew BK123.out)
                      have n3_ := Aside0.mk (below_drew1 HB.out)
                      clear HO_5
                      clear HO_9
                      clear BK123
                      clear HB
                      have HO_5 := n0_
                      have HO_9 := n1_
                      have BK123 := n2_
                      have HB := n3_
                      clear n0_ n1_ n2_ n3_
                      refine start_ (n := 12) (S := fun w' => w'.cell? ⟨gb123, 0, none⟩ = some (.int .i64 a1_0) ∧ w'.cell? ⟨gb123, 1, none⟩ = some (.int .i64 a1_1)) (ds := []) #[false, false, false, false, false, false, false, false, false, false, false, false] (by kernel_rfl) rfl rfl ⟨(blk_cell BK123.out 0).trans rfl, (blk_cell BK123.out 1).trans rfl⟩ (fun hHeld => ?_); refine with_tabW laws_FnExactStoreRead.tab22 laws_FnExactStoreRead.bits22 (fun HT_ HW_ => ?_)
                      generalize w63.drew = w64 at HO_5 HO_9 BK123 HB hHeld ⊢
                      refine pure_ (i := 0) (N := some 92) (v := ?_) (a' := ?_) #[true, false, false, false, false, false, false, false, false, false, false, false] rfl rfl (any_of HT_.out (by kernel_rfl)) (fun _ _ _ h => h) (Or.inl ⟨by rfl, ?_⟩) ?_ ?_
                      rotate_left
                      · intro w'
                        go_simp
                        with_reducible rfl
                      rotate_left
                      · simp only [Act.put, List.setIfInBounds_toArray, List.set_cons_zero, List.set_cons_succ, i64_w, i32_w]
                        rfl
                      refine take_ (i := 2) (N := some 94) (v := ?_) (a' := ?_) #[true, false, true, false, false, false, false, false, false, false, false, false] rfl rfl (take_ofW HT_.out HW_.out (by kernel_rfl)) (fun _ _ _ h => h) (Or.inl ⟨by rfl, ?_⟩) hHeld ?_ ?_
                      rotate_left
                      · rintro w' ⟨s0, s1⟩
                        go_simp
                        with_reducible rfl
                      rotate_left
                      · simp only [Act.put, List.setIfInBounds_toArray, List.set_cons_zero, List.set_cons_succ, i64_w, i32_w]
                        rfl
                      refine one_ (i := 1) (N := some 93) #[true, true, true, false, false, false, false, false, false, false, false, false] rfl rfl (one_of HT_.out (by kernel_rfl)) (by decide) (fun K hK => ?_)
                      refine goes_ Tryd.func7 (by kernel_rfl) rfl #[.slice A0 l0.length c0] (by rfl) rfl rfl (by (try simp only [List.map_toArray, List.map_cons, List.map_nil]); first | done | rfl | (simp only [List.length_drop, List.length_take]; rfl)) ?_
                      with_reducible refine (laws_toInt32S.calls kj36 _ _ l0 t155 _ ?side1 ?side2 A58.out).mono ?_
                      (case side1 => repeat (first | exact (Kd.C_below HR0.out HB.out) | (with_reducible refine Kd.C_alloc ?_ _) | (with_reducible refine Kd.C_drewN ?_ _) | (with_reducible refine Kd.C_drew ?_)))
                      (case side2 => exact HC0.out)
                      rintro e w65 ⟨v156, rfl, ho0, hb⟩
                      refine ⟨_, rfl, ?_⟩
                      have n0_ := Aside0.mk (Kd.R_elder' (by (with_reducible repeat (first | apply Kd.R_alloc | apply Kd.R_drewN | apply Kd.R_drew)); exact HO_5.out) (Kd.R_base ho0) hb)
                      have n1_ := Aside0.mk (Kd.R_elder' (by (with_reducible repeat (first | apply Kd.R_alloc | apply Kd.R_drewN | apply Kd.R_drew)); exact HO_9.out) (Kd.R_base ho0) hb)
                      have n2_ := Aside0.mk (Kd.R_lower (Kd.R_new' (Kd.R_new' ho0 (Kd.R_lt (by (with_reducible repeat (first | apply Kd.R_alloc | apply Kd.R_drewN | apply Kd.R_drew)); exact HO_5.out))) (Kd.R_lt (by (with_reducible repeat (first | apply Kd.R_alloc | apply Kd.R_drewN | apply Kd.R_drew)); exact HO_9.out))) (below_size (by repeat (first | (with_reducible first | exact HB.out | apply below_alloc | apply pw_below_drewN | apply below_drew1 | refine below_set ?_ GE123.out) | exact HB.out))))
                      have n3_ := Aside0.mk (blk_below (g := gb123) (o := .cells #[.int .i64 a1_0, .int .i64 a1_1] 24 (0, 0)) (by (with_reducible repeat (first | refine blk_drewN ?_ _ | refine blk_drew ?_ | refine blk_alloc ?_ _)); exact BK123.out) hb)
                      have n4_ := Aside0.mk (below_step (by repeat (first | (with_reducible first | exact HB.out | apply below_alloc | apply pw_below_drewN | apply below_drew1 | refine below_set ?_ GE123.out) | exact HB.out)) hb)
                      clear HO_5
                      clear HO_9
                      clear BK123
                      clear HB
                      have HO_5 := n0_
                      have HO_9 := n1_
                      have HO157 := n2_
                      have BK123 := n3_
                      have HB := n4_
                      clear n0_ n1_ n2_ n3_ n4_
                      (try clear hb)
                      (try clear hb2)
                      (try clear hk)
                      (try clear hi)
                      (try clear ho0)
                      refine hK.out _ _ ⟨(blk_cell BK123.out 0).trans rfl, (blk_cell BK123.out 1).trans rfl⟩ (fun hHeld => ?_)
                      clear hK K
                      refine norm_ (a' := ?_) ?_ ?_
                      rotate_left
                      · show Act.put _ (some 93) _ = _
                        simp only [Act.put, List.setIfInBounds_toArray, List.set_cons_zero, List.set_cons_succ, i64_w, i32_w]
                        rfl
                      refine one_ (i := 3) (N := some 95) #[true, true, true, true, false, false, false, false, false, false, false, false] rfl rfl (one_of HT_.out (by kernel_rfl)) (by decide) (fun K hK => ?_)
                      refine goes_ Tryd.func8 (by kernel_rfl) rfl #[.agg #[.int .i64 a1_0, .int .i64 a1_1]] (by rfl) rfl rfl (by (try simp only [List.map_toArray, List.map_cons, List.map_nil]); first | done | rfl | (simp only [List.length_drop, List.length_take]; rfl)) ?_
                      with_reducible refine (laws_toSpan.calls a1_0 a1_1 t158 t159 _ A59.out).mono ?_
                      rintro e w66 ⟨rfl, hb⟩
                      refine ⟨_, rfl, ?_⟩
                      have n0_ := Aside0.mk (Kd.R_below (by (with_reducible repeat (first | apply Kd.R_alloc | apply Kd.R_drewN | apply Kd.R_drew)); exact HO_5.out) hb)
                      have n1_ := Aside0.mk (Kd.R_below (by (with_reducible repeat (first | apply Kd.R_alloc | apply Kd.R_drewN | apply Kd.R_drew)); exact HO_9.out) hb)
                      have n2_ := Aside0.mk (Kd.R_below (by (with_reducible repeat (first | apply Kd.R_alloc | apply Kd.R_drewN | apply Kd.R_drew)); exact HO157.out) hb)
                      have n3_ := Aside0.mk (blk_below (g := gb123) (o := .cells #[.int .i64 a1_0, .int .i64 a1_1] 24 (0, 0)) (by (with_reducible repeat (first | refine blk_drewN ?_ _ | refine blk_drew ?_ | refine blk_alloc ?_ _)); exact BK123.out) hb)
                      have n4_ := Aside0.mk (below_step (by repeat (first | (with_reducible first | exact HB.out | apply below_alloc | apply pw_below_drewN | apply below_drew1 | refine below_set ?_ GE123.out) | exact HB.out)) hb)
                      clear HO_5
                      clear HO_9
                      clear HO157
                      clear BK123
                      clear HB
                      have HO_5 := n0_
                      have HO_9 := n1_
                      have HO157 := n2_
                      have BK123 := n3_
                      have HB := n4_
                      clear n0_ n1_ n2_ n3_ n4_
                      (try clear hb)
                      (try clear hb2)
                      (try clear hk)
                      (try clear hi)
                      obtain ⟨Ao67, co67, eo67⟩ := Kd.R_slice HO157.out
                      (first | subst eo67 | (injection eo67 with f1_ f2_ f3_; have f4_ := f1_.symm; have f5_ := f3_.symm; clear f1_ f2_ f3_; subst f4_; subst f5_))
                      refine hK.out _ _ ⟨(blk_cell BK123.out 0).trans rfl, (blk_cell BK123.out 1).trans rfl⟩ (fun hHeld => ?_)
                      clear hK K
                      refine norm_ (a' := ?_) ?_ ?_
                      rotate_left
                      · show Act.put _ (some 95) _ = _
                        simp only [Act.put, List.setIfInBounds_toArray, List.set_cons_zero, List.set_cons_succ, i64_w, i32_w]
                        rfl
                      refine one_ (i := 4) (N := some 96) #[true, true, true, true, true, false, false, false, false, false, false, false] rfl rfl (one_of HT_.out (by kernel_rfl)) (by decide) (fun K hK => ?_)
                      refine goes_ Tryd.func9 (by kernel_rfl) rfl #[.slice Ao67 t155.length co67, .agg #[.int .i64 t158, .int .i64 t159]] (by rfl) rfl rfl (by (try simp only [List.map_toArray, List.map_cons, List.map_nil]); first | done | rfl | (simp only [List.length_drop, List.length_take]; rfl)) ?_
                      with_reducible refine (impl_StoreRead.calls _ _ t155 t158 t159 t160 t163 t164 _ ?side1 ?side2 ?side3 A60.out).mono ?_
                      (case side1 => repeat (first | exact (Kd.R_reads' HO157.out).2.2 | (with_reducible refine Kd.C_alloc ?_ _) | (with_reducible refine Kd.C_drewN ?_ _) | (with_reducible refine Kd.C_drew ?_)))
                      (case side2 => exact (Kd.R_reads' HO157.out).2.1)
                      (case side3 => exact HG.below hgG_ (by repeat (first | (with_reducible first | exact HB.out | apply below_alloc | apply pw_below_drewN | apply below_drew1 | refine below_set ?_ GE123.out) | exact HB.out)))
                      rintro e w68 ⟨v161, rfl, ho0, hb⟩
                      refine ⟨_, rfl, ?_⟩
                      have n0_ := Aside0.mk (Kd.R_elder' (by (with_reducible repeat (first | apply Kd.R_alloc | apply Kd.R_drewN | apply Kd.R_drew)); exact HO_5.out) (Kd.R_base ho0) hb)
                      have n1_ := Aside0.mk (Kd.R_elder' (by (with_reducible repeat (first | apply Kd.R_alloc | apply Kd.R_drewN | apply Kd.R_drew)); exact HO_9.out) (Kd.R_base ho0) hb)
                      have n2_ := Aside0.mk (Kd.R_elder' (by (with_reducible repeat (first | apply Kd.R_alloc | apply Kd.R_drewN | apply Kd.R_drew)); exact HO157.out) (Kd.R_base ho0) hb)
                      have n3_ := Aside0.mk (Kd.R_lower (Kd.R_new' (Kd.R_new' (Kd.R_new' ho0 (Kd.R_lt (by (with_reducible repeat (first | apply Kd.R_alloc | apply Kd.R_drewN | apply Kd.R_drew)); exact HO_5.out))) (Kd.R_lt (by (with_reducible repeat (first | apply Kd.R_alloc | apply Kd.R_drewN | apply Kd.R_drew)); exact HO_9.out))) (Kd.R_lt (by (with_reducible repeat (first | apply Kd.R_alloc | apply Kd.R_drewN | apply Kd.R_drew)); exact HO157.out))) (below_size (by repeat (first | (with_reducible first | exact HB.out | apply below_alloc | apply pw_below_drewN | apply below_drew1 | refine below_set ?_ GE123.out) | exact HB.out))))
                      have n4_ := Aside0.mk (blk_below (g := gb123) (o := .cells #[.int .i64 a1_0, .int .i64 a1_1] 24 (0, 0)) (by (with_reducible repeat (first | refine blk_drewN ?_ _ | refine blk_drew ?_ | refine blk_alloc ?_ _)); exact BK123.out) hb)
                      have n5_ := Aside0.mk (below_step (by repeat (first | (with_reducible first | exact HB.out | apply below_alloc | apply pw_below_drewN | apply below_drew1 | refine below_set ?_ GE123.out) | exact HB.out)) hb)
                      clear HO_5
                      clear HO_9
                      clear HO157
                      clear BK123
                      clear HB
                      have HO_5 := n0_
                      have HO_9 := n1_
                      have HO157 := n2_
                      have HO162 := n3_
                      have BK123 := n4_
                      have HB := n5_
                      clear n0_ n1_ n2_ n3_ n4_ n5_
                      (try clear hb)
                      (try clear hb2)
                      (try clear hk)
                      (try clear hi)
                      (try clear ho0)
                      refine hK.out _ _ ⟨(blk_cell BK123.out 0).trans rfl, (blk_cell BK123.out 1).trans rfl⟩ (fun hHeld => ?_)
                      clear hK K
                      refine norm_ (a' := ?_) ?_ ?_
                      rotate_left
                      · show Act.put _ (some 96) _ = _
                        simp only [Act.put, List.setIfInBounds_toArray, List.set_cons_zero, List.set_cons_succ, i64_w, i32_w]
                        rfl
                      refine pure_ (i := 5) (N := some 91) (v := ?_) (a' := ?_) #[true, true, true, true, true, true, false, false, false, false, false, false] rfl rfl (any_of HT_.out (by kernel_rfl)) (fun _ _ _ h => h) (Or.inl ⟨by rfl, ?_⟩) ?_ ?_
                      rotate_left
                      · intro w'
                        go_simp
                        with_reducible rfl
                      rotate_left
                      · simp only [Act.put, List.setIfInBounds_toArray, List.set_cons_zero, List.set_cons_succ, i64_w, i32_w]
                        rfl
                      refine pure_ (i := 6) (N := some 97) (v := ?_) (a' := ?_) #[true, true, true, true, true, true, true, false, false, false, false, false] rfl rfl (any_of HT_.out (by kernel_rfl)) (fun _ _ _ h => h) (Or.inl ⟨by rfl, ?_⟩) ?_ ?_
                      rotate_left
                      · intro w'
                        go_simp
                        with_reducible rfl
                      rotate_left
                      · simp only [Act.put, List.setIfInBounds_toArray, List.set_cons_zero, List.set_cons_succ, i64_w, i32_w]
                        rfl
                      refine pure_ (i := 7) (N := some 98) (v := ?_) (a' := ?_) #[true, true, true, true, true, true, true, true, false, false, false, false] rfl rfl (any_of HT_.out (by kernel_rfl)) (fun _ _ _ h => h) (Or.inl ⟨by rfl, ?_⟩) ?_ ?_
                      rotate_left
                      · intro w'
                        go_simp
                        with_reducible rfl
                      rotate_left
                      · simp only [Act.put, List.setIfInBounds_toArray, List.set_cons_zero, List.set_cons_succ, i64_w, i32_w]
                        rfl
                      refine pure_ (i := 8) (N := some 99) (v := ?_) (a' := ?_) #[true, true, true, true, true, true, true, true, true, false, false, false] rfl rfl (any_of HT_.out (by kernel_rfl)) (fun _ _ _ h => h) (Or.inl ⟨by rfl, ?_⟩) ?_ ?_
                      rotate_left
                      · intro w'
                        go_simp
                        with_reducible rfl
                      rotate_left
                      · simp only [Act.put, List.setIfInBounds_toArray, List.set_cons_zero, List.set_cons_succ, i64_w, i32_w]
                        rfl
                      refine pure_ (i := 9) (N := some 15) (v := ?_) (a' := ?_) #[true, true, true, true, true, true, true, true, true, true, false, false] rfl rfl (any_of HT_.out (by kernel_rfl)) (fun _ _ _ h => h) (Or.inl ⟨by rfl, ?_⟩) ?_ ?_
                      rotate_left
                      · intro w'
                        go_simp
                        with_reducible rfl
                      rotate_left
                      · simp only [Act.put, List.setIfInBounds_toArray, List.set_cons_zero, List.set_cons_succ, i64_w, i32_w]
                        rfl
                      refine pure_ (i := 10) (N := some 16) (v := ?_) (a' := ?_) #[true, true, true, true, true, true, true, true, true, true, true, false] rfl rfl (any_of HT_.out (by kernel_rfl)) (fun _ _ _ h => h) (Or.inl ⟨by rfl, ?_⟩) ?_ ?_
                      rotate_left
                      · intro w'
                        go_simp
                        with_reducible rfl
                      rotate_left
                      · simp only [Act.put, List.setIfInBounds_toArray, List.set_cons_zero, List.set_cons_succ, i64_w, i32_w]
                        rfl
                      refine pure_ (i := 11) (N := some 17) (v := ?_) (a' := ?_) #[true, true, true, true, true, true, true, true, true, true, true, true] rfl rfl (any_of HT_.out (by kernel_rfl)) (fun _ _ _ h => h) (Or.inl ⟨by rfl, ?_⟩) ?_ ?_
                      rotate_left
                      · intro w'
                        go_simp
                        with_reducible rfl
                      rotate_left
                      · simp only [Act.put, List.setIfInBounds_toArray, List.set_cons_zero, List.set_cons_succ, i64_w, i32_w]
                        rfl
                      refine done_ (done_of HT_.out (by kernel_rfl)) ?_
                      go_upto_region 23 with (fail)
                      go_cut [113] (fun v113 wc => ∃ (kq : Nat) (x113_60 : Bool), v113 = .bool x113_60 ∧ Aside0 (laws_FnExactStoreRead.j2 kq t153 t152 x113_60 = some r) ∧ Aside0 (kq ≤ kj36) ∧ Aside0 (Kd.R (Kd.int .i32) 21 wc w.heap.size (fun _ => True) (.slice Ao62 t139.length co62) t153) ∧ Aside0 (wc.heap[gb123]? = some (.cells #[.int .i64 a1_0, .int .i64 a1_1] 24 (0, 0))) ∧ Aside0 (Below w.heap.size w wc))
                      case first =>
                        have H := HC61.out
                        clear HC61
                        replace H := Option.bind_eq_some_iff.mp H
                        obtain ⟨t165, A690, H⟩ := H
                        replace H : (if t165 = true then (if t163 = t132 then (laws_FnExactStoreRead.j2 kj36 t153 t152 (t164 != t133)) else (laws_FnExactStoreRead.j2 kj36 t153 t152 true)) else (laws_FnExactStoreRead.j2 kj36 t153 t152 true)) = some r := H
                        have A69 := Aside0.mk A690
                        clear A690
                        by_cases c70 : t165 = true
                        · subst c70
                          have H1 : (if t163 = t132 then (laws_FnExactStoreRead.j2 kj36 t153 t152 (t164 != t133)) else (laws_FnExactStoreRead.j2 kj36 t153 t152 true)) = some r := by rw [if_pos rfl] at H; exact H
                          clear H
                          have H := H1
                          clear H1
                          by_cases c71 : t163 = t132
                          · rw [if_pos c71] at H
                            have c71b0 : (t163 == t132) = true := beq_iff_eq.mpr c71
                            have c71b1 : (t163 != t132) = false := bne_eq_false_iff_eq.mpr c71
                            clear c71
                            (first | rw [c71b0] | (simp only [i64_w, i32_w]; rw [c71b0]) | skip)
                            have H' := Aside0.mk H
                            clear H
                            obtain ⟨Ao72, co72, eo72⟩ := Kd.R_slice HO162.out
                            subst eo72
                            obtain ⟨Ao73, co73, eo73⟩ := Kd.R_slice HO_5.out
                            subst eo73
                            go_wp2_with (first | ((with_reducible refine gate_callee (f := 10) rfl ?_); refine goesL_ (some 102) rfl rfl Tryd.func10 (by kernel_rfl) rfl #[.slice Ao72 t160.length co72, .slice Ao73 t129.length co73] rfl (by (try simp only [List.map_toArray, List.map_cons, List.map_nil]); first | done | rfl | (simp only [List.length_drop, List.length_take]; rfl)) ?_; (with_reducible refine (laws_eqInt32S.calls kj36 _ _ t160 _ _ t129 true _ ?side1 ?side2 ?side3 ?side4 A69.out).mono ?_); (case side1 => repeat (first | exact (Kd.R_reads' HO162.out).2.2 | (with_reducible refine Kd.C_alloc ?_ _) | (with_reducible refine Kd.C_drewN ?_ _) | (with_reducible refine Kd.C_drew ?_))); (case side2 => exact (Kd.R_reads' HO162.out).2.1); (case side3 => repeat (first | exact (Kd.R_reads' HO_5.out).2.2 | (with_reducible refine Kd.C_alloc ?_ _) | (with_reducible refine Kd.C_drewN ?_ _) | (with_reducible refine Kd.C_drew ?_))); (case side4 => exact (Kd.R_reads' HO_5.out).2.1); rintro e w' ⟨rfl, ⟨nd, rfl⟩⟩; refine ⟨_, rfl, ?_⟩))
                            go_meet
                            case rel => exact ⟨_, ((t164 != t133)), (by first | rfl | (simp; done) | (simp [*]; done)), H', ⟨by have := HJ10.out; have := HJ36.out; first | omega | exact Nat.le_refl _⟩, ⟨by (with_reducible repeat (first | apply Kd.R_alloc | apply Kd.R_drewN | apply Kd.R_drew)); exact Kd.R_mono HO_9.out (fun _ hk => trivial)⟩, ⟨by (with_reducible repeat (first | refine blk_drewN ?_ _ | refine blk_drew ?_ | refine blk_alloc ?_ _)); exact BK123.out⟩, ⟨by repeat (first | (with_reducible first | exact HB.out | apply below_alloc | apply pw_below_drewN | apply below_drew1 | refine below_set ?_ GE123.out) | exact HB.out)⟩⟩
                          · rw [if_neg c71] at H
                            have c71b0 : (t163 == t132) = false := beq_eq_false_iff_ne.mpr c71
                            have c71b1 : (t163 != t132) = true := bne_iff_ne.mpr c71
                            (first | rw [c71b0] | (simp only [i64_w, i32_w]; rw [c71b0]) | skip)
                            have H' := Aside0.mk H
                            clear H
                            obtain ⟨Ao74, co74, eo74⟩ := Kd.R_slice HO162.out
                            subst eo74
                            obtain ⟨Ao75, co75, eo75⟩ := Kd.R_slice HO_5.out
                            subst eo75
                            go_wp2_with (first | ((with_reducible refine gate_callee (f := 10) rfl ?_); refine goesL_ (some 102) rfl rfl Tryd.func10 (by kernel_rfl) rfl #[.slice Ao74 t160.length co74, .slice Ao75 t129.length co75] rfl (by (try simp only [List.map_toArray, List.map_cons, List.map_nil]); first | done | rfl | (simp only [List.length_drop, List.length_take]; rfl)) ?_; (with_reducible refine (laws_eqInt32S.calls kj36 _ _ t160 _ _ t129 true _ ?side1 ?side2 ?side3 ?side4 A69.out).mono ?_); (case side1 => repeat (first | exact (Kd.R_reads' HO162.out).2.2 | (with_reducible refine Kd.C_alloc ?_ _) | (with_reducible refine Kd.C_drewN ?_ _) | (with_reducible refine Kd.C_drew ?_))); (case side2 => exact (Kd.R_reads' HO162.out).2.1); (case side3 => repeat (first | exact (Kd.R_reads' HO_5.out).2.2 | (with_reducible refine Kd.C_alloc ?_ _) | (with_reducible refine Kd.C_drewN ?_ _) | (with_reducible refine Kd.C_drew ?_))); (case side4 => exact (Kd.R_reads' HO_5.out).2.1); rintro e w' ⟨rfl, ⟨nd, rfl⟩⟩; refine ⟨_, rfl, ?_⟩))
                            go_meet
                            case rel => exact ⟨_, (true), (by first | rfl | (simp; done) | (simp [*]; done)), H', ⟨by have := HJ10.out; have := HJ36.out; first | omega | exact Nat.le_refl _⟩, ⟨by (with_reducible repeat (first | apply Kd.R_alloc | apply Kd.R_drewN | apply Kd.R_drew)); exact Kd.R_mono HO_9.out (fun _ hk => trivial)⟩, ⟨by (with_reducible repeat (first | refine blk_drewN ?_ _ | refine blk_drew ?_ | refine blk_alloc ?_ _)); exact BK123.out⟩, ⟨by repeat (first | (with_reducible first | exact HB.out | apply below_alloc | apply pw_below_drewN | apply below_drew1 | refine below_set ?_ GE123.out) | exact HB.out)⟩⟩
                        · replace c70 := Bool.eq_false_iff.mpr c70
                          subst c70
                          have H1 : (laws_FnExactStoreRead.j2 kj36 t153 t152 true) = some r := by rw [if_neg (show ¬ (false = true) by decide)] at H; exact H
                          clear H
                          have H := H1
                          clear H1
                          have H' := Aside0.mk H
                          clear H
                          obtain ⟨Ao76, co76, eo76⟩ := Kd.R_slice HO162.out
                          subst eo76
                          obtain ⟨Ao77, co77, eo77⟩ := Kd.R_slice HO_5.out
                          subst eo77
                          go_wp2_with (first | ((with_reducible refine gate_callee (f := 10) rfl ?_); refine goesL_ (some 102) rfl rfl Tryd.func10 (by kernel_rfl) rfl #[.slice Ao76 t160.length co76, .slice Ao77 t129.length co77] rfl (by (try simp only [List.map_toArray, List.map_cons, List.map_nil]); first | done | rfl | (simp only [List.length_drop, List.length_take]; rfl)) ?_; (with_reducible refine (laws_eqInt32S.calls kj36 _ _ t160 _ _ t129 false _ ?side1 ?side2 ?side3 ?side4 A69.out).mono ?_); (case side1 => repeat (first | exact (Kd.R_reads' HO162.out).2.2 | (with_reducible refine Kd.C_alloc ?_ _) | (with_reducible refine Kd.C_drewN ?_ _) | (with_reducible refine Kd.C_drew ?_))); (case side2 => exact (Kd.R_reads' HO162.out).2.1); (case side3 => repeat (first | exact (Kd.R_reads' HO_5.out).2.2 | (with_reducible refine Kd.C_alloc ?_ _) | (with_reducible refine Kd.C_drewN ?_ _) | (with_reducible refine Kd.C_drew ?_))); (case side4 => exact (Kd.R_reads' HO_5.out).2.1); rintro e w' ⟨rfl, ⟨nd, rfl⟩⟩; refine ⟨_, rfl, ?_⟩))
                          go_meet
                          case rel => exact ⟨_, (true), (by first | rfl | (simp; done) | (simp [*]; done)), H', ⟨by have := HJ10.out; have := HJ36.out; first | omega | exact Nat.le_refl _⟩, ⟨by (with_reducible repeat (first | apply Kd.R_alloc | apply Kd.R_drewN | apply Kd.R_drew)); exact Kd.R_mono HO_9.out (fun _ hk => trivial)⟩, ⟨by (with_reducible repeat (first | refine blk_drewN ?_ _ | refine blk_drew ?_ | refine blk_alloc ?_ _)); exact BK123.out⟩, ⟨by repeat (first | (with_reducible first | exact HB.out | apply below_alloc | apply pw_below_drewN | apply below_drew1 | refine below_set ?_ GE123.out) | exact HB.out)⟩⟩
                      case rest =>
                        clear HC61
                        try clear c1
                        try clear c2
                        try clear p2
                        try clear c3
                        try clear c3b0
                        try clear c3b1
                        try clear c4
                        try clear c5
                        try clear c6
                        try clear c7
                        try clear c8
                        try clear c9
                        try clear c10
                        try clear c11
                        try clear c12
                        try clear c24
                        try clear c25
                        try clear c25b0
                        try clear c25b1
                        try clear c32
                        try clear c35
                        try clear c41
                        try clear c41b0
                        try clear c43
                        try clear c44
                        try clear c44b0
                        try clear c44b1
                        try clear c51
                        try clear c54
                        try clear c54b0
                        try clear c57
                        try clear c57b0
                        try clear c57b1
                        try clear c70
                        try clear c71
                        try clear c71b0
                        try clear c71b1
                        try clear hcz19_0
                        try clear hcz19_1
                        try clear hfz19_0
                        try clear hfz19_1
                        try clear p2
                        obtain ⟨kq, x113_60, rfl, HA, HJ60, HO_9, BK123, HB⟩ := hcut
                        have hl9_60 := (Kd.R_reads' HO_9.out).1
                        rw [hl9_60] at HO_9
                        (try simp only [hl9_60])
                        (try simp only [hl9_60] at BK123)
                        cases kq with
                        | zero => exact absurd HA.out (by simp [laws_FnExactStoreRead.j2])
                        | succ kj60 =>
                          have H := HA.out
                          clear HA
                          simp only [laws_FnExactStoreRead.j2] at H
                          by_cases c78 : x113_60 = true
                          · subst c78
                            have H1 : (some false) = some r := by rw [if_pos rfl] at H; exact H
                            clear H
                            have H := H1
                            clear H1
                            obtain rfl := Option.some.inj H
                            go_wp2
                            go_ret
                            exact ⟨by first | rfl | (simp [errW_none, errW_some] <;> rfl) | (simp [*, errW_none, errW_some] <;> rfl), by repeat (first | (with_reducible first | exact HB.out | apply below_alloc | apply pw_below_drewN | apply below_drew1 | refine below_set ?_ GE123.out) | exact HB.out)⟩
                          · replace c78 := Bool.eq_false_iff.mpr c78
                            subst c78
                            have H1 : ((laws_heldInt32S.f kj60 t153 1).bind fun t166 => (if t166 < 0 then (some false) else (if t166 = t152 then (some true) else (some false)))) = some r := by rw [if_neg (show ¬ (false = true) by decide)] at H; exact H
                            clear H
                            have H := H1
                            clear H1
                            replace H := Option.bind_eq_some_iff.mp H
                            obtain ⟨t166, A790, H⟩ := H
                            replace H : (if t166 < 0 then (some false) else (if t166 = t152 then (some true) else (some false))) = some r := H
                            have A79 := Aside0.mk A790
                            clear A790
                            by_cases c80 : t166 < 0
                            · rw [if_pos c80] at H
                              have c80b0 : decide (t166 < 0) = true := decide_eq_true c80
                              clear c80
                              obtain rfl := Option.some.inj H
                              go_wp2_with (first | ((with_reducible refine gate_callee (f := 12) rfl ?_); refine goesL_ (some 116) rfl rfl Tryd.func12 (by kernel_rfl) rfl #[.slice Ao62 t153.length co62, .int .i64 1] rfl (by (try simp only [List.map_toArray, List.map_cons, List.map_nil]); first | done | rfl | (simp only [List.length_drop, List.length_take]; rfl)) ?_; (with_reducible refine (laws_heldInt32S.calls kj60 _ _ t153 1 t166 _ ?side1 ?side2 A79.out).mono ?_); (case side1 => repeat (first | exact (Kd.R_reads' HO_9.out).2.2 | (with_reducible refine Kd.C_alloc ?_ _) | (with_reducible refine Kd.C_drewN ?_ _) | (with_reducible refine Kd.C_drew ?_))); (case side2 => exact (Kd.R_reads' HO_9.out).2.1); rintro e w' ⟨rfl, ⟨nd, rfl⟩⟩; refine ⟨_, rfl, ?_⟩))
                              go_ret
                              exact ⟨by first | rfl | (simp [errW_none, errW_some] <;> rfl) | (simp [*, errW_none, errW_some] <;> rfl), by repeat (first | (with_reducible first | exact HB.out | apply below_alloc | apply pw_below_drewN | apply below_drew1 | refine below_set ?_ GE123.out) | exact HB.out)⟩
                            · rw [if_neg c80] at H
                              have c80b0 : decide (t166 < 0) = false := decide_eq_false c80
                              clear c80
                              by_cases c81 : t166 = t152
                              · rw [if_pos c81] at H
                                have c81b0 : (t166 == t152) = true := beq_iff_eq.mpr c81
                                have c81b1 : (t166 != t152) = false := bne_eq_false_iff_eq.mpr c81
                                clear c81
                                obtain rfl := Option.some.inj H
                                go_wp2_with (first | ((with_reducible refine gate_callee (f := 12) rfl ?_); refine goesL_ (some 116) rfl rfl Tryd.func12 (by kernel_rfl) rfl #[.slice Ao62 t153.length co62, .int .i64 1] rfl (by (try simp only [List.map_toArray, List.map_cons, List.map_nil]); first | done | rfl | (simp only [List.length_drop, List.length_take]; rfl)) ?_; (with_reducible refine (laws_heldInt32S.calls kj60 _ _ t153 1 t166 _ ?side1 ?side2 A79.out).mono ?_); (case side1 => repeat (first | exact (Kd.R_reads' HO_9.out).2.2 | (with_reducible refine Kd.C_alloc ?_ _) | (with_reducible refine Kd.C_drewN ?_ _) | (with_reducible refine Kd.C_drew ?_))); (case side2 => exact (Kd.R_reads' HO_9.out).2.1); rintro e w' ⟨rfl, ⟨nd, rfl⟩⟩; refine ⟨_, rfl, ?_⟩))
                                go_ret
                                exact ⟨by first | rfl | (simp [errW_none, errW_some] <;> rfl) | (simp [*, errW_none, errW_some] <;> rfl), by repeat (first | (with_reducible first | exact HB.out | apply below_alloc | apply pw_below_drewN | apply below_drew1 | refine below_set ?_ GE123.out) | exact HB.out)⟩
                              · rw [if_neg c81] at H
                                have c81b0 : (t166 == t152) = false := beq_eq_false_iff_ne.mpr c81
                                have c81b1 : (t166 != t152) = true := bne_iff_ne.mpr c81
                                obtain rfl := Option.some.inj H
                                go_wp2_with (first | ((with_reducible refine gate_callee (f := 12) rfl ?_); refine goesL_ (some 116) rfl rfl Tryd.func12 (by kernel_rfl) rfl #[.slice Ao62 t153.length co62, .int .i64 1] rfl (by (try simp only [List.map_toArray, List.map_cons, List.map_nil]); first | done | rfl | (simp only [List.length_drop, List.length_take]; rfl)) ?_; (with_reducible refine (laws_heldInt32S.calls kj60 _ _ t153 1 t166 _ ?side1 ?side2 A79.out).mono ?_); (case side1 => repeat (first | exact (Kd.R_reads' HO_9.out).2.2 | (with_reducible refine Kd.C_alloc ?_ _) | (with_reducible refine Kd.C_drewN ?_ _) | (with_reducible refine Kd.C_drew ?_))); (case side2 => exact (Kd.R_reads' HO_9.out).2.1); rintro e w' ⟨rfl, ⟨nd, rfl⟩⟩; refine ⟨_, rfl, ?_⟩))
                                go_ret
                                exact ⟨by first | rfl | (simp [errW_none, errW_some] <;> rfl) | (simp [*, errW_none, errW_some] <;> rfl), by repeat (first | (with_reducible first | exact HB.out | apply below_alloc | apply pw_below_drewN | apply below_drew1 | refine below_set ?_ GE123.out) | exact HB.out)⟩
                    · rw [if_neg c57] at H
                      have c57b0 : (t154 == t152) = false := beq_eq_false_iff_ne.mpr c57
                      have c57b1 : (t154 != t152) = true := bne_iff_ne.mpr c57
                      obtain rfl := Option.some.inj H
                      obtain ⟨Ao82, co82, eo82⟩ := Kd.R_slice HO_9.out
                      subst eo82
                      go_wp2_with (first | ((with_reducible refine gate_callee (f := 11) rfl ?_); refine goesL_ (some 82) rfl rfl Tryd.func11 (by kernel_rfl) rfl #[.slice Ao82 t139.length co82, .int .i64 1] rfl (by (try simp only [List.map_toArray, List.map_cons, List.map_nil]); first | done | rfl | (simp only [List.length_drop, List.length_take]; rfl)) ?_; (with_reducible refine (laws_markInt32S.calls kj36 (fun k_ => some k_ = (.slice Ao82 t139.length co82 : Value).ownBlock) (.slice Ao82 t139.length co82) t139 1 t152 t153 w _ ?side1 ?side2 A52.out).mono ?_); (case side1 => repeat (first | (with_reducible first | exact HB.out | apply below_alloc | apply pw_below_drewN | apply below_drew1 | refine below_set ?_ GE123.out) | exact HB.out)); (case side2 => exact Kd.R_tight rfl HO_9.out); rintro e w83 ⟨rfl, hy0, hb, hkp⟩; refine ⟨_, rfl, ?_⟩; have n0_ := Aside0.mk (Kd.R_mono (ok' := fun k_ => some k_ ≠ (.slice Ao82 t139.length co82 : Value).ownBlock) (Kd.R_keptB (HO_5.out) hkp (fun k_ hk_ hs_ => (hk_) hs_)) (fun k_ hk_ => hk_.1)); have n1_ := Aside0.mk (Kd.R_reok rfl hy0 (fun k_ e_ => HO_9.out.1 k_ e_)); have n2_ := Aside0.mk (blk_kept (by (with_reducible repeat (first | refine blk_drewN ?_ _ | refine blk_drew ?_ | refine blk_alloc ?_ _)); exact BK123.out) hkp (fun hs_ => (fun e_ => (Kd.R_ne HO_9.out BK123.out (by decide)) e_) hs_)); have n3_ := Aside0.mk (hb); clear HO_5; clear HO_9; clear BK123; clear HB; have HO_5 := n0_; have HO_9 := n1_; have BK123 := n2_; have HB := n3_; clear n0_ n1_ n2_ n3_; (try clear hb); (try clear hkp); (try clear hy0)) | ((with_reducible refine gate_callee (f := 12) rfl ?_); refine goesL_ (some 85) rfl rfl Tryd.func12 (by kernel_rfl) rfl #[.slice Ao82 t153.length co82, .int .i64 1] rfl (by (try simp only [List.map_toArray, List.map_cons, List.map_nil]); first | done | (rw [show t153.length = t139.length from (Kd.R_reads' HO_9.out).1.symm] <;> rfl) | rfl | (simp only [List.length_drop, List.length_take]; rfl)) ?_; (with_reducible refine (laws_heldInt32S.calls kj36 _ _ t153 1 t154 _ ?side1 ?side2 A53.out).mono ?_); (case side1 => repeat (first | exact (Kd.R_reads' HO_9.out).2.2 | (with_reducible refine Kd.C_alloc ?_ _) | (with_reducible refine Kd.C_drewN ?_ _) | (with_reducible refine Kd.C_drew ?_))); (case side2 => rw [show t153.length = t139.length from (Kd.R_reads' HO_9.out).1.symm]; exact (Kd.R_reads' HO_9.out).2.1); rintro e w' ⟨rfl, ⟨nd, rfl⟩⟩; refine ⟨_, rfl, ?_⟩))
                      go_ret
                      exact ⟨by first | rfl | (simp [errW_none, errW_some] <;> rfl) | (simp [*, errW_none, errW_some] <;> rfl), by repeat (first | (with_reducible first | exact HB.out | apply below_alloc | apply pw_below_drewN | apply below_drew1 | refine below_set ?_ GE123.out) | exact HB.out)⟩
          · replace c35 := Bool.eq_false_iff.mpr c35
            subst c35
            have H1 : (some false) = some r := by rw [if_neg (show ¬ (false = true) by decide)] at H; exact H
            clear H
            have H := H1
            clear H1
            obtain rfl := Option.some.inj H
            go_wp2_with (first | ((with_reducible refine gate_callee (f := 7) rfl ?_); refine goesL_ (some 56) rfl rfl Tryd.func7 (by kernel_rfl) rfl #[.slice A0 l0.length c0] rfl (by (try simp only [List.map_toArray, List.map_cons, List.map_nil]); first | done | rfl | (simp only [List.length_drop, List.length_take]; rfl)) ?_; (with_reducible refine (laws_toInt32S.calls kj10 _ _ l0 t145 _ ?side1 ?side2 A33.out).mono ?_); (case side1 => repeat (first | exact (Kd.C_below HR0.out HB.out) | (with_reducible refine Kd.C_alloc ?_ _) | (with_reducible refine Kd.C_drewN ?_ _) | (with_reducible refine Kd.C_drew ?_))); (case side2 => exact HC0.out); rintro e w84 ⟨v146, rfl, ho0, hb⟩; refine ⟨_, rfl, ?_⟩; have n0_ := Aside0.mk (Kd.R_elder' (by (with_reducible repeat (first | apply Kd.R_alloc | apply Kd.R_drewN | apply Kd.R_drew)); exact HO_5.out) (Kd.R_base ho0) hb); have n1_ := Aside0.mk (Kd.R_elder' (by (with_reducible repeat (first | apply Kd.R_alloc | apply Kd.R_drewN | apply Kd.R_drew)); exact HO_8.out) (Kd.R_base ho0) hb); have n2_ := Aside0.mk (Kd.R_elder' (by (with_reducible repeat (first | apply Kd.R_alloc | apply Kd.R_drewN | apply Kd.R_drew)); exact HO_9.out) (Kd.R_base ho0) hb); have n3_ := Aside0.mk (Kd.R_lower (Kd.R_new' (Kd.R_new' (Kd.R_new' ho0 (Kd.R_lt (by (with_reducible repeat (first | apply Kd.R_alloc | apply Kd.R_drewN | apply Kd.R_drew)); exact HO_5.out))) (Kd.R_lt (by (with_reducible repeat (first | apply Kd.R_alloc | apply Kd.R_drewN | apply Kd.R_drew)); exact HO_8.out))) (Kd.R_lt (by (with_reducible repeat (first | apply Kd.R_alloc | apply Kd.R_drewN | apply Kd.R_drew)); exact HO_9.out))) (below_size (by repeat (first | (with_reducible first | exact HB.out | apply below_alloc | apply pw_below_drewN | apply below_drew1 | refine below_set ?_ GE123.out) | exact HB.out)))); have n4_ := Aside0.mk (blk_below (g := gb123) (o := .cells #[.int .i64 a1_0, .int .i64 a1_1] 24 (0, 0)) (by (with_reducible repeat (first | refine blk_drewN ?_ _ | refine blk_drew ?_ | refine blk_alloc ?_ _)); exact BK123.out) hb); have n5_ := Aside0.mk (below_step (by repeat (first | (with_reducible first | exact HB.out | apply below_alloc | apply pw_below_drewN | apply below_drew1 | refine below_set ?_ GE123.out) | exact HB.out)) hb); clear HO_5; clear HO_8; clear HO_9; clear BK123; clear HB; have HO_5 := n0_; have HO_8 := n1_; have HO_9 := n2_; have HO147 := n3_; have BK123 := n4_; have HB := n5_; clear n0_ n1_ n2_ n3_ n4_ n5_; (try clear hb); (try clear hb2); (try clear hk); (try clear hi); (try clear ho0); obtain ⟨Ao85, co85, eo85⟩ := Kd.R_slice HO147.out; subst eo85) | ((with_reducible refine gate_callee (f := 10) rfl ?_); refine goesL_ (some 57) rfl rfl Tryd.func10 (by kernel_rfl) rfl #[.slice Ao21 t134.length co21, .slice Ao85 t145.length co85] rfl (by (try simp only [List.map_toArray, List.map_cons, List.map_nil]); first | done | rfl | (simp only [List.length_drop, List.length_take]; rfl)) ?_; (with_reducible refine (laws_eqInt32S.calls kj10 _ _ t134 _ _ t145 false _ ?side1 ?side2 ?side3 ?side4 A34.out).mono ?_); (case side1 => repeat (first | exact (Kd.R_reads' HO_8.out).2.2 | (with_reducible refine Kd.C_alloc ?_ _) | (with_reducible refine Kd.C_drewN ?_ _) | (with_reducible refine Kd.C_drew ?_))); (case side2 => exact (Kd.R_reads' HO_8.out).2.1); (case side3 => repeat (first | exact (Kd.R_reads' HO147.out).2.2 | (with_reducible refine Kd.C_alloc ?_ _) | (with_reducible refine Kd.C_drewN ?_ _) | (with_reducible refine Kd.C_drew ?_))); (case side4 => exact (Kd.R_reads' HO147.out).2.1); rintro e w' ⟨rfl, ⟨nd, rfl⟩⟩; refine ⟨_, rfl, ?_⟩))
            go_ret
            exact ⟨by first | rfl | (simp [errW_none, errW_some] <;> rfl) | (simp [*, errW_none, errW_some] <;> rfl), by repeat (first | (with_reducible first | exact HB.out | apply below_alloc | apply pw_below_drewN | apply below_drew1 | refine below_set ?_ GE123.out) | exact HB.out)⟩

end Go.Proofs.YtohckpdlpadgcaaDoor.QFnExactStoreRead
