/- What the law FnExactTreeInsert reaches: each function as a plain function, and that the machine's call does it (written by a program). The condition, where there is one: errors.errorType reads as laid. -/
import Derived.Test.YtciabhncmdpeeaaDoorQFnExactTreeInsertx0
import Derived.Test.YtciabhncmdpeeaaDoorQFnExactTreeInsertx1
import Derived.Test.YtciabhncmdpeeaaDoorQFnExactTreeInsertx7
import Derived.Test.YtciabhncmdpeeaaDoorQFnExactTreeInsertx8
import Derived.Test.YtciabhncmdpeeaaDoorSq
namespace Go.Proofs.YtciabhncmdpeeaaDoor.QFnExactTreeInsert
open Go.Proofs.YtciabhncmdpeeaaDoor.Er Go.Proofs.YtciabhncmdpeeaaDoor.Sq
open Go.RowKit Go.Proofs.YtciabhncmdpeeaaDoorW.PrintWords Go.Proofs.YtciabhncmdpeeaaDoorW.PrintLast Go.Proofs.YtciabhncmdpeeaaDoorW.PrintMore
attribute [local go_sem] max2_int min2_int max_two min_two max_three min_three max_four min_four   -- for this text's walks alone
set_option linter.unusedVariables false
set_option linter.unusedSimpArgs false

/-! ### laws_FnExactTreeInsert: function 11 -/
mutual
def laws_FnExactTreeInsert.j0 : Nat → Int → Int → Int → Bool → List (S128) → Int → Int → Int → List (S54) → List (S54) → List (S54) → Option (Bool)
 | 0, _, _, _, _, _, _, _, _, _, _, _ => none
 | k + 1, x1, x9, x12, x50, x266000, x267000, x267001, x267002, x279000, x283000, x291000 => if x50 = true then (some false) else ((laws_toTree.f k x266000).bind fun t292 => ((laws_eqTree.f k x283000 t292).bind fun t295 => (if t295 = true then ((laws_markTree.f k x283000 1).bind fun bt296 => (if bt296.1 < 0 then (laws_FnExactTreeInsert.j1 k x1 x9 true x266000 x267000 x267001 x267002 x279000 x291000) else ((laws_eqTree.f k x291000 x279000).bind fun t298 => (if t298 = true then (laws_FnExactTreeInsert.j1 k x1 x9 (x12 != x9) x266000 x267000 x267001 x267002 x279000 x291000) else (laws_FnExactTreeInsert.j1 k x1 x9 true x266000 x267000 x267001 x267002 x279000 x291000))))) else (some false))))
def laws_FnExactTreeInsert.j1 : Nat → Int → Int → Bool → List (S128) → Int → Int → Int → List (S54) → List (S54) → Option (Bool)
 | 0, _, _, _, _, _, _, _, _, _ => none
 | k + 1, x1, x9, x71, x266000, x267000, x267001, x267002, x279000, x291000 => if x71 = true then (some false) else ((laws_markTree.f k x291000 1).bind fun bt299 => ((laws_heldTree.f k bt299.2 1).bind fun t301 => (if t301 < 0 then (some false) else (if t301 = bt299.1 then ((laws_toTree.f k x266000).bind fun t302 => ((laws_toPiece.f x267000 x267001 x267002).bind fun bt305 => ((impl_TreeInsert.f t302 x1 bt305.1 bt305.2.1 bt305.2.2).bind fun bt308 => ((laws_eqTree.f k bt308.1 x279000).bind fun t313 => (if t313 = true then (laws_FnExactTreeInsert.j2 k bt299.1 (bt308.2 != x9) bt299.2) else (laws_FnExactTreeInsert.j2 k bt299.1 true bt299.2)))))) else (some false)))))
def laws_FnExactTreeInsert.j2 : Nat → Int → Bool → List (S54) → Option (Bool)
 | 0, _, _, _ => none
 | k + 1, x14, x100, x291000 => if x100 = true then (some false) else ((laws_heldTree.f k x291000 1).bind fun t314 => (if t314 < 0 then (some false) else (if t314 = x14 then (some true) else (some false))))
end
def laws_FnExactTreeInsert.f (k : Nat) (l0_0 : List (S128)) (a1 : Int) (a2_0 : Int) (a2_1 : Int) (a2_2 : Int) : Option (Bool) := (laws_szTree.f l0_0 1048576).bind fun t267 => (if t267 < 0 then (some true) else ((laws_toTree.f k l0_0).bind fun t268 => ((laws_toPiece.f a2_0 a2_1 a2_2).bind fun bt271 => ((spec_TreeInsert.f k t268 a1 bt271.1 bt271.2.1 bt271.2.2).bind fun bt274 => ((laws_toTree.f k l0_0).bind fun t279 => ((laws_toPiece.f a2_0 a2_1 a2_2).bind fun bt283 => ((impl_TreeInsert.f t279 a1 bt283.1 bt283.2.1 bt283.2.2).bind fun bt286 => ((laws_eqTree.f k bt286.1 bt274.1).bind fun t291 => (if t291 = true then (laws_FnExactTreeInsert.j0 k a1 bt274.2 bt286.2 (bt286.2 != bt274.2) l0_0 a2_0 a2_1 a2_2 bt274.1 t279 bt286.1) else (laws_FnExactTreeInsert.j0 k a1 bt274.2 bt286.2 true l0_0 a2_0 a2_1 a2_2 bt274.1 t279 bt286.1))))))))))
theorem laws_FnExactTreeInsert.mono_l : ∀ k, (∀ y0 y1 y2 y3 y4 y5 y6 y7 y8 y9 y10, LeO (laws_FnExactTreeInsert.j0 k y0 y1 y2 y3 y4 y5 y6 y7 y8 y9 y10) (laws_FnExactTreeInsert.j0 (k + 1) y0 y1 y2 y3 y4 y5 y6 y7 y8 y9 y10)) ∧ (∀ y0 y1 y2 y3 y4 y5 y6 y7 y8, LeO (laws_FnExactTreeInsert.j1 k y0 y1 y2 y3 y4 y5 y6 y7 y8) (laws_FnExactTreeInsert.j1 (k + 1) y0 y1 y2 y3 y4 y5 y6 y7 y8)) ∧ (∀ y0 y1 y2, LeO (laws_FnExactTreeInsert.j2 k y0 y1 y2) (laws_FnExactTreeInsert.j2 (k + 1) y0 y1 y2))
 | 0 => ⟨fun _ _ _ _ _ _ _ _ _ _ _ r h => by simp [laws_FnExactTreeInsert.j0] at h, fun _ _ _ _ _ _ _ _ _ r h => by simp [laws_FnExactTreeInsert.j1] at h, fun _ _ _ r h => by simp [laws_FnExactTreeInsert.j2] at h⟩
 | k + 1 => by
  obtain ⟨ih0, ih1, ih2⟩ := laws_FnExactTreeInsert.mono_l k
  refine ⟨?_, ?_, ?_⟩
  ·intro y0 y1 y2 y3 y4 y5 y6 y7 y8 y9 y10
   unfold laws_FnExactTreeInsert.j0
   repeat' first
   | (with_reducible exact ih0 _ _ _ _ _ _ _ _ _ _ _)
   | (with_reducible exact ih1 _ _ _ _ _ _ _ _ _)
   | (with_reducible exact ih2 _ _ _)
   | (with_reducible exact laws_eqTree.mono _ _ _)
   | (with_reducible exact laws_heldTree.mono _ _ _)
   | (with_reducible exact laws_markTree.mono _ _ _)
   | (with_reducible exact laws_toTree.mono _ _)
   | (with_reducible exact spec_TreeInsert.mono _ _ _ _ _ _)
   | (with_reducible exact LeO.refl _)
   | (with_reducible exact LeO.none _)
   | (with_reducible refine LeO.ite ?_ ?_)
   | (with_reducible refine LeO.bind ?_ (fun _ => ?_))
   | exact ih0 _ _ _ _ _ _ _ _ _ _ _
   | exact ih1 _ _ _ _ _ _ _ _ _
   | exact ih2 _ _ _
   | exact laws_eqTree.mono _ _ _
   | exact laws_heldTree.mono _ _ _
   | exact laws_markTree.mono _ _ _
   | exact laws_toTree.mono _ _
   | exact spec_TreeInsert.mono _ _ _ _ _ _
   | exact LeO.none _
   | refine LeO.ite ?_ ?_
   | refine LeO.bind ?_ (fun _ => ?_)
  ·intro y0 y1 y2 y3 y4 y5 y6 y7 y8
   unfold laws_FnExactTreeInsert.j1
   repeat' first
   | (with_reducible exact ih0 _ _ _ _ _ _ _ _ _ _ _)
   | (with_reducible exact ih1 _ _ _ _ _ _ _ _ _)
   | (with_reducible exact ih2 _ _ _)
   | (with_reducible exact laws_eqTree.mono _ _ _)
   | (with_reducible exact laws_heldTree.mono _ _ _)
   | (with_reducible exact laws_markTree.mono _ _ _)
   | (with_reducible exact laws_toTree.mono _ _)
   | (with_reducible exact spec_TreeInsert.mono _ _ _ _ _ _)
   | (with_reducible exact LeO.refl _)
   | (with_reducible exact LeO.none _)
   | (with_reducible refine LeO.ite ?_ ?_)
   | (with_reducible refine LeO.bind ?_ (fun _ => ?_))
   | exact ih0 _ _ _ _ _ _ _ _ _ _ _
   | exact ih1 _ _ _ _ _ _ _ _ _
   | exact ih2 _ _ _
   | exact laws_eqTree.mono _ _ _
   | exact laws_heldTree.mono _ _ _
   | exact laws_markTree.mono _ _ _
   | exact laws_toTree.mono _ _
   | exact spec_TreeInsert.mono _ _ _ _ _ _
   | exact LeO.none _
   | refine LeO.ite ?_ ?_
   | refine LeO.bind ?_ (fun _ => ?_)
  ·intro y0 y1 y2
   unfold laws_FnExactTreeInsert.j2
   repeat' first
   | (with_reducible exact ih0 _ _ _ _ _ _ _ _ _ _ _)
   | (with_reducible exact ih1 _ _ _ _ _ _ _ _ _)
   | (with_reducible exact ih2 _ _ _)
   | (with_reducible exact laws_eqTree.mono _ _ _)
   | (with_reducible exact laws_heldTree.mono _ _ _)
   | (with_reducible exact laws_markTree.mono _ _ _)
   | (with_reducible exact laws_toTree.mono _ _)
   | (with_reducible exact spec_TreeInsert.mono _ _ _ _ _ _)
   | (with_reducible exact LeO.refl _)
   | (with_reducible exact LeO.none _)
   | (with_reducible refine LeO.ite ?_ ?_)
   | (with_reducible refine LeO.bind ?_ (fun _ => ?_))
   | exact ih0 _ _ _ _ _ _ _ _ _ _ _
   | exact ih1 _ _ _ _ _ _ _ _ _
   | exact ih2 _ _ _
   | exact laws_eqTree.mono _ _ _
   | exact laws_heldTree.mono _ _ _
   | exact laws_markTree.mono _ _ _
   | exact laws_toTree.mono _ _
   | exact spec_TreeInsert.mono _ _ _ _ _ _
   | exact LeO.none _
   | refine LeO.ite ?_ ?_
   | refine LeO.bind ?_ (fun _ => ?_)
theorem laws_FnExactTreeInsert.mono : ∀ a0 a1 a2 a3 a4 k, LeO (laws_FnExactTreeInsert.f k a0 a1 a2 a3 a4) (laws_FnExactTreeInsert.f (k + 1) a0 a1 a2 a3 a4) := by
 intro a0 a1 a2 a3 a4 k
 obtain ⟨ih0, ih1, ih2⟩ := laws_FnExactTreeInsert.mono_l k
 unfold laws_FnExactTreeInsert.f
 repeat' first
   | (with_reducible exact ih0 _ _ _ _ _ _ _ _ _ _ _)
   | (with_reducible exact ih1 _ _ _ _ _ _ _ _ _)
   | (with_reducible exact ih2 _ _ _)
   | (with_reducible exact laws_eqTree.mono _ _ _)
   | (with_reducible exact laws_heldTree.mono _ _ _)
   | (with_reducible exact laws_markTree.mono _ _ _)
   | (with_reducible exact laws_toTree.mono _ _)
   | (with_reducible exact spec_TreeInsert.mono _ _ _ _ _ _)
   | (with_reducible exact LeO.refl _)
   | (with_reducible exact LeO.none _)
   | (with_reducible refine LeO.ite ?_ ?_)
   | (with_reducible refine LeO.bind ?_ (fun _ => ?_))
   | exact ih0 _ _ _ _ _ _ _ _ _ _ _
   | exact ih1 _ _ _ _ _ _ _ _ _
   | exact ih2 _ _ _
   | exact laws_eqTree.mono _ _ _
   | exact laws_heldTree.mono _ _ _
   | exact laws_markTree.mono _ _ _
   | exact laws_toTree.mono _ _
   | exact spec_TreeInsert.mono _ _ _ _ _ _
   | exact LeO.none _
   | refine LeO.ite ?_ ?_
   | refine LeO.bind ?_ (fun _ => ?_)
def laws_FnExactTreeInsert.T5 : Bool × List (List Nat × List Nat) := (true, [([], []), ([0], [0]), ([], []), ([], []), ([3, 1], [3]), ([1, 2, 4, 4], [1, 2, 4]), ([5], [5]), ([6], [6]), ([6], [6]), ([], []), ([9, 7, 5, 0, 1, 2, 3, 4, 5, 6, 7, 9], [7, 9]), ([8, 10, 0, 1, 2, 3, 4, 5, 6, 7, 8, 9, 10], [8])])
def laws_FnExactTreeInsert.B5 : List Nat := [0, 1, 0, 0, 11, 31, 63, 127, 127, 0, 767, 2047]
theorem laws_FnExactTreeInsert.tab5 : rtab .any (opsOf Tryd.f11 5) = laws_FnExactTreeInsert.T5 := by kernel_rfl
theorem laws_FnExactTreeInsert.bits5 : waitsOk laws_FnExactTreeInsert.T5.2 laws_FnExactTreeInsert.B5 = true := by kernel_rfl
def laws_FnExactTreeInsert.T7 : Bool × List (List Nat × List Nat) := (true, [([], []), ([], []), ([], []), ([2], [2]), ([0, 1, 3, 3], [0, 1, 3]), ([4], [4]), ([5], [5]), ([5], [5]), ([], []), ([8, 6, 4, 0, 1, 2, 3, 4, 5, 6, 8], [6, 8]), ([7, 9, 0, 1, 2, 3, 4, 5, 6, 7, 8, 9], [7])])
def laws_FnExactTreeInsert.B7 : List Nat := [0, 0, 0, 4, 15, 31, 63, 63, 0, 383, 1023]
theorem laws_FnExactTreeInsert.tab7 : rtab .any (opsOf Tryd.f11 7) = laws_FnExactTreeInsert.T7 := by kernel_rfl
theorem laws_FnExactTreeInsert.bits7 : waitsOk laws_FnExactTreeInsert.T7.2 laws_FnExactTreeInsert.B7 = true := by kernel_rfl
def laws_FnExactTreeInsert.T24 : Bool × List (List Nat × List Nat) := (true, [([], []), ([0], [0]), ([], []), ([], []), ([3, 1], [3]), ([1, 2, 4, 4], [1, 2, 4]), ([5], [5]), ([6], [6]), ([6], [6]), ([], []), ([9, 7, 5, 0, 1, 2, 3, 4, 5, 6, 7, 9], [7, 9]), ([8, 10, 0, 1, 2, 3, 4, 5, 6, 7, 8, 9, 10], [8])])
def laws_FnExactTreeInsert.B24 : List Nat := [0, 1, 0, 0, 11, 31, 63, 127, 127, 0, 767, 2047]
theorem laws_FnExactTreeInsert.tab24 : rtab .any (opsOf Tryd.f11 24) = laws_FnExactTreeInsert.T24 := by kernel_rfl
theorem laws_FnExactTreeInsert.bits24 : waitsOk laws_FnExactTreeInsert.T24.2 laws_FnExactTreeInsert.B24 = true := by kernel_rfl
set_option maxHeartbeats 8000000 in
set_option maxRecDepth 100000 in
theorem laws_FnExactTreeInsert.calls (k : Nat) (A0_0 : Option Addr) (c0_0 : Nat) (l0_0 : List (S128)) (a1 : Int) (a2_0 : Int) (a2_1 : Int) (a2_2 : Int) (r : Bool) (w : World) (hr0_0 : Kd.C k128 w A0_0 l0_0.length l0_0) (hc0_0 : l0_0.length ≤ c0_0)  (hgG_ : HG w) (h : laws_FnExactTreeInsert.f k l0_0 a1 a2_0 a2_1 a2_2 = some r) :
  Calls Tryd.prog 11 #[.agg #[.slice A0_0 l0_0.length c0_0], .int .i64 a1, .agg #[.int .i64 a2_0, .int .i64 a2_1, .int .i64 a2_2]] w fun e w' => e = .returned (.bool r) ∧ Below w.heap.size w w' := by
 have hu24 := Tryd.underlying24
 have hu76 := Tryd.underlying76
 have hu30 := Tryd.underlying30
 have HR0_0 := Aside0.mk hr0_0
 have HC0_0 := Aside0.mk hc0_0
 clear hr0_0 hc0_0
 have HB := Aside0.mk (Below.refl w.heap.size w)
 have H : ((laws_szTree.f l0_0 1048576).bind fun t267 => (if t267 < 0 then (some true) else ((laws_toTree.f k l0_0).bind fun t268 => ((laws_toPiece.f a2_0 a2_1 a2_2).bind fun bt271 => ((spec_TreeInsert.f k t268 a1 bt271.1 bt271.2.1 bt271.2.2).bind fun bt274 => ((laws_toTree.f k l0_0).bind fun t279 => ((laws_toPiece.f a2_0 a2_1 a2_2).bind fun bt283 => ((impl_TreeInsert.f t279 a1 bt283.1 bt283.2.1 bt283.2.2).bind fun bt286 => ((laws_eqTree.f k bt286.1 bt274.1).bind fun t291 => (if t291 = true then (laws_FnExactTreeInsert.j0 k a1 bt274.2 bt286.2 (bt286.2 != bt274.2) l0_0 a2_0 a2_1 a2_2 bt274.1 t279 bt286.1) else (laws_FnExactTreeInsert.j0 k a1 bt274.2 bt286.2 true l0_0 a2_0 a2_1 a2_2 bt274.1 t279 bt286.1))))))))))) = some r := h
 clear h
 replace H := Option.bind_eq_some_iff.mp H
 obtain ⟨t267, A40, H⟩ := H
 replace H : (if t267 < 0 then (some true) else ((laws_toTree.f k l0_0).bind fun t268 => ((laws_toPiece.f a2_0 a2_1 a2_2).bind fun bt271 => ((spec_TreeInsert.f k t268 a1 bt271.1 bt271.2.1 bt271.2.2).bind fun bt274 => ((laws_toTree.f k l0_0).bind fun t279 => ((laws_toPiece.f a2_0 a2_1 a2_2).bind fun bt283 => ((impl_TreeInsert.f t279 a1 bt283.1 bt283.2.1 bt283.2.2).bind fun bt286 => ((laws_eqTree.f k bt286.1 bt274.1).bind fun t291 => (if t291 = true then (laws_FnExactTreeInsert.j0 k a1 bt274.2 bt286.2 (bt286.2 != bt274.2) l0_0 a2_0 a2_1 a2_2 bt274.1 t279 bt286.1) else (laws_FnExactTreeInsert.j0 k a1 bt274.2 bt286.2 true l0_0 a2_0 a2_1 a2_2 bt274.1 t279 bt286.1)))))))))) = some r := H
 have A4 := Aside0.mk A40
 clear A40
 by_cases c5 : t267 < 0
 ·rw [if_pos c5] at H
  have c5b0 : decide (t267 < 0) = true := decide_eq_true c5
  clear c5
  obtain rfl := Option.some.inj H
  go_enter Tryd.func11, Tryd.ntmps11
  go_wp2_with (first | ((with_reducible refine gate_dst (N := 3) rfl ?_); refine box_event ?hg (N := 3) ?hd (cs := #[.slice A0_0 l0_0.length c0_0]) (t := 24) ?hr ?_; (case hd => rfl); (case hg => rfl); (case hr => first | (go_simp; done) | (go_simp; rfl)); intro gb265 hg w6 hbox hb; have n0_ := Aside0.mk (below_step (hbD HB) hb); have n1_ := Aside0.mk (hbox); have n2_ := Aside0.mk ((by rw [hg]; exact (below_size (hbD HB)) : w.heap.size ≤ gb265)); have n3_ := n2_; clear HB; have HB := n0_; have BK265 := n1_; have GW265 := n2_; have GE265 := n3_; clear n0_ n1_ n2_ n3_ hb hbox hg) | ((with_reducible refine gate_dst (N := 5) rfl ?_); refine box_event ?hg (N := 5) ?hd (cs := #[.int .i64 a2_0, .int .i64 a2_1, .int .i64 a2_2]) (t := 76) ?hr ?_; (case hd => rfl); (case hg => rfl); (case hr => first | (go_simp; done) | (go_simp; rfl)); intro gb266 hg w7 hbox hb; have n0_ := Aside0.mk (blk_below (bkD BK265) hb); have n1_ := Aside0.mk (below_step (hbD HB) hb); have n2_ := Aside0.mk (hbox); have n3_ := Aside0.mk ((by rw [hg]; exact (below_size (hbD HB)) : w.heap.size ≤ gb266)); have n4_ := n3_; have n5_ := Aside0.mk ((by rw [hg]; exact Nat.ne_of_lt (blk_lt (bkD BK265)) : gb265 ≠ gb266)); have n6_ := Aside0.mk ((by rw [hg]; exact Nat.ne_of_gt (blk_lt (bkD BK265)) : gb266 ≠ gb265)); clear BK265 HB; have BK265 := n0_; have HB := n1_; have BK266 := n2_; have GW266 := n3_; have GE266 := n4_; have NB265_266 := n5_; have NB266_265 := n6_; clear n0_ n1_ n2_ n3_ n4_ n5_ n6_ hb hbox hg; have hnb8 := NB265_266.out; have hnc8 := NB266_265.out; have hcz9_0 : w7.cell? ⟨gb265, 0, none⟩ = some (.slice A0_0 l0_0.length c0_0) := (blk_cell BK265.out 0).trans rfl; have hfz9_0 := blk_frozen BK265.out 0) | ((with_reducible refine gate_callee (f := 15) rfl ?_); refine goesL_ (some 20) rfl rfl Tryd.func15 (by kernel_rfl) rfl #[.agg #[.slice A0_0 l0_0.length c0_0], .int .i64 1048576] rfl (by (try simp only [List.map_toArray, List.map_cons, List.map_nil]); first | done | rfl | (simp only [List.length_drop, List.length_take]; rfl)) ?_; (with_reducible refine (laws_szTree.calls _ _ l0_0 1048576 t267 _ ?side1 ?side2 A4.out).mono ?_); (case side1 => repeat (first | exact (Kd.C_below HR0_0.out HB.out) | (with_reducible refine Kd.C_alloc ?_ _) | (with_reducible refine Kd.C_drewN ?_ _) | (with_reducible refine Kd.C_drew ?_))); (case side2 => exact HC0_0.out); rintro e w10 ⟨rfl, hb⟩; refine ⟨_, rfl, ?_⟩; have n0_ := Aside0.mk (blk_below (bkD BK265) hb); have n1_ := Aside0.mk (blk_below (bkD BK266) hb); have n2_ := Aside0.mk (below_step (hbD HB) hb); clear BK265 BK266 HB; have BK265 := n0_; have BK266 := n1_; have HB := n2_; clear n0_ n1_ n2_; (try clear hb); (try clear hb2); (try clear hk); (try clear hi)))
  go_ret
  exact ⟨by first | rfl | (simp [errW_none, errW_some] <;> rfl) | (simp [*, errW_none, errW_some] <;> rfl), by repeat (first | (with_reducible first | exact HB.out | apply below_alloc | apply pw_below_drewN | apply below_drew1 | refine below_set ?_ GE265.out | refine below_set ?_ GE266.out) | exact HB.out)⟩
 ·rw [if_neg c5] at H
  have c5b0 : decide (t267 < 0) = false := decide_eq_false c5
  clear c5
  replace H := Option.bind_eq_some_iff.mp H
  obtain ⟨t268, A110, H⟩ := H
  replace H : ((laws_toPiece.f a2_0 a2_1 a2_2).bind fun bt271 => ((spec_TreeInsert.f k t268 a1 bt271.1 bt271.2.1 bt271.2.2).bind fun bt274 => ((laws_toTree.f k l0_0).bind fun t279 => ((laws_toPiece.f a2_0 a2_1 a2_2).bind fun bt283 => ((impl_TreeInsert.f t279 a1 bt283.1 bt283.2.1 bt283.2.2).bind fun bt286 => ((laws_eqTree.f k bt286.1 bt274.1).bind fun t291 => (if t291 = true then (laws_FnExactTreeInsert.j0 k a1 bt274.2 bt286.2 (bt286.2 != bt274.2) l0_0 a2_0 a2_1 a2_2 bt274.1 t279 bt286.1) else (laws_FnExactTreeInsert.j0 k a1 bt274.2 bt286.2 true l0_0 a2_0 a2_1 a2_2 bt274.1 t279 bt286.1)))))))) = some r := H
  have A11 := Aside0.mk A110
  clear A110
  replace H := Option.bind_eq_some_iff.mp H
  obtain ⟨⟨t271, t272, t273⟩, A120, H⟩ := H
  replace H : ((spec_TreeInsert.f k t268 a1 t271 t272 t273).bind fun bt274 => ((laws_toTree.f k l0_0).bind fun t279 => ((laws_toPiece.f a2_0 a2_1 a2_2).bind fun bt283 => ((impl_TreeInsert.f t279 a1 bt283.1 bt283.2.1 bt283.2.2).bind fun bt286 => ((laws_eqTree.f k bt286.1 bt274.1).bind fun t291 => (if t291 = true then (laws_FnExactTreeInsert.j0 k a1 bt274.2 bt286.2 (bt286.2 != bt274.2) l0_0 a2_0 a2_1 a2_2 bt274.1 t279 bt286.1) else (laws_FnExactTreeInsert.j0 k a1 bt274.2 bt286.2 true l0_0 a2_0 a2_1 a2_2 bt274.1 t279 bt286.1))))))) = some r := H
  have A12 := Aside0.mk A120
  clear A120
  replace H := Option.bind_eq_some_iff.mp H
  obtain ⟨⟨t274, t277⟩, A130, H⟩ := H
  replace H : ((laws_toTree.f k l0_0).bind fun t279 => ((laws_toPiece.f a2_0 a2_1 a2_2).bind fun bt283 => ((impl_TreeInsert.f t279 a1 bt283.1 bt283.2.1 bt283.2.2).bind fun bt286 => ((laws_eqTree.f k bt286.1 t274).bind fun t291 => (if t291 = true then (laws_FnExactTreeInsert.j0 k a1 t277 bt286.2 (bt286.2 != t277) l0_0 a2_0 a2_1 a2_2 t274 t279 bt286.1) else (laws_FnExactTreeInsert.j0 k a1 t277 bt286.2 true l0_0 a2_0 a2_1 a2_2 t274 t279 bt286.1)))))) = some r := H
  have A13 := Aside0.mk A130
  clear A130
  replace H := Option.bind_eq_some_iff.mp H
  obtain ⟨t279, A140, H⟩ := H
  replace H : ((laws_toPiece.f a2_0 a2_1 a2_2).bind fun bt283 => ((impl_TreeInsert.f t279 a1 bt283.1 bt283.2.1 bt283.2.2).bind fun bt286 => ((laws_eqTree.f k bt286.1 t274).bind fun t291 => (if t291 = true then (laws_FnExactTreeInsert.j0 k a1 t277 bt286.2 (bt286.2 != t277) l0_0 a2_0 a2_1 a2_2 t274 t279 bt286.1) else (laws_FnExactTreeInsert.j0 k a1 t277 bt286.2 true l0_0 a2_0 a2_1 a2_2 t274 t279 bt286.1))))) = some r := H
  have A14 := Aside0.mk A140
  clear A140
  replace H := Option.bind_eq_some_iff.mp H
  obtain ⟨⟨t283, t284, t285⟩, A150, H⟩ := H
  replace H : ((impl_TreeInsert.f t279 a1 t283 t284 t285).bind fun bt286 => ((laws_eqTree.f k bt286.1 t274).bind fun t291 => (if t291 = true then (laws_FnExactTreeInsert.j0 k a1 t277 bt286.2 (bt286.2 != t277) l0_0 a2_0 a2_1 a2_2 t274 t279 bt286.1) else (laws_FnExactTreeInsert.j0 k a1 t277 bt286.2 true l0_0 a2_0 a2_1 a2_2 t274 t279 bt286.1)))) = some r := H
  have A15 := Aside0.mk A150
  clear A150
  replace H := Option.bind_eq_some_iff.mp H
  obtain ⟨⟨t286, t289⟩, A160, H⟩ := H
  replace H : ((laws_eqTree.f k t286 t274).bind fun t291 => (if t291 = true then (laws_FnExactTreeInsert.j0 k a1 t277 t289 (t289 != t277) l0_0 a2_0 a2_1 a2_2 t274 t279 t286) else (laws_FnExactTreeInsert.j0 k a1 t277 t289 true l0_0 a2_0 a2_1 a2_2 t274 t279 t286))) = some r := H
  have A16 := Aside0.mk A160
  clear A160
  have HC17 := Aside0.mk H
  clear H
  go_enter Tryd.func11, Tryd.ntmps11
  try go_wp2_with (first | ((with_reducible refine gate_dst (N := 3) rfl ?_); refine box_event ?hg (N := 3) ?hd (cs := #[.slice A0_0 l0_0.length c0_0]) (t := 24) ?hr ?_; (case hd => rfl); (case hg => rfl); (case hr => first | (go_simp; done) | (go_simp; rfl)); intro gb265 hg w18 hbox hb; have n0_ := Aside0.mk (below_step (hbD HB) hb); have n1_ := Aside0.mk (hbox); have n2_ := Aside0.mk ((by rw [hg]; exact (below_size (hbD HB)) : w.heap.size ≤ gb265)); have n3_ := n2_; clear HB; have HB := n0_; have BK265 := n1_; have GW265 := n2_; have GE265 := n3_; clear n0_ n1_ n2_ n3_ hb hbox hg) | ((with_reducible refine gate_dst (N := 5) rfl ?_); refine box_event ?hg (N := 5) ?hd (cs := #[.int .i64 a2_0, .int .i64 a2_1, .int .i64 a2_2]) (t := 76) ?hr ?_; (case hd => rfl); (case hg => rfl); (case hr => first | (go_simp; done) | (go_simp; rfl)); intro gb266 hg w19 hbox hb; have n0_ := Aside0.mk (blk_below (bkD BK265) hb); have n1_ := Aside0.mk (below_step (hbD HB) hb); have n2_ := Aside0.mk (hbox); have n3_ := Aside0.mk ((by rw [hg]; exact (below_size (hbD HB)) : w.heap.size ≤ gb266)); have n4_ := n3_; have n5_ := Aside0.mk ((by rw [hg]; exact Nat.ne_of_lt (blk_lt (bkD BK265)) : gb265 ≠ gb266)); have n6_ := Aside0.mk ((by rw [hg]; exact Nat.ne_of_gt (blk_lt (bkD BK265)) : gb266 ≠ gb265)); clear BK265 HB; have BK265 := n0_; have HB := n1_; have BK266 := n2_; have GW266 := n3_; have GE266 := n4_; have NB265_266 := n5_; have NB266_265 := n6_; clear n0_ n1_ n2_ n3_ n4_ n5_ n6_ hb hbox hg; have hnb20 := NB265_266.out; have hnc20 := NB266_265.out; have hcz21_0 : w19.cell? ⟨gb265, 0, none⟩ = some (.slice A0_0 l0_0.length c0_0) := (blk_cell BK265.out 0).trans rfl; have hfz21_0 := blk_frozen BK265.out 0) | ((with_reducible refine gate_callee (f := 15) rfl ?_); refine goesL_ (some 20) rfl rfl Tryd.func15 (by kernel_rfl) rfl #[.agg #[.slice A0_0 l0_0.length c0_0], .int .i64 1048576] rfl (by (try simp only [List.map_toArray, List.map_cons, List.map_nil]); first | done | rfl | (simp only [List.length_drop, List.length_take]; rfl)) ?_; (with_reducible refine (laws_szTree.calls _ _ l0_0 1048576 t267 _ ?side1 ?side2 A4.out).mono ?_); (case side1 => repeat (first | exact (Kd.C_below HR0_0.out HB.out) | (with_reducible refine Kd.C_alloc ?_ _) | (with_reducible refine Kd.C_drewN ?_ _) | (with_reducible refine Kd.C_drew ?_))); (case side2 => exact HC0_0.out); rintro e w22 ⟨rfl, hb⟩; refine ⟨_, rfl, ?_⟩; have n0_ := Aside0.mk (blk_below (bkD BK265) hb); have n1_ := Aside0.mk (blk_below (bkD BK266) hb); have n2_ := Aside0.mk (below_step (hbD HB) hb); clear BK265 BK266 HB; have BK265 := n0_; have BK266 := n1_; have HB := n2_; clear n0_ n1_ n2_; (try clear hb); (try clear hb2); (try clear hk); (try clear hi)))
  have n0_ := Aside0.mk (blk_drew BK265.out)
  have n1_ := Aside0.mk (blk_drew BK266.out)
  have n2_ := Aside0.mk (below_drew1 HB.out)
  clear BK265 BK266 HB
  have BK265 := n0_
  have BK266 := n1_
  have HB := n2_
  clear n0_ n1_ n2_
  refine start_ (n := 12) (S := fun w' => w'.cell? ⟨gb265, 0, none⟩ = some (.slice A0_0 l0_0.length c0_0) ∧ w'.cell? ⟨gb266, 0, none⟩ = some (.int .i64 a2_0) ∧ w'.cell? ⟨gb266, 1, none⟩ = some (.int .i64 a2_1) ∧ w'.cell? ⟨gb266, 2, none⟩ = some (.int .i64 a2_2)) (ds := []) #[false, false, false, false, false, false, false, false, false, false, false, false] (by kernel_rfl) rfl rfl ⟨(blk_cell BK265.out 0).trans rfl, (blk_cell BK266.out 0).trans rfl, (blk_cell BK266.out 1).trans rfl, (blk_cell BK266.out 2).trans rfl⟩ (fun hHeld => ?_); refine with_tabW laws_FnExactTreeInsert.tab5 laws_FnExactTreeInsert.bits5 (fun HT_ HW_ => ?_)
  generalize w22.drew = w23 at BK265 BK266 HB hHeld ⊢
  refine pure_ (i := 2) (N := some 26) (v := ?_) (a' := ?_) #[false, false, true, false, false, false, false, false, false, false, false, false] rfl rfl (any_of HT_.out (by kernel_rfl)) (fun _ _ _ h => h) (Or.inl ⟨by rfl, ?_⟩) ?_ ?_
  rotate_left
  ·intro w'
   go_simp
   with_reducible rfl
  rotate_left
  ·simp only [Act.put, List.setIfInBounds_toArray, List.set_cons_zero, List.set_cons_succ, i64_w, i32_w]
   rfl
  refine take_ (i := 0) (N := some 24) (v := ?_) (a' := ?_) #[true, false, true, false, false, false, false, false, false, false, false, false] rfl rfl (take_ofW HT_.out HW_.out (by kernel_rfl)) (fun _ _ _ h => h) (Or.inl ⟨by rfl, ?_⟩) hHeld ?_ ?_
  rotate_left
  ·rintro w' ⟨s0, s1, s2, s3⟩
   go_simp
   with_reducible rfl
  rotate_left
  ·simp only [Act.put, List.setIfInBounds_toArray, List.set_cons_zero, List.set_cons_succ, i64_w, i32_w]
   rfl
  refine take_ (i := 3) (N := some 27) (v := ?_) (a' := ?_) #[true, false, true, true, false, false, false, false, false, false, false, false] rfl rfl (take_ofW HT_.out HW_.out (by kernel_rfl)) (fun _ _ _ h => h) (Or.inl ⟨by rfl, ?_⟩) hHeld ?_ ?_
  rotate_left
  ·rintro w' ⟨s0, s1, s2, s3⟩
   go_simp
   with_reducible rfl
  rotate_left
  ·simp only [Act.put, List.setIfInBounds_toArray, List.set_cons_zero, List.set_cons_succ, i64_w, i32_w]
   rfl
  refine join_ (σ := Value × Value × Nat) 2 #[true, true, true, true, true, true, true, true, true, true, false, false] (fun s_ => [(25, .agg #[s_.1]), (28, .agg #[.int .i64 t271, .int .i64 t272, .int .i64 t273]), (29, .tuple #[.agg #[s_.2.1], .int .i64 t277]), (8, .pointer (some ⟨s_.2.2, 0, none⟩)), (23, .tuple #[.agg #[s_.2.1], .int .i64 t277]), (30, .agg #[s_.2.1]), (31, .int .i64 t277)]) (fun s_ w' => (w'.cell? ⟨gb265, 0, none⟩ = some (.slice A0_0 l0_0.length c0_0) ∧ w'.cell? ⟨gb266, 0, none⟩ = some (.int .i64 a2_0) ∧ w'.cell? ⟨gb266, 1, none⟩ = some (.int .i64 a2_1) ∧ w'.cell? ⟨gb266, 2, none⟩ = some (.int .i64 a2_2)) ∧ (Kd.R k54 54 w' w.heap.size (fun k_ => some k_ ≠ (s_.2.1 : Value).ownBlock) s_.1 t268) ∧ (Kd.R k54 54 w' w.heap.size (fun k_ => some k_ ≠ (s_.1 : Value).ownBlock) s_.2.1 t274) ∧ (w'.heap[gb265]? = some (.cells #[.slice A0_0 l0_0.length c0_0] 24 (0, 0))) ∧ (w'.heap[gb266]? = some (.cells #[.int .i64 a2_0, .int .i64 a2_1, .int .i64 a2_2] 76 (0, 0))) ∧ (w'.heap[s_.2.2]? = some (.cells #[.slice none 0 0] 30 (0, 0))) ∧ (w.heap.size ≤ s_.2.2) ∧ (w.heap.size ≤ s_.2.2) ∧ (gb265 ≠ s_.2.2) ∧ (s_.2.2 ≠ gb265) ∧ (gb266 ≠ s_.2.2) ∧ (s_.2.2 ≠ gb266) ∧ (Below w.heap.size w w')) ?_ ?_
  rotate_left
  ·intro hCont
   refine two_ (i := 1) (j := 9) (Ni := some 25) (Nj := some 8) #[true, true, true, true, false, false, false, false, false, false, false, false] #[true, false, true, true, false, false, false, false, false, true, false, false] rfl rfl rfl rfl (two_of HT_.out (by kernel_rfl)) (by decide) (by decide) (fun K hK => ?_) (fun K hK => ?_)
   ·skip
    refine goes_ Tryd.func17 (by kernel_rfl) rfl #[.agg #[.slice A0_0 l0_0.length c0_0]] (by rfl) rfl rfl (by (try simp only [List.map_toArray, List.map_cons, List.map_nil]); first | done | rfl | (simp only [List.length_drop, List.length_take]; rfl)) ?_
    with_reducible refine (laws_toTree.calls k _ _ l0_0 t268 _ ?side1 ?side2 A11.out).mono ?_
    (case side1 => repeat (first | exact (Kd.C_below HR0_0.out HB.out) | (with_reducible refine Kd.C_alloc ?_ _) | (with_reducible refine Kd.C_drewN ?_ _) | (with_reducible refine Kd.C_drew ?_)))
    (case side2 => exact HC0_0.out)
    rintro e w24 ⟨v269, rfl, ho0, hb⟩
    refine ⟨_, rfl, ?_⟩
    have n0_ := Aside0.mk (Kd.R_lower ho0 (below_size (hbD HB)))
    have n1_ := Aside0.mk (blk_below (bkD BK265) hb)
    have n2_ := Aside0.mk (blk_below (bkD BK266) hb)
    have n3_ := Aside0.mk (below_step (hbD HB) hb)
    clear BK265 BK266 HB
    have HO270 := n0_
    have BK265 := n1_
    have BK266 := n2_
    have HB := n3_
    clear n0_ n1_ n2_ n3_
    (try clear hb)
    (try clear hb2)
    (try clear hk)
    (try clear hi)
    (try clear ho0)
    refine hK.out _ _ ⟨(blk_cell BK265.out 0).trans rfl, (blk_cell BK266.out 0).trans rfl, (blk_cell BK266.out 1).trans rfl, (blk_cell BK266.out 2).trans rfl⟩ (fun hHeld => ?_)
    clear hK K
    refine norm_ (a' := ?_) ?_ ?_
    rotate_left
    ·show Act.put _ (some 25) _ = _
     simp only [Act.put, List.setIfInBounds_toArray, List.set_cons_zero, List.set_cons_succ, i64_w, i32_w]
     rfl
    refine two_ (i := 4) (j := 9) (Ni := some 28) (Nj := some 8) #[true, true, true, true, true, false, false, false, false, false, false, false] #[true, true, true, true, false, false, false, false, false, true, false, false] rfl rfl rfl rfl (two_of HT_.out (by kernel_rfl)) (by decide) (by decide) (fun K hK => ?_) (fun K hK => ?_)
    ·skip
     refine goes_ Tryd.func49 (by kernel_rfl) rfl #[.agg #[.int .i64 a2_0, .int .i64 a2_1, .int .i64 a2_2]] (by rfl) rfl rfl (by (try simp only [List.map_toArray, List.map_cons, List.map_nil]); first | done | rfl | (simp only [List.length_drop, List.length_take]; rfl)) ?_
     with_reducible refine (laws_toPiece.calls a2_0 a2_1 a2_2 t271 t272 t273 _ A12.out).mono ?_
     rintro e w25 ⟨rfl, hb⟩
     refine ⟨_, rfl, ?_⟩
     have n0_ := Aside0.mk (Kd.R_below (rD HO270.out) hb)
     have n1_ := Aside0.mk (blk_below (bkD BK265) hb)
     have n2_ := Aside0.mk (blk_below (bkD BK266) hb)
     have n3_ := Aside0.mk (below_step (hbD HB) hb)
     clear HO270 BK265 BK266 HB
     have HO270 := n0_
     have BK265 := n1_
     have BK266 := n2_
     have HB := n3_
     clear n0_ n1_ n2_ n3_
     (try clear hb)
     (try clear hb2)
     (try clear hk)
     (try clear hi)
     obtain ⟨Ao26, co26, eo26⟩ := Kd.R_slice HO270.out
     (first | subst eo26 | (injection eo26 with f1_ f2_ f3_; have f4_ := f1_.symm; have f5_ := f3_.symm; clear f1_ f2_ f3_; subst f4_; subst f5_))
     refine hK.out _ _ ⟨(blk_cell BK265.out 0).trans rfl, (blk_cell BK266.out 0).trans rfl, (blk_cell BK266.out 1).trans rfl, (blk_cell BK266.out 2).trans rfl⟩ (fun hHeld => ?_)
     clear hK K
     refine norm_ (a' := ?_) ?_ ?_
     rotate_left
     ·show Act.put _ (some 28) _ = _
      simp only [Act.put, List.setIfInBounds_toArray, List.set_cons_zero, List.set_cons_succ, i64_w, i32_w]
      rfl
     refine two_ (i := 5) (j := 9) (Ni := some 29) (Nj := some 8) #[true, true, true, true, true, true, false, false, false, false, false, false] #[true, true, true, true, true, false, false, false, false, true, false, false] rfl rfl rfl rfl (two_of HT_.out (by kernel_rfl)) (by decide) (by decide) (fun K hK => ?_) (fun K hK => ?_)
     ·skip
      refine goes_ Tryd.func48 (by kernel_rfl) rfl #[.agg #[.slice Ao26 t268.length co26], .int .i64 a1, .agg #[.int .i64 t271, .int .i64 t272, .int .i64 t273]] (by rfl) rfl rfl (by (try simp only [List.map_toArray, List.map_cons, List.map_nil]); first | done | rfl | (simp only [List.length_drop, List.length_take]; rfl)) ?_
      with_reducible refine (spec_TreeInsert.calls k _ _ t268 a1 t271 t272 t273 t274 t277 _ ?side1 ?side2 A13.out).mono ?_
      (case side1 => repeat (first | exact (Kd.R_reads' HO270.out).2.2 | (with_reducible refine Kd.C_alloc ?_ _) | (with_reducible refine Kd.C_drewN ?_ _) | (with_reducible refine Kd.C_drew ?_)))
      (case side2 => exact (Kd.R_reads' HO270.out).2.1)
      rintro e w27 ⟨v275, rfl, ho0, hb⟩
      refine ⟨_, rfl, ?_⟩
      have n0_ := Aside0.mk (Kd.R_elder' (rD HO270.out) (Kd.R_base ho0) hb)
      have n1_ := Aside0.mk (Kd.R_lower (Kd.R_new' ho0 (Kd.R_lt (rD HO270.out))) (below_size (hbD HB)))
      have n2_ := Aside0.mk (blk_below (bkD BK265) hb)
      have n3_ := Aside0.mk (blk_below (bkD BK266) hb)
      have n4_ := Aside0.mk (below_step (hbD HB) hb)
      clear HO270 BK265 BK266 HB
      have HO270 := n0_
      have HO276 := n1_
      have BK265 := n2_
      have BK266 := n3_
      have HB := n4_
      clear n0_ n1_ n2_ n3_ n4_
      (try clear hb)
      (try clear hb2)
      (try clear hk)
      (try clear hi)
      (try clear ho0)
      refine hK.out _ _ ⟨(blk_cell BK265.out 0).trans rfl, (blk_cell BK266.out 0).trans rfl, (blk_cell BK266.out 1).trans rfl, (blk_cell BK266.out 2).trans rfl⟩ (fun hHeld => ?_)
      clear hK K
      refine norm_ (a' := ?_) ?_ ?_
      rotate_left
      ·show Act.put _ (some 29) _ = _
       simp only [Act.put, List.setIfInBounds_toArray, List.set_cons_zero, List.set_cons_succ, i64_w, i32_w]
       rfl
      refine pure_ (i := 6) (N := some 23) (v := ?_) (a' := ?_) #[true, true, true, true, true, true, true, false, false, false, false, false] rfl rfl (any_of HT_.out (by kernel_rfl)) (fun _ _ _ h => h) (Or.inl ⟨by rfl, ?_⟩) ?_ ?_
      rotate_left
      ·intro w'
       go_simp
       with_reducible rfl
      rotate_left
      ·simp only [Act.put, List.setIfInBounds_toArray, List.set_cons_zero, List.set_cons_succ, i64_w, i32_w]
       rfl
      refine pure_ (i := 7) (N := some 30) (v := ?_) (a' := ?_) #[true, true, true, true, true, true, true, true, false, false, false, false] rfl rfl (any_of HT_.out (by kernel_rfl)) (fun _ _ _ h => h) (Or.inl ⟨by rfl, ?_⟩) ?_ ?_
      rotate_left
      ·intro w'
       go_simp
       with_reducible rfl
      rotate_left
      ·simp only [Act.put, List.setIfInBounds_toArray, List.set_cons_zero, List.set_cons_succ, i64_w, i32_w]
       rfl
      refine pure_ (i := 8) (N := some 31) (v := ?_) (a' := ?_) #[true, true, true, true, true, true, true, true, true, false, false, false] rfl rfl (any_of HT_.out (by kernel_rfl)) (fun _ _ _ h => h) (Or.inl ⟨by rfl, ?_⟩) ?_ ?_
      rotate_left
      ·intro w'
       go_simp
       with_reducible rfl
      rotate_left
      ·simp only [Act.put, List.setIfInBounds_toArray, List.set_cons_zero, List.set_cons_succ, i64_w, i32_w]
       rfl
      refine one_ (i := 9) (N := some 8) #[true, true, true, true, true, true, true, true, true, true, false, false] rfl rfl (one_of HT_.out (by kernel_rfl)) (by decide) (fun K hK => ?_)
      refine box_step ?hg (N := 8) ?hd (cs := #[.slice none 0 0]) (t := 30) ?hr ?_; (case hd => rfl); (case hg => rfl); (case hr => first | (go_simp; done) | (go_simp; rfl))
      intro gb278 hg w28 hbox hb
      have n0_ := Aside0.mk (Kd.R_below (rD HO270.out) hb)
      have n1_ := Aside0.mk (Kd.R_below (rD HO276.out) hb)
      have n2_ := Aside0.mk (blk_below (bkD BK265) hb)
      have n3_ := Aside0.mk (blk_below (bkD BK266) hb)
      have n4_ := Aside0.mk (below_step (hbD HB) hb)
      have n5_ := Aside0.mk (hbox)
      have n6_ := Aside0.mk ((by rw [hg]; exact (below_size (hbD HB)) : w.heap.size ≤ gb278))
      have n7_ := Aside0.mk ((by rw [hg]; exact (below_size (hbD HB)) : w.heap.size ≤ gb278))
      have n8_ := Aside0.mk ((by rw [hg]; exact Nat.ne_of_lt (blk_lt (bkD BK265)) : gb265 ≠ gb278))
      have n9_ := Aside0.mk ((by rw [hg]; exact Nat.ne_of_gt (blk_lt (bkD BK265)) : gb278 ≠ gb265))
      have n10_ := Aside0.mk ((by rw [hg]; exact Nat.ne_of_lt (blk_lt (bkD BK266)) : gb266 ≠ gb278))
      have n11_ := Aside0.mk ((by rw [hg]; exact Nat.ne_of_gt (blk_lt (bkD BK266)) : gb278 ≠ gb266))
      clear HO270 HO276 BK265 BK266 HB
      have HO270 := n0_
      have HO276 := n1_
      have BK265 := n2_
      have BK266 := n3_
      have HB := n4_
      have BK278 := n5_
      have GW278 := n6_
      have GE278 := n7_
      have NB265_278 := n8_
      have NB278_265 := n9_
      have NB266_278 := n10_
      have NB278_266 := n11_
      clear n0_ n1_ n2_ n3_ n4_ n5_ n6_ n7_ n8_ n9_ n10_ n11_ hb hbox hg
      refine hK.out _ _ ⟨(blk_cell BK265.out 0).trans rfl, (blk_cell BK266.out 0).trans rfl, (blk_cell BK266.out 1).trans rfl, (blk_cell BK266.out 2).trans rfl⟩ (fun hHeld => ?_)
      clear hK K
      refine norm_ (a' := ?_) ?_ ?_
      rotate_left
      ·show Act.put _ (some 8) _ = _
       simp only [Act.put, List.setIfInBounds_toArray, List.set_cons_zero, List.set_cons_succ, i64_w, i32_w]
       rfl
      exact norm_ (by simp only [putAll, Act.put, List.setIfInBounds_toArray, List.set_cons_zero, List.set_cons_succ]) (hCont (.slice Ao26 t268.length co26, v275, gb278) _ ⟨hHeld, (rD (Kd.R_mono HO270.out (fun _ hk => hk.2))), (rD (Kd.R_mono HO276.out (fun _ hk => hk.2))), (bkD BK265), (bkD BK266), (bkD BK278), GW278.out, GE278.out, NB265_278.out, NB278_265.out, NB266_278.out, NB278_266.out, (hbD HB)⟩)
     ·skip
      refine box_step ?hg (N := 8) ?hd (cs := #[.slice none 0 0]) (t := 30) ?hr ?_; (case hd => rfl); (case hg => rfl); (case hr => first | (go_simp; done) | (go_simp; rfl))
      intro gb278 hg w26 hbox hb
      have n0_ := Aside0.mk (Kd.R_below (rD HO270.out) hb)
      have n1_ := Aside0.mk (blk_below (bkD BK265) hb)
      have n2_ := Aside0.mk (blk_below (bkD BK266) hb)
      have n3_ := Aside0.mk (below_step (hbD HB) hb)
      have n4_ := Aside0.mk (hbox)
      have n5_ := Aside0.mk ((by rw [hg]; exact (below_size (hbD HB)) : w.heap.size ≤ gb278))
      have n6_ := Aside0.mk ((by rw [hg]; exact (below_size (hbD HB)) : w.heap.size ≤ gb278))
      have n7_ := Aside0.mk ((by rw [hg]; exact Nat.ne_of_lt (blk_lt (bkD BK265)) : gb265 ≠ gb278))
      have n8_ := Aside0.mk ((by rw [hg]; exact Nat.ne_of_gt (blk_lt (bkD BK265)) : gb278 ≠ gb265))
      have n9_ := Aside0.mk ((by rw [hg]; exact Nat.ne_of_lt (blk_lt (bkD BK266)) : gb266 ≠ gb278))
      have n10_ := Aside0.mk ((by rw [hg]; exact Nat.ne_of_gt (blk_lt (bkD BK266)) : gb278 ≠ gb266))
      clear HO270 BK265 BK266 HB
      have HO270 := n0_
      have BK265 := n1_
      have BK266 := n2_
      have HB := n3_
      have BK278 := n4_
      have GW278 := n5_
      have GE278 := n6_
      have NB265_278 := n7_
      have NB278_265 := n8_
      have NB266_278 := n9_
      have NB278_266 := n10_
      clear n0_ n1_ n2_ n3_ n4_ n5_ n6_ n7_ n8_ n9_ n10_ hb hbox hg
      obtain ⟨Ao27, co27, eo27⟩ := Kd.R_slice HO270.out
      (first | subst eo27 | (injection eo27 with f1_ f2_ f3_; have f4_ := f1_.symm; have f5_ := f3_.symm; clear f1_ f2_ f3_; subst f4_; subst f5_))
      refine hK.out _ _ ⟨(blk_cell BK265.out 0).trans rfl, (blk_cell BK266.out 0).trans rfl, (blk_cell BK266.out 1).trans rfl, (blk_cell BK266.out 2).trans rfl⟩ (fun hHeld => ?_)
      clear hK K
      refine norm_ (a' := ?_) ?_ ?_
      rotate_left
      ·show Act.put _ (some 8) _ = _
       simp only [Act.put, List.setIfInBounds_toArray, List.set_cons_zero, List.set_cons_succ, i64_w, i32_w]
       rfl
      refine one_ (i := 5) (N := some 29) #[true, true, true, true, true, true, false, false, false, true, false, false] rfl rfl (one_of HT_.out (by kernel_rfl)) (by decide) (fun K hK => ?_)
      refine goes_ Tryd.func48 (by kernel_rfl) rfl #[.agg #[.slice Ao27 t268.length co27], .int .i64 a1, .agg #[.int .i64 t271, .int .i64 t272, .int .i64 t273]] (by rfl) rfl rfl (by (try simp only [List.map_toArray, List.map_cons, List.map_nil]); first | done | rfl | (simp only [List.length_drop, List.length_take]; rfl)) ?_
      with_reducible refine (spec_TreeInsert.calls k _ _ t268 a1 t271 t272 t273 t274 t277 _ ?side1 ?side2 A13.out).mono ?_
      (case side1 => repeat (first | exact (Kd.R_reads' HO270.out).2.2 | (with_reducible refine Kd.C_alloc ?_ _) | (with_reducible refine Kd.C_drewN ?_ _) | (with_reducible refine Kd.C_drew ?_)))
      (case side2 => exact (Kd.R_reads' HO270.out).2.1)
      rintro e w28 ⟨v275, rfl, ho0, hb⟩
      refine ⟨_, rfl, ?_⟩
      have n0_ := Aside0.mk (Kd.R_elder' (rD HO270.out) (Kd.R_base ho0) hb)
      have n1_ := Aside0.mk (Kd.R_lower (Kd.R_new' ho0 (Kd.R_lt (rD HO270.out))) (below_size (hbD HB)))
      have n2_ := Aside0.mk (blk_below (bkD BK265) hb)
      have n3_ := Aside0.mk (blk_below (bkD BK266) hb)
      have n4_ := Aside0.mk (blk_below (bkD BK278) hb)
      have n5_ := Aside0.mk (below_step (hbD HB) hb)
      clear HO270 BK265 BK266 BK278 HB
      have HO270 := n0_
      have HO276 := n1_
      have BK265 := n2_
      have BK266 := n3_
      have BK278 := n4_
      have HB := n5_
      clear n0_ n1_ n2_ n3_ n4_ n5_
      (try clear hb)
      (try clear hb2)
      (try clear hk)
      (try clear hi)
      (try clear ho0)
      refine hK.out _ _ ⟨(blk_cell BK265.out 0).trans rfl, (blk_cell BK266.out 0).trans rfl, (blk_cell BK266.out 1).trans rfl, (blk_cell BK266.out 2).trans rfl⟩ (fun hHeld => ?_)
      clear hK K
      refine norm_ (a' := ?_) ?_ ?_
      rotate_left
      ·show Act.put _ (some 29) _ = _
       simp only [Act.put, List.setIfInBounds_toArray, List.set_cons_zero, List.set_cons_succ, i64_w, i32_w]
       rfl
      refine pure_ (i := 6) (N := some 23) (v := ?_) (a' := ?_) #[true, true, true, true, true, true, true, false, false, true, false, false] rfl rfl (any_of HT_.out (by kernel_rfl)) (fun _ _ _ h => h) (Or.inl ⟨by rfl, ?_⟩) ?_ ?_
      rotate_left
      ·intro w'
       go_simp
       with_reducible rfl
      rotate_left
      ·simp only [Act.put, List.setIfInBounds_toArray, List.set_cons_zero, List.set_cons_succ, i64_w, i32_w]
       rfl
      refine pure_ (i := 7) (N := some 30) (v := ?_) (a' := ?_) #[true, true, true, true, true, true, true, true, false, true, false, false] rfl rfl (any_of HT_.out (by kernel_rfl)) (fun _ _ _ h => h) (Or.inl ⟨by rfl, ?_⟩) ?_ ?_
      rotate_left
      ·intro w'
       go_simp
       with_reducible rfl
      rotate_left
      ·simp only [Act.put, List.setIfInBounds_toArray, List.set_cons_zero, List.set_cons_succ, i64_w, i32_w]
       rfl
      refine pure_ (i := 8) (N := some 31) (v := ?_) (a' := ?_) #[true, true, true, true, true, true, true, true, true, true, false, false] rfl rfl (any_of HT_.out (by kernel_rfl)) (fun _ _ _ h => h) (Or.inl ⟨by rfl, ?_⟩) ?_ ?_
      rotate_left
      ·intro w'
       go_simp
       with_reducible rfl
      rotate_left
      ·simp only [Act.put, List.setIfInBounds_toArray, List.set_cons_zero, List.set_cons_succ, i64_w, i32_w]
       rfl
      exact norm_ (by simp only [putAll, Act.put, List.setIfInBounds_toArray, List.set_cons_zero, List.set_cons_succ]) (hCont (.slice Ao27 t268.length co27, v275, gb278) _ ⟨hHeld, (rD (Kd.R_mono HO270.out (fun _ hk => hk.2))), (rD (Kd.R_mono HO276.out (fun _ hk => hk.2))), (bkD BK265), (bkD BK266), (bkD BK278), GW278.out, GE278.out, NB265_278.out, NB278_265.out, NB266_278.out, NB278_266.out, (hbD HB)⟩)
    ·skip
     refine box_step ?hg (N := 8) ?hd (cs := #[.slice none 0 0]) (t := 30) ?hr ?_; (case hd => rfl); (case hg => rfl); (case hr => first | (go_simp; done) | (go_simp; rfl))
     intro gb278 hg w25 hbox hb
     have n0_ := Aside0.mk (Kd.R_below (rD HO270.out) hb)
     have n1_ := Aside0.mk (blk_below (bkD BK265) hb)
     have n2_ := Aside0.mk (blk_below (bkD BK266) hb)
     have n3_ := Aside0.mk (below_step (hbD HB) hb)
     have n4_ := Aside0.mk (hbox)
     have n5_ := Aside0.mk ((by rw [hg]; exact (below_size (hbD HB)) : w.heap.size ≤ gb278))
     have n6_ := Aside0.mk ((by rw [hg]; exact (below_size (hbD HB)) : w.heap.size ≤ gb278))
     have n7_ := Aside0.mk ((by rw [hg]; exact Nat.ne_of_lt (blk_lt (bkD BK265)) : gb265 ≠ gb278))
     have n8_ := Aside0.mk ((by rw [hg]; exact Nat.ne_of_gt (blk_lt (bkD BK265)) : gb278 ≠ gb265))
     have n9_ := Aside0.mk ((by rw [hg]; exact Nat.ne_of_lt (blk_lt (bkD BK266)) : gb266 ≠ gb278))
     have n10_ := Aside0.mk ((by rw [hg]; exact Nat.ne_of_gt (blk_lt (bkD BK266)) : gb278 ≠ gb266))
     clear HO270 BK265 BK266 HB
     have HO270 := n0_
     have BK265 := n1_
     have BK266 := n2_
     have HB := n3_
     have BK278 := n4_
     have GW278 := n5_
     have GE278 := n6_
     have NB265_278 := n7_
     have NB278_265 := n8_
     have NB266_278 := n9_
     have NB278_266 := n10_
     clear n0_ n1_ n2_ n3_ n4_ n5_ n6_ n7_ n8_ n9_ n10_ hb hbox hg
     refine hK.out _ _ ⟨(blk_cell BK265.out 0).trans rfl, (blk_cell BK266.out 0).trans rfl, (blk_cell BK266.out 1).trans rfl, (blk_cell BK266.out 2).trans rfl⟩ (fun hHeld => ?_)
     clear hK K
     refine norm_ (a' := ?_) ?_ ?_
     rotate_left
     ·show Act.put _ (some 8) _ = _
      simp only [Act.put, List.setIfInBounds_toArray, List.set_cons_zero, List.set_cons_succ, i64_w, i32_w]
      rfl
     refine one_ (i := 4) (N := some 28) #[true, true, true, true, true, false, false, false, false, true, false, false] rfl rfl (one_of HT_.out (by kernel_rfl)) (by decide) (fun K hK => ?_)
     refine goes_ Tryd.func49 (by kernel_rfl) rfl #[.agg #[.int .i64 a2_0, .int .i64 a2_1, .int .i64 a2_2]] (by rfl) rfl rfl (by (try simp only [List.map_toArray, List.map_cons, List.map_nil]); first | done | rfl | (simp only [List.length_drop, List.length_take]; rfl)) ?_
     with_reducible refine (laws_toPiece.calls a2_0 a2_1 a2_2 t271 t272 t273 _ A12.out).mono ?_
     rintro e w26 ⟨rfl, hb⟩
     refine ⟨_, rfl, ?_⟩
     have n0_ := Aside0.mk (Kd.R_below (rD HO270.out) hb)
     have n1_ := Aside0.mk (blk_below (bkD BK265) hb)
     have n2_ := Aside0.mk (blk_below (bkD BK266) hb)
     have n3_ := Aside0.mk (blk_below (bkD BK278) hb)
     have n4_ := Aside0.mk (below_step (hbD HB) hb)
     clear HO270 BK265 BK266 BK278 HB
     have HO270 := n0_
     have BK265 := n1_
     have BK266 := n2_
     have BK278 := n3_
     have HB := n4_
     clear n0_ n1_ n2_ n3_ n4_
     (try clear hb)
     (try clear hb2)
     (try clear hk)
     (try clear hi)
     obtain ⟨Ao27, co27, eo27⟩ := Kd.R_slice HO270.out
     (first | subst eo27 | (injection eo27 with f1_ f2_ f3_; have f4_ := f1_.symm; have f5_ := f3_.symm; clear f1_ f2_ f3_; subst f4_; subst f5_))
     refine hK.out _ _ ⟨(blk_cell BK265.out 0).trans rfl, (blk_cell BK266.out 0).trans rfl, (blk_cell BK266.out 1).trans rfl, (blk_cell BK266.out 2).trans rfl⟩ (fun hHeld => ?_)
     clear hK K
     refine norm_ (a' := ?_) ?_ ?_
     rotate_left
     ·show Act.put _ (some 28) _ = _
      simp only [Act.put, List.setIfInBounds_toArray, List.set_cons_zero, List.set_cons_succ, i64_w, i32_w]
      rfl
     refine one_ (i := 5) (N := some 29) #[true, true, true, true, true, true, false, false, false, true, false, false] rfl rfl (one_of HT_.out (by kernel_rfl)) (by decide) (fun K hK => ?_)
     refine goes_ Tryd.func48 (by kernel_rfl) rfl #[.agg #[.slice Ao27 t268.length co27], .int .i64 a1, .agg #[.int .i64 t271, .int .i64 t272, .int .i64 t273]] (by rfl) rfl rfl (by (try simp only [List.map_toArray, List.map_cons, List.map_nil]); first | done | rfl | (simp only [List.length_drop, List.length_take]; rfl)) ?_
     with_reducible refine (spec_TreeInsert.calls k _ _ t268 a1 t271 t272 t273 t274 t277 _ ?side1 ?side2 A13.out).mono ?_
     (case side1 => repeat (first | exact (Kd.R_reads' HO270.out).2.2 | (with_reducible refine Kd.C_alloc ?_ _) | (with_reducible refine Kd.C_drewN ?_ _) | (with_reducible refine Kd.C_drew ?_)))
     (case side2 => exact (Kd.R_reads' HO270.out).2.1)
     rintro e w28 ⟨v275, rfl, ho0, hb⟩
     refine ⟨_, rfl, ?_⟩
     have n0_ := Aside0.mk (Kd.R_elder' (rD HO270.out) (Kd.R_base ho0) hb)
     have n1_ := Aside0.mk (Kd.R_lower (Kd.R_new' ho0 (Kd.R_lt (rD HO270.out))) (below_size (hbD HB)))
     have n2_ := Aside0.mk (blk_below (bkD BK265) hb)
     have n3_ := Aside0.mk (blk_below (bkD BK266) hb)
     have n4_ := Aside0.mk (blk_below (bkD BK278) hb)
     have n5_ := Aside0.mk (below_step (hbD HB) hb)
     clear HO270 BK265 BK266 BK278 HB
     have HO270 := n0_
     have HO276 := n1_
     have BK265 := n2_
     have BK266 := n3_
     have BK278 := n4_
     have HB := n5_
     clear n0_ n1_ n2_ n3_ n4_ n5_
     (try clear hb)
     (try clear hb2)
     (try clear hk)
     (try clear hi)
     (try clear ho0)
     refine hK.out _ _ ⟨(blk_cell BK265.out 0).trans rfl, (blk_cell BK266.out 0).trans rfl, (blk_cell BK266.out 1).trans rfl, (blk_cell BK266.out 2).trans rfl⟩ (fun hHeld => ?_)
     clear hK K
     refine norm_ (a' := ?_) ?_ ?_
     rotate_left
     ·show Act.put _ (some 29) _ = _
      simp only [Act.put, List.setIfInBounds_toArray, List.set_cons_zero, List.set_cons_succ, i64_w, i32_w]
      rfl
     refine pure_ (i := 6) (N := some 23) (v := ?_) (a' := ?_) #[true, true, true, true, true, true, true, false, false, true, false, false] rfl rfl (any_of HT_.out (by kernel_rfl)) (fun _ _ _ h => h) (Or.inl ⟨by rfl, ?_⟩) ?_ ?_
     rotate_left
     ·intro w'
      go_simp
      with_reducible rfl
     rotate_left
     ·simp only [Act.put, List.setIfInBounds_toArray, List.set_cons_zero, List.set_cons_succ, i64_w, i32_w]
      rfl
     refine pure_ (i := 7) (N := some 30) (v := ?_) (a' := ?_) #[true, true, true, true, true, true, true, true, false, true, false, false] rfl rfl (any_of HT_.out (by kernel_rfl)) (fun _ _ _ h => h) (Or.inl ⟨by rfl, ?_⟩) ?_ ?_
     rotate_left
     ·intro w'
      go_simp
      with_reducible rfl
     rotate_left
     ·simp only [Act.put, List.setIfInBounds_toArray, List.set_cons_zero, List.set_cons_succ, i64_w, i32_w]
      rfl
     refine pure_ (i := 8) (N := some 31) (v := ?_) (a' := ?_) #[true, true, true, true, true, true, true, true, true, true, false, false] rfl rfl (any_of HT_.out (by kernel_rfl)) (fun _ _ _ h => h) (Or.inl ⟨by rfl, ?_⟩) ?_ ?_
     rotate_left
     ·intro w'
      go_simp
      with_reducible rfl
     rotate_left
     ·simp only [Act.put, List.setIfInBounds_toArray, List.set_cons_zero, List.set_cons_succ, i64_w, i32_w]
      rfl
     exact norm_ (by simp only [putAll, Act.put, List.setIfInBounds_toArray, List.set_cons_zero, List.set_cons_succ]) (hCont (.slice Ao27 t268.length co27, v275, gb278) _ ⟨hHeld, (rD (Kd.R_mono HO270.out (fun _ hk => hk.2))), (rD (Kd.R_mono HO276.out (fun _ hk => hk.2))), (bkD BK265), (bkD BK266), (bkD BK278), GW278.out, GE278.out, NB265_278.out, NB278_265.out, NB266_278.out, NB278_266.out, (hbD HB)⟩)
   ·skip
    refine box_step ?hg (N := 8) ?hd (cs := #[.slice none 0 0]) (t := 30) ?hr ?_; (case hd => rfl); (case hg => rfl); (case hr => first | (go_simp; done) | (go_simp; rfl))
    intro gb278 hg w24 hbox hb
    have n0_ := Aside0.mk (blk_below (bkD BK265) hb)
    have n1_ := Aside0.mk (blk_below (bkD BK266) hb)
    have n2_ := Aside0.mk (below_step (hbD HB) hb)
    have n3_ := Aside0.mk (hbox)
    have n4_ := Aside0.mk ((by rw [hg]; exact (below_size (hbD HB)) : w.heap.size ≤ gb278))
    have n5_ := Aside0.mk ((by rw [hg]; exact (below_size (hbD HB)) : w.heap.size ≤ gb278))
    have n6_ := Aside0.mk ((by rw [hg]; exact Nat.ne_of_lt (blk_lt (bkD BK265)) : gb265 ≠ gb278))
    have n7_ := Aside0.mk ((by rw [hg]; exact Nat.ne_of_gt (blk_lt (bkD BK265)) : gb278 ≠ gb265))
    have n8_ := Aside0.mk ((by rw [hg]; exact Nat.ne_of_lt (blk_lt (bkD BK266)) : gb266 ≠ gb278))
    have n9_ := Aside0.mk ((by rw [hg]; exact Nat.ne_of_gt (blk_lt (bkD BK266)) : gb278 ≠ gb266))
    clear BK265 BK266 HB
    have BK265 := n0_
    have BK266 := n1_
    have HB := n2_
    have BK278 := n3_
    have GW278 := n4_
    have GE278 := n5_
    have NB265_278 := n6_
    have NB278_265 := n7_
    have NB266_278 := n8_
    have NB278_266 := n9_
    clear n0_ n1_ n2_ n3_ n4_ n5_ n6_ n7_ n8_ n9_ hb hbox hg
    refine hK.out _ _ ⟨(blk_cell BK265.out 0).trans rfl, (blk_cell BK266.out 0).trans rfl, (blk_cell BK266.out 1).trans rfl, (blk_cell BK266.out 2).trans rfl⟩ (fun hHeld => ?_)
    clear hK K
    refine norm_ (a' := ?_) ?_ ?_
    rotate_left
    ·show Act.put _ (some 8) _ = _
     simp only [Act.put, List.setIfInBounds_toArray, List.set_cons_zero, List.set_cons_succ, i64_w, i32_w]
     rfl
    refine one_ (i := 1) (N := some 25) #[true, true, true, true, false, false, false, false, false, true, false, false] rfl rfl (one_of HT_.out (by kernel_rfl)) (by decide) (fun K hK => ?_)
    refine goes_ Tryd.func17 (by kernel_rfl) rfl #[.agg #[.slice A0_0 l0_0.length c0_0]] (by rfl) rfl rfl (by (try simp only [List.map_toArray, List.map_cons, List.map_nil]); first | done | rfl | (simp only [List.length_drop, List.length_take]; rfl)) ?_
    with_reducible refine (laws_toTree.calls k _ _ l0_0 t268 _ ?side1 ?side2 A11.out).mono ?_
    (case side1 => repeat (first | exact (Kd.C_below HR0_0.out HB.out) | (with_reducible refine Kd.C_alloc ?_ _) | (with_reducible refine Kd.C_drewN ?_ _) | (with_reducible refine Kd.C_drew ?_)))
    (case side2 => exact HC0_0.out)
    rintro e w25 ⟨v269, rfl, ho0, hb⟩
    refine ⟨_, rfl, ?_⟩
    have n0_ := Aside0.mk (Kd.R_lower ho0 (below_size (hbD HB)))
    have n1_ := Aside0.mk (blk_below (bkD BK265) hb)
    have n2_ := Aside0.mk (blk_below (bkD BK266) hb)
    have n3_ := Aside0.mk (blk_below (bkD BK278) hb)
    have n4_ := Aside0.mk (below_step (hbD HB) hb)
    clear BK265 BK266 BK278 HB
    have HO270 := n0_
    have BK265 := n1_
    have BK266 := n2_
    have BK278 := n3_
    have HB := n4_
    clear n0_ n1_ n2_ n3_ n4_
    (try clear hb)
    (try clear hb2)
    (try clear hk)
    (try clear hi)
    (try clear ho0)
    refine hK.out _ _ ⟨(blk_cell BK265.out 0).trans rfl, (blk_cell BK266.out 0).trans rfl, (blk_cell BK266.out 1).trans rfl, (blk_cell BK266.out 2).trans rfl⟩ (fun hHeld => ?_)
    clear hK K
    refine norm_ (a' := ?_) ?_ ?_
    rotate_left
    ·show Act.put _ (some 25) _ = _
     simp only [Act.put, List.setIfInBounds_toArray, List.set_cons_zero, List.set_cons_succ, i64_w, i32_w]
     rfl
    refine one_ (i := 4) (N := some 28) #[true, true, true, true, true, false, false, false, false, true, false, false] rfl rfl (one_of HT_.out (by kernel_rfl)) (by decide) (fun K hK => ?_)
    refine goes_ Tryd.func49 (by kernel_rfl) rfl #[.agg #[.int .i64 a2_0, .int .i64 a2_1, .int .i64 a2_2]] (by rfl) rfl rfl (by (try simp only [List.map_toArray, List.map_cons, List.map_nil]); first | done | rfl | (simp only [List.length_drop, List.length_take]; rfl)) ?_
    with_reducible refine (laws_toPiece.calls a2_0 a2_1 a2_2 t271 t272 t273 _ A12.out).mono ?_
    rintro e w26 ⟨rfl, hb⟩
    refine ⟨_, rfl, ?_⟩
    have n0_ := Aside0.mk (Kd.R_below (rD HO270.out) hb)
    have n1_ := Aside0.mk (blk_below (bkD BK265) hb)
    have n2_ := Aside0.mk (blk_below (bkD BK266) hb)
    have n3_ := Aside0.mk (blk_below (bkD BK278) hb)
    have n4_ := Aside0.mk (below_step (hbD HB) hb)
    clear HO270 BK265 BK266 BK278 HB
    have HO270 := n0_
    have BK265 := n1_
    have BK266 := n2_
    have BK278 := n3_
    have HB := n4_
    clear n0_ n1_ n2_ n3_ n4_
    (try clear hb)
    (try clear hb2)
    (try clear hk)
    (try clear hi)
    obtain ⟨Ao27, co27, eo27⟩ := Kd.R_slice HO270.out
    (first | subst eo27 | (injection eo27 with f1_ f2_ f3_; have f4_ := f1_.symm; have f5_ := f3_.symm; clear f1_ f2_ f3_; subst f4_; subst f5_))
    refine hK.out _ _ ⟨(blk_cell BK265.out 0).trans rfl, (blk_cell BK266.out 0).trans rfl, (blk_cell BK266.out 1).trans rfl, (blk_cell BK266.out 2).trans rfl⟩ (fun hHeld => ?_)
    clear hK K
    refine norm_ (a' := ?_) ?_ ?_
    rotate_left
    ·show Act.put _ (some 28) _ = _
     simp only [Act.put, List.setIfInBounds_toArray, List.set_cons_zero, List.set_cons_succ, i64_w, i32_w]
     rfl
    refine one_ (i := 5) (N := some 29) #[true, true, true, true, true, true, false, false, false, true, false, false] rfl rfl (one_of HT_.out (by kernel_rfl)) (by decide) (fun K hK => ?_)
    refine goes_ Tryd.func48 (by kernel_rfl) rfl #[.agg #[.slice Ao27 t268.length co27], .int .i64 a1, .agg #[.int .i64 t271, .int .i64 t272, .int .i64 t273]] (by rfl) rfl rfl (by (try simp only [List.map_toArray, List.map_cons, List.map_nil]); first | done | rfl | (simp only [List.length_drop, List.length_take]; rfl)) ?_
    with_reducible refine (spec_TreeInsert.calls k _ _ t268 a1 t271 t272 t273 t274 t277 _ ?side1 ?side2 A13.out).mono ?_
    (case side1 => repeat (first | exact (Kd.R_reads' HO270.out).2.2 | (with_reducible refine Kd.C_alloc ?_ _) | (with_reducible refine Kd.C_drewN ?_ _) | (with_reducible refine Kd.C_drew ?_)))
    (case side2 => exact (Kd.R_reads' HO270.out).2.1)
    rintro e w28 ⟨v275, rfl, ho0, hb⟩
    refine ⟨_, rfl, ?_⟩
    have n0_ := Aside0.mk (Kd.R_elder' (rD HO270.out) (Kd.R_base ho0) hb)
    have n1_ := Aside0.mk (Kd.R_lower (Kd.R_new' ho0 (Kd.R_lt (rD HO270.out))) (below_size (hbD HB)))
    have n2_ := Aside0.mk (blk_below (bkD BK265) hb)
    have n3_ := Aside0.mk (blk_below (bkD BK266) hb)
    have n4_ := Aside0.mk (blk_below (bkD BK278) hb)
    have n5_ := Aside0.mk (below_step (hbD HB) hb)
    clear HO270 BK265 BK266 BK278 HB
    have HO270 := n0_
    have HO276 := n1_
    have BK265 := n2_
    have BK266 := n3_
    have BK278 := n4_
    have HB := n5_
    clear n0_ n1_ n2_ n3_ n4_ n5_
    (try clear hb)
    (try clear hb2)
    (try clear hk)
    (try clear hi)
    (try clear ho0)
    refine hK.out _ _ ⟨(blk_cell BK265.out 0).trans rfl, (blk_cell BK266.out 0).trans rfl, (blk_cell BK266.out 1).trans rfl, (blk_cell BK266.out 2).trans rfl⟩ (fun hHeld => ?_)
    clear hK K
    refine norm_ (a' := ?_) ?_ ?_
    rotate_left
    ·show Act.put _ (some 29) _ = _
     simp only [Act.put, List.setIfInBounds_toArray, List.set_cons_zero, List.set_cons_succ, i64_w, i32_w]
     rfl
    refine pure_ (i := 6) (N := some 23) (v := ?_) (a' := ?_) #[true, true, true, true, true, true, true, false, false, true, false, false] rfl rfl (any_of HT_.out (by kernel_rfl)) (fun _ _ _ h => h) (Or.inl ⟨by rfl, ?_⟩) ?_ ?_
    rotate_left
    ·intro w'
     go_simp
     with_reducible rfl
    rotate_left
    ·simp only [Act.put, List.setIfInBounds_toArray, List.set_cons_zero, List.set_cons_succ, i64_w, i32_w]
     rfl
    refine pure_ (i := 7) (N := some 30) (v := ?_) (a' := ?_) #[true, true, true, true, true, true, true, true, false, true, false, false] rfl rfl (any_of HT_.out (by kernel_rfl)) (fun _ _ _ h => h) (Or.inl ⟨by rfl, ?_⟩) ?_ ?_
    rotate_left
    ·intro w'
     go_simp
     with_reducible rfl
    rotate_left
    ·simp only [Act.put, List.setIfInBounds_toArray, List.set_cons_zero, List.set_cons_succ, i64_w, i32_w]
     rfl
    refine pure_ (i := 8) (N := some 31) (v := ?_) (a' := ?_) #[true, true, true, true, true, true, true, true, true, true, false, false] rfl rfl (any_of HT_.out (by kernel_rfl)) (fun _ _ _ h => h) (Or.inl ⟨by rfl, ?_⟩) ?_ ?_
    rotate_left
    ·intro w'
     go_simp
     with_reducible rfl
    rotate_left
    ·simp only [Act.put, List.setIfInBounds_toArray, List.set_cons_zero, List.set_cons_succ, i64_w, i32_w]
     rfl
    exact norm_ (by simp only [putAll, Act.put, List.setIfInBounds_toArray, List.set_cons_zero, List.set_cons_succ]) (hCont (.slice Ao27 t268.length co27, v275, gb278) _ ⟨hHeld, (rD (Kd.R_mono HO270.out (fun _ hk => hk.2))), (rD (Kd.R_mono HO276.out (fun _ hk => hk.2))), (bkD BK265), (bkD BK266), (bkD BK278), GW278.out, GE278.out, NB265_278.out, NB278_265.out, NB266_278.out, NB278_266.out, (hbD HB)⟩)
  rintro ⟨v269, v275, gb278⟩ w29 ⟨hS_, h0_, h1_, h2_, h3_, h4_, h5_, h6_, h7_, h8_, h9_, h10_, h11_⟩
  have n0_ : Aside0 (Kd.R k54 54 w29 w.heap.size (fun k_ => some k_ ≠ (v275 : Value).ownBlock) v269 t268) := ⟨h0_⟩
  have n1_ : Aside0 (Kd.R k54 54 w29 w.heap.size (fun k_ => some k_ ≠ (v269 : Value).ownBlock) v275 t274) := ⟨h1_⟩
  have n2_ : Aside0 (w29.heap[gb265]? = some (.cells #[.slice A0_0 l0_0.length c0_0] 24 (0, 0))) := ⟨h2_⟩
  have n3_ : Aside0 (w29.heap[gb266]? = some (.cells #[.int .i64 a2_0, .int .i64 a2_1, .int .i64 a2_2] 76 (0, 0))) := ⟨h3_⟩
  have n4_ : Aside0 (w29.heap[gb278]? = some (.cells #[.slice none 0 0] 30 (0, 0))) := ⟨h4_⟩
  have n5_ : Aside0 (w.heap.size ≤ gb278) := ⟨h5_⟩
  have n6_ : Aside0 (w.heap.size ≤ gb278) := ⟨h6_⟩
  have n7_ : Aside0 (gb265 ≠ gb278) := ⟨h7_⟩
  have n8_ : Aside0 (gb278 ≠ gb265) := ⟨h8_⟩
  have n9_ : Aside0 (gb266 ≠ gb278) := ⟨h9_⟩
  have n10_ : Aside0 (gb278 ≠ gb266) := ⟨h10_⟩
  have n11_ : Aside0 (Below w.heap.size w w29) := ⟨h11_⟩
  clear BK265 BK266 HB h0_ h1_ h2_ h3_ h4_ h5_ h6_ h7_ h8_ h9_ h10_ h11_
  have HO270 := n0_
  have HO276 := n1_
  have BK265 := n2_
  have BK266 := n3_
  have BK278 := n4_
  have GW278 := n5_
  have GE278 := n6_
  have NB265_278 := n7_
  have NB278_265 := n8_
  have NB266_278 := n9_
  have NB278_266 := n10_
  have HB := n11_
  clear n0_ n1_ n2_ n3_ n4_ n5_ n6_ n7_ n8_ n9_ n10_ n11_
  have hHeld : w29.cell? ⟨gb265, 0, none⟩ = some (.slice A0_0 l0_0.length c0_0) ∧ w29.cell? ⟨gb266, 0, none⟩ = some (.int .i64 a2_0) ∧ w29.cell? ⟨gb266, 1, none⟩ = some (.int .i64 a2_1) ∧ w29.cell? ⟨gb266, 2, none⟩ = some (.int .i64 a2_2) := hS_
  obtain ⟨Ao30, co30, eo30⟩ := Kd.R_slice HO276.out
  (first | subst eo30 | (injection eo30 with f1_ f2_ f3_; have f4_ := f1_.symm; have f5_ := f3_.symm; clear f1_ f2_ f3_; subst f4_; subst f5_))
  refine norm_ (a' := ?_) ?_ ?_
  rotate_left
  ·simp only [putAll, Act.put, List.setIfInBounds_toArray, List.set_cons_zero, List.set_cons_succ]
   rfl
  refine one_ (i := 10) (N := none) #[true, true, true, true, true, true, true, true, true, true, true, false] rfl rfl (one_of HT_.out (by kernel_rfl)) (by decide) (fun K hK => ?_)
  have hs31 : w29.cell? ⟨gb278, 0, none⟩ = some (.slice none 0 0) := (blk_cell BK278.out 0).trans rfl
  have hfs31 := blk_frozen BK278.out 0
  have hns31_0 := NB265_278.out
  have hns31_1 := NB266_278.out
  have hms31_0 := NB278_265.out
  have hms31_1 := NB278_266.out
  refine skip_ (w1 := ?_) (by rfl) rfl ?_ ?_
  rotate_left
  ·go_simp
   rfl
  refine hK.out _ _ ⟨((cell_far (p := ⟨gb278, _, none⟩) NB265_278.out _).trans (hHeld.1)), ((cell_far (p := ⟨gb278, _, none⟩) NB266_278.out _).trans (hHeld.2.1)), ((cell_far (p := ⟨gb278, _, none⟩) NB266_278.out _).trans (hHeld.2.2.1)), ((cell_far (p := ⟨gb278, _, none⟩) NB266_278.out _).trans (hHeld.2.2.2))⟩ (fun hHeld => ?_)
  clear hK K
  refine pure_ (i := 11) (N := some 9) (v := ?_) (a' := ?_) #[true, true, true, true, true, true, true, true, true, true, true, true] rfl rfl (any_of HT_.out (by kernel_rfl)) (fun _ _ _ h => h) (Or.inl ⟨by rfl, ?_⟩) ?_ ?_
  rotate_left
  ·intro w'
   go_simp
   with_reducible rfl
  rotate_left
  ·simp only [Act.put, List.setIfInBounds_toArray, List.set_cons_zero, List.set_cons_succ, i64_w, i32_w]
   rfl
  refine done_ (done_of HT_.out (by kernel_rfl)) ?_
  have hnb32 := NB265_278.out
  have hnc32 := NB278_265.out
  have hcz33_0 : w29.cell? ⟨gb265, 0, none⟩ = some (.slice A0_0 l0_0.length c0_0) := (blk_cell BK265.out 0).trans rfl
  have hfz33_0 := blk_frozen BK265.out 0
  try go_wp2_with (first | ((with_reducible refine gate_callee (f := 17) rfl ?_); refine goesL_ (some 33) rfl rfl Tryd.func17 (by kernel_rfl) rfl #[.agg #[.slice A0_0 l0_0.length c0_0]] rfl (by (try simp only [List.map_toArray, List.map_cons, List.map_nil]); first | done | rfl | (simp only [List.length_drop, List.length_take]; rfl)) ?_; (with_reducible refine (laws_toTree.calls k _ _ l0_0 t279 _ ?side1 ?side2 A14.out).mono ?_); (case side1 => exact Kd.C_below HR0_0.out (hbD HB)); (case side2 => exact HC0_0.out); rintro e w34 ⟨v280, rfl, ho0, hb⟩; refine ⟨_, rfl, ?_⟩; have n0_ := Aside0.mk (Kd.R_elder' (rD ((Kd.R_mono (Kd.R_far (p := ⟨gb278, 0, none⟩) (Kd.R_types HO270.out BK278.out (by decide)) (fun _ hk => hk.2) (.slice Ao30 t274.length co30)) (fun _ h_ => h_.1)))) (Kd.R_base ho0) hb); have n1_ := Aside0.mk (Kd.R_elder' (rD ((Kd.R_mono (Kd.R_far (p := ⟨gb278, 0, none⟩) (Kd.R_types HO276.out BK278.out (by decide)) (fun _ hk => hk.2) (.slice Ao30 t274.length co30)) (fun _ h_ => h_.1)))) (Kd.R_base ho0) hb); have n2_ := Aside0.mk (Kd.R_lower (Kd.R_new' (Kd.R_new' ho0 (Kd.R_lt (rD ((Kd.R_mono (Kd.R_far (p := ⟨gb278, 0, none⟩) (Kd.R_types HO270.out BK278.out (by decide)) (fun _ hk => hk.2) (.slice Ao30 t274.length co30)) (fun _ h_ => h_.1)))))) (Kd.R_lt (rD ((Kd.R_mono (Kd.R_far (p := ⟨gb278, 0, none⟩) (Kd.R_types HO276.out BK278.out (by decide)) (fun _ hk => hk.2) (.slice Ao30 t274.length co30)) (fun _ h_ => h_.1)))))) (below_size (hbD HB))); have n3_ := Aside0.mk (blk_below (g := gb265) (o := .cells #[.slice A0_0 l0_0.length c0_0] 24 (0, 0)) (by (with_reducible repeat (first | refine blk_drewN ?_ _ | refine blk_drew ?_ | refine blk_alloc ?_ _)); refine blk_far ?_ NB265_278.out _; (with_reducible repeat (first | refine blk_drewN ?_ _ | refine blk_drew ?_ | refine blk_alloc ?_ _)); exact BK265.out) hb); have n4_ := Aside0.mk (blk_below (g := gb266) (o := .cells #[.int .i64 a2_0, .int .i64 a2_1, .int .i64 a2_2] 76 (0, 0)) (by (with_reducible repeat (first | refine blk_drewN ?_ _ | refine blk_drew ?_ | refine blk_alloc ?_ _)); refine blk_far ?_ NB266_278.out _; (with_reducible repeat (first | refine blk_drewN ?_ _ | refine blk_drew ?_ | refine blk_alloc ?_ _)); exact BK266.out) hb); have n5_ := Aside0.mk (blk_below (g := gb278) (o := .cells #[.slice Ao30 t274.length co30] 30 (0, 0)) (by (with_reducible repeat (first | refine blk_drewN ?_ _ | refine blk_drew ?_ | refine blk_alloc ?_ _)); refine blk_put (cs := #[.slice none 0 0]) ?_ 0 _ rfl; (with_reducible repeat (first | refine blk_drewN ?_ _ | refine blk_drew ?_ | refine blk_alloc ?_ _)); exact BK278.out) hb); have n6_ := Aside0.mk (below_step (hbD HB) hb); clear HO270 HO276 BK265 BK266 BK278 HB; have HO270 := n0_; have HO276 := n1_; have HO281 := n2_; have BK265 := n3_; have BK266 := n4_; have BK278 := n5_; have HB := n6_; clear n0_ n1_ n2_ n3_ n4_ n5_ n6_; (try clear hb); (try clear hb2); (try clear hk); (try clear hi); (try clear ho0)) | ((with_reducible refine gate_dst (N := 10) rfl ?_); refine box_event ?hg (N := 10) ?hd (cs := #[.slice none 0 0]) (t := 30) ?hr ?_; (case hd => rfl); (case hg => rfl); (case hr => first | (go_simp; done) | (go_simp; rfl)); intro gb282 hg w35 hbox hb; have n0_ := Aside0.mk (Kd.R_below (rD HO270.out) hb); have n1_ := Aside0.mk (Kd.R_below (rD HO276.out) hb); have n2_ := Aside0.mk (Kd.R_below (rD HO281.out) hb); have n3_ := Aside0.mk (blk_below (bkD BK265) hb); have n4_ := Aside0.mk (blk_below (bkD BK266) hb); have n5_ := Aside0.mk (blk_below (bkD BK278) hb); have n6_ := Aside0.mk (below_step (hbD HB) hb); have n7_ := Aside0.mk (hbox); have n8_ := Aside0.mk ((by rw [hg]; exact (below_size (hbD HB)) : w.heap.size ≤ gb282)); have n9_ := n8_; have n10_ := Aside0.mk ((by rw [hg]; exact Nat.ne_of_lt (blk_lt (bkD BK265)) : gb265 ≠ gb282)); have n11_ := Aside0.mk ((by rw [hg]; exact Nat.ne_of_gt (blk_lt (bkD BK265)) : gb282 ≠ gb265)); have n12_ := Aside0.mk ((by rw [hg]; exact Nat.ne_of_lt (blk_lt (bkD BK266)) : gb266 ≠ gb282)); have n13_ := Aside0.mk ((by rw [hg]; exact Nat.ne_of_gt (blk_lt (bkD BK266)) : gb282 ≠ gb266)); have n14_ := Aside0.mk ((by rw [hg]; exact Nat.ne_of_lt (blk_lt (bkD BK278)) : gb278 ≠ gb282)); have n15_ := Aside0.mk ((by rw [hg]; exact Nat.ne_of_gt (blk_lt (bkD BK278)) : gb282 ≠ gb278)); clear HO270 HO276 HO281 BK265 BK266 BK278 HB; have HO270 := n0_; have HO276 := n1_; have HO281 := n2_; have BK265 := n3_; have BK266 := n4_; have BK278 := n5_; have HB := n6_; have BK282 := n7_; have GW282 := n8_; have GE282 := n9_; have NB265_282 := n10_; have NB282_265 := n11_; have NB266_282 := n12_; have NB282_266 := n13_; have NB278_282 := n14_; have NB282_278 := n15_; clear n0_ n1_ n2_ n3_ n4_ n5_ n6_ n7_ n8_ n9_ n10_ n11_ n12_ n13_ n14_ n15_ hb hbox hg; obtain ⟨Ao36, co36, eo36⟩ := Kd.R_slice HO281.out; subst eo36; have hnb37 := NB282_265.out; have hnc37 := NB265_282.out; have hnb38 := NB282_266.out; have hnc38 := NB266_282.out; have hnb39 := NB282_278.out; have hnc39 := NB278_282.out; have hcz40_0 : w35.cell? ⟨gb282, 0, none⟩ = some (.slice none 0 0) := (blk_cell BK282.out 0).trans rfl; have hfz40_0 := blk_frozen BK282.out 0))
  have n0_ : Aside0 (Kd.R k54 54 (w35.setCell ⟨gb282, 0, none⟩ (.slice Ao36 t279.length co36)) w.heap.size (fun k_ => some k_ ≠ (.slice Ao30 t274.length co30 : Value).ownBlock ∧ some k_ ≠ (.slice Ao36 t279.length co36 : Value).ownBlock) v269 t268) := ⟨by (with_reducible repeat (first | apply Kd.R_alloc | apply Kd.R_drewN | apply Kd.R_drew)); exact Kd.R_mono (Kd.R_far (p := ⟨gb282, 0, none⟩) (Kd.R_types HO270.out BK282.out (by decide)) (fun _ hk => hk.2) (.slice Ao36 t279.length co36)) (fun _ hk => ⟨hk.1.1, hk.1.2⟩)⟩
  have n1_ : Aside0 (Kd.R k54 54 (w35.setCell ⟨gb282, 0, none⟩ (.slice Ao36 t279.length co36)) w.heap.size (fun k_ => some k_ ≠ (v269 : Value).ownBlock ∧ some k_ ≠ (.slice Ao36 t279.length co36 : Value).ownBlock) (.slice Ao30 t274.length co30) t274) := ⟨by (with_reducible repeat (first | apply Kd.R_alloc | apply Kd.R_drewN | apply Kd.R_drew)); exact Kd.R_mono (Kd.R_far (p := ⟨gb282, 0, none⟩) (Kd.R_types HO276.out BK282.out (by decide)) (fun _ hk => hk.2) (.slice Ao36 t279.length co36)) (fun _ hk => ⟨hk.1.1, hk.1.2⟩)⟩
  have n2_ : Aside0 (Kd.R k54 54 (w35.setCell ⟨gb282, 0, none⟩ (.slice Ao36 t279.length co36)) w.heap.size (fun k_ => some k_ ≠ (v269 : Value).ownBlock ∧ some k_ ≠ (.slice Ao30 t274.length co30 : Value).ownBlock) (.slice Ao36 t279.length co36) t279) := ⟨by (with_reducible repeat (first | apply Kd.R_alloc | apply Kd.R_drewN | apply Kd.R_drew)); exact Kd.R_mono (Kd.R_far (p := ⟨gb282, 0, none⟩) (Kd.R_types HO281.out BK282.out (by decide)) (fun _ hk => hk.2) (.slice Ao36 t279.length co36)) (fun _ hk => ⟨hk.1.1.2, hk.1.2⟩)⟩
  have n3_ : Aside0 ((w35.setCell ⟨gb282, 0, none⟩ (.slice Ao36 t279.length co36)).heap[gb265]? = some (.cells #[.slice A0_0 l0_0.length c0_0] 24 (0, 0))) := ⟨by (with_reducible repeat (first | refine blk_drewN ?_ _ | refine blk_drew ?_ | refine blk_alloc ?_ _)); refine blk_far ?_ NB265_282.out _; (with_reducible repeat (first | refine blk_drewN ?_ _ | refine blk_drew ?_ | refine blk_alloc ?_ _)); exact BK265.out⟩
  have n4_ : Aside0 ((w35.setCell ⟨gb282, 0, none⟩ (.slice Ao36 t279.length co36)).heap[gb266]? = some (.cells #[.int .i64 a2_0, .int .i64 a2_1, .int .i64 a2_2] 76 (0, 0))) := ⟨by (with_reducible repeat (first | refine blk_drewN ?_ _ | refine blk_drew ?_ | refine blk_alloc ?_ _)); refine blk_far ?_ NB266_282.out _; (with_reducible repeat (first | refine blk_drewN ?_ _ | refine blk_drew ?_ | refine blk_alloc ?_ _)); exact BK266.out⟩
  have n5_ : Aside0 ((w35.setCell ⟨gb282, 0, none⟩ (.slice Ao36 t279.length co36)).heap[gb278]? = some (.cells #[.slice Ao30 t274.length co30] 30 (0, 0))) := ⟨by (with_reducible repeat (first | refine blk_drewN ?_ _ | refine blk_drew ?_ | refine blk_alloc ?_ _)); refine blk_far ?_ NB278_282.out _; (with_reducible repeat (first | refine blk_drewN ?_ _ | refine blk_drew ?_ | refine blk_alloc ?_ _)); exact BK278.out⟩
  have n6_ : Aside0 ((w35.setCell ⟨gb282, 0, none⟩ (.slice Ao36 t279.length co36)).heap[gb282]? = some (.cells #[.slice Ao36 t279.length co36] 30 (0, 0))) := ⟨by (with_reducible repeat (first | refine blk_drewN ?_ _ | refine blk_drew ?_ | refine blk_alloc ?_ _)); refine blk_put (cs := #[.slice none 0 0]) ?_ 0 _ rfl; (with_reducible repeat (first | refine blk_drewN ?_ _ | refine blk_drew ?_ | refine blk_alloc ?_ _)); exact BK282.out⟩
  have n7_ : Aside0 (Below w.heap.size w (w35.setCell ⟨gb282, 0, none⟩ (.slice Ao36 t279.length co36))) := ⟨by repeat (first | (with_reducible first | exact HB.out | apply below_alloc | apply pw_below_drewN | apply below_drew1 | refine below_set ?_ GE265.out | refine below_set ?_ GE266.out | refine below_set ?_ GE278.out | refine below_set ?_ GE282.out) | exact HB.out)⟩
  (try clear HO270)
  (try clear HO276)
  (try clear HO281)
  (try clear BK265)
  (try clear BK266)
  (try clear BK278)
  (try clear BK282)
  (try clear HB)
  generalize (w35.setCell ⟨gb282, 0, none⟩ (.slice Ao36 t279.length co36)) = w41 at n0_ n1_ n2_ n3_ n4_ n5_ n6_ n7_ ⊢
  have HO270 := n0_
  have HO276 := n1_
  have HO281 := n2_
  have BK265 := n3_
  have BK266 := n4_
  have BK278 := n5_
  have BK282 := n6_
  have HB := n7_
  clear n0_ n1_ n2_ n3_ n4_ n5_ n6_ n7_
  have n0_ := Aside0.mk (Kd.R_drew HO270.out)
  have n1_ := Aside0.mk (Kd.R_drew HO276.out)
  have n2_ := Aside0.mk (Kd.R_drew HO281.out)
  have n3_ := Aside0.mk (blk_drew BK265.out)
  have n4_ := Aside0.mk (blk_drew BK266.out)
  have n5_ := Aside0.mk (blk_drew BK278.out)
  have n6_ := Aside0.mk (blk_drew BK282.out)
  have n7_ := Aside0.mk (below_drew1 HB.out)
  clear HO270 HO276 HO281 BK265 BK266 BK278 BK282 HB
  have HO270 := n0_
  have HO276 := n1_
  have HO281 := n2_
  have BK265 := n3_
  have BK266 := n4_
  have BK278 := n5_
  have BK282 := n6_
  have HB := n7_
  clear n0_ n1_ n2_ n3_ n4_ n5_ n6_ n7_
  refine start_ (n := 11) (S := fun w' => w'.cell? ⟨gb282, 0, none⟩ = some (.slice Ao36 t279.length co36) ∧ w'.cell? ⟨gb266, 0, none⟩ = some (.int .i64 a2_0) ∧ w'.cell? ⟨gb266, 1, none⟩ = some (.int .i64 a2_1) ∧ w'.cell? ⟨gb266, 2, none⟩ = some (.int .i64 a2_2)) (ds := []) #[false, false, false, false, false, false, false, false, false, false, false] (by kernel_rfl) rfl rfl ⟨(blk_cell BK282.out 0).trans rfl, (blk_cell BK266.out 0).trans rfl, (blk_cell BK266.out 1).trans rfl, (blk_cell BK266.out 2).trans rfl⟩ (fun hHeld => ?_); refine with_tabW laws_FnExactTreeInsert.tab7 laws_FnExactTreeInsert.bits7 (fun HT_ HW_ => ?_)
  generalize w41.drew = w42 at HO270 HO276 HO281 BK265 BK266 BK278 BK282 HB hHeld ⊢
  refine pure_ (i := 1) (N := some 36) (v := ?_) (a' := ?_) #[false, true, false, false, false, false, false, false, false, false, false] rfl rfl (any_of HT_.out (by kernel_rfl)) (fun _ _ _ h => h) (Or.inl ⟨by rfl, ?_⟩) ?_ ?_
  rotate_left
  ·intro w'
   go_simp
   with_reducible rfl
  rotate_left
  ·simp only [Act.put, List.setIfInBounds_toArray, List.set_cons_zero, List.set_cons_succ, i64_w, i32_w]
   rfl
  refine take_ (i := 0) (N := some 35) (v := ?_) (a' := ?_) #[true, true, false, false, false, false, false, false, false, false, false] rfl rfl (take_ofW HT_.out HW_.out (by kernel_rfl)) (fun _ _ _ h => h) (Or.inl ⟨by rfl, ?_⟩) hHeld ?_ ?_
  rotate_left
  ·rintro w' ⟨s0, s1, s2, s3⟩
   go_simp
   with_reducible rfl
  rotate_left
  ·simp only [Act.put, List.setIfInBounds_toArray, List.set_cons_zero, List.set_cons_succ, i64_w, i32_w]
   rfl
  refine take_ (i := 2) (N := some 37) (v := ?_) (a' := ?_) #[true, true, true, false, false, false, false, false, false, false, false] rfl rfl (take_ofW HT_.out HW_.out (by kernel_rfl)) (fun _ _ _ h => h) (Or.inl ⟨by rfl, ?_⟩) hHeld ?_ ?_
  rotate_left
  ·rintro w' ⟨s0, s1, s2, s3⟩
   go_simp
   with_reducible rfl
  rotate_left
  ·simp only [Act.put, List.setIfInBounds_toArray, List.set_cons_zero, List.set_cons_succ, i64_w, i32_w]
   rfl
  refine join_ (σ := Value × Nat) 2 #[true, true, true, true, true, true, true, true, true, false, false] (fun s_ => [(38, .agg #[.int .i64 t283, .int .i64 t284, .int .i64 t285]), (39, .tuple #[.agg #[s_.1], .int .i64 t289]), (11, .pointer (some ⟨s_.2, 0, none⟩)), (34, .tuple #[.agg #[s_.1], .int .i64 t289]), (40, .agg #[s_.1]), (41, .int .i64 t289)]) (fun s_ w' => (w'.cell? ⟨gb282, 0, none⟩ = some (.slice Ao36 t279.length co36) ∧ w'.cell? ⟨gb266, 0, none⟩ = some (.int .i64 a2_0) ∧ w'.cell? ⟨gb266, 1, none⟩ = some (.int .i64 a2_1) ∧ w'.cell? ⟨gb266, 2, none⟩ = some (.int .i64 a2_2)) ∧ (Kd.R k54 54 w' w.heap.size (fun k_ => some k_ ≠ (.slice Ao30 t274.length co30 : Value).ownBlock ∧ some k_ ≠ (.slice Ao36 t279.length co36 : Value).ownBlock ∧ some k_ ≠ (s_.1 : Value).ownBlock) v269 t268) ∧ (Kd.R k54 54 w' w.heap.size (fun k_ => some k_ ≠ (v269 : Value).ownBlock ∧ some k_ ≠ (.slice Ao36 t279.length co36 : Value).ownBlock ∧ some k_ ≠ (s_.1 : Value).ownBlock) (.slice Ao30 t274.length co30) t274) ∧ (Kd.R k54 54 w' w.heap.size (fun k_ => some k_ ≠ (v269 : Value).ownBlock ∧ some k_ ≠ (.slice Ao30 t274.length co30 : Value).ownBlock ∧ some k_ ≠ (s_.1 : Value).ownBlock) (.slice Ao36 t279.length co36) t279) ∧ (Kd.R k54 54 w' w.heap.size (fun k_ => some k_ ≠ (v269 : Value).ownBlock ∧ some k_ ≠ (.slice Ao30 t274.length co30 : Value).ownBlock ∧ some k_ ≠ (.slice Ao36 t279.length co36 : Value).ownBlock) s_.1 t286) ∧ (w'.heap[gb265]? = some (.cells #[.slice A0_0 l0_0.length c0_0] 24 (0, 0))) ∧ (w'.heap[gb266]? = some (.cells #[.int .i64 a2_0, .int .i64 a2_1, .int .i64 a2_2] 76 (0, 0))) ∧ (w'.heap[gb278]? = some (.cells #[.slice Ao30 t274.length co30] 30 (0, 0))) ∧ (w'.heap[gb282]? = some (.cells #[.slice Ao36 t279.length co36] 30 (0, 0))) ∧ (w'.heap[s_.2]? = some (.cells #[.slice none 0 0] 30 (0, 0))) ∧ (w.heap.size ≤ s_.2) ∧ (w.heap.size ≤ s_.2) ∧ (gb265 ≠ s_.2) ∧ (s_.2 ≠ gb265) ∧ (gb266 ≠ s_.2) ∧ (s_.2 ≠ gb266) ∧ (gb278 ≠ s_.2) ∧ (s_.2 ≠ gb278) ∧ (gb282 ≠ s_.2) ∧ (s_.2 ≠ gb282) ∧ (Below w.heap.size w w')) ?_ ?_
  rotate_left
  ·intro hCont
   refine two_ (i := 3) (j := 8) (Ni := some 38) (Nj := some 11) #[true, true, true, true, false, false, false, false, false, false, false] #[true, true, true, false, false, false, false, false, true, false, false] rfl rfl rfl rfl (two_of HT_.out (by kernel_rfl)) (by decide) (by decide) (fun K hK => ?_) (fun K hK => ?_)
   ·skip
    refine goes_ Tryd.func49 (by kernel_rfl) rfl #[.agg #[.int .i64 a2_0, .int .i64 a2_1, .int .i64 a2_2]] (by rfl) rfl rfl (by (try simp only [List.map_toArray, List.map_cons, List.map_nil]); first | done | rfl | (simp only [List.length_drop, List.length_take]; rfl)) ?_
    with_reducible refine (laws_toPiece.calls a2_0 a2_1 a2_2 t283 t284 t285 _ A15.out).mono ?_
    rintro e w43 ⟨rfl, hb⟩
    refine ⟨_, rfl, ?_⟩
    have n0_ := Aside0.mk (Kd.R_below (rD HO270.out) hb)
    have n1_ := Aside0.mk (Kd.R_below (rD HO276.out) hb)
    have n2_ := Aside0.mk (Kd.R_below (rD HO281.out) hb)
    have n3_ := Aside0.mk (blk_below (bkD BK265) hb)
    have n4_ := Aside0.mk (blk_below (bkD BK266) hb)
    have n5_ := Aside0.mk (blk_below (bkD BK278) hb)
    have n6_ := Aside0.mk (blk_below (bkD BK282) hb)
    have n7_ := Aside0.mk (below_step (hbD HB) hb)
    clear HO270 HO276 HO281 BK265 BK266 BK278 BK282 HB
    have HO270 := n0_
    have HO276 := n1_
    have HO281 := n2_
    have BK265 := n3_
    have BK266 := n4_
    have BK278 := n5_
    have BK282 := n6_
    have HB := n7_
    clear n0_ n1_ n2_ n3_ n4_ n5_ n6_ n7_
    (try clear hb)
    (try clear hb2)
    (try clear hk)
    (try clear hi)
    refine hK.out _ _ ⟨(blk_cell BK282.out 0).trans rfl, (blk_cell BK266.out 0).trans rfl, (blk_cell BK266.out 1).trans rfl, (blk_cell BK266.out 2).trans rfl⟩ (fun hHeld => ?_)
    clear hK K
    refine norm_ (a' := ?_) ?_ ?_
    rotate_left
    ·show Act.put _ (some 38) _ = _
     simp only [Act.put, List.setIfInBounds_toArray, List.set_cons_zero, List.set_cons_succ, i64_w, i32_w]
     rfl
    refine two_ (i := 4) (j := 8) (Ni := some 39) (Nj := some 11) #[true, true, true, true, true, false, false, false, false, false, false] #[true, true, true, true, false, false, false, false, true, false, false] rfl rfl rfl rfl (two_of HT_.out (by kernel_rfl)) (by decide) (by decide) (fun K hK => ?_) (fun K hK => ?_)
    ·skip
     refine goes_ Tryd.func32 (by kernel_rfl) rfl #[.agg #[.slice Ao36 t279.length co36], .int .i64 a1, .agg #[.int .i64 t283, .int .i64 t284, .int .i64 t285]] (by rfl) rfl rfl (by (try simp only [List.map_toArray, List.map_cons, List.map_nil]); first | done | rfl | (simp only [List.length_drop, List.length_take]; rfl)) ?_
     with_reducible refine (impl_TreeInsert.calls _ _ t279 a1 t283 t284 t285 t286 t289 _ ?side1 ?side2 ?side3 A16.out).mono ?_
     (case side1 => repeat (first | exact (Kd.R_reads' HO281.out).2.2 | (with_reducible refine Kd.C_alloc ?_ _) | (with_reducible refine Kd.C_drewN ?_ _) | (with_reducible refine Kd.C_drew ?_)))
     (case side2 => exact (Kd.R_reads' HO281.out).2.1)
     (case side3 => exact HG.below hgG_ (hbD HB))
     rintro e w44 ⟨v287, rfl, ho0, hb⟩
     refine ⟨_, rfl, ?_⟩
     have n0_ := Aside0.mk (Kd.R_elder' (rD HO270.out) (Kd.R_base ho0) hb)
     have n1_ := Aside0.mk (Kd.R_elder' (rD HO276.out) (Kd.R_base ho0) hb)
     have n2_ := Aside0.mk (Kd.R_elder' (rD HO281.out) (Kd.R_base ho0) hb)
     have n3_ := Aside0.mk (Kd.R_lower (Kd.R_new' (Kd.R_new' (Kd.R_new' ho0 (Kd.R_lt (rD HO270.out))) (Kd.R_lt (rD HO276.out))) (Kd.R_lt (rD HO281.out))) (below_size (hbD HB)))
     have n4_ := Aside0.mk (blk_below (bkD BK265) hb)
     have n5_ := Aside0.mk (blk_below (bkD BK266) hb)
     have n6_ := Aside0.mk (blk_below (bkD BK278) hb)
     have n7_ := Aside0.mk (blk_below (bkD BK282) hb)
     have n8_ := Aside0.mk (below_step (hbD HB) hb)
     clear HO270 HO276 HO281 BK265 BK266 BK278 BK282 HB
     have HO270 := n0_
     have HO276 := n1_
     have HO281 := n2_
     have HO288 := n3_
     have BK265 := n4_
     have BK266 := n5_
     have BK278 := n6_
     have BK282 := n7_
     have HB := n8_
     clear n0_ n1_ n2_ n3_ n4_ n5_ n6_ n7_ n8_
     (try clear hb)
     (try clear hb2)
     (try clear hk)
     (try clear hi)
     (try clear ho0)
     refine hK.out _ _ ⟨(blk_cell BK282.out 0).trans rfl, (blk_cell BK266.out 0).trans rfl, (blk_cell BK266.out 1).trans rfl, (blk_cell BK266.out 2).trans rfl⟩ (fun hHeld => ?_)
     clear hK K
     refine norm_ (a' := ?_) ?_ ?_
     rotate_left
     ·show Act.put _ (some 39) _ = _
      simp only [Act.put, List.setIfInBounds_toArray, List.set_cons_zero, List.set_cons_succ, i64_w, i32_w]
      rfl
     refine pure_ (i := 5) (N := some 34) (v := ?_) (a' := ?_) #[true, true, true, true, true, true, false, false, false, false, false] rfl rfl (any_of HT_.out (by kernel_rfl)) (fun _ _ _ h => h) (Or.inl ⟨by rfl, ?_⟩) ?_ ?_
     rotate_left
     ·intro w'
      go_simp
      with_reducible rfl
     rotate_left
     ·simp only [Act.put, List.setIfInBounds_toArray, List.set_cons_zero, List.set_cons_succ, i64_w, i32_w]
      rfl
     refine pure_ (i := 6) (N := some 40) (v := ?_) (a' := ?_) #[true, true, true, true, true, true, true, false, false, false, false] rfl rfl (any_of HT_.out (by kernel_rfl)) (fun _ _ _ h => h) (Or.inl ⟨by rfl, ?_⟩) ?_ ?_
     rotate_left
     ·intro w'
      go_simp
      with_reducible rfl
     rotate_left
     ·simp only [Act.put, List.setIfInBounds_toArray, List.set_cons_zero, List.set_cons_succ, i64_w, i32_w]
      rfl
     refine pure_ (i := 7) (N := some 41) (v := ?_) (a' := ?_) #[true, true, true, true, true, true, true, true, false, false, false] rfl rfl (any_of HT_.out (by kernel_rfl)) (fun _ _ _ h => h) (Or.inl ⟨by rfl, ?_⟩) ?_ ?_
     rotate_left
     ·intro w'
      go_simp
      with_reducible rfl
     rotate_left
     ·simp only [Act.put, List.setIfInBounds_toArray, List.set_cons_zero, List.set_cons_succ, i64_w, i32_w]
      rfl
     refine one_ (i := 8) (N := some 11) #[true, true, true, true, true, true, true, true, true, false, false] rfl rfl (one_of HT_.out (by kernel_rfl)) (by decide) (fun K hK => ?_)
     refine box_step ?hg (N := 11) ?hd (cs := #[.slice none 0 0]) (t := 30) ?hr ?_; (case hd => rfl); (case hg => rfl); (case hr => first | (go_simp; done) | (go_simp; rfl))
     intro gb290 hg w45 hbox hb
     have n0_ := Aside0.mk (Kd.R_below (rD HO270.out) hb)
     have n1_ := Aside0.mk (Kd.R_below (rD HO276.out) hb)
     have n2_ := Aside0.mk (Kd.R_below (rD HO281.out) hb)
     have n3_ := Aside0.mk (Kd.R_below (rD HO288.out) hb)
     have n4_ := Aside0.mk (blk_below (bkD BK265) hb)
     have n5_ := Aside0.mk (blk_below (bkD BK266) hb)
     have n6_ := Aside0.mk (blk_below (bkD BK278) hb)
     have n7_ := Aside0.mk (blk_below (bkD BK282) hb)
     have n8_ := Aside0.mk (below_step (hbD HB) hb)
     have n9_ := Aside0.mk (hbox)
     have n10_ := Aside0.mk ((by rw [hg]; exact (below_size (hbD HB)) : w.heap.size ≤ gb290))
     have n11_ := Aside0.mk ((by rw [hg]; exact (below_size (hbD HB)) : w.heap.size ≤ gb290))
     have n12_ := Aside0.mk ((by rw [hg]; exact Nat.ne_of_lt (blk_lt (bkD BK265)) : gb265 ≠ gb290))
     have n13_ := Aside0.mk ((by rw [hg]; exact Nat.ne_of_gt (blk_lt (bkD BK265)) : gb290 ≠ gb265))
     have n14_ := Aside0.mk ((by rw [hg]; exact Nat.ne_of_lt (blk_lt (bkD BK266)) : gb266 ≠ gb290))
     have n15_ := Aside0.mk ((by rw [hg]; exact Nat.ne_of_gt (blk_lt (bkD BK266)) : gb290 ≠ gb266))
     have n16_ := Aside0.mk ((by rw [hg]; exact Nat.ne_of_lt (blk_lt (bkD BK278)) : gb278 ≠ gb290))
     have n17_ := Aside0.mk ((by rw [hg]; exact Nat.ne_of_gt (blk_lt (bkD BK278)) : gb290 ≠ gb278))
     have n18_ := Aside0.mk ((by rw [hg]; exact Nat.ne_of_lt (blk_lt (bkD BK282)) : gb282 ≠ gb290))
     have n19_ := Aside0.mk ((by rw [hg]; exact Nat.ne_of_gt (blk_lt (bkD BK282)) : gb290 ≠ gb282))
     clear HO270 HO276 HO281 HO288 BK265 BK266 BK278 BK282 HB
     have HO270 := n0_
     have HO276 := n1_
     have HO281 := n2_
     have HO288 := n3_
     have BK265 := n4_
     have BK266 := n5_
     have BK278 := n6_
     have BK282 := n7_
     have HB := n8_
     have BK290 := n9_
     have GW290 := n10_
     have GE290 := n11_
     have NB265_290 := n12_
     have NB290_265 := n13_
     have NB266_290 := n14_
     have NB290_266 := n15_
     have NB278_290 := n16_
     have NB290_278 := n17_
     have NB282_290 := n18_
     have NB290_282 := n19_
     clear n0_ n1_ n2_ n3_ n4_ n5_ n6_ n7_ n8_ n9_ n10_ n11_ n12_ n13_ n14_ n15_ n16_ n17_ n18_ n19_ hb hbox hg
     refine hK.out _ _ ⟨(blk_cell BK282.out 0).trans rfl, (blk_cell BK266.out 0).trans rfl, (blk_cell BK266.out 1).trans rfl, (blk_cell BK266.out 2).trans rfl⟩ (fun hHeld => ?_)
     clear hK K
     refine norm_ (a' := ?_) ?_ ?_
     rotate_left
     ·show Act.put _ (some 11) _ = _
      simp only [Act.put, List.setIfInBounds_toArray, List.set_cons_zero, List.set_cons_succ, i64_w, i32_w]
      rfl
     exact norm_ (by simp only [putAll, Act.put, List.setIfInBounds_toArray, List.set_cons_zero, List.set_cons_succ]) (hCont (v287, gb290) _ ⟨hHeld, (rD (Kd.R_mono HO270.out (fun _ hk => ⟨hk.1.1, ⟨hk.1.2, hk.2⟩⟩))), (rD (Kd.R_mono HO276.out (fun _ hk => ⟨hk.1.1, ⟨hk.1.2, hk.2⟩⟩))), (rD (Kd.R_mono HO281.out (fun _ hk => ⟨hk.1.1, ⟨hk.1.2, hk.2⟩⟩))), (rD (Kd.R_mono HO288.out (fun _ hk => ⟨hk.1.1.2, ⟨hk.1.2, hk.2⟩⟩))), (bkD BK265), (bkD BK266), (bkD BK278), (bkD BK282), (bkD BK290), GW290.out, GE290.out, NB265_290.out, NB290_265.out, NB266_290.out, NB290_266.out, NB278_290.out, NB290_278.out, NB282_290.out, NB290_282.out, (hbD HB)⟩)
    ·skip
     refine box_step ?hg (N := 11) ?hd (cs := #[.slice none 0 0]) (t := 30) ?hr ?_; (case hd => rfl); (case hg => rfl); (case hr => first | (go_simp; done) | (go_simp; rfl))
     intro gb290 hg w44 hbox hb
     have n0_ := Aside0.mk (Kd.R_below (rD HO270.out) hb)
     have n1_ := Aside0.mk (Kd.R_below (rD HO276.out) hb)
     have n2_ := Aside0.mk (Kd.R_below (rD HO281.out) hb)
     have n3_ := Aside0.mk (blk_below (bkD BK265) hb)
     have n4_ := Aside0.mk (blk_below (bkD BK266) hb)
     have n5_ := Aside0.mk (blk_below (bkD BK278) hb)
     have n6_ := Aside0.mk (blk_below (bkD BK282) hb)
     have n7_ := Aside0.mk (below_step (hbD HB) hb)
     have n8_ := Aside0.mk (hbox)
     have n9_ := Aside0.mk ((by rw [hg]; exact (below_size (hbD HB)) : w.heap.size ≤ gb290))
     have n10_ := Aside0.mk ((by rw [hg]; exact (below_size (hbD HB)) : w.heap.size ≤ gb290))
     have n11_ := Aside0.mk ((by rw [hg]; exact Nat.ne_of_lt (blk_lt (bkD BK265)) : gb265 ≠ gb290))
     have n12_ := Aside0.mk ((by rw [hg]; exact Nat.ne_of_gt (blk_lt (bkD BK265)) : gb290 ≠ gb265))
     have n13_ := Aside0.mk ((by rw [hg]; exact Nat.ne_of_lt (blk_lt (bkD BK266)) : gb266 ≠ gb290))
     have n14_ := Aside0.mk ((by rw [hg]; exact Nat.ne_of_gt (blk_lt (bkD BK266)) : gb290 ≠ gb266))
     have n15_ := Aside0.mk ((by rw [hg]; exact Nat.ne_of_lt (blk_lt (bkD BK278)) : gb278 ≠ gb290))
     have n16_ := Aside0.mk ((by rw [hg]; exact Nat.ne_of_gt (blk_lt (bkD BK278)) : gb290 ≠ gb278))
     have n17_ := Aside0.mk ((by rw [hg]; exact Nat.ne_of_lt (blk_lt (bkD BK282)) : gb282 ≠ gb290))
     have n18_ := Aside0.mk ((by rw [hg]; exact Nat.ne_of_gt (blk_lt (bkD BK282)) : gb290 ≠ gb282))
     clear HO270 HO276 HO281 BK265 BK266 BK278 BK282 HB
     have HO270 := n0_
     have HO276 := n1_
     have HO281 := n2_
     have BK265 := n3_
     have BK266 := n4_
     have BK278 := n5_
     have BK282 := n6_
     have HB := n7_
     have BK290 := n8_
     have GW290 := n9_
     have GE290 := n10_
     have NB265_290 := n11_
     have NB290_265 := n12_
     have NB266_290 := n13_
     have NB290_266 := n14_
     have NB278_290 := n15_
     have NB290_278 := n16_
     have NB282_290 := n17_
     have NB290_282 := n18_
     clear n0_ n1_ n2_ n3_ n4_ n5_ n6_ n7_ n8_ n9_ n10_ n11_ n12_ n13_ n14_ n15_ n16_ n17_ n18_ hb hbox hg
     refine hK.out _ _ ⟨(blk_cell BK282.out 0).trans rfl, (blk_cell BK266.out 0).trans rfl, (blk_cell BK266.out 1).trans rfl, (blk_cell BK266.out 2).trans rfl⟩ (fun hHeld => ?_)
     clear hK K
     refine norm_ (a' := ?_) ?_ ?_
     rotate_left
     ·show Act.put _ (some 11) _ = _
      simp only [Act.put, List.setIfInBounds_toArray, List.set_cons_zero, List.set_cons_succ, i64_w, i32_w]
      rfl
     refine one_ (i := 4) (N := some 39) #[true, true, true, true, true, false, false, false, true, false, false] rfl rfl (one_of HT_.out (by kernel_rfl)) (by decide) (fun K hK => ?_)
     refine goes_ Tryd.func32 (by kernel_rfl) rfl #[.agg #[.slice Ao36 t279.length co36], .int .i64 a1, .agg #[.int .i64 t283, .int .i64 t284, .int .i64 t285]] (by rfl) rfl rfl (by (try simp only [List.map_toArray, List.map_cons, List.map_nil]); first | done | rfl | (simp only [List.length_drop, List.length_take]; rfl)) ?_
     with_reducible refine (impl_TreeInsert.calls _ _ t279 a1 t283 t284 t285 t286 t289 _ ?side1 ?side2 ?side3 A16.out).mono ?_
     (case side1 => repeat (first | exact (Kd.R_reads' HO281.out).2.2 | (with_reducible refine Kd.C_alloc ?_ _) | (with_reducible refine Kd.C_drewN ?_ _) | (with_reducible refine Kd.C_drew ?_)))
     (case side2 => exact (Kd.R_reads' HO281.out).2.1)
     (case side3 => exact HG.below hgG_ (hbD HB))
     rintro e w45 ⟨v287, rfl, ho0, hb⟩
     refine ⟨_, rfl, ?_⟩
     have n0_ := Aside0.mk (Kd.R_elder' (rD HO270.out) (Kd.R_base ho0) hb)
     have n1_ := Aside0.mk (Kd.R_elder' (rD HO276.out) (Kd.R_base ho0) hb)
     have n2_ := Aside0.mk (Kd.R_elder' (rD HO281.out) (Kd.R_base ho0) hb)
     have n3_ := Aside0.mk (Kd.R_lower (Kd.R_new' (Kd.R_new' (Kd.R_new' ho0 (Kd.R_lt (rD HO270.out))) (Kd.R_lt (rD HO276.out))) (Kd.R_lt (rD HO281.out))) (below_size (hbD HB)))
     have n4_ := Aside0.mk (blk_below (bkD BK265) hb)
     have n5_ := Aside0.mk (blk_below (bkD BK266) hb)
     have n6_ := Aside0.mk (blk_below (bkD BK278) hb)
     have n7_ := Aside0.mk (blk_below (bkD BK282) hb)
     have n8_ := Aside0.mk (blk_below (bkD BK290) hb)
     have n9_ := Aside0.mk (below_step (hbD HB) hb)
     clear HO270 HO276 HO281 BK265 BK266 BK278 BK282 BK290 HB
     have HO270 := n0_
     have HO276 := n1_
     have HO281 := n2_
     have HO288 := n3_
     have BK265 := n4_
     have BK266 := n5_
     have BK278 := n6_
     have BK282 := n7_
     have BK290 := n8_
     have HB := n9_
     clear n0_ n1_ n2_ n3_ n4_ n5_ n6_ n7_ n8_ n9_
     (try clear hb)
     (try clear hb2)
     (try clear hk)
     (try clear hi)
     (try clear ho0)
     refine hK.out _ _ ⟨(blk_cell BK282.out 0).trans rfl, (blk_cell BK266.out 0).trans rfl, (blk_cell BK266.out 1).trans rfl, (blk_cell BK266.out 2).trans rfl⟩ (fun hHeld => ?_)
     clear hK K
     refine norm_ (a' := ?_) ?_ ?_
     rotate_left
     ·show Act.put _ (some 39) _ = _
      simp only [Act.put, List.setIfInBounds_toArray, List.set_cons_zero, List.set_cons_succ, i64_w, i32_w]
      rfl
     refine pure_ (i := 5) (N := some 34) (v := ?_) (a' := ?_) #[true, true, true, true, true, true, false, false, true, false, false] rfl rfl (any_of HT_.out (by kernel_rfl)) (fun _ _ _ h => h) (Or.inl ⟨by rfl, ?_⟩) ?_ ?_
     rotate_left
     ·intro w'
      go_simp
      with_reducible rfl
     rotate_left
     ·simp only [Act.put, List.setIfInBounds_toArray, List.set_cons_zero, List.set_cons_succ, i64_w, i32_w]
      rfl
     refine pure_ (i := 6) (N := some 40) (v := ?_) (a' := ?_) #[true, true, true, true, true, true, true, false, true, false, false] rfl rfl (any_of HT_.out (by kernel_rfl)) (fun _ _ _ h => h) (Or.inl ⟨by rfl, ?_⟩) ?_ ?_
     rotate_left
     ·intro w'
      go_simp
      with_reducible rfl
     rotate_left
     ·simp only [Act.put, List.setIfInBounds_toArray, List.set_cons_zero, List.set_cons_succ, i64_w, i32_w]
      rfl
     refine pure_ (i := 7) (N := some 41) (v := ?_) (a' := ?_) #[true, true, true, true, true, true, true, true, true, false, false] rfl rfl (any_of HT_.out (by kernel_rfl)) (fun _ _ _ h => h) (Or.inl ⟨by rfl, ?_⟩) ?_ ?_
     rotate_left
     ·intro w'
      go_simp
      with_reducible rfl
     rotate_left
     ·simp only [Act.put, List.setIfInBounds_toArray, List.set_cons_zero, List.set_cons_succ, i64_w, i32_w]
      rfl
     exact norm_ (by simp only [putAll, Act.put, List.setIfInBounds_toArray, List.set_cons_zero, List.set_cons_succ]) (hCont (v287, gb290) _ ⟨hHeld, (rD (Kd.R_mono HO270.out (fun _ hk => ⟨hk.1.1, ⟨hk.1.2, hk.2⟩⟩))), (rD (Kd.R_mono HO276.out (fun _ hk => ⟨hk.1.1, ⟨hk.1.2, hk.2⟩⟩))), (rD (Kd.R_mono HO281.out (fun _ hk => ⟨hk.1.1, ⟨hk.1.2, hk.2⟩⟩))), (rD (Kd.R_mono HO288.out (fun _ hk => ⟨hk.1.1.2, ⟨hk.1.2, hk.2⟩⟩))), (bkD BK265), (bkD BK266), (bkD BK278), (bkD BK282), (bkD BK290), GW290.out, GE290.out, NB265_290.out, NB290_265.out, NB266_290.out, NB290_266.out, NB278_290.out, NB290_278.out, NB282_290.out, NB290_282.out, (hbD HB)⟩)
   ·skip
    refine box_step ?hg (N := 11) ?hd (cs := #[.slice none 0 0]) (t := 30) ?hr ?_; (case hd => rfl); (case hg => rfl); (case hr => first | (go_simp; done) | (go_simp; rfl))
    intro gb290 hg w43 hbox hb
    have n0_ := Aside0.mk (Kd.R_below (rD HO270.out) hb)
    have n1_ := Aside0.mk (Kd.R_below (rD HO276.out) hb)
    have n2_ := Aside0.mk (Kd.R_below (rD HO281.out) hb)
    have n3_ := Aside0.mk (blk_below (bkD BK265) hb)
    have n4_ := Aside0.mk (blk_below (bkD BK266) hb)
    have n5_ := Aside0.mk (blk_below (bkD BK278) hb)
    have n6_ := Aside0.mk (blk_below (bkD BK282) hb)
    have n7_ := Aside0.mk (below_step (hbD HB) hb)
    have n8_ := Aside0.mk (hbox)
    have n9_ := Aside0.mk ((by rw [hg]; exact (below_size (hbD HB)) : w.heap.size ≤ gb290))
    have n10_ := Aside0.mk ((by rw [hg]; exact (below_size (hbD HB)) : w.heap.size ≤ gb290))
    have n11_ := Aside0.mk ((by rw [hg]; exact Nat.ne_of_lt (blk_lt (bkD BK265)) : gb265 ≠ gb290))
    have n12_ := Aside0.mk ((by rw [hg]; exact Nat.ne_of_gt (blk_lt (bkD BK265)) : gb290 ≠ gb265))
    have n13_ := Aside0.mk ((by rw [hg]; exact Nat.ne_of_lt (blk_lt (bkD BK266)) : gb266 ≠ gb290))
    have n14_ := Aside0.mk ((by rw [hg]; exact Nat.ne_of_gt (blk_lt (bkD BK266)) : gb290 ≠ gb266))
    have n15_ := Aside0.mk ((by rw [hg]; exact Nat.ne_of_lt (blk_lt (bkD BK278)) : gb278 ≠ gb290))
    have n16_ := Aside0.mk ((by rw [hg]; exact Nat.ne_of_gt (blk_lt (bkD BK278)) : gb290 ≠ gb278))
    have n17_ := Aside0.mk ((by rw [hg]; exact Nat.ne_of_lt (blk_lt (bkD BK282)) : gb282 ≠ gb290))
    have n18_ := Aside0.mk ((by rw [hg]; exact Nat.ne_of_gt (blk_lt (bkD BK282)) : gb290 ≠ gb282))
    clear HO270 HO276 HO281 BK265 BK266 BK278 BK282 HB
    have HO270 := n0_
    have HO276 := n1_
    have HO281 := n2_
    have BK265 := n3_
    have BK266 := n4_
    have BK278 := n5_
    have BK282 := n6_
    have HB := n7_
    have BK290 := n8_
    have GW290 := n9_
    have GE290 := n10_
    have NB265_290 := n11_
    have NB290_265 := n12_
    have NB266_290 := n13_
    have NB290_266 := n14_
    have NB278_290 := n15_
    have NB290_278 := n16_
    have NB282_290 := n17_
    have NB290_282 := n18_
    clear n0_ n1_ n2_ n3_ n4_ n5_ n6_ n7_ n8_ n9_ n10_ n11_ n12_ n13_ n14_ n15_ n16_ n17_ n18_ hb hbox hg
    refine hK.out _ _ ⟨(blk_cell BK282.out 0).trans rfl, (blk_cell BK266.out 0).trans rfl, (blk_cell BK266.out 1).trans rfl, (blk_cell BK266.out 2).trans rfl⟩ (fun hHeld => ?_)
    clear hK K
    refine norm_ (a' := ?_) ?_ ?_
    rotate_left
    ·show Act.put _ (some 11) _ = _
     simp only [Act.put, List.setIfInBounds_toArray, List.set_cons_zero, List.set_cons_succ, i64_w, i32_w]
     rfl
    refine one_ (i := 3) (N := some 38) #[true, true, true, true, false, false, false, false, true, false, false] rfl rfl (one_of HT_.out (by kernel_rfl)) (by decide) (fun K hK => ?_)
    refine goes_ Tryd.func49 (by kernel_rfl) rfl #[.agg #[.int .i64 a2_0, .int .i64 a2_1, .int .i64 a2_2]] (by rfl) rfl rfl (by (try simp only [List.map_toArray, List.map_cons, List.map_nil]); first | done | rfl | (simp only [List.length_drop, List.length_take]; rfl)) ?_
    with_reducible refine (laws_toPiece.calls a2_0 a2_1 a2_2 t283 t284 t285 _ A15.out).mono ?_
    rintro e w44 ⟨rfl, hb⟩
    refine ⟨_, rfl, ?_⟩
    have n0_ := Aside0.mk (Kd.R_below (rD HO270.out) hb)
    have n1_ := Aside0.mk (Kd.R_below (rD HO276.out) hb)
    have n2_ := Aside0.mk (Kd.R_below (rD HO281.out) hb)
    have n3_ := Aside0.mk (blk_below (bkD BK265) hb)
    have n4_ := Aside0.mk (blk_below (bkD BK266) hb)
    have n5_ := Aside0.mk (blk_below (bkD BK278) hb)
    have n6_ := Aside0.mk (blk_below (bkD BK282) hb)
    have n7_ := Aside0.mk (blk_below (bkD BK290) hb)
    have n8_ := Aside0.mk (below_step (hbD HB) hb)
    clear HO270 HO276 HO281 BK265 BK266 BK278 BK282 BK290 HB
    have HO270 := n0_
    have HO276 := n1_
    have HO281 := n2_
    have BK265 := n3_
    have BK266 := n4_
    have BK278 := n5_
    have BK282 := n6_
    have BK290 := n7_
    have HB := n8_
    clear n0_ n1_ n2_ n3_ n4_ n5_ n6_ n7_ n8_
    (try clear hb)
    (try clear hb2)
    (try clear hk)
    (try clear hi)
    refine hK.out _ _ ⟨(blk_cell BK282.out 0).trans rfl, (blk_cell BK266.out 0).trans rfl, (blk_cell BK266.out 1).trans rfl, (blk_cell BK266.out 2).trans rfl⟩ (fun hHeld => ?_)
    clear hK K
    refine norm_ (a' := ?_) ?_ ?_
    rotate_left
    ·show Act.put _ (some 38) _ = _
     simp only [Act.put, List.setIfInBounds_toArray, List.set_cons_zero, List.set_cons_succ, i64_w, i32_w]
     rfl
    refine one_ (i := 4) (N := some 39) #[true, true, true, true, true, false, false, false, true, false, false] rfl rfl (one_of HT_.out (by kernel_rfl)) (by decide) (fun K hK => ?_)
    refine goes_ Tryd.func32 (by kernel_rfl) rfl #[.agg #[.slice Ao36 t279.length co36], .int .i64 a1, .agg #[.int .i64 t283, .int .i64 t284, .int .i64 t285]] (by rfl) rfl rfl (by (try simp only [List.map_toArray, List.map_cons, List.map_nil]); first | done | rfl | (simp only [List.length_drop, List.length_take]; rfl)) ?_
    with_reducible refine (impl_TreeInsert.calls _ _ t279 a1 t283 t284 t285 t286 t289 _ ?side1 ?side2 ?side3 A16.out).mono ?_
    (case side1 => repeat (first | exact (Kd.R_reads' HO281.out).2.2 | (with_reducible refine Kd.C_alloc ?_ _) | (with_reducible refine Kd.C_drewN ?_ _) | (with_reducible refine Kd.C_drew ?_)))
    (case side2 => exact (Kd.R_reads' HO281.out).2.1)
    (case side3 => exact HG.below hgG_ (hbD HB))
    rintro e w45 ⟨v287, rfl, ho0, hb⟩
    refine ⟨_, rfl, ?_⟩
    have n0_ := Aside0.mk (Kd.R_elder' (rD HO270.out) (Kd.R_base ho0) hb)
    have n1_ := Aside0.mk (Kd.R_elder' (rD HO276.out) (Kd.R_base ho0) hb)
    have n2_ := Aside0.mk (Kd.R_elder' (rD HO281.out) (Kd.R_base ho0) hb)
    have n3_ := Aside0.mk (Kd.R_lower (Kd.R_new' (Kd.R_new' (Kd.R_new' ho0 (Kd.R_lt (rD HO270.out))) (Kd.R_lt (rD HO276.out))) (Kd.R_lt (rD HO281.out))) (below_size (hbD HB)))
    have n4_ := Aside0.mk (blk_below (bkD BK265) hb)
    have n5_ := Aside0.mk (blk_below (bkD BK266) hb)
    have n6_ := Aside0.mk (blk_below (bkD BK278) hb)
    have n7_ := Aside0.mk (blk_below (bkD BK282) hb)
    have n8_ := Aside0.mk (blk_below (bkD BK290) hb)
    have n9_ := Aside0.mk (below_step (hbD HB) hb)
    clear HO270 HO276 HO281 BK265 BK266 BK278 BK282 BK290 HB
    have HO270 := n0_
    have HO276 := n1_
    have HO281 := n2_
    have HO288 := n3_
    have BK265 := n4_
    have BK266 := n5_
    have BK278 := n6_
    have BK282 := n7_
    have BK290 := n8_
    have HB := n9_
    clear n0_ n1_ n2_ n3_ n4_ n5_ n6_ n7_ n8_ n9_
    (try clear hb)
    (try clear hb2)
    (try clear hk)
    (try clear hi)
    (try clear ho0)
    refine hK.out _ _ ⟨(blk_cell BK282.out 0).trans rfl, (blk_cell BK266.out 0).trans rfl, (blk_cell BK266.out 1).trans rfl, (blk_cell BK266.out 2).trans rfl⟩ (fun hHeld => ?_)
    clear hK K
    refine norm_ (a' := ?_) ?_ ?_
    rotate_left
    ·show Act.put _ (some 39) _ = _
     simp only [Act.put, List.setIfInBounds_toArray, List.set_cons_zero, List.set_cons_succ, i64_w, i32_w]
     rfl
    refine pure_ (i := 5) (N := some 34) (v := ?_) (a' := ?_) #[true, true, true, true, true, true, false, false, true, false, false] rfl rfl (any_of HT_.out (by kernel_rfl)) (fun _ _ _ h => h) (Or.inl ⟨by rfl, ?_⟩) ?_ ?_
    rotate_left
    ·intro w'
     go_simp
     with_reducible rfl
    rotate_left
    ·simp only [Act.put, List.setIfInBounds_toArray, List.set_cons_zero, List.set_cons_succ, i64_w, i32_w]
     rfl
    refine pure_ (i := 6) (N := some 40) (v := ?_) (a' := ?_) #[true, true, true, true, true, true, true, false, true, false, false] rfl rfl (any_of HT_.out (by kernel_rfl)) (fun _ _ _ h => h) (Or.inl ⟨by rfl, ?_⟩) ?_ ?_
    rotate_left
    ·intro w'
     go_simp
     with_reducible rfl
    rotate_left
    ·simp only [Act.put, List.setIfInBounds_toArray, List.set_cons_zero, List.set_cons_succ, i64_w, i32_w]
     rfl
    refine pure_ (i := 7) (N := some 41) (v := ?_) (a' := ?_) #[true, true, true, true, true, true, true, true, true, false, false] rfl rfl (any_of HT_.out (by kernel_rfl)) (fun _ _ _ h => h) (Or.inl ⟨by rfl, ?_⟩) ?_ ?_
    rotate_left
    ·intro w'
     go_simp
     with_reducible rfl
    rotate_left
    ·simp only [Act.put, List.setIfInBounds_toArray, List.set_cons_zero, List.set_cons_succ, i64_w, i32_w]
     rfl
    exact norm_ (by simp only [putAll, Act.put, List.setIfInBounds_toArray, List.set_cons_zero, List.set_cons_succ]) (hCont (v287, gb290) _ ⟨hHeld, (rD (Kd.R_mono HO270.out (fun _ hk => ⟨hk.1.1, ⟨hk.1.2, hk.2⟩⟩))), (rD (Kd.R_mono HO276.out (fun _ hk => ⟨hk.1.1, ⟨hk.1.2, hk.2⟩⟩))), (rD (Kd.R_mono HO281.out (fun _ hk => ⟨hk.1.1, ⟨hk.1.2, hk.2⟩⟩))), (rD (Kd.R_mono HO288.out (fun _ hk => ⟨hk.1.1.2, ⟨hk.1.2, hk.2⟩⟩))), (bkD BK265), (bkD BK266), (bkD BK278), (bkD BK282), (bkD BK290), GW290.out, GE290.out, NB265_290.out, NB290_265.out, NB266_290.out, NB290_266.out, NB278_290.out, NB290_278.out, NB282_290.out, NB290_282.out, (hbD HB)⟩)
  rintro ⟨v287, gb290⟩ w46 ⟨hS_, h0_, h1_, h2_, h3_, h4_, h5_, h6_, h7_, h8_, h9_, h10_, h11_, h12_, h13_, h14_, h15_, h16_, h17_, h18_, h19_⟩
  have n0_ : Aside0 (Kd.R k54 54 w46 w.heap.size (fun k_ => some k_ ≠ (.slice Ao30 t274.length co30 : Value).ownBlock ∧ some k_ ≠ (.slice Ao36 t279.length co36 : Value).ownBlock ∧ some k_ ≠ (v287 : Value).ownBlock) v269 t268) := ⟨h0_⟩
  have n1_ : Aside0 (Kd.R k54 54 w46 w.heap.size (fun k_ => some k_ ≠ (v269 : Value).ownBlock ∧ some k_ ≠ (.slice Ao36 t279.length co36 : Value).ownBlock ∧ some k_ ≠ (v287 : Value).ownBlock) (.slice Ao30 t274.length co30) t274) := ⟨h1_⟩
  have n2_ : Aside0 (Kd.R k54 54 w46 w.heap.size (fun k_ => some k_ ≠ (v269 : Value).ownBlock ∧ some k_ ≠ (.slice Ao30 t274.length co30 : Value).ownBlock ∧ some k_ ≠ (v287 : Value).ownBlock) (.slice Ao36 t279.length co36) t279) := ⟨h2_⟩
  have n3_ : Aside0 (Kd.R k54 54 w46 w.heap.size (fun k_ => some k_ ≠ (v269 : Value).ownBlock ∧ some k_ ≠ (.slice Ao30 t274.length co30 : Value).ownBlock ∧ some k_ ≠ (.slice Ao36 t279.length co36 : Value).ownBlock) v287 t286) := ⟨h3_⟩
  have n4_ : Aside0 (w46.heap[gb265]? = some (.cells #[.slice A0_0 l0_0.length c0_0] 24 (0, 0))) := ⟨h4_⟩
  have n5_ : Aside0 (w46.heap[gb266]? = some (.cells #[.int .i64 a2_0, .int .i64 a2_1, .int .i64 a2_2] 76 (0, 0))) := ⟨h5_⟩
  have n6_ : Aside0 (w46.heap[gb278]? = some (.cells #[.slice Ao30 t274.length co30] 30 (0, 0))) := ⟨h6_⟩
  have n7_ : Aside0 (w46.heap[gb282]? = some (.cells #[.slice Ao36 t279.length co36] 30 (0, 0))) := ⟨h7_⟩
  have n8_ : Aside0 (w46.heap[gb290]? = some (.cells #[.slice none 0 0] 30 (0, 0))) := ⟨h8_⟩
  have n9_ : Aside0 (w.heap.size ≤ gb290) := ⟨h9_⟩
  have n10_ : Aside0 (w.heap.size ≤ gb290) := ⟨h10_⟩
  have n11_ : Aside0 (gb265 ≠ gb290) := ⟨h11_⟩
  have n12_ : Aside0 (gb290 ≠ gb265) := ⟨h12_⟩
  have n13_ : Aside0 (gb266 ≠ gb290) := ⟨h13_⟩
  have n14_ : Aside0 (gb290 ≠ gb266) := ⟨h14_⟩
  have n15_ : Aside0 (gb278 ≠ gb290) := ⟨h15_⟩
  have n16_ : Aside0 (gb290 ≠ gb278) := ⟨h16_⟩
  have n17_ : Aside0 (gb282 ≠ gb290) := ⟨h17_⟩
  have n18_ : Aside0 (gb290 ≠ gb282) := ⟨h18_⟩
  have n19_ : Aside0 (Below w.heap.size w w46) := ⟨h19_⟩
  clear HO270 HO276 HO281 BK265 BK266 BK278 BK282 HB h0_ h1_ h2_ h3_ h4_ h5_ h6_ h7_ h8_ h9_ h10_ h11_ h12_ h13_ h14_ h15_ h16_ h17_ h18_ h19_
  have HO270 := n0_
  have HO276 := n1_
  have HO281 := n2_
  have HO288 := n3_
  have BK265 := n4_
  have BK266 := n5_
  have BK278 := n6_
  have BK282 := n7_
  have BK290 := n8_
  have GW290 := n9_
  have GE290 := n10_
  have NB265_290 := n11_
  have NB290_265 := n12_
  have NB266_290 := n13_
  have NB290_266 := n14_
  have NB278_290 := n15_
  have NB290_278 := n16_
  have NB282_290 := n17_
  have NB290_282 := n18_
  have HB := n19_
  clear n0_ n1_ n2_ n3_ n4_ n5_ n6_ n7_ n8_ n9_ n10_ n11_ n12_ n13_ n14_ n15_ n16_ n17_ n18_ n19_
  have hHeld : w46.cell? ⟨gb282, 0, none⟩ = some (.slice Ao36 t279.length co36) ∧ w46.cell? ⟨gb266, 0, none⟩ = some (.int .i64 a2_0) ∧ w46.cell? ⟨gb266, 1, none⟩ = some (.int .i64 a2_1) ∧ w46.cell? ⟨gb266, 2, none⟩ = some (.int .i64 a2_2) := hS_
  obtain ⟨Ao47, co47, eo47⟩ := Kd.R_slice HO288.out
  (first | subst eo47 | (injection eo47 with f1_ f2_ f3_; have f4_ := f1_.symm; have f5_ := f3_.symm; clear f1_ f2_ f3_; subst f4_; subst f5_))
  refine norm_ (a' := ?_) ?_ ?_
  rotate_left
  ·simp only [putAll, Act.put, List.setIfInBounds_toArray, List.set_cons_zero, List.set_cons_succ]
   rfl
  refine one_ (i := 9) (N := none) #[true, true, true, true, true, true, true, true, true, true, false] rfl rfl (one_of HT_.out (by kernel_rfl)) (by decide) (fun K hK => ?_)
  have hs48 : w46.cell? ⟨gb290, 0, none⟩ = some (.slice none 0 0) := (blk_cell BK290.out 0).trans rfl
  have hfs48 := blk_frozen BK290.out 0
  have hns48_0 := NB265_290.out
  have hns48_1 := NB266_290.out
  have hns48_2 := NB278_290.out
  have hns48_3 := NB282_290.out
  have hms48_0 := NB290_265.out
  have hms48_1 := NB290_266.out
  have hms48_2 := NB290_278.out
  have hms48_3 := NB290_282.out
  refine skip_ (w1 := ?_) (by rfl) rfl ?_ ?_
  rotate_left
  ·go_simp
   rfl
  refine hK.out _ _ ⟨((cell_far (p := ⟨gb290, _, none⟩) NB282_290.out _).trans (hHeld.1)), ((cell_far (p := ⟨gb290, _, none⟩) NB266_290.out _).trans (hHeld.2.1)), ((cell_far (p := ⟨gb290, _, none⟩) NB266_290.out _).trans (hHeld.2.2.1)), ((cell_far (p := ⟨gb290, _, none⟩) NB266_290.out _).trans (hHeld.2.2.2))⟩ (fun hHeld => ?_)
  clear hK K
  refine pure_ (i := 10) (N := some 12) (v := ?_) (a' := ?_) #[true, true, true, true, true, true, true, true, true, true, true] rfl rfl (any_of HT_.out (by kernel_rfl)) (fun _ _ _ h => h) (Or.inl ⟨by rfl, ?_⟩) ?_ ?_
  rotate_left
  ·intro w'
   go_simp
   with_reducible rfl
  rotate_left
  ·simp only [Act.put, List.setIfInBounds_toArray, List.set_cons_zero, List.set_cons_succ, i64_w, i32_w]
   rfl
  refine done_ (done_of HT_.out (by kernel_rfl)) ?_
  go_upto_region 8 with (fail)
  go_cut [50] (fun v50 wc => ∃ (kq : Nat) (x50_16 : Bool), v50 = .bool x50_16 ∧ Aside0 (laws_FnExactTreeInsert.j0 kq a1 t277 t289 x50_16 l0_0 a2_0 a2_1 a2_2 t274 t279 t286 = some r) ∧ Aside0 (kq ≤ k) ∧ Aside0 (Kd.R k54 54 wc w.heap.size (fun k_ => some k_ ≠ ((.slice Ao36 t279.length co36) : Value).ownBlock ∧ some k_ ≠ ((.slice Ao47 t286.length co47) : Value).ownBlock) (.slice Ao30 t274.length co30) t274) ∧ Aside0 (Kd.R k54 54 wc w.heap.size (fun k_ => some k_ ≠ ((.slice Ao30 t274.length co30) : Value).ownBlock ∧ some k_ ≠ ((.slice Ao47 t286.length co47) : Value).ownBlock) (.slice Ao36 t279.length co36) t279) ∧ Aside0 (Kd.R k54 54 wc w.heap.size (fun k_ => some k_ ≠ ((.slice Ao30 t274.length co30) : Value).ownBlock ∧ some k_ ≠ ((.slice Ao36 t279.length co36) : Value).ownBlock) (.slice Ao47 t286.length co47) t286) ∧ Aside0 (wc.heap[gb265]? = some (.cells #[(.slice A0_0 l0_0.length c0_0)] 24 (0, 0))) ∧ Aside0 (wc.heap[gb266]? = some (.cells #[.int .i64 a2_0, .int .i64 a2_1, .int .i64 a2_2] 76 (0, 0))) ∧ Aside0 (wc.heap[gb278]? = some (.cells #[(.slice Ao30 t274.length co30)] 30 (0, 0))) ∧ Aside0 (wc.heap[gb282]? = some (.cells #[(.slice Ao36 t279.length co36)] 30 (0, 0))) ∧ Aside0 (wc.heap[gb290]? = some (.cells #[(.slice Ao47 t286.length co47)] 30 (0, 0))) ∧ Aside0 (Below w.heap.size w wc))
  case first =>
   have H := HC17.out
   clear HC17
   replace H := Option.bind_eq_some_iff.mp H
   obtain ⟨t291, A490, H⟩ := H
   replace H : (if t291 = true then (laws_FnExactTreeInsert.j0 k a1 t277 t289 (t289 != t277) l0_0 a2_0 a2_1 a2_2 t274 t279 t286) else (laws_FnExactTreeInsert.j0 k a1 t277 t289 true l0_0 a2_0 a2_1 a2_2 t274 t279 t286)) = some r := H
   have A49 := Aside0.mk A490
   clear A490
   by_cases c50 : t291 = true
   ·subst c50
    have H1 : (laws_FnExactTreeInsert.j0 k a1 t277 t289 (t289 != t277) l0_0 a2_0 a2_1 a2_2 t274 t279 t286) = some r := by rw [if_pos rfl] at H; exact H
    clear H
    have H := H1
    clear H1
    have H' := Aside0.mk H
    clear H
    have hnb51 := NB290_265.out
    have hnc51 := NB265_290.out
    have hnb52 := NB290_266.out
    have hnc52 := NB266_290.out
    have hnb53 := NB290_278.out
    have hnc53 := NB278_290.out
    have hnb54 := NB290_282.out
    have hnc54 := NB282_290.out
    have hcz55_0 : w46.cell? ⟨gb290, 0, none⟩ = some (.slice none 0 0) := (blk_cell BK290.out 0).trans rfl
    have hfz55_0 := blk_frozen BK290.out 0
    have hnb56 := NB278_265.out
    have hnc56 := NB265_278.out
    have hnb57 := NB278_266.out
    have hnc57 := NB266_278.out
    have hnb58 := NB278_282.out
    have hnc58 := NB282_278.out
    have hcz59_0 : w46.cell? ⟨gb278, 0, none⟩ = some (.slice Ao30 t274.length co30) := (blk_cell BK278.out 0).trans rfl
    have hfz59_0 := blk_frozen BK278.out 0
    go_wp2_with (first | ((with_reducible refine gate_callee (f := 19) rfl ?_); refine goesL_ (some 44) rfl rfl Tryd.func19 (by kernel_rfl) rfl #[.agg #[.slice Ao47 t286.length co47], .agg #[.slice Ao30 t274.length co30]] rfl (by (try simp only [List.map_toArray, List.map_cons, List.map_nil]); first | done | rfl | (simp only [List.length_drop, List.length_take]; rfl)) ?_; (with_reducible refine (laws_eqTree.calls k _ _ t286 _ _ t274 true _ ?side1 ?side2 ?side3 ?side4 A49.out).mono ?_); (case side1 => refine (Kd.R_reads' (e := 54) (base := w.heap.size) (ok := fun k_ => (some k_ ≠ (v269 : Value).ownBlock ∧ (some k_ ≠ (.slice Ao30 t274.length co30 : Value).ownBlock ∧ some k_ ≠ (.slice Ao36 t279.length co36 : Value).ownBlock))) (n := t286.length) (c := co47) ?_).2.2; exact (rD ((Kd.R_mono (Kd.R_far (p := ⟨gb290, 0, none⟩) (Kd.R_types HO288.out BK290.out (by decide)) (fun _ hk => hk.2) (.slice Ao47 t286.length co47)) (fun _ h_ => h_.1))))); (case side2 => exact (Kd.R_reads' HO288.out).2.1); (case side3 => refine (Kd.R_reads' (e := 54) (base := w.heap.size) (ok := fun k_ => (some k_ ≠ (v269 : Value).ownBlock ∧ (some k_ ≠ (.slice Ao36 t279.length co36 : Value).ownBlock ∧ some k_ ≠ (.slice Ao47 t286.length co47 : Value).ownBlock))) (n := t274.length) (c := co30) ?_).2.2; exact (rD ((Kd.R_mono (Kd.R_far (p := ⟨gb290, 0, none⟩) (Kd.R_types HO276.out BK290.out (by decide)) (fun _ hk => hk.2) (.slice Ao47 t286.length co47)) (fun _ h_ => h_.1))))); (case side4 => exact (Kd.R_reads' HO276.out).2.1); rintro e w60 ⟨rfl, hb⟩; refine ⟨_, rfl, ?_⟩; have n0_ := Aside0.mk (Kd.R_below (rD ((Kd.R_mono (Kd.R_far (p := ⟨gb290, 0, none⟩) (Kd.R_types HO270.out BK290.out (by decide)) (fun _ hk => hk.2) (.slice Ao47 t286.length co47)) (fun _ h_ => h_.1)))) hb); have n1_ := Aside0.mk (Kd.R_below (rD ((Kd.R_mono (Kd.R_far (p := ⟨gb290, 0, none⟩) (Kd.R_types HO276.out BK290.out (by decide)) (fun _ hk => hk.2) (.slice Ao47 t286.length co47)) (fun _ h_ => h_.1)))) hb); have n2_ := Aside0.mk (Kd.R_below (rD ((Kd.R_mono (Kd.R_far (p := ⟨gb290, 0, none⟩) (Kd.R_types HO281.out BK290.out (by decide)) (fun _ hk => hk.2) (.slice Ao47 t286.length co47)) (fun _ h_ => h_.1)))) hb); have n3_ := Aside0.mk (Kd.R_below (rD ((Kd.R_mono (Kd.R_far (p := ⟨gb290, 0, none⟩) (Kd.R_types HO288.out BK290.out (by decide)) (fun _ hk => hk.2) (.slice Ao47 t286.length co47)) (fun _ h_ => h_.1)))) hb); have n4_ := Aside0.mk (blk_below (g := gb265) (o := .cells #[.slice A0_0 l0_0.length c0_0] 24 (0, 0)) (by (with_reducible repeat (first | refine blk_drewN ?_ _ | refine blk_drew ?_ | refine blk_alloc ?_ _)); refine blk_far ?_ NB265_290.out _; (with_reducible repeat (first | refine blk_drewN ?_ _ | refine blk_drew ?_ | refine blk_alloc ?_ _)); exact BK265.out) hb); have n5_ := Aside0.mk (blk_below (g := gb266) (o := .cells #[.int .i64 a2_0, .int .i64 a2_1, .int .i64 a2_2] 76 (0, 0)) (by (with_reducible repeat (first | refine blk_drewN ?_ _ | refine blk_drew ?_ | refine blk_alloc ?_ _)); refine blk_far ?_ NB266_290.out _; (with_reducible repeat (first | refine blk_drewN ?_ _ | refine blk_drew ?_ | refine blk_alloc ?_ _)); exact BK266.out) hb); have n6_ := Aside0.mk (blk_below (g := gb278) (o := .cells #[.slice Ao30 t274.length co30] 30 (0, 0)) (by (with_reducible repeat (first | refine blk_drewN ?_ _ | refine blk_drew ?_ | refine blk_alloc ?_ _)); refine blk_far ?_ NB278_290.out _; (with_reducible repeat (first | refine blk_drewN ?_ _ | refine blk_drew ?_ | refine blk_alloc ?_ _)); exact BK278.out) hb); have n7_ := Aside0.mk (blk_below (g := gb282) (o := .cells #[.slice Ao36 t279.length co36] 30 (0, 0)) (by (with_reducible repeat (first | refine blk_drewN ?_ _ | refine blk_drew ?_ | refine blk_alloc ?_ _)); refine blk_far ?_ NB282_290.out _; (with_reducible repeat (first | refine blk_drewN ?_ _ | refine blk_drew ?_ | refine blk_alloc ?_ _)); exact BK282.out) hb); have n8_ := Aside0.mk (blk_below (g := gb290) (o := .cells #[.slice Ao47 t286.length co47] 30 (0, 0)) (by (with_reducible repeat (first | refine blk_drewN ?_ _ | refine blk_drew ?_ | refine blk_alloc ?_ _)); refine blk_put (cs := #[.slice none 0 0]) ?_ 0 _ rfl; (with_reducible repeat (first | refine blk_drewN ?_ _ | refine blk_drew ?_ | refine blk_alloc ?_ _)); exact BK290.out) hb); have n9_ := Aside0.mk (below_step (hbD HB) hb); clear HO270 HO276 HO281 HO288 BK265 BK266 BK278 BK282 BK290 HB; have HO270 := n0_; have HO276 := n1_; have HO281 := n2_; have HO288 := n3_; have BK265 := n4_; have BK266 := n5_; have BK278 := n6_; have BK282 := n7_; have BK290 := n8_; have HB := n9_; clear n0_ n1_ n2_ n3_ n4_ n5_ n6_ n7_ n8_ n9_; (try clear hb); (try clear hb2); (try clear hk); (try clear hi)))
    go_meet
    case rel => exact ⟨_, ((t289 != t277)), (by first | rfl | (simp; done) | (simp [*]; done)), H', ⟨by first | omega | exact Nat.le_refl _⟩, ⟨by (with_reducible repeat (first | apply Kd.R_alloc | apply Kd.R_drewN | apply Kd.R_drew)); exact Kd.R_mono HO276.out (fun _ hk => ⟨hk.2.1, hk.2.2⟩)⟩, ⟨by (with_reducible repeat (first | apply Kd.R_alloc | apply Kd.R_drewN | apply Kd.R_drew)); exact Kd.R_mono HO281.out (fun _ hk => ⟨hk.2.1, hk.2.2⟩)⟩, ⟨by (with_reducible repeat (first | apply Kd.R_alloc | apply Kd.R_drewN | apply Kd.R_drew)); exact Kd.R_mono HO288.out (fun _ hk => ⟨hk.2.1, hk.2.2⟩)⟩, ⟨by (with_reducible repeat (first | refine blk_drewN ?_ _ | refine blk_drew ?_ | refine blk_alloc ?_ _)); exact BK265.out⟩, ⟨by (with_reducible repeat (first | refine blk_drewN ?_ _ | refine blk_drew ?_ | refine blk_alloc ?_ _)); exact BK266.out⟩, ⟨by (with_reducible repeat (first | refine blk_drewN ?_ _ | refine blk_drew ?_ | refine blk_alloc ?_ _)); exact BK278.out⟩, ⟨by (with_reducible repeat (first | refine blk_drewN ?_ _ | refine blk_drew ?_ | refine blk_alloc ?_ _)); exact BK282.out⟩, ⟨by (with_reducible repeat (first | refine blk_drewN ?_ _ | refine blk_drew ?_ | refine blk_alloc ?_ _)); exact BK290.out⟩, ⟨by repeat (first | (with_reducible first | exact HB.out | apply below_alloc | apply pw_below_drewN | apply below_drew1 | refine below_set ?_ GE265.out | refine below_set ?_ GE266.out | refine below_set ?_ GE278.out | refine below_set ?_ GE282.out | refine below_set ?_ GE290.out) | exact HB.out)⟩⟩
   ·replace c50 := Bool.eq_false_iff.mpr c50
    subst c50
    have H1 : (laws_FnExactTreeInsert.j0 k a1 t277 t289 true l0_0 a2_0 a2_1 a2_2 t274 t279 t286) = some r := by rw [if_neg (show ¬ (false = true) by decide)] at H; exact H
    clear H
    have H := H1
    clear H1
    have H' := Aside0.mk H
    clear H
    have hnb61 := NB290_265.out
    have hnc61 := NB265_290.out
    have hnb62 := NB290_266.out
    have hnc62 := NB266_290.out
    have hnb63 := NB290_278.out
    have hnc63 := NB278_290.out
    have hnb64 := NB290_282.out
    have hnc64 := NB282_290.out
    have hcz65_0 : w46.cell? ⟨gb290, 0, none⟩ = some (.slice none 0 0) := (blk_cell BK290.out 0).trans rfl
    have hfz65_0 := blk_frozen BK290.out 0
    have hnb66 := NB278_265.out
    have hnc66 := NB265_278.out
    have hnb67 := NB278_266.out
    have hnc67 := NB266_278.out
    have hnb68 := NB278_282.out
    have hnc68 := NB282_278.out
    have hcz69_0 : w46.cell? ⟨gb278, 0, none⟩ = some (.slice Ao30 t274.length co30) := (blk_cell BK278.out 0).trans rfl
    have hfz69_0 := blk_frozen BK278.out 0
    go_wp2_with (first | ((with_reducible refine gate_callee (f := 19) rfl ?_); refine goesL_ (some 44) rfl rfl Tryd.func19 (by kernel_rfl) rfl #[.agg #[.slice Ao47 t286.length co47], .agg #[.slice Ao30 t274.length co30]] rfl (by (try simp only [List.map_toArray, List.map_cons, List.map_nil]); first | done | rfl | (simp only [List.length_drop, List.length_take]; rfl)) ?_; (with_reducible refine (laws_eqTree.calls k _ _ t286 _ _ t274 false _ ?side1 ?side2 ?side3 ?side4 A49.out).mono ?_); (case side1 => refine (Kd.R_reads' (e := 54) (base := w.heap.size) (ok := fun k_ => (some k_ ≠ (v269 : Value).ownBlock ∧ (some k_ ≠ (.slice Ao30 t274.length co30 : Value).ownBlock ∧ some k_ ≠ (.slice Ao36 t279.length co36 : Value).ownBlock))) (n := t286.length) (c := co47) ?_).2.2; exact (rD ((Kd.R_mono (Kd.R_far (p := ⟨gb290, 0, none⟩) (Kd.R_types HO288.out BK290.out (by decide)) (fun _ hk => hk.2) (.slice Ao47 t286.length co47)) (fun _ h_ => h_.1))))); (case side2 => exact (Kd.R_reads' HO288.out).2.1); (case side3 => refine (Kd.R_reads' (e := 54) (base := w.heap.size) (ok := fun k_ => (some k_ ≠ (v269 : Value).ownBlock ∧ (some k_ ≠ (.slice Ao36 t279.length co36 : Value).ownBlock ∧ some k_ ≠ (.slice Ao47 t286.length co47 : Value).ownBlock))) (n := t274.length) (c := co30) ?_).2.2; exact (rD ((Kd.R_mono (Kd.R_far (p := ⟨gb290, 0, none⟩) (Kd.R_types HO276.out BK290.out (by decide)) (fun _ hk => hk.2) (.slice Ao47 t286.length co47)) (fun _ h_ => h_.1))))); (case side4 => exact (Kd.R_reads' HO276.out).2.1); rintro e w70 ⟨rfl, hb⟩; refine ⟨_, rfl, ?_⟩; have n0_ := Aside0.mk (Kd.R_below (rD ((Kd.R_mono (Kd.R_far (p := ⟨gb290, 0, none⟩) (Kd.R_types HO270.out BK290.out (by decide)) (fun _ hk => hk.2) (.slice Ao47 t286.length co47)) (fun _ h_ => h_.1)))) hb); have n1_ := Aside0.mk (Kd.R_below (rD ((Kd.R_mono (Kd.R_far (p := ⟨gb290, 0, none⟩) (Kd.R_types HO276.out BK290.out (by decide)) (fun _ hk => hk.2) (.slice Ao47 t286.length co47)) (fun _ h_ => h_.1)))) hb); have n2_ := Aside0.mk (Kd.R_below (rD ((Kd.R_mono (Kd.R_far (p := ⟨gb290, 0, none⟩) (Kd.R_types HO281.out BK290.out (by decide)) (fun _ hk => hk.2) (.slice Ao47 t286.length co47)) (fun _ h_ => h_.1)))) hb); have n3_ := Aside0.mk (Kd.R_below (rD ((Kd.R_mono (Kd.R_far (p := ⟨gb290, 0, none⟩) (Kd.R_types HO288.out BK290.out (by decide)) (fun _ hk => hk.2) (.slice Ao47 t286.length co47)) (fun _ h_ => h_.1)))) hb); have n4_ := Aside0.mk (blk_below (g := gb265) (o := .cells #[.slice A0_0 l0_0.length c0_0] 24 (0, 0)) (by (with_reducible repeat (first | refine blk_drewN ?_ _ | refine blk_drew ?_ | refine blk_alloc ?_ _)); refine blk_far ?_ NB265_290.out _; (with_reducible repeat (first | refine blk_drewN ?_ _ | refine blk_drew ?_ | refine blk_alloc ?_ _)); exact BK265.out) hb); have n5_ := Aside0.mk (blk_below (g := gb266) (o := .cells #[.int .i64 a2_0, .int .i64 a2_1, .int .i64 a2_2] 76 (0, 0)) (by (with_reducible repeat (first | refine blk_drewN ?_ _ | refine blk_drew ?_ | refine blk_alloc ?_ _)); refine blk_far ?_ NB266_290.out _; (with_reducible repeat (first | refine blk_drewN ?_ _ | refine blk_drew ?_ | refine blk_alloc ?_ _)); exact BK266.out) hb); have n6_ := Aside0.mk (blk_below (g := gb278) (o := .cells #[.slice Ao30 t274.length co30] 30 (0, 0)) (by (with_reducible repeat (first | refine blk_drewN ?_ _ | refine blk_drew ?_ | refine blk_alloc ?_ _)); refine blk_far ?_ NB278_290.out _; (with_reducible repeat (first | refine blk_drewN ?_ _ | refine blk_drew ?_ | refine blk_alloc ?_ _)); exact BK278.out) hb); have n7_ := Aside0.mk (blk_below (g := gb282) (o := .cells #[.slice Ao36 t279.length co36] 30 (0, 0)) (by (with_reducible repeat (first | refine blk_drewN ?_ _ | refine blk_drew ?_ | refine blk_alloc ?_ _)); refine blk_far ?_ NB282_290.out _; (with_reducible repeat (first | refine blk_drewN ?_ _ | refine blk_drew ?_ | refine blk_alloc ?_ _)); exact BK282.out) hb); have n8_ := Aside0.mk (blk_below (g := gb290) (o := .cells #[.slice Ao47 t286.length co47] 30 (0, 0)) (by (with_reducible repeat (first | refine blk_drewN ?_ _ | refine blk_drew ?_ | refine blk_alloc ?_ _)); refine blk_put (cs := #[.slice none 0 0]) ?_ 0 _ rfl; (with_reducible repeat (first | refine blk_drewN ?_ _ | refine blk_drew ?_ | refine blk_alloc ?_ _)); exact BK290.out) hb); have n9_ := Aside0.mk (below_step (hbD HB) hb); clear HO270 HO276 HO281 HO288 BK265 BK266 BK278 BK282 BK290 HB; have HO270 := n0_; have HO276 := n1_; have HO281 := n2_; have HO288 := n3_; have BK265 := n4_; have BK266 := n5_; have BK278 := n6_; have BK282 := n7_; have BK290 := n8_; have HB := n9_; clear n0_ n1_ n2_ n3_ n4_ n5_ n6_ n7_ n8_ n9_; (try clear hb); (try clear hb2); (try clear hk); (try clear hi)))
    go_meet
    case rel => exact ⟨_, (true), (by first | rfl | (simp; done) | (simp [*]; done)), H', ⟨by first | omega | exact Nat.le_refl _⟩, ⟨by (with_reducible repeat (first | apply Kd.R_alloc | apply Kd.R_drewN | apply Kd.R_drew)); exact Kd.R_mono HO276.out (fun _ hk => ⟨hk.2.1, hk.2.2⟩)⟩, ⟨by (with_reducible repeat (first | apply Kd.R_alloc | apply Kd.R_drewN | apply Kd.R_drew)); exact Kd.R_mono HO281.out (fun _ hk => ⟨hk.2.1, hk.2.2⟩)⟩, ⟨by (with_reducible repeat (first | apply Kd.R_alloc | apply Kd.R_drewN | apply Kd.R_drew)); exact Kd.R_mono HO288.out (fun _ hk => ⟨hk.2.1, hk.2.2⟩)⟩, ⟨by (with_reducible repeat (first | refine blk_drewN ?_ _ | refine blk_drew ?_ | refine blk_alloc ?_ _)); exact BK265.out⟩, ⟨by (with_reducible repeat (first | refine blk_drewN ?_ _ | refine blk_drew ?_ | refine blk_alloc ?_ _)); exact BK266.out⟩, ⟨by (with_reducible repeat (first | refine blk_drewN ?_ _ | refine blk_drew ?_ | refine blk_alloc ?_ _)); exact BK278.out⟩, ⟨by (with_reducible repeat (first | refine blk_drewN ?_ _ | refine blk_drew ?_ | refine blk_alloc ?_ _)); exact BK282.out⟩, ⟨by (with_reducible repeat (first | refine blk_drewN ?_ _ | refine blk_drew ?_ | refine blk_alloc ?_ _)); exact BK290.out⟩, ⟨by repeat (first | (with_reducible first | exact HB.out | apply below_alloc | apply pw_below_drewN | apply below_drew1 | refine below_set ?_ GE265.out | refine below_set ?_ GE266.out | refine below_set ?_ GE278.out | refine below_set ?_ GE282.out | refine below_set ?_ GE290.out) | exact HB.out)⟩⟩
  case rest =>
   clear HC17
   try clear c1
   try clear p2
   try clear c3
   try clear c4
   try clear c5
   try clear c6
   try clear c19
   try clear c32
   try clear c49
   try clear c50
   try clear c51
   try clear c52
   try clear c53
   try clear c54
   try clear c56
   try clear c57
   try clear c58
   try clear c61
   try clear c62
   try clear c63
   try clear c64
   try clear c66
   try clear c67
   try clear c68
   try clear hcz55_0
   try clear hcz59_0
   try clear hcz65_0
   try clear hcz69_0
   try clear hfz55_0
   try clear hfz59_0
   try clear hfz65_0
   try clear hfz69_0
   obtain ⟨kq, x50_16, rfl, HA, HJ16, HO_279000, HO_283000, HO_291000, BK265, BK266, BK278, BK282, BK290, HB⟩ := hcut
   cases kq with
   | zero => exact absurd HA.out (by simp [laws_FnExactTreeInsert.j0])
   | succ kj16 =>
    have H := HA.out
    clear HA
    simp only [laws_FnExactTreeInsert.j0] at H
    by_cases c71 : x50_16 = true
    ·subst c71
     have H1 : (some false) = some r := by rw [if_pos rfl] at H; exact H
     clear H
     have H := H1
     clear H1
     obtain rfl := Option.some.inj H
     go_wp2
     go_ret
     exact ⟨by first | rfl | (simp [errW_none, errW_some] <;> rfl) | (simp [*, errW_none, errW_some] <;> rfl), by repeat (first | (with_reducible first | exact HB.out | apply below_alloc | apply pw_below_drewN | apply below_drew1 | refine below_set ?_ GE265.out | refine below_set ?_ GE266.out | refine below_set ?_ GE278.out | refine below_set ?_ GE282.out | refine below_set ?_ GE290.out) | exact HB.out)⟩
    ·replace c71 := Bool.eq_false_iff.mpr c71
     subst c71
     have H1 : ((laws_toTree.f kj16 l0_0).bind fun t292 => ((laws_eqTree.f kj16 t279 t292).bind fun t295 => (if t295 = true then ((laws_markTree.f kj16 t279 1).bind fun bt296 => (if bt296.1 < 0 then (laws_FnExactTreeInsert.j1 kj16 a1 t277 true l0_0 a2_0 a2_1 a2_2 t274 t286) else ((laws_eqTree.f kj16 t286 t274).bind fun t298 => (if t298 = true then (laws_FnExactTreeInsert.j1 kj16 a1 t277 (t289 != t277) l0_0 a2_0 a2_1 a2_2 t274 t286) else (laws_FnExactTreeInsert.j1 kj16 a1 t277 true l0_0 a2_0 a2_1 a2_2 t274 t286))))) else (some false)))) = some r := by rw [if_neg (show ¬ (false = true) by decide)] at H; exact H
     clear H
     have H := H1
     clear H1
     replace H := Option.bind_eq_some_iff.mp H
     obtain ⟨t292, A720, H⟩ := H
     replace H : ((laws_eqTree.f kj16 t279 t292).bind fun t295 => (if t295 = true then ((laws_markTree.f kj16 t279 1).bind fun bt296 => (if bt296.1 < 0 then (laws_FnExactTreeInsert.j1 kj16 a1 t277 true l0_0 a2_0 a2_1 a2_2 t274 t286) else ((laws_eqTree.f kj16 t286 t274).bind fun t298 => (if t298 = true then (laws_FnExactTreeInsert.j1 kj16 a1 t277 (t289 != t277) l0_0 a2_0 a2_1 a2_2 t274 t286) else (laws_FnExactTreeInsert.j1 kj16 a1 t277 true l0_0 a2_0 a2_1 a2_2 t274 t286))))) else (some false))) = some r := H
     have A72 := Aside0.mk A720
     clear A720
     replace H := Option.bind_eq_some_iff.mp H
     obtain ⟨t295, A730, H⟩ := H
     replace H : (if t295 = true then ((laws_markTree.f kj16 t279 1).bind fun bt296 => (if bt296.1 < 0 then (laws_FnExactTreeInsert.j1 kj16 a1 t277 true l0_0 a2_0 a2_1 a2_2 t274 t286) else ((laws_eqTree.f kj16 t286 t274).bind fun t298 => (if t298 = true then (laws_FnExactTreeInsert.j1 kj16 a1 t277 (t289 != t277) l0_0 a2_0 a2_1 a2_2 t274 t286) else (laws_FnExactTreeInsert.j1 kj16 a1 t277 true l0_0 a2_0 a2_1 a2_2 t274 t286))))) else (some false)) = some r := H
     have A73 := Aside0.mk A730
     clear A730
     by_cases c74 : t295 = true
     ·subst c74
      have H1 : ((laws_markTree.f kj16 t279 1).bind fun bt296 => (if bt296.1 < 0 then (laws_FnExactTreeInsert.j1 kj16 a1 t277 true l0_0 a2_0 a2_1 a2_2 t274 t286) else ((laws_eqTree.f kj16 t286 t274).bind fun t298 => (if t298 = true then (laws_FnExactTreeInsert.j1 kj16 a1 t277 (t289 != t277) l0_0 a2_0 a2_1 a2_2 t274 t286) else (laws_FnExactTreeInsert.j1 kj16 a1 t277 true l0_0 a2_0 a2_1 a2_2 t274 t286))))) = some r := by rw [if_pos rfl] at H; exact H
      clear H
      have H := H1
      clear H1
      replace H := Option.bind_eq_some_iff.mp H
      obtain ⟨⟨t296, t297⟩, A750, H⟩ := H
      replace H : (if t296 < 0 then (laws_FnExactTreeInsert.j1 kj16 a1 t277 true l0_0 a2_0 a2_1 a2_2 t274 t286) else ((laws_eqTree.f kj16 t286 t274).bind fun t298 => (if t298 = true then (laws_FnExactTreeInsert.j1 kj16 a1 t277 (t289 != t277) l0_0 a2_0 a2_1 a2_2 t274 t286) else (laws_FnExactTreeInsert.j1 kj16 a1 t277 true l0_0 a2_0 a2_1 a2_2 t274 t286)))) = some r := H
      have A75 := Aside0.mk A750
      clear A750
      have HC76 := Aside0.mk H
      clear H
      try go_wp2
      have n0_ := Aside0.mk (Kd.R_drew HO_279000.out)
      have n1_ := Aside0.mk (Kd.R_drew HO_283000.out)
      have n2_ := Aside0.mk (Kd.R_drew HO_291000.out)
      have n3_ := Aside0.mk (blk_drew BK265.out)
      have n4_ := Aside0.mk (blk_drew BK266.out)
      have n5_ := Aside0.mk (blk_drew BK278.out)
      have n6_ := Aside0.mk (blk_drew BK282.out)
      have n7_ := Aside0.mk (blk_drew BK290.out)
      have n8_ := Aside0.mk (below_drew1 HB.out)
      clear HO_279000 HO_283000 HO_291000 BK265 BK266 BK278 BK282 BK290 HB
      have HO_279000 := n0_
      have HO_283000 := n1_
      have HO_291000 := n2_
      have BK265 := n3_
      have BK266 := n4_
      have BK278 := n5_
      have BK282 := n6_
      have BK290 := n7_
      have HB := n8_
      clear n0_ n1_ n2_ n3_ n4_ n5_ n6_ n7_ n8_
      refine start_ (n := 5) (S := fun w' => w'.cell? ⟨gb282, 0, none⟩ = some (.slice Ao36 t279.length co36) ∧ w'.cell? ⟨gb265, 0, none⟩ = some (.slice A0_0 l0_0.length c0_0)) (ds := []) #[false, false, false, false, false] (by kernel_rfl) rfl rfl ⟨(blk_cell BK282.out 0).trans rfl, (blk_cell BK265.out 0).trans rfl⟩ (fun hHeld => ?_)
      generalize wc.drew = w77 at HO_279000 HO_283000 HO_291000 BK265 BK266 BK278 BK282 BK290 HB hHeld ⊢
      refine take_ (i := 0) (N := some 51) (v := ?_) (a' := ?_) #[true, false, false, false, false] rfl rfl (by kernel_rfl) (fun _ _ _ h => h) (Or.inl ⟨by rfl, ?_⟩) hHeld ?_ ?_
      rotate_left
      ·rintro w' ⟨s0, s1⟩
       go_simp
       with_reducible rfl
      rotate_left
      ·simp only [Act.put, List.setIfInBounds_toArray, List.set_cons_zero, List.set_cons_succ, i64_w, i32_w]
       rfl
      refine take_ (i := 1) (N := some 52) (v := ?_) (a' := ?_) #[true, true, false, false, false] rfl rfl (by kernel_rfl) (fun _ _ _ h => h) (Or.inl ⟨by rfl, ?_⟩) hHeld ?_ ?_
      rotate_left
      ·rintro w' ⟨s0, s1⟩
       go_simp
       with_reducible rfl
      rotate_left
      ·simp only [Act.put, List.setIfInBounds_toArray, List.set_cons_zero, List.set_cons_succ, i64_w, i32_w]
       rfl
      refine one_ (i := 2) (N := some 53) #[true, true, true, false, false] rfl rfl (by kernel_rfl) (by decide) (fun K hK => ?_)
      refine goes_ Tryd.func17 (by kernel_rfl) rfl #[.agg #[.slice A0_0 l0_0.length c0_0]] (by rfl) rfl rfl (by (try simp only [List.map_toArray, List.map_cons, List.map_nil]); first | done | rfl | (simp only [List.length_drop, List.length_take]; rfl)) ?_
      with_reducible refine (laws_toTree.calls kj16 _ _ l0_0 t292 _ ?side1 ?side2 A72.out).mono ?_
      (case side1 => repeat (first | exact (Kd.C_below HR0_0.out HB.out) | (with_reducible refine Kd.C_alloc ?_ _) | (with_reducible refine Kd.C_drewN ?_ _) | (with_reducible refine Kd.C_drew ?_)))
      (case side2 => exact HC0_0.out)
      rintro e w78 ⟨v293, rfl, ho0, hb⟩
      refine ⟨_, rfl, ?_⟩
      have n0_ := Aside0.mk (Kd.R_elder' (rD HO_279000.out) (Kd.R_base ho0) hb)
      have n1_ := Aside0.mk (Kd.R_elder' (rD HO_283000.out) (Kd.R_base ho0) hb)
      have n2_ := Aside0.mk (Kd.R_elder' (rD HO_291000.out) (Kd.R_base ho0) hb)
      have n3_ := Aside0.mk (Kd.R_lower (Kd.R_new' (Kd.R_new' (Kd.R_new' ho0 (Kd.R_lt (rD HO_279000.out))) (Kd.R_lt (rD HO_283000.out))) (Kd.R_lt (rD HO_291000.out))) (below_size (hbD HB)))
      have n4_ := Aside0.mk (blk_below (bkD BK265) hb)
      have n5_ := Aside0.mk (blk_below (bkD BK266) hb)
      have n6_ := Aside0.mk (blk_below (bkD BK278) hb)
      have n7_ := Aside0.mk (blk_below (bkD BK282) hb)
      have n8_ := Aside0.mk (blk_below (bkD BK290) hb)
      have n9_ := Aside0.mk (below_step (hbD HB) hb)
      clear HO_279000 HO_283000 HO_291000 BK265 BK266 BK278 BK282 BK290 HB
      have HO_279000 := n0_
      have HO_283000 := n1_
      have HO_291000 := n2_
      have HO294 := n3_
      have BK265 := n4_
      have BK266 := n5_
      have BK278 := n6_
      have BK282 := n7_
      have BK290 := n8_
      have HB := n9_
      clear n0_ n1_ n2_ n3_ n4_ n5_ n6_ n7_ n8_ n9_
      (try clear hb)
      (try clear hb2)
      (try clear hk)
      (try clear hi)
      (try clear ho0)
      obtain ⟨Ao79, co79, eo79⟩ := Kd.R_slice HO294.out
      (first | subst eo79 | (injection eo79 with f1_ f2_ f3_; have f4_ := f1_.symm; have f5_ := f3_.symm; clear f1_ f2_ f3_; subst f4_; subst f5_))
      refine hK.out _ _ ⟨(blk_cell BK282.out 0).trans rfl, (blk_cell BK265.out 0).trans rfl⟩ (fun hHeld => ?_)
      clear hK K
      refine norm_ (a' := ?_) ?_ ?_
      rotate_left
      ·show Act.put _ (some 53) _ = _
       simp only [Act.put, List.setIfInBounds_toArray, List.set_cons_zero, List.set_cons_succ, i64_w, i32_w]
       rfl
      refine one_ (i := 3) (N := some 54) #[true, true, true, true, false] rfl rfl (by kernel_rfl) (by decide) (fun K hK => ?_)
      refine goes_ Tryd.func19 (by kernel_rfl) rfl #[.agg #[.slice Ao36 t279.length co36], .agg #[.slice Ao79 t292.length co79]] (by rfl) rfl rfl (by (try simp only [List.map_toArray, List.map_cons, List.map_nil]); first | done | rfl | (simp only [List.length_drop, List.length_take]; rfl)) ?_
      with_reducible refine (laws_eqTree.calls kj16 _ _ t279 _ _ t292 true _ ?side1 ?side2 ?side3 ?side4 A73.out).mono ?_
      (case side1 => repeat (first | exact (Kd.R_reads' HO_283000.out).2.2 | (with_reducible refine Kd.C_alloc ?_ _) | (with_reducible refine Kd.C_drewN ?_ _) | (with_reducible refine Kd.C_drew ?_)))
      (case side2 => exact (Kd.R_reads' HO_283000.out).2.1)
      (case side3 => repeat (first | exact (Kd.R_reads' HO294.out).2.2 | (with_reducible refine Kd.C_alloc ?_ _) | (with_reducible refine Kd.C_drewN ?_ _) | (with_reducible refine Kd.C_drew ?_)))
      (case side4 => exact (Kd.R_reads' HO294.out).2.1)
      rintro e w80 ⟨rfl, hb⟩
      refine ⟨_, rfl, ?_⟩
      have n0_ := Aside0.mk (Kd.R_below (rD HO_279000.out) hb)
      have n1_ := Aside0.mk (Kd.R_below (rD HO_283000.out) hb)
      have n2_ := Aside0.mk (Kd.R_below (rD HO_291000.out) hb)
      have n3_ := Aside0.mk (Kd.R_below (rD HO294.out) hb)
      have n4_ := Aside0.mk (blk_below (bkD BK265) hb)
      have n5_ := Aside0.mk (blk_below (bkD BK266) hb)
      have n6_ := Aside0.mk (blk_below (bkD BK278) hb)
      have n7_ := Aside0.mk (blk_below (bkD BK282) hb)
      have n8_ := Aside0.mk (blk_below (bkD BK290) hb)
      have n9_ := Aside0.mk (below_step (hbD HB) hb)
      clear HO_279000 HO_283000 HO_291000 HO294 BK265 BK266 BK278 BK282 BK290 HB
      have HO_279000 := n0_
      have HO_283000 := n1_
      have HO_291000 := n2_
      have HO294 := n3_
      have BK265 := n4_
      have BK266 := n5_
      have BK278 := n6_
      have BK282 := n7_
      have BK290 := n8_
      have HB := n9_
      clear n0_ n1_ n2_ n3_ n4_ n5_ n6_ n7_ n8_ n9_
      (try clear hb)
      (try clear hb2)
      (try clear hk)
      (try clear hi)
      refine hK.out _ _ ⟨(blk_cell BK282.out 0).trans rfl, (blk_cell BK265.out 0).trans rfl⟩ (fun hHeld => ?_)
      clear hK K
      refine norm_ (a' := ?_) ?_ ?_
      rotate_left
      ·show Act.put _ (some 54) _ = _
       simp only [Act.put, List.setIfInBounds_toArray, List.set_cons_zero, List.set_cons_succ, i64_w, i32_w]
       rfl
      refine pure_ (i := 4) (N := some 55) (v := ?_) (a' := ?_) #[true, true, true, true, true] rfl rfl (by kernel_rfl) (fun _ _ _ h => h) (Or.inl ⟨by rfl, ?_⟩) ?_ ?_
      rotate_left
      ·intro w'
       go_simp
       with_reducible rfl
      rotate_left
      ·simp only [Act.put, List.setIfInBounds_toArray, List.set_cons_zero, List.set_cons_succ, i64_w, i32_w]
       rfl
      refine done_ (by kernel_rfl) ?_
      have hnb81 := NB282_265.out
      have hnc81 := NB265_282.out
      have hnb82 := NB282_266.out
      have hnc82 := NB266_282.out
      have hnb83 := NB282_278.out
      have hnc83 := NB278_282.out
      have hnb84 := NB282_290.out
      have hnc84 := NB290_282.out
      have hcz85_0 : w80.cell? ⟨gb282, 0, none⟩ = some (.slice Ao36 t279.length co36) := (blk_cell BK282.out 0).trans rfl
      have hfz85_0 := blk_frozen BK282.out 0
      go_upto_region 14 with (first | ((with_reducible refine gate_callee (f := 50) rfl ?_); refine goesL_ (some 58) rfl rfl Tryd.func50 (by kernel_rfl) rfl #[.agg #[.slice Ao36 t279.length co36], .int .i64 1] rfl (by (try simp only [List.map_toArray, List.map_cons, List.map_nil]); first | done | rfl | (simp only [List.length_drop, List.length_take]; rfl)) ?_; (with_reducible refine (laws_markTree.calls kj16 (fun k_ => some k_ = (.slice Ao36 t279.length co36 : Value).ownBlock) (.slice Ao36 t279.length co36) t279 1 t296 t297 w _ ?side1 ?side2 A75.out).mono ?_); (case side1 => repeat (first | (with_reducible first | exact HB.out | apply below_alloc | apply pw_below_drewN | apply below_drew1 | refine below_set ?_ GE265.out | refine below_set ?_ GE266.out | refine below_set ?_ GE278.out | refine below_set ?_ GE282.out | refine below_set ?_ GE290.out) | exact HB.out)); (case side2 => exact Kd.R_tight rfl HO_283000.out); rintro e w86 ⟨rfl, hy0, hb, hkp⟩; refine ⟨_, rfl, ?_⟩; have n0_ := Aside0.mk (Kd.R_mono (ok' := fun k_ => some k_ ≠ (.slice Ao36 t279.length co36 : Value).ownBlock ∧ some k_ ≠ (.slice Ao47 t286.length co47 : Value).ownBlock ∧ some k_ ≠ (.slice Ao79 t292.length co79 : Value).ownBlock) (Kd.R_keptB (HO_279000.out) hkp (fun k_ hk_ hs_ => (hk_.1.1) hs_)) (fun k_ hk_ => ⟨hk_.1.1.1, hk_.1.1.2, hk_.1.2⟩)); have n1_ := Aside0.mk (Kd.R_reok rfl hy0 (fun k_ e_ => HO_283000.out.1 k_ e_)); have n2_ := Aside0.mk (Kd.R_mono (ok' := fun k_ => some k_ ≠ (.slice Ao30 t274.length co30 : Value).ownBlock ∧ some k_ ≠ (.slice Ao36 t279.length co36 : Value).ownBlock ∧ some k_ ≠ (.slice Ao79 t292.length co79 : Value).ownBlock) (Kd.R_keptB (HO_291000.out) hkp (fun k_ hk_ hs_ => (hk_.1.2) hs_)) (fun k_ hk_ => ⟨hk_.1.1.1, hk_.1.1.2, hk_.1.2⟩)); have n3_ := Aside0.mk (blk_kept (bkD BK265) hkp (fun hs_ => (fun e_ => (Kd.R_ne HO_283000.out BK265.out (by decide)) e_) hs_)); have n4_ := Aside0.mk (blk_kept (bkD BK266) hkp (fun hs_ => (fun e_ => (Kd.R_ne HO_283000.out BK266.out (by decide)) e_) hs_)); have n5_ := Aside0.mk (blk_kept (bkD BK278) hkp (fun hs_ => (fun e_ => (Kd.R_ne HO_283000.out BK278.out (by decide)) e_) hs_)); have n6_ := Aside0.mk (blk_kept (bkD BK282) hkp (fun hs_ => (fun e_ => (Kd.R_ne HO_283000.out BK282.out (by decide)) e_) hs_)); have n7_ := Aside0.mk (blk_kept (bkD BK290) hkp (fun hs_ => (fun e_ => (Kd.R_ne HO_283000.out BK290.out (by decide)) e_) hs_)); have n8_ := Aside0.mk (Kd.R_mono (ok' := fun k_ => some k_ ≠ (.slice Ao30 t274.length co30 : Value).ownBlock ∧ some k_ ≠ (.slice Ao36 t279.length co36 : Value).ownBlock ∧ some k_ ≠ (.slice Ao47 t286.length co47 : Value).ownBlock) (Kd.R_keptB (HO294.out) hkp (fun k_ hk_ hs_ => (hk_.1.2) hs_)) (fun k_ hk_ => ⟨hk_.1.1.1.2, hk_.1.1.2, hk_.1.2⟩)); have n9_ := Aside0.mk (hb); clear HO_279000 HO_283000 HO_291000 BK265 BK266 BK278 BK282 BK290 HO294 HB; have HO_279000 := n0_; have HO_283000 := n1_; have HO_291000 := n2_; have BK265 := n3_; have BK266 := n4_; have BK278 := n5_; have BK282 := n6_; have BK290 := n7_; have HO294 := n8_; have HB := n9_; clear n0_ n1_ n2_ n3_ n4_ n5_ n6_ n7_ n8_ n9_; (try clear hb); (try clear hkp); (try clear hy0)))
      (try simp only [Act.put, List.setIfInBounds_toArray, List.set_cons_zero, List.set_cons_succ])
      go_cut [71] (fun v71 wc => ∃ (kq : Nat) (x71_75 : Bool), v71 = .bool x71_75 ∧ Aside0 (laws_FnExactTreeInsert.j1 kq a1 t277 x71_75 l0_0 a2_0 a2_1 a2_2 t274 t286 = some r) ∧ Aside0 (kq ≤ kj16) ∧ Aside0 (Kd.R k54 54 wc w.heap.size (fun k_ => some k_ ≠ ((.slice Ao36 t279.length co36) : Value).ownBlock ∧ some k_ ≠ ((.slice Ao47 t286.length co47) : Value).ownBlock) (.slice Ao30 t274.length co30) t274) ∧ Aside0 (Kd.R k54 54 wc w.heap.size (fun k_ => some k_ ≠ ((.slice Ao30 t274.length co30) : Value).ownBlock ∧ some k_ ≠ ((.slice Ao47 t286.length co47) : Value).ownBlock) (.slice Ao36 t279.length co36) t297) ∧ Aside0 (Kd.R k54 54 wc w.heap.size (fun k_ => some k_ ≠ ((.slice Ao30 t274.length co30) : Value).ownBlock ∧ some k_ ≠ ((.slice Ao36 t279.length co36) : Value).ownBlock) (.slice Ao47 t286.length co47) t286) ∧ Aside0 (wc.heap[gb265]? = some (.cells #[(.slice A0_0 l0_0.length c0_0)] 24 (0, 0))) ∧ Aside0 (wc.heap[gb266]? = some (.cells #[.int .i64 a2_0, .int .i64 a2_1, .int .i64 a2_2] 76 (0, 0))) ∧ Aside0 (wc.heap[gb278]? = some (.cells #[(.slice Ao30 t274.length co30)] 30 (0, 0))) ∧ Aside0 (wc.heap[gb282]? = some (.cells #[(.slice Ao36 t279.length co36)] 30 (0, 0))) ∧ Aside0 (wc.heap[gb290]? = some (.cells #[(.slice Ao47 t286.length co47)] 30 (0, 0))) ∧ Aside0 (Below w.heap.size w wc))
      case first =>
       have H := HC76.out
       clear HC76
       by_cases c87 : t296 < 0
       ·rw [if_pos c87] at H
        have c87b0 : decide (t296 < 0) = true := decide_eq_true c87
        clear c87
        (first | rw [c87b0] | (simp only [i64_w, i32_w]; rw [c87b0]) | skip)
        have H' := Aside0.mk H
        clear H
        go_wp2
        go_meet
        case rel => exact ⟨_, (true), (by first | rfl | (simp; done) | (simp [*]; done)), H', ⟨by have := HJ16.out; first | omega | exact Nat.le_refl _⟩, ⟨by (with_reducible repeat (first | apply Kd.R_alloc | apply Kd.R_drewN | apply Kd.R_drew)); exact Kd.R_mono HO_279000.out (fun _ hk => ⟨hk.1, hk.2.1⟩)⟩, ⟨by (with_reducible repeat (first | apply Kd.R_alloc | apply Kd.R_drewN | apply Kd.R_drew)); exact Kd.R_mono HO_283000.out (fun _ hk => ⟨hk.1.1, hk.1.2⟩)⟩, ⟨by (with_reducible repeat (first | apply Kd.R_alloc | apply Kd.R_drewN | apply Kd.R_drew)); exact Kd.R_mono HO_291000.out (fun _ hk => ⟨hk.1, hk.2.1⟩)⟩, ⟨by (with_reducible repeat (first | refine blk_drewN ?_ _ | refine blk_drew ?_ | refine blk_alloc ?_ _)); exact BK265.out⟩, ⟨by (with_reducible repeat (first | refine blk_drewN ?_ _ | refine blk_drew ?_ | refine blk_alloc ?_ _)); exact BK266.out⟩, ⟨by (with_reducible repeat (first | refine blk_drewN ?_ _ | refine blk_drew ?_ | refine blk_alloc ?_ _)); exact BK278.out⟩, ⟨by (with_reducible repeat (first | refine blk_drewN ?_ _ | refine blk_drew ?_ | refine blk_alloc ?_ _)); exact BK282.out⟩, ⟨by (with_reducible repeat (first | refine blk_drewN ?_ _ | refine blk_drew ?_ | refine blk_alloc ?_ _)); exact BK290.out⟩, ⟨by repeat (first | (with_reducible first | exact HB.out | apply below_alloc | apply pw_below_drewN | apply below_drew1 | refine below_set ?_ GE265.out | refine below_set ?_ GE266.out | refine below_set ?_ GE278.out | refine below_set ?_ GE282.out | refine below_set ?_ GE290.out) | exact HB.out)⟩⟩
       ·rw [if_neg c87] at H
        have c87b0 : decide (t296 < 0) = false := decide_eq_false c87
        clear c87
        (first | rw [c87b0] | (simp only [i64_w, i32_w]; rw [c87b0]) | skip)
        replace H := Option.bind_eq_some_iff.mp H
        obtain ⟨t298, A880, H⟩ := H
        replace H : (if t298 = true then (laws_FnExactTreeInsert.j1 kj16 a1 t277 (t289 != t277) l0_0 a2_0 a2_1 a2_2 t274 t286) else (laws_FnExactTreeInsert.j1 kj16 a1 t277 true l0_0 a2_0 a2_1 a2_2 t274 t286)) = some r := H
        have A88 := Aside0.mk A880
        clear A880
        by_cases c89 : t298 = true
        ·subst c89
         have H1 : (laws_FnExactTreeInsert.j1 kj16 a1 t277 (t289 != t277) l0_0 a2_0 a2_1 a2_2 t274 t286) = some r := by rw [if_pos rfl] at H; exact H
         clear H
         have H := H1
         clear H1
         have H' := Aside0.mk H
         clear H
         have hnb90 := NB290_265.out
         have hnc90 := NB265_290.out
         have hnb91 := NB290_266.out
         have hnc91 := NB266_290.out
         have hnb92 := NB290_278.out
         have hnc92 := NB278_290.out
         have hnb93 := NB290_282.out
         have hnc93 := NB282_290.out
         have hcz94_0 : w86.cell? ⟨gb290, 0, none⟩ = some (.slice Ao47 t286.length co47) := (blk_cell BK290.out 0).trans rfl
         have hfz94_0 := blk_frozen BK290.out 0
         have hnb95 := NB278_265.out
         have hnc95 := NB265_278.out
         have hnb96 := NB278_266.out
         have hnc96 := NB266_278.out
         have hnb97 := NB278_282.out
         have hnc97 := NB282_278.out
         have hcz98_0 : w86.cell? ⟨gb278, 0, none⟩ = some (.slice Ao30 t274.length co30) := (blk_cell BK278.out 0).trans rfl
         have hfz98_0 := blk_frozen BK278.out 0
         go_wp2_with (first | (go_at_call 19; (with_reducible refine (laws_eqTree.calls kj16 _ _ t286 _ _ t274 true _ ?side1 ?side2 ?side3 ?side4 A88.out).mono ?_); (case side1 => repeat (first | exact (Kd.R_reads' HO_291000.out).2.2 | (with_reducible refine Kd.C_alloc ?_ _) | (with_reducible refine Kd.C_drewN ?_ _) | (with_reducible refine Kd.C_drew ?_))); (case side2 => exact (Kd.R_reads' HO_291000.out).2.1); (case side3 => repeat (first | exact (Kd.R_reads' HO_279000.out).2.2 | (with_reducible refine Kd.C_alloc ?_ _) | (with_reducible refine Kd.C_drewN ?_ _) | (with_reducible refine Kd.C_drew ?_))); (case side4 => exact (Kd.R_reads' HO_279000.out).2.1); rintro e w99 ⟨rfl, hb⟩; have n0_ := Aside0.mk (Kd.R_below (rD HO_279000.out) hb); have n1_ := Aside0.mk (Kd.R_below (rD HO_283000.out) hb); have n2_ := Aside0.mk (Kd.R_below (rD HO_291000.out) hb); have n3_ := Aside0.mk (Kd.R_below (rD HO294.out) hb); have n4_ := Aside0.mk (blk_below (bkD BK265) hb); have n5_ := Aside0.mk (blk_below (bkD BK266) hb); have n6_ := Aside0.mk (blk_below (bkD BK278) hb); have n7_ := Aside0.mk (blk_below (bkD BK282) hb); have n8_ := Aside0.mk (blk_below (bkD BK290) hb); have n9_ := Aside0.mk (below_step (hbD HB) hb); clear HO_279000 HO_283000 HO_291000 HO294 BK265 BK266 BK278 BK282 BK290 HB; have HO_279000 := n0_; have HO_283000 := n1_; have HO_291000 := n2_; have HO294 := n3_; have BK265 := n4_; have BK266 := n5_; have BK278 := n6_; have BK282 := n7_; have BK290 := n8_; have HB := n9_; clear n0_ n1_ n2_ n3_ n4_ n5_ n6_ n7_ n8_ n9_; (try clear hb); (try clear hb2); (try clear hk); (try clear hi)))
         go_meet
         case rel => exact ⟨_, ((t289 != t277)), (by first | rfl | (simp; done) | (simp [*]; done)), H', ⟨by have := HJ16.out; first | omega | exact Nat.le_refl _⟩, ⟨by (with_reducible repeat (first | apply Kd.R_alloc | apply Kd.R_drewN | apply Kd.R_drew)); exact Kd.R_mono HO_279000.out (fun _ hk => ⟨hk.1, hk.2.1⟩)⟩, ⟨by (with_reducible repeat (first | apply Kd.R_alloc | apply Kd.R_drewN | apply Kd.R_drew)); exact Kd.R_mono HO_283000.out (fun _ hk => ⟨hk.1.1, hk.1.2⟩)⟩, ⟨by (with_reducible repeat (first | apply Kd.R_alloc | apply Kd.R_drewN | apply Kd.R_drew)); exact Kd.R_mono HO_291000.out (fun _ hk => ⟨hk.1, hk.2.1⟩)⟩, ⟨by (with_reducible repeat (first | refine blk_drewN ?_ _ | refine blk_drew ?_ | refine blk_alloc ?_ _)); exact BK265.out⟩, ⟨by (with_reducible repeat (first | refine blk_drewN ?_ _ | refine blk_drew ?_ | refine blk_alloc ?_ _)); exact BK266.out⟩, ⟨by (with_reducible repeat (first | refine blk_drewN ?_ _ | refine blk_drew ?_ | refine blk_alloc ?_ _)); exact BK278.out⟩, ⟨by (with_reducible repeat (first | refine blk_drewN ?_ _ | refine blk_drew ?_ | refine blk_alloc ?_ _)); exact BK282.out⟩, ⟨by (with_reducible repeat (first | refine blk_drewN ?_ _ | refine blk_drew ?_ | refine blk_alloc ?_ _)); exact BK290.out⟩, ⟨by repeat (first | (with_reducible first | exact HB.out | apply below_alloc | apply pw_below_drewN | apply below_drew1 | refine below_set ?_ GE265.out | refine below_set ?_ GE266.out | refine below_set ?_ GE278.out | refine below_set ?_ GE282.out | refine below_set ?_ GE290.out) | exact HB.out)⟩⟩
        ·replace c89 := Bool.eq_false_iff.mpr c89
         subst c89
         have H1 : (laws_FnExactTreeInsert.j1 kj16 a1 t277 true l0_0 a2_0 a2_1 a2_2 t274 t286) = some r := by rw [if_neg (show ¬ (false = true) by decide)] at H; exact H
         clear H
         have H := H1
         clear H1
         have H' := Aside0.mk H
         clear H
         have hnb100 := NB290_265.out
         have hnc100 := NB265_290.out
         have hnb101 := NB290_266.out
         have hnc101 := NB266_290.out
         have hnb102 := NB290_278.out
         have hnc102 := NB278_290.out
         have hnb103 := NB290_282.out
         have hnc103 := NB282_290.out
         have hcz104_0 : w86.cell? ⟨gb290, 0, none⟩ = some (.slice Ao47 t286.length co47) := (blk_cell BK290.out 0).trans rfl
         have hfz104_0 := blk_frozen BK290.out 0
         have hnb105 := NB278_265.out
         have hnc105 := NB265_278.out
         have hnb106 := NB278_266.out
         have hnc106 := NB266_278.out
         have hnb107 := NB278_282.out
         have hnc107 := NB282_278.out
         have hcz108_0 : w86.cell? ⟨gb278, 0, none⟩ = some (.slice Ao30 t274.length co30) := (blk_cell BK278.out 0).trans rfl
         have hfz108_0 := blk_frozen BK278.out 0
         go_wp2_with (first | (go_at_call 19; (with_reducible refine (laws_eqTree.calls kj16 _ _ t286 _ _ t274 false _ ?side1 ?side2 ?side3 ?side4 A88.out).mono ?_); (case side1 => repeat (first | exact (Kd.R_reads' HO_291000.out).2.2 | (with_reducible refine Kd.C_alloc ?_ _) | (with_reducible refine Kd.C_drewN ?_ _) | (with_reducible refine Kd.C_drew ?_))); (case side2 => exact (Kd.R_reads' HO_291000.out).2.1); (case side3 => repeat (first | exact (Kd.R_reads' HO_279000.out).2.2 | (with_reducible refine Kd.C_alloc ?_ _) | (with_reducible refine Kd.C_drewN ?_ _) | (with_reducible refine Kd.C_drew ?_))); (case side4 => exact (Kd.R_reads' HO_279000.out).2.1); rintro e w109 ⟨rfl, hb⟩; have n0_ := Aside0.mk (Kd.R_below (rD HO_279000.out) hb); have n1_ := Aside0.mk (Kd.R_below (rD HO_283000.out) hb); have n2_ := Aside0.mk (Kd.R_below (rD HO_291000.out) hb); have n3_ := Aside0.mk (Kd.R_below (rD HO294.out) hb); have n4_ := Aside0.mk (blk_below (bkD BK265) hb); have n5_ := Aside0.mk (blk_below (bkD BK266) hb); have n6_ := Aside0.mk (blk_below (bkD BK278) hb); have n7_ := Aside0.mk (blk_below (bkD BK282) hb); have n8_ := Aside0.mk (blk_below (bkD BK290) hb); have n9_ := Aside0.mk (below_step (hbD HB) hb); clear HO_279000 HO_283000 HO_291000 HO294 BK265 BK266 BK278 BK282 BK290 HB; have HO_279000 := n0_; have HO_283000 := n1_; have HO_291000 := n2_; have HO294 := n3_; have BK265 := n4_; have BK266 := n5_; have BK278 := n6_; have BK282 := n7_; have BK290 := n8_; have HB := n9_; clear n0_ n1_ n2_ n3_ n4_ n5_ n6_ n7_ n8_ n9_; (try clear hb); (try clear hb2); (try clear hk); (try clear hi)))
         go_meet
         case rel => exact ⟨_, (true), (by first | rfl | (simp; done) | (simp [*]; done)), H', ⟨by have := HJ16.out; first | omega | exact Nat.le_refl _⟩, ⟨by (with_reducible repeat (first | apply Kd.R_alloc | apply Kd.R_drewN | apply Kd.R_drew)); exact Kd.R_mono HO_279000.out (fun _ hk => ⟨hk.1, hk.2.1⟩)⟩, ⟨by (with_reducible repeat (first | apply Kd.R_alloc | apply Kd.R_drewN | apply Kd.R_drew)); exact Kd.R_mono HO_283000.out (fun _ hk => ⟨hk.1.1, hk.1.2⟩)⟩, ⟨by (with_reducible repeat (first | apply Kd.R_alloc | apply Kd.R_drewN | apply Kd.R_drew)); exact Kd.R_mono HO_291000.out (fun _ hk => ⟨hk.1, hk.2.1⟩)⟩, ⟨by (with_reducible repeat (first | refine blk_drewN ?_ _ | refine blk_drew ?_ | refine blk_alloc ?_ _)); exact BK265.out⟩, ⟨by (with_reducible repeat (first | refine blk_drewN ?_ _ | refine blk_drew ?_ | refine blk_alloc ?_ _)); exact BK266.out⟩, ⟨by (with_reducible repeat (first | refine blk_drewN ?_ _ | refine blk_drew ?_ | refine blk_alloc ?_ _)); exact BK278.out⟩, ⟨by (with_reducible repeat (first | refine blk_drewN ?_ _ | refine blk_drew ?_ | refine blk_alloc ?_ _)); exact BK282.out⟩, ⟨by (with_reducible repeat (first | refine blk_drewN ?_ _ | refine blk_drew ?_ | refine blk_alloc ?_ _)); exact BK290.out⟩, ⟨by repeat (first | (with_reducible first | exact HB.out | apply below_alloc | apply pw_below_drewN | apply below_drew1 | refine below_set ?_ GE265.out | refine below_set ?_ GE266.out | refine below_set ?_ GE278.out | refine below_set ?_ GE282.out | refine below_set ?_ GE290.out) | exact HB.out)⟩⟩
      case rest =>
       clear HC76
       try clear c1
       try clear p2
       try clear c3
       try clear c4
       try clear c5
       try clear c6
       try clear c7
       try clear c8
       try clear c9
       try clear c10
       try clear c17
       try clear c19
       try clear c32
       try clear c49
       try clear c50
       try clear c51
       try clear c52
       try clear c53
       try clear c54
       try clear c56
       try clear c57
       try clear c58
       try clear c61
       try clear c62
       try clear c63
       try clear c64
       try clear c66
       try clear c67
       try clear c68
       try clear c71
       try clear c74
       try clear c81
       try clear c82
       try clear c83
       try clear c84
       try clear c87
       try clear c87b0
       try clear c89
       try clear c90
       try clear c91
       try clear c92
       try clear c93
       try clear c95
       try clear c96
       try clear c97
       try clear c100
       try clear c101
       try clear c102
       try clear c103
       try clear c105
       try clear c106
       try clear c107
       try clear hcz104_0
       try clear hcz108_0
       try clear hcz55_0
       try clear hcz59_0
       try clear hcz65_0
       try clear hcz69_0
       try clear hcz85_0
       try clear hcz94_0
       try clear hcz98_0
       try clear hfz104_0
       try clear hfz108_0
       try clear hfz55_0
       try clear hfz59_0
       try clear hfz65_0
       try clear hfz69_0
       try clear hfz85_0
       try clear hfz94_0
       try clear hfz98_0
       try clear p2
       obtain ⟨kq, x71_75, rfl, HA, HJ75, HO_279000, HO_283000, HO_291000, BK265, BK266, BK278, BK282, BK290, HB⟩ := hcut
       have hl283000_75 := (Kd.R_reads' HO_283000.out).1
       rw [hl283000_75] at HO_283000
       (try simp only [hl283000_75])
       (try simp only [hl283000_75] at BK265)
       (try simp only [hl283000_75] at BK266)
       (try simp only [hl283000_75] at BK278)
       (try simp only [hl283000_75] at BK282)
       (try simp only [hl283000_75] at BK290)
       (try simp only [hl283000_75] at HO_279000)
       (try simp only [hl283000_75] at HO_291000)
       cases kq with
       | zero => exact absurd HA.out (by simp [laws_FnExactTreeInsert.j1])
       | succ kj75 =>
        have H := HA.out
        clear HA
        simp only [laws_FnExactTreeInsert.j1] at H
        by_cases c110 : x71_75 = true
        ·subst c110
         have H1 : (some false) = some r := by rw [if_pos rfl] at H; exact H
         clear H
         have H := H1
         clear H1
         obtain rfl := Option.some.inj H
         go_wp2
         go_ret
         exact ⟨by first | rfl | (simp [errW_none, errW_some] <;> rfl) | (simp [*, errW_none, errW_some] <;> rfl), by repeat (first | (with_reducible first | exact HB.out | apply below_alloc | apply pw_below_drewN | apply below_drew1 | refine below_set ?_ GE265.out | refine below_set ?_ GE266.out | refine below_set ?_ GE278.out | refine below_set ?_ GE282.out | refine below_set ?_ GE290.out) | exact HB.out)⟩
        ·replace c110 := Bool.eq_false_iff.mpr c110
         subst c110
         have H1 : ((laws_markTree.f kj75 t286 1).bind fun bt299 => ((laws_heldTree.f kj75 bt299.2 1).bind fun t301 => (if t301 < 0 then (some false) else (if t301 = bt299.1 then ((laws_toTree.f kj75 l0_0).bind fun t302 => ((laws_toPiece.f a2_0 a2_1 a2_2).bind fun bt305 => ((impl_TreeInsert.f t302 a1 bt305.1 bt305.2.1 bt305.2.2).bind fun bt308 => ((laws_eqTree.f kj75 bt308.1 t274).bind fun t313 => (if t313 = true then (laws_FnExactTreeInsert.j2 kj75 bt299.1 (bt308.2 != t277) bt299.2) else (laws_FnExactTreeInsert.j2 kj75 bt299.1 true bt299.2)))))) else (some false))))) = some r := by rw [if_neg (show ¬ (false = true) by decide)] at H; exact H
         clear H
         have H := H1
         clear H1
         replace H := Option.bind_eq_some_iff.mp H
         obtain ⟨⟨t299, t300⟩, A1110, H⟩ := H
         replace H : ((laws_heldTree.f kj75 t300 1).bind fun t301 => (if t301 < 0 then (some false) else (if t301 = t299 then ((laws_toTree.f kj75 l0_0).bind fun t302 => ((laws_toPiece.f a2_0 a2_1 a2_2).bind fun bt305 => ((impl_TreeInsert.f t302 a1 bt305.1 bt305.2.1 bt305.2.2).bind fun bt308 => ((laws_eqTree.f kj75 bt308.1 t274).bind fun t313 => (if t313 = true then (laws_FnExactTreeInsert.j2 kj75 t299 (bt308.2 != t277) t300) else (laws_FnExactTreeInsert.j2 kj75 t299 true t300)))))) else (some false)))) = some r := H
         have A111 := Aside0.mk A1110
         clear A1110
         replace H := Option.bind_eq_some_iff.mp H
         obtain ⟨t301, A1120, H⟩ := H
         replace H : (if t301 < 0 then (some false) else (if t301 = t299 then ((laws_toTree.f kj75 l0_0).bind fun t302 => ((laws_toPiece.f a2_0 a2_1 a2_2).bind fun bt305 => ((impl_TreeInsert.f t302 a1 bt305.1 bt305.2.1 bt305.2.2).bind fun bt308 => ((laws_eqTree.f kj75 bt308.1 t274).bind fun t313 => (if t313 = true then (laws_FnExactTreeInsert.j2 kj75 t299 (bt308.2 != t277) t300) else (laws_FnExactTreeInsert.j2 kj75 t299 true t300)))))) else (some false))) = some r := H
         have A112 := Aside0.mk A1120
         clear A1120
         by_cases c113 : t301 < 0
         ·rw [if_pos c113] at H
          have c113b0 : decide (t301 < 0) = true := decide_eq_true c113
          clear c113
          obtain rfl := Option.some.inj H
          have hnb114 := NB290_265.out
          have hnc114 := NB265_290.out
          have hnb115 := NB290_266.out
          have hnc115 := NB266_290.out
          have hnb116 := NB290_278.out
          have hnc116 := NB278_290.out
          have hnb117 := NB290_282.out
          have hnc117 := NB282_290.out
          have hcz118_0 : wc.cell? ⟨gb290, 0, none⟩ = some (.slice Ao47 t286.length co47) := (blk_cell BK290.out 0).trans rfl
          have hfz118_0 := blk_frozen BK290.out 0
          go_wp2_with (first | ((with_reducible refine gate_callee (f := 50) rfl ?_); refine goesL_ (some 74) rfl rfl Tryd.func50 (by kernel_rfl) rfl #[.agg #[.slice Ao47 t286.length co47], .int .i64 1] rfl (by (try simp only [List.map_toArray, List.map_cons, List.map_nil]); first | done | rfl | (simp only [List.length_drop, List.length_take]; rfl)) ?_; (with_reducible refine (laws_markTree.calls kj75 (fun k_ => some k_ = (.slice Ao47 t286.length co47 : Value).ownBlock) (.slice Ao47 t286.length co47) t286 1 t299 t300 w _ ?side1 ?side2 A111.out).mono ?_); (case side1 => repeat (first | (with_reducible first | exact HB.out | apply below_alloc | apply pw_below_drewN | apply below_drew1 | refine below_set ?_ GE265.out | refine below_set ?_ GE266.out | refine below_set ?_ GE278.out | refine below_set ?_ GE282.out | refine below_set ?_ GE290.out) | exact HB.out)); (case side2 => exact Kd.R_tight rfl HO_291000.out); rintro e w119 ⟨rfl, hy0, hb, hkp⟩; refine ⟨_, rfl, ?_⟩; have n0_ := Aside0.mk (Kd.R_mono (ok' := fun k_ => some k_ ≠ (.slice Ao36 t297.length co36 : Value).ownBlock ∧ some k_ ≠ (.slice Ao47 t286.length co47 : Value).ownBlock) (Kd.R_keptB (HO_279000.out) hkp (fun k_ hk_ hs_ => (hk_.2) hs_)) (fun k_ hk_ => ⟨hk_.1.1, hk_.1.2⟩)); have n1_ := Aside0.mk (Kd.R_mono (ok' := fun k_ => some k_ ≠ (.slice Ao30 t274.length co30 : Value).ownBlock ∧ some k_ ≠ (.slice Ao47 t286.length co47 : Value).ownBlock) (Kd.R_keptB (HO_283000.out) hkp (fun k_ hk_ hs_ => (hk_.2) hs_)) (fun k_ hk_ => ⟨hk_.1.1, hk_.1.2⟩)); have n2_ := Aside0.mk (Kd.R_reok rfl hy0 (fun k_ e_ => HO_291000.out.1 k_ e_)); have n3_ := Aside0.mk (blk_kept (bkD BK265) hkp (fun hs_ => (fun e_ => (Kd.R_ne HO_291000.out BK265.out (by decide)) e_) hs_)); have n4_ := Aside0.mk (blk_kept (bkD BK266) hkp (fun hs_ => (fun e_ => (Kd.R_ne HO_291000.out BK266.out (by decide)) e_) hs_)); have n5_ := Aside0.mk (blk_kept (bkD BK278) hkp (fun hs_ => (fun e_ => (Kd.R_ne HO_291000.out BK278.out (by decide)) e_) hs_)); have n6_ := Aside0.mk (blk_kept (bkD BK282) hkp (fun hs_ => (fun e_ => (Kd.R_ne HO_291000.out BK282.out (by decide)) e_) hs_)); have n7_ := Aside0.mk (blk_kept (bkD BK290) hkp (fun hs_ => (fun e_ => (Kd.R_ne HO_291000.out BK290.out (by decide)) e_) hs_)); have n8_ := Aside0.mk (hb); clear HO_279000 HO_283000 HO_291000 BK265 BK266 BK278 BK282 BK290 HB; have HO_279000 := n0_; have HO_283000 := n1_; have HO_291000 := n2_; have BK265 := n3_; have BK266 := n4_; have BK278 := n5_; have BK282 := n6_; have BK290 := n7_; have HB := n8_; clear n0_ n1_ n2_ n3_ n4_ n5_ n6_ n7_ n8_; (try clear hb); (try clear hkp); (try clear hy0); have hcz120_0 : w119.cell? ⟨gb290, 0, none⟩ = some (.slice Ao47 t286.length co47) := (blk_cell BK290.out 0).trans rfl; have hfz120_0 := blk_frozen BK290.out 0) | ((with_reducible refine gate_callee (f := 51) rfl ?_); refine goesL_ (some 77) rfl rfl Tryd.func51 (by kernel_rfl) rfl #[.agg #[.slice Ao47 t300.length co47], .int .i64 1] rfl (by (try simp only [List.map_toArray, List.map_cons, List.map_nil]); first | done | (rw [show t300.length = t286.length from (Kd.R_reads' HO_291000.out).1.symm] <;> rfl) | rfl | (simp only [List.length_drop, List.length_take]; rfl)) ?_; (with_reducible refine (laws_heldTree.calls kj75 _ _ t300 1 t301 _ ?side1 ?side2 A112.out).mono ?_); (case side1 => repeat (first | exact (Kd.R_reads' HO_291000.out).2.2 | (with_reducible refine Kd.C_alloc ?_ _) | (with_reducible refine Kd.C_drewN ?_ _) | (with_reducible refine Kd.C_drew ?_))); (case side2 => rw [show t300.length = t286.length from (Kd.R_reads' HO_291000.out).1.symm]; exact (Kd.R_reads' HO_291000.out).2.1); rintro e w121 ⟨rfl, hb⟩; refine ⟨_, rfl, ?_⟩; have n0_ := Aside0.mk (Kd.R_below (rD HO_279000.out) hb); have n1_ := Aside0.mk (Kd.R_below (rD HO_283000.out) hb); have n2_ := Aside0.mk (Kd.R_below (rD HO_291000.out) hb); have n3_ := Aside0.mk (blk_below (bkD BK265) hb); have n4_ := Aside0.mk (blk_below (bkD BK266) hb); have n5_ := Aside0.mk (blk_below (bkD BK278) hb); have n6_ := Aside0.mk (blk_below (bkD BK282) hb); have n7_ := Aside0.mk (blk_below (bkD BK290) hb); have n8_ := Aside0.mk (below_step (hbD HB) hb); clear HO_279000 HO_283000 HO_291000 BK265 BK266 BK278 BK282 BK290 HB; have HO_279000 := n0_; have HO_283000 := n1_; have HO_291000 := n2_; have BK265 := n3_; have BK266 := n4_; have BK278 := n5_; have BK282 := n6_; have BK290 := n7_; have HB := n8_; clear n0_ n1_ n2_ n3_ n4_ n5_ n6_ n7_ n8_; (try clear hb); (try clear hb2); (try clear hk); (try clear hi)))
          go_ret
          exact ⟨by first | rfl | (simp [errW_none, errW_some] <;> rfl) | (simp [*, errW_none, errW_some] <;> rfl), by repeat (first | (with_reducible first | exact HB.out | apply below_alloc | apply pw_below_drewN | apply below_drew1 | refine below_set ?_ GE265.out | refine below_set ?_ GE266.out | refine below_set ?_ GE278.out | refine below_set ?_ GE282.out | refine below_set ?_ GE290.out) | exact HB.out)⟩
         ·rw [if_neg c113] at H
          have c113b0 : decide (t301 < 0) = false := decide_eq_false c113
          clear c113
          by_cases c122 : t301 = t299
          ·rw [if_pos c122] at H
           have c122b0 : (t301 == t299) = true := beq_iff_eq.mpr c122
           have c122b1 : (t301 != t299) = false := bne_eq_false_iff_eq.mpr c122
           clear c122
           replace H := Option.bind_eq_some_iff.mp H
           obtain ⟨t302, A1230, H⟩ := H
           replace H : ((laws_toPiece.f a2_0 a2_1 a2_2).bind fun bt305 => ((impl_TreeInsert.f t302 a1 bt305.1 bt305.2.1 bt305.2.2).bind fun bt308 => ((laws_eqTree.f kj75 bt308.1 t274).bind fun t313 => (if t313 = true then (laws_FnExactTreeInsert.j2 kj75 t299 (bt308.2 != t277) t300) else (laws_FnExactTreeInsert.j2 kj75 t299 true t300))))) = some r := H
           have A123 := Aside0.mk A1230
           clear A1230
           replace H := Option.bind_eq_some_iff.mp H
           obtain ⟨⟨t305, t306, t307⟩, A1240, H⟩ := H
           replace H : ((impl_TreeInsert.f t302 a1 t305 t306 t307).bind fun bt308 => ((laws_eqTree.f kj75 bt308.1 t274).bind fun t313 => (if t313 = true then (laws_FnExactTreeInsert.j2 kj75 t299 (bt308.2 != t277) t300) else (laws_FnExactTreeInsert.j2 kj75 t299 true t300)))) = some r := H
           have A124 := Aside0.mk A1240
           clear A1240
           replace H := Option.bind_eq_some_iff.mp H
           obtain ⟨⟨t308, t311⟩, A1250, H⟩ := H
           replace H : ((laws_eqTree.f kj75 t308 t274).bind fun t313 => (if t313 = true then (laws_FnExactTreeInsert.j2 kj75 t299 (t311 != t277) t300) else (laws_FnExactTreeInsert.j2 kj75 t299 true t300))) = some r := H
           have A125 := Aside0.mk A1250
           clear A1250
           have HC126 := Aside0.mk H
           clear H
           have hnb127 := NB290_265.out
           have hnc127 := NB265_290.out
           have hnb128 := NB290_266.out
           have hnc128 := NB266_290.out
           have hnb129 := NB290_278.out
           have hnc129 := NB278_290.out
           have hnb130 := NB290_282.out
           have hnc130 := NB282_290.out
           have hcz131_0 : wc.cell? ⟨gb290, 0, none⟩ = some (.slice Ao47 t286.length co47) := (blk_cell BK290.out 0).trans rfl
           have hfz131_0 := blk_frozen BK290.out 0
           try go_wp2_with (first | ((with_reducible refine gate_callee (f := 50) rfl ?_); refine goesL_ (some 74) rfl rfl Tryd.func50 (by kernel_rfl) rfl #[.agg #[.slice Ao47 t286.length co47], .int .i64 1] rfl (by (try simp only [List.map_toArray, List.map_cons, List.map_nil]); first | done | rfl | (simp only [List.length_drop, List.length_take]; rfl)) ?_; (with_reducible refine (laws_markTree.calls kj75 (fun k_ => some k_ = (.slice Ao47 t286.length co47 : Value).ownBlock) (.slice Ao47 t286.length co47) t286 1 t299 t300 w _ ?side1 ?side2 A111.out).mono ?_); (case side1 => repeat (first | (with_reducible first | exact HB.out | apply below_alloc | apply pw_below_drewN | apply below_drew1 | refine below_set ?_ GE265.out | refine below_set ?_ GE266.out | refine below_set ?_ GE278.out | refine below_set ?_ GE282.out | refine below_set ?_ GE290.out) | exact HB.out)); (case side2 => exact Kd.R_tight rfl HO_291000.out); rintro e w132 ⟨rfl, hy0, hb, hkp⟩; refine ⟨_, rfl, ?_⟩; have n0_ := Aside0.mk (Kd.R_mono (ok' := fun k_ => some k_ ≠ (.slice Ao36 t297.length co36 : Value).ownBlock ∧ some k_ ≠ (.slice Ao47 t286.length co47 : Value).ownBlock) (Kd.R_keptB (HO_279000.out) hkp (fun k_ hk_ hs_ => (hk_.2) hs_)) (fun k_ hk_ => ⟨hk_.1.1, hk_.1.2⟩)); have n1_ := Aside0.mk (Kd.R_mono (ok' := fun k_ => some k_ ≠ (.slice Ao30 t274.length co30 : Value).ownBlock ∧ some k_ ≠ (.slice Ao47 t286.length co47 : Value).ownBlock) (Kd.R_keptB (HO_283000.out) hkp (fun k_ hk_ hs_ => (hk_.2) hs_)) (fun k_ hk_ => ⟨hk_.1.1, hk_.1.2⟩)); have n2_ := Aside0.mk (Kd.R_reok rfl hy0 (fun k_ e_ => HO_291000.out.1 k_ e_)); have n3_ := Aside0.mk (blk_kept (bkD BK265) hkp (fun hs_ => (fun e_ => (Kd.R_ne HO_291000.out BK265.out (by decide)) e_) hs_)); have n4_ := Aside0.mk (blk_kept (bkD BK266) hkp (fun hs_ => (fun e_ => (Kd.R_ne HO_291000.out BK266.out (by decide)) e_) hs_)); have n5_ := Aside0.mk (blk_kept (bkD BK278) hkp (fun hs_ => (fun e_ => (Kd.R_ne HO_291000.out BK278.out (by decide)) e_) hs_)); have n6_ := Aside0.mk (blk_kept (bkD BK282) hkp (fun hs_ => (fun e_ => (Kd.R_ne HO_291000.out BK282.out (by decide)) e_) hs_)); have n7_ := Aside0.mk (blk_kept (bkD BK290) hkp (fun hs_ => (fun e_ => (Kd.R_ne HO_291000.out BK290.out (by decide)) e_) hs_)); have n8_ := Aside0.mk (hb); clear HO_279000 HO_283000 HO_291000 BK265 BK266 BK278 BK282 BK290 HB; have HO_279000 := n0_; have HO_283000 := n1_; have HO_291000 := n2_; have BK265 := n3_; have BK266 := n4_; have BK278 := n5_; have BK282 := n6_; have BK290 := n7_; have HB := n8_; clear n0_ n1_ n2_ n3_ n4_ n5_ n6_ n7_ n8_; (try clear hb); (try clear hkp); (try clear hy0); have hcz133_0 : w132.cell? ⟨gb290, 0, none⟩ = some (.slice Ao47 t286.length co47) := (blk_cell BK290.out 0).trans rfl; have hfz133_0 := blk_frozen BK290.out 0) | ((with_reducible refine gate_callee (f := 51) rfl ?_); refine goesL_ (some 77) rfl rfl Tryd.func51 (by kernel_rfl) rfl #[.agg #[.slice Ao47 t300.length co47], .int .i64 1] rfl (by (try simp only [List.map_toArray, List.map_cons, List.map_nil]); first | done | (rw [show t300.length = t286.length from (Kd.R_reads' HO_291000.out).1.symm] <;> rfl) | rfl | (simp only [List.length_drop, List.length_take]; rfl)) ?_; (with_reducible refine (laws_heldTree.calls kj75 _ _ t300 1 t301 _ ?side1 ?side2 A112.out).mono ?_); (case side1 => repeat (first | exact (Kd.R_reads' HO_291000.out).2.2 | (with_reducible refine Kd.C_alloc ?_ _) | (with_reducible refine Kd.C_drewN ?_ _) | (with_reducible refine Kd.C_drew ?_))); (case side2 => rw [show t300.length = t286.length from (Kd.R_reads' HO_291000.out).1.symm]; exact (Kd.R_reads' HO_291000.out).2.1); rintro e w134 ⟨rfl, hb⟩; refine ⟨_, rfl, ?_⟩; have n0_ := Aside0.mk (Kd.R_below (rD HO_279000.out) hb); have n1_ := Aside0.mk (Kd.R_below (rD HO_283000.out) hb); have n2_ := Aside0.mk (Kd.R_below (rD HO_291000.out) hb); have n3_ := Aside0.mk (blk_below (bkD BK265) hb); have n4_ := Aside0.mk (blk_below (bkD BK266) hb); have n5_ := Aside0.mk (blk_below (bkD BK278) hb); have n6_ := Aside0.mk (blk_below (bkD BK282) hb); have n7_ := Aside0.mk (blk_below (bkD BK290) hb); have n8_ := Aside0.mk (below_step (hbD HB) hb); clear HO_279000 HO_283000 HO_291000 BK265 BK266 BK278 BK282 BK290 HB; have HO_279000 := n0_; have HO_283000 := n1_; have HO_291000 := n2_; have BK265 := n3_; have BK266 := n4_; have BK278 := n5_; have BK282 := n6_; have BK290 := n7_; have HB := n8_; clear n0_ n1_ n2_ n3_ n4_ n5_ n6_ n7_ n8_; (try clear hb); (try clear hb2); (try clear hk); (try clear hi)))
           have n0_ := Aside0.mk (Kd.R_drew HO_279000.out)
           have n1_ := Aside0.mk (Kd.R_drew HO_283000.out)
           have n2_ := Aside0.mk (Kd.R_drew HO_291000.out)
           have n3_ := Aside0.mk (blk_drew BK265.out)
           have n4_ := Aside0.mk (blk_drew BK266.out)
           have n5_ := Aside0.mk (blk_drew BK278.out)
           have n6_ := Aside0.mk (blk_drew BK282.out)
           have n7_ := Aside0.mk (blk_drew BK290.out)
           have n8_ := Aside0.mk (below_drew1 HB.out)
           clear HO_279000 HO_283000 HO_291000 BK265 BK266 BK278 BK282 BK290 HB
           have HO_279000 := n0_
           have HO_283000 := n1_
           have HO_291000 := n2_
           have BK265 := n3_
           have BK266 := n4_
           have BK278 := n5_
           have BK282 := n6_
           have BK290 := n7_
           have HB := n8_
           clear n0_ n1_ n2_ n3_ n4_ n5_ n6_ n7_ n8_
           refine start_ (n := 12) (S := fun w' => w'.cell? ⟨gb265, 0, none⟩ = some (.slice A0_0 l0_0.length c0_0) ∧ w'.cell? ⟨gb266, 0, none⟩ = some (.int .i64 a2_0) ∧ w'.cell? ⟨gb266, 1, none⟩ = some (.int .i64 a2_1) ∧ w'.cell? ⟨gb266, 2, none⟩ = some (.int .i64 a2_2)) (ds := []) #[false, false, false, false, false, false, false, false, false, false, false, false] (by kernel_rfl) rfl rfl ⟨(blk_cell BK265.out 0).trans rfl, (blk_cell BK266.out 0).trans rfl, (blk_cell BK266.out 1).trans rfl, (blk_cell BK266.out 2).trans rfl⟩ (fun hHeld => ?_); refine with_tabW laws_FnExactTreeInsert.tab24 laws_FnExactTreeInsert.bits24 (fun HT_ HW_ => ?_)
           generalize w134.drew = w135 at HO_279000 HO_283000 HO_291000 BK265 BK266 BK278 BK282 BK290 HB hHeld ⊢
           refine pure_ (i := 2) (N := some 86) (v := ?_) (a' := ?_) #[false, false, true, false, false, false, false, false, false, false, false, false] rfl rfl (any_of HT_.out (by kernel_rfl)) (fun _ _ _ h => h) (Or.inl ⟨by rfl, ?_⟩) ?_ ?_
           rotate_left
           ·intro w'
            go_simp
            with_reducible rfl
           rotate_left
           ·simp only [Act.put, List.setIfInBounds_toArray, List.set_cons_zero, List.set_cons_succ, i64_w, i32_w]
            rfl
           refine take_ (i := 0) (N := some 84) (v := ?_) (a' := ?_) #[true, false, true, false, false, false, false, false, false, false, false, false] rfl rfl (take_ofW HT_.out HW_.out (by kernel_rfl)) (fun _ _ _ h => h) (Or.inl ⟨by rfl, ?_⟩) hHeld ?_ ?_
           rotate_left
           ·rintro w' ⟨s0, s1, s2, s3⟩
            go_simp
            with_reducible rfl
           rotate_left
           ·simp only [Act.put, List.setIfInBounds_toArray, List.set_cons_zero, List.set_cons_succ, i64_w, i32_w]
            rfl
           refine take_ (i := 3) (N := some 87) (v := ?_) (a' := ?_) #[true, false, true, true, false, false, false, false, false, false, false, false] rfl rfl (take_ofW HT_.out HW_.out (by kernel_rfl)) (fun _ _ _ h => h) (Or.inl ⟨by rfl, ?_⟩) hHeld ?_ ?_
           rotate_left
           ·rintro w' ⟨s0, s1, s2, s3⟩
            go_simp
            with_reducible rfl
           rotate_left
           ·simp only [Act.put, List.setIfInBounds_toArray, List.set_cons_zero, List.set_cons_succ, i64_w, i32_w]
            rfl
           refine join_ (σ := Value × Value × Nat) 2 #[true, true, true, true, true, true, true, true, true, true, false, false] (fun s_ => [(85, .agg #[s_.1]), (88, .agg #[.int .i64 t305, .int .i64 t306, .int .i64 t307]), (89, .tuple #[.agg #[s_.2.1], .int .i64 t311]), (16, .pointer (some ⟨s_.2.2, 0, none⟩)), (83, .tuple #[.agg #[s_.2.1], .int .i64 t311]), (90, .agg #[s_.2.1]), (91, .int .i64 t311)]) (fun s_ w' => (w'.cell? ⟨gb265, 0, none⟩ = some (.slice A0_0 l0_0.length c0_0) ∧ w'.cell? ⟨gb266, 0, none⟩ = some (.int .i64 a2_0) ∧ w'.cell? ⟨gb266, 1, none⟩ = some (.int .i64 a2_1) ∧ w'.cell? ⟨gb266, 2, none⟩ = some (.int .i64 a2_2)) ∧ (Kd.R k54 54 w' w.heap.size (fun k_ => some k_ ≠ (s_.2.1 : Value).ownBlock ∧ some k_ ≠ (.slice Ao30 t274.length co30 : Value).ownBlock ∧ some k_ ≠ (.slice Ao36 t297.length co36 : Value).ownBlock ∧ some k_ ≠ (.slice Ao47 t286.length co47 : Value).ownBlock) s_.1 t302) ∧ (Kd.R k54 54 w' w.heap.size (fun k_ => some k_ ≠ (s_.1 : Value).ownBlock ∧ some k_ ≠ (.slice Ao30 t274.length co30 : Value).ownBlock ∧ some k_ ≠ (.slice Ao36 t297.length co36 : Value).ownBlock ∧ some k_ ≠ (.slice Ao47 t286.length co47 : Value).ownBlock) s_.2.1 t308) ∧ (Kd.R k54 54 w' w.heap.size (fun k_ => some k_ ≠ (s_.1 : Value).ownBlock ∧ some k_ ≠ (s_.2.1 : Value).ownBlock ∧ some k_ ≠ (.slice Ao36 t297.length co36 : Value).ownBlock ∧ some k_ ≠ (.slice Ao47 t286.length co47 : Value).ownBlock) (.slice Ao30 t274.length co30) t274) ∧ (Kd.R k54 54 w' w.heap.size (fun k_ => some k_ ≠ (s_.1 : Value).ownBlock ∧ some k_ ≠ (s_.2.1 : Value).ownBlock ∧ some k_ ≠ (.slice Ao30 t274.length co30 : Value).ownBlock ∧ some k_ ≠ (.slice Ao47 t286.length co47 : Value).ownBlock) (.slice Ao36 t297.length co36) t297) ∧ (Kd.R k54 54 w' w.heap.size (fun k_ => some k_ ≠ (s_.1 : Value).ownBlock ∧ some k_ ≠ (s_.2.1 : Value).ownBlock ∧ some k_ ≠ (.slice Ao30 t274.length co30 : Value).ownBlock ∧ some k_ ≠ (.slice Ao36 t297.length co36 : Value).ownBlock) (.slice Ao47 t286.length co47) t300) ∧ (w'.heap[gb265]? = some (.cells #[.slice A0_0 l0_0.length c0_0] 24 (0, 0))) ∧ (w'.heap[gb266]? = some (.cells #[.int .i64 a2_0, .int .i64 a2_1, .int .i64 a2_2] 76 (0, 0))) ∧ (w'.heap[gb278]? = some (.cells #[.slice Ao30 t274.length co30] 30 (0, 0))) ∧ (w'.heap[gb282]? = some (.cells #[.slice Ao36 t297.length co36] 30 (0, 0))) ∧ (w'.heap[gb290]? = some (.cells #[.slice Ao47 t286.length co47] 30 (0, 0))) ∧ (w'.heap[s_.2.2]? = some (.cells #[.slice none 0 0] 30 (0, 0))) ∧ (w.heap.size ≤ s_.2.2) ∧ (w.heap.size ≤ s_.2.2) ∧ (gb265 ≠ s_.2.2) ∧ (s_.2.2 ≠ gb265) ∧ (gb266 ≠ s_.2.2) ∧ (s_.2.2 ≠ gb266) ∧ (gb278 ≠ s_.2.2) ∧ (s_.2.2 ≠ gb278) ∧ (gb282 ≠ s_.2.2) ∧ (s_.2.2 ≠ gb282) ∧ (gb290 ≠ s_.2.2) ∧ (s_.2.2 ≠ gb290) ∧ (Below w.heap.size w w')) ?_ ?_
           rotate_left
           ·intro hCont
            refine two_ (i := 1) (j := 9) (Ni := some 85) (Nj := some 16) #[true, true, true, true, false, false, false, false, false, false, false, false] #[true, false, true, true, false, false, false, false, false, true, false, false] rfl rfl rfl rfl (two_of HT_.out (by kernel_rfl)) (by decide) (by decide) (fun K hK => ?_) (fun K hK => ?_)
            ·skip
             refine goes_ Tryd.func17 (by kernel_rfl) rfl #[.agg #[.slice A0_0 l0_0.length c0_0]] (by rfl) rfl rfl (by (try simp only [List.map_toArray, List.map_cons, List.map_nil]); first | done | rfl | (simp only [List.length_drop, List.length_take]; rfl)) ?_
             with_reducible refine (laws_toTree.calls kj75 _ _ l0_0 t302 _ ?side1 ?side2 A123.out).mono ?_
             (case side1 => repeat (first | exact (Kd.C_below HR0_0.out HB.out) | (with_reducible refine Kd.C_alloc ?_ _) | (with_reducible refine Kd.C_drewN ?_ _) | (with_reducible refine Kd.C_drew ?_)))
             (case side2 => exact HC0_0.out)
             rintro e w136 ⟨v303, rfl, ho0, hb⟩
             refine ⟨_, rfl, ?_⟩
             have n0_ := Aside0.mk (Kd.R_elder' (rD HO_279000.out) (Kd.R_base ho0) hb)
             have n1_ := Aside0.mk (Kd.R_elder' (rD HO_283000.out) (Kd.R_base ho0) hb)
             have n2_ := Aside0.mk (Kd.R_elder' (rD HO_291000.out) (Kd.R_base ho0) hb)
             have n3_ := Aside0.mk (Kd.R_lower (Kd.R_new' (Kd.R_new' (Kd.R_new' ho0 (Kd.R_lt (rD HO_279000.out))) (Kd.R_lt (rD HO_283000.out))) (Kd.R_lt (rD HO_291000.out))) (below_size (hbD HB)))
             have n4_ := Aside0.mk (blk_below (bkD BK265) hb)
             have n5_ := Aside0.mk (blk_below (bkD BK266) hb)
             have n6_ := Aside0.mk (blk_below (bkD BK278) hb)
             have n7_ := Aside0.mk (blk_below (bkD BK282) hb)
             have n8_ := Aside0.mk (blk_below (bkD BK290) hb)
             have n9_ := Aside0.mk (below_step (hbD HB) hb)
             clear HO_279000 HO_283000 HO_291000 BK265 BK266 BK278 BK282 BK290 HB
             have HO_279000 := n0_
             have HO_283000 := n1_
             have HO_291000 := n2_
             have HO304 := n3_
             have BK265 := n4_
             have BK266 := n5_
             have BK278 := n6_
             have BK282 := n7_
             have BK290 := n8_
             have HB := n9_
             clear n0_ n1_ n2_ n3_ n4_ n5_ n6_ n7_ n8_ n9_
             (try clear hb)
             (try clear hb2)
             (try clear hk)
             (try clear hi)
             (try clear ho0)
             refine hK.out _ _ ⟨(blk_cell BK265.out 0).trans rfl, (blk_cell BK266.out 0).trans rfl, (blk_cell BK266.out 1).trans rfl, (blk_cell BK266.out 2).trans rfl⟩ (fun hHeld => ?_)
             clear hK K
             refine norm_ (a' := ?_) ?_ ?_
             rotate_left
             ·show Act.put _ (some 85) _ = _
              simp only [Act.put, List.setIfInBounds_toArray, List.set_cons_zero, List.set_cons_succ, i64_w, i32_w]
              rfl
             refine two_ (i := 4) (j := 9) (Ni := some 88) (Nj := some 16) #[true, true, true, true, true, false, false, false, false, false, false, false] #[true, true, true, true, false, false, false, false, false, true, false, false] rfl rfl rfl rfl (two_of HT_.out (by kernel_rfl)) (by decide) (by decide) (fun K hK => ?_) (fun K hK => ?_)
             ·skip
              refine goes_ Tryd.func49 (by kernel_rfl) rfl #[.agg #[.int .i64 a2_0, .int .i64 a2_1, .int .i64 a2_2]] (by rfl) rfl rfl (by (try simp only [List.map_toArray, List.map_cons, List.map_nil]); first | done | rfl | (simp only [List.length_drop, List.length_take]; rfl)) ?_
              with_reducible refine (laws_toPiece.calls a2_0 a2_1 a2_2 t305 t306 t307 _ A124.out).mono ?_
              rintro e w137 ⟨rfl, hb⟩
              refine ⟨_, rfl, ?_⟩
              have n0_ := Aside0.mk (Kd.R_below (rD HO_279000.out) hb)
              have n1_ := Aside0.mk (Kd.R_below (rD HO_283000.out) hb)
              have n2_ := Aside0.mk (Kd.R_below (rD HO_291000.out) hb)
              have n3_ := Aside0.mk (Kd.R_below (rD HO304.out) hb)
              have n4_ := Aside0.mk (blk_below (bkD BK265) hb)
              have n5_ := Aside0.mk (blk_below (bkD BK266) hb)
              have n6_ := Aside0.mk (blk_below (bkD BK278) hb)
              have n7_ := Aside0.mk (blk_below (bkD BK282) hb)
              have n8_ := Aside0.mk (blk_below (bkD BK290) hb)
              have n9_ := Aside0.mk (below_step (hbD HB) hb)
              clear HO_279000 HO_283000 HO_291000 HO304 BK265 BK266 BK278 BK282 BK290 HB
              have HO_279000 := n0_
              have HO_283000 := n1_
              have HO_291000 := n2_
              have HO304 := n3_
              have BK265 := n4_
              have BK266 := n5_
              have BK278 := n6_
              have BK282 := n7_
              have BK290 := n8_
              have HB := n9_
              clear n0_ n1_ n2_ n3_ n4_ n5_ n6_ n7_ n8_ n9_
              (try clear hb)
              (try clear hb2)
              (try clear hk)
              (try clear hi)
              obtain ⟨Ao138, co138, eo138⟩ := Kd.R_slice HO304.out
              (first | subst eo138 | (injection eo138 with f1_ f2_ f3_; have f4_ := f1_.symm; have f5_ := f3_.symm; clear f1_ f2_ f3_; subst f4_; subst f5_))
              refine hK.out _ _ ⟨(blk_cell BK265.out 0).trans rfl, (blk_cell BK266.out 0).trans rfl, (blk_cell BK266.out 1).trans rfl, (blk_cell BK266.out 2).trans rfl⟩ (fun hHeld => ?_)
              clear hK K
              refine norm_ (a' := ?_) ?_ ?_
              rotate_left
              ·show Act.put _ (some 88) _ = _
               simp only [Act.put, List.setIfInBounds_toArray, List.set_cons_zero, List.set_cons_succ, i64_w, i32_w]
               rfl
              refine two_ (i := 5) (j := 9) (Ni := some 89) (Nj := some 16) #[true, true, true, true, true, true, false, false, false, false, false, false] #[true, true, true, true, true, false, false, false, false, true, false, false] rfl rfl rfl rfl (two_of HT_.out (by kernel_rfl)) (by decide) (by decide) (fun K hK => ?_) (fun K hK => ?_)
              ·skip
               refine goes_ Tryd.func32 (by kernel_rfl) rfl #[.agg #[.slice Ao138 t302.length co138], .int .i64 a1, .agg #[.int .i64 t305, .int .i64 t306, .int .i64 t307]] (by rfl) rfl rfl (by (try simp only [List.map_toArray, List.map_cons, List.map_nil]); first | done | rfl | (simp only [List.length_drop, List.length_take]; rfl)) ?_
               with_reducible refine (impl_TreeInsert.calls _ _ t302 a1 t305 t306 t307 t308 t311 _ ?side1 ?side2 ?side3 A125.out).mono ?_
               (case side1 => repeat (first | exact (Kd.R_reads' HO304.out).2.2 | (with_reducible refine Kd.C_alloc ?_ _) | (with_reducible refine Kd.C_drewN ?_ _) | (with_reducible refine Kd.C_drew ?_)))
               (case side2 => exact (Kd.R_reads' HO304.out).2.1)
               (case side3 => exact HG.below hgG_ (hbD HB))
               rintro e w139 ⟨v309, rfl, ho0, hb⟩
               refine ⟨_, rfl, ?_⟩
               have n0_ := Aside0.mk (Kd.R_elder' (rD HO_279000.out) (Kd.R_base ho0) hb)
               have n1_ := Aside0.mk (Kd.R_elder' (rD HO_283000.out) (Kd.R_base ho0) hb)
               have n2_ := Aside0.mk (Kd.R_elder' (rD HO_291000.out) (Kd.R_base ho0) hb)
               have n3_ := Aside0.mk (Kd.R_elder' (rD HO304.out) (Kd.R_base ho0) hb)
               have n4_ := Aside0.mk (Kd.R_lower (Kd.R_new' (Kd.R_new' (Kd.R_new' (Kd.R_new' ho0 (Kd.R_lt (rD HO_279000.out))) (Kd.R_lt (rD HO_283000.out))) (Kd.R_lt (rD HO_291000.out))) (Kd.R_lt (rD HO304.out))) (below_size (hbD HB)))
               have n5_ := Aside0.mk (blk_below (bkD BK265) hb)
               have n6_ := Aside0.mk (blk_below (bkD BK266) hb)
               have n7_ := Aside0.mk (blk_below (bkD BK278) hb)
               have n8_ := Aside0.mk (blk_below (bkD BK282) hb)
               have n9_ := Aside0.mk (blk_below (bkD BK290) hb)
               have n10_ := Aside0.mk (below_step (hbD HB) hb)
               clear HO_279000 HO_283000 HO_291000 HO304 BK265 BK266 BK278 BK282 BK290 HB
               have HO_279000 := n0_
               have HO_283000 := n1_
               have HO_291000 := n2_
               have HO304 := n3_
               have HO310 := n4_
               have BK265 := n5_
               have BK266 := n6_
               have BK278 := n7_
               have BK282 := n8_
               have BK290 := n9_
               have HB := n10_
               clear n0_ n1_ n2_ n3_ n4_ n5_ n6_ n7_ n8_ n9_ n10_
               (try clear hb)
               (try clear hb2)
               (try clear hk)
               (try clear hi)
               (try clear ho0)
               refine hK.out _ _ ⟨(blk_cell BK265.out 0).trans rfl, (blk_cell BK266.out 0).trans rfl, (blk_cell BK266.out 1).trans rfl, (blk_cell BK266.out 2).trans rfl⟩ (fun hHeld => ?_)
               clear hK K
               refine norm_ (a' := ?_) ?_ ?_
               rotate_left
               ·show Act.put _ (some 89) _ = _
                simp only [Act.put, List.setIfInBounds_toArray, List.set_cons_zero, List.set_cons_succ, i64_w, i32_w]
                rfl
               refine pure_ (i := 6) (N := some 83) (v := ?_) (a' := ?_) #[true, true, true, true, true, true, true, false, false, false, false, false] rfl rfl (any_of HT_.out (by kernel_rfl)) (fun _ _ _ h => h) (Or.inl ⟨by rfl, ?_⟩) ?_ ?_
               rotate_left
               ·intro w'
                go_simp
                with_reducible rfl
               rotate_left
               ·simp only [Act.put, List.setIfInBounds_toArray, List.set_cons_zero, List.set_cons_succ, i64_w, i32_w]
                rfl
               refine pure_ (i := 7) (N := some 90) (v := ?_) (a' := ?_) #[true, true, true, true, true, true, true, true, false, false, false, false] rfl rfl (any_of HT_.out (by kernel_rfl)) (fun _ _ _ h => h) (Or.inl ⟨by rfl, ?_⟩) ?_ ?_
               rotate_left
               ·intro w'
                go_simp
                with_reducible rfl
               rotate_left
               ·simp only [Act.put, List.setIfInBounds_toArray, List.set_cons_zero, List.set_cons_succ, i64_w, i32_w]
                rfl
               refine pure_ (i := 8) (N := some 91) (v := ?_) (a' := ?_) #[true, true, true, true, true, true, true, true, true, false, false, false] rfl rfl (any_of HT_.out (by kernel_rfl)) (fun _ _ _ h => h) (Or.inl ⟨by rfl, ?_⟩) ?_ ?_
               rotate_left
               ·intro w'
                go_simp
                with_reducible rfl
               rotate_left
               ·simp only [Act.put, List.setIfInBounds_toArray, List.set_cons_zero, List.set_cons_succ, i64_w, i32_w]
                rfl
               refine one_ (i := 9) (N := some 16) #[true, true, true, true, true, true, true, true, true, true, false, false] rfl rfl (one_of HT_.out (by kernel_rfl)) (by decide) (fun K hK => ?_)
               refine box_step ?hg (N := 16) ?hd (cs := #[.slice none 0 0]) (t := 30) ?hr ?_; (case hd => rfl); (case hg => rfl); (case hr => first | (go_simp; done) | (go_simp; rfl))
               intro gb312 hg w140 hbox hb
               have n0_ := Aside0.mk (Kd.R_below (rD HO_279000.out) hb)
               have n1_ := Aside0.mk (Kd.R_below (rD HO_283000.out) hb)
               have n2_ := Aside0.mk (Kd.R_below (rD HO_291000.out) hb)
               have n3_ := Aside0.mk (Kd.R_below (rD HO304.out) hb)
               have n4_ := Aside0.mk (Kd.R_below (rD HO310.out) hb)
               have n5_ := Aside0.mk (blk_below (bkD BK265) hb)
               have n6_ := Aside0.mk (blk_below (bkD BK266) hb)
               have n7_ := Aside0.mk (blk_below (bkD BK278) hb)
               have n8_ := Aside0.mk (blk_below (bkD BK282) hb)
               have n9_ := Aside0.mk (blk_below (bkD BK290) hb)
               have n10_ := Aside0.mk (below_step (hbD HB) hb)
               have n11_ := Aside0.mk (hbox)
               have n12_ := Aside0.mk ((by rw [hg]; exact (below_size (hbD HB)) : w.heap.size ≤ gb312))
               have n13_ := Aside0.mk ((by rw [hg]; exact (below_size (hbD HB)) : w.heap.size ≤ gb312))
               have n14_ := Aside0.mk ((by rw [hg]; exact Nat.ne_of_lt (blk_lt (bkD BK265)) : gb265 ≠ gb312))
               have n15_ := Aside0.mk ((by rw [hg]; exact Nat.ne_of_gt (blk_lt (bkD BK265)) : gb312 ≠ gb265))
               have n16_ := Aside0.mk ((by rw [hg]; exact Nat.ne_of_lt (blk_lt (bkD BK266)) : gb266 ≠ gb312))
               have n17_ := Aside0.mk ((by rw [hg]; exact Nat.ne_of_gt (blk_lt (bkD BK266)) : gb312 ≠ gb266))
               have n18_ := Aside0.mk ((by rw [hg]; exact Nat.ne_of_lt (blk_lt (bkD BK278)) : gb278 ≠ gb312))
               have n19_ := Aside0.mk ((by rw [hg]; exact Nat.ne_of_gt (blk_lt (bkD BK278)) : gb312 ≠ gb278))
               have n20_ := Aside0.mk ((by rw [hg]; exact Nat.ne_of_lt (blk_lt (bkD BK282)) : gb282 ≠ gb312))
               have n21_ := Aside0.mk ((by rw [hg]; exact Nat.ne_of_gt (blk_lt (bkD BK282)) : gb312 ≠ gb282))
               have n22_ := Aside0.mk ((by rw [hg]; exact Nat.ne_of_lt (blk_lt (bkD BK290)) : gb290 ≠ gb312))
               have n23_ := Aside0.mk ((by rw [hg]; exact Nat.ne_of_gt (blk_lt (bkD BK290)) : gb312 ≠ gb290))
               clear HO_279000 HO_283000 HO_291000 HO304 HO310 BK265 BK266 BK278 BK282 BK290 HB
               have HO_279000 := n0_
               have HO_283000 := n1_
               have HO_291000 := n2_
               have HO304 := n3_
               have HO310 := n4_
               have BK265 := n5_
               have BK266 := n6_
               have BK278 := n7_
               have BK282 := n8_
               have BK290 := n9_
               have HB := n10_
               have BK312 := n11_
               have GW312 := n12_
               have GE312 := n13_
               have NB265_312 := n14_
               have NB312_265 := n15_
               have NB266_312 := n16_
               have NB312_266 := n17_
               have NB278_312 := n18_
               have NB312_278 := n19_
               have NB282_312 := n20_
               have NB312_282 := n21_
               have NB290_312 := n22_
               have NB312_290 := n23_
               clear n0_ n1_ n2_ n3_ n4_ n5_ n6_ n7_ n8_ n9_ n10_ n11_ n12_ n13_ n14_ n15_ n16_ n17_ n18_ n19_ n20_ n21_ n22_ n23_ hb hbox hg
               refine hK.out _ _ ⟨(blk_cell BK265.out 0).trans rfl, (blk_cell BK266.out 0).trans rfl, (blk_cell BK266.out 1).trans rfl, (blk_cell BK266.out 2).trans rfl⟩ (fun hHeld => ?_)
               clear hK K
               refine norm_ (a' := ?_) ?_ ?_
               rotate_left
               ·show Act.put _ (some 16) _ = _
                simp only [Act.put, List.setIfInBounds_toArray, List.set_cons_zero, List.set_cons_succ, i64_w, i32_w]
                rfl
               exact norm_ (by simp only [putAll, Act.put, List.setIfInBounds_toArray, List.set_cons_zero, List.set_cons_succ]) (hCont (.slice Ao138 t302.length co138, v309, gb312) _ ⟨hHeld, (rD (Kd.R_mono HO304.out (fun _ hk => ⟨hk.2, ⟨hk.1.1.1.2, ⟨hk.1.1.2, hk.1.2⟩⟩⟩))), (rD (Kd.R_mono HO310.out (fun _ hk => ⟨hk.2, ⟨hk.1.1.1.2, ⟨hk.1.1.2, hk.1.2⟩⟩⟩))), (rD (Kd.R_mono HO_279000.out (fun _ hk => ⟨hk.1.2, ⟨hk.2, ⟨hk.1.1.1, hk.1.1.2⟩⟩⟩))), (rD (Kd.R_mono HO_283000.out (fun _ hk => ⟨hk.1.2, ⟨hk.2, ⟨hk.1.1.1, hk.1.1.2⟩⟩⟩))), (rD (Kd.R_mono HO_291000.out (fun _ hk => ⟨hk.1.2, ⟨hk.2, ⟨hk.1.1.1, hk.1.1.2⟩⟩⟩))), (bkD BK265), (bkD BK266), (bkD BK278), (bkD BK282), (bkD BK290), (bkD BK312), GW312.out, GE312.out, NB265_312.out, NB312_265.out, NB266_312.out, NB312_266.out, NB278_312.out, NB312_278.out, NB282_312.out, NB312_282.out, NB290_312.out, NB312_290.out, (hbD HB)⟩)
              ·skip
               refine box_step ?hg (N := 16) ?hd (cs := #[.slice none 0 0]) (t := 30) ?hr ?_; (case hd => rfl); (case hg => rfl); (case hr => first | (go_simp; done) | (go_simp; rfl))
               intro gb312 hg w138 hbox hb
               have n0_ := Aside0.mk (Kd.R_below (rD HO_279000.out) hb)
               have n1_ := Aside0.mk (Kd.R_below (rD HO_283000.out) hb)
               have n2_ := Aside0.mk (Kd.R_below (rD HO_291000.out) hb)
               have n3_ := Aside0.mk (Kd.R_below (rD HO304.out) hb)
               have n4_ := Aside0.mk (blk_below (bkD BK265) hb)
               have n5_ := Aside0.mk (blk_below (bkD BK266) hb)
               have n6_ := Aside0.mk (blk_below (bkD BK278) hb)
               have n7_ := Aside0.mk (blk_below (bkD BK282) hb)
               have n8_ := Aside0.mk (blk_below (bkD BK290) hb)
               have n9_ := Aside0.mk (below_step (hbD HB) hb)
               have n10_ := Aside0.mk (hbox)
               have n11_ := Aside0.mk ((by rw [hg]; exact (below_size (hbD HB)) : w.heap.size ≤ gb312))
               have n12_ := Aside0.mk ((by rw [hg]; exact (below_size (hbD HB)) : w.heap.size ≤ gb312))
               have n13_ := Aside0.mk ((by rw [hg]; exact Nat.ne_of_lt (blk_lt (bkD BK265)) : gb265 ≠ gb312))
               have n14_ := Aside0.mk ((by rw [hg]; exact Nat.ne_of_gt (blk_lt (bkD BK265)) : gb312 ≠ gb265))
               have n15_ := Aside0.mk ((by rw [hg]; exact Nat.ne_of_lt (blk_lt (bkD BK266)) : gb266 ≠ gb312))
               have n16_ := Aside0.mk ((by rw [hg]; exact Nat.ne_of_gt (blk_lt (bkD BK266)) : gb312 ≠ gb266))
               have n17_ := Aside0.mk ((by rw [hg]; exact Nat.ne_of_lt (blk_lt (bkD BK278)) : gb278 ≠ gb312))
               have n18_ := Aside0.mk ((by rw [hg]; exact Nat.ne_of_gt (blk_lt (bkD BK278)) : gb312 ≠ gb278))
               have n19_ := Aside0.mk ((by rw [hg]; exact Nat.ne_of_lt (blk_lt (bkD BK282)) : gb282 ≠ gb312))
               have n20_ := Aside0.mk ((by rw [hg]; exact Nat.ne_of_gt (blk_lt (bkD BK282)) : gb312 ≠ gb282))
               have n21_ := Aside0.mk ((by rw [hg]; exact Nat.ne_of_lt (blk_lt (bkD BK290)) : gb290 ≠ gb312))
               have n22_ := Aside0.mk ((by rw [hg]; exact Nat.ne_of_gt (blk_lt (bkD BK290)) : gb312 ≠ gb290))
               clear HO_279000 HO_283000 HO_291000 HO304 BK265 BK266 BK278 BK282 BK290 HB
               have HO_279000 := n0_
               have HO_283000 := n1_
               have HO_291000 := n2_
               have HO304 := n3_
               have BK265 := n4_
               have BK266 := n5_
               have BK278 := n6_
               have BK282 := n7_
               have BK290 := n8_
               have HB := n9_
               have BK312 := n10_
               have GW312 := n11_
               have GE312 := n12_
               have NB265_312 := n13_
               have NB312_265 := n14_
               have NB266_312 := n15_
               have NB312_266 := n16_
               have NB278_312 := n17_
               have NB312_278 := n18_
               have NB282_312 := n19_
               have NB312_282 := n20_
               have NB290_312 := n21_
               have NB312_290 := n22_
               clear n0_ n1_ n2_ n3_ n4_ n5_ n6_ n7_ n8_ n9_ n10_ n11_ n12_ n13_ n14_ n15_ n16_ n17_ n18_ n19_ n20_ n21_ n22_ hb hbox hg
               obtain ⟨Ao139, co139, eo139⟩ := Kd.R_slice HO304.out
               (first | subst eo139 | (injection eo139 with f1_ f2_ f3_; have f4_ := f1_.symm; have f5_ := f3_.symm; clear f1_ f2_ f3_; subst f4_; subst f5_))
               refine hK.out _ _ ⟨(blk_cell BK265.out 0).trans rfl, (blk_cell BK266.out 0).trans rfl, (blk_cell BK266.out 1).trans rfl, (blk_cell BK266.out 2).trans rfl⟩ (fun hHeld => ?_)
               clear hK K
               refine norm_ (a' := ?_) ?_ ?_
               rotate_left
               ·show Act.put _ (some 16) _ = _
                simp only [Act.put, List.setIfInBounds_toArray, List.set_cons_zero, List.set_cons_succ, i64_w, i32_w]
                rfl
               refine one_ (i := 5) (N := some 89) #[true, true, true, true, true, true, false, false, false, true, false, false] rfl rfl (one_of HT_.out (by kernel_rfl)) (by decide) (fun K hK => ?_)
               refine goes_ Tryd.func32 (by kernel_rfl) rfl #[.agg #[.slice Ao139 t302.length co139], .int .i64 a1, .agg #[.int .i64 t305, .int .i64 t306, .int .i64 t307]] (by rfl) rfl rfl (by (try simp only [List.map_toArray, List.map_cons, List.map_nil]); first | done | rfl | (simp only [List.length_drop, List.length_take]; rfl)) ?_
               with_reducible refine (impl_TreeInsert.calls _ _ t302 a1 t305 t306 t307 t308 t311 _ ?side1 ?side2 ?side3 A125.out).mono ?_
               (case side1 => repeat (first | exact (Kd.R_reads' HO304.out).2.2 | (with_reducible refine Kd.C_alloc ?_ _) | (with_reducible refine Kd.C_drewN ?_ _) | (with_reducible refine Kd.C_drew ?_)))
               (case side2 => exact (Kd.R_reads' HO304.out).2.1)
               (case side3 => exact HG.below hgG_ (hbD HB))
               rintro e w140 ⟨v309, rfl, ho0, hb⟩
               refine ⟨_, rfl, ?_⟩
               have n0_ := Aside0.mk (Kd.R_elder' (rD HO_279000.out) (Kd.R_base ho0) hb)
               have n1_ := Aside0.mk (Kd.R_elder' (rD HO_283000.out) (Kd.R_base ho0) hb)
               have n2_ := Aside0.mk (Kd.R_elder' (rD HO_291000.out) (Kd.R_base ho0) hb)
               have n3_ := Aside0.mk (Kd.R_elder' (rD HO304.out) (Kd.R_base ho0) hb)
               have n4_ := Aside0.mk (Kd.R_lower (Kd.R_new' (Kd.R_new' (Kd.R_new' (Kd.R_new' ho0 (Kd.R_lt (rD HO_279000.out))) (Kd.R_lt (rD HO_283000.out))) (Kd.R_lt (rD HO_291000.out))) (Kd.R_lt (rD HO304.out))) (below_size (hbD HB)))
               have n5_ := Aside0.mk (blk_below (bkD BK265) hb)
               have n6_ := Aside0.mk (blk_below (bkD BK266) hb)
               have n7_ := Aside0.mk (blk_below (bkD BK278) hb)
               have n8_ := Aside0.mk (blk_below (bkD BK282) hb)
               have n9_ := Aside0.mk (blk_below (bkD BK290) hb)
               have n10_ := Aside0.mk (blk_below (bkD BK312) hb)
               have n11_ := Aside0.mk (below_step (hbD HB) hb)
               clear HO_279000 HO_283000 HO_291000 HO304 BK265 BK266 BK278 BK282 BK290 BK312 HB
               have HO_279000 := n0_
               have HO_283000 := n1_
               have HO_291000 := n2_
               have HO304 := n3_
               have HO310 := n4_
               have BK265 := n5_
               have BK266 := n6_
               have BK278 := n7_
               have BK282 := n8_
               have BK290 := n9_
               have BK312 := n10_
               have HB := n11_
               clear n0_ n1_ n2_ n3_ n4_ n5_ n6_ n7_ n8_ n9_ n10_ n11_
               (try clear hb)
               (try clear hb2)
               (try clear hk)
               (try clear hi)
               (try clear ho0)
               refine hK.out _ _ ⟨(blk_cell BK265.out 0).trans rfl, (blk_cell BK266.out 0).trans rfl, (blk_cell BK266.out 1).trans rfl, (blk_cell BK266.out 2).trans rfl⟩ (fun hHeld => ?_)
               clear hK K
               refine norm_ (a' := ?_) ?_ ?_
               rotate_left
               ·show Act.put _ (some 89) _ = _
                simp only [Act.put, List.setIfInBounds_toArray, List.set_cons_zero, List.set_cons_succ, i64_w, i32_w]
                rfl
               refine pure_ (i := 6) (N := some 83) (v := ?_) (a' := ?_) #[true, true, true, true, true, true, true, false, false, true, false, false] rfl rfl (any_of HT_.out (by kernel_rfl)) (fun _ _ _ h => h) (Or.inl ⟨by rfl, ?_⟩) ?_ ?_
               rotate_left
               ·intro w'
                go_simp
                with_reducible rfl
               rotate_left
               ·simp only [Act.put, List.setIfInBounds_toArray, List.set_cons_zero, List.set_cons_succ, i64_w, i32_w]
                rfl
               refine pure_ (i := 7) (N := some 90) (v := ?_) (a' := ?_) #[true, true, true, true, true, true, true, true, false, true, false, false] rfl rfl (any_of HT_.out (by kernel_rfl)) (fun _ _ _ h => h) (Or.inl ⟨by rfl, ?_⟩) ?_ ?_
               rotate_left
               ·intro w'
                go_simp
                with_reducible rfl
               rotate_left
               ·simp only [Act.put, List.setIfInBounds_toArray, List.set_cons_zero, List.set_cons_succ, i64_w, i32_w]
                rfl
               refine pure_ (i := 8) (N := some 91) (v := ?_) (a' := ?_) #[true, true, true, true, true, true, true, true, true, true, false, false] rfl rfl (any_of HT_.out (by kernel_rfl)) (fun _ _ _ h => h) (Or.inl ⟨by rfl, ?_⟩) ?_ ?_
               rotate_left
               ·intro w'
                go_simp
                with_reducible rfl
               rotate_left
               ·simp only [Act.put, List.setIfInBounds_toArray, List.set_cons_zero, List.set_cons_succ, i64_w, i32_w]
                rfl
               exact norm_ (by simp only [putAll, Act.put, List.setIfInBounds_toArray, List.set_cons_zero, List.set_cons_succ]) (hCont (.slice Ao139 t302.length co139, v309, gb312) _ ⟨hHeld, (rD (Kd.R_mono HO304.out (fun _ hk => ⟨hk.2, ⟨hk.1.1.1.2, ⟨hk.1.1.2, hk.1.2⟩⟩⟩))), (rD (Kd.R_mono HO310.out (fun _ hk => ⟨hk.2, ⟨hk.1.1.1.2, ⟨hk.1.1.2, hk.1.2⟩⟩⟩))), (rD (Kd.R_mono HO_279000.out (fun _ hk => ⟨hk.1.2, ⟨hk.2, ⟨hk.1.1.1, hk.1.1.2⟩⟩⟩))), (rD (Kd.R_mono HO_283000.out (fun _ hk => ⟨hk.1.2, ⟨hk.2, ⟨hk.1.1.1, hk.1.1.2⟩⟩⟩))), (rD (Kd.R_mono HO_291000.out (fun _ hk => ⟨hk.1.2, ⟨hk.2, ⟨hk.1.1.1, hk.1.1.2⟩⟩⟩))), (bkD BK265), (bkD BK266), (bkD BK278), (bkD BK282), (bkD BK290), (bkD BK312), GW312.out, GE312.out, NB265_312.out, NB312_265.out, NB266_312.out, NB312_266.out, NB278_312.out, NB312_278.out, NB282_312.out, NB312_282.out, NB290_312.out, NB312_290.out, (hbD HB)⟩)
             ·skip
              refine box_step ?hg (N := 16) ?hd (cs := #[.slice none 0 0]) (t := 30) ?hr ?_; (case hd => rfl); (case hg => rfl); (case hr => first | (go_simp; done) | (go_simp; rfl))
              intro gb312 hg w137 hbox hb
              have n0_ := Aside0.mk (Kd.R_below (rD HO_279000.out) hb)
              have n1_ := Aside0.mk (Kd.R_below (rD HO_283000.out) hb)
              have n2_ := Aside0.mk (Kd.R_below (rD HO_291000.out) hb)
              have n3_ := Aside0.mk (Kd.R_below (rD HO304.out) hb)
              have n4_ := Aside0.mk (blk_below (bkD BK265) hb)
              have n5_ := Aside0.mk (blk_below (bkD BK266) hb)
              have n6_ := Aside0.mk (blk_below (bkD BK278) hb)
              have n7_ := Aside0.mk (blk_below (bkD BK282) hb)
              have n8_ := Aside0.mk (blk_below (bkD BK290) hb)
              have n9_ := Aside0.mk (below_step (hbD HB) hb)
              have n10_ := Aside0.mk (hbox)
              have n11_ := Aside0.mk ((by rw [hg]; exact (below_size (hbD HB)) : w.heap.size ≤ gb312))
              have n12_ := Aside0.mk ((by rw [hg]; exact (below_size (hbD HB)) : w.heap.size ≤ gb312))
              have n13_ := Aside0.mk ((by rw [hg]; exact Nat.ne_of_lt (blk_lt (bkD BK265)) : gb265 ≠ gb312))
              have n14_ := Aside0.mk ((by rw [hg]; exact Nat.ne_of_gt (blk_lt (bkD BK265)) : gb312 ≠ gb265))
              have n15_ := Aside0.mk ((by rw [hg]; exact Nat.ne_of_lt (blk_lt (bkD BK266)) : gb266 ≠ gb312))
              have n16_ := Aside0.mk ((by rw [hg]; exact Nat.ne_of_gt (blk_lt (bkD BK266)) : gb312 ≠ gb266))
              have n17_ := Aside0.mk ((by rw [hg]; exact Nat.ne_of_lt (blk_lt (bkD BK278)) : gb278 ≠ gb312))
              have n18_ := Aside0.mk ((by rw [hg]; exact Nat.ne_of_gt (blk_lt (bkD BK278)) : gb312 ≠ gb278))
              have n19_ := Aside0.mk ((by rw [hg]; exact Nat.ne_of_lt (blk_lt (bkD BK282)) : gb282 ≠ gb312))
              have n20_ := Aside0.mk ((by rw [hg]; exact Nat.ne_of_gt (blk_lt (bkD BK282)) : gb312 ≠ gb282))
              have n21_ := Aside0.mk ((by rw [hg]; exact Nat.ne_of_lt (blk_lt (bkD BK290)) : gb290 ≠ gb312))
              have n22_ := Aside0.mk ((by rw [hg]; exact Nat.ne_of_gt (blk_lt (bkD BK290)) : gb312 ≠ gb290))
              clear HO_279000 HO_283000 HO_291000 HO304 BK265 BK266 BK278 BK282 BK290 HB
              have HO_279000 := n0_
              have HO_283000 := n1_
              have HO_291000 := n2_
              have HO304 := n3_
              have BK265 := n4_
              have BK266 := n5_
              have BK278 := n6_
              have BK282 := n7_
              have BK290 := n8_
              have HB := n9_
              have BK312 := n10_
              have GW312 := n11_
              have GE312 := n12_
              have NB265_312 := n13_
              have NB312_265 := n14_
              have NB266_312 := n15_
              have NB312_266 := n16_
              have NB278_312 := n17_
              have NB312_278 := n18_
              have NB282_312 := n19_
              have NB312_282 := n20_
              have NB290_312 := n21_
              have NB312_290 := n22_
              clear n0_ n1_ n2_ n3_ n4_ n5_ n6_ n7_ n8_ n9_ n10_ n11_ n12_ n13_ n14_ n15_ n16_ n17_ n18_ n19_ n20_ n21_ n22_ hb hbox hg
              refine hK.out _ _ ⟨(blk_cell BK265.out 0).trans rfl, (blk_cell BK266.out 0).trans rfl, (blk_cell BK266.out 1).trans rfl, (blk_cell BK266.out 2).trans rfl⟩ (fun hHeld => ?_)
              clear hK K
              refine norm_ (a' := ?_) ?_ ?_
              rotate_left
              ·show Act.put _ (some 16) _ = _
               simp only [Act.put, List.setIfInBounds_toArray, List.set_cons_zero, List.set_cons_succ, i64_w, i32_w]
               rfl
              refine one_ (i := 4) (N := some 88) #[true, true, true, true, true, false, false, false, false, true, false, false] rfl rfl (one_of HT_.out (by kernel_rfl)) (by decide) (fun K hK => ?_)
              refine goes_ Tryd.func49 (by kernel_rfl) rfl #[.agg #[.int .i64 a2_0, .int .i64 a2_1, .int .i64 a2_2]] (by rfl) rfl rfl (by (try simp only [List.map_toArray, List.map_cons, List.map_nil]); first | done | rfl | (simp only [List.length_drop, List.length_take]; rfl)) ?_
              with_reducible refine (laws_toPiece.calls a2_0 a2_1 a2_2 t305 t306 t307 _ A124.out).mono ?_
              rintro e w138 ⟨rfl, hb⟩
              refine ⟨_, rfl, ?_⟩
              have n0_ := Aside0.mk (Kd.R_below (rD HO_279000.out) hb)
              have n1_ := Aside0.mk (Kd.R_below (rD HO_283000.out) hb)
              have n2_ := Aside0.mk (Kd.R_below (rD HO_291000.out) hb)
              have n3_ := Aside0.mk (Kd.R_below (rD HO304.out) hb)
              have n4_ := Aside0.mk (blk_below (bkD BK265) hb)
              have n5_ := Aside0.mk (blk_below (bkD BK266) hb)
              have n6_ := Aside0.mk (blk_below (bkD BK278) hb)
              have n7_ := Aside0.mk (blk_below (bkD BK282) hb)
              have n8_ := Aside0.mk (blk_below (bkD BK290) hb)
              have n9_ := Aside0.mk (blk_below (bkD BK312) hb)
              have n10_ := Aside0.mk (below_step (hbD HB) hb)
              clear HO_279000 HO_283000 HO_291000 HO304 BK265 BK266 BK278 BK282 BK290 BK312 HB
              have HO_279000 := n0_
              have HO_283000 := n1_
              have HO_291000 := n2_
              have HO304 := n3_
              have BK265 := n4_
              have BK266 := n5_
              have BK278 := n6_
              have BK282 := n7_
              have BK290 := n8_
              have BK312 := n9_
              have HB := n10_
              clear n0_ n1_ n2_ n3_ n4_ n5_ n6_ n7_ n8_ n9_ n10_
              (try clear hb)
              (try clear hb2)
              (try clear hk)
              (try clear hi)
              obtain ⟨Ao139, co139, eo139⟩ := Kd.R_slice HO304.out
              (first | subst eo139 | (injection eo139 with f1_ f2_ f3_; have f4_ := f1_.symm; have f5_ := f3_.symm; clear f1_ f2_ f3_; subst f4_; subst f5_))
              refine hK.out _ _ ⟨(blk_cell BK265.out 0).trans rfl, (blk_cell BK266.out 0).trans rfl, (blk_cell BK266.out 1).trans rfl, (blk_cell BK266.out 2).trans rfl⟩ (fun hHeld => ?_)
              clear hK K
              refine norm_ (a' := ?_) ?_ ?_
              rotate_left
              ·show Act.put _ (some 88) _ = _
               simp only [Act.put, List.setIfInBounds_toArray, List.set_cons_zero, List.set_cons_succ, i64_w, i32_w]
               rfl
              refine one_ (i := 5) (N := some 89) #[true, true, true, true, true, true, false, false, false, true, false, false] rfl rfl (one_of HT_.out (by kernel_rfl)) (by decide) (fun K hK => ?_)
              refine goes_ Tryd.func32 (by kernel_rfl) rfl #[.agg #[.slice Ao139 t302.length co139], .int .i64 a1, .agg #[.int .i64 t305, .int .i64 t306, .int .i64 t307]] (by rfl) rfl rfl (by (try simp only [List.map_toArray, List.map_cons, List.map_nil]); first | done | rfl | (simp only [List.length_drop, List.length_take]; rfl)) ?_
              with_reducible refine (impl_TreeInsert.calls _ _ t302 a1 t305 t306 t307 t308 t311 _ ?side1 ?side2 ?side3 A125.out).mono ?_
              (case side1 => repeat (first | exact (Kd.R_reads' HO304.out).2.2 | (with_reducible refine Kd.C_alloc ?_ _) | (with_reducible refine Kd.C_drewN ?_ _) | (with_reducible refine Kd.C_drew ?_)))
              (case side2 => exact (Kd.R_reads' HO304.out).2.1)
              (case side3 => exact HG.below hgG_ (hbD HB))
              rintro e w140 ⟨v309, rfl, ho0, hb⟩
              refine ⟨_, rfl, ?_⟩
              have n0_ := Aside0.mk (Kd.R_elder' (rD HO_279000.out) (Kd.R_base ho0) hb)
              have n1_ := Aside0.mk (Kd.R_elder' (rD HO_283000.out) (Kd.R_base ho0) hb)
              have n2_ := Aside0.mk (Kd.R_elder' (rD HO_291000.out) (Kd.R_base ho0) hb)
              have n3_ := Aside0.mk (Kd.R_elder' (rD HO304.out) (Kd.R_base ho0) hb)
              have n4_ := Aside0.mk (Kd.R_lower (Kd.R_new' (Kd.R_new' (Kd.R_new' (Kd.R_new' ho0 (Kd.R_lt (rD HO_279000.out))) (Kd.R_lt (rD HO_283000.out))) (Kd.R_lt (rD HO_291000.out))) (Kd.R_lt (rD HO304.out))) (below_size (hbD HB)))
              have n5_ := Aside0.mk (blk_below (bkD BK265) hb)
              have n6_ := Aside0.mk (blk_below (bkD BK266) hb)
              have n7_ := Aside0.mk (blk_below (bkD BK278) hb)
              have n8_ := Aside0.mk (blk_below (bkD BK282) hb)
              have n9_ := Aside0.mk (blk_below (bkD BK290) hb)
              have n10_ := Aside0.mk (blk_below (bkD BK312) hb)
              have n11_ := Aside0.mk (below_step (hbD HB) hb)
              clear HO_279000 HO_283000 HO_291000 HO304 BK265 BK266 BK278 BK282 BK290 BK312 HB
              have HO_279000 := n0_
              have HO_283000 := n1_
              have HO_291000 := n2_
              have HO304 := n3_
              have HO310 := n4_
              have BK265 := n5_
              have BK266 := n6_
              have BK278 := n7_
              have BK282 := n8_
              have BK290 := n9_
              have BK312 := n10_
              have HB := n11_
              clear n0_ n1_ n2_ n3_ n4_ n5_ n6_ n7_ n8_ n9_ n10_ n11_
              (try clear hb)
              (try clear hb2)
              (try clear hk)
              (try clear hi)
              (try clear ho0)
              refine hK.out _ _ ⟨(blk_cell BK265.out 0).trans rfl, (blk_cell BK266.out 0).trans rfl, (blk_cell BK266.out 1).trans rfl, (blk_cell BK266.out 2).trans rfl⟩ (fun hHeld => ?_)
              clear hK K
              refine norm_ (a' := ?_) ?_ ?_
              rotate_left
              ·show Act.put _ (some 89) _ = _
               simp only [Act.put, List.setIfInBounds_toArray, List.set_cons_zero, List.set_cons_succ, i64_w, i32_w]
               rfl
              refine pure_ (i := 6) (N := some 83) (v := ?_) (a' := ?_) #[true, true, true, true, true, true, true, false, false, true, false, false] rfl rfl (any_of HT_.out (by kernel_rfl)) (fun _ _ _ h => h) (Or.inl ⟨by rfl, ?_⟩) ?_ ?_
              rotate_left
              ·intro w'
               go_simp
               with_reducible rfl
              rotate_left
              ·simp only [Act.put, List.setIfInBounds_toArray, List.set_cons_zero, List.set_cons_succ, i64_w, i32_w]
               rfl
              refine pure_ (i := 7) (N := some 90) (v := ?_) (a' := ?_) #[true, true, true, true, true, true, true, true, false, true, false, false] rfl rfl (any_of HT_.out (by kernel_rfl)) (fun _ _ _ h => h) (Or.inl ⟨by rfl, ?_⟩) ?_ ?_
              rotate_left
              ·intro w'
               go_simp
               with_reducible rfl
              rotate_left
              ·simp only [Act.put, List.setIfInBounds_toArray, List.set_cons_zero, List.set_cons_succ, i64_w, i32_w]
               rfl
              refine pure_ (i := 8) (N := some 91) (v := ?_) (a' := ?_) #[true, true, true, true, true, true, true, true, true, true, false, false] rfl rfl (any_of HT_.out (by kernel_rfl)) (fun _ _ _ h => h) (Or.inl ⟨by rfl, ?_⟩) ?_ ?_
              rotate_left
              ·intro w'
               go_simp
               with_reducible rfl
              rotate_left
              ·simp only [Act.put, List.setIfInBounds_toArray, List.set_cons_zero, List.set_cons_succ, i64_w, i32_w]
               rfl
              exact norm_ (by simp only [putAll, Act.put, List.setIfInBounds_toArray, List.set_cons_zero, List.set_cons_succ]) (hCont (.slice Ao139 t302.length co139, v309, gb312) _ ⟨hHeld, (rD (Kd.R_mono HO304.out (fun _ hk => ⟨hk.2, ⟨hk.1.1.1.2, ⟨hk.1.1.2, hk.1.2⟩⟩⟩))), (rD (Kd.R_mono HO310.out (fun _ hk => ⟨hk.2, ⟨hk.1.1.1.2, ⟨hk.1.1.2, hk.1.2⟩⟩⟩))), (rD (Kd.R_mono HO_279000.out (fun _ hk => ⟨hk.1.2, ⟨hk.2, ⟨hk.1.1.1, hk.1.1.2⟩⟩⟩))), (rD (Kd.R_mono HO_283000.out (fun _ hk => ⟨hk.1.2, ⟨hk.2, ⟨hk.1.1.1, hk.1.1.2⟩⟩⟩))), (rD (Kd.R_mono HO_291000.out (fun _ hk => ⟨hk.1.2, ⟨hk.2, ⟨hk.1.1.1, hk.1.1.2⟩⟩⟩))), (bkD BK265), (bkD BK266), (bkD BK278), (bkD BK282), (bkD BK290), (bkD BK312), GW312.out, GE312.out, NB265_312.out, NB312_265.out, NB266_312.out, NB312_266.out, NB278_312.out, NB312_278.out, NB282_312.out, NB312_282.out, NB290_312.out, NB312_290.out, (hbD HB)⟩)
            ·skip
             refine box_step ?hg (N := 16) ?hd (cs := #[.slice none 0 0]) (t := 30) ?hr ?_; (case hd => rfl); (case hg => rfl); (case hr => first | (go_simp; done) | (go_simp; rfl))
             intro gb312 hg w136 hbox hb
             have n0_ := Aside0.mk (Kd.R_below (rD HO_279000.out) hb)
             have n1_ := Aside0.mk (Kd.R_below (rD HO_283000.out) hb)
             have n2_ := Aside0.mk (Kd.R_below (rD HO_291000.out) hb)
             have n3_ := Aside0.mk (blk_below (bkD BK265) hb)
             have n4_ := Aside0.mk (blk_below (bkD BK266) hb)
             have n5_ := Aside0.mk (blk_below (bkD BK278) hb)
             have n6_ := Aside0.mk (blk_below (bkD BK282) hb)
             have n7_ := Aside0.mk (blk_below (bkD BK290) hb)
             have n8_ := Aside0.mk (below_step (hbD HB) hb)
             have n9_ := Aside0.mk (hbox)
             have n10_ := Aside0.mk ((by rw [hg]; exact (below_size (hbD HB)) : w.heap.size ≤ gb312))
             have n11_ := Aside0.mk ((by rw [hg]; exact (below_size (hbD HB)) : w.heap.size ≤ gb312))
             have n12_ := Aside0.mk ((by rw [hg]; exact Nat.ne_of_lt (blk_lt (bkD BK265)) : gb265 ≠ gb312))
             have n13_ := Aside0.mk ((by rw [hg]; exact Nat.ne_of_gt (blk_lt (bkD BK265)) : gb312 ≠ gb265))
             have n14_ := Aside0.mk ((by rw [hg]; exact Nat.ne_of_lt (blk_lt (bkD BK266)) : gb266 ≠ gb312))
             have n15_ := Aside0.mk ((by rw [hg]; exact Nat.ne_of_gt (blk_lt (bkD BK266)) : gb312 ≠ gb266))
             have n16_ := Aside0.mk ((by rw [hg]; exact Nat.ne_of_lt (blk_lt (bkD BK278)) : gb278 ≠ gb312))
             have n17_ := Aside0.mk ((by rw [hg]; exact Nat.ne_of_gt (blk_lt (bkD BK278)) : gb312 ≠ gb278))
             have n18_ := Aside0.mk ((by rw [hg]; exact Nat.ne_of_lt (blk_lt (bkD BK282)) : gb282 ≠ gb312))
             have n19_ := Aside0.mk ((by rw [hg]; exact Nat.ne_of_gt (blk_lt (bkD BK282)) : gb312 ≠ gb282))
             have n20_ := Aside0.mk ((by rw [hg]; exact Nat.ne_of_lt (blk_lt (bkD BK290)) : gb290 ≠ gb312))
             have n21_ := Aside0.mk ((by rw [hg]; exact Nat.ne_of_gt (blk_lt (bkD BK290)) : gb312 ≠ gb290))
             clear HO_279000 HO_283000 HO_291000 BK265 BK266 BK278 BK282 BK290 HB
             have HO_279000 := n0_
             have HO_283000 := n1_
             have HO_291000 := n2_
             have BK265 := n3_
             have BK266 := n4_
             have BK278 := n5_
             have BK282 := n6_
             have BK290 := n7_
             have HB := n8_
             have BK312 := n9_
             have GW312 := n10_
             have GE312 := n11_
             have NB265_312 := n12_
             have NB312_265 := n13_
             have NB266_312 := n14_
             have NB312_266 := n15_
             have NB278_312 := n16_
             have NB312_278 := n17_
             have NB282_312 := n18_
             have NB312_282 := n19_
             have NB290_312 := n20_
             have NB312_290 := n21_
             clear n0_ n1_ n2_ n3_ n4_ n5_ n6_ n7_ n8_ n9_ n10_ n11_ n12_ n13_ n14_ n15_ n16_ n17_ n18_ n19_ n20_ n21_ hb hbox hg
             refine hK.out _ _ ⟨(blk_cell BK265.out 0).trans rfl, (blk_cell BK266.out 0).trans rfl, (blk_cell BK266.out 1).trans rfl, (blk_cell BK266.out 2).trans rfl⟩ (fun hHeld => ?_)
             clear hK K
             refine norm_ (a' := ?_) ?_ ?_
             rotate_left
             ·show Act.put _ (some 16) _ = _
              simp only [Act.put, List.setIfInBounds_toArray, List.set_cons_zero, List.set_cons_succ, i64_w, i32_w]
              rfl
             refine one_ (i := 1) (N := some 85) #[true, true, true, true, false, false, false, false, false, true, false, false] rfl rfl (one_of HT_.out (by kernel_rfl)) (by decide) (fun K hK => ?_)
             refine goes_ Tryd.func17 (by kernel_rfl) rfl #[.agg #[.slice A0_0 l0_0.length c0_0]] (by rfl) rfl rfl (by (try simp only [List.map_toArray, List.map_cons, List.map_nil]); first | done | rfl | (simp only [List.length_drop, List.length_take]; rfl)) ?_
             with_reducible refine (laws_toTree.calls kj75 _ _ l0_0 t302 _ ?side1 ?side2 A123.out).mono ?_
             (case side1 => repeat (first | exact (Kd.C_below HR0_0.out HB.out) | (with_reducible refine Kd.C_alloc ?_ _) | (with_reducible refine Kd.C_drewN ?_ _) | (with_reducible refine Kd.C_drew ?_)))
             (case side2 => exact HC0_0.out)
             rintro e w137 ⟨v303, rfl, ho0, hb⟩
             refine ⟨_, rfl, ?_⟩
             have n0_ := Aside0.mk (Kd.R_elder' (rD HO_279000.out) (Kd.R_base ho0) hb)
             have n1_ := Aside0.mk (Kd.R_elder' (rD HO_283000.out) (Kd.R_base ho0) hb)
             have n2_ := Aside0.mk (Kd.R_elder' (rD HO_291000.out) (Kd.R_base ho0) hb)
             have n3_ := Aside0.mk (Kd.R_lower (Kd.R_new' (Kd.R_new' (Kd.R_new' ho0 (Kd.R_lt (rD HO_279000.out))) (Kd.R_lt (rD HO_283000.out))) (Kd.R_lt (rD HO_291000.out))) (below_size (hbD HB)))
             have n4_ := Aside0.mk (blk_below (bkD BK265) hb)
             have n5_ := Aside0.mk (blk_below (bkD BK266) hb)
             have n6_ := Aside0.mk (blk_below (bkD BK278) hb)
             have n7_ := Aside0.mk (blk_below (bkD BK282) hb)
             have n8_ := Aside0.mk (blk_below (bkD BK290) hb)
             have n9_ := Aside0.mk (blk_below (bkD BK312) hb)
             have n10_ := Aside0.mk (below_step (hbD HB) hb)
             clear HO_279000 HO_283000 HO_291000 BK265 BK266 BK278 BK282 BK290 BK312 HB
             have HO_279000 := n0_
             have HO_283000 := n1_
             have HO_291000 := n2_
             have HO304 := n3_
             have BK265 := n4_
             have BK266 := n5_
             have BK278 := n6_
             have BK282 := n7_
             have BK290 := n8_
             have BK312 := n9_
             have HB := n10_
             clear n0_ n1_ n2_ n3_ n4_ n5_ n6_ n7_ n8_ n9_ n10_
             (try clear hb)
             (try clear hb2)
             (try clear hk)
             (try clear hi)
             (try clear ho0)
             refine hK.out _ _ ⟨(blk_cell BK265.out 0).trans rfl, (blk_cell BK266.out 0).trans rfl, (blk_cell BK266.out 1).trans rfl, (blk_cell BK266.out 2).trans rfl⟩ (fun hHeld => ?_)
             clear hK K
             refine norm_ (a' := ?_) ?_ ?_
             rotate_left
             ·show Act.put _ (some 85) _ = _
              simp only [Act.put, List.setIfInBounds_toArray, List.set_cons_zero, List.set_cons_succ, i64_w, i32_w]
              rfl
             refine one_ (i := 4) (N := some 88) #[true, true, true, true, true, false, false, false, false, true, false, false] rfl rfl (one_of HT_.out (by kernel_rfl)) (by decide) (fun K hK => ?_)
             refine goes_ Tryd.func49 (by kernel_rfl) rfl #[.agg #[.int .i64 a2_0, .int .i64 a2_1, .int .i64 a2_2]] (by rfl) rfl rfl (by (try simp only [List.map_toArray, List.map_cons, List.map_nil]); first | done | rfl | (simp only [List.length_drop, List.length_take]; rfl)) ?_
             with_reducible refine (laws_toPiece.calls a2_0 a2_1 a2_2 t305 t306 t307 _ A124.out).mono ?_
             rintro e w138 ⟨rfl, hb⟩
             refine ⟨_, rfl, ?_⟩
             have n0_ := Aside0.mk (Kd.R_below (rD HO_279000.out) hb)
             have n1_ := Aside0.mk (Kd.R_below (rD HO_283000.out) hb)
             have n2_ := Aside0.mk (Kd.R_below (rD HO_291000.out) hb)
             have n3_ := Aside0.mk (Kd.R_below (rD HO304.out) hb)
             have n4_ := Aside0.mk (blk_below (bkD BK265) hb)
             have n5_ := Aside0.mk (blk_below (bkD BK266) hb)
             have n6_ := Aside0.mk (blk_below (bkD BK278) hb)
             have n7_ := Aside0.mk (blk_below (bkD BK282) hb)
             have n8_ := Aside0.mk (blk_below (bkD BK290) hb)
             have n9_ := Aside0.mk (blk_below (bkD BK312) hb)
             have n10_ := Aside0.mk (below_step (hbD HB) hb)
             clear HO_279000 HO_283000 HO_291000 HO304 BK265 BK266 BK278 BK282 BK290 BK312 HB
             have HO_279000 := n0_
             have HO_283000 := n1_
             have HO_291000 := n2_
             have HO304 := n3_
             have BK265 := n4_
             have BK266 := n5_
             have BK278 := n6_
             have BK282 := n7_
             have BK290 := n8_
             have BK312 := n9_
             have HB := n10_
             clear n0_ n1_ n2_ n3_ n4_ n5_ n6_ n7_ n8_ n9_ n10_
             (try clear hb)
             (try clear hb2)
             (try clear hk)
             (try clear hi)
             obtain ⟨Ao139, co139, eo139⟩ := Kd.R_slice HO304.out
             (first | subst eo139 | (injection eo139 with f1_ f2_ f3_; have f4_ := f1_.symm; have f5_ := f3_.symm; clear f1_ f2_ f3_; subst f4_; subst f5_))
             refine hK.out _ _ ⟨(blk_cell BK265.out 0).trans rfl, (blk_cell BK266.out 0).trans rfl, (blk_cell BK266.out 1).trans rfl, (blk_cell BK266.out 2).trans rfl⟩ (fun hHeld => ?_)
             clear hK K
             refine norm_ (a' := ?_) ?_ ?_
             rotate_left
             ·show Act.put _ (some 88) _ = _
              simp only [Act.put, List.setIfInBounds_toArray, List.set_cons_zero, List.set_cons_succ, i64_w, i32_w]
              rfl
             refine one_ (i := 5) (N := some 89) #[true, true, true, true, true, true, false, false, false, true, false, false] rfl rfl (one_of HT_.out (by kernel_rfl)) (by decide) (fun K hK => ?_)
             refine goes_ Tryd.func32 (by kernel_rfl) rfl #[.agg #[.slice Ao139 t302.length co139], .int .i64 a1, .agg #[.int .i64 t305, .int .i64 t306, .int .i64 t307]] (by rfl) rfl rfl (by (try simp only [List.map_toArray, List.map_cons, List.map_nil]); first | done | rfl | (simp only [List.length_drop, List.length_take]; rfl)) ?_
             with_reducible refine (impl_TreeInsert.calls _ _ t302 a1 t305 t306 t307 t308 t311 _ ?side1 ?side2 ?side3 A125.out).mono ?_
             (case side1 => repeat (first | exact (Kd.R_reads' HO304.out).2.2 | (with_reducible refine Kd.C_alloc ?_ _) | (with_reducible refine Kd.C_drewN ?_ _) | (with_reducible refine Kd.C_drew ?_)))
             (case side2 => exact (Kd.R_reads' HO304.out).2.1)
             (case side3 => exact HG.below hgG_ (hbD HB))
             rintro e w140 ⟨v309, rfl, ho0, hb⟩
             refine ⟨_, rfl, ?_⟩
             have n0_ := Aside0.mk (Kd.R_elder' (rD HO_279000.out) (Kd.R_base ho0) hb)
             have n1_ := Aside0.mk (Kd.R_elder' (rD HO_283000.out) (Kd.R_base ho0) hb)
             have n2_ := Aside0.mk (Kd.R_elder' (rD HO_291000.out) (Kd.R_base ho0) hb)
             have n3_ := Aside0.mk (Kd.R_elder' (rD HO304.out) (Kd.R_base ho0) hb)
             have n4_ := Aside0.mk (Kd.R_lower (Kd.R_new' (Kd.R_new' (Kd.R_new' (Kd.R_new' ho0 (Kd.R_lt (rD HO_279000.out))) (Kd.R_lt (rD HO_283000.out))) (Kd.R_lt (rD HO_291000.out))) (Kd.R_lt (rD HO304.out))) (below_size (hbD HB)))
             have n5_ := Aside0.mk (blk_below (bkD BK265) hb)
             have n6_ := Aside0.mk (blk_below (bkD BK266) hb)
             have n7_ := Aside0.mk (blk_below (bkD BK278) hb)
             have n8_ := Aside0.mk (blk_below (bkD BK282) hb)
             have n9_ := Aside0.mk (blk_below (bkD BK290) hb)
             have n10_ := Aside0.mk (blk_below (bkD BK312) hb)
             have n11_ := Aside0.mk (below_step (hbD HB) hb)
             clear HO_279000 HO_283000 HO_291000 HO304 BK265 BK266 BK278 BK282 BK290 BK312 HB
             have HO_279000 := n0_
             have HO_283000 := n1_
             have HO_291000 := n2_
             have HO304 := n3_
             have HO310 := n4_
             have BK265 := n5_
             have BK266 := n6_
             have BK278 := n7_
             have BK282 := n8_
             have BK290 := n9_
             have BK312 := n10_
             have HB := n11_
             clear n0_ n1_ n2_ n3_ n4_ n5_ n6_ n7_ n8_ n9_ n10_ n11_
             (try clear hb)
             (try clear hb2)
             (try clear hk)
             (try clear hi)
             (try clear ho0)
             refine hK.out _ _ ⟨(blk_cell BK265.out 0).trans rfl, (blk_cell BK266.out 0).trans rfl, (blk_cell BK266.out 1).trans rfl, (blk_cell BK266.out 2).trans rfl⟩ (fun hHeld => ?_)
             clear hK K
             refine norm_ (a' := ?_) ?_ ?_
             rotate_left
             ·show Act.put _ (some 89) _ = _
              simp only [Act.put, List.setIfInBounds_toArray, List.set_cons_zero, List.set_cons_succ, i64_w, i32_w]
              rfl
             refine pure_ (i := 6) (N := some 83) (v := ?_) (a' := ?_) #[true, true, true, true, true, true, true, false, false, true, false, false] rfl rfl (any_of HT_.out (by kernel_rfl)) (fun _ _ _ h => h) (Or.inl ⟨by rfl, ?_⟩) ?_ ?_
             rotate_left
             ·intro w'
              go_simp
              with_reducible rfl
             rotate_left
             ·simp only [Act.put, List.setIfInBounds_toArray, List.set_cons_zero, List.set_cons_succ, i64_w, i32_w]
              rfl
             refine pure_ (i := 7) (N := some 90) (v := ?_) (a' := ?_) #[true, true, true, true, true, true, true, true, false, true, false, false] rfl rfl (any_of HT_.out (by kernel_rfl)) (fun _ _ _ h => h) (Or.inl ⟨by rfl, ?_⟩) ?_ ?_
             rotate_left
             ·intro w'
              go_simp
              with_reducible rfl
             rotate_left
             ·simp only [Act.put, List.setIfInBounds_toArray, List.set_cons_zero, List.set_cons_succ, i64_w, i32_w]
              rfl
             refine pure_ (i := 8) (N := some 91) (v := ?_) (a' := ?_) #[true, true, true, true, true, true, true, true, true, true, false, false] rfl rfl (any_of HT_.out (by kernel_rfl)) (fun _ _ _ h => h) (Or.inl ⟨by rfl, ?_⟩) ?_ ?_
             rotate_left
             ·intro w'
              go_simp
              with_reducible rfl
             rotate_left
             ·simp only [Act.put, List.setIfInBounds_toArray, List.set_cons_zero, List.set_cons_succ, i64_w, i32_w]
              rfl
             exact norm_ (by simp only [putAll, Act.put, List.setIfInBounds_toArray, List.set_cons_zero, List.set_cons_succ]) (hCont (.slice Ao139 t302.length co139, v309, gb312) _ ⟨hHeld, (rD (Kd.R_mono HO304.out (fun _ hk => ⟨hk.2, ⟨hk.1.1.1.2, ⟨hk.1.1.2, hk.1.2⟩⟩⟩))), (rD (Kd.R_mono HO310.out (fun _ hk => ⟨hk.2, ⟨hk.1.1.1.2, ⟨hk.1.1.2, hk.1.2⟩⟩⟩))), (rD (Kd.R_mono HO_279000.out (fun _ hk => ⟨hk.1.2, ⟨hk.2, ⟨hk.1.1.1, hk.1.1.2⟩⟩⟩))), (rD (Kd.R_mono HO_283000.out (fun _ hk => ⟨hk.1.2, ⟨hk.2, ⟨hk.1.1.1, hk.1.1.2⟩⟩⟩))), (rD (Kd.R_mono HO_291000.out (fun _ hk => ⟨hk.1.2, ⟨hk.2, ⟨hk.1.1.1, hk.1.1.2⟩⟩⟩))), (bkD BK265), (bkD BK266), (bkD BK278), (bkD BK282), (bkD BK290), (bkD BK312), GW312.out, GE312.out, NB265_312.out, NB312_265.out, NB266_312.out, NB312_266.out, NB278_312.out, NB312_278.out, NB282_312.out, NB312_282.out, NB290_312.out, NB312_290.out, (hbD HB)⟩)
           rintro ⟨v303, v309, gb312⟩ w141 ⟨hS_, h0_, h1_, h2_, h3_, h4_, h5_, h6_, h7_, h8_, h9_, h10_, h11_, h12_, h13_, h14_, h15_, h16_, h17_, h18_, h19_, h20_, h21_, h22_, h23_⟩
           have n0_ : Aside0 (Kd.R k54 54 w141 w.heap.size (fun k_ => some k_ ≠ (v309 : Value).ownBlock ∧ some k_ ≠ (.slice Ao30 t274.length co30 : Value).ownBlock ∧ some k_ ≠ (.slice Ao36 t297.length co36 : Value).ownBlock ∧ some k_ ≠ (.slice Ao47 t286.length co47 : Value).ownBlock) v303 t302) := ⟨h0_⟩
           have n1_ : Aside0 (Kd.R k54 54 w141 w.heap.size (fun k_ => some k_ ≠ (v303 : Value).ownBlock ∧ some k_ ≠ (.slice Ao30 t274.length co30 : Value).ownBlock ∧ some k_ ≠ (.slice Ao36 t297.length co36 : Value).ownBlock ∧ some k_ ≠ (.slice Ao47 t286.length co47 : Value).ownBlock) v309 t308) := ⟨h1_⟩
           have n2_ : Aside0 (Kd.R k54 54 w141 w.heap.size (fun k_ => some k_ ≠ (v303 : Value).ownBlock ∧ some k_ ≠ (v309 : Value).ownBlock ∧ some k_ ≠ (.slice Ao36 t297.length co36 : Value).ownBlock ∧ some k_ ≠ (.slice Ao47 t286.length co47 : Value).ownBlock) (.slice Ao30 t274.length co30) t274) := ⟨h2_⟩
           have n3_ : Aside0 (Kd.R k54 54 w141 w.heap.size (fun k_ => some k_ ≠ (v303 : Value).ownBlock ∧ some k_ ≠ (v309 : Value).ownBlock ∧ some k_ ≠ (.slice Ao30 t274.length co30 : Value).ownBlock ∧ some k_ ≠ (.slice Ao47 t286.length co47 : Value).ownBlock) (.slice Ao36 t297.length co36) t297) := ⟨h3_⟩
           have n4_ : Aside0 (Kd.R k54 54 w141 w.heap.size (fun k_ => some k_ ≠ (v303 : Value).ownBlock ∧ some k_ ≠ (v309 : Value).ownBlock ∧ some k_ ≠ (.slice Ao30 t274.length co30 : Value).ownBlock ∧ some k_ ≠ (.slice Ao36 t297.length co36 : Value).ownBlock) (.slice Ao47 t286.length co47) t300) := ⟨h4_⟩
           have n5_ : Aside0 (w141.heap[gb265]? = some (.cells #[.slice A0_0 l0_0.length c0_0] 24 (0, 0))) := ⟨h5_⟩
           have n6_ : Aside0 (w141.heap[gb266]? = some (.cells #[.int .i64 a2_0, .int .i64 a2_1, .int .i64 a2_2] 76 (0, 0))) := ⟨h6_⟩
           have n7_ : Aside0 (w141.heap[gb278]? = some (.cells #[.slice Ao30 t274.length co30] 30 (0, 0))) := ⟨h7_⟩
           have n8_ : Aside0 (w141.heap[gb282]? = some (.cells #[.slice Ao36 t297.length co36] 30 (0, 0))) := ⟨h8_⟩
           have n9_ : Aside0 (w141.heap[gb290]? = some (.cells #[.slice Ao47 t286.length co47] 30 (0, 0))) := ⟨h9_⟩
           have n10_ : Aside0 (w141.heap[gb312]? = some (.cells #[.slice none 0 0] 30 (0, 0))) := ⟨h10_⟩
           have n11_ : Aside0 (w.heap.size ≤ gb312) := ⟨h11_⟩
           have n12_ : Aside0 (w.heap.size ≤ gb312) := ⟨h12_⟩
           have n13_ : Aside0 (gb265 ≠ gb312) := ⟨h13_⟩
           have n14_ : Aside0 (gb312 ≠ gb265) := ⟨h14_⟩
           have n15_ : Aside0 (gb266 ≠ gb312) := ⟨h15_⟩
           have n16_ : Aside0 (gb312 ≠ gb266) := ⟨h16_⟩
           have n17_ : Aside0 (gb278 ≠ gb312) := ⟨h17_⟩
           have n18_ : Aside0 (gb312 ≠ gb278) := ⟨h18_⟩
           have n19_ : Aside0 (gb282 ≠ gb312) := ⟨h19_⟩
           have n20_ : Aside0 (gb312 ≠ gb282) := ⟨h20_⟩
           have n21_ : Aside0 (gb290 ≠ gb312) := ⟨h21_⟩
           have n22_ : Aside0 (gb312 ≠ gb290) := ⟨h22_⟩
           have n23_ : Aside0 (Below w.heap.size w w141) := ⟨h23_⟩
           clear HO_279000 HO_283000 HO_291000 BK265 BK266 BK278 BK282 BK290 HB h0_ h1_ h2_ h3_ h4_ h5_ h6_ h7_ h8_ h9_ h10_ h11_ h12_ h13_ h14_ h15_ h16_ h17_ h18_ h19_ h20_ h21_ h22_ h23_
           have HO304 := n0_
           have HO310 := n1_
           have HO_279000 := n2_
           have HO_283000 := n3_
           have HO_291000 := n4_
           have BK265 := n5_
           have BK266 := n6_
           have BK278 := n7_
           have BK282 := n8_
           have BK290 := n9_
           have BK312 := n10_
           have GW312 := n11_
           have GE312 := n12_
           have NB265_312 := n13_
           have NB312_265 := n14_
           have NB266_312 := n15_
           have NB312_266 := n16_
           have NB278_312 := n17_
           have NB312_278 := n18_
           have NB282_312 := n19_
           have NB312_282 := n20_
           have NB290_312 := n21_
           have NB312_290 := n22_
           have HB := n23_
           clear n0_ n1_ n2_ n3_ n4_ n5_ n6_ n7_ n8_ n9_ n10_ n11_ n12_ n13_ n14_ n15_ n16_ n17_ n18_ n19_ n20_ n21_ n22_ n23_
           have hHeld : w141.cell? ⟨gb265, 0, none⟩ = some (.slice A0_0 l0_0.length c0_0) ∧ w141.cell? ⟨gb266, 0, none⟩ = some (.int .i64 a2_0) ∧ w141.cell? ⟨gb266, 1, none⟩ = some (.int .i64 a2_1) ∧ w141.cell? ⟨gb266, 2, none⟩ = some (.int .i64 a2_2) := hS_
           obtain ⟨Ao142, co142, eo142⟩ := Kd.R_slice HO310.out
           (first | subst eo142 | (injection eo142 with f1_ f2_ f3_; have f4_ := f1_.symm; have f5_ := f3_.symm; clear f1_ f2_ f3_; subst f4_; subst f5_))
           refine norm_ (a' := ?_) ?_ ?_
           rotate_left
           ·simp only [putAll, Act.put, List.setIfInBounds_toArray, List.set_cons_zero, List.set_cons_succ]
            rfl
           refine one_ (i := 10) (N := none) #[true, true, true, true, true, true, true, true, true, true, true, false] rfl rfl (one_of HT_.out (by kernel_rfl)) (by decide) (fun K hK => ?_)
           have hs143 : w141.cell? ⟨gb312, 0, none⟩ = some (.slice none 0 0) := (blk_cell BK312.out 0).trans rfl
           have hfs143 := blk_frozen BK312.out 0
           have hns143_0 := NB265_312.out
           have hns143_1 := NB266_312.out
           have hns143_2 := NB278_312.out
           have hns143_3 := NB282_312.out
           have hns143_4 := NB290_312.out
           have hms143_0 := NB312_265.out
           have hms143_1 := NB312_266.out
           have hms143_2 := NB312_278.out
           have hms143_3 := NB312_282.out
           have hms143_4 := NB312_290.out
           refine skip_ (w1 := ?_) (by rfl) rfl ?_ ?_
           rotate_left
           ·go_simp
            rfl
           refine hK.out _ _ ⟨((cell_far (p := ⟨gb312, _, none⟩) NB265_312.out _).trans (hHeld.1)), ((cell_far (p := ⟨gb312, _, none⟩) NB266_312.out _).trans (hHeld.2.1)), ((cell_far (p := ⟨gb312, _, none⟩) NB266_312.out _).trans (hHeld.2.2.1)), ((cell_far (p := ⟨gb312, _, none⟩) NB266_312.out _).trans (hHeld.2.2.2))⟩ (fun hHeld => ?_)
           clear hK K
           refine pure_ (i := 11) (N := some 17) (v := ?_) (a' := ?_) #[true, true, true, true, true, true, true, true, true, true, true, true] rfl rfl (any_of HT_.out (by kernel_rfl)) (fun _ _ _ h => h) (Or.inl ⟨by rfl, ?_⟩) ?_ ?_
           rotate_left
           ·intro w'
            go_simp
            with_reducible rfl
           rotate_left
           ·simp only [Act.put, List.setIfInBounds_toArray, List.set_cons_zero, List.set_cons_succ, i64_w, i32_w]
            rfl
           refine done_ (done_of HT_.out (by kernel_rfl)) ?_
           go_upto_region 25 with (fail)
           go_cut [100] (fun v100 wc => ∃ (kq : Nat) (x100_125 : Bool), v100 = .bool x100_125 ∧ Aside0 (laws_FnExactTreeInsert.j2 kq t299 x100_125 t300 = some r) ∧ Aside0 (kq ≤ kj75) ∧ Aside0 (Kd.R k54 54 wc w.heap.size (fun k_ => some k_ ≠ ((.slice Ao36 t297.length co36) : Value).ownBlock ∧ some k_ ≠ ((.slice Ao47 t286.length co47) : Value).ownBlock ∧ some k_ ≠ ((.slice Ao142 t308.length co142) : Value).ownBlock) (.slice Ao30 t274.length co30) t274) ∧ Aside0 (Kd.R k54 54 wc w.heap.size (fun k_ => some k_ ≠ ((.slice Ao30 t274.length co30) : Value).ownBlock ∧ some k_ ≠ ((.slice Ao47 t286.length co47) : Value).ownBlock ∧ some k_ ≠ ((.slice Ao142 t308.length co142) : Value).ownBlock) (.slice Ao36 t297.length co36) t297) ∧ Aside0 (Kd.R k54 54 wc w.heap.size (fun k_ => some k_ ≠ ((.slice Ao30 t274.length co30) : Value).ownBlock ∧ some k_ ≠ ((.slice Ao36 t297.length co36) : Value).ownBlock ∧ some k_ ≠ ((.slice Ao142 t308.length co142) : Value).ownBlock) (.slice Ao47 t286.length co47) t300) ∧ Aside0 (Kd.R k54 54 wc w.heap.size (fun k_ => some k_ ≠ ((.slice Ao30 t274.length co30) : Value).ownBlock ∧ some k_ ≠ ((.slice Ao36 t297.length co36) : Value).ownBlock ∧ some k_ ≠ ((.slice Ao47 t286.length co47) : Value).ownBlock) (.slice Ao142 t308.length co142) t308) ∧ Aside0 (wc.heap[gb265]? = some (.cells #[(.slice A0_0 l0_0.length c0_0)] 24 (0, 0))) ∧ Aside0 (wc.heap[gb266]? = some (.cells #[.int .i64 a2_0, .int .i64 a2_1, .int .i64 a2_2] 76 (0, 0))) ∧ Aside0 (wc.heap[gb278]? = some (.cells #[(.slice Ao30 t274.length co30)] 30 (0, 0))) ∧ Aside0 (wc.heap[gb282]? = some (.cells #[(.slice Ao36 t297.length co36)] 30 (0, 0))) ∧ Aside0 (wc.heap[gb290]? = some (.cells #[(.slice Ao47 t286.length co47)] 30 (0, 0))) ∧ Aside0 (wc.heap[gb312]? = some (.cells #[(.slice Ao142 t308.length co142)] 30 (0, 0))) ∧ Aside0 (Below w.heap.size w wc))
           case first =>
            have H := HC126.out
            clear HC126
            replace H := Option.bind_eq_some_iff.mp H
            obtain ⟨t313, A1440, H⟩ := H
            replace H : (if t313 = true then (laws_FnExactTreeInsert.j2 kj75 t299 (t311 != t277) t300) else (laws_FnExactTreeInsert.j2 kj75 t299 true t300)) = some r := H
            have A144 := Aside0.mk A1440
            clear A1440
            by_cases c145 : t313 = true
            ·subst c145
             have H1 : (laws_FnExactTreeInsert.j2 kj75 t299 (t311 != t277) t300) = some r := by rw [if_pos rfl] at H; exact H
             clear H
             have H := H1
             clear H1
             have H' := Aside0.mk H
             clear H
             have hnb146 := NB312_265.out
             have hnc146 := NB265_312.out
             have hnb147 := NB312_266.out
             have hnc147 := NB266_312.out
             have hnb148 := NB312_278.out
             have hnc148 := NB278_312.out
             have hnb149 := NB312_282.out
             have hnc149 := NB282_312.out
             have hnb150 := NB312_290.out
             have hnc150 := NB290_312.out
             have hcz151_0 : w141.cell? ⟨gb312, 0, none⟩ = some (.slice none 0 0) := (blk_cell BK312.out 0).trans rfl
             have hfz151_0 := blk_frozen BK312.out 0
             have hnb152 := NB278_265.out
             have hnc152 := NB265_278.out
             have hnb153 := NB278_266.out
             have hnc153 := NB266_278.out
             have hnb154 := NB278_282.out
             have hnc154 := NB282_278.out
             have hnb155 := NB278_290.out
             have hnc155 := NB290_278.out
             have hcz156_0 : w141.cell? ⟨gb278, 0, none⟩ = some (.slice Ao30 t274.length co30) := (blk_cell BK278.out 0).trans rfl
             have hfz156_0 := blk_frozen BK278.out 0
             go_wp2_with (first | ((with_reducible refine gate_callee (f := 19) rfl ?_); refine goesL_ (some 94) rfl rfl Tryd.func19 (by kernel_rfl) rfl #[.agg #[.slice Ao142 t308.length co142], .agg #[.slice Ao30 t274.length co30]] rfl (by (try simp only [List.map_toArray, List.map_cons, List.map_nil]); first | done | rfl | (simp only [List.length_drop, List.length_take]; rfl)) ?_; (with_reducible refine (laws_eqTree.calls kj75 _ _ t308 _ _ t274 true _ ?side1 ?side2 ?side3 ?side4 A144.out).mono ?_); (case side1 => refine (Kd.R_reads' (e := 54) (base := w.heap.size) (ok := fun k_ => (some k_ ≠ (v303 : Value).ownBlock ∧ (some k_ ≠ (.slice Ao30 t274.length co30 : Value).ownBlock ∧ (some k_ ≠ (.slice Ao36 t297.length co36 : Value).ownBlock ∧ some k_ ≠ (.slice Ao47 t286.length co47 : Value).ownBlock)))) (n := t308.length) (c := co142) ?_).2.2; exact (rD ((Kd.R_mono (Kd.R_far (p := ⟨gb312, 0, none⟩) (Kd.R_types HO310.out BK312.out (by decide)) (fun _ hk => hk.2) (.slice Ao142 t308.length co142)) (fun _ h_ => h_.1))))); (case side2 => exact (Kd.R_reads' HO310.out).2.1); (case side3 => refine (Kd.R_reads' (e := 54) (base := w.heap.size) (ok := fun k_ => (some k_ ≠ (v303 : Value).ownBlock ∧ (some k_ ≠ (.slice Ao142 t308.length co142 : Value).ownBlock ∧ (some k_ ≠ (.slice Ao36 t297.length co36 : Value).ownBlock ∧ some k_ ≠ (.slice Ao47 t286.length co47 : Value).ownBlock)))) (n := t274.length) (c := co30) ?_).2.2; exact (rD ((Kd.R_mono (Kd.R_far (p := ⟨gb312, 0, none⟩) (Kd.R_types HO_279000.out BK312.out (by decide)) (fun _ hk => hk.2) (.slice Ao142 t308.length co142)) (fun _ h_ => h_.1))))); (case side4 => exact (Kd.R_reads' HO_279000.out).2.1); rintro e w157 ⟨rfl, hb⟩; refine ⟨_, rfl, ?_⟩; have n0_ := Aside0.mk (Kd.R_below (rD ((Kd.R_mono (Kd.R_far (p := ⟨gb312, 0, none⟩) (Kd.R_types HO_279000.out BK312.out (by decide)) (fun _ hk => hk.2) (.slice Ao142 t308.length co142)) (fun _ h_ => h_.1)))) hb); have n1_ := Aside0.mk (Kd.R_below (rD ((Kd.R_mono (Kd.R_far (p := ⟨gb312, 0, none⟩) (Kd.R_types HO_283000.out BK312.out (by decide)) (fun _ hk => hk.2) (.slice Ao142 t308.length co142)) (fun _ h_ => h_.1)))) hb); have n2_ := Aside0.mk (Kd.R_below (rD ((Kd.R_mono (Kd.R_far (p := ⟨gb312, 0, none⟩) (Kd.R_types HO_291000.out BK312.out (by decide)) (fun _ hk => hk.2) (.slice Ao142 t308.length co142)) (fun _ h_ => h_.1)))) hb); have n3_ := Aside0.mk (Kd.R_below (rD ((Kd.R_mono (Kd.R_far (p := ⟨gb312, 0, none⟩) (Kd.R_types HO304.out BK312.out (by decide)) (fun _ hk => hk.2) (.slice Ao142 t308.length co142)) (fun _ h_ => h_.1)))) hb); have n4_ := Aside0.mk (Kd.R_below (rD ((Kd.R_mono (Kd.R_far (p := ⟨gb312, 0, none⟩) (Kd.R_types HO310.out BK312.out (by decide)) (fun _ hk => hk.2) (.slice Ao142 t308.length co142)) (fun _ h_ => h_.1)))) hb); have n5_ := Aside0.mk (blk_below (g := gb265) (o := .cells #[.slice A0_0 l0_0.length c0_0] 24 (0, 0)) (by (with_reducible repeat (first | refine blk_drewN ?_ _ | refine blk_drew ?_ | refine blk_alloc ?_ _)); refine blk_far ?_ NB265_312.out _; (with_reducible repeat (first | refine blk_drewN ?_ _ | refine blk_drew ?_ | refine blk_alloc ?_ _)); exact BK265.out) hb); have n6_ := Aside0.mk (blk_below (g := gb266) (o := .cells #[.int .i64 a2_0, .int .i64 a2_1, .int .i64 a2_2] 76 (0, 0)) (by (with_reducible repeat (first | refine blk_drewN ?_ _ | refine blk_drew ?_ | refine blk_alloc ?_ _)); refine blk_far ?_ NB266_312.out _; (with_reducible repeat (first | refine blk_drewN ?_ _ | refine blk_drew ?_ | refine blk_alloc ?_ _)); exact BK266.out) hb); have n7_ := Aside0.mk (blk_below (g := gb278) (o := .cells #[.slice Ao30 t274.length co30] 30 (0, 0)) (by (with_reducible repeat (first | refine blk_drewN ?_ _ | refine blk_drew ?_ | refine blk_alloc ?_ _)); refine blk_far ?_ NB278_312.out _; (with_reducible repeat (first | refine blk_drewN ?_ _ | refine blk_drew ?_ | refine blk_alloc ?_ _)); exact BK278.out) hb); have n8_ := Aside0.mk (blk_below (g := gb282) (o := .cells #[.slice Ao36 t297.length co36] 30 (0, 0)) (by (with_reducible repeat (first | refine blk_drewN ?_ _ | refine blk_drew ?_ | refine blk_alloc ?_ _)); refine blk_far ?_ NB282_312.out _; (with_reducible repeat (first | refine blk_drewN ?_ _ | refine blk_drew ?_ | refine blk_alloc ?_ _)); exact BK282.out) hb); have n9_ := Aside0.mk (blk_below (g := gb290) (o := .cells #[.slice Ao47 t286.length co47] 30 (0, 0)) (by (with_reducible repeat (first | refine blk_drewN ?_ _ | refine blk_drew ?_ | refine blk_alloc ?_ _)); refine blk_far ?_ NB290_312.out _; (with_reducible repeat (first | refine blk_drewN ?_ _ | refine blk_drew ?_ | refine blk_alloc ?_ _)); exact BK290.out) hb); have n10_ := Aside0.mk (blk_below (g := gb312) (o := .cells #[.slice Ao142 t308.length co142] 30 (0, 0)) (by (with_reducible repeat (first | refine blk_drewN ?_ _ | refine blk_drew ?_ | refine blk_alloc ?_ _)); refine blk_put (cs := #[.slice none 0 0]) ?_ 0 _ rfl; (with_reducible repeat (first | refine blk_drewN ?_ _ | refine blk_drew ?_ | refine blk_alloc ?_ _)); exact BK312.out) hb); have n11_ := Aside0.mk (below_step (hbD HB) hb); clear HO_279000 HO_283000 HO_291000 HO304 HO310 BK265 BK266 BK278 BK282 BK290 BK312 HB; have HO_279000 := n0_; have HO_283000 := n1_; have HO_291000 := n2_; have HO304 := n3_; have HO310 := n4_; have BK265 := n5_; have BK266 := n6_; have BK278 := n7_; have BK282 := n8_; have BK290 := n9_; have BK312 := n10_; have HB := n11_; clear n0_ n1_ n2_ n3_ n4_ n5_ n6_ n7_ n8_ n9_ n10_ n11_; (try clear hb); (try clear hb2); (try clear hk); (try clear hi)))
             go_meet
             case rel => exact ⟨_, ((t311 != t277)), (by first | rfl | (simp; done) | (simp [*]; done)), H', ⟨by have := HJ16.out; have := HJ75.out; first | omega | exact Nat.le_refl _⟩, ⟨by (try simp only [hl283000_75]); (with_reducible repeat (first | apply Kd.R_alloc | apply Kd.R_drewN | apply Kd.R_drew)); exact Kd.R_mono HO_279000.out (fun _ hk => ⟨hk.2.2.1, ⟨hk.2.2.2, hk.2.1⟩⟩)⟩, ⟨by (try simp only [hl283000_75]); (with_reducible repeat (first | apply Kd.R_alloc | apply Kd.R_drewN | apply Kd.R_drew)); exact Kd.R_mono HO_283000.out (fun _ hk => ⟨hk.2.2.1, ⟨hk.2.2.2, hk.2.1⟩⟩)⟩, ⟨by (try simp only [hl283000_75]); (with_reducible repeat (first | apply Kd.R_alloc | apply Kd.R_drewN | apply Kd.R_drew)); exact Kd.R_mono HO_291000.out (fun _ hk => ⟨hk.2.2.1, ⟨hk.2.2.2, hk.2.1⟩⟩)⟩, ⟨by (try simp only [hl283000_75]); (with_reducible repeat (first | apply Kd.R_alloc | apply Kd.R_drewN | apply Kd.R_drew)); exact Kd.R_mono HO310.out (fun _ hk => ⟨hk.2.1, ⟨hk.2.2.1, hk.2.2.2⟩⟩)⟩, ⟨by (try simp only [hl283000_75]); (with_reducible repeat (first | refine blk_drewN ?_ _ | refine blk_drew ?_ | refine blk_alloc ?_ _)); exact BK265.out⟩, ⟨by (try simp only [hl283000_75]); (with_reducible repeat (first | refine blk_drewN ?_ _ | refine blk_drew ?_ | refine blk_alloc ?_ _)); exact BK266.out⟩, ⟨by (try simp only [hl283000_75]); (with_reducible repeat (first | refine blk_drewN ?_ _ | refine blk_drew ?_ | refine blk_alloc ?_ _)); exact BK278.out⟩, ⟨by (try simp only [hl283000_75]); (with_reducible repeat (first | refine blk_drewN ?_ _ | refine blk_drew ?_ | refine blk_alloc ?_ _)); exact BK282.out⟩, ⟨by (try simp only [hl283000_75]); (with_reducible repeat (first | refine blk_drewN ?_ _ | refine blk_drew ?_ | refine blk_alloc ?_ _)); exact BK290.out⟩, ⟨by (try simp only [hl283000_75]); (with_reducible repeat (first | refine blk_drewN ?_ _ | refine blk_drew ?_ | refine blk_alloc ?_ _)); exact BK312.out⟩, ⟨by repeat (first | (with_reducible first | exact HB.out | apply below_alloc | apply pw_below_drewN | apply below_drew1 | refine below_set ?_ GE265.out | refine below_set ?_ GE266.out | refine below_set ?_ GE278.out | refine below_set ?_ GE282.out | refine below_set ?_ GE290.out | refine below_set ?_ GE312.out) | exact HB.out)⟩⟩
            ·replace c145 := Bool.eq_false_iff.mpr c145
             subst c145
             have H1 : (laws_FnExactTreeInsert.j2 kj75 t299 true t300) = some r := by rw [if_neg (show ¬ (false = true) by decide)] at H; exact H
             clear H
             have H := H1
             clear H1
             have H' := Aside0.mk H
             clear H
             have hnb158 := NB312_265.out
             have hnc158 := NB265_312.out
             have hnb159 := NB312_266.out
             have hnc159 := NB266_312.out
             have hnb160 := NB312_278.out
             have hnc160 := NB278_312.out
             have hnb161 := NB312_282.out
             have hnc161 := NB282_312.out
             have hnb162 := NB312_290.out
             have hnc162 := NB290_312.out
             have hcz163_0 : w141.cell? ⟨gb312, 0, none⟩ = some (.slice none 0 0) := (blk_cell BK312.out 0).trans rfl
             have hfz163_0 := blk_frozen BK312.out 0
             have hnb164 := NB278_265.out
             have hnc164 := NB265_278.out
             have hnb165 := NB278_266.out
             have hnc165 := NB266_278.out
             have hnb166 := NB278_282.out
             have hnc166 := NB282_278.out
             have hnb167 := NB278_290.out
             have hnc167 := NB290_278.out
             have hcz168_0 : w141.cell? ⟨gb278, 0, none⟩ = some (.slice Ao30 t274.length co30) := (blk_cell BK278.out 0).trans rfl
             have hfz168_0 := blk_frozen BK278.out 0
             go_wp2_with (first | ((with_reducible refine gate_callee (f := 19) rfl ?_); refine goesL_ (some 94) rfl rfl Tryd.func19 (by kernel_rfl) rfl #[.agg #[.slice Ao142 t308.length co142], .agg #[.slice Ao30 t274.length co30]] rfl (by (try simp only [List.map_toArray, List.map_cons, List.map_nil]); first | done | rfl | (simp only [List.length_drop, List.length_take]; rfl)) ?_; (with_reducible refine (laws_eqTree.calls kj75 _ _ t308 _ _ t274 false _ ?side1 ?side2 ?side3 ?side4 A144.out).mono ?_); (case side1 => refine (Kd.R_reads' (e := 54) (base := w.heap.size) (ok := fun k_ => (some k_ ≠ (v303 : Value).ownBlock ∧ (some k_ ≠ (.slice Ao30 t274.length co30 : Value).ownBlock ∧ (some k_ ≠ (.slice Ao36 t297.length co36 : Value).ownBlock ∧ some k_ ≠ (.slice Ao47 t286.length co47 : Value).ownBlock)))) (n := t308.length) (c := co142) ?_).2.2; exact (rD ((Kd.R_mono (Kd.R_far (p := ⟨gb312, 0, none⟩) (Kd.R_types HO310.out BK312.out (by decide)) (fun _ hk => hk.2) (.slice Ao142 t308.length co142)) (fun _ h_ => h_.1))))); (case side2 => exact (Kd.R_reads' HO310.out).2.1); (case side3 => refine (Kd.R_reads' (e := 54) (base := w.heap.size) (ok := fun k_ => (some k_ ≠ (v303 : Value).ownBlock ∧ (some k_ ≠ (.slice Ao142 t308.length co142 : Value).ownBlock ∧ (some k_ ≠ (.slice Ao36 t297.length co36 : Value).ownBlock ∧ some k_ ≠ (.slice Ao47 t286.length co47 : Value).ownBlock)))) (n := t274.length) (c := co30) ?_).2.2; exact (rD ((Kd.R_mono (Kd.R_far (p := ⟨gb312, 0, none⟩) (Kd.R_types HO_279000.out BK312.out (by decide)) (fun _ hk => hk.2) (.slice Ao142 t308.length co142)) (fun _ h_ => h_.1))))); (case side4 => exact (Kd.R_reads' HO_279000.out).2.1); rintro e w169 ⟨rfl, hb⟩; refine ⟨_, rfl, ?_⟩; have n0_ := Aside0.mk (Kd.R_below (rD ((Kd.R_mono (Kd.R_far (p := ⟨gb312, 0, none⟩) (Kd.R_types HO_279000.out BK312.out (by decide)) (fun _ hk => hk.2) (.slice Ao142 t308.length co142)) (fun _ h_ => h_.1)))) hb); have n1_ := Aside0.mk (Kd.R_below (rD ((Kd.R_mono (Kd.R_far (p := ⟨gb312, 0, none⟩) (Kd.R_types HO_283000.out BK312.out (by decide)) (fun _ hk => hk.2) (.slice Ao142 t308.length co142)) (fun _ h_ => h_.1)))) hb); have n2_ := Aside0.mk (Kd.R_below (rD ((Kd.R_mono (Kd.R_far (p := ⟨gb312, 0, none⟩) (Kd.R_types HO_291000.out BK312.out (by decide)) (fun _ hk => hk.2) (.slice Ao142 t308.length co142)) (fun _ h_ => h_.1)))) hb); have n3_ := Aside0.mk (Kd.R_below (rD ((Kd.R_mono (Kd.R_far (p := ⟨gb312, 0, none⟩) (Kd.R_types HO304.out BK312.out (by decide)) (fun _ hk => hk.2) (.slice Ao142 t308.length co142)) (fun _ h_ => h_.1)))) hb); have n4_ := Aside0.mk (Kd.R_below (rD ((Kd.R_mono (Kd.R_far (p := ⟨gb312, 0, none⟩) (Kd.R_types HO310.out BK312.out (by decide)) (fun _ hk => hk.2) (.slice Ao142 t308.length co142)) (fun _ h_ => h_.1)))) hb); have n5_ := Aside0.mk (blk_below (g := gb265) (o := .cells #[.slice A0_0 l0_0.length c0_0] 24 (0, 0)) (by (with_reducible repeat (first | refine blk_drewN ?_ _ | refine blk_drew ?_ | refine blk_alloc ?_ _)); refine blk_far ?_ NB265_312.out _; (with_reducible repeat (first | refine blk_drewN ?_ _ | refine blk_drew ?_ | refine blk_alloc ?_ _)); exact BK265.out) hb); have n6_ := Aside0.mk (blk_below (g := gb266) (o := .cells #[.int .i64 a2_0, .int .i64 a2_1, .int .i64 a2_2] 76 (0, 0)) (by (with_reducible repeat (first | refine blk_drewN ?_ _ | refine blk_drew ?_ | refine blk_alloc ?_ _)); refine blk_far ?_ NB266_312.out _; (with_reducible repeat (first | refine blk_drewN ?_ _ | refine blk_drew ?_ | refine blk_alloc ?_ _)); exact BK266.out) hb); have n7_ := Aside0.mk (blk_below (g := gb278) (o := .cells #[.slice Ao30 t274.length co30] 30 (0, 0)) (by (with_reducible repeat (first | refine blk_drewN ?_ _ | refine blk_drew ?_ | refine blk_alloc ?_ _)); refine blk_far ?_ NB278_312.out _; (with_reducible repeat (first | refine blk_drewN ?_ _ | refine blk_drew ?_ | refine blk_alloc ?_ _)); exact BK278.out) hb); have n8_ := Aside0.mk (blk_below (g := gb282) (o := .cells #[.slice Ao36 t297.length co36] 30 (0, 0)) (by (with_reducible repeat (first | refine blk_drewN ?_ _ | refine blk_drew ?_ | refine blk_alloc ?_ _)); refine blk_far ?_ NB282_312.out _; (with_reducible repeat (first | refine blk_drewN ?_ _ | refine blk_drew ?_ | refine blk_alloc ?_ _)); exact BK282.out) hb); have n9_ := Aside0.mk (blk_below (g := gb290) (o := .cells #[.slice Ao47 t286.length co47] 30 (0, 0)) (by (with_reducible repeat (first | refine blk_drewN ?_ _ | refine blk_drew ?_ | refine blk_alloc ?_ _)); refine blk_far ?_ NB290_312.out _; (with_reducible repeat (first | refine blk_drewN ?_ _ | refine blk_drew ?_ | refine blk_alloc ?_ _)); exact BK290.out) hb); have n10_ := Aside0.mk (blk_below (g := gb312) (o := .cells #[.slice Ao142 t308.length co142] 30 (0, 0)) (by (with_reducible repeat (first | refine blk_drewN ?_ _ | refine blk_drew ?_ | refine blk_alloc ?_ _)); refine blk_put (cs := #[.slice none 0 0]) ?_ 0 _ rfl; (with_reducible repeat (first | refine blk_drewN ?_ _ | refine blk_drew ?_ | refine blk_alloc ?_ _)); exact BK312.out) hb); have n11_ := Aside0.mk (below_step (hbD HB) hb); clear HO_279000 HO_283000 HO_291000 HO304 HO310 BK265 BK266 BK278 BK282 BK290 BK312 HB; have HO_279000 := n0_; have HO_283000 := n1_; have HO_291000 := n2_; have HO304 := n3_; have HO310 := n4_; have BK265 := n5_; have BK266 := n6_; have BK278 := n7_; have BK282 := n8_; have BK290 := n9_; have BK312 := n10_; have HB := n11_; clear n0_ n1_ n2_ n3_ n4_ n5_ n6_ n7_ n8_ n9_ n10_ n11_; (try clear hb); (try clear hb2); (try clear hk); (try clear hi)))
             go_meet
             case rel => exact ⟨_, (true), (by first | rfl | (simp; done) | (simp [*]; done)), H', ⟨by have := HJ16.out; have := HJ75.out; first | omega | exact Nat.le_refl _⟩, ⟨by (try simp only [hl283000_75]); (with_reducible repeat (first | apply Kd.R_alloc | apply Kd.R_drewN | apply Kd.R_drew)); exact Kd.R_mono HO_279000.out (fun _ hk => ⟨hk.2.2.1, ⟨hk.2.2.2, hk.2.1⟩⟩)⟩, ⟨by (try simp only [hl283000_75]); (with_reducible repeat (first | apply Kd.R_alloc | apply Kd.R_drewN | apply Kd.R_drew)); exact Kd.R_mono HO_283000.out (fun _ hk => ⟨hk.2.2.1, ⟨hk.2.2.2, hk.2.1⟩⟩)⟩, ⟨by (try simp only [hl283000_75]); (with_reducible repeat (first | apply Kd.R_alloc | apply Kd.R_drewN | apply Kd.R_drew)); exact Kd.R_mono HO_291000.out (fun _ hk => ⟨hk.2.2.1, ⟨hk.2.2.2, hk.2.1⟩⟩)⟩, ⟨by (try simp only [hl283000_75]); (with_reducible repeat (first | apply Kd.R_alloc | apply Kd.R_drewN | apply Kd.R_drew)); exact Kd.R_mono HO310.out (fun _ hk => ⟨hk.2.1, ⟨hk.2.2.1, hk.2.2.2⟩⟩)⟩, ⟨by (try simp only [hl283000_75]); (with_reducible repeat (first | refine blk_drewN ?_ _ | refine blk_drew ?_ | refine blk_alloc ?_ _)); exact BK265.out⟩, ⟨by (try simp only [hl283000_75]); (with_reducible repeat (first | refine blk_drewN ?_ _ | refine blk_drew ?_ | refine blk_alloc ?_ _)); exact BK266.out⟩, ⟨by (try simp only [hl283000_75]); (with_reducible repeat (first | refine blk_drewN ?_ _ | refine blk_drew ?_ | refine blk_alloc ?_ _)); exact BK278.out⟩, ⟨by (try simp only [hl283000_75]); (with_reducible repeat (first | refine blk_drewN ?_ _ | refine blk_drew ?_ | refine blk_alloc ?_ _)); exact BK282.out⟩, ⟨by (try simp only [hl283000_75]); (with_reducible repeat (first | refine blk_drewN ?_ _ | refine blk_drew ?_ | refine blk_alloc ?_ _)); exact BK290.out⟩, ⟨by (try simp only [hl283000_75]); (with_reducible repeat (first | refine blk_drewN ?_ _ | refine blk_drew ?_ | refine blk_alloc ?_ _)); exact BK312.out⟩, ⟨by repeat (first | (with_reducible first | exact HB.out | apply below_alloc | apply pw_below_drewN | apply below_drew1 | refine below_set ?_ GE265.out | refine below_set ?_ GE266.out | refine below_set ?_ GE278.out | refine below_set ?_ GE282.out | refine below_set ?_ GE290.out | refine below_set ?_ GE312.out) | exact HB.out)⟩⟩
           case rest =>
            clear HC126
            try clear c1
            try clear p2
            try clear c3
            try clear c4
            try clear c14
            try clear c15
            try clear c16
            try clear c17
            try clear c19
            try clear c32
            try clear c49
            try clear c145
            try clear c146
            try clear c147
            try clear c148
            try clear c149
            try clear c150
            try clear c152
            try clear c153
            try clear c154
            try clear c155
            try clear c158
            try clear c159
            try clear c160
            try clear c161
            try clear c162
            try clear c164
            try clear c165
            try clear c166
            try clear c167
            try clear hcz151_0
            try clear hcz156_0
            try clear hcz163_0
            try clear hcz168_0
            try clear hfz151_0
            try clear hfz156_0
            try clear hfz163_0
            try clear hfz168_0
            obtain ⟨kq, x100_125, rfl, HA, HJ125, HO_279000, HO_283000, HO_291000, HO_313000, BK265, BK266, BK278, BK282, BK290, BK312, HB⟩ := hcut
            have hl291000_125 := (Kd.R_reads' HO_291000.out).1
            rw [hl291000_125] at HO_291000
            (try simp only [hl291000_125])
            (try simp only [hl291000_125] at BK265)
            (try simp only [hl291000_125] at BK266)
            (try simp only [hl291000_125] at BK278)
            (try simp only [hl291000_125] at BK282)
            (try simp only [hl291000_125] at BK290)
            (try simp only [hl291000_125] at BK312)
            (try simp only [hl291000_125] at HO_279000)
            (try simp only [hl291000_125] at HO_283000)
            (try simp only [hl291000_125] at HO_313000)
            cases kq with
            | zero => exact absurd HA.out (by simp [laws_FnExactTreeInsert.j2])
            | succ kj125 =>
             have H := HA.out
             clear HA
             simp only [laws_FnExactTreeInsert.j2] at H
             by_cases c170 : x100_125 = true
             ·subst c170
              have H1 : (some false) = some r := by rw [if_pos rfl] at H; exact H
              clear H
              have H := H1
              clear H1
              obtain rfl := Option.some.inj H
              go_wp2
              go_ret
              exact ⟨by first | rfl | (simp [errW_none, errW_some] <;> rfl) | (simp [*, errW_none, errW_some] <;> rfl), by repeat (first | (with_reducible first | exact HB.out | apply below_alloc | apply pw_below_drewN | apply below_drew1 | refine below_set ?_ GE265.out | refine below_set ?_ GE266.out | refine below_set ?_ GE278.out | refine below_set ?_ GE282.out | refine below_set ?_ GE290.out | refine below_set ?_ GE312.out) | exact HB.out)⟩
             ·replace c170 := Bool.eq_false_iff.mpr c170
              subst c170
              have H1 : ((laws_heldTree.f kj125 t300 1).bind fun t314 => (if t314 < 0 then (some false) else (if t314 = t299 then (some true) else (some false)))) = some r := by rw [if_neg (show ¬ (false = true) by decide)] at H; exact H
              clear H
              have H := H1
              clear H1
              replace H := Option.bind_eq_some_iff.mp H
              obtain ⟨t314, A1710, H⟩ := H
              replace H : (if t314 < 0 then (some false) else (if t314 = t299 then (some true) else (some false))) = some r := H
              have A171 := Aside0.mk A1710
              clear A1710
              by_cases c172 : t314 < 0
              ·rw [if_pos c172] at H
               have c172b0 : decide (t314 < 0) = true := decide_eq_true c172
               clear c172
               obtain rfl := Option.some.inj H
               have hnb173 := NB290_265.out
               have hnc173 := NB265_290.out
               have hnb174 := NB290_266.out
               have hnc174 := NB266_290.out
               have hnb175 := NB290_278.out
               have hnc175 := NB278_290.out
               have hnb176 := NB290_282.out
               have hnc176 := NB282_290.out
               have hnb177 := NB290_312.out
               have hnc177 := NB312_290.out
               have hcz178_0 : wc.cell? ⟨gb290, 0, none⟩ = some (.slice Ao47 t300.length co47) := (blk_cell BK290.out 0).trans rfl
               have hfz178_0 := blk_frozen BK290.out 0
               go_wp2_with (first | ((with_reducible refine gate_callee (f := 51) rfl ?_); refine goesL_ (some 103) rfl rfl Tryd.func51 (by kernel_rfl) rfl #[.agg #[.slice Ao47 t300.length co47], .int .i64 1] rfl (by (try simp only [List.map_toArray, List.map_cons, List.map_nil]); first | done | rfl | (simp only [List.length_drop, List.length_take]; rfl)) ?_; (with_reducible refine (laws_heldTree.calls kj125 _ _ t300 1 t314 _ ?side1 ?side2 A171.out).mono ?_); (case side1 => repeat (first | exact (Kd.R_reads' HO_291000.out).2.2 | (with_reducible refine Kd.C_alloc ?_ _) | (with_reducible refine Kd.C_drewN ?_ _) | (with_reducible refine Kd.C_drew ?_))); (case side2 => exact (Kd.R_reads' HO_291000.out).2.1); rintro e w179 ⟨rfl, hb⟩; refine ⟨_, rfl, ?_⟩; have n0_ := Aside0.mk (Kd.R_below (rD HO_279000.out) hb); have n1_ := Aside0.mk (Kd.R_below (rD HO_283000.out) hb); have n2_ := Aside0.mk (Kd.R_below (rD HO_291000.out) hb); have n3_ := Aside0.mk (Kd.R_below (rD HO_313000.out) hb); have n4_ := Aside0.mk (blk_below (bkD BK265) hb); have n5_ := Aside0.mk (blk_below (bkD BK266) hb); have n6_ := Aside0.mk (blk_below (bkD BK278) hb); have n7_ := Aside0.mk (blk_below (bkD BK282) hb); have n8_ := Aside0.mk (blk_below (bkD BK290) hb); have n9_ := Aside0.mk (blk_below (bkD BK312) hb); have n10_ := Aside0.mk (below_step (hbD HB) hb); clear HO_279000 HO_283000 HO_291000 HO_313000 BK265 BK266 BK278 BK282 BK290 BK312 HB; have HO_279000 := n0_; have HO_283000 := n1_; have HO_291000 := n2_; have HO_313000 := n3_; have BK265 := n4_; have BK266 := n5_; have BK278 := n6_; have BK282 := n7_; have BK290 := n8_; have BK312 := n9_; have HB := n10_; clear n0_ n1_ n2_ n3_ n4_ n5_ n6_ n7_ n8_ n9_ n10_; (try clear hb); (try clear hb2); (try clear hk); (try clear hi)))
               go_ret
               exact ⟨by first | rfl | (simp [errW_none, errW_some] <;> rfl) | (simp [*, errW_none, errW_some] <;> rfl), by repeat (first | (with_reducible first | exact HB.out | apply below_alloc | apply pw_below_drewN | apply below_drew1 | refine below_set ?_ GE265.out | refine below_set ?_ GE266.out | refine below_set ?_ GE278.out | refine below_set ?_ GE282.out | refine below_set ?_ GE290.out | refine below_set ?_ GE312.out) | exact HB.out)⟩
              ·rw [if_neg c172] at H
               have c172b0 : decide (t314 < 0) = false := decide_eq_false c172
               clear c172
               by_cases c180 : t314 = t299
               ·rw [if_pos c180] at H
                have c180b0 : (t314 == t299) = true := beq_iff_eq.mpr c180
                have c180b1 : (t314 != t299) = false := bne_eq_false_iff_eq.mpr c180
                clear c180
                obtain rfl := Option.some.inj H
                have hnb181 := NB290_265.out
                have hnc181 := NB265_290.out
                have hnb182 := NB290_266.out
                have hnc182 := NB266_290.out
                have hnb183 := NB290_278.out
                have hnc183 := NB278_290.out
                have hnb184 := NB290_282.out
                have hnc184 := NB282_290.out
                have hnb185 := NB290_312.out
                have hnc185 := NB312_290.out
                have hcz186_0 : wc.cell? ⟨gb290, 0, none⟩ = some (.slice Ao47 t300.length co47) := (blk_cell BK290.out 0).trans rfl
                have hfz186_0 := blk_frozen BK290.out 0
                go_wp2_with (first | ((with_reducible refine gate_callee (f := 51) rfl ?_); refine goesL_ (some 103) rfl rfl Tryd.func51 (by kernel_rfl) rfl #[.agg #[.slice Ao47 t300.length co47], .int .i64 1] rfl (by (try simp only [List.map_toArray, List.map_cons, List.map_nil]); first | done | rfl | (simp only [List.length_drop, List.length_take]; rfl)) ?_; (with_reducible refine (laws_heldTree.calls kj125 _ _ t300 1 t314 _ ?side1 ?side2 A171.out).mono ?_); (case side1 => repeat (first | exact (Kd.R_reads' HO_291000.out).2.2 | (with_reducible refine Kd.C_alloc ?_ _) | (with_reducible refine Kd.C_drewN ?_ _) | (with_reducible refine Kd.C_drew ?_))); (case side2 => exact (Kd.R_reads' HO_291000.out).2.1); rintro e w187 ⟨rfl, hb⟩; refine ⟨_, rfl, ?_⟩; have n0_ := Aside0.mk (Kd.R_below (rD HO_279000.out) hb); have n1_ := Aside0.mk (Kd.R_below (rD HO_283000.out) hb); have n2_ := Aside0.mk (Kd.R_below (rD HO_291000.out) hb); have n3_ := Aside0.mk (Kd.R_below (rD HO_313000.out) hb); have n4_ := Aside0.mk (blk_below (bkD BK265) hb); have n5_ := Aside0.mk (blk_below (bkD BK266) hb); have n6_ := Aside0.mk (blk_below (bkD BK278) hb); have n7_ := Aside0.mk (blk_below (bkD BK282) hb); have n8_ := Aside0.mk (blk_below (bkD BK290) hb); have n9_ := Aside0.mk (blk_below (bkD BK312) hb); have n10_ := Aside0.mk (below_step (hbD HB) hb); clear HO_279000 HO_283000 HO_291000 HO_313000 BK265 BK266 BK278 BK282 BK290 BK312 HB; have HO_279000 := n0_; have HO_283000 := n1_; have HO_291000 := n2_; have HO_313000 := n3_; have BK265 := n4_; have BK266 := n5_; have BK278 := n6_; have BK282 := n7_; have BK290 := n8_; have BK312 := n9_; have HB := n10_; clear n0_ n1_ n2_ n3_ n4_ n5_ n6_ n7_ n8_ n9_ n10_; (try clear hb); (try clear hb2); (try clear hk); (try clear hi)))
                go_ret
                exact ⟨by first | rfl | (simp [errW_none, errW_some] <;> rfl) | (simp [*, errW_none, errW_some] <;> rfl), by repeat (first | (with_reducible first | exact HB.out | apply below_alloc | apply pw_below_drewN | apply below_drew1 | refine below_set ?_ GE265.out | refine below_set ?_ GE266.out | refine below_set ?_ GE278.out | refine below_set ?_ GE282.out | refine below_set ?_ GE290.out | refine below_set ?_ GE312.out) | exact HB.out)⟩
               ·rw [if_neg c180] at H
                have c180b0 : (t314 == t299) = false := beq_eq_false_iff_ne.mpr c180
                have c180b1 : (t314 != t299) = true := bne_iff_ne.mpr c180
                obtain rfl := Option.some.inj H
                have hnb188 := NB290_265.out
                have hnc188 := NB265_290.out
                have hnb189 := NB290_266.out
                have hnc189 := NB266_290.out
                have hnb190 := NB290_278.out
                have hnc190 := NB278_290.out
                have hnb191 := NB290_282.out
                have hnc191 := NB282_290.out
                have hnb192 := NB290_312.out
                have hnc192 := NB312_290.out
                have hcz193_0 : wc.cell? ⟨gb290, 0, none⟩ = some (.slice Ao47 t300.length co47) := (blk_cell BK290.out 0).trans rfl
                have hfz193_0 := blk_frozen BK290.out 0
                go_wp2_with (first | ((with_reducible refine gate_callee (f := 51) rfl ?_); refine goesL_ (some 103) rfl rfl Tryd.func51 (by kernel_rfl) rfl #[.agg #[.slice Ao47 t300.length co47], .int .i64 1] rfl (by (try simp only [List.map_toArray, List.map_cons, List.map_nil]); first | done | rfl | (simp only [List.length_drop, List.length_take]; rfl)) ?_; (with_reducible refine (laws_heldTree.calls kj125 _ _ t300 1 t314 _ ?side1 ?side2 A171.out).mono ?_); (case side1 => repeat (first | exact (Kd.R_reads' HO_291000.out).2.2 | (with_reducible refine Kd.C_alloc ?_ _) | (with_reducible refine Kd.C_drewN ?_ _) | (with_reducible refine Kd.C_drew ?_))); (case side2 => exact (Kd.R_reads' HO_291000.out).2.1); rintro e w194 ⟨rfl, hb⟩; refine ⟨_, rfl, ?_⟩; have n0_ := Aside0.mk (Kd.R_below (rD HO_279000.out) hb); have n1_ := Aside0.mk (Kd.R_below (rD HO_283000.out) hb); have n2_ := Aside0.mk (Kd.R_below (rD HO_291000.out) hb); have n3_ := Aside0.mk (Kd.R_below (rD HO_313000.out) hb); have n4_ := Aside0.mk (blk_below (bkD BK265) hb); have n5_ := Aside0.mk (blk_below (bkD BK266) hb); have n6_ := Aside0.mk (blk_below (bkD BK278) hb); have n7_ := Aside0.mk (blk_below (bkD BK282) hb); have n8_ := Aside0.mk (blk_below (bkD BK290) hb); have n9_ := Aside0.mk (blk_below (bkD BK312) hb); have n10_ := Aside0.mk (below_step (hbD HB) hb); clear HO_279000 HO_283000 HO_291000 HO_313000 BK265 BK266 BK278 BK282 BK290 BK312 HB; have HO_279000 := n0_; have HO_283000 := n1_; have HO_291000 := n2_; have HO_313000 := n3_; have BK265 := n4_; have BK266 := n5_; have BK278 := n6_; have BK282 := n7_; have BK290 := n8_; have BK312 := n9_; have HB := n10_; clear n0_ n1_ n2_ n3_ n4_ n5_ n6_ n7_ n8_ n9_ n10_; (try clear hb); (try clear hb2); (try clear hk); (try clear hi)))
                go_ret
                exact ⟨by first | rfl | (simp [errW_none, errW_some] <;> rfl) | (simp [*, errW_none, errW_some] <;> rfl), by repeat (first | (with_reducible first | exact HB.out | apply below_alloc | apply pw_below_drewN | apply below_drew1 | refine below_set ?_ GE265.out | refine below_set ?_ GE266.out | refine below_set ?_ GE278.out | refine below_set ?_ GE282.out | refine below_set ?_ GE290.out | refine below_set ?_ GE312.out) | exact HB.out)⟩
          ·rw [if_neg c122] at H
           have c122b0 : (t301 == t299) = false := beq_eq_false_iff_ne.mpr c122
           have c122b1 : (t301 != t299) = true := bne_iff_ne.mpr c122
           obtain rfl := Option.some.inj H
           have hnb195 := NB290_265.out
           have hnc195 := NB265_290.out
           have hnb196 := NB290_266.out
           have hnc196 := NB266_290.out
           have hnb197 := NB290_278.out
           have hnc197 := NB278_290.out
           have hnb198 := NB290_282.out
           have hnc198 := NB282_290.out
           have hcz199_0 : wc.cell? ⟨gb290, 0, none⟩ = some (.slice Ao47 t286.length co47) := (blk_cell BK290.out 0).trans rfl
           have hfz199_0 := blk_frozen BK290.out 0
           go_wp2_with (first | ((with_reducible refine gate_callee (f := 50) rfl ?_); refine goesL_ (some 74) rfl rfl Tryd.func50 (by kernel_rfl) rfl #[.agg #[.slice Ao47 t286.length co47], .int .i64 1] rfl (by (try simp only [List.map_toArray, List.map_cons, List.map_nil]); first | done | rfl | (simp only [List.length_drop, List.length_take]; rfl)) ?_; (with_reducible refine (laws_markTree.calls kj75 (fun k_ => some k_ = (.slice Ao47 t286.length co47 : Value).ownBlock) (.slice Ao47 t286.length co47) t286 1 t299 t300 w _ ?side1 ?side2 A111.out).mono ?_); (case side1 => repeat (first | (with_reducible first | exact HB.out | apply below_alloc | apply pw_below_drewN | apply below_drew1 | refine below_set ?_ GE265.out | refine below_set ?_ GE266.out | refine below_set ?_ GE278.out | refine below_set ?_ GE282.out | refine below_set ?_ GE290.out) | exact HB.out)); (case side2 => exact Kd.R_tight rfl HO_291000.out); rintro e w200 ⟨rfl, hy0, hb, hkp⟩; refine ⟨_, rfl, ?_⟩; have n0_ := Aside0.mk (Kd.R_mono (ok' := fun k_ => some k_ ≠ (.slice Ao36 t297.length co36 : Value).ownBlock ∧ some k_ ≠ (.slice Ao47 t286.length co47 : Value).ownBlock) (Kd.R_keptB (HO_279000.out) hkp (fun k_ hk_ hs_ => (hk_.2) hs_)) (fun k_ hk_ => ⟨hk_.1.1, hk_.1.2⟩)); have n1_ := Aside0.mk (Kd.R_mono (ok' := fun k_ => some k_ ≠ (.slice Ao30 t274.length co30 : Value).ownBlock ∧ some k_ ≠ (.slice Ao47 t286.length co47 : Value).ownBlock) (Kd.R_keptB (HO_283000.out) hkp (fun k_ hk_ hs_ => (hk_.2) hs_)) (fun k_ hk_ => ⟨hk_.1.1, hk_.1.2⟩)); have n2_ := Aside0.mk (Kd.R_reok rfl hy0 (fun k_ e_ => HO_291000.out.1 k_ e_)); have n3_ := Aside0.mk (blk_kept (bkD BK265) hkp (fun hs_ => (fun e_ => (Kd.R_ne HO_291000.out BK265.out (by decide)) e_) hs_)); have n4_ := Aside0.mk (blk_kept (bkD BK266) hkp (fun hs_ => (fun e_ => (Kd.R_ne HO_291000.out BK266.out (by decide)) e_) hs_)); have n5_ := Aside0.mk (blk_kept (bkD BK278) hkp (fun hs_ => (fun e_ => (Kd.R_ne HO_291000.out BK278.out (by decide)) e_) hs_)); have n6_ := Aside0.mk (blk_kept (bkD BK282) hkp (fun hs_ => (fun e_ => (Kd.R_ne HO_291000.out BK282.out (by decide)) e_) hs_)); have n7_ := Aside0.mk (blk_kept (bkD BK290) hkp (fun hs_ => (fun e_ => (Kd.R_ne HO_291000.out BK290.out (by decide)) e_) hs_)); have n8_ := Aside0.mk (hb); clear HO_279000 HO_283000 HO_291000 BK265 BK266 BK278 BK282 BK290 HB; have HO_279000 := n0_; have HO_283000 := n1_; have HO_291000 := n2_; have BK265 := n3_; have BK266 := n4_; have BK278 := n5_; have BK282 := n6_; have BK290 := n7_; have HB := n8_; clear n0_ n1_ n2_ n3_ n4_ n5_ n6_ n7_ n8_; (try clear hb); (try clear hkp); (try clear hy0); have hcz201_0 : w200.cell? ⟨gb290, 0, none⟩ = some (.slice Ao47 t286.length co47) := (blk_cell BK290.out 0).trans rfl; have hfz201_0 := blk_frozen BK290.out 0) | ((with_reducible refine gate_callee (f := 51) rfl ?_); refine goesL_ (some 77) rfl rfl Tryd.func51 (by kernel_rfl) rfl #[.agg #[.slice Ao47 t300.length co47], .int .i64 1] rfl (by (try simp only [List.map_toArray, List.map_cons, List.map_nil]); first | done | (rw [show t300.length = t286.length from (Kd.R_reads' HO_291000.out).1.symm] <;> rfl) | rfl | (simp only [List.length_drop, List.length_take]; rfl)) ?_; (with_reducible refine (laws_heldTree.calls kj75 _ _ t300 1 t301 _ ?side1 ?side2 A112.out).mono ?_); (case side1 => repeat (first | exact (Kd.R_reads' HO_291000.out).2.2 | (with_reducible refine Kd.C_alloc ?_ _) | (with_reducible refine Kd.C_drewN ?_ _) | (with_reducible refine Kd.C_drew ?_))); (case side2 => rw [show t300.length = t286.length from (Kd.R_reads' HO_291000.out).1.symm]; exact (Kd.R_reads' HO_291000.out).2.1); rintro e w202 ⟨rfl, hb⟩; refine ⟨_, rfl, ?_⟩; have n0_ := Aside0.mk (Kd.R_below (rD HO_279000.out) hb); have n1_ := Aside0.mk (Kd.R_below (rD HO_283000.out) hb); have n2_ := Aside0.mk (Kd.R_below (rD HO_291000.out) hb); have n3_ := Aside0.mk (blk_below (bkD BK265) hb); have n4_ := Aside0.mk (blk_below (bkD BK266) hb); have n5_ := Aside0.mk (blk_below (bkD BK278) hb); have n6_ := Aside0.mk (blk_below (bkD BK282) hb); have n7_ := Aside0.mk (blk_below (bkD BK290) hb); have n8_ := Aside0.mk (below_step (hbD HB) hb); clear HO_279000 HO_283000 HO_291000 BK265 BK266 BK278 BK282 BK290 HB; have HO_279000 := n0_; have HO_283000 := n1_; have HO_291000 := n2_; have BK265 := n3_; have BK266 := n4_; have BK278 := n5_; have BK282 := n6_; have BK290 := n7_; have HB := n8_; clear n0_ n1_ n2_ n3_ n4_ n5_ n6_ n7_ n8_; (try clear hb); (try clear hb2); (try clear hk); (try clear hi)))
           go_ret
           exact ⟨by first | rfl | (simp [errW_none, errW_some] <;> rfl) | (simp [*, errW_none, errW_some] <;> rfl), by repeat (first | (with_reducible first | exact HB.out | apply below_alloc | apply pw_below_drewN | apply below_drew1 | refine below_set ?_ GE265.out | refine below_set ?_ GE266.out | refine below_set ?_ GE278.out | refine below_set ?_ GE282.out | refine below_set ?_ GE290.out) | exact HB.out)⟩
     ·replace c74 := Bool.eq_false_iff.mpr c74
      subst c74
      have H1 : (some false) = some r := by rw [if_neg (show ¬ (false = true) by decide)] at H; exact H
      clear H
      have H := H1
      clear H1
      obtain rfl := Option.some.inj H
      try go_wp2
      have n0_ := Aside0.mk (Kd.R_drew HO_279000.out)
      have n1_ := Aside0.mk (Kd.R_drew HO_283000.out)
      have n2_ := Aside0.mk (Kd.R_drew HO_291000.out)
      have n3_ := Aside0.mk (blk_drew BK265.out)
      have n4_ := Aside0.mk (blk_drew BK266.out)
      have n5_ := Aside0.mk (blk_drew BK278.out)
      have n6_ := Aside0.mk (blk_drew BK282.out)
      have n7_ := Aside0.mk (blk_drew BK290.out)
      have n8_ := Aside0.mk (below_drew1 HB.out)
      clear HO_279000 HO_283000 HO_291000 BK265 BK266 BK278 BK282 BK290 HB
      have HO_279000 := n0_
      have HO_283000 := n1_
      have HO_291000 := n2_
      have BK265 := n3_
      have BK266 := n4_
      have BK278 := n5_
      have BK282 := n6_
      have BK290 := n7_
      have HB := n8_
      clear n0_ n1_ n2_ n3_ n4_ n5_ n6_ n7_ n8_
      refine start_ (n := 5) (S := fun w' => w'.cell? ⟨gb282, 0, none⟩ = some (.slice Ao36 t279.length co36) ∧ w'.cell? ⟨gb265, 0, none⟩ = some (.slice A0_0 l0_0.length c0_0)) (ds := []) #[false, false, false, false, false] (by kernel_rfl) rfl rfl ⟨(blk_cell BK282.out 0).trans rfl, (blk_cell BK265.out 0).trans rfl⟩ (fun hHeld => ?_)
      generalize wc.drew = w203 at HO_279000 HO_283000 HO_291000 BK265 BK266 BK278 BK282 BK290 HB hHeld ⊢
      refine take_ (i := 0) (N := some 51) (v := ?_) (a' := ?_) #[true, false, false, false, false] rfl rfl (by kernel_rfl) (fun _ _ _ h => h) (Or.inl ⟨by rfl, ?_⟩) hHeld ?_ ?_
      rotate_left
      ·rintro w' ⟨s0, s1⟩
       go_simp
       with_reducible rfl
      rotate_left
      ·simp only [Act.put, List.setIfInBounds_toArray, List.set_cons_zero, List.set_cons_succ, i64_w, i32_w]
       rfl
      refine take_ (i := 1) (N := some 52) (v := ?_) (a' := ?_) #[true, true, false, false, false] rfl rfl (by kernel_rfl) (fun _ _ _ h => h) (Or.inl ⟨by rfl, ?_⟩) hHeld ?_ ?_
      rotate_left
      ·rintro w' ⟨s0, s1⟩
       go_simp
       with_reducible rfl
      rotate_left
      ·simp only [Act.put, List.setIfInBounds_toArray, List.set_cons_zero, List.set_cons_succ, i64_w, i32_w]
       rfl
      refine one_ (i := 2) (N := some 53) #[true, true, true, false, false] rfl rfl (by kernel_rfl) (by decide) (fun K hK => ?_)
      refine goes_ Tryd.func17 (by kernel_rfl) rfl #[.agg #[.slice A0_0 l0_0.length c0_0]] (by rfl) rfl rfl (by (try simp only [List.map_toArray, List.map_cons, List.map_nil]); first | done | rfl | (simp only [List.length_drop, List.length_take]; rfl)) ?_
      with_reducible refine (laws_toTree.calls kj16 _ _ l0_0 t292 _ ?side1 ?side2 A72.out).mono ?_
      (case side1 => repeat (first | exact (Kd.C_below HR0_0.out HB.out) | (with_reducible refine Kd.C_alloc ?_ _) | (with_reducible refine Kd.C_drewN ?_ _) | (with_reducible refine Kd.C_drew ?_)))
      (case side2 => exact HC0_0.out)
      rintro e w204 ⟨v293, rfl, ho0, hb⟩
      refine ⟨_, rfl, ?_⟩
      have n0_ := Aside0.mk (Kd.R_elder' (rD HO_279000.out) (Kd.R_base ho0) hb)
      have n1_ := Aside0.mk (Kd.R_elder' (rD HO_283000.out) (Kd.R_base ho0) hb)
      have n2_ := Aside0.mk (Kd.R_elder' (rD HO_291000.out) (Kd.R_base ho0) hb)
      have n3_ := Aside0.mk (Kd.R_lower (Kd.R_new' (Kd.R_new' (Kd.R_new' ho0 (Kd.R_lt (rD HO_279000.out))) (Kd.R_lt (rD HO_283000.out))) (Kd.R_lt (rD HO_291000.out))) (below_size (hbD HB)))
      have n4_ := Aside0.mk (blk_below (bkD BK265) hb)
      have n5_ := Aside0.mk (blk_below (bkD BK266) hb)
      have n6_ := Aside0.mk (blk_below (bkD BK278) hb)
      have n7_ := Aside0.mk (blk_below (bkD BK282) hb)
      have n8_ := Aside0.mk (blk_below (bkD BK290) hb)
      have n9_ := Aside0.mk (below_step (hbD HB) hb)
      clear HO_279000 HO_283000 HO_291000 BK265 BK266 BK278 BK282 BK290 HB
      have HO_279000 := n0_
      have HO_283000 := n1_
      have HO_291000 := n2_
      have HO294 := n3_
      have BK265 := n4_
      have BK266 := n5_
      have BK278 := n6_
      have BK282 := n7_
      have BK290 := n8_
      have HB := n9_
      clear n0_ n1_ n2_ n3_ n4_ n5_ n6_ n7_ n8_ n9_
      (try clear hb)
      (try clear hb2)
      (try clear hk)
      (try clear hi)
      (try clear ho0)
      obtain ⟨Ao205, co205, eo205⟩ := Kd.R_slice HO294.out
      (first | subst eo205 | (injection eo205 with f1_ f2_ f3_; have f4_ := f1_.symm; have f5_ := f3_.symm; clear f1_ f2_ f3_; subst f4_; subst f5_))
      refine hK.out _ _ ⟨(blk_cell BK282.out 0).trans rfl, (blk_cell BK265.out 0).trans rfl⟩ (fun hHeld => ?_)
      clear hK K
      refine norm_ (a' := ?_) ?_ ?_
      rotate_left
      ·show Act.put _ (some 53) _ = _
       simp only [Act.put, List.setIfInBounds_toArray, List.set_cons_zero, List.set_cons_succ, i64_w, i32_w]
       rfl
      refine one_ (i := 3) (N := some 54) #[true, true, true, true, false] rfl rfl (by kernel_rfl) (by decide) (fun K hK => ?_)
      refine goes_ Tryd.func19 (by kernel_rfl) rfl #[.agg #[.slice Ao36 t279.length co36], .agg #[.slice Ao205 t292.length co205]] (by rfl) rfl rfl (by (try simp only [List.map_toArray, List.map_cons, List.map_nil]); first | done | rfl | (simp only [List.length_drop, List.length_take]; rfl)) ?_
      with_reducible refine (laws_eqTree.calls kj16 _ _ t279 _ _ t292 false _ ?side1 ?side2 ?side3 ?side4 A73.out).mono ?_
      (case side1 => repeat (first | exact (Kd.R_reads' HO_283000.out).2.2 | (with_reducible refine Kd.C_alloc ?_ _) | (with_reducible refine Kd.C_drewN ?_ _) | (with_reducible refine Kd.C_drew ?_)))
      (case side2 => exact (Kd.R_reads' HO_283000.out).2.1)
      (case side3 => repeat (first | exact (Kd.R_reads' HO294.out).2.2 | (with_reducible refine Kd.C_alloc ?_ _) | (with_reducible refine Kd.C_drewN ?_ _) | (with_reducible refine Kd.C_drew ?_)))
      (case side4 => exact (Kd.R_reads' HO294.out).2.1)
      rintro e w206 ⟨rfl, hb⟩
      refine ⟨_, rfl, ?_⟩
      have n0_ := Aside0.mk (Kd.R_below (rD HO_279000.out) hb)
      have n1_ := Aside0.mk (Kd.R_below (rD HO_283000.out) hb)
      have n2_ := Aside0.mk (Kd.R_below (rD HO_291000.out) hb)
      have n3_ := Aside0.mk (Kd.R_below (rD HO294.out) hb)
      have n4_ := Aside0.mk (blk_below (bkD BK265) hb)
      have n5_ := Aside0.mk (blk_below (bkD BK266) hb)
      have n6_ := Aside0.mk (blk_below (bkD BK278) hb)
      have n7_ := Aside0.mk (blk_below (bkD BK282) hb)
      have n8_ := Aside0.mk (blk_below (bkD BK290) hb)
      have n9_ := Aside0.mk (below_step (hbD HB) hb)
      clear HO_279000 HO_283000 HO_291000 HO294 BK265 BK266 BK278 BK282 BK290 HB
      have HO_279000 := n0_
      have HO_283000 := n1_
      have HO_291000 := n2_
      have HO294 := n3_
      have BK265 := n4_
      have BK266 := n5_
      have BK278 := n6_
      have BK282 := n7_
      have BK290 := n8_
      have HB := n9_
      clear n0_ n1_ n2_ n3_ n4_ n5_ n6_ n7_ n8_ n9_
      (try clear hb)
      (try clear hb2)
      (try clear hk)
      (try clear hi)
      refine hK.out _ _ ⟨(blk_cell BK282.out 0).trans rfl, (blk_cell BK265.out 0).trans rfl⟩ (fun hHeld => ?_)
      clear hK K
      refine norm_ (a' := ?_) ?_ ?_
      rotate_left
      ·show Act.put _ (some 54) _ = _
       simp only [Act.put, List.setIfInBounds_toArray, List.set_cons_zero, List.set_cons_succ, i64_w, i32_w]
       rfl
      refine pure_ (i := 4) (N := some 55) (v := ?_) (a' := ?_) #[true, true, true, true, true] rfl rfl (by kernel_rfl) (fun _ _ _ h => h) (Or.inl ⟨by rfl, ?_⟩) ?_ ?_
      rotate_left
      ·intro w'
       go_simp
       with_reducible rfl
      rotate_left
      ·simp only [Act.put, List.setIfInBounds_toArray, List.set_cons_zero, List.set_cons_succ, i64_w, i32_w]
       rfl
      refine done_ (by kernel_rfl) ?_
      try go_wp2
      go_ret
      exact ⟨by first | rfl | (simp [errW_none, errW_some] <;> rfl) | (simp [*, errW_none, errW_some] <;> rfl), by repeat (first | (with_reducible first | exact HB.out | apply below_alloc | apply pw_below_drewN | apply below_drew1 | refine below_set ?_ GE265.out | refine below_set ?_ GE266.out | refine below_set ?_ GE278.out | refine below_set ?_ GE282.out | refine below_set ?_ GE290.out) | exact HB.out)⟩

end Go.Proofs.YtciabhncmdpeeaaDoor.QFnExactTreeInsert
