/- What the law FnStore reaches: each function as a plain function, and that the machine's call does it (written by a program). The condition, where there is one: errors.errorType reads as laid. -/
import Derived.Test.YtefdjajmnkmbgaaDoorQFnStorex0
import Derived.Test.YtefdjajmnkmbgaaDoorQFnStorex1
import Derived.Test.YtefdjajmnkmbgaaDoorQFnStorex3
import Derived.Test.YtefdjajmnkmbgaaDoorQFnStorex5
import Derived.Test.YtefdjajmnkmbgaaDoorQFnStorex6
namespace Go.Proofs.YtefdjajmnkmbgaaDoor.QFnStore
open Go.Proofs.YtefdjajmnkmbgaaDoor.Er
open Go.RowKit Go.Proofs.YtefdjajmnkmbgaaDoorW.PrintWords Go.Proofs.YtefdjajmnkmbgaaDoorW.PrintLast Go.Proofs.YtefdjajmnkmbgaaDoorW.PrintMore
attribute [local go_sem] max2_int min2_int max_two min_two max_three min_three max_four min_four   -- for this text's walks alone
set_option linter.unusedVariables false
set_option linter.unusedSimpArgs false

/-! ### laws_FnStore: function 4 -/
mutual
def laws_FnStore.l0 : Nat → List Int → List Int → List (S42) → List (List Int) → Int → List Int → Int → Int → Option (Bool)
  | 0, _, _, _, _, _, _, _, _ => none
  | k + 1, x0, x4, x5, x6, x7, x331000, x331001, x331002 => if x7 > 0 then ((spec_L1Size.f x0 40).bind fun t348 => ((spec_l1Src_N.f x331000 x331001 x331002 t348).bind fun bt349 => ((spec_L1Bytes.f k x331000 bt349.2.1 bt349.2.2 bt349.1).bind fun bt352 => ((some (([] : List Int) : List Int)).bind fun y357 => (if y357.length + bt352.1.length < 140737488355328 then ((impl_StoreAppend.f x4 (y357 ++ bt352.1)).bind fun bt363 => (if bt363.2.2.2 = 0 then (if x5.length < 8796093022208 then (if x6.length < 5864062014805 then (laws_FnStore.l0 k x0 bt363.1 (x5 ++ [(⟨bt363.2.1, bt363.2.2.1⟩ : S42)]) (x6 ++ [bt352.1]) (wrap64 (x7 - 1)) x331000 bt352.2.1 bt352.2.2) else (none)) else (none)) else (some false))) else (none)))))) else (laws_FnStore.l1 k x4 x6 x5 (x5.length : Int) 0)
def laws_FnStore.l1 : Nat → List Int → List (List Int) → List (S42) → Int → Int → Option (Bool)
  | 0, _, _, _, _, _ => none
  | k + 1, x4, x6, x65, x66, x67 => if x67 < x66 then (if 0 ≤ x67 then (if x67 < (x65.length : Int) then ((laws_cpText.f x4).bind fun t378 => ((impl_StoreRead.f t378 ((rd_T42 x65 x67).f0) ((rd_T42 x65 x67).f1)).bind fun bt381 => (if x67 < (x6.length : Int) then ((spec_DecodeText.f k (rd_L4 x6 x67)).bind fun t387 => (laws_FnStore.l2 k x4 x6 bt381.1 bt381.2.1 bt381.2.2 t387 0 x65 x66 x67 t387 (t387.length : Int) 0)) else (none)))) else (none)) else (none)) else (some true)
def laws_FnStore.l2 : Nat → List Int → List (List Int) → List Int → Int → Int → List Int → Int → List (S42) → Int → Int → List Int → Int → Int → Option (Bool)
  | 0, _, _, _, _, _, _, _, _, _, _, _, _, _ => none
  | k + 1, x4, x6, x14, x15, x16, x17, x18, x65, x66, x67, x85, x86, x87 => if x87 < x86 then (if 0 ≤ x87 then (if x87 < (x85.length : Int) then (if (rd x85 x87) = 10 then (laws_FnStore.l2 k x4 x6 x14 x15 x16 x17 (wrap64 (x18 + 1)) x65 x66 x67 x85 x86 (wrap64 (x87 + 1))) else (laws_FnStore.l2 k x4 x6 x14 x15 x16 x17 x18 x65 x66 x67 x85 x86 (wrap64 (x87 + 1)))) else (none)) else (none)) else (if x16 = 0 then ((laws_smText.f k x14 x17).bind fun t391 => (if t391 = true then (if x15 = x18 then (laws_FnStore.l1 k x4 x6 x65 x66 (wrap64 (x67 + 1))) else (some false)) else (some false))) else (some false))
end
def laws_FnStore.f (k : Nat) (l0 : List Int) : Option (Bool) := if (l0.length : Int) > 1048576 then (some true) else ((spec_L1Draw.f l0).bind fun bt327 => ((spec_l1Src_N.f bt327.1 bt327.2.1 bt327.2.2 30).bind fun bt331 => ((spec_L1Text.f k bt327.1 bt331.2.1 bt331.2.2 bt331.1).bind fun bt334 => ((spec_l1Src_N.f bt327.1 bt334.2.1 bt334.2.2 8).bind fun bt345 => (laws_FnStore.l0 k l0 bt334.1 (([] : List (S42))) (([] : List (List Int))) (wrap64 (1 + bt345.1)) bt327.1 bt345.2.1 bt345.2.2)))))
theorem laws_FnStore.mono_l : ∀ k, (∀ y0 y1 y2 y3 y4 y5 y6 y7, LeO (laws_FnStore.l0 k y0 y1 y2 y3 y4 y5 y6 y7) (laws_FnStore.l0 (k + 1) y0 y1 y2 y3 y4 y5 y6 y7)) ∧ (∀ y0 y1 y2 y3 y4, LeO (laws_FnStore.l1 k y0 y1 y2 y3 y4) (laws_FnStore.l1 (k + 1) y0 y1 y2 y3 y4)) ∧ (∀ y0 y1 y2 y3 y4 y5 y6 y7 y8 y9 y10 y11 y12, LeO (laws_FnStore.l2 k y0 y1 y2 y3 y4 y5 y6 y7 y8 y9 y10 y11 y12) (laws_FnStore.l2 (k + 1) y0 y1 y2 y3 y4 y5 y6 y7 y8 y9 y10 y11 y12))
  | 0 => ⟨fun _ _ _ _ _ _ _ _ r h => by simp [laws_FnStore.l0] at h, fun _ _ _ _ _ r h => by simp [laws_FnStore.l1] at h, fun _ _ _ _ _ _ _ _ _ _ _ _ _ r h => by simp [laws_FnStore.l2] at h⟩
  | k + 1 => by
    obtain ⟨ih0, ih1, ih2⟩ := laws_FnStore.mono_l k
    refine ⟨?_, ?_, ?_⟩
    · intro y0 y1 y2 y3 y4 y5 y6 y7
      unfold laws_FnStore.l0
      repeat' first
      | (with_reducible exact ih0 _ _ _ _ _ _ _ _)
      | (with_reducible exact ih1 _ _ _ _ _)
      | (with_reducible exact ih2 _ _ _ _ _ _ _ _ _ _ _ _ _)
      | (with_reducible exact laws_smText.mono _ _ _)
      | (with_reducible exact spec_DecodeText.mono _ _)
      | (with_reducible exact spec_L1Bytes.mono _ _ _ _ _)
      | (with_reducible exact spec_L1Text.mono _ _ _ _ _)
      | (with_reducible exact LeO.refl _)
      | (with_reducible exact LeO.none _)
      | (with_reducible refine LeO.ite ?_ ?_)
      | (with_reducible refine LeO.bind ?_ (fun _ => ?_))
      | exact ih0 _ _ _ _ _ _ _ _
      | exact ih1 _ _ _ _ _
      | exact ih2 _ _ _ _ _ _ _ _ _ _ _ _ _
      | exact laws_smText.mono _ _ _
      | exact spec_DecodeText.mono _ _
      | exact spec_L1Bytes.mono _ _ _ _ _
      | exact spec_L1Text.mono _ _ _ _ _
      | exact LeO.none _
      | refine LeO.ite ?_ ?_
      | refine LeO.bind ?_ (fun _ => ?_)
    · intro y0 y1 y2 y3 y4
      unfold laws_FnStore.l1
      repeat' first
      | (with_reducible exact ih0 _ _ _ _ _ _ _ _)
      | (with_reducible exact ih1 _ _ _ _ _)
      | (with_reducible exact ih2 _ _ _ _ _ _ _ _ _ _ _ _ _)
      | (with_reducible exact laws_smText.mono _ _ _)
      | (with_reducible exact spec_DecodeText.mono _ _)
      | (with_reducible exact spec_L1Bytes.mono _ _ _ _ _)
      | (with_reducible exact spec_L1Text.mono _ _ _ _ _)
      | (with_reducible exact LeO.refl _)
      | (with_reducible exact LeO.none _)
      | (with_reducible refine LeO.ite ?_ ?_)
      | (with_reducible refine LeO.bind ?_ (fun _ => ?_))
      | exact ih0 _ _ _ _ _ _ _ _
      | exact ih1 _ _ _ _ _
      | exact ih2 _ _ _ _ _ _ _ _ _ _ _ _ _
      | exact laws_smText.mono _ _ _
      | exact spec_DecodeText.mono _ _
      | exact spec_L1Bytes.mono _ _ _ _ _
      | exact spec_L1Text.mono _ _ _ _ _
      | exact LeO.none _
      | refine LeO.ite ?_ ?_
      | refine LeO.bind ?_ (fun _ => ?_)
    · intro y0 y1 y2 y3 y4 y5 y6 y7 y8 y9 y10 y11 y12
      unfold laws_FnStore.l2
      repeat' first
      | (with_reducible exact ih0 _ _ _ _ _ _ _ _)
      | (with_reducible exact ih1 _ _ _ _ _)
      | (with_reducible exact ih2 _ _ _ _ _ _ _ _ _ _ _ _ _)
      | (with_reducible exact laws_smText.mono _ _ _)
      | (with_reducible exact spec_DecodeText.mono _ _)
      | (with_reducible exact spec_L1Bytes.mono _ _ _ _ _)
      | (with_reducible exact spec_L1Text.mono _ _ _ _ _)
      | (with_reducible exact LeO.refl _)
      | (with_reducible exact LeO.none _)
      | (with_reducible refine LeO.ite ?_ ?_)
      | (with_reducible refine LeO.bind ?_ (fun _ => ?_))
      | exact ih0 _ _ _ _ _ _ _ _
      | exact ih1 _ _ _ _ _
      | exact ih2 _ _ _ _ _ _ _ _ _ _ _ _ _
      | exact laws_smText.mono _ _ _
      | exact spec_DecodeText.mono _ _
      | exact spec_L1Bytes.mono _ _ _ _ _
      | exact spec_L1Text.mono _ _ _ _ _
      | exact LeO.none _
      | refine LeO.ite ?_ ?_
      | refine LeO.bind ?_ (fun _ => ?_)
theorem laws_FnStore.mono : ∀ a0 k, LeO (laws_FnStore.f k a0) (laws_FnStore.f (k + 1) a0) := by
  intro a0 k
  obtain ⟨ih0, ih1, ih2⟩ := laws_FnStore.mono_l k
  unfold laws_FnStore.f
  repeat' first
      | (with_reducible exact ih0 _ _ _ _ _ _ _ _)
      | (with_reducible exact ih1 _ _ _ _ _)
      | (with_reducible exact ih2 _ _ _ _ _ _ _ _ _ _ _ _ _)
      | (with_reducible exact laws_smText.mono _ _ _)
      | (with_reducible exact spec_DecodeText.mono _ _)
      | (with_reducible exact spec_L1Bytes.mono _ _ _ _ _)
      | (with_reducible exact spec_L1Text.mono _ _ _ _ _)
      | (with_reducible exact LeO.refl _)
      | (with_reducible exact LeO.none _)
      | (with_reducible refine LeO.ite ?_ ?_)
      | (with_reducible refine LeO.bind ?_ (fun _ => ?_))
      | exact ih0 _ _ _ _ _ _ _ _
      | exact ih1 _ _ _ _ _
      | exact ih2 _ _ _ _ _ _ _ _ _ _ _ _ _
      | exact laws_smText.mono _ _ _
      | exact spec_DecodeText.mono _ _
      | exact spec_L1Bytes.mono _ _ _ _ _
      | exact spec_L1Text.mono _ _ _ _ _
      | exact LeO.none _
      | refine LeO.ite ?_ ?_
      | refine LeO.bind ?_ (fun _ => ?_)
def laws_FnStore.T20 : Bool × List (List Nat × List Nat) := (true, [([], []), ([0], [0]), ([], []), ([1, 2, 1], [1, 2]), ([3], [3]), ([4], [4]), ([4], [4]), ([4], [4]), ([5, 3, 0, 1, 2, 3, 4, 5], [5]), ([6, 8, 0, 1, 2, 3, 4, 5, 6, 8], [6]), ([7, 9, 0, 1, 2, 3, 4, 5, 6, 7, 8, 9], [7])])
def laws_FnStore.B20 : List Nat := [0, 1, 0, 7, 15, 31, 31, 31, 63, 383, 1023]
theorem laws_FnStore.tab20 : rtab .any (opsOf Tryd.f4 20) = laws_FnStore.T20 := by kernel_rfl
theorem laws_FnStore.bits20 : waitsOk laws_FnStore.T20.2 laws_FnStore.B20 = true := by kernel_rfl
set_option maxHeartbeats 8000000 in
set_option maxRecDepth 100000 in
theorem laws_FnStore.calls (k : Nat) (A0 : Option Addr) (c0 : Nat) (l0 : List Int) (r : Bool) (w : World) (hr0 : Kd.C (Kd.int .u8) w A0 l0.length l0) (hc0 : l0.length ≤ c0)  (hgG_ : HG w) (h : laws_FnStore.f k l0 = some r) :
    Calls Tryd.prog 4 #[.slice A0 l0.length c0] w fun e w' => e = .returned (.bool r) ∧ Below w.heap.size w w' := by
  have hu42 := Tryd.underlying42
  have HR0 := Aside0.mk hr0
  have HC0 := Aside0.mk hc0
  clear hr0 hc0
  have HB := Aside0.mk (Below.refl w.heap.size w)
  have H : (if (l0.length : Int) > 1048576 then (some true) else ((spec_L1Draw.f l0).bind fun bt327 => ((spec_l1Src_N.f bt327.1 bt327.2.1 bt327.2.2 30).bind fun bt331 => ((spec_L1Text.f k bt327.1 bt331.2.1 bt331.2.2 bt331.1).bind fun bt334 => ((spec_l1Src_N.f bt327.1 bt334.2.1 bt334.2.2 8).bind fun bt345 => (laws_FnStore.l0 k l0 bt334.1 (([] : List (S42))) (([] : List (List Int))) (wrap64 (1 + bt345.1)) bt327.1 bt345.2.1 bt345.2.2)))))) = some r := h
  clear h
  by_cases c2 : (l0.length : Int) > 1048576
  · rw [if_pos c2] at H
    have c2b0 : decide (1048576 < (l0.length : Int)) = true := decide_eq_true c2
    have c2b1 : decide (1048576 < l0.length) = true := decide_eq_true (by omega)
    clear c2
    obtain rfl := Option.some.inj H
    go_enter Tryd.func4, Tryd.ntmps4
    go_wp2
    go_ret
    exact ⟨by first | rfl | (simp [errW_none, errW_some] <;> rfl) | (simp [*, errW_none, errW_some] <;> rfl), by repeat (first | (with_reducible first | exact HB.out | apply below_alloc | apply pw_below_drewN | apply below_drew1) | exact HB.out)⟩
  · rw [if_neg c2] at H
    have c2b0 : decide (1048576 < (l0.length : Int)) = false := decide_eq_false c2
    have c2b1 : decide (1048576 < l0.length) = false := decide_eq_false (by omega)
    clear c2
    replace H := Option.bind_eq_some_iff.mp H
    obtain ⟨⟨t327, t328, t329⟩, A30, H⟩ := H
    replace H : ((spec_l1Src_N.f t327 t328 t329 30).bind fun bt331 => ((spec_L1Text.f k t327 bt331.2.1 bt331.2.2 bt331.1).bind fun bt334 => ((spec_l1Src_N.f t327 bt334.2.1 bt334.2.2 8).bind fun bt345 => (laws_FnStore.l0 k l0 bt334.1 (([] : List (S42))) (([] : List (List Int))) (wrap64 (1 + bt345.1)) t327 bt345.2.1 bt345.2.2)))) = some r := H
    have A3 := Aside0.mk A30
    clear A30
    replace H := Option.bind_eq_some_iff.mp H
    obtain ⟨⟨t331, t332, t333⟩, A40, H⟩ := H
    replace H : ((spec_L1Text.f k t327 t332 t333 t331).bind fun bt334 => ((spec_l1Src_N.f t327 bt334.2.1 bt334.2.2 8).bind fun bt345 => (laws_FnStore.l0 k l0 bt334.1 (([] : List (S42))) (([] : List (List Int))) (wrap64 (1 + bt345.1)) t327 bt345.2.1 bt345.2.2))) = some r := H
    have A4 := Aside0.mk A40
    clear A40
    replace H := Option.bind_eq_some_iff.mp H
    obtain ⟨⟨t334, t337, t338⟩, A50, H⟩ := H
    replace H : ((spec_l1Src_N.f t327 t337 t338 8).bind fun bt345 => (laws_FnStore.l0 k l0 t334 (([] : List (S42))) (([] : List (List Int))) (wrap64 (1 + bt345.1)) t327 bt345.2.1 bt345.2.2)) = some r := H
    have A5 := Aside0.mk A50
    clear A50
    obtain ⟨y339, hy339⟩ : ∃ y_ : List (S42), y_ = (([] : List (S42))) := ⟨_, rfl⟩
    replace H : ((spec_l1Src_N.f t327 t337 t338 8).bind fun bt345 => (laws_FnStore.l0 k l0 t334 y339 (([] : List (List Int))) (wrap64 (1 + bt345.1)) t327 bt345.2.1 bt345.2.2)) = some r := by first | (rw [hy339]; with_reducible exact H) | (have H2_ := (Option.bind_some _ _).symm.trans H; rw [hy339]; with_reducible exact H2_) | (have H2_ := (Option.bind_some _ _).symm.trans H; with_reducible exact H2_) | with_reducible exact H | (rw [hy339]; exact H) | exact H
    have Ny339 := Aside0.mk hy339
    clear hy339
    obtain ⟨y342, hy342⟩ : ∃ y_ : List (List Int), y_ = (([] : List (List Int))) := ⟨_, rfl⟩
    replace H : ((spec_l1Src_N.f t327 t337 t338 8).bind fun bt345 => (laws_FnStore.l0 k l0 t334 y339 y342 (wrap64 (1 + bt345.1)) t327 bt345.2.1 bt345.2.2)) = some r := by first | (rw [hy342]; with_reducible exact H) | (have H2_ := (Option.bind_some _ _).symm.trans H; rw [hy342]; with_reducible exact H2_) | (have H2_ := (Option.bind_some _ _).symm.trans H; with_reducible exact H2_) | with_reducible exact H | (rw [hy342]; exact H) | exact H
    have Ny342 := Aside0.mk hy342
    clear hy342
    replace H := Option.bind_eq_some_iff.mp H
    obtain ⟨⟨t345, t346, t347⟩, A60, H⟩ := H
    replace H : (laws_FnStore.l0 k l0 t334 y339 y342 (wrap64 (1 + t345)) t327 t346 t347) = some r := H
    have A6 := Aside0.mk A60
    clear A60
    have H' := Aside0.mk H
    clear H
    go_enter Tryd.func4, Tryd.ntmps4
    go_wp2_with (first | ((with_reducible refine gate_callee (f := 17) rfl ?_); refine goesL_ (some 25) rfl rfl Tryd.func17 (by kernel_rfl) rfl #[.slice A0 l0.length c0] rfl (by (try simp only [List.map_toArray, List.map_cons, List.map_nil]); first | done | rfl | (simp only [List.length_drop, List.length_take]; rfl)) ?_; (with_reducible refine (spec_L1Draw.calls _ _ l0 t327 t328 t329 w _ ?side1 ?side2 ?side3 A3.out).mono ?_); (case side1 => repeat (first | (with_reducible first | exact HB.out | apply below_alloc | apply pw_below_drewN | apply below_drew1) | exact HB.out)); (case side2 => exact HR0.out); (case side3 => exact HC0.out); rintro e w7 ⟨g330, rfl, hi, hb, hb2⟩; refine ⟨_, rfl, ?_⟩; have n0_ := Aside0.mk (hb); have n1_ := Aside0.mk (hi); clear HB; have HB := n0_; have HI330 := n1_; clear n0_ n1_; (try clear hb); (try clear hb2); (try clear hk); (try clear hi)) | ((with_reducible refine gate_callee (f := 19) rfl ?_); refine goesL_ (some 28) rfl rfl Tryd.func19 (by kernel_rfl) rfl #[.pointer (some ⟨g330, 0, none⟩), .int .i64 30] rfl (by (try simp only [List.map_toArray, List.map_cons, List.map_nil]); first | done | rfl | (simp only [List.length_drop, List.length_take]; rfl)) ?_; (with_reducible refine (spec_l1Src_N.calls g330 t327 t328 t329 30 t331 t332 t333 w _ ?side1 ?side2 A4.out).mono ?_); (case side1 => repeat (first | (with_reducible first | exact HI330.out | apply IsS90.alloc | apply IsS90.drewN | apply IsS90.drew | apply IsS90.set_1 | apply IsS90.set_2) | exact HI330.out)); (case side2 => repeat (first | (with_reducible first | exact HB.out | apply below_alloc | apply pw_below_drewN | apply below_drew1 | refine below_set ?_ (IsS90.ge HI330.out)) | exact HB.out)); rintro e w8 ⟨rfl, hi, hb, hk⟩; refine ⟨_, rfl, ?_⟩; have n0_ := Aside0.mk (hb); have n1_ := Aside0.mk (hi); clear HB; clear HI330; have HB := n0_; have HI330 := n1_; clear n0_ n1_; (try clear hb); (try clear hb2); (try clear hk); (try clear hi)) | ((with_reducible refine gate_callee (f := 18) rfl ?_); refine goesL_ (some 29) rfl rfl Tryd.func18 (by kernel_rfl) rfl #[.pointer (some ⟨g330, 0, none⟩), .int .i64 t331] rfl (by (try simp only [List.map_toArray, List.map_cons, List.map_nil]); first | done | rfl | (simp only [List.length_drop, List.length_take]; rfl)) ?_; (with_reducible refine (spec_L1Text.calls k g330 t327 t332 t333 t331 t334 t337 t338 w _ ?side1 ?side2 A5.out).mono ?_); (case side1 => repeat (first | (with_reducible first | exact HI330.out | apply IsS90.alloc | apply IsS90.drewN | apply IsS90.drew | apply IsS90.set_1 | apply IsS90.set_2) | exact HI330.out)); (case side2 => repeat (first | (with_reducible first | exact HB.out | apply below_alloc | apply pw_below_drewN | apply below_drew1 | refine below_set ?_ (IsS90.ge HI330.out)) | exact HB.out)); rintro e w9 ⟨v335, rfl, ho0, hi, hb, hk⟩; refine ⟨_, rfl, ?_⟩; have n0_ := Aside0.mk (Kd.R_lower ho0 (below_size (by repeat (first | (with_reducible first | exact HB.out | apply below_alloc | apply pw_below_drewN | apply below_drew1 | refine below_set ?_ (IsS90.ge HI330.out)) | exact HB.out)))); have n1_ := Aside0.mk (hb); have n2_ := Aside0.mk (hi); clear HB; clear HI330; have HO336 := n0_; have HB := n1_; have HI330 := n2_; clear n0_ n1_ n2_; (try clear hb); (try clear hb2); (try clear hk); (try clear hi); (try clear ho0)) | ((with_reducible refine gate_dst (N := 30) rfl ?_); refine Kd.R_lit k42 _ 42 ?hg (N := 30) ?hd (xs := ([] : List (S42))) (inner := []) (ok := fun _ => True) (okp := fun _ => True) ?hr ?hp (fun _ hk => hk) trivial (Below.refl _ _) (Nat.le_refl _) (by simp) ?_; (case hd => rfl); (case hg => rfl); (case hr => first | (go_simp; done) | (go_simp; rfl)); (case hp => exact (Reps.none _ _)); intro v340 w10 ho11 hb hg_ hnew_; clear hg_ hnew_; (first | rw [← Ny339.out] at ho11 | (simp only [Int.reduceToNat] at ho11; rw [← Ny339.out] at ho11)); have n0_ := Aside0.mk (Kd.R_below (by (with_reducible repeat (first | apply Kd.R_alloc | apply Kd.R_drewN | apply Kd.R_drew)); exact HO336.out) hb); have n1_ := Aside0.mk (Kd.R_lower ho11 (below_size (by repeat (first | (with_reducible first | exact HB.out | apply below_alloc | apply pw_below_drewN | apply below_drew1 | refine below_set ?_ (IsS90.ge HI330.out)) | exact HB.out)))); have n2_ := Aside0.mk (IsS90.below (by repeat (first | (with_reducible first | exact HI330.out | apply IsS90.alloc | apply IsS90.drewN | apply IsS90.drew | apply IsS90.set_1 | apply IsS90.set_2) | exact HI330.out)) hb); have n3_ := Aside0.mk (below_step (by repeat (first | (with_reducible first | exact HB.out | apply below_alloc | apply pw_below_drewN | apply below_drew1 | refine below_set ?_ (IsS90.ge HI330.out)) | exact HB.out)) hb); clear HO336; clear HI330; clear HB; have HO336 := n0_; have HO341 := n1_; have HI330 := n2_; have HB := n3_; clear n0_ n1_ n2_ n3_; clear hb ho11) | ((with_reducible refine gate_dst (N := 31) rfl ?_); refine Kd.S_lit (Kd.slice 5 (Kd.int .u8)) _ 24 ?hg (N := 31) ?hd (xs := ([] : List (List Int))) (inner := []) (ok := fun _ => True) (okp := fun _ => True) ?hr ?hp (fun _ hk => hk) trivial (Below.refl _ _) (Nat.le_refl _) (by simp) ?_; (case hd => rfl); (case hg => rfl); (case hr => first | (go_simp; done) | (go_simp; rfl)); (case hp => exact (Reps.none _ _)); intro v343 w12 ho13 hb hg_ hnew_; clear hg_ hnew_; (first | rw [← Ny342.out] at ho13 | (simp only [Int.reduceToNat] at ho13; rw [← Ny342.out] at ho13)); have n0_ := Aside0.mk (Kd.R_below (by (with_reducible repeat (first | apply Kd.R_alloc | apply Kd.R_drewN | apply Kd.R_drew)); exact HO336.out) hb); have n1_ := Aside0.mk (Kd.R_below (by (with_reducible repeat (first | apply Kd.R_alloc | apply Kd.R_drewN | apply Kd.R_drew)); exact HO341.out) hb); have n2_ := Aside0.mk (Kd.S_lower ho13 (below_size (by repeat (first | (with_reducible first | exact HB.out | apply below_alloc | apply pw_below_drewN | apply below_drew1 | refine below_set ?_ (IsS90.ge HI330.out)) | exact HB.out)))); have n3_ := Aside0.mk (IsS90.below (by repeat (first | (with_reducible first | exact HI330.out | apply IsS90.alloc | apply IsS90.drewN | apply IsS90.drew | apply IsS90.set_1 | apply IsS90.set_2) | exact HI330.out)) hb); have n4_ := Aside0.mk (below_step (by repeat (first | (with_reducible first | exact HB.out | apply below_alloc | apply pw_below_drewN | apply below_drew1 | refine below_set ?_ (IsS90.ge HI330.out)) | exact HB.out)) hb); clear HO336; clear HO341; clear HI330; clear HB; have HO336 := n0_; have HO341 := n1_; have HO344 := n2_; have HI330 := n3_; have HB := n4_; clear n0_ n1_ n2_ n3_ n4_; clear hb ho13) | ((with_reducible refine gate_callee (f := 19) rfl ?_); refine goesL_ (some 33) rfl rfl Tryd.func19 (by kernel_rfl) rfl #[.pointer (some ⟨g330, 0, none⟩), .int .i64 8] rfl (by (try simp only [List.map_toArray, List.map_cons, List.map_nil]); first | done | rfl | (simp only [List.length_drop, List.length_take]; rfl)) ?_; (with_reducible refine (spec_l1Src_N.calls g330 t327 t337 t338 8 t345 t346 t347 w _ ?side1 ?side2 A6.out).mono ?_); (case side1 => repeat (first | (with_reducible first | exact HI330.out | apply IsS90.alloc | apply IsS90.drewN | apply IsS90.drew | apply IsS90.set_1 | apply IsS90.set_2) | exact HI330.out)); (case side2 => repeat (first | (with_reducible first | exact HB.out | apply below_alloc | apply pw_below_drewN | apply below_drew1 | refine below_set ?_ (IsS90.ge HI330.out)) | exact HB.out)); rintro e w14 ⟨rfl, hi, hb, hk⟩; refine ⟨_, rfl, ?_⟩; have n0_ := Aside0.mk (Kd.R_mono (Kd.R_keep (IsS90.apart (show IsS90 w _ g330 t327 t337 t338 from by repeat (first | (with_reducible first | exact HI330.out | apply IsS90.alloc | apply IsS90.drewN | apply IsS90.drew | apply IsS90.set_1 | apply IsS90.set_2) | exact HI330.out)) (by (with_reducible repeat (first | apply Kd.R_alloc | apply Kd.R_drewN | apply Kd.R_drew)); exact HO336.out) (by decide)) hk (fun _ h => h.2)) (fun _ h => h.1)); have n1_ := Aside0.mk (Kd.R_mono (Kd.R_keep (IsS90.apart (show IsS90 w _ g330 t327 t337 t338 from by repeat (first | (with_reducible first | exact HI330.out | apply IsS90.alloc | apply IsS90.drewN | apply IsS90.drew | apply IsS90.set_1 | apply IsS90.set_2) | exact HI330.out)) (by (with_reducible repeat (first | apply Kd.R_alloc | apply Kd.R_drewN | apply Kd.R_drew)); exact HO341.out) (by decide)) hk (fun _ h => h.2)) (fun _ h => h.1)); have n2_ := Aside0.mk (Kd.S_mono (Kd.S_keep (IsS90.apartS (show IsS90 w _ g330 t327 t337 t338 from by repeat (first | (with_reducible first | exact HI330.out | apply IsS90.alloc | apply IsS90.drewN | apply IsS90.drew | apply IsS90.set_1 | apply IsS90.set_2) | exact HI330.out)) (by (with_reducible repeat (first | apply Kd.S_alloc | apply Kd.S_drewN | apply Kd.S_drew)); exact HO344.out) (by decide)) hk (fun _ h => h.2)) (fun _ h => h.1)); have n3_ := Aside0.mk (hb); have n4_ := Aside0.mk (hi); clear HO336; clear HO341; clear HO344; clear HB; clear HI330; have HO336 := n0_; have HO341 := n1_; have HO344 := n2_; have HB := n3_; have HI330 := n4_; clear n0_ n1_ n2_ n3_ n4_; (try clear hb); (try clear hb2); (try clear hk); (try clear hi)))
    go_loopg [4, 5, 6, 7] k (fun kq v4 v5 v6 v7 w' => ∃ (x4_1 : List Int) (x5_1 : List (S42)) (x6_1 : List (List Int)) (x7_1 : Int) (x331001_1 : Int) (x331002_1 : Int), v7 = .int .i64 x7_1 ∧ Aside0 (laws_FnStore.l0 kq l0 x4_1 x5_1 x6_1 x7_1 t327 x331001_1 x331002_1 = some r) ∧ Aside0 (kq ≤ k) ∧ Aside0 (Kd.R (Kd.int .i32) 21 w' w.heap.size (fun _ => True) v4 x4_1) ∧ Aside0 (Kd.R k42 42 w' w.heap.size (fun _ => True) v5 x5_1) ∧ Aside0 (Kd.S (Kd.slice 5 (Kd.int .u8)) 24 w' w.heap.size (fun _ => True) v6 x6_1) ∧ Aside0 (IsS90 w w' g330 t327 x331001_1 x331002_1) ∧ Aside0 (Below w.heap.size w w'))
    case atStart => exact ⟨(t334), (y339), (y342), (wrap64 (1 + t345)), (t346), (t347), (by first | rfl | (simp; done) | (simp [*]; done)), H', ⟨Nat.le_refl _⟩, ⟨by (with_reducible repeat (first | apply Kd.R_alloc | apply Kd.R_drewN | apply Kd.R_drew)); exact HO336.out⟩, ⟨by (with_reducible repeat (first | apply Kd.R_alloc | apply Kd.R_drewN | apply Kd.R_drew)); exact HO341.out⟩, ⟨by (with_reducible repeat (first | apply Kd.S_alloc | apply Kd.S_drewN | apply Kd.S_drew)); exact HO344.out⟩, ⟨by repeat (first | (with_reducible first | exact HI330.out | apply IsS90.alloc | apply IsS90.drewN | apply IsS90.drew | apply IsS90.set_1 | apply IsS90.set_2) | exact HI330.out)⟩, ⟨by repeat (first | (with_reducible first | exact HB.out | apply below_alloc | apply pw_below_drewN | apply below_drew1 | refine below_set ?_ (IsS90.ge HI330.out)) | exact HB.out)⟩⟩
    case round =>
      clear H'
      try clear c1
      try clear c2
      try clear c2b0
      try clear c2b1
      try clear p2
      try clear c4
      try clear p6
      obtain ⟨x4_1, x5_1, x6_1, x7_1, x331001_1, x331002_1, rfl, HA, HK1, HO_4, HO_5, HO_6, HI330, HB⟩ := hrel
      cases gk with
      | zero => exact absurd HA.out (by simp [laws_FnStore.l0])
      | succ k1 =>
        have H := HA.out
        clear HA
        simp only [laws_FnStore.l0] at H
        by_cases c15 : x7_1 > 0
        · rw [if_pos c15] at H
          have c15b0 : decide (0 < x7_1) = true := decide_eq_true c15
          clear c15
          replace H := Option.bind_eq_some_iff.mp H
          obtain ⟨t348, A160, H⟩ := H
          replace H : ((spec_l1Src_N.f t327 x331001_1 x331002_1 t348).bind fun bt349 => ((spec_L1Bytes.f k1 t327 bt349.2.1 bt349.2.2 bt349.1).bind fun bt352 => ((some (([] : List Int) : List Int)).bind fun y357 => (if y357.length + bt352.1.length < 140737488355328 then ((impl_StoreAppend.f x4_1 (y357 ++ bt352.1)).bind fun bt363 => (if bt363.2.2.2 = 0 then (if x5_1.length < 8796093022208 then (if x6_1.length < 5864062014805 then (laws_FnStore.l0 k1 l0 bt363.1 (x5_1 ++ [(⟨bt363.2.1, bt363.2.2.1⟩ : S42)]) (x6_1 ++ [bt352.1]) (wrap64 (x7_1 - 1)) t327 bt352.2.1 bt352.2.2) else (none)) else (none)) else (some false))) else (none))))) = some r := H
          have A16 := Aside0.mk A160
          clear A160
          replace H := Option.bind_eq_some_iff.mp H
          obtain ⟨⟨t349, t350, t351⟩, A170, H⟩ := H
          replace H : ((spec_L1Bytes.f k1 t327 t350 t351 t349).bind fun bt352 => ((some (([] : List Int) : List Int)).bind fun y357 => (if y357.length + bt352.1.length < 140737488355328 then ((impl_StoreAppend.f x4_1 (y357 ++ bt352.1)).bind fun bt363 => (if bt363.2.2.2 = 0 then (if x5_1.length < 8796093022208 then (if x6_1.length < 5864062014805 then (laws_FnStore.l0 k1 l0 bt363.1 (x5_1 ++ [(⟨bt363.2.1, bt363.2.2.1⟩ : S42)]) (x6_1 ++ [bt352.1]) (wrap64 (x7_1 - 1)) t327 bt352.2.1 bt352.2.2) else (none)) else (none)) else (some false))) else (none)))) = some r := H
          have A17 := Aside0.mk A170
          clear A170
          replace H := Option.bind_eq_some_iff.mp H
          obtain ⟨⟨t352, t355, t356⟩, A180, H⟩ := H
          replace H : ((some (([] : List Int) : List Int)).bind fun y357 => (if y357.length + t352.length < 140737488355328 then ((impl_StoreAppend.f x4_1 (y357 ++ t352)).bind fun bt363 => (if bt363.2.2.2 = 0 then (if x5_1.length < 8796093022208 then (if x6_1.length < 5864062014805 then (laws_FnStore.l0 k1 l0 bt363.1 (x5_1 ++ [(⟨bt363.2.1, bt363.2.2.1⟩ : S42)]) (x6_1 ++ [t352]) (wrap64 (x7_1 - 1)) t327 t355 t356) else (none)) else (none)) else (some false))) else (none))) = some r := H
          have A18 := Aside0.mk A180
          clear A180
          obtain ⟨y357, hy357⟩ : ∃ y_ : List Int, y_ = (([] : List Int)) := ⟨_, rfl⟩
          replace H : (if y357.length + t352.length < 140737488355328 then ((impl_StoreAppend.f x4_1 (y357 ++ t352)).bind fun bt363 => (if bt363.2.2.2 = 0 then (if x5_1.length < 8796093022208 then (if x6_1.length < 5864062014805 then (laws_FnStore.l0 k1 l0 bt363.1 (x5_1 ++ [(⟨bt363.2.1, bt363.2.2.1⟩ : S42)]) (x6_1 ++ [t352]) (wrap64 (x7_1 - 1)) t327 t355 t356) else (none)) else (none)) else (some false))) else (none)) = some r := by first | (rw [hy357]; with_reducible exact H) | (have H2_ := (Option.bind_some _ _).symm.trans H; rw [hy357]; with_reducible exact H2_) | (have H2_ := (Option.bind_some _ _).symm.trans H; with_reducible exact H2_) | with_reducible exact H | (rw [hy357]; exact H) | exact H
          have Ny357 := Aside0.mk hy357
          clear hy357
          by_cases c19 : y357.length + t352.length < 140737488355328
          · rw [if_pos c19] at H
            have LMc19 := Aside0.mk c19
            clear c19
            obtain ⟨y360, hy360⟩ : ∃ y_ : List Int, y_ = (y357 ++ t352) := ⟨_, rfl⟩
            replace H : ((impl_StoreAppend.f x4_1 y360).bind fun bt363 => (if bt363.2.2.2 = 0 then (if x5_1.length < 8796093022208 then (if x6_1.length < 5864062014805 then (laws_FnStore.l0 k1 l0 bt363.1 (x5_1 ++ [(⟨bt363.2.1, bt363.2.2.1⟩ : S42)]) (x6_1 ++ [t352]) (wrap64 (x7_1 - 1)) t327 t355 t356) else (none)) else (none)) else (some false))) = some r := by first | (rw [hy360]; with_reducible exact H) | (have H2_ := (Option.bind_some _ _).symm.trans H; rw [hy360]; with_reducible exact H2_) | (have H2_ := (Option.bind_some _ _).symm.trans H; with_reducible exact H2_) | with_reducible exact H | (rw [hy360]; exact H) | exact H
            have Ny360 := Aside0.mk hy360
            clear hy360
            replace H := Option.bind_eq_some_iff.mp H
            obtain ⟨⟨t363, t366, t367, t368⟩, A200, H⟩ := H
            replace H : (if t368 = 0 then (if x5_1.length < 8796093022208 then (if x6_1.length < 5864062014805 then (laws_FnStore.l0 k1 l0 t363 (x5_1 ++ [(⟨t366, t367⟩ : S42)]) (x6_1 ++ [t352]) (wrap64 (x7_1 - 1)) t327 t355 t356) else (none)) else (none)) else (some false)) = some r := H
            have A20 := Aside0.mk A200
            clear A200
            by_cases c21 : t368 = 0
            · rw [if_pos c21] at H
              have c21b0 : (t368 == 0) = true := beq_iff_eq.mpr c21
              have c21b1 : (t368 != 0) = false := bne_eq_false_iff_eq.mpr c21
              clear c21
              by_cases c22 : x5_1.length < 8796093022208
              · rw [if_pos c22] at H
                have LMc22 := Aside0.mk c22
                clear c22
                obtain ⟨y370, hy370⟩ : ∃ y_ : List (S42), y_ = (x5_1 ++ [(⟨t366, t367⟩ : S42)]) := ⟨_, rfl⟩
                replace H : (if x6_1.length < 5864062014805 then (laws_FnStore.l0 k1 l0 t363 y370 (x6_1 ++ [t352]) (wrap64 (x7_1 - 1)) t327 t355 t356) else (none)) = some r := by first | (rw [hy370]; with_reducible exact H) | (have H2_ := (Option.bind_some _ _).symm.trans H; rw [hy370]; with_reducible exact H2_) | (have H2_ := (Option.bind_some _ _).symm.trans H; with_reducible exact H2_) | with_reducible exact H | (rw [hy370]; exact H) | exact H
                have Ny370 := Aside0.mk hy370
                clear hy370
                by_cases c23 : x6_1.length < 5864062014805
                · rw [if_pos c23] at H
                  have LMc23 := Aside0.mk c23
                  clear c23
                  obtain ⟨y373, hy373⟩ : ∃ y_ : List (List Int), y_ = (x6_1 ++ [t352]) := ⟨_, rfl⟩
                  replace H : (laws_FnStore.l0 k1 l0 t363 y370 y373 (wrap64 (x7_1 - 1)) t327 t355 t356) = some r := by first | (rw [hy373]; with_reducible exact H) | (have H2_ := (Option.bind_some _ _).symm.trans H; rw [hy373]; with_reducible exact H2_) | (have H2_ := (Option.bind_some _ _).symm.trans H; with_reducible exact H2_) | with_reducible exact H | (rw [hy373]; exact H) | exact H
                  have Ny373 := Aside0.mk hy373
                  clear hy373
                  have H' := Aside0.mk H
                  clear H
                  go_wp2_with (first | ((with_reducible refine gate_callee (f := 21) rfl ?_); refine goesL_ (some 42) rfl rfl Tryd.func21 (by kernel_rfl) rfl #[.slice A0 l0.length c0, .int .i64 40] rfl (by (try simp only [List.map_toArray, List.map_cons, List.map_nil]); first | done | rfl | (simp only [List.length_drop, List.length_take]; rfl)) ?_; (with_reducible refine (spec_L1Size.calls _ _ l0 40 t348 _ ?side1 ?side2 A16.out).mono ?_); (case side1 => repeat (first | exact (Kd.C_below HR0.out HB.out) | (with_reducible refine Kd.C_alloc ?_ _) | (with_reducible refine Kd.C_drewN ?_ _) | (with_reducible refine Kd.C_drew ?_))); (case side2 => exact HC0.out); rintro e w' ⟨rfl, ⟨nd, rfl⟩⟩; refine ⟨_, rfl, ?_⟩; (try (rw [drewN_self wr]; generalize hq_ : World.drewN wr _ = wr; have n0_ : Aside0 (Kd.R (Kd.int .i32) 21 wr w.heap.size (fun _ => True) u4 x4_1) := ⟨by rw [← hq_]; exact (by (with_reducible repeat (first | apply Kd.R_alloc | apply Kd.R_drewN | apply Kd.R_drew)); exact HO_4.out)⟩; have n1_ : Aside0 (Kd.R k42 42 wr w.heap.size (fun _ => True) u5 x5_1) := ⟨by rw [← hq_]; exact (by (with_reducible repeat (first | apply Kd.R_alloc | apply Kd.R_drewN | apply Kd.R_drew)); exact HO_5.out)⟩; have n2_ : Aside0 (Kd.S (Kd.slice 5 (Kd.int .u8)) 24 wr w.heap.size (fun _ => True) u6 x6_1) := ⟨by rw [← hq_]; exact (by (with_reducible repeat (first | apply Kd.S_alloc | apply Kd.S_drewN | apply Kd.S_drew)); exact HO_6.out)⟩; have n3_ : Aside0 (IsS90 w wr g330 t327 x331001_1 x331002_1) := ⟨by rw [← hq_]; exact (by repeat (first | (with_reducible first | exact HI330.out | apply IsS90.alloc | apply IsS90.drewN | apply IsS90.drew | apply IsS90.set_1 | apply IsS90.set_2) | exact HI330.out))⟩; have n4_ : Aside0 (Below w.heap.size w wr) := ⟨by rw [← hq_]; exact (by repeat (first | (with_reducible first | exact HB.out | apply below_alloc | apply pw_below_drewN | apply below_drew1 | refine below_set ?_ (IsS90.ge HI330.out)) | exact HB.out))⟩; clear HO_4 HO_5 HO_6 HI330 HB hq_; have HO_4 := n0_; have HO_5 := n1_; have HO_6 := n2_; have HI330 := n3_; have HB := n4_; clear n0_ n1_ n2_ n3_ n4_))) | ((with_reducible refine gate_callee (f := 19) rfl ?_); refine goesL_ (some 43) rfl rfl Tryd.func19 (by kernel_rfl) rfl #[.pointer (some ⟨g330, 0, none⟩), .int .i64 t348] rfl (by (try simp only [List.map_toArray, List.map_cons, List.map_nil]); first | done | rfl | (simp only [List.length_drop, List.length_take]; rfl)) ?_; (with_reducible refine (spec_l1Src_N.calls g330 t327 x331001_1 x331002_1 t348 t349 t350 t351 w _ ?side1 ?side2 A17.out).mono ?_); (case side1 => repeat (first | (with_reducible first | exact HI330.out | apply IsS90.alloc | apply IsS90.drewN | apply IsS90.drew | apply IsS90.set_1 | apply IsS90.set_2) | exact HI330.out)); (case side2 => repeat (first | (with_reducible first | exact HB.out | apply below_alloc | apply pw_below_drewN | apply below_drew1 | refine below_set ?_ (IsS90.ge HI330.out)) | exact HB.out)); rintro e w24 ⟨rfl, hi, hb, hk⟩; refine ⟨_, rfl, ?_⟩; have n0_ := Aside0.mk (Kd.R_mono (Kd.R_keep (IsS90.apart (show IsS90 w _ g330 t327 x331001_1 x331002_1 from by repeat (first | (with_reducible first | exact HI330.out | apply IsS90.alloc | apply IsS90.drewN | apply IsS90.drew | apply IsS90.set_1 | apply IsS90.set_2) | exact HI330.out)) (by (with_reducible repeat (first | apply Kd.R_alloc | apply Kd.R_drewN | apply Kd.R_drew)); exact HO_4.out) (by decide)) hk (fun _ h => h.2)) (fun _ h => h.1)); have n1_ := Aside0.mk (Kd.R_mono (Kd.R_keep (IsS90.apart (show IsS90 w _ g330 t327 x331001_1 x331002_1 from by repeat (first | (with_reducible first | exact HI330.out | apply IsS90.alloc | apply IsS90.drewN | apply IsS90.drew | apply IsS90.set_1 | apply IsS90.set_2) | exact HI330.out)) (by (with_reducible repeat (first | apply Kd.R_alloc | apply Kd.R_drewN | apply Kd.R_drew)); exact HO_5.out) (by decide)) hk (fun _ h => h.2)) (fun _ h => h.1)); have n2_ := Aside0.mk (Kd.S_mono (Kd.S_keep (IsS90.apartS (show IsS90 w _ g330 t327 x331001_1 x331002_1 from by repeat (first | (with_reducible first | exact HI330.out | apply IsS90.alloc | apply IsS90.drewN | apply IsS90.drew | apply IsS90.set_1 | apply IsS90.set_2) | exact HI330.out)) (by (with_reducible repeat (first | apply Kd.S_alloc | apply Kd.S_drewN | apply Kd.S_drew)); exact HO_6.out) (by decide)) hk (fun _ h => h.2)) (fun _ h => h.1)); have n3_ := Aside0.mk (hb); have n4_ := Aside0.mk (hi); clear HO_4; clear HO_5; clear HO_6; clear HB; clear HI330; have HO_4 := n0_; have HO_5 := n1_; have HO_6 := n2_; have HB := n3_; have HI330 := n4_; clear n0_ n1_ n2_ n3_ n4_; (try clear hb); (try clear hb2); (try clear hk); (try clear hi)) | ((with_reducible refine gate_callee (f := 20) rfl ?_); refine goesL_ (some 44) rfl rfl Tryd.func20 (by kernel_rfl) rfl #[.pointer (some ⟨g330, 0, none⟩), .int .i64 t349] rfl (by (try simp only [List.map_toArray, List.map_cons, List.map_nil]); first | done | rfl | (simp only [List.length_drop, List.length_take]; rfl)) ?_; (with_reducible refine (spec_L1Bytes.calls k1 g330 t327 t350 t351 t349 t352 t355 t356 w _ ?side1 ?side2 A18.out).mono ?_); (case side1 => repeat (first | (with_reducible first | exact HI330.out | apply IsS90.alloc | apply IsS90.drewN | apply IsS90.drew | apply IsS90.set_1 | apply IsS90.set_2) | exact HI330.out)); (case side2 => repeat (first | (with_reducible first | exact HB.out | apply below_alloc | apply pw_below_drewN | apply below_drew1 | refine below_set ?_ (IsS90.ge HI330.out)) | exact HB.out)); rintro e w25 ⟨v353, rfl, ho0, hi, hb, hk⟩; refine ⟨_, rfl, ?_⟩; have n0_ := Aside0.mk (Kd.R_mono (Kd.R_keep (IsS90.apart (show IsS90 w _ g330 t327 t350 t351 from by repeat (first | (with_reducible first | exact HI330.out | apply IsS90.alloc | apply IsS90.drewN | apply IsS90.drew | apply IsS90.set_1 | apply IsS90.set_2) | exact HI330.out)) (by (with_reducible repeat (first | apply Kd.R_alloc | apply Kd.R_drewN | apply Kd.R_drew)); exact HO_4.out) (by decide)) hk (fun _ h => h.2)) (fun _ h => h.1)); have n1_ := Aside0.mk (Kd.R_mono (Kd.R_keep (IsS90.apart (show IsS90 w _ g330 t327 t350 t351 from by repeat (first | (with_reducible first | exact HI330.out | apply IsS90.alloc | apply IsS90.drewN | apply IsS90.drew | apply IsS90.set_1 | apply IsS90.set_2) | exact HI330.out)) (by (with_reducible repeat (first | apply Kd.R_alloc | apply Kd.R_drewN | apply Kd.R_drew)); exact HO_5.out) (by decide)) hk (fun _ h => h.2)) (fun _ h => h.1)); have n2_ := Aside0.mk (Kd.S_mono (Kd.S_told (Kd.S_oldK (IsS90.apartS (show IsS90 w _ g330 t327 t350 t351 from by repeat (first | (with_reducible first | exact HI330.out | apply IsS90.alloc | apply IsS90.drewN | apply IsS90.drew | apply IsS90.set_1 | apply IsS90.set_2) | exact HI330.out)) (by (with_reducible repeat (first | apply Kd.S_alloc | apply Kd.S_drewN | apply Kd.S_drew)); exact HO_6.out) (by decide)) hk) (Kd.R_base ho0)) (fun _ h_ => h_.1)); have n3_ := Aside0.mk (Kd.R_lower ho0 (below_size (by repeat (first | (with_reducible first | exact HB.out | apply below_alloc | apply pw_below_drewN | apply below_drew1 | refine below_set ?_ (IsS90.ge HI330.out)) | exact HB.out)))); have n4_ := Aside0.mk (hb); have n5_ := Aside0.mk (hi); clear HO_4; clear HO_5; clear HO_6; clear HB; clear HI330; have HO_4 := n0_; have HO_5 := n1_; have HO_6 := n2_; have HO354 := n3_; have HB := n4_; have HI330 := n5_; clear n0_ n1_ n2_ n3_ n4_ n5_; (try clear hb); (try clear hb2); (try clear hk); (try clear hi); (try clear ho0)) | ((with_reducible refine gate_dst (N := 47) rfl ?_); refine Kd.R_lit (Kd.int .u8) _ 5 ?hg (N := 47) ?hd (xs := ([] : List Int)) (inner := []) (ok := fun _ => True) (okp := fun _ => True) ?hr ?hp (fun _ hk => hk) trivial (Below.refl _ _) (Nat.le_refl _) (by simp) ?_; (case hd => rfl); (case hg => rfl); (case hr => first | (go_simp; done) | (go_simp; rfl)); (case hp => exact (Reps.none _ _)); intro v358 w26 ho27 hb hg_ hnew_; clear hg_ hnew_; (first | rw [← Ny357.out] at ho27 | (simp only [Int.reduceToNat] at ho27; rw [← Ny357.out] at ho27)); have n0_ := Aside0.mk (Kd.R_below (by (with_reducible repeat (first | apply Kd.R_alloc | apply Kd.R_drewN | apply Kd.R_drew)); exact HO_4.out) hb); have n1_ := Aside0.mk (Kd.R_below (by (with_reducible repeat (first | apply Kd.R_alloc | apply Kd.R_drewN | apply Kd.R_drew)); exact HO_5.out) hb); have n2_ := Aside0.mk (Kd.S_elder' (by (with_reducible repeat (first | apply Kd.S_alloc | apply Kd.S_drewN | apply Kd.S_drew)); exact HO_6.out) (Kd.R_base ho27) hb); have n3_ := Aside0.mk (Kd.R_elder' (by (with_reducible repeat (first | apply Kd.R_alloc | apply Kd.R_drewN | apply Kd.R_drew)); exact HO354.out) (Kd.R_base ho27) hb); have n4_ := Aside0.mk (Kd.R_lower (Kd.R_new' ho27 (Kd.R_lt (by (with_reducible repeat (first | apply Kd.R_alloc | apply Kd.R_drewN | apply Kd.R_drew)); exact HO354.out))) (below_size (by repeat (first | (with_reducible first | exact HB.out | apply below_alloc | apply pw_below_drewN | apply below_drew1 | refine below_set ?_ (IsS90.ge HI330.out)) | exact HB.out)))); have n5_ := Aside0.mk (IsS90.below (by repeat (first | (with_reducible first | exact HI330.out | apply IsS90.alloc | apply IsS90.drewN | apply IsS90.drew | apply IsS90.set_1 | apply IsS90.set_2) | exact HI330.out)) hb); have n6_ := Aside0.mk (below_step (by repeat (first | (with_reducible first | exact HB.out | apply below_alloc | apply pw_below_drewN | apply below_drew1 | refine below_set ?_ (IsS90.ge HI330.out)) | exact HB.out)) hb); clear HO_4; clear HO_5; clear HO_6; clear HO354; clear HI330; clear HB; have HO_4 := n0_; have HO_5 := n1_; have HO_6 := n2_; have HO354 := n3_; have HO359 := n4_; have HI330 := n5_; have HB := n6_; clear n0_ n1_ n2_ n3_ n4_ n5_ n6_; clear hb ho27; obtain ⟨Ao29, co29, eo29⟩ := Kd.R_slice HO354.out; subst eo29) | ((with_reducible refine gate_builtin (b := .append) (xs := #[.tmp 47, .tmp 48]) rfl ?_); at_builtin; refine Kd.R_append_rows (Kd.int .u8) (w0 := w) w.heap.size rfl (.tmp 47) (.tmp 48) 24 5 (.int .u8 0) 1 rfl Tryd.underlying24 info5 rfl (by decide) (by omega) v358 y357 t352 _ _ _ (fun k_ => some k_ ≠ (.slice Ao29 t352.length co29 : Value).ownBlock) (fun _ => False) rfl rfl ?aO ?aR (fun _ _ h => h) (fun _ h => h.elim) ?aF ?aB ?aS ?aL ?_; (case aR => repeat (first | exact (Kd.R_reads' HO354.out).2.2 | (with_reducible refine Kd.C_alloc ?_ _) | (with_reducible refine Kd.C_drewN ?_ _) | (with_reducible refine Kd.C_drew ?_))); (case aB => exact (by repeat (first | (with_reducible first | exact HB.out | apply below_alloc | apply pw_below_drewN | apply below_drew1 | refine below_set ?_ (IsS90.ge HI330.out)) | exact HB.out))); (case aF => exact (fun k_ hk => Kd.fresh' (Kd.R_lt (by (with_reducible repeat (first | apply Kd.R_alloc | apply Kd.R_drewN | apply Kd.R_drew)); exact HO354.out)) k_ hk)); (case aO => exact (by (with_reducible repeat (first | apply Kd.R_alloc | apply Kd.R_drewN | apply Kd.R_drew)); first | exact Kd.R_mono HO359.out (fun _ hk => hk.2) | exact Kd.R_mono HO359.out (fun _ hk => own_len_ hk.2))); (case aS => exact (below_size (by repeat (first | (with_reducible first | exact HB.out | apply below_alloc | apply pw_below_drewN | apply below_drew1 | refine below_set ?_ (IsS90.ge HI330.out)) | exact HB.out)))); (case aL => have := LMc19.out; omega); intro v361 w28 ho hb hg hat; rw [← Ny360.out] at ho; have n0_ := Aside0.mk (Kd.R_over' (by (with_reducible repeat (first | apply Kd.R_alloc | apply Kd.R_drewN | apply Kd.R_drew)); exact HO_4.out) (Kd.R_typed (by (with_reducible repeat (first | apply Kd.R_alloc | apply Kd.R_drewN | apply Kd.R_drew)); exact HO359.out)) (by decide) hg); have n1_ := Aside0.mk (Kd.R_over' (by (with_reducible repeat (first | apply Kd.R_alloc | apply Kd.R_drewN | apply Kd.R_drew)); exact HO_5.out) (Kd.R_typed (by (with_reducible repeat (first | apply Kd.R_alloc | apply Kd.R_drewN | apply Kd.R_drew)); exact HO359.out)) (by decide) hg); have n2_ := Aside0.mk (Kd.S_after (ok := (fun k_ => some k_ ≠ (.slice Ao29 t352.length co29 : Value).ownBlock)) (by (with_reducible repeat (first | apply Kd.S_alloc | apply Kd.S_drewN | apply Kd.S_drew)); exact Kd.S_mono HO_6.out (fun _ hk => ⟨hk.1.2, hk.2⟩)) hg hat); have n3_ := Aside0.mk (IsS90.grown (by repeat (first | (with_reducible first | exact HI330.out | apply IsS90.alloc | apply IsS90.drewN | apply IsS90.drew | apply IsS90.set_1 | apply IsS90.set_2) | exact HI330.out)) hg (IsS90.own_ne HI330.out HO359.out (by decide))); have n4_ := Aside0.mk (Kd.R_after (ok := (fun _ => True)) (by (with_reducible repeat (first | apply Kd.R_alloc | apply Kd.R_drewN | apply Kd.R_drew)); exact HO354.out) hg hat); have n5_ := Aside0.mk (hb); have n6_ := Aside0.mk (ho); clear HO_4; clear HO_5; clear HO_6; clear HI330; clear HO354; clear HB; clear HO359; have HO_4 := n0_; have HO_5 := n1_; have HO_6 := n2_; have HI330 := n3_; have HO354 := n4_; have HB := n5_; have HO362 := n6_; clear n0_ n1_ n2_ n3_ n4_ n5_ n6_; clear ho hb hg hat; obtain ⟨Ao30, co30, eo30⟩ := Kd.R_slice HO_4.out; subst eo30; obtain ⟨Ao31, co31, eo31⟩ := Kd.R_slice HO362.out; subst eo31) | ((with_reducible refine gate_callee (f := 22) rfl ?_); refine goesL_ (some 50) rfl rfl Tryd.func22 (by kernel_rfl) rfl #[.slice Ao30 x4_1.length co30, .slice Ao31 y360.length co31] rfl (by (try simp only [List.map_toArray, List.map_cons, List.map_nil]); first | done | rfl | (simp only [List.length_drop, List.length_take]; rfl)) ?_; (with_reducible refine (impl_StoreAppend.calls _ _ x4_1 _ _ y360 t363 t366 t367 t368 _ ?side1 ?side2 ?side3 ?side4 ?side5 A20.out).mono ?_); (case side1 => repeat (first | exact (Kd.R_reads' HO_4.out).2.2 | (with_reducible refine Kd.C_alloc ?_ _) | (with_reducible refine Kd.C_drewN ?_ _) | (with_reducible refine Kd.C_drew ?_))); (case side2 => exact (Kd.R_reads' HO_4.out).2.1); (case side3 => repeat (first | exact (Kd.R_reads' HO362.out).2.2 | (with_reducible refine Kd.C_alloc ?_ _) | (with_reducible refine Kd.C_drewN ?_ _) | (with_reducible refine Kd.C_drew ?_))); (case side4 => exact (Kd.R_reads' HO362.out).2.1); (case side5 => exact HG.below hgG_ (by repeat (first | (with_reducible first | exact HB.out | apply below_alloc | apply pw_below_drewN | apply below_drew1 | refine below_set ?_ (IsS90.ge HI330.out)) | exact HB.out))); rintro e w32 ⟨v364, rfl, ho0, hb⟩; refine ⟨_, rfl, ?_⟩; have n0_ := Aside0.mk (Kd.R_elder' (by (with_reducible repeat (first | apply Kd.R_alloc | apply Kd.R_drewN | apply Kd.R_drew)); exact HO_4.out) (Kd.R_base ho0) hb); have n1_ := Aside0.mk (Kd.R_below (by (with_reducible repeat (first | apply Kd.R_alloc | apply Kd.R_drewN | apply Kd.R_drew)); exact HO_5.out) hb); have n2_ := Aside0.mk (Kd.S_below (by (with_reducible repeat (first | apply Kd.S_alloc | apply Kd.S_drewN | apply Kd.S_drew)); exact HO_6.out) hb); have n3_ := Aside0.mk (Kd.R_below (by (with_reducible repeat (first | apply Kd.R_alloc | apply Kd.R_drewN | apply Kd.R_drew)); exact HO354.out) hb); have n4_ := Aside0.mk (Kd.R_below (by (with_reducible repeat (first | apply Kd.R_alloc | apply Kd.R_drewN | apply Kd.R_drew)); exact HO362.out) hb); have n5_ := Aside0.mk (Kd.R_lower (Kd.R_new' ho0 (Kd.R_lt (by (with_reducible repeat (first | apply Kd.R_alloc | apply Kd.R_drewN | apply Kd.R_drew)); exact HO_4.out))) (below_size (by repeat (first | (with_reducible first | exact HB.out | apply below_alloc | apply pw_below_drewN | apply below_drew1 | refine below_set ?_ (IsS90.ge HI330.out)) | exact HB.out)))); have n6_ := Aside0.mk (IsS90.below (by repeat (first | (with_reducible first | exact HI330.out | apply IsS90.alloc | apply IsS90.drewN | apply IsS90.drew | apply IsS90.set_1 | apply IsS90.set_2) | exact HI330.out)) hb); have n7_ := Aside0.mk (below_step (by repeat (first | (with_reducible first | exact HB.out | apply below_alloc | apply pw_below_drewN | apply below_drew1 | refine below_set ?_ (IsS90.ge HI330.out)) | exact HB.out)) hb); clear HO_4; clear HO_5; clear HO_6; clear HO354; clear HO362; clear HI330; clear HB; have HO_4 := n0_; have HO_5 := n1_; have HO_6 := n2_; have HO354 := n3_; have HO362 := n4_; have HO365 := n5_; have HI330 := n6_; have HB := n7_; clear n0_ n1_ n2_ n3_ n4_ n5_ n6_ n7_; (try clear hb); (try clear hb2); (try clear hk); (try clear hi); (try clear ho0)) | ((with_reducible refine gate_dst (N := 10) rfl ?_); refine box_event ?hg (N := 10) ?hd (cs := #[.int .i64 0, .int .i64 0]) (t := 42) ?hr ?_; (case hd => rfl); (case hg => rfl); (case hr => first | (go_simp; done) | (go_simp; rfl)); intro gb369 hg w33 hbox hb; have n0_ := Aside0.mk (Kd.R_below (by (with_reducible repeat (first | apply Kd.R_alloc | apply Kd.R_drewN | apply Kd.R_drew)); exact HO_4.out) hb); have n1_ := Aside0.mk (Kd.R_below (Kd.R_elderB (by (with_reducible repeat (first | apply Kd.R_alloc | apply Kd.R_drewN | apply Kd.R_drew)); exact HO_5.out) gb369 (Nat.le_of_eq hg.symm)) hb); have n2_ := Aside0.mk (Kd.S_below (by (with_reducible repeat (first | apply Kd.S_alloc | apply Kd.S_drewN | apply Kd.S_drew)); exact HO_6.out) hb); have n3_ := Aside0.mk (Kd.R_below (by (with_reducible repeat (first | apply Kd.R_alloc | apply Kd.R_drewN | apply Kd.R_drew)); exact HO354.out) hb); have n4_ := Aside0.mk (Kd.R_below (by (with_reducible repeat (first | apply Kd.R_alloc | apply Kd.R_drewN | apply Kd.R_drew)); exact HO362.out) hb); have n5_ := Aside0.mk (Kd.R_below (by (with_reducible repeat (first | apply Kd.R_alloc | apply Kd.R_drewN | apply Kd.R_drew)); exact HO365.out) hb); have n6_ := Aside0.mk (IsS90.below (by repeat (first | (with_reducible first | exact HI330.out | apply IsS90.alloc | apply IsS90.drewN | apply IsS90.drew | apply IsS90.set_1 | apply IsS90.set_2) | exact HI330.out)) hb); have n7_ := Aside0.mk (below_step (by repeat (first | (with_reducible first | exact HB.out | apply below_alloc | apply pw_below_drewN | apply below_drew1 | refine below_set ?_ (IsS90.ge HI330.out)) | exact HB.out)) hb); have n8_ := Aside0.mk (hbox); have n9_ := Aside0.mk ((by rw [hg]; exact (below_size (by repeat (first | (with_reducible first | exact HB.out | apply below_alloc | apply pw_below_drewN | apply below_drew1 | refine below_set ?_ (IsS90.ge HI330.out)) | exact HB.out))) : w.heap.size ≤ gb369)); have n10_ := Aside0.mk ((by rw [hg]; exact (below_size (by repeat (first | (with_reducible first | exact HB.out | apply below_alloc | apply pw_below_drewN | apply below_drew1 | refine below_set ?_ (IsS90.ge HI330.out)) | exact HB.out))) : w.heap.size ≤ gb369)); have n11_ := Aside0.mk ((by rw [hg]; exact Nat.ne_of_lt (IsS90.lt (show IsS90 w _ g330 t327 t355 t356 from by repeat (first | (with_reducible first | exact HI330.out | apply IsS90.alloc | apply IsS90.drewN | apply IsS90.drew | apply IsS90.set_1 | apply IsS90.set_2) | exact HI330.out))) : g330 ≠ gb369)); have n12_ := Aside0.mk ((by rw [hg]; exact Nat.ne_of_gt (IsS90.lt (show IsS90 w _ g330 t327 t355 t356 from by repeat (first | (with_reducible first | exact HI330.out | apply IsS90.alloc | apply IsS90.drewN | apply IsS90.drew | apply IsS90.set_1 | apply IsS90.set_2) | exact HI330.out))) : gb369 ≠ g330)); clear HO_4; clear HO_5; clear HO_6; clear HO354; clear HO362; clear HO365; clear HI330; clear HB; have HO_4 := n0_; have HO_5 := n1_; have HO_6 := n2_; have HO354 := n3_; have HO362 := n4_; have HO365 := n5_; have HI330 := n6_; have HB := n7_; have BK369 := n8_; have GW369 := n9_; have GE369 := n10_; have NB330_369 := n11_; have NB369_330 := n12_; clear n0_ n1_ n2_ n3_ n4_ n5_ n6_ n7_ n8_ n9_ n10_ n11_ n12_; clear hb hbox hg; have hnb34 := NB369_330.out; have hnc34 := NB330_369.out; have hcz35_0 : w33.cell? ⟨gb369, 0, none⟩ = some (.int .i64 0) := (blk_cell BK369.out 0).trans rfl; have hcz35_1 : w33.cell? ⟨gb369, 1, none⟩ = some (.int .i64 0) := (blk_cell BK369.out 1).trans rfl; have hfz35_0 := blk_frozen BK369.out 0; have hfz35_1 := blk_frozen BK369.out 1) | ((with_reducible refine gate_builtin (b := .append) (xs := #[.tmp 57, .tmp 59]) rfl ?_); at_builtin; refine Kd.R_append k42 (w0 := w) w.heap.size rfl (.tmp 57) (.tmp 59) 38 42 (.agg #[(.int .i64 0), (.int .i64 0)]) 16 rfl Tryd.underlying38 info42 rfl (by decide) (by omega) u5 x5_1 (⟨t366, t367⟩ : S42) [.int .i64 t366, .int .i64 t367] (fun k_ => k_ ≠ gb369) (fun _ => False) rfl (by first | (go_simp; done) | (go_simp; rfl)) ?aP (fun _ hk => hk.elim) ?aF ?aO ?aB ?aS ?aL ?_; (case aP => exact k42_mkM _ _ _ (⟨t366, t367⟩ : S42)); (case aB => exact (by repeat (first | (with_reducible first | exact HB.out | apply below_alloc | apply pw_below_drewN | apply below_drew1 | refine below_set ?_ (IsS90.ge HI330.out) | refine below_set ?_ GE369.out) | exact HB.out))); (case aF => exact (fun k_ hk => Kd.freshB (g := gb369) (o := .cells #[.int .i64 t366, .int .i64 t367] 42 (0, 0)) (by (with_reducible repeat (first | refine blk_drewN ?_ _ | refine blk_drew ?_ | refine blk_alloc ?_ _)); refine blk_put (cs := #[.int .i64 t366, .int .i64 0]) ?_ 1 _ rfl; (with_reducible repeat (first | refine blk_drewN ?_ _ | refine blk_drew ?_ | refine blk_alloc ?_ _)); refine blk_put (cs := #[.int .i64 0, .int .i64 0]) ?_ 0 _ rfl; (with_reducible repeat (first | refine blk_drewN ?_ _ | refine blk_drew ?_ | refine blk_alloc ?_ _)); exact BK369.out) k_ hk)); (case aO => exact (by (with_reducible repeat (first | apply Kd.R_alloc | apply Kd.R_drewN | apply Kd.R_drew)); exact Kd.R_mono (Kd.R_far (p := ⟨gb369, 1, none⟩) (Kd.R_far (p := ⟨gb369, 0, none⟩) (Kd.R_mono HO_5.out (fun k_ hk => (⟨hk, hk.2⟩ : _ ∧ k_ ≠ gb369))) (fun _ hk => hk.2) (.int .i64 t366)) (fun _ hk => hk.2) (.int .i64 t367)) (fun _ hk => hk.1.2))); (case aS => exact (below_size (by repeat (first | (with_reducible first | exact HB.out | apply below_alloc | apply pw_below_drewN | apply below_drew1 | refine below_set ?_ (IsS90.ge HI330.out) | refine below_set ?_ GE369.out) | exact HB.out)))); (case aL => have := LMc22.out; omega); intro v371 w36 ho hb hg hat; rw [← Ny370.out] at ho; have n0_ := Aside0.mk (Kd.R_over' (by (with_reducible repeat (first | apply Kd.R_alloc | apply Kd.R_drewN | apply Kd.R_drew)); exact (Kd.R_mono (Kd.R_far (p := ⟨gb369, 1, none⟩) (Kd.R_far (p := ⟨gb369, 0, none⟩) (Kd.R_types HO_4.out BK369.out (by decide)) (fun _ hk => hk.2) (.int .i64 t366)) (fun _ hk => hk.2) (.int .i64 t367)) (fun _ h_ => h_.1))) (Kd.R_typed (by (with_reducible repeat (first | apply Kd.R_alloc | apply Kd.R_drewN | apply Kd.R_drew)); exact (Kd.R_mono (Kd.R_far (p := ⟨gb369, 1, none⟩) (Kd.R_far (p := ⟨gb369, 0, none⟩) (Kd.R_mono HO_5.out (fun k_ hk => (⟨hk, hk.2⟩ : _ ∧ k_ ≠ gb369))) (fun _ hk => hk.2) (.int .i64 t366)) (fun _ hk => hk.2) (.int .i64 t367)) (fun _ h_ => h_.1)))) (by decide) hg); have n1_ := Aside0.mk (Kd.S_over' (by (with_reducible repeat (first | apply Kd.S_alloc | apply Kd.S_drewN | apply Kd.S_drew)); exact (Kd.S_mono (Kd.S_far (p := ⟨gb369, 1, none⟩) (Kd.S_far (p := ⟨gb369, 0, none⟩) (Kd.S_types HO_6.out BK369.out (by decide)) (fun _ hk => hk.2) (.int .i64 t366)) (fun _ hk => hk.2) (.int .i64 t367)) (fun _ h_ => h_.1))) (Kd.R_typed (by (with_reducible repeat (first | apply Kd.R_alloc | apply Kd.R_drewN | apply Kd.R_drew)); exact (Kd.R_mono (Kd.R_far (p := ⟨gb369, 1, none⟩) (Kd.R_far (p := ⟨gb369, 0, none⟩) (Kd.R_mono HO_5.out (fun k_ hk => (⟨hk, hk.2⟩ : _ ∧ k_ ≠ gb369))) (fun _ hk => hk.2) (.int .i64 t366)) (fun _ hk => hk.2) (.int .i64 t367)) (fun _ h_ => h_.1)))) (by decide) hg); have n2_ := Aside0.mk (IsS90.grown (show IsS90 w _ g330 t327 t355 t356 from by repeat (first | (with_reducible first | exact HI330.out | apply IsS90.alloc | apply IsS90.drewN | apply IsS90.drew | refine IsS90.far ?_ NB330_369.out _) | exact HI330.out)) hg (IsS90.own_ne HI330.out HO_5.out (by decide))); have n3_ := Aside0.mk (Kd.R_over' (by (with_reducible repeat (first | apply Kd.R_alloc | apply Kd.R_drewN | apply Kd.R_drew)); exact (Kd.R_mono (Kd.R_far (p := ⟨gb369, 1, none⟩) (Kd.R_far (p := ⟨gb369, 0, none⟩) (Kd.R_types HO354.out BK369.out (by decide)) (fun _ hk => hk.2) (.int .i64 t366)) (fun _ hk => hk.2) (.int .i64 t367)) (fun _ h_ => h_.1))) (Kd.R_typed (by (with_reducible repeat (first | apply Kd.R_alloc | apply Kd.R_drewN | apply Kd.R_drew)); exact (Kd.R_mono (Kd.R_far (p := ⟨gb369, 1, none⟩) (Kd.R_far (p := ⟨gb369, 0, none⟩) (Kd.R_mono HO_5.out (fun k_ hk => (⟨hk, hk.2⟩ : _ ∧ k_ ≠ gb369))) (fun _ hk => hk.2) (.int .i64 t366)) (fun _ hk => hk.2) (.int .i64 t367)) (fun _ h_ => h_.1)))) (by decide) hg); have n4_ := Aside0.mk (Kd.R_over' (by (with_reducible repeat (first | apply Kd.R_alloc | apply Kd.R_drewN | apply Kd.R_drew)); exact (Kd.R_mono (Kd.R_far (p := ⟨gb369, 1, none⟩) (Kd.R_far (p := ⟨gb369, 0, none⟩) (Kd.R_types HO362.out BK369.out (by decide)) (fun _ hk => hk.2) (.int .i64 t366)) (fun _ hk => hk.2) (.int .i64 t367)) (fun _ h_ => h_.1))) (Kd.R_typed (by (with_reducible repeat (first | apply Kd.R_alloc | apply Kd.R_drewN | apply Kd.R_drew)); exact (Kd.R_mono (Kd.R_far (p := ⟨gb369, 1, none⟩) (Kd.R_far (p := ⟨gb369, 0, none⟩) (Kd.R_mono HO_5.out (fun k_ hk => (⟨hk, hk.2⟩ : _ ∧ k_ ≠ gb369))) (fun _ hk => hk.2) (.int .i64 t366)) (fun _ hk => hk.2) (.int .i64 t367)) (fun _ h_ => h_.1)))) (by decide) hg); have n5_ := Aside0.mk (Kd.R_over' (by (with_reducible repeat (first | apply Kd.R_alloc | apply Kd.R_drewN | apply Kd.R_drew)); exact (Kd.R_mono (Kd.R_far (p := ⟨gb369, 1, none⟩) (Kd.R_far (p := ⟨gb369, 0, none⟩) (Kd.R_types HO365.out BK369.out (by decide)) (fun _ hk => hk.2) (.int .i64 t366)) (fun _ hk => hk.2) (.int .i64 t367)) (fun _ h_ => h_.1))) (Kd.R_typed (by (with_reducible repeat (first | apply Kd.R_alloc | apply Kd.R_drewN | apply Kd.R_drew)); exact (Kd.R_mono (Kd.R_far (p := ⟨gb369, 1, none⟩) (Kd.R_far (p := ⟨gb369, 0, none⟩) (Kd.R_mono HO_5.out (fun k_ hk => (⟨hk, hk.2⟩ : _ ∧ k_ ≠ gb369))) (fun _ hk => hk.2) (.int .i64 t366)) (fun _ hk => hk.2) (.int .i64 t367)) (fun _ h_ => h_.1)))) (by decide) hg); have n6_ := Aside0.mk (blk_grown (g := gb369) (o := .cells #[.int .i64 t366, .int .i64 t367] 42 (0, 0)) (by (with_reducible repeat (first | refine blk_drewN ?_ _ | refine blk_drew ?_ | refine blk_alloc ?_ _)); refine blk_put (cs := #[.int .i64 t366, .int .i64 0]) ?_ 1 _ rfl; (with_reducible repeat (first | refine blk_drewN ?_ _ | refine blk_drew ?_ | refine blk_alloc ?_ _)); refine blk_put (cs := #[.int .i64 0, .int .i64 0]) ?_ 0 _ rfl; (with_reducible repeat (first | refine blk_drewN ?_ _ | refine blk_drew ?_ | refine blk_alloc ?_ _)); exact BK369.out) hg (Kd.R_away HO_5.out (fun _ hk => hk.2))); have n7_ := Aside0.mk (hb); have n8_ := Aside0.mk (ho); clear HO_4; clear HO_6; clear HI330; clear HO354; clear HO362; clear HO365; clear BK369; clear HB; clear HO_5; have HO_4 := n0_; have HO_6 := n1_; have HI330 := n2_; have HO354 := n3_; have HO362 := n4_; have HO365 := n5_; have BK369 := n6_; have HB := n7_; have HO372 := n8_; clear n0_ n1_ n2_ n3_ n4_ n5_ n6_ n7_ n8_; clear ho hb hg hat) | ((with_reducible refine gate_builtin (b := .append) (xs := #[.tmp 61, .tmp 63]) rfl ?_); at_builtin; refine Kd.S_append (Kd.slice 5 (Kd.int .u8)) (w0 := w) w.heap.size rfl (.tmp 61) (.tmp 63) 39 24 (.slice none 0 0) 24 rfl Tryd.underlying39 info24 rfl (by decide) (by omega) u6 x6_1 t352 [.slice Ao29 t352.length co29] (fun k_ => some k_ ≠ (.slice Ao31 y360.length co31 : Value).ownBlock) (fun k_ => some k_ = (.slice Ao29 t352.length co29 : Value).ownBlock) rfl rfl ?aP (fun k_ hk_ => ((Kd.R_mono (ok' := fun k_ => ((fun k_ => some k_ ≠ (.slice Ao31 y360.length co31 : Value).ownBlock)) k_ ∧ some k_ ≠ (u6 : Value).ownBlock) (Kd.R_apart' (HO354.out) (Kd.S_typed HO_6.out) (by decide)) (fun k_ hk => ⟨hk.1.2, hk.2⟩))).1 k_ hk_.symm) ?aF ?aO ?aB ?aS ?aL ?_; (case aP => exact Kd.M_row (Kd.R_mono (Kd.R_tight rfl (Kd.R_mono (ok' := fun k_ => ((fun k_ => some k_ ≠ (.slice Ao31 y360.length co31 : Value).ownBlock)) k_ ∧ some k_ ≠ (u6 : Value).ownBlock) (Kd.R_apart' (HO354.out) (Kd.S_typed HO_6.out) (by decide)) (fun k_ hk => ⟨hk.1.2, hk.2⟩))) (fun _ h_ => h_))); (case aB => exact (by repeat (first | (with_reducible first | exact HB.out | apply below_alloc | apply pw_below_drewN | apply below_drew1 | refine below_set ?_ (IsS90.ge HI330.out) | refine below_set ?_ GE369.out) | exact HB.out))); (case aF => exact (fun k_ hk => Kd.fresh' (Kd.R_lt (by (with_reducible repeat (first | apply Kd.R_alloc | apply Kd.R_drewN | apply Kd.R_drew)); exact HO362.out)) k_ hk)); (case aO => exact (by (with_reducible repeat (first | apply Kd.S_alloc | apply Kd.S_drewN | apply Kd.S_drew)); exact Kd.S_mono HO_6.out (fun k_ hk => ⟨hk.2, fun e_ => hk.1 e_⟩))); (case aS => exact (below_size (by repeat (first | (with_reducible first | exact HB.out | apply below_alloc | apply pw_below_drewN | apply below_drew1 | refine below_set ?_ (IsS90.ge HI330.out) | refine below_set ?_ GE369.out) | exact HB.out)))); (case aL => have := LMc23.out; omega); intro v374 w37 ho hb hg hat; rw [← Ny373.out] at ho; have n0_ := Aside0.mk (Kd.R_over' (by (with_reducible repeat (first | apply Kd.R_alloc | apply Kd.R_drewN | apply Kd.R_drew)); exact HO_4.out) (Kd.S_typed (by (with_reducible repeat (first | apply Kd.S_alloc | apply Kd.S_drewN | apply Kd.S_drew)); exact HO_6.out)) (by decide) hg); have n1_ := Aside0.mk (IsS90.grown (show IsS90 w _ g330 t327 t355 t356 from by repeat (first | (with_reducible first | exact HI330.out | apply IsS90.alloc | apply IsS90.drewN | apply IsS90.drew | refine IsS90.far ?_ NB330_369.out _) | exact HI330.out)) hg (IsS90.own_neS HI330.out HO_6.out (by decide))); have n2_ := Aside0.mk (Kd.R_over' (by (with_reducible repeat (first | apply Kd.R_alloc | apply Kd.R_drewN | apply Kd.R_drew)); exact HO362.out) (Kd.S_typed (by (with_reducible repeat (first | apply Kd.S_alloc | apply Kd.S_drewN | apply Kd.S_drew)); exact HO_6.out)) (by decide) hg); have n3_ := Aside0.mk (Kd.R_over' (by (with_reducible repeat (first | apply Kd.R_alloc | apply Kd.R_drewN | apply Kd.R_drew)); exact HO365.out) (Kd.S_typed (by (with_reducible repeat (first | apply Kd.S_alloc | apply Kd.S_drewN | apply Kd.S_drew)); exact HO_6.out)) (by decide) hg); have n4_ := Aside0.mk (blk_grown (g := gb369) (o := .cells #[.int .i64 t366, .int .i64 t367] 42 (0, 0)) (by (with_reducible repeat (first | refine blk_drewN ?_ _ | refine blk_drew ?_ | refine blk_alloc ?_ _)); exact BK369.out) hg (Kd.S_ne HO_6.out BK369.out (by decide))); have n5_ := Aside0.mk (Kd.R_over' (by (with_reducible repeat (first | apply Kd.R_alloc | apply Kd.R_drewN | apply Kd.R_drew)); exact HO372.out) (Kd.S_typed (by (with_reducible repeat (first | apply Kd.S_alloc | apply Kd.S_drewN | apply Kd.S_drew)); exact HO_6.out)) (by decide) hg); have n6_ := Aside0.mk (hb); have n7_ := Aside0.mk (ho); clear HO_4; clear HI330; clear HO362; clear HO365; clear BK369; clear HO372; clear HB; clear HO_6; clear HO354; have HO_4 := n0_; have HI330 := n1_; have HO362 := n2_; have HO365 := n3_; have BK369 := n4_; have HO372 := n5_; have HB := n6_; have HO375 := n7_; clear n0_ n1_ n2_ n3_ n4_ n5_ n6_ n7_; clear ho hb hg hat))
                  go_roundg k1
                  case measure => have := HK1.out; omega
                  case rel => exact ⟨(t363), (y370), (y373), (wrap64 (x7_1 - 1)), (t355), (t356), (by first | rfl | (simp; done) | (simp [*]; done)), H', ⟨by have := HK1.out; omega⟩, ⟨by (with_reducible repeat (first | apply Kd.R_alloc | apply Kd.R_drewN | apply Kd.R_drew)); exact Kd.R_mono HO365.out (fun _ hk => trivial)⟩, ⟨by (with_reducible repeat (first | apply Kd.R_alloc | apply Kd.R_drewN | apply Kd.R_drew)); exact Kd.R_mono HO372.out (fun _ hk => trivial)⟩, ⟨by (with_reducible repeat (first | apply Kd.S_alloc | apply Kd.S_drewN | apply Kd.S_drew)); exact Kd.S_mono HO375.out (fun _ hk => trivial)⟩, ⟨by repeat (first | (with_reducible first | exact HI330.out | apply IsS90.alloc | apply IsS90.drewN | apply IsS90.drew | apply IsS90.set_1 | apply IsS90.set_2 | refine IsS90.far ?_ NB330_369.out _) | exact HI330.out)⟩, ⟨by repeat (first | (with_reducible first | exact HB.out | apply below_alloc | apply pw_below_drewN | apply below_drew1 | refine below_set ?_ (IsS90.ge HI330.out) | refine below_set ?_ GE369.out) | exact HB.out)⟩⟩
                · rw [if_neg c23] at H
                  exact absurd H (by simp)
              · rw [if_neg c22] at H
                exact absurd H (by simp)
            · rw [if_neg c21] at H
              have c21b0 : (t368 == 0) = false := beq_eq_false_iff_ne.mpr c21
              have c21b1 : (t368 != 0) = true := bne_iff_ne.mpr c21
              obtain rfl := Option.some.inj H
              go_wp2_with (first | ((with_reducible refine gate_callee (f := 21) rfl ?_); refine goesL_ (some 42) rfl rfl Tryd.func21 (by kernel_rfl) rfl #[.slice A0 l0.length c0, .int .i64 40] rfl (by (try simp only [List.map_toArray, List.map_cons, List.map_nil]); first | done | rfl | (simp only [List.length_drop, List.length_take]; rfl)) ?_; (with_reducible refine (spec_L1Size.calls _ _ l0 40 t348 _ ?side1 ?side2 A16.out).mono ?_); (case side1 => repeat (first | exact (Kd.C_below HR0.out HB.out) | (with_reducible refine Kd.C_alloc ?_ _) | (with_reducible refine Kd.C_drewN ?_ _) | (with_reducible refine Kd.C_drew ?_))); (case side2 => exact HC0.out); rintro e w' ⟨rfl, ⟨nd, rfl⟩⟩; refine ⟨_, rfl, ?_⟩; (try (rw [drewN_self wr]; generalize hq_ : World.drewN wr _ = wr; have n0_ : Aside0 (Kd.R (Kd.int .i32) 21 wr w.heap.size (fun _ => True) u4 x4_1) := ⟨by rw [← hq_]; exact (by (with_reducible repeat (first | apply Kd.R_alloc | apply Kd.R_drewN | apply Kd.R_drew)); exact HO_4.out)⟩; have n1_ : Aside0 (Kd.R k42 42 wr w.heap.size (fun _ => True) u5 x5_1) := ⟨by rw [← hq_]; exact (by (with_reducible repeat (first | apply Kd.R_alloc | apply Kd.R_drewN | apply Kd.R_drew)); exact HO_5.out)⟩; have n2_ : Aside0 (Kd.S (Kd.slice 5 (Kd.int .u8)) 24 wr w.heap.size (fun _ => True) u6 x6_1) := ⟨by rw [← hq_]; exact (by (with_reducible repeat (first | apply Kd.S_alloc | apply Kd.S_drewN | apply Kd.S_drew)); exact HO_6.out)⟩; have n3_ : Aside0 (IsS90 w wr g330 t327 x331001_1 x331002_1) := ⟨by rw [← hq_]; exact (by repeat (first | (with_reducible first | exact HI330.out | apply IsS90.alloc | apply IsS90.drewN | apply IsS90.drew | apply IsS90.set_1 | apply IsS90.set_2) | exact HI330.out))⟩; have n4_ : Aside0 (Below w.heap.size w wr) := ⟨by rw [← hq_]; exact (by repeat (first | (with_reducible first | exact HB.out | apply below_alloc | apply pw_below_drewN | apply below_drew1 | refine below_set ?_ (IsS90.ge HI330.out)) | exact HB.out))⟩; clear HO_4 HO_5 HO_6 HI330 HB hq_; have HO_4 := n0_; have HO_5 := n1_; have HO_6 := n2_; have HI330 := n3_; have HB := n4_; clear n0_ n1_ n2_ n3_ n4_))) | ((with_reducible refine gate_callee (f := 19) rfl ?_); refine goesL_ (some 43) rfl rfl Tryd.func19 (by kernel_rfl) rfl #[.pointer (some ⟨g330, 0, none⟩), .int .i64 t348] rfl (by (try simp only [List.map_toArray, List.map_cons, List.map_nil]); first | done | rfl | (simp only [List.length_drop, List.length_take]; rfl)) ?_; (with_reducible refine (spec_l1Src_N.calls g330 t327 x331001_1 x331002_1 t348 t349 t350 t351 w _ ?side1 ?side2 A17.out).mono ?_); (case side1 => repeat (first | (with_reducible first | exact HI330.out | apply IsS90.alloc | apply IsS90.drewN | apply IsS90.drew | apply IsS90.set_1 | apply IsS90.set_2) | exact HI330.out)); (case side2 => repeat (first | (with_reducible first | exact HB.out | apply below_alloc | apply pw_below_drewN | apply below_drew1 | refine below_set ?_ (IsS90.ge HI330.out)) | exact HB.out)); rintro e w38 ⟨rfl, hi, hb, hk⟩; refine ⟨_, rfl, ?_⟩; have n0_ := Aside0.mk (Kd.R_mono (Kd.R_keep (IsS90.apart (show IsS90 w _ g330 t327 x331001_1 x331002_1 from by repeat (first | (with_reducible first | exact HI330.out | apply IsS90.alloc | apply IsS90.drewN | apply IsS90.drew | apply IsS90.set_1 | apply IsS90.set_2) | exact HI330.out)) (by (with_reducible repeat (first | apply Kd.R_alloc | apply Kd.R_drewN | apply Kd.R_drew)); exact HO_4.out) (by decide)) hk (fun _ h => h.2)) (fun _ h => h.1)); have n1_ := Aside0.mk (Kd.R_mono (Kd.R_keep (IsS90.apart (show IsS90 w _ g330 t327 x331001_1 x331002_1 from by repeat (first | (with_reducible first | exact HI330.out | apply IsS90.alloc | apply IsS90.drewN | apply IsS90.drew | apply IsS90.set_1 | apply IsS90.set_2) | exact HI330.out)) (by (with_reducible repeat (first | apply Kd.R_alloc | apply Kd.R_drewN | apply Kd.R_drew)); exact HO_5.out) (by decide)) hk (fun _ h => h.2)) (fun _ h => h.1)); have n2_ := Aside0.mk (Kd.S_mono (Kd.S_keep (IsS90.apartS (show IsS90 w _ g330 t327 x331001_1 x331002_1 from by repeat (first | (with_reducible first | exact HI330.out | apply IsS90.alloc | apply IsS90.drewN | apply IsS90.drew | apply IsS90.set_1 | apply IsS90.set_2) | exact HI330.out)) (by (with_reducible repeat (first | apply Kd.S_alloc | apply Kd.S_drewN | apply Kd.S_drew)); exact HO_6.out) (by decide)) hk (fun _ h => h.2)) (fun _ h => h.1)); have n3_ := Aside0.mk (hb); have n4_ := Aside0.mk (hi); clear HO_4; clear HO_5; clear HO_6; clear HB; clear HI330; have HO_4 := n0_; have HO_5 := n1_; have HO_6 := n2_; have HB := n3_; have HI330 := n4_; clear n0_ n1_ n2_ n3_ n4_; (try clear hb); (try clear hb2); (try clear hk); (try clear hi)) | ((with_reducible refine gate_callee (f := 20) rfl ?_); refine goesL_ (some 44) rfl rfl Tryd.func20 (by kernel_rfl) rfl #[.pointer (some ⟨g330, 0, none⟩), .int .i64 t349] rfl (by (try simp only [List.map_toArray, List.map_cons, List.map_nil]); first | done | rfl | (simp only [List.length_drop, List.length_take]; rfl)) ?_; (with_reducible refine (spec_L1Bytes.calls k1 g330 t327 t350 t351 t349 t352 t355 t356 w _ ?side1 ?side2 A18.out).mono ?_); (case side1 => repeat (first | (with_reducible first | exact HI330.out | apply IsS90.alloc | apply IsS90.drewN | apply IsS90.drew | apply IsS90.set_1 | apply IsS90.set_2) | exact HI330.out)); (case side2 => repeat (first | (with_reducible first | exact HB.out | apply below_alloc | apply pw_below_drewN | apply below_drew1 | refine below_set ?_ (IsS90.ge HI330.out)) | exact HB.out)); rintro e w39 ⟨v353, rfl, ho0, hi, hb, hk⟩; refine ⟨_, rfl, ?_⟩; have n0_ := Aside0.mk (Kd.R_mono (Kd.R_keep (IsS90.apart (show IsS90 w _ g330 t327 t350 t351 from by repeat (first | (with_reducible first | exact HI330.out | apply IsS90.alloc | apply IsS90.drewN | apply IsS90.drew | apply IsS90.set_1 | apply IsS90.set_2) | exact HI330.out)) (by (with_reducible repeat (first | apply Kd.R_alloc | apply Kd.R_drewN | apply Kd.R_drew)); exact HO_4.out) (by decide)) hk (fun _ h => h.2)) (fun _ h => h.1)); have n1_ := Aside0.mk (Kd.R_mono (Kd.R_keep (IsS90.apart (show IsS90 w _ g330 t327 t350 t351 from by repeat (first | (with_reducible first | exact HI330.out | apply IsS90.alloc | apply IsS90.drewN | apply IsS90.drew | apply IsS90.set_1 | apply IsS90.set_2) | exact HI330.out)) (by (with_reducible repeat (first | apply Kd.R_alloc | apply Kd.R_drewN | apply Kd.R_drew)); exact HO_5.out) (by decide)) hk (fun _ h => h.2)) (fun _ h => h.1)); have n2_ := Aside0.mk (Kd.S_mono (Kd.S_told (Kd.S_oldK (IsS90.apartS (show IsS90 w _ g330 t327 t350 t351 from by repeat (first | (with_reducible first | exact HI330.out | apply IsS90.alloc | apply IsS90.drewN | apply IsS90.drew | apply IsS90.set_1 | apply IsS90.set_2) | exact HI330.out)) (by (with_reducible repeat (first | apply Kd.S_alloc | apply Kd.S_drewN | apply Kd.S_drew)); exact HO_6.out) (by decide)) hk) (Kd.R_base ho0)) (fun _ h_ => h_.1)); have n3_ := Aside0.mk (Kd.R_lower ho0 (below_size (by repeat (first | (with_reducible first | exact HB.out | apply below_alloc | apply pw_below_drewN | apply below_drew1 | refine below_set ?_ (IsS90.ge HI330.out)) | exact HB.out)))); have n4_ := Aside0.mk (hb); have n5_ := Aside0.mk (hi); clear HO_4; clear HO_5; clear HO_6; clear HB; clear HI330; have HO_4 := n0_; have HO_5 := n1_; have HO_6 := n2_; have HO354 := n3_; have HB := n4_; have HI330 := n5_; clear n0_ n1_ n2_ n3_ n4_ n5_; (try clear hb); (try clear hb2); (try clear hk); (try clear hi); (try clear ho0)) | ((with_reducible refine gate_dst (N := 47) rfl ?_); refine Kd.R_lit (Kd.int .u8) _ 5 ?hg (N := 47) ?hd (xs := ([] : List Int)) (inner := []) (ok := fun _ => True) (okp := fun _ => True) ?hr ?hp (fun _ hk => hk) trivial (Below.refl _ _) (Nat.le_refl _) (by simp) ?_; (case hd => rfl); (case hg => rfl); (case hr => first | (go_simp; done) | (go_simp; rfl)); (case hp => exact (Reps.none _ _)); intro v358 w40 ho41 hb hg_ hnew_; clear hg_ hnew_; (first | rw [← Ny357.out] at ho41 | (simp only [Int.reduceToNat] at ho41; rw [← Ny357.out] at ho41)); have n0_ := Aside0.mk (Kd.R_below (by (with_reducible repeat (first | apply Kd.R_alloc | apply Kd.R_drewN | apply Kd.R_drew)); exact HO_4.out) hb); have n1_ := Aside0.mk (Kd.R_below (by (with_reducible repeat (first | apply Kd.R_alloc | apply Kd.R_drewN | apply Kd.R_drew)); exact HO_5.out) hb); have n2_ := Aside0.mk (Kd.S_elder' (by (with_reducible repeat (first | apply Kd.S_alloc | apply Kd.S_drewN | apply Kd.S_drew)); exact HO_6.out) (Kd.R_base ho41) hb); have n3_ := Aside0.mk (Kd.R_elder' (by (with_reducible repeat (first | apply Kd.R_alloc | apply Kd.R_drewN | apply Kd.R_drew)); exact HO354.out) (Kd.R_base ho41) hb); have n4_ := Aside0.mk (Kd.R_lower (Kd.R_new' ho41 (Kd.R_lt (by (with_reducible repeat (first | apply Kd.R_alloc | apply Kd.R_drewN | apply Kd.R_drew)); exact HO354.out))) (below_size (by repeat (first | (with_reducible first | exact HB.out | apply below_alloc | apply pw_below_drewN | apply below_drew1 | refine below_set ?_ (IsS90.ge HI330.out)) | exact HB.out)))); have n5_ := Aside0.mk (IsS90.below (by repeat (first | (with_reducible first | exact HI330.out | apply IsS90.alloc | apply IsS90.drewN | apply IsS90.drew | apply IsS90.set_1 | apply IsS90.set_2) | exact HI330.out)) hb); have n6_ := Aside0.mk (below_step (by repeat (first | (with_reducible first | exact HB.out | apply below_alloc | apply pw_below_drewN | apply below_drew1 | refine below_set ?_ (IsS90.ge HI330.out)) | exact HB.out)) hb); clear HO_4; clear HO_5; clear HO_6; clear HO354; clear HI330; clear HB; have HO_4 := n0_; have HO_5 := n1_; have HO_6 := n2_; have HO354 := n3_; have HO359 := n4_; have HI330 := n5_; have HB := n6_; clear n0_ n1_ n2_ n3_ n4_ n5_ n6_; clear hb ho41; obtain ⟨Ao43, co43, eo43⟩ := Kd.R_slice HO354.out; subst eo43) | ((with_reducible refine gate_builtin (b := .append) (xs := #[.tmp 47, .tmp 48]) rfl ?_); at_builtin; refine Kd.R_append_rows (Kd.int .u8) (w0 := w) w.heap.size rfl (.tmp 47) (.tmp 48) 24 5 (.int .u8 0) 1 rfl Tryd.underlying24 info5 rfl (by decide) (by omega) v358 y357 t352 _ _ _ (fun k_ => some k_ ≠ (.slice Ao43 t352.length co43 : Value).ownBlock) (fun _ => False) rfl rfl ?aO ?aR (fun _ _ h => h) (fun _ h => h.elim) ?aF ?aB ?aS ?aL ?_; (case aR => repeat (first | exact (Kd.R_reads' HO354.out).2.2 | (with_reducible refine Kd.C_alloc ?_ _) | (with_reducible refine Kd.C_drewN ?_ _) | (with_reducible refine Kd.C_drew ?_))); (case aB => exact (by repeat (first | (with_reducible first | exact HB.out | apply below_alloc | apply pw_below_drewN | apply below_drew1 | refine below_set ?_ (IsS90.ge HI330.out)) | exact HB.out))); (case aF => exact (fun k_ hk => Kd.fresh' (Kd.R_lt (by (with_reducible repeat (first | apply Kd.R_alloc | apply Kd.R_drewN | apply Kd.R_drew)); exact HO354.out)) k_ hk)); (case aO => exact (by (with_reducible repeat (first | apply Kd.R_alloc | apply Kd.R_drewN | apply Kd.R_drew)); first | exact Kd.R_mono HO359.out (fun _ hk => hk.2) | exact Kd.R_mono HO359.out (fun _ hk => own_len_ hk.2))); (case aS => exact (below_size (by repeat (first | (with_reducible first | exact HB.out | apply below_alloc | apply pw_below_drewN | apply below_drew1 | refine below_set ?_ (IsS90.ge HI330.out)) | exact HB.out)))); (case aL => have := LMc19.out; omega); intro v361 w42 ho hb hg hat; rw [← Ny360.out] at ho; have n0_ := Aside0.mk (Kd.R_over' (by (with_reducible repeat (first | apply Kd.R_alloc | apply Kd.R_drewN | apply Kd.R_drew)); exact HO_4.out) (Kd.R_typed (by (with_reducible repeat (first | apply Kd.R_alloc | apply Kd.R_drewN | apply Kd.R_drew)); exact HO359.out)) (by decide) hg); have n1_ := Aside0.mk (Kd.R_over' (by (with_reducible repeat (first | apply Kd.R_alloc | apply Kd.R_drewN | apply Kd.R_drew)); exact HO_5.out) (Kd.R_typed (by (with_reducible repeat (first | apply Kd.R_alloc | apply Kd.R_drewN | apply Kd.R_drew)); exact HO359.out)) (by decide) hg); have n2_ := Aside0.mk (Kd.S_after (ok := (fun k_ => some k_ ≠ (.slice Ao43 t352.length co43 : Value).ownBlock)) (by (with_reducible repeat (first | apply Kd.S_alloc | apply Kd.S_drewN | apply Kd.S_drew)); exact Kd.S_mono HO_6.out (fun _ hk => ⟨hk.1.2, hk.2⟩)) hg hat); have n3_ := Aside0.mk (IsS90.grown (by repeat (first | (with_reducible first | exact HI330.out | apply IsS90.alloc | apply IsS90.drewN | apply IsS90.drew | apply IsS90.set_1 | apply IsS90.set_2) | exact HI330.out)) hg (IsS90.own_ne HI330.out HO359.out (by decide))); have n4_ := Aside0.mk (Kd.R_after (ok := (fun _ => True)) (by (with_reducible repeat (first | apply Kd.R_alloc | apply Kd.R_drewN | apply Kd.R_drew)); exact HO354.out) hg hat); have n5_ := Aside0.mk (hb); have n6_ := Aside0.mk (ho); clear HO_4; clear HO_5; clear HO_6; clear HI330; clear HO354; clear HB; clear HO359; have HO_4 := n0_; have HO_5 := n1_; have HO_6 := n2_; have HI330 := n3_; have HO354 := n4_; have HB := n5_; have HO362 := n6_; clear n0_ n1_ n2_ n3_ n4_ n5_ n6_; clear ho hb hg hat; obtain ⟨Ao44, co44, eo44⟩ := Kd.R_slice HO_4.out; subst eo44; obtain ⟨Ao45, co45, eo45⟩ := Kd.R_slice HO362.out; subst eo45) | ((with_reducible refine gate_callee (f := 22) rfl ?_); refine goesL_ (some 50) rfl rfl Tryd.func22 (by kernel_rfl) rfl #[.slice Ao44 x4_1.length co44, .slice Ao45 y360.length co45] rfl (by (try simp only [List.map_toArray, List.map_cons, List.map_nil]); first | done | rfl | (simp only [List.length_drop, List.length_take]; rfl)) ?_; (with_reducible refine (impl_StoreAppend.calls _ _ x4_1 _ _ y360 t363 t366 t367 t368 _ ?side1 ?side2 ?side3 ?side4 ?side5 A20.out).mono ?_); (case side1 => repeat (first | exact (Kd.R_reads' HO_4.out).2.2 | (with_reducible refine Kd.C_alloc ?_ _) | (with_reducible refine Kd.C_drewN ?_ _) | (with_reducible refine Kd.C_drew ?_))); (case side2 => exact (Kd.R_reads' HO_4.out).2.1); (case side3 => repeat (first | exact (Kd.R_reads' HO362.out).2.2 | (with_reducible refine Kd.C_alloc ?_ _) | (with_reducible refine Kd.C_drewN ?_ _) | (with_reducible refine Kd.C_drew ?_))); (case side4 => exact (Kd.R_reads' HO362.out).2.1); (case side5 => exact HG.below hgG_ (by repeat (first | (with_reducible first | exact HB.out | apply below_alloc | apply pw_below_drewN | apply below_drew1 | refine below_set ?_ (IsS90.ge HI330.out)) | exact HB.out))); rintro e w46 ⟨v364, rfl, ho0, hb⟩; refine ⟨_, rfl, ?_⟩; have n0_ := Aside0.mk (Kd.R_elder' (by (with_reducible repeat (first | apply Kd.R_alloc | apply Kd.R_drewN | apply Kd.R_drew)); exact HO_4.out) (Kd.R_base ho0) hb); have n1_ := Aside0.mk (Kd.R_below (by (with_reducible repeat (first | apply Kd.R_alloc | apply Kd.R_drewN | apply Kd.R_drew)); exact HO_5.out) hb); have n2_ := Aside0.mk (Kd.S_below (by (with_reducible repeat (first | apply Kd.S_alloc | apply Kd.S_drewN | apply Kd.S_drew)); exact HO_6.out) hb); have n3_ := Aside0.mk (Kd.R_below (by (with_reducible repeat (first | apply Kd.R_alloc | apply Kd.R_drewN | apply Kd.R_drew)); exact HO354.out) hb); have n4_ := Aside0.mk (Kd.R_below (by (with_reducible repeat (first | apply Kd.R_alloc | apply Kd.R_drewN | apply Kd.R_drew)); exact HO362.out) hb); have n5_ := Aside0.mk (Kd.R_lower (Kd.R_new' ho0 (Kd.R_lt (by (with_reducible repeat (first | apply Kd.R_alloc | apply Kd.R_drewN | apply Kd.R_drew)); exact HO_4.out))) (below_size (by repeat (first | (with_reducible first | exact HB.out | apply below_alloc | apply pw_below_drewN | apply below_drew1 | refine below_set ?_ (IsS90.ge HI330.out)) | exact HB.out)))); have n6_ := Aside0.mk (IsS90.below (by repeat (first | (with_reducible first | exact HI330.out | apply IsS90.alloc | apply IsS90.drewN | apply IsS90.drew | apply IsS90.set_1 | apply IsS90.set_2) | exact HI330.out)) hb); have n7_ := Aside0.mk (below_step (by repeat (first | (with_reducible first | exact HB.out | apply below_alloc | apply pw_below_drewN | apply below_drew1 | refine below_set ?_ (IsS90.ge HI330.out)) | exact HB.out)) hb); clear HO_4; clear HO_5; clear HO_6; clear HO354; clear HO362; clear HI330; clear HB; have HO_4 := n0_; have HO_5 := n1_; have HO_6 := n2_; have HO354 := n3_; have HO362 := n4_; have HO365 := n5_; have HI330 := n6_; have HB := n7_; clear n0_ n1_ n2_ n3_ n4_ n5_ n6_ n7_; (try clear hb); (try clear hb2); (try clear hk); (try clear hi); (try clear ho0)) | ((with_reducible refine gate_dst (N := 10) rfl ?_); refine box_event ?hg (N := 10) ?hd (cs := #[.int .i64 0, .int .i64 0]) (t := 42) ?hr ?_; (case hd => rfl); (case hg => rfl); (case hr => first | (go_simp; done) | (go_simp; rfl)); intro gb369 hg w47 hbox hb; have n0_ := Aside0.mk (Kd.R_below (by (with_reducible repeat (first | apply Kd.R_alloc | apply Kd.R_drewN | apply Kd.R_drew)); exact HO_4.out) hb); have n1_ := Aside0.mk (Kd.R_below (Kd.R_elderB (by (with_reducible repeat (first | apply Kd.R_alloc | apply Kd.R_drewN | apply Kd.R_drew)); exact HO_5.out) gb369 (Nat.le_of_eq hg.symm)) hb); have n2_ := Aside0.mk (Kd.S_below (by (with_reducible repeat (first | apply Kd.S_alloc | apply Kd.S_drewN | apply Kd.S_drew)); exact HO_6.out) hb); have n3_ := Aside0.mk (Kd.R_below (by (with_reducible repeat (first | apply Kd.R_alloc | apply Kd.R_drewN | apply Kd.R_drew)); exact HO354.out) hb); have n4_ := Aside0.mk (Kd.R_below (by (with_reducible repeat (first | apply Kd.R_alloc | apply Kd.R_drewN | apply Kd.R_drew)); exact HO362.out) hb); have n5_ := Aside0.mk (Kd.R_below (by (with_reducible repeat (first | apply Kd.R_alloc | apply Kd.R_drewN | apply Kd.R_drew)); exact HO365.out) hb); have n6_ := Aside0.mk (IsS90.below (by repeat (first | (with_reducible first | exact HI330.out | apply IsS90.alloc | apply IsS90.drewN | apply IsS90.drew | apply IsS90.set_1 | apply IsS90.set_2) | exact HI330.out)) hb); have n7_ := Aside0.mk (below_step (by repeat (first | (with_reducible first | exact HB.out | apply below_alloc | apply pw_below_drewN | apply below_drew1 | refine below_set ?_ (IsS90.ge HI330.out)) | exact HB.out)) hb); have n8_ := Aside0.mk (hbox); have n9_ := Aside0.mk ((by rw [hg]; exact (below_size (by repeat (first | (with_reducible first | exact HB.out | apply below_alloc | apply pw_below_drewN | apply below_drew1 | refine below_set ?_ (IsS90.ge HI330.out)) | exact HB.out))) : w.heap.size ≤ gb369)); have n10_ := Aside0.mk ((by rw [hg]; exact (below_size (by repeat (first | (with_reducible first | exact HB.out | apply below_alloc | apply pw_below_drewN | apply below_drew1 | refine below_set ?_ (IsS90.ge HI330.out)) | exact HB.out))) : w.heap.size ≤ gb369)); have n11_ := Aside0.mk ((by rw [hg]; exact Nat.ne_of_lt (IsS90.lt (show IsS90 w _ g330 t327 t355 t356 from by repeat (first | (with_reducible first | exact HI330.out | apply IsS90.alloc | apply IsS90.drewN | apply IsS90.drew | apply IsS90.set_1 | apply IsS90.set_2) | exact HI330.out))) : g330 ≠ gb369)); have n12_ := Aside0.mk ((by rw [hg]; exact Nat.ne_of_gt (IsS90.lt (show IsS90 w _ g330 t327 t355 t356 from by repeat (first | (with_reducible first | exact HI330.out | apply IsS90.alloc | apply IsS90.drewN | apply IsS90.drew | apply IsS90.set_1 | apply IsS90.set_2) | exact HI330.out))) : gb369 ≠ g330)); clear HO_4; clear HO_5; clear HO_6; clear HO354; clear HO362; clear HO365; clear HI330; clear HB; have HO_4 := n0_; have HO_5 := n1_; have HO_6 := n2_; have HO354 := n3_; have HO362 := n4_; have HO365 := n5_; have HI330 := n6_; have HB := n7_; have BK369 := n8_; have GW369 := n9_; have GE369 := n10_; have NB330_369 := n11_; have NB369_330 := n12_; clear n0_ n1_ n2_ n3_ n4_ n5_ n6_ n7_ n8_ n9_ n10_ n11_ n12_; clear hb hbox hg; have hnb48 := NB369_330.out; have hnc48 := NB330_369.out; have hcz49_0 : w47.cell? ⟨gb369, 0, none⟩ = some (.int .i64 0) := (blk_cell BK369.out 0).trans rfl; have hcz49_1 : w47.cell? ⟨gb369, 1, none⟩ = some (.int .i64 0) := (blk_cell BK369.out 1).trans rfl; have hfz49_0 := blk_frozen BK369.out 0; have hfz49_1 := blk_frozen BK369.out 1))
              go_ret
              exact ⟨by first | rfl | (simp [errW_none, errW_some] <;> rfl) | (simp [*, errW_none, errW_some] <;> rfl), by repeat (first | (with_reducible first | exact HB.out | apply below_alloc | apply pw_below_drewN | apply below_drew1 | refine below_set ?_ (IsS90.ge HI330.out) | refine below_set ?_ GE369.out) | exact HB.out)⟩
          · rw [if_neg c19] at H
            exact absurd H (by simp)
        · rw [if_neg c15] at H
          have c15b0 : decide (0 < x7_1) = false := decide_eq_false c15
          clear c15
          have H' := Aside0.mk H
          clear H
          obtain ⟨Ao50, co50, eo50⟩ := Kd.R_slice HO_5.out
          subst eo50
          go_wp2
          go_loopg [67] k1 (fun kq v67 w' => ∃ (x67_2 : Int), v67 = .int .i64 x67_2 ∧ Aside0 (laws_FnStore.l1 kq x4_1 x6_1 x5_1 (x5_1.length : Int) x67_2 = some r) ∧ Aside0 (kq ≤ k1) ∧ Aside0 (Kd.R (Kd.int .i32) 21 w' w.heap.size (fun _ => True) u4 x4_1) ∧ Aside0 (Kd.S (Kd.slice 5 (Kd.int .u8)) 24 w' w.heap.size (fun _ => True) u6 x6_1) ∧ Aside0 (Kd.R k42 42 w' w.heap.size (fun _ => True) (.slice Ao50 x5_1.length co50) x5_1) ∧ Aside0 (Below w.heap.size w w'))
          case atStart => exact ⟨(0), (by first | rfl | (simp; done) | (simp [*]; done)), H', ⟨Nat.le_refl _⟩, ⟨by (with_reducible repeat (first | apply Kd.R_alloc | apply Kd.R_drewN | apply Kd.R_drew)); exact HO_4.out⟩, ⟨by (with_reducible repeat (first | apply Kd.S_alloc | apply Kd.S_drewN | apply Kd.S_drew)); exact HO_6.out⟩, ⟨by (with_reducible repeat (first | apply Kd.R_alloc | apply Kd.R_drewN | apply Kd.R_drew)); exact HO_5.out⟩, ⟨by repeat (first | (with_reducible first | exact HB.out | apply below_alloc | apply pw_below_drewN | apply below_drew1 | refine below_set ?_ (IsS90.ge HI330.out)) | exact HB.out)⟩⟩
          case round =>
            clear H'
            try clear c1
            try clear c2
            try clear c2b0
            try clear c2b1
            try clear p2
            try clear c3
            try clear c4
            try clear p6
            try clear c15
            try clear c15b0
            try clear c17
            try clear c18
            try clear c19
            try clear c20
            try clear c21
            try clear c21b0
            try clear c21b1
            try clear c22
            try clear c23
            try clear c34
            try clear c48
            try clear hcz35_0
            try clear hcz35_1
            try clear hcz49_0
            try clear hcz49_1
            try clear hfz35_0
            try clear hfz35_1
            try clear hfz49_0
            try clear hfz49_1
            try clear p2
            try clear p6
            obtain ⟨x67_2, rfl, HA, HK2, HO_4, HO_6, HO_65, HB⟩ := hrel
            cases gk with
            | zero => exact absurd HA.out (by simp [laws_FnStore.l1])
            | succ k2 =>
              have H := HA.out
              clear HA
              simp only [laws_FnStore.l1] at H
              by_cases c51 : x67_2 < (x5_1.length : Int)
              · rw [if_pos c51] at H
                have c51b0 : decide (x67_2 < (x5_1.length : Int)) = true := decide_eq_true c51
                clear c51
                by_cases c52 : 0 ≤ x67_2
                · rw [if_pos c52] at H
                  have c52b0 : decide (0 ≤ x67_2) = true := decide_eq_true c52
                  clear c52
                  by_cases c53 : x67_2 < (x5_1.length : Int)
                  · rw [if_pos c53] at H
                    have c53b0 : decide (x67_2 < (x5_1.length : Int)) = true := decide_eq_true c53
                    clear c53
                    replace H := Option.bind_eq_some_iff.mp H
                    obtain ⟨t378, A540, H⟩ := H
                    replace H : ((impl_StoreRead.f t378 ((rd_T42 x5_1 x67_2).f0) ((rd_T42 x5_1 x67_2).f1)).bind fun bt381 => (if x67_2 < (x6_1.length : Int) then ((spec_DecodeText.f k2 (rd_L4 x6_1 x67_2)).bind fun t387 => (laws_FnStore.l2 k2 x4_1 x6_1 bt381.1 bt381.2.1 bt381.2.2 t387 0 x5_1 (x5_1.length : Int) x67_2 t387 (t387.length : Int) 0)) else (none))) = some r := H
                    have A54 := Aside0.mk A540
                    clear A540
                    replace H := Option.bind_eq_some_iff.mp H
                    obtain ⟨⟨t381, t384, t385⟩, A550, H⟩ := H
                    replace H : (if x67_2 < (x6_1.length : Int) then ((spec_DecodeText.f k2 (rd_L4 x6_1 x67_2)).bind fun t387 => (laws_FnStore.l2 k2 x4_1 x6_1 t381 t384 t385 t387 0 x5_1 (x5_1.length : Int) x67_2 t387 (t387.length : Int) 0)) else (none)) = some r := H
                    have A55 := Aside0.mk A550
                    clear A550
                    by_cases c56 : x67_2 < (x6_1.length : Int)
                    · rw [if_pos c56] at H
                      have c56b0 : decide (x67_2 < (x6_1.length : Int)) = true := decide_eq_true c56
                      clear c56
                      replace H := Option.bind_eq_some_iff.mp H
                      obtain ⟨t387, A570, H⟩ := H
                      replace H : (laws_FnStore.l2 k2 x4_1 x6_1 t381 t384 t385 t387 0 x5_1 (x5_1.length : Int) x67_2 t387 (t387.length : Int) 0) = some r := H
                      have A57 := Aside0.mk A570
                      clear A570
                      have H' := Aside0.mk H
                      clear H
                      have p376 : 0 ≤ (x67_2 : Int) := of_decide_eq_true (by first | (with_reducible assumption) | assumption)
                      have q376 : x67_2 < (x5_1.length : Int) := of_decide_eq_true (by first | (with_reducible assumption) | assumption)
                      obtain ⟨ad376, e376, hx376_0, hx376_1⟩ := at_T42 (Kd.R_reads' HO_65.out).2.2 x67_2 p376 q376
                      cases e376
                      replace p376 := eq_true p376
                      replace q376 := eq_true q376
                      try go_wp2_with (first | ((with_reducible refine gate_dst (N := 13) rfl ?_); refine box_event ?hg (N := 13) ?hd (cs := #[.int .i64 0, .int .i64 0]) (t := 42) ?hr ?_; (case hd => rfl); (case hg => rfl); (case hr => first | (go_simp; done) | (go_simp; rfl)); intro gb377 hg w58 hbox hb; have n0_ := Aside0.mk (Kd.R_below (by (with_reducible repeat (first | apply Kd.R_alloc | apply Kd.R_drewN | apply Kd.R_drew)); exact HO_4.out) hb); have n1_ := Aside0.mk (Kd.S_below (by (with_reducible repeat (first | apply Kd.S_alloc | apply Kd.S_drewN | apply Kd.S_drew)); exact HO_6.out) hb); have n2_ := Aside0.mk (Kd.R_below (Kd.R_elderB (by (with_reducible repeat (first | apply Kd.R_alloc | apply Kd.R_drewN | apply Kd.R_drew)); exact HO_65.out) gb377 (Nat.le_of_eq hg.symm)) hb); have n3_ := Aside0.mk (below_step (by repeat (first | (with_reducible first | exact HB.out | apply below_alloc | apply pw_below_drewN | apply below_drew1) | exact HB.out)) hb); have n4_ := Aside0.mk (hbox); have n5_ := Aside0.mk ((by rw [hg]; exact (below_size (by repeat (first | (with_reducible first | exact HB.out | apply below_alloc | apply pw_below_drewN | apply below_drew1) | exact HB.out))) : w.heap.size ≤ gb377)); have n6_ := Aside0.mk ((by rw [hg]; exact (below_size (by repeat (first | (with_reducible first | exact HB.out | apply below_alloc | apply pw_below_drewN | apply below_drew1) | exact HB.out))) : w.heap.size ≤ gb377)); clear HO_4; clear HO_6; clear HO_65; clear HB; have HO_4 := n0_; have HO_6 := n1_; have HO_65 := n2_; have HB := n3_; have BK377 := n4_; have GW377 := n5_; have GE377 := n6_; clear n0_ n1_ n2_ n3_ n4_ n5_ n6_; clear hb hbox hg; have hcz59_0 : w58.cell? ⟨gb377, 0, none⟩ = some (.int .i64 0) := (blk_cell BK377.out 0).trans rfl; have hcz59_1 : w58.cell? ⟨gb377, 1, none⟩ = some (.int .i64 0) := (blk_cell BK377.out 1).trans rfl; have hfz59_0 := blk_frozen BK377.out 0; have hfz59_1 := blk_frozen BK377.out 1))
                      have n0_ : Aside0 (Kd.R (Kd.int .i32) 21 ((w58.setCell ⟨gb377, 0, none⟩ (.int .i64 ((rd_T42 x5_1 x67_2).f0))).setCell ⟨gb377, 1, none⟩ (.int .i64 ((rd_T42 x5_1 x67_2).f1))) w.heap.size (fun _ => True) u4 x4_1) := ⟨by (with_reducible repeat (first | apply Kd.R_alloc | apply Kd.R_drewN | apply Kd.R_drew)); exact Kd.R_mono (Kd.R_far (p := ⟨gb377, 1, none⟩) (Kd.R_far (p := ⟨gb377, 0, none⟩) (Kd.R_types HO_4.out BK377.out (by decide)) (fun _ hk => hk.2) (.int .i64 ((rd_T42 x5_1 x67_2).f0))) (fun _ hk => hk.2) (.int .i64 ((rd_T42 x5_1 x67_2).f1))) (fun _ hk => trivial)⟩
                      have n1_ : Aside0 (Kd.S (Kd.slice 5 (Kd.int .u8)) 24 ((w58.setCell ⟨gb377, 0, none⟩ (.int .i64 ((rd_T42 x5_1 x67_2).f0))).setCell ⟨gb377, 1, none⟩ (.int .i64 ((rd_T42 x5_1 x67_2).f1))) w.heap.size (fun _ => True) u6 x6_1) := ⟨by (with_reducible repeat (first | apply Kd.S_alloc | apply Kd.S_drewN | apply Kd.S_drew)); exact Kd.S_mono (Kd.S_far (p := ⟨gb377, 1, none⟩) (Kd.S_far (p := ⟨gb377, 0, none⟩) (Kd.S_types HO_6.out BK377.out (by decide)) (fun _ hk => hk.2) (.int .i64 ((rd_T42 x5_1 x67_2).f0))) (fun _ hk => hk.2) (.int .i64 ((rd_T42 x5_1 x67_2).f1))) (fun _ hk => trivial)⟩
                      have n2_ : Aside0 (Kd.R k42 42 ((w58.setCell ⟨gb377, 0, none⟩ (.int .i64 ((rd_T42 x5_1 x67_2).f0))).setCell ⟨gb377, 1, none⟩ (.int .i64 ((rd_T42 x5_1 x67_2).f1))) w.heap.size (fun k_ => k_ ≠ gb377) (.slice (some ad376) x5_1.length co50) x5_1) := ⟨by (with_reducible repeat (first | apply Kd.R_alloc | apply Kd.R_drewN | apply Kd.R_drew)); exact Kd.R_mono (Kd.R_far (p := ⟨gb377, 1, none⟩) (Kd.R_far (p := ⟨gb377, 0, none⟩) (Kd.R_mono HO_65.out (fun k_ hk => (⟨hk, hk.2⟩ : _ ∧ k_ ≠ gb377))) (fun _ hk => hk.2) (.int .i64 ((rd_T42 x5_1 x67_2).f0))) (fun _ hk => hk.2) (.int .i64 ((rd_T42 x5_1 x67_2).f1))) (fun _ hk => hk.1.2)⟩
                      have n3_ : Aside0 (((w58.setCell ⟨gb377, 0, none⟩ (.int .i64 ((rd_T42 x5_1 x67_2).f0))).setCell ⟨gb377, 1, none⟩ (.int .i64 ((rd_T42 x5_1 x67_2).f1))).heap[gb377]? = some (.cells #[.int .i64 ((rd_T42 x5_1 x67_2).f0), .int .i64 ((rd_T42 x5_1 x67_2).f1)] 42 (0, 0))) := ⟨by (with_reducible repeat (first | refine blk_drewN ?_ _ | refine blk_drew ?_ | refine blk_alloc ?_ _)); refine blk_put (cs := #[.int .i64 ((rd_T42 x5_1 x67_2).f0), .int .i64 0]) ?_ 1 _ rfl; (with_reducible repeat (first | refine blk_drewN ?_ _ | refine blk_drew ?_ | refine blk_alloc ?_ _)); refine blk_put (cs := #[.int .i64 0, .int .i64 0]) ?_ 0 _ rfl; (with_reducible repeat (first | refine blk_drewN ?_ _ | refine blk_drew ?_ | refine blk_alloc ?_ _)); exact BK377.out⟩
                      have n4_ : Aside0 (Below w.heap.size w ((w58.setCell ⟨gb377, 0, none⟩ (.int .i64 ((rd_T42 x5_1 x67_2).f0))).setCell ⟨gb377, 1, none⟩ (.int .i64 ((rd_T42 x5_1 x67_2).f1)))) := ⟨by repeat (first | (with_reducible first | exact HB.out | apply below_alloc | apply pw_below_drewN | apply below_drew1 | refine below_set ?_ GE377.out) | exact HB.out)⟩
                      (try clear HO_4)
                      (try clear HO_6)
                      (try clear HO_65)
                      (try clear BK377)
                      (try clear HB)
                      generalize ((w58.setCell ⟨gb377, 0, none⟩ (.int .i64 ((rd_T42 x5_1 x67_2).f0))).setCell ⟨gb377, 1, none⟩ (.int .i64 ((rd_T42 x5_1 x67_2).f1))) = w60 at n0_ n1_ n2_ n3_ n4_ ⊢
                      have HO_4 := n0_
                      have HO_6 := n1_
                      have HO_65 := n2_
                      have BK377 := n3_
                      have HB := n4_
                      clear n0_ n1_ n2_ n3_ n4_
                      have n0_ := Aside0.mk (Kd.R_drew HO_4.out)
                      have n1_ := Aside0.mk (Kd.S_drew HO_6.out)
                      have n2_ := Aside0.mk (Kd.R_drew HO_65.out)
                      have n3_ := Aside0.mk (blk_drew BK377.out)
                      have n4_ := Aside0.mk (below_drew1 HB.out)
                      clear HO_4
                      clear HO_6
                      clear HO_65
                      clear BK377
                      clear HB
                      have HO_4 := n0_
                      have HO_6 := n1_
                      have HO_65 := n2_
                      have BK377 := n3_
                      have HB := n4_
                      clear n0_ n1_ n2_ n3_ n4_
                      obtain ⟨Ao62, co62, eo62⟩ := Kd.R_slice HO_4.out
                      (first | subst eo62 | (injection eo62 with f1_ f2_ f3_; have f4_ := f1_.symm; have f5_ := f3_.symm; clear f1_ f2_ f3_; subst f4_; subst f5_))
                      refine start_ (n := 11) (S := fun w' => w'.cell? ⟨gb377, 0, none⟩ = some (.int .i64 ((rd_T42 x5_1 x67_2).f0)) ∧ w'.cell? ⟨gb377, 1, none⟩ = some (.int .i64 ((rd_T42 x5_1 x67_2).f1))) (ds := []) #[false, false, false, false, false, false, false, false, false, false, false] (by kernel_rfl) rfl rfl ⟨(blk_cell BK377.out 0).trans rfl, (blk_cell BK377.out 1).trans rfl⟩ (fun hHeld => ?_); refine with_tabW laws_FnStore.tab20 laws_FnStore.bits20 (fun HT_ HW_ => ?_)
                      generalize w60.drew = w61 at HO_4 HO_6 HO_65 BK377 HB hHeld ⊢
                      refine pure_ (i := 0) (N := some 73) (v := ?_) (a' := ?_) #[true, false, false, false, false, false, false, false, false, false, false] rfl rfl (any_of HT_.out (by kernel_rfl)) (fun _ _ _ h => h) (Or.inl ⟨by rfl, ?_⟩) ?_ ?_
                      rotate_left
                      · intro w'
                        go_simp
                        with_reducible rfl
                      rotate_left
                      · simp only [Act.put, List.setIfInBounds_toArray, List.set_cons_zero, List.set_cons_succ, i64_w, i32_w]
                        rfl
                      refine take_ (i := 2) (N := some 75) (v := ?_) (a' := ?_) #[true, false, true, false, false, false, false, false, false, false, false] rfl rfl (take_ofW HT_.out HW_.out (by kernel_rfl)) (fun _ _ _ h => h) (Or.inl ⟨by rfl, ?_⟩) hHeld ?_ ?_
                      rotate_left
                      · rintro w' ⟨s0, s1⟩
                        go_simp
                        with_reducible rfl
                      rotate_left
                      · simp only [Act.put, List.setIfInBounds_toArray, List.set_cons_zero, List.set_cons_succ, i64_w, i32_w]
                        rfl
                      refine one_ (i := 1) (N := some 74) #[true, true, true, false, false, false, false, false, false, false, false] rfl rfl (one_of HT_.out (by kernel_rfl)) (by decide) (fun K hK => ?_)
                      refine goes_ Tryd.func24 (by kernel_rfl) rfl #[.slice Ao62 x4_1.length co62] (by rfl) rfl rfl (by (try simp only [List.map_toArray, List.map_cons, List.map_nil]); first | done | rfl | (simp only [List.length_drop, List.length_take]; rfl)) ?_
                      with_reducible refine (laws_cpText.calls _ _ x4_1 t378 _ ?side1 ?side2 A54.out).mono ?_
                      (case side1 => repeat (first | exact (Kd.R_reads' HO_4.out).2.2 | (with_reducible refine Kd.C_alloc ?_ _) | (with_reducible refine Kd.C_drewN ?_ _) | (with_reducible refine Kd.C_drew ?_)))
                      (case side2 => exact (Kd.R_reads' HO_4.out).2.1)
                      rintro e w63 ⟨v379, rfl, ho0, hb⟩
                      refine ⟨_, rfl, ?_⟩
                      have n0_ := Aside0.mk (Kd.R_elder' (by (with_reducible repeat (first | apply Kd.R_alloc | apply Kd.R_drewN | apply Kd.R_drew)); exact HO_4.out) (Kd.R_base ho0) hb)
                      have n1_ := Aside0.mk (Kd.S_below (by (with_reducible repeat (first | apply Kd.S_alloc | apply Kd.S_drewN | apply Kd.S_drew)); exact HO_6.out) hb)
                      have n2_ := Aside0.mk (Kd.R_below (by (with_reducible repeat (first | apply Kd.R_alloc | apply Kd.R_drewN | apply Kd.R_drew)); exact HO_65.out) hb)
                      have n3_ := Aside0.mk (Kd.R_lower (Kd.R_new' ho0 (Kd.R_lt (by (with_reducible repeat (first | apply Kd.R_alloc | apply Kd.R_drewN | apply Kd.R_drew)); exact HO_4.out))) (below_size (by repeat (first | (with_reducible first | exact HB.out | apply below_alloc | apply pw_below_drewN | apply below_drew1 | refine below_set ?_ GE377.out) | exact HB.out))))
                      have n4_ := Aside0.mk (blk_below (g := gb377) (o := .cells #[.int .i64 ((rd_T42 x5_1 x67_2).f0), .int .i64 ((rd_T42 x5_1 x67_2).f1)] 42 (0, 0)) (by (with_reducible repeat (first | refine blk_drewN ?_ _ | refine blk_drew ?_ | refine blk_alloc ?_ _)); exact BK377.out) hb)
                      have n5_ := Aside0.mk (below_step (by repeat (first | (with_reducible first | exact HB.out | apply below_alloc | apply pw_below_drewN | apply below_drew1 | refine below_set ?_ GE377.out) | exact HB.out)) hb)
                      clear HO_4
                      clear HO_6
                      clear HO_65
                      clear BK377
                      clear HB
                      have HO_4 := n0_
                      have HO_6 := n1_
                      have HO_65 := n2_
                      have HO380 := n3_
                      have BK377 := n4_
                      have HB := n5_
                      clear n0_ n1_ n2_ n3_ n4_ n5_
                      (try clear hb)
                      (try clear hb2)
                      (try clear hk)
                      (try clear hi)
                      (try clear ho0)
                      obtain ⟨Ao64, co64, eo64⟩ := Kd.R_slice HO380.out
                      (first | subst eo64 | (injection eo64 with f1_ f2_ f3_; have f4_ := f1_.symm; have f5_ := f3_.symm; clear f1_ f2_ f3_; subst f4_; subst f5_))
                      refine hK.out _ _ ⟨(blk_cell BK377.out 0).trans rfl, (blk_cell BK377.out 1).trans rfl⟩ (fun hHeld => ?_)
                      clear hK K
                      refine norm_ (a' := ?_) ?_ ?_
                      rotate_left
                      · show Act.put _ (some 74) _ = _
                        simp only [Act.put, List.setIfInBounds_toArray, List.set_cons_zero, List.set_cons_succ, i64_w, i32_w]
                        rfl
                      refine one_ (i := 3) (N := some 76) #[true, true, true, true, false, false, false, false, false, false, false] rfl rfl (one_of HT_.out (by kernel_rfl)) (by decide) (fun K hK => ?_)
                      refine goes_ Tryd.func23 (by kernel_rfl) rfl #[.slice Ao64 t378.length co64, .agg #[.int .i64 ((rd_T42 x5_1 x67_2).f0), .int .i64 ((rd_T42 x5_1 x67_2).f1)]] (by rfl) rfl rfl (by (try simp only [List.map_toArray, List.map_cons, List.map_nil]); first | done | rfl | (simp only [List.length_drop, List.length_take]; rfl)) ?_
                      with_reducible refine (impl_StoreRead.calls _ _ t378 ((rd_T42 x5_1 x67_2).f0) ((rd_T42 x5_1 x67_2).f1) t381 t384 t385 _ ?side1 ?side2 ?side3 A55.out).mono ?_
                      (case side1 => repeat (first | exact (Kd.R_reads' HO380.out).2.2 | (with_reducible refine Kd.C_alloc ?_ _) | (with_reducible refine Kd.C_drewN ?_ _) | (with_reducible refine Kd.C_drew ?_)))
                      (case side2 => exact (Kd.R_reads' HO380.out).2.1)
                      (case side3 => exact HG.below hgG_ (by repeat (first | (with_reducible first | exact HB.out | apply below_alloc | apply pw_below_drewN | apply below_drew1 | refine below_set ?_ GE377.out) | exact HB.out)))
                      rintro e w65 ⟨v382, rfl, ho0, hb⟩
                      refine ⟨_, rfl, ?_⟩
                      have n0_ := Aside0.mk (Kd.R_elder' (by (with_reducible repeat (first | apply Kd.R_alloc | apply Kd.R_drewN | apply Kd.R_drew)); exact HO_4.out) (Kd.R_base ho0) hb)
                      have n1_ := Aside0.mk (Kd.S_below (by (with_reducible repeat (first | apply Kd.S_alloc | apply Kd.S_drewN | apply Kd.S_drew)); exact HO_6.out) hb)
                      have n2_ := Aside0.mk (Kd.R_below (by (with_reducible repeat (first | apply Kd.R_alloc | apply Kd.R_drewN | apply Kd.R_drew)); exact HO_65.out) hb)
                      have n3_ := Aside0.mk (Kd.R_elder' (by (with_reducible repeat (first | apply Kd.R_alloc | apply Kd.R_drewN | apply Kd.R_drew)); exact HO380.out) (Kd.R_base ho0) hb)
                      have n4_ := Aside0.mk (Kd.R_lower (Kd.R_new' (Kd.R_new' ho0 (Kd.R_lt (by (with_reducible repeat (first | apply Kd.R_alloc | apply Kd.R_drewN | apply Kd.R_drew)); exact HO_4.out))) (Kd.R_lt (by (with_reducible repeat (first | apply Kd.R_alloc | apply Kd.R_drewN | apply Kd.R_drew)); exact HO380.out))) (below_size (by repeat (first | (with_reducible first | exact HB.out | apply below_alloc | apply pw_below_drewN | apply below_drew1 | refine below_set ?_ GE377.out) | exact HB.out))))
                      have n5_ := Aside0.mk (blk_below (g := gb377) (o := .cells #[.int .i64 ((rd_T42 x5_1 x67_2).f0), .int .i64 ((rd_T42 x5_1 x67_2).f1)] 42 (0, 0)) (by (with_reducible repeat (first | refine blk_drewN ?_ _ | refine blk_drew ?_ | refine blk_alloc ?_ _)); exact BK377.out) hb)
                      have n6_ := Aside0.mk (below_step (by repeat (first | (with_reducible first | exact HB.out | apply below_alloc | apply pw_below_drewN | apply below_drew1 | refine below_set ?_ GE377.out) | exact HB.out)) hb)
                      clear HO_4
                      clear HO_6
                      clear HO_65
                      clear HO380
                      clear BK377
                      clear HB
                      have HO_4 := n0_
                      have HO_6 := n1_
                      have HO_65 := n2_
                      have HO380 := n3_
                      have HO383 := n4_
                      have BK377 := n5_
                      have HB := n6_
                      clear n0_ n1_ n2_ n3_ n4_ n5_ n6_
                      (try clear hb)
                      (try clear hb2)
                      (try clear hk)
                      (try clear hi)
                      (try clear ho0)
                      refine hK.out _ _ ⟨(blk_cell BK377.out 0).trans rfl, (blk_cell BK377.out 1).trans rfl⟩ (fun hHeld => ?_)
                      clear hK K
                      refine norm_ (a' := ?_) ?_ ?_
                      rotate_left
                      · show Act.put _ (some 76) _ = _
                        simp only [Act.put, List.setIfInBounds_toArray, List.set_cons_zero, List.set_cons_succ, i64_w, i32_w]
                        rfl
                      refine pure_ (i := 4) (N := some 72) (v := ?_) (a' := ?_) #[true, true, true, true, true, false, false, false, false, false, false] rfl rfl (any_of HT_.out (by kernel_rfl)) (fun _ _ _ h => h) (Or.inl ⟨by rfl, ?_⟩) ?_ ?_
                      rotate_left
                      · intro w'
                        go_simp
                        with_reducible rfl
                      rotate_left
                      · simp only [Act.put, List.setIfInBounds_toArray, List.set_cons_zero, List.set_cons_succ, i64_w, i32_w]
                        rfl
                      refine pure_ (i := 5) (N := some 77) (v := ?_) (a' := ?_) #[true, true, true, true, true, true, false, false, false, false, false] rfl rfl (any_of HT_.out (by kernel_rfl)) (fun _ _ _ h => h) (Or.inl ⟨by rfl, ?_⟩) ?_ ?_
                      rotate_left
                      · intro w'
                        go_simp
                        with_reducible rfl
                      rotate_left
                      · simp only [Act.put, List.setIfInBounds_toArray, List.set_cons_zero, List.set_cons_succ, i64_w, i32_w]
                        rfl
                      refine pure_ (i := 6) (N := some 78) (v := ?_) (a' := ?_) #[true, true, true, true, true, true, true, false, false, false, false] rfl rfl (any_of HT_.out (by kernel_rfl)) (fun _ _ _ h => h) (Or.inl ⟨by rfl, ?_⟩) ?_ ?_
                      rotate_left
                      · intro w'
                        go_simp
                        with_reducible rfl
                      rotate_left
                      · simp only [Act.put, List.setIfInBounds_toArray, List.set_cons_zero, List.set_cons_succ, i64_w, i32_w]
                        rfl
                      refine pure_ (i := 7) (N := some 79) (v := ?_) (a' := ?_) #[true, true, true, true, true, true, true, true, false, false, false] rfl rfl (any_of HT_.out (by kernel_rfl)) (fun _ _ _ h => h) (Or.inl ⟨by rfl, ?_⟩) ?_ ?_
                      rotate_left
                      · intro w'
                        go_simp
                        with_reducible rfl
                      rotate_left
                      · simp only [Act.put, List.setIfInBounds_toArray, List.set_cons_zero, List.set_cons_succ, i64_w, i32_w]
                        rfl
                      refine pure_ (i := 8) (N := some 14) (v := ?_) (a' := ?_) #[true, true, true, true, true, true, true, true, true, false, false] rfl rfl (any_of HT_.out (by kernel_rfl)) (fun _ _ _ h => h) (Or.inl ⟨by rfl, ?_⟩) ?_ ?_
                      rotate_left
                      · intro w'
                        go_simp
                        with_reducible rfl
                      rotate_left
                      · simp only [Act.put, List.setIfInBounds_toArray, List.set_cons_zero, List.set_cons_succ, i64_w, i32_w]
                        rfl
                      refine pure_ (i := 9) (N := some 15) (v := ?_) (a' := ?_) #[true, true, true, true, true, true, true, true, true, true, false] rfl rfl (any_of HT_.out (by kernel_rfl)) (fun _ _ _ h => h) (Or.inl ⟨by rfl, ?_⟩) ?_ ?_
                      rotate_left
                      · intro w'
                        go_simp
                        with_reducible rfl
                      rotate_left
                      · simp only [Act.put, List.setIfInBounds_toArray, List.set_cons_zero, List.set_cons_succ, i64_w, i32_w]
                        rfl
                      refine pure_ (i := 10) (N := some 16) (v := ?_) (a' := ?_) #[true, true, true, true, true, true, true, true, true, true, true] rfl rfl (any_of HT_.out (by kernel_rfl)) (fun _ _ _ h => h) (Or.inl ⟨by rfl, ?_⟩) ?_ ?_
                      rotate_left
                      · intro w'
                        go_simp
                        with_reducible rfl
                      rotate_left
                      · simp only [Act.put, List.setIfInBounds_toArray, List.set_cons_zero, List.set_cons_succ, i64_w, i32_w]
                        rfl
                      refine done_ (done_of HT_.out (by kernel_rfl)) ?_
                      obtain ⟨Ao66, co66, eo66⟩ := Kd.S_slice HO_6.out
                      subst eo66
                      have p386 : 0 ≤ (x67_2 : Int) := of_decide_eq_true (by first | (with_reducible assumption) | assumption)
                      have q386 : x67_2 < (x6_1.length : Int) := of_decide_eq_true (by first | (with_reducible assumption) | assumption)
                      obtain ⟨ad386, A386_0, c386_0, e386, hx386_0, hl386_0, hi386_0⟩ := at_L4 (Kd.S_reads' HO_6.out).2.2 x67_2 p386 q386
                      cases e386
                      obtain ⟨ce386, hce386, hMe386, hcc386⟩ := Kd.S_get HO_6.out [] x67_2 p386 (by first | exact q386 | exact of_decide_eq_true (by first | (with_reducible assumption) | assumption) | (have e_ := (Kd.S_reads' HO_6.out).1; omega))
                      obtain ⟨ve386_0, rfl, ge386_0⟩ := hMe386
                      have hv386_0 := hcc386 0 _ rfl
                      rw [Nat.add_zero, show ((Kd.slice 5 (Kd.int .u8))).sz = 1 from rfl, Nat.mul_one] at hv386_0
                      replace hv386_0 := Option.some.inj (hv386_0.symm.trans hx386_0)
                      rw [hv386_0] at ge386_0
                      have HL386_0 := Aside0.mk (show Kd.R (Kd.int .u8) 5 _ _ _ _ (rd_L4 x6_1 x67_2) from ge386_0)
                      clear hv386_0 ge386_0
                      clear hcc386 hce386
                      have HR386_0 := Aside0.mk hi386_0
                      have HC386_0 := Aside0.mk hl386_0
                      clear hi386_0 hl386_0
                      replace p386 := eq_true p386
                      replace q386 := eq_true q386
                      try go_wp2_with (first | ((with_reducible refine gate_callee (f := 25) rfl ?_); refine goesL_ (some 84) rfl rfl Tryd.func25 (by kernel_rfl) rfl #[.slice A386_0 (rd_L4 x6_1 x67_2).length c386_0] rfl (by (try simp only [List.map_toArray, List.map_cons, List.map_nil]); first | done | rfl | (simp only [List.length_drop, List.length_take]; rfl)) ?_; (with_reducible refine (spec_DecodeText.calls k2 _ _ (rd_L4 x6_1 x67_2) t387 _ ?side1 ?side2 A57.out).mono ?_); (case side1 => repeat (first | exact (by repeat (first | (with_reducible exact HR386_0.out) | (with_reducible refine Kd.C_alloc ?_ _) | (with_reducible refine Kd.C_drewN ?_ _) | (with_reducible refine Kd.C_drew ?_) | exact HR386_0.out)) | (with_reducible refine Kd.C_alloc ?_ _) | (with_reducible refine Kd.C_drewN ?_ _) | (with_reducible refine Kd.C_drew ?_))); (case side2 => exact HC386_0.out); rintro e w67 ⟨v388, rfl, ho0, hb⟩; refine ⟨_, rfl, ?_⟩; have n0_ := Aside0.mk (Kd.R_elder' (by (with_reducible repeat (first | apply Kd.R_alloc | apply Kd.R_drewN | apply Kd.R_drew)); exact HO_4.out) (Kd.R_base ho0) hb); have n1_ := Aside0.mk (Kd.S_below (by (with_reducible repeat (first | apply Kd.S_alloc | apply Kd.S_drewN | apply Kd.S_drew)); exact HO_6.out) hb); have n2_ := Aside0.mk (Kd.R_below (by (with_reducible repeat (first | apply Kd.R_alloc | apply Kd.R_drewN | apply Kd.R_drew)); exact HO_65.out) hb); have n3_ := Aside0.mk (Kd.R_elder' (by (with_reducible repeat (first | apply Kd.R_alloc | apply Kd.R_drewN | apply Kd.R_drew)); exact HO380.out) (Kd.R_base ho0) hb); have n4_ := Aside0.mk (Kd.R_elder' (by (with_reducible repeat (first | apply Kd.R_alloc | apply Kd.R_drewN | apply Kd.R_drew)); exact HO383.out) (Kd.R_base ho0) hb); have n5_ := Aside0.mk (Kd.R_below (by (with_reducible repeat (first | apply Kd.R_alloc | apply Kd.R_drewN | apply Kd.R_drew)); exact HL386_0.out) hb); have n6_ := Aside0.mk (Kd.R_lower (Kd.R_new' (Kd.R_new' (Kd.R_new' ho0 (Kd.R_lt (by (with_reducible repeat (first | apply Kd.R_alloc | apply Kd.R_drewN | apply Kd.R_drew)); exact HO_4.out))) (Kd.R_lt (by (with_reducible repeat (first | apply Kd.R_alloc | apply Kd.R_drewN | apply Kd.R_drew)); exact HO380.out))) (Kd.R_lt (by (with_reducible repeat (first | apply Kd.R_alloc | apply Kd.R_drewN | apply Kd.R_drew)); exact HO383.out))) (below_size (by repeat (first | (with_reducible first | exact HB.out | apply below_alloc | apply pw_below_drewN | apply below_drew1 | refine below_set ?_ GE377.out) | exact HB.out)))); have n7_ := Aside0.mk (blk_below (g := gb377) (o := .cells #[.int .i64 ((rd_T42 x5_1 x67_2).f0), .int .i64 ((rd_T42 x5_1 x67_2).f1)] 42 (0, 0)) (by (with_reducible repeat (first | refine blk_drewN ?_ _ | refine blk_drew ?_ | refine blk_alloc ?_ _)); exact BK377.out) hb); have n8_ := Aside0.mk (Kd.C_below (by repeat (first | (with_reducible exact HR386_0.out) | (with_reducible refine Kd.C_alloc ?_ _) | (with_reducible refine Kd.C_drewN ?_ _) | (with_reducible refine Kd.C_drew ?_) | exact HR386_0.out)) hb); have n9_ := Aside0.mk (below_step (by repeat (first | (with_reducible first | exact HB.out | apply below_alloc | apply pw_below_drewN | apply below_drew1 | refine below_set ?_ GE377.out) | exact HB.out)) hb); clear HO_4; clear HO_6; clear HO_65; clear HO380; clear HO383; clear HL386_0; clear BK377; clear HR386_0; clear HB; have HO_4 := n0_; have HO_6 := n1_; have HO_65 := n2_; have HO380 := n3_; have HO383 := n4_; have HL386_0 := n5_; have HO389 := n6_; have BK377 := n7_; have HR386_0 := n8_; have HB := n9_; clear n0_ n1_ n2_ n3_ n4_ n5_ n6_ n7_ n8_ n9_; (try clear hb); (try clear hb2); (try clear hk); (try clear hi); (try clear ho0); obtain ⟨Ao68, co68, eo68⟩ := Kd.R_slice HO389.out; subst eo68))
                      go_loopg [18, 87] k2 (fun kq v18 v87 w' => ∃ (x18_3 : Int) (x87_3 : Int), v18 = .int .i64 x18_3 ∧ v87 = .int .i64 x87_3 ∧ Aside0 (laws_FnStore.l2 kq x4_1 x6_1 t381 t384 t385 t387 x18_3 x5_1 (x5_1.length : Int) x67_2 t387 (t387.length : Int) x87_3 = some r) ∧ Aside0 (kq ≤ k2) ∧ Aside0 (Kd.R (Kd.int .i32) 21 w' w.heap.size (fun k_ => some k_ ≠ (v382 : Value).ownBlock ∧ some k_ ≠ ((.slice Ao68 t387.length co68) : Value).ownBlock ∧ some k_ ≠ ((.slice Ao68 t387.length co68) : Value).ownBlock) (.slice Ao62 x4_1.length co62) x4_1) ∧ Aside0 (Kd.S (Kd.slice 5 (Kd.int .u8)) 24 w' w.heap.size (fun _ => True) (.slice (some ad386) x6_1.length co66) x6_1) ∧ Aside0 (Kd.R (Kd.int .i32) 21 w' w.heap.size (fun k_ => some k_ ≠ ((.slice Ao62 x4_1.length co62) : Value).ownBlock ∧ some k_ ≠ ((.slice Ao68 t387.length co68) : Value).ownBlock ∧ some k_ ≠ ((.slice Ao68 t387.length co68) : Value).ownBlock) v382 t381) ∧ Aside0 (Kd.R (Kd.int .i32) 21 w' w.heap.size (fun k_ => some k_ ≠ ((.slice Ao62 x4_1.length co62) : Value).ownBlock ∧ some k_ ≠ (v382 : Value).ownBlock) (.slice Ao68 t387.length co68) t387) ∧ Aside0 (Kd.R k42 42 w' w.heap.size (fun k_ => k_ ≠ gb377) (.slice (some ad376) x5_1.length co50) x5_1) ∧ Aside0 (Kd.R (Kd.int .i32) 21 w' w.heap.size (fun k_ => some k_ ≠ ((.slice Ao62 x4_1.length co62) : Value).ownBlock ∧ some k_ ≠ (v382 : Value).ownBlock) (.slice Ao68 t387.length co68) t387) ∧ Aside0 (w'.heap[gb377]? = some (.cells #[.int .i64 ((rd_T42 x5_1 x67_2).f0), .int .i64 ((rd_T42 x5_1 x67_2).f1)] 42 (0, 0))) ∧ Aside0 (Kd.C (Kd.int .u8) w' A386_0 (rd_L4 x6_1 x67_2).length (rd_L4 x6_1 x67_2)) ∧ Aside0 (Below w.heap.size w w'))
                      case atStart => exact ⟨(0), (0), (by first | rfl | (simp; done) | (simp [*]; done)), (by first | rfl | (simp; done) | (simp [*]; done)), H', ⟨Nat.le_refl _⟩, ⟨by (with_reducible repeat (first | apply Kd.R_alloc | apply Kd.R_drewN | apply Kd.R_drew)); exact Kd.R_mono HO_4.out (fun _ hk => ⟨hk.1.2, ⟨hk.2, hk.2⟩⟩)⟩, ⟨by (with_reducible repeat (first | apply Kd.S_alloc | apply Kd.S_drewN | apply Kd.S_drew)); exact HO_6.out⟩, ⟨by (with_reducible repeat (first | apply Kd.R_alloc | apply Kd.R_drewN | apply Kd.R_drew)); exact Kd.R_mono HO383.out (fun _ hk => ⟨hk.1.1.2, ⟨hk.2, hk.2⟩⟩)⟩, ⟨by (with_reducible repeat (first | apply Kd.R_alloc | apply Kd.R_drewN | apply Kd.R_drew)); exact Kd.R_mono HO389.out (fun _ hk => ⟨hk.1.1.2, hk.2⟩)⟩, ⟨by (with_reducible repeat (first | apply Kd.R_alloc | apply Kd.R_drewN | apply Kd.R_drew)); exact HO_65.out⟩, ⟨by (with_reducible repeat (first | apply Kd.R_alloc | apply Kd.R_drewN | apply Kd.R_drew)); exact Kd.R_mono HO389.out (fun _ hk => ⟨hk.1.1.2, hk.2⟩)⟩, ⟨by (with_reducible repeat (first | refine blk_drewN ?_ _ | refine blk_drew ?_ | refine blk_alloc ?_ _)); exact BK377.out⟩, ⟨by repeat (first | (with_reducible exact HR386_0.out) | (with_reducible refine Kd.C_alloc ?_ _) | (with_reducible refine Kd.C_drewN ?_ _) | (with_reducible refine Kd.C_drew ?_) | exact HR386_0.out)⟩, ⟨by repeat (first | (with_reducible first | exact HB.out | apply below_alloc | apply pw_below_drewN | apply below_drew1 | refine below_set ?_ GE377.out) | exact HB.out)⟩⟩
                      case round =>
                        clear H'
                        try clear c1
                        try clear c2
                        try clear c2b0
                        try clear c2b1
                        try clear p2
                        try clear c3
                        try clear p3
                        try clear q3
                        try clear hx3
                        try clear c4
                        try clear c5
                        try clear p6
                        try clear c15
                        try clear c15b0
                        try clear c17
                        try clear c18
                        try clear c19
                        try clear c20
                        try clear c21
                        try clear c21b0
                        try clear c21b1
                        try clear c22
                        try clear c23
                        try clear c24
                        try clear c25
                        try clear c34
                        try clear p37
                        try clear q37
                        try clear hx37
                        try clear c38
                        try clear p38
                        try clear q38
                        try clear hx38
                        try clear c48
                        try clear c51
                        try clear c51b0
                        try clear c52
                        try clear c52b0
                        try clear c53
                        try clear c53b0
                        try clear c56
                        try clear c56b0
                        try clear p64
                        try clear hcz35_0
                        try clear hcz35_1
                        try clear hcz49_0
                        try clear hcz49_1
                        try clear hcz59_0
                        try clear hcz59_1
                        try clear hfz35_0
                        try clear hfz35_1
                        try clear hfz49_0
                        try clear hfz49_1
                        try clear hfz59_0
                        try clear hfz59_1
                        try clear hx376_0
                        try clear hx376_1
                        try clear hx386_0
                        try clear p2
                        try clear p376
                        try clear p386
                        try clear p6
                        try clear q376
                        try clear q386
                        obtain ⟨x18_3, x87_3, rfl, rfl, HA, HK3, HO_4, HO_6, HO_14, HO_17, HO_65, HO_85, BK377, HR386_0, HB⟩ := hrel
                        cases gk with
                        | zero => exact absurd HA.out (by simp [laws_FnStore.l2])
                        | succ k3 =>
                          have H := HA.out
                          clear HA
                          simp only [laws_FnStore.l2] at H
                          by_cases c69 : x87_3 < (t387.length : Int)
                          · rw [if_pos c69] at H
                            have c69b0 : decide (x87_3 < (t387.length : Int)) = true := decide_eq_true c69
                            clear c69
                            by_cases c70 : 0 ≤ x87_3
                            · rw [if_pos c70] at H
                              have c70b0 : decide (0 ≤ x87_3) = true := decide_eq_true c70
                              clear c70
                              by_cases c71 : x87_3 < (t387.length : Int)
                              · rw [if_pos c71] at H
                                have c71b0 : decide (x87_3 < (t387.length : Int)) = true := decide_eq_true c71
                                clear c71
                                by_cases c72 : (rd t387 x87_3) = 10
                                · rw [if_pos c72] at H
                                  have c72b0 : ((rd t387 x87_3) == 10) = true := beq_iff_eq.mpr c72
                                  have c72b1 : ((rd t387 x87_3) != 10) = false := bne_eq_false_iff_eq.mpr c72
                                  clear c72
                                  have H' := Aside0.mk H
                                  clear H
                                  have p390 : 0 ≤ (x87_3 : Int) := of_decide_eq_true (by first | (with_reducible assumption) | assumption)
                                  have q390 : x87_3 < (t387.length : Int) := of_decide_eq_true (by first | (with_reducible assumption) | assumption)
                                  obtain ⟨ad390, e390, hx390_0⟩ := Kd.at_int (Kd.R_reads' HO_85.out).2.2 x87_3 p390 q390
                                  cases e390
                                  replace p390 := eq_true p390
                                  replace q390 := eq_true q390
                                  go_wp2
                                  go_roundg k3
                                  case measure => have := HK1.out; have := HK2.out; have := HK3.out; omega
                                  case rel => exact ⟨(wrap64 (x18_3 + 1)), (wrap64 (x87_3 + 1)), (by first | rfl | (simp; done) | (simp [*]; done)), (by first | rfl | (simp; done) | (simp [*]; done)), H', ⟨by have := HK1.out; have := HK2.out; have := HK3.out; omega⟩, ⟨by (with_reducible repeat (first | apply Kd.R_alloc | apply Kd.R_drewN | apply Kd.R_drew)); exact HO_4.out⟩, ⟨by (with_reducible repeat (first | apply Kd.S_alloc | apply Kd.S_drewN | apply Kd.S_drew)); exact HO_6.out⟩, ⟨by (with_reducible repeat (first | apply Kd.R_alloc | apply Kd.R_drewN | apply Kd.R_drew)); exact HO_14.out⟩, ⟨by (with_reducible repeat (first | apply Kd.R_alloc | apply Kd.R_drewN | apply Kd.R_drew)); exact HO_17.out⟩, ⟨by (with_reducible repeat (first | apply Kd.R_alloc | apply Kd.R_drewN | apply Kd.R_drew)); exact HO_65.out⟩, ⟨by (with_reducible repeat (first | apply Kd.R_alloc | apply Kd.R_drewN | apply Kd.R_drew)); exact HO_85.out⟩, ⟨by (with_reducible repeat (first | refine blk_drewN ?_ _ | refine blk_drew ?_ | refine blk_alloc ?_ _)); exact BK377.out⟩, ⟨by repeat (first | (with_reducible exact HR386_0.out) | (with_reducible refine Kd.C_alloc ?_ _) | (with_reducible refine Kd.C_drewN ?_ _) | (with_reducible refine Kd.C_drew ?_) | exact HR386_0.out)⟩, ⟨by repeat (first | (with_reducible first | exact HB.out | apply below_alloc | apply pw_below_drewN | apply below_drew1 | refine below_set ?_ GE377.out) | exact HB.out)⟩⟩
                                · rw [if_neg c72] at H
                                  have c72b0 : ((rd t387 x87_3) == 10) = false := beq_eq_false_iff_ne.mpr c72
                                  have c72b1 : ((rd t387 x87_3) != 10) = true := bne_iff_ne.mpr c72
                                  have H' := Aside0.mk H
                                  clear H
                                  have p390 : 0 ≤ (x87_3 : Int) := of_decide_eq_true (by first | (with_reducible assumption) | assumption)
                                  have q390 : x87_3 < (t387.length : Int) := of_decide_eq_true (by first | (with_reducible assumption) | assumption)
                                  obtain ⟨ad390, e390, hx390_0⟩ := Kd.at_int (Kd.R_reads' HO_85.out).2.2 x87_3 p390 q390
                                  cases e390
                                  replace p390 := eq_true p390
                                  replace q390 := eq_true q390
                                  go_wp2
                                  go_roundg k3
                                  case measure => have := HK1.out; have := HK2.out; have := HK3.out; omega
                                  case rel => exact ⟨(x18_3), (wrap64 (x87_3 + 1)), (by first | rfl | (simp; done) | (simp [*]; done)), (by first | rfl | (simp; done) | (simp [*]; done)), H', ⟨by have := HK1.out; have := HK2.out; have := HK3.out; omega⟩, ⟨by (with_reducible repeat (first | apply Kd.R_alloc | apply Kd.R_drewN | apply Kd.R_drew)); exact HO_4.out⟩, ⟨by (with_reducible repeat (first | apply Kd.S_alloc | apply Kd.S_drewN | apply Kd.S_drew)); exact HO_6.out⟩, ⟨by (with_reducible repeat (first | apply Kd.R_alloc | apply Kd.R_drewN | apply Kd.R_drew)); exact HO_14.out⟩, ⟨by (with_reducible repeat (first | apply Kd.R_alloc | apply Kd.R_drewN | apply Kd.R_drew)); exact HO_17.out⟩, ⟨by (with_reducible repeat (first | apply Kd.R_alloc | apply Kd.R_drewN | apply Kd.R_drew)); exact HO_65.out⟩, ⟨by (with_reducible repeat (first | apply Kd.R_alloc | apply Kd.R_drewN | apply Kd.R_drew)); exact HO_85.out⟩, ⟨by (with_reducible repeat (first | refine blk_drewN ?_ _ | refine blk_drew ?_ | refine blk_alloc ?_ _)); exact BK377.out⟩, ⟨by repeat (first | (with_reducible exact HR386_0.out) | (with_reducible refine Kd.C_alloc ?_ _) | (with_reducible refine Kd.C_drewN ?_ _) | (with_reducible refine Kd.C_drew ?_) | exact HR386_0.out)⟩, ⟨by repeat (first | (with_reducible first | exact HB.out | apply below_alloc | apply pw_below_drewN | apply below_drew1 | refine below_set ?_ GE377.out) | exact HB.out)⟩⟩
                              · rw [if_neg c71] at H
                                exact absurd H (by simp)
                            · rw [if_neg c70] at H
                              exact absurd H (by simp)
                          · rw [if_neg c69] at H
                            have c69b0 : decide (x87_3 < (t387.length : Int)) = false := decide_eq_false c69
                            clear c69
                            by_cases c73 : t385 = 0
                            · rw [if_pos c73] at H
                              have c73b0 : (t385 == 0) = true := beq_iff_eq.mpr c73
                              have c73b1 : (t385 != 0) = false := bne_eq_false_iff_eq.mpr c73
                              clear c73
                              replace H := Option.bind_eq_some_iff.mp H
                              obtain ⟨t391, A740, H⟩ := H
                              replace H : (if t391 = true then (if t384 = x18_3 then (laws_FnStore.l1 k3 x4_1 x6_1 x5_1 (x5_1.length : Int) (wrap64 (x67_2 + 1))) else (some false)) else (some false)) = some r := H
                              have A74 := Aside0.mk A740
                              clear A740
                              by_cases c75 : t391 = true
                              · subst c75
                                have H1 : (if t384 = x18_3 then (laws_FnStore.l1 k3 x4_1 x6_1 x5_1 (x5_1.length : Int) (wrap64 (x67_2 + 1))) else (some false)) = some r := by rw [if_pos rfl] at H; exact H
                                clear H
                                have H := H1
                                clear H1
                                by_cases c76 : t384 = x18_3
                                · rw [if_pos c76] at H
                                  have c76b0 : (t384 == x18_3) = true := beq_iff_eq.mpr c76
                                  have c76b1 : (t384 != x18_3) = false := bne_eq_false_iff_eq.mpr c76
                                  clear c76
                                  have H' := Aside0.mk H
                                  clear H
                                  obtain ⟨Ao77, co77, eo77⟩ := Kd.R_slice HO_14.out
                                  subst eo77
                                  go_wp2_with (first | (go_at_call 26; (with_reducible refine (laws_smText.calls k3 _ _ t381 _ _ t387 true _ ?side1 ?side2 ?side3 ?side4 A74.out).mono ?_); (case side1 => repeat (first | exact (Kd.R_reads' HO_14.out).2.2 | (with_reducible refine Kd.C_alloc ?_ _) | (with_reducible refine Kd.C_drewN ?_ _) | (with_reducible refine Kd.C_drew ?_))); (case side2 => exact (Kd.R_reads' HO_14.out).2.1); (case side3 => repeat (first | exact (Kd.R_reads' HO_17.out).2.2 | (with_reducible refine Kd.C_alloc ?_ _) | (with_reducible refine Kd.C_drewN ?_ _) | (with_reducible refine Kd.C_drew ?_))); (case side4 => exact (Kd.R_reads' HO_17.out).2.1); rintro e w' ⟨rfl, ⟨nd, rfl⟩⟩))
                                  go_roundg k3
                                  case measure => have := HK1.out; have := HK2.out; have := HK3.out; omega
                                  case rel => exact ⟨(wrap64 (x67_2 + 1)), (by first | rfl | (simp; done) | (simp [*]; done)), H', ⟨by have := HK1.out; have := HK2.out; have := HK3.out; omega⟩, ⟨by (with_reducible repeat (first | apply Kd.R_alloc | apply Kd.R_drewN | apply Kd.R_drew)); exact Kd.R_mono HO_4.out (fun _ hk => trivial)⟩, ⟨by (with_reducible repeat (first | apply Kd.S_alloc | apply Kd.S_drewN | apply Kd.S_drew)); exact HO_6.out⟩, ⟨by (with_reducible repeat (first | apply Kd.R_alloc | apply Kd.R_drewN | apply Kd.R_drew)); exact Kd.R_mono HO_65.out (fun _ hk => trivial)⟩, ⟨by repeat (first | (with_reducible first | exact HB.out | apply below_alloc | apply pw_below_drewN | apply below_drew1 | refine below_set ?_ GE377.out) | exact HB.out)⟩⟩
                                · rw [if_neg c76] at H
                                  have c76b0 : (t384 == x18_3) = false := beq_eq_false_iff_ne.mpr c76
                                  have c76b1 : (t384 != x18_3) = true := bne_iff_ne.mpr c76
                                  obtain rfl := Option.some.inj H
                                  obtain ⟨Ao78, co78, eo78⟩ := Kd.R_slice HO_14.out
                                  subst eo78
                                  go_wp2_with (first | (go_at_call 26; (with_reducible refine (laws_smText.calls k3 _ _ t381 _ _ t387 true _ ?side1 ?side2 ?side3 ?side4 A74.out).mono ?_); (case side1 => repeat (first | exact (Kd.R_reads' HO_14.out).2.2 | (with_reducible refine Kd.C_alloc ?_ _) | (with_reducible refine Kd.C_drewN ?_ _) | (with_reducible refine Kd.C_drew ?_))); (case side2 => exact (Kd.R_reads' HO_14.out).2.1); (case side3 => repeat (first | exact (Kd.R_reads' HO_17.out).2.2 | (with_reducible refine Kd.C_alloc ?_ _) | (with_reducible refine Kd.C_drewN ?_ _) | (with_reducible refine Kd.C_drew ?_))); (case side4 => exact (Kd.R_reads' HO_17.out).2.1); rintro e w' ⟨rfl, ⟨nd, rfl⟩⟩))
                                  go_ret
                                  exact ⟨by first | rfl | (simp [errW_none, errW_some] <;> rfl) | (simp [*, errW_none, errW_some] <;> rfl), by repeat (first | (with_reducible first | exact HB.out | apply below_alloc | apply pw_below_drewN | apply below_drew1 | refine below_set ?_ GE377.out) | exact HB.out)⟩
                              · replace c75 := Bool.eq_false_iff.mpr c75
                                subst c75
                                have H1 : (some false) = some r := by rw [if_neg (show ¬ (false = true) by decide)] at H; exact H
                                clear H
                                have H := H1
                                clear H1
                                obtain rfl := Option.some.inj H
                                obtain ⟨Ao79, co79, eo79⟩ := Kd.R_slice HO_14.out
                                subst eo79
                                go_wp2_with (first | (go_at_call 26; (with_reducible refine (laws_smText.calls k3 _ _ t381 _ _ t387 false _ ?side1 ?side2 ?side3 ?side4 A74.out).mono ?_); (case side1 => repeat (first | exact (Kd.R_reads' HO_14.out).2.2 | (with_reducible refine Kd.C_alloc ?_ _) | (with_reducible refine Kd.C_drewN ?_ _) | (with_reducible refine Kd.C_drew ?_))); (case side2 => exact (Kd.R_reads' HO_14.out).2.1); (case side3 => repeat (first | exact (Kd.R_reads' HO_17.out).2.2 | (with_reducible refine Kd.C_alloc ?_ _) | (with_reducible refine Kd.C_drewN ?_ _) | (with_reducible refine Kd.C_drew ?_))); (case side4 => exact (Kd.R_reads' HO_17.out).2.1); rintro e w' ⟨rfl, ⟨nd, rfl⟩⟩))
                                go_ret
                                exact ⟨by first | rfl | (simp [errW_none, errW_some] <;> rfl) | (simp [*, errW_none, errW_some] <;> rfl), by repeat (first | (with_reducible first | exact HB.out | apply below_alloc | apply pw_below_drewN | apply below_drew1 | refine below_set ?_ GE377.out) | exact HB.out)⟩
                            · rw [if_neg c73] at H
                              have c73b0 : (t385 == 0) = false := beq_eq_false_iff_ne.mpr c73
                              have c73b1 : (t385 != 0) = true := bne_iff_ne.mpr c73
                              obtain rfl := Option.some.inj H
                              go_wp2
                              go_ret
                              exact ⟨by first | rfl | (simp [errW_none, errW_some] <;> rfl) | (simp [*, errW_none, errW_some] <;> rfl), by repeat (first | (with_reducible first | exact HB.out | apply below_alloc | apply pw_below_drewN | apply below_drew1 | refine below_set ?_ GE377.out) | exact HB.out)⟩
                    · rw [if_neg c56] at H
                      exact absurd H (by simp)
                  · rw [if_neg c53] at H
                    exact absurd H (by simp)
                · rw [if_neg c52] at H
                  exact absurd H (by simp)
              · rw [if_neg c51] at H
                have c51b0 : decide (x67_2 < (x5_1.length : Int)) = false := decide_eq_false c51
                clear c51
                obtain rfl := Option.some.inj H
                go_wp2
                go_ret
                exact ⟨by first | rfl | (simp [errW_none, errW_some] <;> rfl) | (simp [*, errW_none, errW_some] <;> rfl), by repeat (first | (with_reducible first | exact HB.out | apply below_alloc | apply pw_below_drewN | apply below_drew1) | exact HB.out)⟩

end Go.Proofs.YtefdjajmnkmbgaaDoor.QFnStore
