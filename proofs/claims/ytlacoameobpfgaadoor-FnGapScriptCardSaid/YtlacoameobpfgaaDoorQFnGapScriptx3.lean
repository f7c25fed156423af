/- What the law FnGapScript reaches: each function as a plain function, and that the machine's call does it (written by a program). The condition, where there is one: errors.errorType reads as laid. -/
import Derived.Test.YtlacoameobpfgaaDoorQFnGapScriptx0
import Derived.Test.YtlacoameobpfgaaDoorQFnGapScriptx1
import Derived.Test.YtlacoameobpfgaaDoorQFnGapScriptx2
import Derived.Test.YtlacoameobpfgaaDoorSq
namespace Go.Proofs.YtlacoameobpfgaaDoor.QFnGapScript
open Go.Proofs.YtlacoameobpfgaaDoor.Er Go.Proofs.YtlacoameobpfgaaDoor.Sq
open Go.RowKit Go.Proofs.YtlacoameobpfgaaDoorW.PrintWords Go.Proofs.YtlacoameobpfgaaDoorW.PrintLast Go.Proofs.YtlacoameobpfgaaDoorW.PrintMore
attribute [local go_sem] max2_int min2_int max_two min_two max_three min_three max_four min_four   -- for this text's walks alone
set_option linter.unusedVariables false
set_option linter.unusedSimpArgs false

/-! ### laws_FnGapScript: function 6 -/
theorem isD {w0 W W' : World} {g : Nat} {f0 : List Int} {f1 f2 f f' : Int} (h : Aside0 (IsS121 w0 W g f0 f1 f2)) (hs : IsS121 w0 W g f0 f1 f2 → IsS121 w0 W' g f0 f f' := by intro h_; repeat (first | (with_reducible first | exact h_ | apply IsS121.alloc | apply IsS121.drewN | apply IsS121.drew | apply IsS121.set_1 | apply IsS121.set_2) | (with_reducible refine IsS121.far ?_ (Aside0.out (by assumption)) _) | exact h_)) : IsS121 w0 W' g f0 f f' := hs h.out
mutual
def laws_FnGapScript.l0 : Nat → List Int → Int → List Int → Int → Int → List Int → Int → Int → Option (Bool)
 | 0, _, _, _, _, _, _, _, _ => none
 | k + 1, x5, x6, x188000, x188001, x188002, x189000, x189001, x189002 => if x6 > 0 then ((spec_l1Src_N.f x188000 x188001 x188002 (wrap64 ((x5.length : Int) + 1))).bind fun bt196 => ((spec_l1Src_N.f x188000 bt196.2.1 bt196.2.2 3).bind fun bt199 => (if bt199.1 > 0 then ((spec_l1Src_N.f x188000 bt199.2.1 bt199.2.2 20).bind fun bt202 => ((spec_L1Text.f k x188000 bt202.2.1 bt202.2.2 bt202.1).bind fun bt205 => ((laws_cpText.f bt205.1).bind fun t210 => ((impl_GapInsert.f x189000 x189001 x189002 bt196.1 t210).bind fun bt213 => (if bt213.2.2.2 = 0 then (if 0 ≤ bt196.1 then (if bt196.1 ≤ (x5.length : Int) then ((laws_cpText.f (x5.take (bt196.1 : Int).toNat)).bind fun t224 => (if t224.length + bt205.1.length < 35184372088832 then ((some (t224 ++ bt205.1 : List Int)).bind fun y227 => ((some (x5.drop (bt196.1 : Int).toNat : List Int)).bind fun y230 => (if y227.length + y230.length < 35184372088832 then (laws_FnGapScript.j1 k (y227 ++ y230) x6 (x189000.length : Int) (wrap64 (bt196.1 + (bt205.1.length : Int))) x188000 bt205.2.1 bt205.2.2 bt213.1 bt213.2.1 bt213.2.2.1) else (none)))) else (none))) else (none)) else (none)) else (some false)))))) else ((spec_l1Src_N.f x188000 bt199.2.1 bt199.2.2 (wrap64 ((wrap64 ((x5.length : Int) - bt196.1)) + 1))).bind fun bt237 => ((impl_GapDelete.f x189000 x189001 x189002 bt196.1 (wrap64 (bt196.1 + bt237.1))).bind fun bt240 => (if bt240.2.2.2 = 0 then (if 0 ≤ bt196.1 then (if bt196.1 ≤ (x5.length : Int) then ((laws_cpText.f (x5.take (bt196.1 : Int).toNat)).bind fun t251 => (if 0 ≤ (wrap64 (bt196.1 + bt237.1)) then (if (wrap64 (bt196.1 + bt237.1)) ≤ (x5.length : Int) then ((some (x5.drop ((wrap64 (bt196.1 + bt237.1)) : Int).toNat : List Int)).bind fun y254 => (if t251.length + y254.length < 35184372088832 then (laws_FnGapScript.j1 k (t251 ++ y254) x6 (x189000.length : Int) bt196.1 x188000 bt237.2.1 bt237.2.2 bt240.1 bt240.2.1 bt240.2.2.1) else (none))) else (none)) else (none))) else (none)) else (none)) else (some false))))))) else (some true)
def laws_FnGapScript.j1 : Nat → List Int → Int → Int → Int → List Int → Int → Int → List Int → Int → Int → Option (Bool)
 | 0, _, _, _, _, _, _, _, _, _, _ => none
 | k + 1, x5, x6, x7, x9, x188000, x188001, x188002, x189000, x189001, x189002 => (spec_L3Valid.f k x189000 x189001 x189002).bind fun t261 => (if t261 = true then (if (x189000.length : Int) < x7 then (laws_FnGapScript.j2 k x5 x6 true x188000 x188001 x188002 x189000 x189001 x189002) else (laws_FnGapScript.j2 k x5 x6 (x189001 != x9) x188000 x188001 x188002 x189000 x189001 x189002)) else (laws_FnGapScript.j2 k x5 x6 true x188000 x188001 x188002 x189000 x189001 x189002))
def laws_FnGapScript.j2 : Nat → List Int → Int → Bool → List Int → Int → Int → List Int → Int → Int → Option (Bool)
 | 0, _, _, _, _, _, _, _, _, _ => none
 | k + 1, x5, x6, x124, x188000, x188001, x188002, x189000, x189001, x189002 => if x124 = true then (some false) else ((spec_l1Src_N.f x188000 x188001 x188002 (wrap64 ((x5.length : Int) + 1))).bind fun bt262 => ((laws_cpGap.f x189000 x189001 x189002).bind fun bt265 => ((impl_GapRead.f bt265.1 bt265.2.1 bt265.2.2 bt262.1 (x5.length : Int)).bind fun bt270 => ((laws_cpGap.f x189000 x189001 x189002).bind fun bt274 => ((impl_GapRead.f bt274.1 bt274.2.1 bt274.2.2 0 (x5.length : Int)).bind fun bt279 => (if bt270.2 = 0 then (if bt279.2 = 0 then ((laws_smText.f k bt279.1 x5).bind fun t283 => (if t283 = true then (if 0 ≤ bt262.1 then (if bt262.1 ≤ (x5.length : Int) then ((laws_smText.f k bt270.1 (x5.drop (bt262.1 : Int).toNat)).bind fun t288 => (if t288 = true then (laws_FnGapScript.l0 k x5 (wrap64 (x6 - 1)) x188000 bt262.2.1 bt262.2.2 x189000 x189001 x189002) else (some false))) else (none)) else (none)) else (some false))) else (some false)) else (some false)))))))
end
def laws_FnGapScript.f (k : Nat) (l0 : List Int) : Option (Bool) := if (l0.length : Int) > 1048576 then (some true) else ((spec_L1Draw.f l0).bind fun bt184 => ((spec_L1Size.f l0 40).bind fun t192 => ((spec_l1Src_N.f bt184.1 bt184.2.1 bt184.2.2 t192).bind fun bt193 => (laws_FnGapScript.l0 k (([] : List Int)) (wrap64 (2 + bt193.1)) bt184.1 bt193.2.1 bt193.2.2 ([] : List Int) 0 0))))
theorem laws_FnGapScript.mono_l : ∀ k, (∀ y0 y1 y2 y3 y4 y5 y6 y7, LeO (laws_FnGapScript.l0 k y0 y1 y2 y3 y4 y5 y6 y7) (laws_FnGapScript.l0 (k + 1) y0 y1 y2 y3 y4 y5 y6 y7)) ∧ (∀ y0 y1 y2 y3 y4 y5 y6 y7 y8 y9, LeO (laws_FnGapScript.j1 k y0 y1 y2 y3 y4 y5 y6 y7 y8 y9) (laws_FnGapScript.j1 (k + 1) y0 y1 y2 y3 y4 y5 y6 y7 y8 y9)) ∧ (∀ y0 y1 y2 y3 y4 y5 y6 y7 y8, LeO (laws_FnGapScript.j2 k y0 y1 y2 y3 y4 y5 y6 y7 y8) (laws_FnGapScript.j2 (k + 1) y0 y1 y2 y3 y4 y5 y6 y7 y8))
 | 0 => ⟨fun _ _ _ _ _ _ _ _ r h => by simp [laws_FnGapScript.l0] at h, fun _ _ _ _ _ _ _ _ _ _ r h => by simp [laws_FnGapScript.j1] at h, fun _ _ _ _ _ _ _ _ _ r h => by simp [laws_FnGapScript.j2] at h⟩
 | k + 1 => by
  obtain ⟨ih0, ih1, ih2⟩ := laws_FnGapScript.mono_l k
  refine ⟨?_, ?_, ?_⟩
  ·intro y0 y1 y2 y3 y4 y5 y6 y7
   unfold laws_FnGapScript.l0
   repeat' first
   | (with_reducible exact ih0 _ _ _ _ _ _ _ _)
   | (with_reducible exact ih1 _ _ _ _ _ _ _ _ _ _)
   | (with_reducible exact ih2 _ _ _ _ _ _ _ _ _)
   | (with_reducible exact laws_smText.mono _ _ _)
   | (with_reducible exact spec_L1Text.mono _ _ _ _ _)
   | (with_reducible exact spec_L3Valid.mono _ _ _ _)
   | (with_reducible exact LeO.refl _)
   | (with_reducible exact LeO.none _)
   | (with_reducible refine LeO.ite ?_ ?_)
   | (with_reducible refine LeO.bind ?_ (fun _ => ?_))
   | exact ih0 _ _ _ _ _ _ _ _
   | exact ih1 _ _ _ _ _ _ _ _ _ _
   | exact ih2 _ _ _ _ _ _ _ _ _
   | exact laws_smText.mono _ _ _
   | exact spec_L1Text.mono _ _ _ _ _
   | exact spec_L3Valid.mono _ _ _ _
   | exact LeO.none _
   | refine LeO.ite ?_ ?_
   | refine LeO.bind ?_ (fun _ => ?_)
  ·intro y0 y1 y2 y3 y4 y5 y6 y7 y8 y9
   unfold laws_FnGapScript.j1
   repeat' first
   | (with_reducible exact ih0 _ _ _ _ _ _ _ _)
   | (with_reducible exact ih1 _ _ _ _ _ _ _ _ _ _)
   | (with_reducible exact ih2 _ _ _ _ _ _ _ _ _)
   | (with_reducible exact laws_smText.mono _ _ _)
   | (with_reducible exact spec_L1Text.mono _ _ _ _ _)
   | (with_reducible exact spec_L3Valid.mono _ _ _ _)
   | (with_reducible exact LeO.refl _)
   | (with_reducible exact LeO.none _)
   | (with_reducible refine LeO.ite ?_ ?_)
   | (with_reducible refine LeO.bind ?_ (fun _ => ?_))
   | exact ih0 _ _ _ _ _ _ _ _
   | exact ih1 _ _ _ _ _ _ _ _ _ _
   | exact ih2 _ _ _ _ _ _ _ _ _
   | exact laws_smText.mono _ _ _
   | exact spec_L1Text.mono _ _ _ _ _
   | exact spec_L3Valid.mono _ _ _ _
   | exact LeO.none _
   | refine LeO.ite ?_ ?_
   | refine LeO.bind ?_ (fun _ => ?_)
  ·intro y0 y1 y2 y3 y4 y5 y6 y7 y8
   unfold laws_FnGapScript.j2
   repeat' first
   | (with_reducible exact ih0 _ _ _ _ _ _ _ _)
   | (with_reducible exact ih1 _ _ _ _ _ _ _ _ _ _)
   | (with_reducible exact ih2 _ _ _ _ _ _ _ _ _)
   | (with_reducible exact laws_smText.mono _ _ _)
   | (with_reducible exact spec_L1Text.mono _ _ _ _ _)
   | (with_reducible exact spec_L3Valid.mono _ _ _ _)
   | (with_reducible exact LeO.refl _)
   | (with_reducible exact LeO.none _)
   | (with_reducible refine LeO.ite ?_ ?_)
   | (with_reducible refine LeO.bind ?_ (fun _ => ?_))
   | exact ih0 _ _ _ _ _ _ _ _
   | exact ih1 _ _ _ _ _ _ _ _ _ _
   | exact ih2 _ _ _ _ _ _ _ _ _
   | exact laws_smText.mono _ _ _
   | exact spec_L1Text.mono _ _ _ _ _
   | exact spec_L3Valid.mono _ _ _ _
   | exact LeO.none _
   | refine LeO.ite ?_ ?_
   | refine LeO.bind ?_ (fun _ => ?_)
theorem laws_FnGapScript.mono : ∀ a0 k, LeO (laws_FnGapScript.f k a0) (laws_FnGapScript.f (k + 1) a0) := by
 intro a0 k
 obtain ⟨ih0, ih1, ih2⟩ := laws_FnGapScript.mono_l k
 unfold laws_FnGapScript.f
 repeat' first
   | (with_reducible exact ih0 _ _ _ _ _ _ _ _)
   | (with_reducible exact ih1 _ _ _ _ _ _ _ _ _ _)
   | (with_reducible exact ih2 _ _ _ _ _ _ _ _ _)
   | (with_reducible exact laws_smText.mono _ _ _)
   | (with_reducible exact spec_L1Text.mono _ _ _ _ _)
   | (with_reducible exact spec_L3Valid.mono _ _ _ _)
   | (with_reducible exact LeO.refl _)
   | (with_reducible exact LeO.none _)
   | (with_reducible refine LeO.ite ?_ ?_)
   | (with_reducible refine LeO.bind ?_ (fun _ => ?_))
   | exact ih0 _ _ _ _ _ _ _ _
   | exact ih1 _ _ _ _ _ _ _ _ _ _
   | exact ih2 _ _ _ _ _ _ _ _ _
   | exact laws_smText.mono _ _ _
   | exact spec_L1Text.mono _ _ _ _ _
   | exact spec_L3Valid.mono _ _ _ _
   | exact LeO.none _
   | refine LeO.ite ?_ ?_
   | refine LeO.bind ?_ (fun _ => ?_)
def laws_FnGapScript.T14 : Bool × List (List Nat × List Nat) := (true, [([], []), ([], []), ([], []), ([2], [2]), ([0, 1, 3, 3], [0, 1, 3]), ([4], [4]), ([5], [5]), ([5], [5]), ([], []), ([8, 6, 4, 0, 1, 2, 3, 4, 5, 6, 8], [6, 8]), ([7, 9, 0, 1, 2, 3, 4, 5, 6, 7, 8, 9], [7])])
def laws_FnGapScript.B14 : List Nat := [0, 0, 0, 4, 15, 31, 63, 63, 0, 383, 1023]
theorem laws_FnGapScript.tab14 : rtab .any (opsOf Tryd.f6 14) = laws_FnGapScript.T14 := by kernel_rfl
theorem laws_FnGapScript.bits14 : waitsOk laws_FnGapScript.T14.2 laws_FnGapScript.B14 = true := by kernel_rfl
set_option maxHeartbeats 8000000 in
set_option maxRecDepth 100000 in
theorem laws_FnGapScript.calls (k : Nat) (A0 : Option Addr) (c0 : Nat) (l0 : List Int) (r : Bool) (w : World) (hr0 : Kd.C (Kd.int .u8) w A0 l0.length l0) (hc0 : l0.length ≤ c0)  (hgG_ : HG w) (h : laws_FnGapScript.f k l0 = some r) :
  Calls Tryd.prog 6 #[.slice A0 l0.length c0] w fun e w' => e = .returned (.bool r) ∧ Below w.heap.size w w' := by
 have hu28 := Tryd.underlying28
 have HR0 := Aside0.mk hr0
 have HC0 := Aside0.mk hc0
 clear hr0 hc0
 have HB := Aside0.mk (Below.refl w.heap.size w)
 have H : (if (l0.length : Int) > 1048576 then (some true) else ((spec_L1Draw.f l0).bind fun bt184 => ((spec_L1Size.f l0 40).bind fun t192 => ((spec_l1Src_N.f bt184.1 bt184.2.1 bt184.2.2 t192).bind fun bt193 => (laws_FnGapScript.l0 k (([] : List Int)) (wrap64 (2 + bt193.1)) bt184.1 bt193.2.1 bt193.2.2 ([] : List Int) 0 0))))) = some r := h
 clear h
 by_cases c2 : (l0.length : Int) > 1048576
 ·rw [if_pos c2] at H
  have c2b0 : decide (1048576 < (l0.length : Int)) = true := decide_eq_true c2
  have c2b1 : decide (1048576 < l0.length) = true := decide_eq_true (by omega)
  clear c2
  obtain rfl := Option.some.inj H
  go_enter Tryd.func6, Tryd.ntmps6
  go_wp2
  go_ret
  exact ⟨by first | rfl | (simp [errW_none, errW_some] <;> rfl) | (simp [*, errW_none, errW_some] <;> rfl), by repeat (first | (with_reducible first | exact HB.out | apply below_alloc | apply pw_below_drewN | apply below_drew1) | exact HB.out)⟩
 ·rw [if_neg c2] at H
  have c2b0 : decide (1048576 < (l0.length : Int)) = false := decide_eq_false c2
  have c2b1 : decide (1048576 < l0.length) = false := decide_eq_false (by omega)
  clear c2
  replace H := Option.bind_eq_some_iff.mp H
  obtain ⟨⟨t184, t185, t186⟩, A30, H⟩ := H
  replace H : ((spec_L1Size.f l0 40).bind fun t192 => ((spec_l1Src_N.f t184 t185 t186 t192).bind fun bt193 => (laws_FnGapScript.l0 k (([] : List Int)) (wrap64 (2 + bt193.1)) t184 bt193.2.1 bt193.2.2 ([] : List Int) 0 0))) = some r := H
  have A3 := Aside0.mk A30
  clear A30
  obtain ⟨y189, hy189⟩ : ∃ y_ : List Int, y_ = (([] : List Int)) := ⟨_, rfl⟩
  replace H : ((spec_L1Size.f l0 40).bind fun t192 => ((spec_l1Src_N.f t184 t185 t186 t192).bind fun bt193 => (laws_FnGapScript.l0 k y189 (wrap64 (2 + bt193.1)) t184 bt193.2.1 bt193.2.2 ([] : List Int) 0 0))) = some r := by first | (rw [hy189]; with_reducible exact H) | (have H2_ := (Option.bind_some _ _).symm.trans H; rw [hy189]; with_reducible exact H2_) | (have H2_ := (Option.bind_some _ _).symm.trans H; with_reducible exact H2_) | with_reducible exact H | (rw [hy189]; exact H) | exact H
  have Ny189 := Aside0.mk hy189
  clear hy189
  replace H := Option.bind_eq_some_iff.mp H
  obtain ⟨t192, A40, H⟩ := H
  replace H : ((spec_l1Src_N.f t184 t185 t186 t192).bind fun bt193 => (laws_FnGapScript.l0 k y189 (wrap64 (2 + bt193.1)) t184 bt193.2.1 bt193.2.2 ([] : List Int) 0 0)) = some r := H
  have A4 := Aside0.mk A40
  clear A40
  replace H := Option.bind_eq_some_iff.mp H
  obtain ⟨⟨t193, t194, t195⟩, A50, H⟩ := H
  replace H : (laws_FnGapScript.l0 k y189 (wrap64 (2 + t193)) t184 t194 t195 ([] : List Int) 0 0) = some r := H
  have A5 := Aside0.mk A50
  clear A50
  have H' := Aside0.mk H
  clear H
  go_enter Tryd.func6, Tryd.ntmps6
  go_wp2_with (first | ((with_reducible refine gate_callee (f := 25) rfl ?_); refine goesL_ (some 27) rfl rfl Tryd.func25 (by kernel_rfl) rfl #[.slice A0 l0.length c0] rfl (by (try simp only [List.map_toArray, List.map_cons, List.map_nil]); first | done | rfl | (simp only [List.length_drop, List.length_take]; rfl)) ?_; (with_reducible refine (spec_L1Draw.calls _ _ l0 t184 t185 t186 w _ ?side1 ?side2 ?side3 A3.out).mono ?_); (case side1 => repeat (first | (with_reducible first | exact HB.out | apply below_alloc | apply pw_below_drewN | apply below_drew1) | exact HB.out)); (case side2 => exact HR0.out); (case side3 => exact HC0.out); rintro e w6 ⟨g187, rfl, hi, hb, hb2⟩; refine ⟨_, rfl, ?_⟩; have n0_ := Aside0.mk (hb); have n1_ := Aside0.mk (hi); clear HB; have HB := n0_; have HI187 := n1_; clear n0_ n1_; (try clear hb); (try clear hb2); (try clear hk); (try clear hi)) | ((with_reducible refine gate_dst (N := 4) rfl ?_); (try (refine gate_guard (by rfl) ?_; dsimp only)); refine box_event ?hg (N := 4) ?hd (cs := #[.slice none 0 0, .int .i64 0, .int .i64 0]) (t := 28) ?hr ?_; (case hd => rfl); (case hg => rfl); (case hr => first | (go_simp; done) | (go_simp; rfl)); intro gb188 hg w7 hbox hb; have n0_ := Aside0.mk (IsS121.below (isD HI187) hb); have n1_ := Aside0.mk (below_step (hbS HB (IsS121.ge HI187.out)) hb); have n2_ := Aside0.mk (hbox); have n3_ := Aside0.mk ((by rw [hg]; exact (below_size (hbS HB (IsS121.ge HI187.out))) : w.heap.size ≤ gb188)); have n4_ := n3_; have n5_ := Aside0.mk ((by rw [hg]; exact Nat.ne_of_lt (IsS121.lt (isD HI187 (f := t185) (f' := t186))) : g187 ≠ gb188)); have n6_ := Aside0.mk ((by rw [hg]; exact Nat.ne_of_gt (IsS121.lt (isD HI187 (f := t185) (f' := t186))) : gb188 ≠ g187)); clear HI187 HB; have HI187 := n0_; have HB := n1_; have BK188 := n2_; have GW188 := n3_; have GE188 := n4_; have NB187_188 := n5_; have NB188_187 := n6_; clear n0_ n1_ n2_ n3_ n4_ n5_ n6_ hb hbox hg; have hnb8 := NB188_187.out; have hnc8 := NB187_188.out; have hcz9_0 : w7.cell? ⟨gb188, 0, none⟩ = some (.slice none 0 0) := (blk_cell BK188.out 0).trans rfl; have hcz9_1 : w7.cell? ⟨gb188, 1, none⟩ = some (.int .i64 0) := (blk_cell BK188.out 1).trans rfl; have hcz9_2 : w7.cell? ⟨gb188, 2, none⟩ = some (.int .i64 0) := (blk_cell BK188.out 2).trans rfl; have hfz9_0 := blk_frozen BK188.out 0; have hfz9_1 := blk_frozen BK188.out 1; have hfz9_2 := blk_frozen BK188.out 2) | ((with_reducible refine gate_dst (N := 29) rfl ?_); (try (refine gate_guard (by rfl) ?_; dsimp only)); refine Kd.R_lit (Kd.int .i32) _ 21 ?hg (N := 29) ?hd (xs := ([] : List Int)) (inner := []) (ok := fun _ => True) (okp := fun _ => True) ?hr ?hp (fun _ hk => hk) trivial (Below.refl _ _) (Nat.le_refl _) (by simp) ?_; (case hd => rfl); (case hg => rfl); (case hr => first | (go_simp; done) | (go_simp; rfl)); (case hp => exact (Reps.none _ _)); intro v190 w10 ho11 hb hg_ hnew_; clear hg_ hnew_; (first | rw [← Ny189.out] at ho11 | (simp only [Int.reduceToNat] at ho11; rw [← Ny189.out] at ho11)); have n0_ := Aside0.mk (Kd.R_lower ho11 (below_size (hbS HB (IsS121.ge HI187.out)))); have n1_ := Aside0.mk (IsS121.below (show IsS121 w (((w7.setCell ⟨gb188, 0, none⟩ (.slice none 0 0)).setCell ⟨gb188, 1, none⟩ (.int .i64 0)).setCell ⟨gb188, 2, none⟩ (.int .i64 0)) g187 t184 t185 t186 from by repeat (first | (with_reducible first | exact HI187.out | apply IsS121.alloc | apply IsS121.drewN | apply IsS121.drew | apply IsS121.set_1 | apply IsS121.set_2 | refine IsS121.far ?_ NB187_188.out _) | exact HI187.out)) hb); have n2_ := Aside0.mk (blk_below (g := gb188) (o := .cells #[.slice none 0 0, .int .i64 0, .int .i64 0] 28 (0, 0)) (by (with_reducible repeat (first | refine blk_drewN ?_ _ | refine blk_drew ?_ | refine blk_alloc ?_ _)); refine blk_put (cs := #[.slice none 0 0, .int .i64 0, .int .i64 0]) ?_ 2 _ rfl; (with_reducible repeat (first | refine blk_drewN ?_ _ | refine blk_drew ?_ | refine blk_alloc ?_ _)); refine blk_put (cs := #[.slice none 0 0, .int .i64 0, .int .i64 0]) ?_ 1 _ rfl; (with_reducible repeat (first | refine blk_drewN ?_ _ | refine blk_drew ?_ | refine blk_alloc ?_ _)); refine blk_put (cs := #[.slice none 0 0, .int .i64 0, .int .i64 0]) ?_ 0 _ rfl; (with_reducible repeat (first | refine blk_drewN ?_ _ | refine blk_drew ?_ | refine blk_alloc ?_ _)); exact BK188.out) hb); have n3_ := Aside0.mk (below_step (hbS HB (IsS121.ge HI187.out)) hb); clear HI187 BK188 HB; have HO191 := n0_; have HI187 := n1_; have BK188 := n2_; have HB := n3_; clear n0_ n1_ n2_ n3_ hb ho11) | ((with_reducible refine gate_callee (f := 27) rfl ?_); refine goesL_ (some 32) rfl rfl Tryd.func27 (by kernel_rfl) rfl #[.slice A0 l0.length c0, .int .i64 40] rfl (by (try simp only [List.map_toArray, List.map_cons, List.map_nil]); first | done | rfl | (simp only [List.length_drop, List.length_take]; rfl)) ?_; (with_reducible refine (spec_L1Size.calls _ _ l0 40 t192 _ ?side1 ?side2 A4.out).mono ?_); (case side1 => repeat (first | exact (Kd.C_below HR0.out HB.out) | (with_reducible refine Kd.C_alloc ?_ _) | (with_reducible refine Kd.C_drewN ?_ _) | (with_reducible refine Kd.C_drew ?_))); (case side2 => exact HC0.out); rintro e w' ⟨rfl, ⟨nd, rfl⟩⟩; refine ⟨_, rfl, ?_⟩) | ((with_reducible refine gate_callee (f := 26) rfl ?_); refine goesL_ (some 33) rfl rfl Tryd.func26 (by kernel_rfl) rfl #[.pointer (some ⟨g187, 0, none⟩), .int .i64 t192] rfl (by (try simp only [List.map_toArray, List.map_cons, List.map_nil]); first | done | rfl | (simp only [List.length_drop, List.length_take]; rfl)) ?_; (with_reducible refine (spec_l1Src_N.calls g187 t184 t185 t186 t192 t193 t194 t195 w _ ?side1 ?side2 A5.out).mono ?_); (case side1 => repeat (first | (with_reducible first | exact HI187.out | apply IsS121.alloc | apply IsS121.drewN | apply IsS121.drew | apply IsS121.set_1 | apply IsS121.set_2 | refine IsS121.far ?_ NB187_188.out _) | exact HI187.out)); (case side2 => repeat (first | (with_reducible first | exact HB.out | apply below_alloc | apply pw_below_drewN | apply below_drew1 | refine below_set ?_ (IsS121.ge HI187.out) | refine below_set ?_ GE188.out) | exact HB.out)); rintro e w12 ⟨rfl, hi, hb, hk⟩; refine ⟨_, rfl, ?_⟩; have n0_ := Aside0.mk (KeepBut.blk hk (g' := gb188) (o := .cells #[.slice none 0 0, .int .i64 0, .int .i64 0] 28 (0, 0)) (bkD BK188) NB188_187.out (by simp)); have n1_ := Aside0.mk (Kd.R_mono (Kd.R_keep (IsS121.apart (isD HI187 (f := t185) (f' := t186)) (rD HO191.out) (by decide)) hk (fun _ h => h.2)) (fun _ h => h.1)); have n2_ := Aside0.mk (hb); have n3_ := Aside0.mk (hi); clear BK188 HO191 HB HI187; have BK188 := n0_; have HO191 := n1_; have HB := n2_; have HI187 := n3_; clear n0_ n1_ n2_ n3_; (try clear hb); (try clear hb2); (try clear hk); (try clear hi)))
  go_loopg [5, 6] k (fun kq v5 v6 w' => ∃ (x5_1 : List Int) (x6_1 : Int) (x188001_1 : Int) (x188002_1 : Int) (x189000_1 : List Int) (x189001_1 : Int) (x189002_1 : Int) (u189000 : Value), v6 = .int .i64 x6_1 ∧ Aside0 (laws_FnGapScript.l0 kq x5_1 x6_1 t184 x188001_1 x188002_1 x189000_1 x189001_1 x189002_1 = some r) ∧ Aside0 (kq ≤ k) ∧ Aside0 (Kd.R (Kd.int .i32) 21 w' w.heap.size (fun k_ => some k_ ≠ (u189000 : Value).ownBlock) v5 x5_1) ∧ Aside0 (Kd.R (Kd.int .i32) 21 w' w.heap.size (fun k_ => some k_ ≠ (v5 : Value).ownBlock) u189000 x189000_1) ∧ Aside0 (w'.heap[gb188]? = some (.cells #[u189000, .int .i64 x189001_1, .int .i64 x189002_1] 28 (0, 0))) ∧ Aside0 (IsS121 w w' g187 t184 x188001_1 x188002_1) ∧ Aside0 (Below w.heap.size w w'))
  case atStart => exact ⟨(y189), (wrap64 (2 + t193)), (t194), (t195), (([] : List Int)), (0), (0), (.slice none 0 0), (by first | rfl | (simp; done) | (simp [*]; done)), H', ⟨Nat.le_refl _⟩, ⟨by (with_reducible repeat (first | apply Kd.R_alloc | apply Kd.R_drewN | apply Kd.R_drew)); exact Kd.R_mono HO191.out (fun _ hk => (by simp [Value.ownBlock]))⟩, ⟨by first | exact Kd.R_nil _ _ _ _ _ | exact Kd.N_nil _ _ _ _ _ | exact Kd.V_nil _ _ _ _ _ | exact Kd.Q_nil _ _ _ _ _ | exact Kd.S_nil _ _ _ _ _⟩, ⟨by (with_reducible repeat (first | refine blk_drewN ?_ _ | refine blk_drew ?_ | refine blk_alloc ?_ _)); exact BK188.out⟩, ⟨by repeat (first | (with_reducible first | exact HI187.out | apply IsS121.alloc | apply IsS121.drewN | apply IsS121.drew | apply IsS121.set_1 | apply IsS121.set_2 | refine IsS121.far ?_ NB187_188.out _) | exact HI187.out)⟩, ⟨by repeat (first | (with_reducible first | exact HB.out | apply below_alloc | apply pw_below_drewN | apply below_drew1 | refine below_set ?_ (IsS121.ge HI187.out) | refine below_set ?_ GE188.out) | exact HB.out)⟩⟩
  case round =>
   clear H'
   try clear c2
   try clear c2b0
   try clear c2b1
   try clear p2
   try clear c6
   try clear p6
   try clear c8
   try clear hcz9_0
   try clear hcz9_1
   try clear hcz9_2
   try clear hfz9_0
   try clear hfz9_1
   try clear hfz9_2
   obtain ⟨x5_1, x6_1, x188001_1, x188002_1, x189000_1, x189001_1, x189002_1, u189000, rfl, HA, HK1, HO_5, HO_189000, BK188, HI187, HB⟩ := hrel
   cases gk with
   | zero => exact absurd HA.out (by simp [laws_FnGapScript.l0])
   | succ k1 =>
    have H := HA.out
    clear HA
    simp only [laws_FnGapScript.l0] at H
    by_cases c13 : x6_1 > 0
    ·rw [if_pos c13] at H
     have c13b0 : decide (0 < x6_1) = true := decide_eq_true c13
     clear c13
     replace H := Option.bind_eq_some_iff.mp H
     obtain ⟨⟨t196, t197, t198⟩, A140, H⟩ := H
     replace H : ((spec_l1Src_N.f t184 t197 t198 3).bind fun bt199 => (if bt199.1 > 0 then ((spec_l1Src_N.f t184 bt199.2.1 bt199.2.2 20).bind fun bt202 => ((spec_L1Text.f k1 t184 bt202.2.1 bt202.2.2 bt202.1).bind fun bt205 => ((laws_cpText.f bt205.1).bind fun t210 => ((impl_GapInsert.f x189000_1 x189001_1 x189002_1 t196 t210).bind fun bt213 => (if bt213.2.2.2 = 0 then (if 0 ≤ t196 then (if t196 ≤ (x5_1.length : Int) then ((laws_cpText.f (x5_1.take (t196 : Int).toNat)).bind fun t224 => (if t224.length + bt205.1.length < 35184372088832 then ((some (t224 ++ bt205.1 : List Int)).bind fun y227 => ((some (x5_1.drop (t196 : Int).toNat : List Int)).bind fun y230 => (if y227.length + y230.length < 35184372088832 then (laws_FnGapScript.j1 k1 (y227 ++ y230) x6_1 (x189000_1.length : Int) (wrap64 (t196 + (bt205.1.length : Int))) t184 bt205.2.1 bt205.2.2 bt213.1 bt213.2.1 bt213.2.2.1) else (none)))) else (none))) else (none)) else (none)) else (some false)))))) else ((spec_l1Src_N.f t184 bt199.2.1 bt199.2.2 (wrap64 ((wrap64 ((x5_1.length : Int) - t196)) + 1))).bind fun bt237 => ((impl_GapDelete.f x189000_1 x189001_1 x189002_1 t196 (wrap64 (t196 + bt237.1))).bind fun bt240 => (if bt240.2.2.2 = 0 then (if 0 ≤ t196 then (if t196 ≤ (x5_1.length : Int) then ((laws_cpText.f (x5_1.take (t196 : Int).toNat)).bind fun t251 => (if 0 ≤ (wrap64 (t196 + bt237.1)) then (if (wrap64 (t196 + bt237.1)) ≤ (x5_1.length : Int) then ((some (x5_1.drop ((wrap64 (t196 + bt237.1)) : Int).toNat : List Int)).bind fun y254 => (if t251.length + y254.length < 35184372088832 then (laws_FnGapScript.j1 k1 (t251 ++ y254) x6_1 (x189000_1.length : Int) t196 t184 bt237.2.1 bt237.2.2 bt240.1 bt240.2.1 bt240.2.2.1) else (none))) else (none)) else (none))) else (none)) else (none)) else (some false)))))) = some r := H
     have A14 := Aside0.mk A140
     clear A140
     replace H := Option.bind_eq_some_iff.mp H
     obtain ⟨⟨t199, t200, t201⟩, A150, H⟩ := H
     replace H : (if t199 > 0 then ((spec_l1Src_N.f t184 t200 t201 20).bind fun bt202 => ((spec_L1Text.f k1 t184 bt202.2.1 bt202.2.2 bt202.1).bind fun bt205 => ((laws_cpText.f bt205.1).bind fun t210 => ((impl_GapInsert.f x189000_1 x189001_1 x189002_1 t196 t210).bind fun bt213 => (if bt213.2.2.2 = 0 then (if 0 ≤ t196 then (if t196 ≤ (x5_1.length : Int) then ((laws_cpText.f (x5_1.take (t196 : Int).toNat)).bind fun t224 => (if t224.length + bt205.1.length < 35184372088832 then ((some (t224 ++ bt205.1 : List Int)).bind fun y227 => ((some (x5_1.drop (t196 : Int).toNat : List Int)).bind fun y230 => (if y227.length + y230.length < 35184372088832 then (laws_FnGapScript.j1 k1 (y227 ++ y230) x6_1 (x189000_1.length : Int) (wrap64 (t196 + (bt205.1.length : Int))) t184 bt205.2.1 bt205.2.2 bt213.1 bt213.2.1 bt213.2.2.1) else (none)))) else (none))) else (none)) else (none)) else (some false)))))) else ((spec_l1Src_N.f t184 t200 t201 (wrap64 ((wrap64 ((x5_1.length : Int) - t196)) + 1))).bind fun bt237 => ((impl_GapDelete.f x189000_1 x189001_1 x189002_1 t196 (wrap64 (t196 + bt237.1))).bind fun bt240 => (if bt240.2.2.2 = 0 then (if 0 ≤ t196 then (if t196 ≤ (x5_1.length : Int) then ((laws_cpText.f (x5_1.take (t196 : Int).toNat)).bind fun t251 => (if 0 ≤ (wrap64 (t196 + bt237.1)) then (if (wrap64 (t196 + bt237.1)) ≤ (x5_1.length : Int) then ((some (x5_1.drop ((wrap64 (t196 + bt237.1)) : Int).toNat : List Int)).bind fun y254 => (if t251.length + y254.length < 35184372088832 then (laws_FnGapScript.j1 k1 (t251 ++ y254) x6_1 (x189000_1.length : Int) t196 t184 bt237.2.1 bt237.2.2 bt240.1 bt240.2.1 bt240.2.2.1) else (none))) else (none)) else (none))) else (none)) else (none)) else (some false))))) = some r := H
     have A15 := Aside0.mk A150
     clear A150
     have HC16 := Aside0.mk H
     clear H
     have hnb17 := NB188_187.out
     have hnc17 := NB187_188.out
     have hcz18_0 : wr.cell? ⟨gb188, 0, none⟩ = some (u189000) := (blk_cell BK188.out 0).trans rfl
     have hcz18_1 : wr.cell? ⟨gb188, 1, none⟩ = some (.int .i64 x189001_1) := (blk_cell BK188.out 1).trans rfl
     have hcz18_2 : wr.cell? ⟨gb188, 2, none⟩ = some (.int .i64 x189002_1) := (blk_cell BK188.out 2).trans rfl
     have hfz18_0 := blk_frozen BK188.out 0
     have hfz18_1 := blk_frozen BK188.out 1
     have hfz18_2 := blk_frozen BK188.out 2
     obtain ⟨Ao19, co19, eo19⟩ := Kd.R_slice HO_189000.out
     subst eo19
     obtain ⟨Ao20, co20, eo20⟩ := Kd.R_slice HO_5.out
     subst eo20
     go_upto_if 50 with (first | ((with_reducible refine gate_callee (f := 26) rfl ?_); refine goesL_ (some 46) rfl rfl Tryd.func26 (by kernel_rfl) rfl #[.pointer (some ⟨g187, 0, none⟩), .int .i64 (wrap64 ((x5_1.length : Int) + 1))] rfl (by (try simp only [List.map_toArray, List.map_cons, List.map_nil]); first | done | rfl | (simp only [List.length_drop, List.length_take]; rfl)) ?_; (with_reducible refine (spec_l1Src_N.calls g187 t184 x188001_1 x188002_1 (wrap64 ((x5_1.length : Int) + 1)) t196 t197 t198 w _ ?side1 ?side2 A14.out).mono ?_); (case side1 => repeat (first | (with_reducible first | exact HI187.out | apply IsS121.alloc | apply IsS121.drewN | apply IsS121.drew | apply IsS121.set_1 | apply IsS121.set_2 | refine IsS121.far ?_ NB187_188.out _) | exact HI187.out)); (case side2 => repeat (first | (with_reducible first | exact HB.out | apply below_alloc | apply pw_below_drewN | apply below_drew1 | refine below_set ?_ (IsS121.ge HI187.out) | refine below_set ?_ GE188.out) | exact HB.out)); rintro e w21 ⟨rfl, hi, hb, hk⟩; refine ⟨_, rfl, ?_⟩; have n0_ := Aside0.mk (Kd.R_mono (Kd.R_keep (IsS121.apart (isD HI187 (f := x188001_1) (f' := x188002_1)) (rD HO_5.out) (by decide)) hk (fun _ h => h.2)) (fun _ h => h.1)); have n1_ := Aside0.mk (Kd.R_mono (Kd.R_keep (IsS121.apart (isD HI187 (f := x188001_1) (f' := x188002_1)) (rD HO_189000.out) (by decide)) hk (fun _ h => h.2)) (fun _ h => h.1)); have n2_ := Aside0.mk (KeepBut.blk hk (g' := gb188) (o := .cells #[.slice Ao19 x189000_1.length co19, .int .i64 x189001_1, .int .i64 x189002_1] 28 (0, 0)) (bkD BK188) NB188_187.out (by simp)); have n3_ := Aside0.mk (hb); have n4_ := Aside0.mk (hi); clear HO_5 HO_189000 BK188 HB HI187; have HO_5 := n0_; have HO_189000 := n1_; have BK188 := n2_; have HB := n3_; have HI187 := n4_; clear n0_ n1_ n2_ n3_ n4_; (try clear hb); (try clear hb2); (try clear hk); (try clear hi)) | ((with_reducible refine gate_callee (f := 26) rfl ?_); refine goesL_ (some 49) rfl rfl Tryd.func26 (by kernel_rfl) rfl #[.pointer (some ⟨g187, 0, none⟩), .int .i64 3] rfl (by (try simp only [List.map_toArray, List.map_cons, List.map_nil]); first | done | rfl | (simp only [List.length_drop, List.length_take]; rfl)) ?_; (with_reducible refine (spec_l1Src_N.calls g187 t184 t197 t198 3 t199 t200 t201 w _ ?side1 ?side2 A15.out).mono ?_); (case side1 => repeat (first | (with_reducible first | exact HI187.out | apply IsS121.alloc | apply IsS121.drewN | apply IsS121.drew | apply IsS121.set_1 | apply IsS121.set_2 | refine IsS121.far ?_ NB187_188.out _) | exact HI187.out)); (case side2 => repeat (first | (with_reducible first | exact HB.out | apply below_alloc | apply pw_below_drewN | apply below_drew1 | refine below_set ?_ (IsS121.ge HI187.out) | refine below_set ?_ GE188.out) | exact HB.out)); rintro e w22 ⟨rfl, hi, hb, hk⟩; refine ⟨_, rfl, ?_⟩; have n0_ := Aside0.mk (Kd.R_mono (Kd.R_keep (IsS121.apart (isD HI187 (f := t197) (f' := t198)) (rD HO_5.out) (by decide)) hk (fun _ h => h.2)) (fun _ h => h.1)); have n1_ := Aside0.mk (Kd.R_mono (Kd.R_keep (IsS121.apart (isD HI187 (f := t197) (f' := t198)) (rD HO_189000.out) (by decide)) hk (fun _ h => h.2)) (fun _ h => h.1)); have n2_ := Aside0.mk (KeepBut.blk hk (g' := gb188) (o := .cells #[.slice Ao19 x189000_1.length co19, .int .i64 x189001_1, .int .i64 x189002_1] 28 (0, 0)) (bkD BK188) NB188_187.out (by simp)); have n3_ := Aside0.mk (hb); have n4_ := Aside0.mk (hi); clear HO_5 HO_189000 BK188 HB HI187; have HO_5 := n0_; have HO_189000 := n1_; have BK188 := n2_; have HB := n3_; have HI187 := n4_; clear n0_ n1_ n2_ n3_ n4_; (try clear hb); (try clear hb2); (try clear hk); (try clear hi)))
     (try simp only [Act.put, List.setIfInBounds_toArray, List.set_cons_zero, List.set_cons_succ])
     go_cut [5, 9] (fun v5 v9 wc => ∃ (kq : Nat) (x5_15 : List Int) (x9_15 : Int) (x188001_15 : Int) (x188002_15 : Int) (x189000_15 : List Int) (x189001_15 : Int) (x189002_15 : Int) (u189000 : Value), v9 = .int .i64 x9_15 ∧ Aside0 (laws_FnGapScript.j1 kq x5_15 x6_1 (x189000_1.length : Int) x9_15 t184 x188001_15 x188002_15 x189000_15 x189001_15 x189002_15 = some r) ∧ Aside0 (kq ≤ k1) ∧ Aside0 (Kd.R (Kd.int .i32) 21 wc w.heap.size (fun k_ => some k_ ≠ (u189000 : Value).ownBlock) v5 x5_15) ∧ Aside0 (Kd.R (Kd.int .i32) 21 wc w.heap.size (fun k_ => some k_ ≠ (v5 : Value).ownBlock) u189000 x189000_15) ∧ Aside0 (wc.heap[gb188]? = some (.cells #[u189000, .int .i64 x189001_15, .int .i64 x189002_15] 28 (0, 0))) ∧ Aside0 (IsS121 w wc g187 t184 x188001_15 x188002_15) ∧ Aside0 (Below w.heap.size w wc))
     case first =>
      have H := HC16.out
      clear HC16
      by_cases c23 : t199 > 0
      ·rw [if_pos c23] at H
       have c23b0 : decide (0 < t199) = true := decide_eq_true c23
       clear c23
       (first | rw [c23b0] | (simp only [i64_w, i32_w]; rw [c23b0]) | skip)
       replace H := Option.bind_eq_some_iff.mp H
       obtain ⟨⟨t202, t203, t204⟩, A240, H⟩ := H
       replace H : ((spec_L1Text.f k1 t184 t203 t204 t202).bind fun bt205 => ((laws_cpText.f bt205.1).bind fun t210 => ((impl_GapInsert.f x189000_1 x189001_1 x189002_1 t196 t210).bind fun bt213 => (if bt213.2.2.2 = 0 then (if 0 ≤ t196 then (if t196 ≤ (x5_1.length : Int) then ((laws_cpText.f (x5_1.take (t196 : Int).toNat)).bind fun t224 => (if t224.length + bt205.1.length < 35184372088832 then ((some (t224 ++ bt205.1 : List Int)).bind fun y227 => ((some (x5_1.drop (t196 : Int).toNat : List Int)).bind fun y230 => (if y227.length + y230.length < 35184372088832 then (laws_FnGapScript.j1 k1 (y227 ++ y230) x6_1 (x189000_1.length : Int) (wrap64 (t196 + (bt205.1.length : Int))) t184 bt205.2.1 bt205.2.2 bt213.1 bt213.2.1 bt213.2.2.1) else (none)))) else (none))) else (none)) else (none)) else (some false))))) = some r := H
       have A24 := Aside0.mk A240
       clear A240
       replace H := Option.bind_eq_some_iff.mp H
       obtain ⟨⟨t205, t208, t209⟩, A250, H⟩ := H
       replace H : ((laws_cpText.f t205).bind fun t210 => ((impl_GapInsert.f x189000_1 x189001_1 x189002_1 t196 t210).bind fun bt213 => (if bt213.2.2.2 = 0 then (if 0 ≤ t196 then (if t196 ≤ (x5_1.length : Int) then ((laws_cpText.f (x5_1.take (t196 : Int).toNat)).bind fun t224 => (if t224.length + t205.length < 35184372088832 then ((some (t224 ++ t205 : List Int)).bind fun y227 => ((some (x5_1.drop (t196 : Int).toNat : List Int)).bind fun y230 => (if y227.length + y230.length < 35184372088832 then (laws_FnGapScript.j1 k1 (y227 ++ y230) x6_1 (x189000_1.length : Int) (wrap64 (t196 + (t205.length : Int))) t184 t208 t209 bt213.1 bt213.2.1 bt213.2.2.1) else (none)))) else (none))) else (none)) else (none)) else (some false)))) = some r := H
       have A25 := Aside0.mk A250
       clear A250
       replace H := Option.bind_eq_some_iff.mp H
       obtain ⟨t210, A260, H⟩ := H
       replace H : ((impl_GapInsert.f x189000_1 x189001_1 x189002_1 t196 t210).bind fun bt213 => (if bt213.2.2.2 = 0 then (if 0 ≤ t196 then (if t196 ≤ (x5_1.length : Int) then ((laws_cpText.f (x5_1.take (t196 : Int).toNat)).bind fun t224 => (if t224.length + t205.length < 35184372088832 then ((some (t224 ++ t205 : List Int)).bind fun y227 => ((some (x5_1.drop (t196 : Int).toNat : List Int)).bind fun y230 => (if y227.length + y230.length < 35184372088832 then (laws_FnGapScript.j1 k1 (y227 ++ y230) x6_1 (x189000_1.length : Int) (wrap64 (t196 + (t205.length : Int))) t184 t208 t209 bt213.1 bt213.2.1 bt213.2.2.1) else (none)))) else (none))) else (none)) else (none)) else (some false))) = some r := H
       have A26 := Aside0.mk A260
       clear A260
       replace H := Option.bind_eq_some_iff.mp H
       obtain ⟨⟨t213, t216, t217, t218⟩, A270, H⟩ := H
       replace H : (if t218 = 0 then (if 0 ≤ t196 then (if t196 ≤ (x5_1.length : Int) then ((laws_cpText.f (x5_1.take (t196 : Int).toNat)).bind fun t224 => (if t224.length + t205.length < 35184372088832 then ((some (t224 ++ t205 : List Int)).bind fun y227 => ((some (x5_1.drop (t196 : Int).toNat : List Int)).bind fun y230 => (if y227.length + y230.length < 35184372088832 then (laws_FnGapScript.j1 k1 (y227 ++ y230) x6_1 (x189000_1.length : Int) (wrap64 (t196 + (t205.length : Int))) t184 t208 t209 t213 t216 t217) else (none)))) else (none))) else (none)) else (none)) else (some false)) = some r := H
       have A27 := Aside0.mk A270
       clear A270
       by_cases c28 : t218 = 0
       ·rw [if_pos c28] at H
        have c28b0 : (t218 == 0) = true := beq_iff_eq.mpr c28
        have c28b1 : (t218 != 0) = false := bne_eq_false_iff_eq.mpr c28
        clear c28
        by_cases c29 : 0 ≤ t196
        ·rw [if_pos c29] at H
         have c29b0 := eq_true c29
         have c29b1 : decide (0 ≤ t196) = true := decide_eq_true c29
         clear c29
         by_cases c30 : t196 ≤ (x5_1.length : Int)
         ·rw [if_pos c30] at H
          have c30b0 := eq_true c30
          have c30b1 : decide (t196 ≤ (x5_1.length : Int)) = true := decide_eq_true c30
          clear c30
          obtain ⟨y220, hy220⟩ : ∃ y_ : List Int, y_ = (x5_1.take (t196 : Int).toNat) := ⟨_, rfl⟩
          replace H : ((laws_cpText.f y220).bind fun t224 => (if t224.length + t205.length < 35184372088832 then ((some (t224 ++ t205 : List Int)).bind fun y227 => ((some (x5_1.drop (t196 : Int).toNat : List Int)).bind fun y230 => (if y227.length + y230.length < 35184372088832 then (laws_FnGapScript.j1 k1 (y227 ++ y230) x6_1 (x189000_1.length : Int) (wrap64 (t196 + (t205.length : Int))) t184 t208 t209 t213 t216 t217) else (none)))) else (none))) = some r := by first | (rw [hy220]; with_reducible exact H) | (have H2_ := (Option.bind_some _ _).symm.trans H; rw [hy220]; with_reducible exact H2_) | (have H2_ := (Option.bind_some _ _).symm.trans H; with_reducible exact H2_) | with_reducible exact H | (rw [hy220]; exact H) | exact H
          have Ny220 := Aside0.mk hy220
          clear hy220
          replace H := Option.bind_eq_some_iff.mp H
          obtain ⟨t224, A310, H⟩ := H
          replace H : (if t224.length + t205.length < 35184372088832 then ((some (t224 ++ t205 : List Int)).bind fun y227 => ((some (x5_1.drop (t196 : Int).toNat : List Int)).bind fun y230 => (if y227.length + y230.length < 35184372088832 then (laws_FnGapScript.j1 k1 (y227 ++ y230) x6_1 (x189000_1.length : Int) (wrap64 (t196 + (t205.length : Int))) t184 t208 t209 t213 t216 t217) else (none)))) else (none)) = some r := H
          have A31 := Aside0.mk A310
          clear A310
          by_cases c32 : t224.length + t205.length < 35184372088832
          ·rw [if_pos c32] at H
           have LMc32 := Aside0.mk c32
           clear c32
           obtain ⟨y227, hy227⟩ : ∃ y_ : List Int, y_ = (t224 ++ t205) := ⟨_, rfl⟩
           replace H : ((some (x5_1.drop (t196 : Int).toNat : List Int)).bind fun y230 => (if y227.length + y230.length < 35184372088832 then (laws_FnGapScript.j1 k1 (y227 ++ y230) x6_1 (x189000_1.length : Int) (wrap64 (t196 + (t205.length : Int))) t184 t208 t209 t213 t216 t217) else (none))) = some r := by first | (rw [hy227]; with_reducible exact H) | (have H2_ := (Option.bind_some _ _).symm.trans H; rw [hy227]; with_reducible exact H2_) | (have H2_ := (Option.bind_some _ _).symm.trans H; with_reducible exact H2_) | with_reducible exact H | (rw [hy227]; exact H) | exact H
           have Ny227 := Aside0.mk hy227
           clear hy227
           have c33b0 := eq_true (of_decide_eq_true (by first | (with_reducible assumption) | assumption) : 0 ≤ t196)
           have c34b0 := eq_true (of_decide_eq_true (by first | (with_reducible assumption) | assumption) : t196 ≤ (x5_1.length : Int))
           obtain ⟨y230, hy230⟩ : ∃ y_ : List Int, y_ = (x5_1.drop (t196 : Int).toNat) := ⟨_, rfl⟩
           replace H : (if y227.length + y230.length < 35184372088832 then (laws_FnGapScript.j1 k1 (y227 ++ y230) x6_1 (x189000_1.length : Int) (wrap64 (t196 + (t205.length : Int))) t184 t208 t209 t213 t216 t217) else (none)) = some r := by first | (rw [hy230]; with_reducible exact H) | (have H2_ := (Option.bind_some _ _).symm.trans H; rw [hy230]; with_reducible exact H2_) | (have H2_ := (Option.bind_some _ _).symm.trans H; with_reducible exact H2_) | with_reducible exact H | (rw [hy230]; exact H) | exact H
           have Ny230 := Aside0.mk hy230
           clear hy230
           by_cases c35 : y227.length + y230.length < 35184372088832
           ·rw [if_pos c35] at H
            have LMc35 := Aside0.mk c35
            clear c35
            obtain ⟨y234, hy234⟩ : ∃ y_ : List Int, y_ = (y227 ++ y230) := ⟨_, rfl⟩
            replace H : (laws_FnGapScript.j1 k1 y234 x6_1 (x189000_1.length : Int) (wrap64 (t196 + (t205.length : Int))) t184 t208 t209 t213 t216 t217) = some r := by first | (rw [hy234]; with_reducible exact H) | (have H2_ := (Option.bind_some _ _).symm.trans H; rw [hy234]; with_reducible exact H2_) | (have H2_ := (Option.bind_some _ _).symm.trans H; with_reducible exact H2_) | with_reducible exact H | (rw [hy234]; exact H) | exact H
            have Ny234 := Aside0.mk hy234
            clear hy234
            have H' := Aside0.mk H
            clear H
            try go_wp2_with (first | ((with_reducible refine gate_callee (f := 26) rfl ?_); refine goesL_ (some 53) rfl rfl Tryd.func26 (by kernel_rfl) rfl #[.pointer (some ⟨g187, 0, none⟩), .int .i64 20] rfl (by (try simp only [List.map_toArray, List.map_cons, List.map_nil]); first | done | rfl | (simp only [List.length_drop, List.length_take]; rfl)) ?_; (with_reducible refine (spec_l1Src_N.calls g187 t184 t200 t201 20 t202 t203 t204 w _ ?side1 ?side2 A24.out).mono ?_); (case side1 => repeat (first | (with_reducible first | exact HI187.out | apply IsS121.alloc | apply IsS121.drewN | apply IsS121.drew | apply IsS121.set_1 | apply IsS121.set_2 | refine IsS121.far ?_ NB187_188.out _) | exact HI187.out)); (case side2 => repeat (first | (with_reducible first | exact HB.out | apply below_alloc | apply pw_below_drewN | apply below_drew1 | refine below_set ?_ (IsS121.ge HI187.out) | refine below_set ?_ GE188.out) | exact HB.out)); rintro e w36 ⟨rfl, hi, hb, hk⟩; refine ⟨_, rfl, ?_⟩; have n0_ := Aside0.mk (Kd.R_mono (Kd.R_keep (IsS121.apart (isD HI187 (f := t200) (f' := t201)) (rD HO_5.out) (by decide)) hk (fun _ h => h.2)) (fun _ h => h.1)); have n1_ := Aside0.mk (Kd.R_mono (Kd.R_keep (IsS121.apart (isD HI187 (f := t200) (f' := t201)) (rD HO_189000.out) (by decide)) hk (fun _ h => h.2)) (fun _ h => h.1)); have n2_ := Aside0.mk (KeepBut.blk hk (g' := gb188) (o := .cells #[.slice Ao19 x189000_1.length co19, .int .i64 x189001_1, .int .i64 x189002_1] 28 (0, 0)) (bkD BK188) NB188_187.out (by simp)); have n3_ := Aside0.mk (hb); have n4_ := Aside0.mk (hi); clear HO_5 HO_189000 BK188 HB HI187; have HO_5 := n0_; have HO_189000 := n1_; have BK188 := n2_; have HB := n3_; have HI187 := n4_; clear n0_ n1_ n2_ n3_ n4_; (try clear hb); (try clear hb2); (try clear hk); (try clear hi)) | ((with_reducible refine gate_callee (f := 28) rfl ?_); refine goesL_ (some 54) rfl rfl Tryd.func28 (by kernel_rfl) rfl #[.pointer (some ⟨g187, 0, none⟩), .int .i64 t202] rfl (by (try simp only [List.map_toArray, List.map_cons, List.map_nil]); first | done | rfl | (simp only [List.length_drop, List.length_take]; rfl)) ?_; (with_reducible refine (spec_L1Text.calls k1 g187 t184 t203 t204 t202 t205 t208 t209 w _ ?side1 ?side2 A25.out).mono ?_); (case side1 => repeat (first | (with_reducible first | exact HI187.out | apply IsS121.alloc | apply IsS121.drewN | apply IsS121.drew | apply IsS121.set_1 | apply IsS121.set_2 | refine IsS121.far ?_ NB187_188.out _) | exact HI187.out)); (case side2 => repeat (first | (with_reducible first | exact HB.out | apply below_alloc | apply pw_below_drewN | apply below_drew1 | refine below_set ?_ (IsS121.ge HI187.out) | refine below_set ?_ GE188.out) | exact HB.out)); rintro e w37 ⟨v206, rfl, ho0, hi, hb, hk⟩; refine ⟨_, rfl, ?_⟩; have n0_ := Aside0.mk (Kd.R_mono (Kd.R_told (Kd.R_oldK (IsS121.apart (isD HI187 (f := t203) (f' := t204)) (rD HO_5.out) (by decide)) hk) (Kd.R_base ho0)) (fun _ h_ => h_.1)); have n1_ := Aside0.mk (Kd.R_mono (Kd.R_told (Kd.R_oldK (IsS121.apart (isD HI187 (f := t203) (f' := t204)) (rD HO_189000.out) (by decide)) hk) (Kd.R_base ho0)) (fun _ h_ => h_.1)); have n2_ := Aside0.mk (KeepBut.blk hk (g' := gb188) (o := .cells #[.slice Ao19 x189000_1.length co19, .int .i64 x189001_1, .int .i64 x189002_1] 28 (0, 0)) (bkD BK188) NB188_187.out (by simp)); have n3_ := Aside0.mk (Kd.R_lower (Kd.R_new' (Kd.R_new' ho0 (Kd.R_lt (rD HO_5.out))) (Kd.R_lt (rD HO_189000.out))) (below_size (hbS HB (IsS121.ge HI187.out)))); have n4_ := Aside0.mk (hb); have n5_ := Aside0.mk (hi); clear HO_5 HO_189000 BK188 HB HI187; have HO_5 := n0_; have HO_189000 := n1_; have BK188 := n2_; have HO207 := n3_; have HB := n4_; have HI187 := n5_; clear n0_ n1_ n2_ n3_ n4_ n5_; (try clear hb); (try clear hb2); (try clear hk); (try clear hi); (try clear ho0); obtain ⟨Ao38, co38, eo38⟩ := Kd.R_slice HO207.out; subst eo38))
            have n0_ := Aside0.mk (Kd.R_drew HO_5.out)
            have n1_ := Aside0.mk (Kd.R_drew HO_189000.out)
            have n2_ := Aside0.mk (Kd.R_drew HO207.out)
            have n3_ := Aside0.mk (blk_drew BK188.out)
            have n4_ := Aside0.mk (IsS121.drew HI187.out)
            have n5_ := Aside0.mk (below_drew1 HB.out)
            clear HO_5 HO_189000 HO207 BK188 HI187 HB
            have HO_5 := n0_
            have HO_189000 := n1_
            have HO207 := n2_
            have BK188 := n3_
            have HI187 := n4_
            have HB := n5_
            clear n0_ n1_ n2_ n3_ n4_ n5_
            refine start_ (n := 11) (S := fun w' => w'.cell? ⟨gb188, 0, none⟩ = some (.slice Ao19 x189000_1.length co19) ∧ w'.cell? ⟨gb188, 1, none⟩ = some (.int .i64 x189001_1) ∧ w'.cell? ⟨gb188, 2, none⟩ = some (.int .i64 x189002_1)) (ds := []) #[false, false, false, false, false, false, false, false, false, false, false] (by kernel_rfl) rfl rfl ⟨(blk_cell BK188.out 0).trans rfl, (blk_cell BK188.out 1).trans rfl, (blk_cell BK188.out 2).trans rfl⟩ (fun hHeld => ?_); refine with_tabW laws_FnGapScript.tab14 laws_FnGapScript.bits14 (fun HT_ HW_ => ?_)
            generalize w37.drew = w39 at HO_5 HO_189000 HO207 BK188 HI187 HB hHeld ⊢
            refine pure_ (i := 1) (N := some 57) (v := ?_) (a' := ?_) #[false, true, false, false, false, false, false, false, false, false, false] rfl rfl (any_of HT_.out (by kernel_rfl)) (fun _ _ _ h => h) (Or.inl ⟨by rfl, ?_⟩) ?_ ?_
            rotate_left
            ·intro w'
             go_simp
             with_reducible rfl
            rotate_left
            ·simp only [Act.put, List.setIfInBounds_toArray, List.set_cons_zero, List.set_cons_succ, i64_w, i32_w]
             rfl
            refine pure_ (i := 2) (N := some 58) (v := ?_) (a' := ?_) #[false, true, true, false, false, false, false, false, false, false, false] rfl rfl (any_of HT_.out (by kernel_rfl)) (fun _ _ _ h => h) (Or.inl ⟨by rfl, ?_⟩) ?_ ?_
            rotate_left
            ·intro w'
             go_simp
             with_reducible rfl
            rotate_left
            ·simp only [Act.put, List.setIfInBounds_toArray, List.set_cons_zero, List.set_cons_succ, i64_w, i32_w]
             rfl
            refine take_ (i := 0) (N := some 56) (v := ?_) (a' := ?_) #[true, true, true, false, false, false, false, false, false, false, false] rfl rfl (take_ofW HT_.out HW_.out (by kernel_rfl)) (fun _ _ _ h => h) (Or.inl ⟨by rfl, ?_⟩) hHeld ?_ ?_
            rotate_left
            ·rintro w' ⟨s0, s1, s2⟩
             go_simp
             with_reducible rfl
            rotate_left
            ·simp only [Act.put, List.setIfInBounds_toArray, List.set_cons_zero, List.set_cons_succ, i64_w, i32_w]
             rfl
            refine join_ (σ := Value × Value × Nat) 2 #[true, true, true, true, true, true, true, true, true, false, false] (fun s_ => [(59, s_.1), (60, .tuple #[.agg #[s_.2.1, .int .i64 t216, .int .i64 t217], .int .i64 t218]), (11, .pointer (some ⟨s_.2.2, 0, none⟩)), (55, .tuple #[.agg #[s_.2.1, .int .i64 t216, .int .i64 t217], .int .i64 t218]), (61, .agg #[s_.2.1, .int .i64 t216, .int .i64 t217]), (62, .int .i64 t218)]) (fun s_ w' => (w'.cell? ⟨gb188, 0, none⟩ = some (.slice Ao19 x189000_1.length co19) ∧ w'.cell? ⟨gb188, 1, none⟩ = some (.int .i64 x189001_1) ∧ w'.cell? ⟨gb188, 2, none⟩ = some (.int .i64 x189002_1)) ∧ (Kd.R (Kd.int .i32) 21 w' w.heap.size (fun k_ => some k_ ≠ (s_.1 : Value).ownBlock ∧ some k_ ≠ (s_.2.1 : Value).ownBlock ∧ some k_ ≠ (.slice Ao19 x189000_1.length co19 : Value).ownBlock ∧ some k_ ≠ (.slice Ao20 x5_1.length co20 : Value).ownBlock) (.slice Ao38 t205.length co38) t205) ∧ (Kd.R (Kd.int .i32) 21 w' w.heap.size (fun k_ => some k_ ≠ (.slice Ao38 t205.length co38 : Value).ownBlock ∧ some k_ ≠ (s_.2.1 : Value).ownBlock ∧ some k_ ≠ (.slice Ao19 x189000_1.length co19 : Value).ownBlock ∧ some k_ ≠ (.slice Ao20 x5_1.length co20 : Value).ownBlock) s_.1 t210) ∧ (Kd.R (Kd.int .i32) 21 w' w.heap.size (fun k_ => some k_ ≠ (.slice Ao38 t205.length co38 : Value).ownBlock ∧ some k_ ≠ (s_.1 : Value).ownBlock ∧ some k_ ≠ (.slice Ao19 x189000_1.length co19 : Value).ownBlock ∧ some k_ ≠ (.slice Ao20 x5_1.length co20 : Value).ownBlock) s_.2.1 t213) ∧ (Kd.R (Kd.int .i32) 21 w' w.heap.size (fun k_ => some k_ ≠ (.slice Ao38 t205.length co38 : Value).ownBlock ∧ some k_ ≠ (s_.1 : Value).ownBlock ∧ some k_ ≠ (s_.2.1 : Value).ownBlock ∧ some k_ ≠ (.slice Ao20 x5_1.length co20 : Value).ownBlock) (.slice Ao19 x189000_1.length co19) x189000_1) ∧ (Kd.R (Kd.int .i32) 21 w' w.heap.size (fun k_ => some k_ ≠ (.slice Ao38 t205.length co38 : Value).ownBlock ∧ some k_ ≠ (s_.1 : Value).ownBlock ∧ some k_ ≠ (s_.2.1 : Value).ownBlock ∧ some k_ ≠ (.slice Ao19 x189000_1.length co19 : Value).ownBlock) (.slice Ao20 x5_1.length co20) x5_1) ∧ (w'.heap[gb188]? = some (.cells #[.slice Ao19 x189000_1.length co19, .int .i64 x189001_1, .int .i64 x189002_1] 28 (0, 0))) ∧ (w'.heap[s_.2.2]? = some (.cells #[.slice none 0 0, .int .i64 0, .int .i64 0] 28 (0, 0))) ∧ (w.heap.size ≤ s_.2.2) ∧ (w.heap.size ≤ s_.2.2) ∧ (g187 ≠ s_.2.2) ∧ (s_.2.2 ≠ g187) ∧ (gb188 ≠ s_.2.2) ∧ (s_.2.2 ≠ gb188) ∧ (IsS121 w w' g187 t184 t208 t209) ∧ (Below w.heap.size w w')) ?_ ?_
            rotate_left
            ·intro hCont
             refine two_ (i := 3) (j := 8) (Ni := some 59) (Nj := some 11) #[true, true, true, true, false, false, false, false, false, false, false] #[true, true, true, false, false, false, false, false, true, false, false] rfl rfl rfl rfl (two_of HT_.out (by kernel_rfl)) (by decide) (by decide) (fun K hK => ?_) (fun K hK => ?_)
             ·skip
              refine goes_ Tryd.func29 (by kernel_rfl) rfl #[.slice Ao38 t205.length co38] (by rfl) rfl rfl (by (try simp only [List.map_toArray, List.map_cons, List.map_nil]); first | done | rfl | (simp only [List.length_drop, List.length_take]; rfl)) ?_
              with_reducible refine (laws_cpText.calls _ _ t205 t210 _ ?side1 ?side2 A26.out).mono ?_
              (case side1 => repeat (first | exact (Kd.R_reads' HO207.out).2.2 | (with_reducible refine Kd.C_alloc ?_ _) | (with_reducible refine Kd.C_drewN ?_ _) | (with_reducible refine Kd.C_drew ?_)))
              (case side2 => exact (Kd.R_reads' HO207.out).2.1)
              rintro e w40 ⟨v211, rfl, ho0, hb⟩
              refine ⟨_, rfl, ?_⟩
              have n0_ := Aside0.mk (Kd.R_elder' (rD HO_5.out) (Kd.R_base ho0) hb)
              have n1_ := Aside0.mk (Kd.R_elder' (rD HO_189000.out) (Kd.R_base ho0) hb)
              have n2_ := Aside0.mk (Kd.R_elder' (rD HO207.out) (Kd.R_base ho0) hb)
              have n3_ := Aside0.mk (Kd.R_lower (Kd.R_new' (Kd.R_new' (Kd.R_new' ho0 (Kd.R_lt (rD HO_5.out))) (Kd.R_lt (rD HO_189000.out))) (Kd.R_lt (rD HO207.out))) (below_size (hbS HB (IsS121.ge HI187.out))))
              have n4_ := Aside0.mk (blk_below (bkD BK188) hb)
              have n5_ := Aside0.mk (IsS121.below (isD HI187) hb)
              have n6_ := Aside0.mk (below_step (hbS HB (IsS121.ge HI187.out)) hb)
              clear HO_5 HO_189000 HO207 BK188 HI187 HB
              have HO_5 := n0_
              have HO_189000 := n1_
              have HO207 := n2_
              have HO212 := n3_
              have BK188 := n4_
              have HI187 := n5_
              have HB := n6_
              clear n0_ n1_ n2_ n3_ n4_ n5_ n6_
              (try clear hb)
              (try clear hb2)
              (try clear hk)
              (try clear hi)
              (try clear ho0)
              obtain ⟨Ao41, co41, eo41⟩ := Kd.R_slice HO212.out
              (first | subst eo41 | (injection eo41 with f1_ f2_ f3_; have f4_ := f1_.symm; have f5_ := f3_.symm; clear f1_ f2_ f3_; subst f4_; subst f5_))
              refine hK.out _ _ ⟨(blk_cell BK188.out 0).trans rfl, (blk_cell BK188.out 1).trans rfl, (blk_cell BK188.out 2).trans rfl⟩ (fun hHeld => ?_)
              clear hK K
              refine norm_ (a' := ?_) ?_ ?_
              rotate_left
              ·show Act.put _ (some 59) _ = _
               simp only [Act.put, List.setIfInBounds_toArray, List.set_cons_zero, List.set_cons_succ, i64_w, i32_w]
               rfl
              refine two_ (i := 4) (j := 8) (Ni := some 60) (Nj := some 11) #[true, true, true, true, true, false, false, false, false, false, false] #[true, true, true, true, false, false, false, false, true, false, false] rfl rfl rfl rfl (two_of HT_.out (by kernel_rfl)) (by decide) (by decide) (fun K hK => ?_) (fun K hK => ?_)
              ·skip
               refine goes_ Tryd.func24 (by kernel_rfl) rfl #[.agg #[.slice Ao19 x189000_1.length co19, .int .i64 x189001_1, .int .i64 x189002_1], .int .i64 t196, .slice Ao41 t210.length co41] (by rfl) rfl rfl (by (try simp only [List.map_toArray, List.map_cons, List.map_nil]); first | done | rfl | (simp only [List.length_drop, List.length_take]; rfl)) ?_
               with_reducible refine (impl_GapInsert.calls _ _ x189000_1 x189001_1 x189002_1 t196 _ _ t210 t213 t216 t217 t218 _ ?side1 ?side2 ?side3 ?side4 ?side5 A27.out).mono ?_
               (case side1 => repeat (first | exact (Kd.R_reads' HO_189000.out).2.2 | (with_reducible refine Kd.C_alloc ?_ _) | (with_reducible refine Kd.C_drewN ?_ _) | (with_reducible refine Kd.C_drew ?_)))
               (case side2 => exact (Kd.R_reads' HO_189000.out).2.1)
               (case side3 => repeat (first | exact (Kd.R_reads' HO212.out).2.2 | (with_reducible refine Kd.C_alloc ?_ _) | (with_reducible refine Kd.C_drewN ?_ _) | (with_reducible refine Kd.C_drew ?_)))
               (case side4 => exact (Kd.R_reads' HO212.out).2.1)
               (case side5 => exact HG.below hgG_ (hbS HB (IsS121.ge HI187.out)))
               rintro e w42 ⟨v214, rfl, ho0, hb⟩
               refine ⟨_, rfl, ?_⟩
               have n0_ := Aside0.mk (Kd.R_elder' (rD HO_5.out) (Kd.R_base ho0) hb)
               have n1_ := Aside0.mk (Kd.R_elder' (rD HO_189000.out) (Kd.R_base ho0) hb)
               have n2_ := Aside0.mk (Kd.R_elder' (rD HO207.out) (Kd.R_base ho0) hb)
               have n3_ := Aside0.mk (Kd.R_elder' (rD HO212.out) (Kd.R_base ho0) hb)
               have n4_ := Aside0.mk (Kd.R_lower (Kd.R_new' (Kd.R_new' (Kd.R_new' (Kd.R_new' ho0 (Kd.R_lt (rD HO_5.out))) (Kd.R_lt (rD HO_189000.out))) (Kd.R_lt (rD HO207.out))) (Kd.R_lt (rD HO212.out))) (below_size (hbS HB (IsS121.ge HI187.out))))
               have n5_ := Aside0.mk (blk_below (bkD BK188) hb)
               have n6_ := Aside0.mk (IsS121.below (isD HI187) hb)
               have n7_ := Aside0.mk (below_step (hbS HB (IsS121.ge HI187.out)) hb)
               clear HO_5 HO_189000 HO207 HO212 BK188 HI187 HB
               have HO_5 := n0_
               have HO_189000 := n1_
               have HO207 := n2_
               have HO212 := n3_
               have HO215 := n4_
               have BK188 := n5_
               have HI187 := n6_
               have HB := n7_
               clear n0_ n1_ n2_ n3_ n4_ n5_ n6_ n7_
               (try clear hb)
               (try clear hb2)
               (try clear hk)
               (try clear hi)
               (try clear ho0)
               refine hK.out _ _ ⟨(blk_cell BK188.out 0).trans rfl, (blk_cell BK188.out 1).trans rfl, (blk_cell BK188.out 2).trans rfl⟩ (fun hHeld => ?_)
               clear hK K
               refine norm_ (a' := ?_) ?_ ?_
               rotate_left
               ·show Act.put _ (some 60) _ = _
                simp only [Act.put, List.setIfInBounds_toArray, List.set_cons_zero, List.set_cons_succ, i64_w, i32_w]
                rfl
               refine pure_ (i := 5) (N := some 55) (v := ?_) (a' := ?_) #[true, true, true, true, true, true, false, false, false, false, false] rfl rfl (any_of HT_.out (by kernel_rfl)) (fun _ _ _ h => h) (Or.inl ⟨by rfl, ?_⟩) ?_ ?_
               rotate_left
               ·intro w'
                go_simp
                with_reducible rfl
               rotate_left
               ·simp only [Act.put, List.setIfInBounds_toArray, List.set_cons_zero, List.set_cons_succ, i64_w, i32_w]
                rfl
               refine pure_ (i := 6) (N := some 61) (v := ?_) (a' := ?_) #[true, true, true, true, true, true, true, false, false, false, false] rfl rfl (any_of HT_.out (by kernel_rfl)) (fun _ _ _ h => h) (Or.inl ⟨by rfl, ?_⟩) ?_ ?_
               rotate_left
               ·intro w'
                go_simp
                with_reducible rfl
               rotate_left
               ·simp only [Act.put, List.setIfInBounds_toArray, List.set_cons_zero, List.set_cons_succ, i64_w, i32_w]
                rfl
               refine pure_ (i := 7) (N := some 62) (v := ?_) (a' := ?_) #[true, true, true, true, true, true, true, true, false, false, false] rfl rfl (any_of HT_.out (by kernel_rfl)) (fun _ _ _ h => h) (Or.inl ⟨by rfl, ?_⟩) ?_ ?_
               rotate_left
               ·intro w'
                go_simp
                with_reducible rfl
               rotate_left
               ·simp only [Act.put, List.setIfInBounds_toArray, List.set_cons_zero, List.set_cons_succ, i64_w, i32_w]
                rfl
               refine one_ (i := 8) (N := some 11) #[true, true, true, true, true, true, true, true, true, false, false] rfl rfl (one_of HT_.out (by kernel_rfl)) (by decide) (fun K hK => ?_)
               refine box_step ?hg (N := 11) ?hd (cs := #[.slice none 0 0, .int .i64 0, .int .i64 0]) (t := 28) ?hr ?_; (case hd => rfl); (case hg => rfl); (case hr => first | (go_simp; done) | (go_simp; rfl))
               intro gb219 hg w43 hbox hb
               have n0_ := Aside0.mk (Kd.R_below (rD HO_5.out) hb)
               have n1_ := Aside0.mk (Kd.R_below (rD HO_189000.out) hb)
               have n2_ := Aside0.mk (Kd.R_below (rD HO207.out) hb)
               have n3_ := Aside0.mk (Kd.R_below (rD HO212.out) hb)
               have n4_ := Aside0.mk (Kd.R_below (rD HO215.out) hb)
               have n5_ := Aside0.mk (blk_below (bkD BK188) hb)
               have n6_ := Aside0.mk (IsS121.below (isD HI187) hb)
               have n7_ := Aside0.mk (below_step (hbS HB (IsS121.ge HI187.out)) hb)
               have n8_ := Aside0.mk (hbox)
               have n9_ := Aside0.mk ((by rw [hg]; exact (below_size (hbS HB (IsS121.ge HI187.out))) : w.heap.size ≤ gb219))
               have n10_ := Aside0.mk ((by rw [hg]; exact (below_size (hbS HB (IsS121.ge HI187.out))) : w.heap.size ≤ gb219))
               have n11_ := Aside0.mk ((by rw [hg]; exact Nat.ne_of_lt (blk_lt (bkD BK188)) : gb188 ≠ gb219))
               have n12_ := Aside0.mk ((by rw [hg]; exact Nat.ne_of_gt (blk_lt (bkD BK188)) : gb219 ≠ gb188))
               have n13_ := Aside0.mk ((by rw [hg]; exact Nat.ne_of_lt (IsS121.lt (isD HI187 (f := t208) (f' := t209))) : g187 ≠ gb219))
               have n14_ := Aside0.mk ((by rw [hg]; exact Nat.ne_of_gt (IsS121.lt (isD HI187 (f := t208) (f' := t209))) : gb219 ≠ g187))
               clear HO_5 HO_189000 HO207 HO212 HO215 BK188 HI187 HB
               have HO_5 := n0_
               have HO_189000 := n1_
               have HO207 := n2_
               have HO212 := n3_
               have HO215 := n4_
               have BK188 := n5_
               have HI187 := n6_
               have HB := n7_
               have BK219 := n8_
               have GW219 := n9_
               have GE219 := n10_
               have NB188_219 := n11_
               have NB219_188 := n12_
               have NB187_219 := n13_
               have NB219_187 := n14_
               clear n0_ n1_ n2_ n3_ n4_ n5_ n6_ n7_ n8_ n9_ n10_ n11_ n12_ n13_ n14_ hb hbox hg
               refine hK.out _ _ ⟨(blk_cell BK188.out 0).trans rfl, (blk_cell BK188.out 1).trans rfl, (blk_cell BK188.out 2).trans rfl⟩ (fun hHeld => ?_)
               clear hK K
               refine norm_ (a' := ?_) ?_ ?_
               rotate_left
               ·show Act.put _ (some 11) _ = _
                simp only [Act.put, List.setIfInBounds_toArray, List.set_cons_zero, List.set_cons_succ, i64_w, i32_w]
                rfl
               exact norm_ (by simp only [putAll, Act.put, List.setIfInBounds_toArray, List.set_cons_zero, List.set_cons_succ]) (hCont (.slice Ao41 t210.length co41, v214, gb219) _ ⟨hHeld, (rD (Kd.R_mono HO207.out (fun _ hk => ⟨hk.1.2, ⟨hk.2, ⟨hk.1.1.2, hk.1.1.1.2⟩⟩⟩))), (rD (Kd.R_mono HO212.out (fun _ hk => ⟨hk.1.2, ⟨hk.2, ⟨hk.1.1.2, hk.1.1.1.2⟩⟩⟩))), (rD (Kd.R_mono HO215.out (fun _ hk => ⟨hk.1.2, ⟨hk.2, ⟨hk.1.1.2, hk.1.1.1.2⟩⟩⟩))), (rD (Kd.R_mono HO_189000.out (fun _ hk => ⟨hk.1.1.2, ⟨hk.1.2, ⟨hk.2, hk.1.1.1⟩⟩⟩))), (rD (Kd.R_mono HO_5.out (fun _ hk => ⟨hk.1.1.2, ⟨hk.1.2, ⟨hk.2, hk.1.1.1⟩⟩⟩))), (bkD BK188), (bkD BK219), GW219.out, GE219.out, NB187_219.out, NB219_187.out, NB188_219.out, NB219_188.out, (isD HI187), (hbS HB (IsS121.ge HI187.out))⟩)
              ·skip
               refine box_step ?hg (N := 11) ?hd (cs := #[.slice none 0 0, .int .i64 0, .int .i64 0]) (t := 28) ?hr ?_; (case hd => rfl); (case hg => rfl); (case hr => first | (go_simp; done) | (go_simp; rfl))
               intro gb219 hg w41 hbox hb
               have n0_ := Aside0.mk (Kd.R_below (rD HO_5.out) hb)
               have n1_ := Aside0.mk (Kd.R_below (rD HO_189000.out) hb)
               have n2_ := Aside0.mk (Kd.R_below (rD HO207.out) hb)
               have n3_ := Aside0.mk (Kd.R_below (rD HO212.out) hb)
               have n4_ := Aside0.mk (blk_below (bkD BK188) hb)
               have n5_ := Aside0.mk (IsS121.below (isD HI187) hb)
               have n6_ := Aside0.mk (below_step (hbS HB (IsS121.ge HI187.out)) hb)
               have n7_ := Aside0.mk (hbox)
               have n8_ := Aside0.mk ((by rw [hg]; exact (below_size (hbS HB (IsS121.ge HI187.out))) : w.heap.size ≤ gb219))
               have n9_ := Aside0.mk ((by rw [hg]; exact (below_size (hbS HB (IsS121.ge HI187.out))) : w.heap.size ≤ gb219))
               have n10_ := Aside0.mk ((by rw [hg]; exact Nat.ne_of_lt (blk_lt (bkD BK188)) : gb188 ≠ gb219))
               have n11_ := Aside0.mk ((by rw [hg]; exact Nat.ne_of_gt (blk_lt (bkD BK188)) : gb219 ≠ gb188))
               have n12_ := Aside0.mk ((by rw [hg]; exact Nat.ne_of_lt (IsS121.lt (isD HI187 (f := t208) (f' := t209))) : g187 ≠ gb219))
               have n13_ := Aside0.mk ((by rw [hg]; exact Nat.ne_of_gt (IsS121.lt (isD HI187 (f := t208) (f' := t209))) : gb219 ≠ g187))
               clear HO_5 HO_189000 HO207 HO212 BK188 HI187 HB
               have HO_5 := n0_
               have HO_189000 := n1_
               have HO207 := n2_
               have HO212 := n3_
               have BK188 := n4_
               have HI187 := n5_
               have HB := n6_
               have BK219 := n7_
               have GW219 := n8_
               have GE219 := n9_
               have NB188_219 := n10_
               have NB219_188 := n11_
               have NB187_219 := n12_
               have NB219_187 := n13_
               clear n0_ n1_ n2_ n3_ n4_ n5_ n6_ n7_ n8_ n9_ n10_ n11_ n12_ n13_ hb hbox hg
               obtain ⟨Ao42, co42, eo42⟩ := Kd.R_slice HO212.out
               (first | subst eo42 | (injection eo42 with f1_ f2_ f3_; have f4_ := f1_.symm; have f5_ := f3_.symm; clear f1_ f2_ f3_; subst f4_; subst f5_))
               refine hK.out _ _ ⟨(blk_cell BK188.out 0).trans rfl, (blk_cell BK188.out 1).trans rfl, (blk_cell BK188.out 2).trans rfl⟩ (fun hHeld => ?_)
               clear hK K
               refine norm_ (a' := ?_) ?_ ?_
               rotate_left
               ·show Act.put _ (some 11) _ = _
                simp only [Act.put, List.setIfInBounds_toArray, List.set_cons_zero, List.set_cons_succ, i64_w, i32_w]
                rfl
               refine one_ (i := 4) (N := some 60) #[true, true, true, true, true, false, false, false, true, false, false] rfl rfl (one_of HT_.out (by kernel_rfl)) (by decide) (fun K hK => ?_)
               refine goes_ Tryd.func24 (by kernel_rfl) rfl #[.agg #[.slice Ao19 x189000_1.length co19, .int .i64 x189001_1, .int .i64 x189002_1], .int .i64 t196, .slice Ao42 t210.length co42] (by rfl) rfl rfl (by (try simp only [List.map_toArray, List.map_cons, List.map_nil]); first | done | rfl | (simp only [List.length_drop, List.length_take]; rfl)) ?_
               with_reducible refine (impl_GapInsert.calls _ _ x189000_1 x189001_1 x189002_1 t196 _ _ t210 t213 t216 t217 t218 _ ?side1 ?side2 ?side3 ?side4 ?side5 A27.out).mono ?_
               (case side1 => repeat (first | exact (Kd.R_reads' HO_189000.out).2.2 | (with_reducible refine Kd.C_alloc ?_ _) | (with_reducible refine Kd.C_drewN ?_ _) | (with_reducible refine Kd.C_drew ?_)))
               (case side2 => exact (Kd.R_reads' HO_189000.out).2.1)
               (case side3 => repeat (first | exact (Kd.R_reads' HO212.out).2.2 | (with_reducible refine Kd.C_alloc ?_ _) | (with_reducible refine Kd.C_drewN ?_ _) | (with_reducible refine Kd.C_drew ?_)))
               (case side4 => exact (Kd.R_reads' HO212.out).2.1)
               (case side5 => exact HG.below hgG_ (hbS HB (IsS121.ge HI187.out)))
               rintro e w43 ⟨v214, rfl, ho0, hb⟩
               refine ⟨_, rfl, ?_⟩
               have n0_ := Aside0.mk (Kd.R_elder' (rD HO_5.out) (Kd.R_base ho0) hb)
               have n1_ := Aside0.mk (Kd.R_elder' (rD HO_189000.out) (Kd.R_base ho0) hb)
               have n2_ := Aside0.mk (Kd.R_elder' (rD HO207.out) (Kd.R_base ho0) hb)
               have n3_ := Aside0.mk (Kd.R_elder' (rD HO212.out) (Kd.R_base ho0) hb)
               have n4_ := Aside0.mk (Kd.R_lower (Kd.R_new' (Kd.R_new' (Kd.R_new' (Kd.R_new' ho0 (Kd.R_lt (rD HO_5.out))) (Kd.R_lt (rD HO_189000.out))) (Kd.R_lt (rD HO207.out))) (Kd.R_lt (rD HO212.out))) (below_size (hbS HB (IsS121.ge HI187.out))))
               have n5_ := Aside0.mk (blk_below (bkD BK188) hb)
               have n6_ := Aside0.mk (IsS121.below (isD HI187) hb)
               have n7_ := Aside0.mk (blk_below (bkD BK219) hb)
               have n8_ := Aside0.mk (below_step (hbS HB (IsS121.ge HI187.out)) hb)
               clear HO_5 HO_189000 HO207 HO212 BK188 HI187 BK219 HB
               have HO_5 := n0_
               have HO_189000 := n1_
               have HO207 := n2_
               have HO212 := n3_
               have HO215 := n4_
               have BK188 := n5_
               have HI187 := n6_
               have BK219 := n7_
               have HB := n8_
               clear n0_ n1_ n2_ n3_ n4_ n5_ n6_ n7_ n8_
               (try clear hb)
               (try clear hb2)
               (try clear hk)
               (try clear hi)
               (try clear ho0)
               refine hK.out _ _ ⟨(blk_cell BK188.out 0).trans rfl, (blk_cell BK188.out 1).trans rfl, (blk_cell BK188.out 2).trans rfl⟩ (fun hHeld => ?_)
               clear hK K
               refine norm_ (a' := ?_) ?_ ?_
               rotate_left
               ·show Act.put _ (some 60) _ = _
                simp only [Act.put, List.setIfInBounds_toArray, List.set_cons_zero, List.set_cons_succ, i64_w, i32_w]
                rfl
               refine pure_ (i := 5) (N := some 55) (v := ?_) (a' := ?_) #[true, true, true, true, true, true, false, false, true, false, false] rfl rfl (any_of HT_.out (by kernel_rfl)) (fun _ _ _ h => h) (Or.inl ⟨by rfl, ?_⟩) ?_ ?_
               rotate_left
               ·intro w'
                go_simp
                with_reducible rfl
               rotate_left
               ·simp only [Act.put, List.setIfInBounds_toArray, List.set_cons_zero, List.set_cons_succ, i64_w, i32_w]
                rfl
               refine pure_ (i := 6) (N := some 61) (v := ?_) (a' := ?_) #[true, true, true, true, true, true, true, false, true, false, false] rfl rfl (any_of HT_.out (by kernel_rfl)) (fun _ _ _ h => h) (Or.inl ⟨by rfl, ?_⟩) ?_ ?_
               rotate_left
               ·intro w'
                go_simp
                with_reducible rfl
               rotate_left
               ·simp only [Act.put, List.setIfInBounds_toArray, List.set_cons_zero, List.set_cons_succ, i64_w, i32_w]
                rfl
               refine pure_ (i := 7) (N := some 62) (v := ?_) (a' := ?_) #[true, true, true, true, true, true, true, true, true, false, false] rfl rfl (any_of HT_.out (by kernel_rfl)) (fun _ _ _ h => h) (Or.inl ⟨by rfl, ?_⟩) ?_ ?_
               rotate_left
               ·intro w'
                go_simp
                with_reducible rfl
               rotate_left
               ·simp only [Act.put, List.setIfInBounds_toArray, List.set_cons_zero, List.set_cons_succ, i64_w, i32_w]
                rfl
               exact norm_ (by simp only [putAll, Act.put, List.setIfInBounds_toArray, List.set_cons_zero, List.set_cons_succ]) (hCont (.slice Ao42 t210.length co42, v214, gb219) _ ⟨hHeld, (rD (Kd.R_mono HO207.out (fun _ hk => ⟨hk.1.2, ⟨hk.2, ⟨hk.1.1.2, hk.1.1.1.2⟩⟩⟩))), (rD (Kd.R_mono HO212.out (fun _ hk => ⟨hk.1.2, ⟨hk.2, ⟨hk.1.1.2, hk.1.1.1.2⟩⟩⟩))), (rD (Kd.R_mono HO215.out (fun _ hk => ⟨hk.1.2, ⟨hk.2, ⟨hk.1.1.2, hk.1.1.1.2⟩⟩⟩))), (rD (Kd.R_mono HO_189000.out (fun _ hk => ⟨hk.1.1.2, ⟨hk.1.2, ⟨hk.2, hk.1.1.1⟩⟩⟩))), (rD (Kd.R_mono HO_5.out (fun _ hk => ⟨hk.1.1.2, ⟨hk.1.2, ⟨hk.2, hk.1.1.1⟩⟩⟩))), (bkD BK188), (bkD BK219), GW219.out, GE219.out, NB187_219.out, NB219_187.out, NB188_219.out, NB219_188.out, (isD HI187), (hbS HB (IsS121.ge HI187.out))⟩)
             ·skip
              refine box_step ?hg (N := 11) ?hd (cs := #[.slice none 0 0, .int .i64 0, .int .i64 0]) (t := 28) ?hr ?_; (case hd => rfl); (case hg => rfl); (case hr => first | (go_simp; done) | (go_simp; rfl))
              intro gb219 hg w40 hbox hb
              have n0_ := Aside0.mk (Kd.R_below (rD HO_5.out) hb)
              have n1_ := Aside0.mk (Kd.R_below (rD HO_189000.out) hb)
              have n2_ := Aside0.mk (Kd.R_below (rD HO207.out) hb)
              have n3_ := Aside0.mk (blk_below (bkD BK188) hb)
              have n4_ := Aside0.mk (IsS121.below (isD HI187) hb)
              have n5_ := Aside0.mk (below_step (hbS HB (IsS121.ge HI187.out)) hb)
              have n6_ := Aside0.mk (hbox)
              have n7_ := Aside0.mk ((by rw [hg]; exact (below_size (hbS HB (IsS121.ge HI187.out))) : w.heap.size ≤ gb219))
              have n8_ := Aside0.mk ((by rw [hg]; exact (below_size (hbS HB (IsS121.ge HI187.out))) : w.heap.size ≤ gb219))
              have n9_ := Aside0.mk ((by rw [hg]; exact Nat.ne_of_lt (blk_lt (bkD BK188)) : gb188 ≠ gb219))
              have n10_ := Aside0.mk ((by rw [hg]; exact Nat.ne_of_gt (blk_lt (bkD BK188)) : gb219 ≠ gb188))
              have n11_ := Aside0.mk ((by rw [hg]; exact Nat.ne_of_lt (IsS121.lt (isD HI187 (f := t208) (f' := t209))) : g187 ≠ gb219))
              have n12_ := Aside0.mk ((by rw [hg]; exact Nat.ne_of_gt (IsS121.lt (isD HI187 (f := t208) (f' := t209))) : gb219 ≠ g187))
              clear HO_5 HO_189000 HO207 BK188 HI187 HB
              have HO_5 := n0_
              have HO_189000 := n1_
              have HO207 := n2_
              have BK188 := n3_
              have HI187 := n4_
              have HB := n5_
              have BK219 := n6_
              have GW219 := n7_
              have GE219 := n8_
              have NB188_219 := n9_
              have NB219_188 := n10_
              have NB187_219 := n11_
              have NB219_187 := n12_
              clear n0_ n1_ n2_ n3_ n4_ n5_ n6_ n7_ n8_ n9_ n10_ n11_ n12_ hb hbox hg
              refine hK.out _ _ ⟨(blk_cell BK188.out 0).trans rfl, (blk_cell BK188.out 1).trans rfl, (blk_cell BK188.out 2).trans rfl⟩ (fun hHeld => ?_)
              clear hK K
              refine norm_ (a' := ?_) ?_ ?_
              rotate_left
              ·show Act.put _ (some 11) _ = _
               simp only [Act.put, List.setIfInBounds_toArray, List.set_cons_zero, List.set_cons_succ, i64_w, i32_w]
               rfl
              refine one_ (i := 3) (N := some 59) #[true, true, true, true, false, false, false, false, true, false, false] rfl rfl (one_of HT_.out (by kernel_rfl)) (by decide) (fun K hK => ?_)
              refine goes_ Tryd.func29 (by kernel_rfl) rfl #[.slice Ao38 t205.length co38] (by rfl) rfl rfl (by (try simp only [List.map_toArray, List.map_cons, List.map_nil]); first | done | rfl | (simp only [List.length_drop, List.length_take]; rfl)) ?_
              with_reducible refine (laws_cpText.calls _ _ t205 t210 _ ?side1 ?side2 A26.out).mono ?_
              (case side1 => repeat (first | exact (Kd.R_reads' HO207.out).2.2 | (with_reducible refine Kd.C_alloc ?_ _) | (with_reducible refine Kd.C_drewN ?_ _) | (with_reducible refine Kd.C_drew ?_)))
              (case side2 => exact (Kd.R_reads' HO207.out).2.1)
              rintro e w41 ⟨v211, rfl, ho0, hb⟩
              refine ⟨_, rfl, ?_⟩
              have n0_ := Aside0.mk (Kd.R_elder' (rD HO_5.out) (Kd.R_base ho0) hb)
              have n1_ := Aside0.mk (Kd.R_elder' (rD HO_189000.out) (Kd.R_base ho0) hb)
              have n2_ := Aside0.mk (Kd.R_elder' (rD HO207.out) (Kd.R_base ho0) hb)
              have n3_ := Aside0.mk (Kd.R_lower (Kd.R_new' (Kd.R_new' (Kd.R_new' ho0 (Kd.R_lt (rD HO_5.out))) (Kd.R_lt (rD HO_189000.out))) (Kd.R_lt (rD HO207.out))) (below_size (hbS HB (IsS121.ge HI187.out))))
              have n4_ := Aside0.mk (blk_below (bkD BK188) hb)
              have n5_ := Aside0.mk (IsS121.below (isD HI187) hb)
              have n6_ := Aside0.mk (blk_below (bkD BK219) hb)
              have n7_ := Aside0.mk (below_step (hbS HB (IsS121.ge HI187.out)) hb)
              clear HO_5 HO_189000 HO207 BK188 HI187 BK219 HB
              have HO_5 := n0_
              have HO_189000 := n1_
              have HO207 := n2_
              have HO212 := n3_
              have BK188 := n4_
              have HI187 := n5_
              have BK219 := n6_
              have HB := n7_
              clear n0_ n1_ n2_ n3_ n4_ n5_ n6_ n7_
              (try clear hb)
              (try clear hb2)
              (try clear hk)
              (try clear hi)
              (try clear ho0)
              obtain ⟨Ao42, co42, eo42⟩ := Kd.R_slice HO212.out
              (first | subst eo42 | (injection eo42 with f1_ f2_ f3_; have f4_ := f1_.symm; have f5_ := f3_.symm; clear f1_ f2_ f3_; subst f4_; subst f5_))
              refine hK.out _ _ ⟨(blk_cell BK188.out 0).trans rfl, (blk_cell BK188.out 1).trans rfl, (blk_cell BK188.out 2).trans rfl⟩ (fun hHeld => ?_)
              clear hK K
              refine norm_ (a' := ?_) ?_ ?_
              rotate_left
              ·show Act.put _ (some 59) _ = _
               simp only [Act.put, List.setIfInBounds_toArray, List.set_cons_zero, List.set_cons_succ, i64_w, i32_w]
               rfl
              refine one_ (i := 4) (N := some 60) #[true, true, true, true, true, false, false, false, true, false, false] rfl rfl (one_of HT_.out (by kernel_rfl)) (by decide) (fun K hK => ?_)
              refine goes_ Tryd.func24 (by kernel_rfl) rfl #[.agg #[.slice Ao19 x189000_1.length co19, .int .i64 x189001_1, .int .i64 x189002_1], .int .i64 t196, .slice Ao42 t210.length co42] (by rfl) rfl rfl (by (try simp only [List.map_toArray, List.map_cons, List.map_nil]); first | done | rfl | (simp only [List.length_drop, List.length_take]; rfl)) ?_
              with_reducible refine (impl_GapInsert.calls _ _ x189000_1 x189001_1 x189002_1 t196 _ _ t210 t213 t216 t217 t218 _ ?side1 ?side2 ?side3 ?side4 ?side5 A27.out).mono ?_
              (case side1 => repeat (first | exact (Kd.R_reads' HO_189000.out).2.2 | (with_reducible refine Kd.C_alloc ?_ _) | (with_reducible refine Kd.C_drewN ?_ _) | (with_reducible refine Kd.C_drew ?_)))
              (case side2 => exact (Kd.R_reads' HO_189000.out).2.1)
              (case side3 => repeat (first | exact (Kd.R_reads' HO212.out).2.2 | (with_reducible refine Kd.C_alloc ?_ _) | (with_reducible refine Kd.C_drewN ?_ _) | (with_reducible refine Kd.C_drew ?_)))
              (case side4 => exact (Kd.R_reads' HO212.out).2.1)
              (case side5 => exact HG.below hgG_ (hbS HB (IsS121.ge HI187.out)))
              rintro e w43 ⟨v214, rfl, ho0, hb⟩
              refine ⟨_, rfl, ?_⟩
              have n0_ := Aside0.mk (Kd.R_elder' (rD HO_5.out) (Kd.R_base ho0) hb)
              have n1_ := Aside0.mk (Kd.R_elder' (rD HO_189000.out) (Kd.R_base ho0) hb)
              have n2_ := Aside0.mk (Kd.R_elder' (rD HO207.out) (Kd.R_base ho0) hb)
              have n3_ := Aside0.mk (Kd.R_elder' (rD HO212.out) (Kd.R_base ho0) hb)
              have n4_ := Aside0.mk (Kd.R_lower (Kd.R_new' (Kd.R_new' (Kd.R_new' (Kd.R_new' ho0 (Kd.R_lt (rD HO_5.out))) (Kd.R_lt (rD HO_189000.out))) (Kd.R_lt (rD HO207.out))) (Kd.R_lt (rD HO212.out))) (below_size (hbS HB (IsS121.ge HI187.out))))
              have n5_ := Aside0.mk (blk_below (bkD BK188) hb)
              have n6_ := Aside0.mk (IsS121.below (isD HI187) hb)
              have n7_ := Aside0.mk (blk_below (bkD BK219) hb)
              have n8_ := Aside0.mk (below_step (hbS HB (IsS121.ge HI187.out)) hb)
              clear HO_5 HO_189000 HO207 HO212 BK188 HI187 BK219 HB
              have HO_5 := n0_
              have HO_189000 := n1_
              have HO207 := n2_
              have HO212 := n3_
              have HO215 := n4_
              have BK188 := n5_
              have HI187 := n6_
              have BK219 := n7_
              have HB := n8_
              clear n0_ n1_ n2_ n3_ n4_ n5_ n6_ n7_ n8_
              (try clear hb)
              (try clear hb2)
              (try clear hk)
              (try clear hi)
              (try clear ho0)
              refine hK.out _ _ ⟨(blk_cell BK188.out 0).trans rfl, (blk_cell BK188.out 1).trans rfl, (blk_cell BK188.out 2).trans rfl⟩ (fun hHeld => ?_)
              clear hK K
              refine norm_ (a' := ?_) ?_ ?_
              rotate_left
              ·show Act.put _ (some 60) _ = _
               simp only [Act.put, List.setIfInBounds_toArray, List.set_cons_zero, List.set_cons_succ, i64_w, i32_w]
               rfl
              refine pure_ (i := 5) (N := some 55) (v := ?_) (a' := ?_) #[true, true, true, true, true, true, false, false, true, false, false] rfl rfl (any_of HT_.out (by kernel_rfl)) (fun _ _ _ h => h) (Or.inl ⟨by rfl, ?_⟩) ?_ ?_
              rotate_left
              ·intro w'
               go_simp
               with_reducible rfl
              rotate_left
              ·simp only [Act.put, List.setIfInBounds_toArray, List.set_cons_zero, List.set_cons_succ, i64_w, i32_w]
               rfl
              refine pure_ (i := 6) (N := some 61) (v := ?_) (a' := ?_) #[true, true, true, true, true, true, true, false, true, false, false] rfl rfl (any_of HT_.out (by kernel_rfl)) (fun _ _ _ h => h) (Or.inl ⟨by rfl, ?_⟩) ?_ ?_
              rotate_left
              ·intro w'
               go_simp
               with_reducible rfl
              rotate_left
              ·simp only [Act.put, List.setIfInBounds_toArray, List.set_cons_zero, List.set_cons_succ, i64_w, i32_w]
               rfl
              refine pure_ (i := 7) (N := some 62) (v := ?_) (a' := ?_) #[true, true, true, true, true, true, true, true, true, false, false] rfl rfl (any_of HT_.out (by kernel_rfl)) (fun _ _ _ h => h) (Or.inl ⟨by rfl, ?_⟩) ?_ ?_
              rotate_left
              ·intro w'
               go_simp
               with_reducible rfl
              rotate_left
              ·simp only [Act.put, List.setIfInBounds_toArray, List.set_cons_zero, List.set_cons_succ, i64_w, i32_w]
               rfl
              exact norm_ (by simp only [putAll, Act.put, List.setIfInBounds_toArray, List.set_cons_zero, List.set_cons_succ]) (hCont (.slice Ao42 t210.length co42, v214, gb219) _ ⟨hHeld, (rD (Kd.R_mono HO207.out (fun _ hk => ⟨hk.1.2, ⟨hk.2, ⟨hk.1.1.2, hk.1.1.1.2⟩⟩⟩))), (rD (Kd.R_mono HO212.out (fun _ hk => ⟨hk.1.2, ⟨hk.2, ⟨hk.1.1.2, hk.1.1.1.2⟩⟩⟩))), (rD (Kd.R_mono HO215.out (fun _ hk => ⟨hk.1.2, ⟨hk.2, ⟨hk.1.1.2, hk.1.1.1.2⟩⟩⟩))), (rD (Kd.R_mono HO_189000.out (fun _ hk => ⟨hk.1.1.2, ⟨hk.1.2, ⟨hk.2, hk.1.1.1⟩⟩⟩))), (rD (Kd.R_mono HO_5.out (fun _ hk => ⟨hk.1.1.2, ⟨hk.1.2, ⟨hk.2, hk.1.1.1⟩⟩⟩))), (bkD BK188), (bkD BK219), GW219.out, GE219.out, NB187_219.out, NB219_187.out, NB188_219.out, NB219_188.out, (isD HI187), (hbS HB (IsS121.ge HI187.out))⟩)
            rintro ⟨v211, v214, gb219⟩ w44 ⟨hS_, h0_, h1_, h2_, h3_, h4_, h5_, h6_, h7_, h8_, h9_, h10_, h11_, h12_, h13_, h14_⟩
            have n0_ : Aside0 (Kd.R (Kd.int .i32) 21 w44 w.heap.size (fun k_ => some k_ ≠ (v211 : Value).ownBlock ∧ some k_ ≠ (v214 : Value).ownBlock ∧ some k_ ≠ (.slice Ao19 x189000_1.length co19 : Value).ownBlock ∧ some k_ ≠ (.slice Ao20 x5_1.length co20 : Value).ownBlock) (.slice Ao38 t205.length co38) t205) := ⟨h0_⟩
            have n1_ : Aside0 (Kd.R (Kd.int .i32) 21 w44 w.heap.size (fun k_ => some k_ ≠ (.slice Ao38 t205.length co38 : Value).ownBlock ∧ some k_ ≠ (v214 : Value).ownBlock ∧ some k_ ≠ (.slice Ao19 x189000_1.length co19 : Value).ownBlock ∧ some k_ ≠ (.slice Ao20 x5_1.length co20 : Value).ownBlock) v211 t210) := ⟨h1_⟩
            have n2_ : Aside0 (Kd.R (Kd.int .i32) 21 w44 w.heap.size (fun k_ => some k_ ≠ (.slice Ao38 t205.length co38 : Value).ownBlock ∧ some k_ ≠ (v211 : Value).ownBlock ∧ some k_ ≠ (.slice Ao19 x189000_1.length co19 : Value).ownBlock ∧ some k_ ≠ (.slice Ao20 x5_1.length co20 : Value).ownBlock) v214 t213) := ⟨h2_⟩
            have n3_ : Aside0 (Kd.R (Kd.int .i32) 21 w44 w.heap.size (fun k_ => some k_ ≠ (.slice Ao38 t205.length co38 : Value).ownBlock ∧ some k_ ≠ (v211 : Value).ownBlock ∧ some k_ ≠ (v214 : Value).ownBlock ∧ some k_ ≠ (.slice Ao20 x5_1.length co20 : Value).ownBlock) (.slice Ao19 x189000_1.length co19) x189000_1) := ⟨h3_⟩
            have n4_ : Aside0 (Kd.R (Kd.int .i32) 21 w44 w.heap.size (fun k_ => some k_ ≠ (.slice Ao38 t205.length co38 : Value).ownBlock ∧ some k_ ≠ (v211 : Value).ownBlock ∧ some k_ ≠ (v214 : Value).ownBlock ∧ some k_ ≠ (.slice Ao19 x189000_1.length co19 : Value).ownBlock) (.slice Ao20 x5_1.length co20) x5_1) := ⟨h4_⟩
            have n5_ : Aside0 (w44.heap[gb188]? = some (.cells #[.slice Ao19 x189000_1.length co19, .int .i64 x189001_1, .int .i64 x189002_1] 28 (0, 0))) := ⟨h5_⟩
            have n6_ : Aside0 (w44.heap[gb219]? = some (.cells #[.slice none 0 0, .int .i64 0, .int .i64 0] 28 (0, 0))) := ⟨h6_⟩
            have n7_ : Aside0 (w.heap.size ≤ gb219) := ⟨h7_⟩
            have n8_ : Aside0 (w.heap.size ≤ gb219) := ⟨h8_⟩
            have n9_ : Aside0 (g187 ≠ gb219) := ⟨h9_⟩
            have n10_ : Aside0 (gb219 ≠ g187) := ⟨h10_⟩
            have n11_ : Aside0 (gb188 ≠ gb219) := ⟨h11_⟩
            have n12_ : Aside0 (gb219 ≠ gb188) := ⟨h12_⟩
            have n13_ : Aside0 (IsS121 w w44 g187 t184 t208 t209) := ⟨h13_⟩
            have n14_ : Aside0 (Below w.heap.size w w44) := ⟨h14_⟩
            clear HO_5 HO_189000 HO207 BK188 HI187 HB h0_ h1_ h2_ h3_ h4_ h5_ h6_ h7_ h8_ h9_ h10_ h11_ h12_ h13_ h14_
            have HO207 := n0_
            have HO212 := n1_
            have HO215 := n2_
            have HO_189000 := n3_
            have HO_5 := n4_
            have BK188 := n5_
            have BK219 := n6_
            have GW219 := n7_
            have GE219 := n8_
            have NB187_219 := n9_
            have NB219_187 := n10_
            have NB188_219 := n11_
            have NB219_188 := n12_
            have HI187 := n13_
            have HB := n14_
            clear n0_ n1_ n2_ n3_ n4_ n5_ n6_ n7_ n8_ n9_ n10_ n11_ n12_ n13_ n14_
            have hHeld : w44.cell? ⟨gb188, 0, none⟩ = some (.slice Ao19 x189000_1.length co19) ∧ w44.cell? ⟨gb188, 1, none⟩ = some (.int .i64 x189001_1) ∧ w44.cell? ⟨gb188, 2, none⟩ = some (.int .i64 x189002_1) := hS_
            obtain ⟨Ao45, co45, eo45⟩ := Kd.R_slice HO215.out
            (first | subst eo45 | (injection eo45 with f1_ f2_ f3_; have f4_ := f1_.symm; have f5_ := f3_.symm; clear f1_ f2_ f3_; subst f4_; subst f5_))
            refine norm_ (a' := ?_) ?_ ?_
            rotate_left
            ·simp only [putAll, Act.put, List.setIfInBounds_toArray, List.set_cons_zero, List.set_cons_succ]
             rfl
            refine one_ (i := 9) (N := none) #[true, true, true, true, true, true, true, true, true, true, false] rfl rfl (one_of HT_.out (by kernel_rfl)) (by decide) (fun K hK => ?_)
            have hs46 : w44.cell? ⟨gb219, 0, none⟩ = some (.slice none 0 0) := (blk_cell BK219.out 0).trans rfl
            have hfs46 := blk_frozen BK219.out 0
            have hns46_0 := NB188_219.out
            have hms46_0 := NB219_188.out
            have hs47 : w44.cell? ⟨gb219, 1, none⟩ = some (.int .i64 0) := (blk_cell BK219.out 1).trans rfl
            have hfs47 := blk_frozen BK219.out 1
            have hns47_0 := NB188_219.out
            have hms47_0 := NB219_188.out
            have hs48 : w44.cell? ⟨gb219, 2, none⟩ = some (.int .i64 0) := (blk_cell BK219.out 2).trans rfl
            have hfs48 := blk_frozen BK219.out 2
            have hns48_0 := NB188_219.out
            have hms48_0 := NB219_188.out
            refine skip_ (w1 := ?_) (by rfl) rfl ?_ ?_
            rotate_left
            ·go_simp
             rfl
            refine hK.out _ _ ⟨((cell_far (p := ⟨gb219, _, none⟩) NB188_219.out _).trans (((cell_far (p := ⟨gb219, _, none⟩) NB188_219.out _).trans (((cell_far (p := ⟨gb219, _, none⟩) NB188_219.out _).trans (hHeld.1)))))), ((cell_far (p := ⟨gb219, _, none⟩) NB188_219.out _).trans (((cell_far (p := ⟨gb219, _, none⟩) NB188_219.out _).trans (((cell_far (p := ⟨gb219, _, none⟩) NB188_219.out _).trans (hHeld.2.1)))))), ((cell_far (p := ⟨gb219, _, none⟩) NB188_219.out _).trans (((cell_far (p := ⟨gb219, _, none⟩) NB188_219.out _).trans (((cell_far (p := ⟨gb219, _, none⟩) NB188_219.out _).trans (hHeld.2.2))))))⟩ (fun hHeld => ?_)
            clear hK K
            refine pure_ (i := 10) (N := some 12) (v := ?_) (a' := ?_) #[true, true, true, true, true, true, true, true, true, true, true] rfl rfl (any_of HT_.out (by kernel_rfl)) (fun _ _ _ h => h) (Or.inl ⟨by rfl, ?_⟩) ?_ ?_
            rotate_left
            ·intro w'
             go_simp
             with_reducible rfl
            rotate_left
            ·simp only [Act.put, List.setIfInBounds_toArray, List.set_cons_zero, List.set_cons_succ, i64_w, i32_w]
             rfl
            refine done_ (done_of HT_.out (by kernel_rfl)) ?_
            have n0_ : Aside0 (Kd.R (Kd.int .i32) 21 (((w44.setCell ⟨gb219, 0, none⟩ (.slice Ao45 t213.length co45)).setCell ⟨gb219, 1, none⟩ (.int .i64 t216)).setCell ⟨gb219, 2, none⟩ (.int .i64 t217)) w.heap.size (fun k_ => some k_ ≠ (.slice Ao19 x189000_1.length co19 : Value).ownBlock ∧ some k_ ≠ (.slice Ao38 t205.length co38 : Value).ownBlock ∧ some k_ ≠ (v211 : Value).ownBlock ∧ some k_ ≠ (.slice Ao45 t213.length co45 : Value).ownBlock) (.slice Ao20 x5_1.length co20) x5_1) := ⟨by (with_reducible repeat (first | apply Kd.R_alloc | apply Kd.R_drewN | apply Kd.R_drew)); exact Kd.R_mono (Kd.R_far (p := ⟨gb219, 2, none⟩) (Kd.R_far (p := ⟨gb219, 1, none⟩) (Kd.R_far (p := ⟨gb219, 0, none⟩) (Kd.R_types HO_5.out BK219.out (by decide)) (fun _ hk => hk.2) (.slice Ao45 t213.length co45)) (fun _ hk => hk.2) (.int .i64 t216)) (fun _ hk => hk.2) (.int .i64 t217)) (fun _ hk => ⟨hk.1.2.2.2, ⟨hk.1.1, ⟨hk.1.2.1, hk.1.2.2.1⟩⟩⟩)⟩
            have n1_ : Aside0 (Kd.R (Kd.int .i32) 21 (((w44.setCell ⟨gb219, 0, none⟩ (.slice Ao45 t213.length co45)).setCell ⟨gb219, 1, none⟩ (.int .i64 t216)).setCell ⟨gb219, 2, none⟩ (.int .i64 t217)) w.heap.size (fun k_ => some k_ ≠ (.slice Ao20 x5_1.length co20 : Value).ownBlock ∧ some k_ ≠ (.slice Ao38 t205.length co38 : Value).ownBlock ∧ some k_ ≠ (v211 : Value).ownBlock ∧ some k_ ≠ (.slice Ao45 t213.length co45 : Value).ownBlock) (.slice Ao19 x189000_1.length co19) x189000_1) := ⟨by (with_reducible repeat (first | apply Kd.R_alloc | apply Kd.R_drewN | apply Kd.R_drew)); exact Kd.R_mono (Kd.R_far (p := ⟨gb219, 2, none⟩) (Kd.R_far (p := ⟨gb219, 1, none⟩) (Kd.R_far (p := ⟨gb219, 0, none⟩) (Kd.R_types HO_189000.out BK219.out (by decide)) (fun _ hk => hk.2) (.slice Ao45 t213.length co45)) (fun _ hk => hk.2) (.int .i64 t216)) (fun _ hk => hk.2) (.int .i64 t217)) (fun _ hk => ⟨hk.1.2.2.2, ⟨hk.1.1, ⟨hk.1.2.1, hk.1.2.2.1⟩⟩⟩)⟩
            have n2_ : Aside0 (Kd.R (Kd.int .i32) 21 (((w44.setCell ⟨gb219, 0, none⟩ (.slice Ao45 t213.length co45)).setCell ⟨gb219, 1, none⟩ (.int .i64 t216)).setCell ⟨gb219, 2, none⟩ (.int .i64 t217)) w.heap.size (fun k_ => some k_ ≠ (.slice Ao20 x5_1.length co20 : Value).ownBlock ∧ some k_ ≠ (.slice Ao19 x189000_1.length co19 : Value).ownBlock ∧ some k_ ≠ (v211 : Value).ownBlock ∧ some k_ ≠ (.slice Ao45 t213.length co45 : Value).ownBlock) (.slice Ao38 t205.length co38) t205) := ⟨by (with_reducible repeat (first | apply Kd.R_alloc | apply Kd.R_drewN | apply Kd.R_drew)); exact Kd.R_mono (Kd.R_far (p := ⟨gb219, 2, none⟩) (Kd.R_far (p := ⟨gb219, 1, none⟩) (Kd.R_far (p := ⟨gb219, 0, none⟩) (Kd.R_types HO207.out BK219.out (by decide)) (fun _ hk => hk.2) (.slice Ao45 t213.length co45)) (fun _ hk => hk.2) (.int .i64 t216)) (fun _ hk => hk.2) (.int .i64 t217)) (fun _ hk => ⟨hk.1.2.2.2, ⟨hk.1.2.2.1, ⟨hk.1.1, hk.1.2.1⟩⟩⟩)⟩
            have n3_ : Aside0 (Kd.R (Kd.int .i32) 21 (((w44.setCell ⟨gb219, 0, none⟩ (.slice Ao45 t213.length co45)).setCell ⟨gb219, 1, none⟩ (.int .i64 t216)).setCell ⟨gb219, 2, none⟩ (.int .i64 t217)) w.heap.size (fun k_ => some k_ ≠ (.slice Ao20 x5_1.length co20 : Value).ownBlock ∧ some k_ ≠ (.slice Ao19 x189000_1.length co19 : Value).ownBlock ∧ some k_ ≠ (.slice Ao38 t205.length co38 : Value).ownBlock ∧ some k_ ≠ (.slice Ao45 t213.length co45 : Value).ownBlock) v211 t210) := ⟨by (with_reducible repeat (first | apply Kd.R_alloc | apply Kd.R_drewN | apply Kd.R_drew)); exact Kd.R_mono (Kd.R_far (p := ⟨gb219, 2, none⟩) (Kd.R_far (p := ⟨gb219, 1, none⟩) (Kd.R_far (p := ⟨gb219, 0, none⟩) (Kd.R_types HO212.out BK219.out (by decide)) (fun _ hk => hk.2) (.slice Ao45 t213.length co45)) (fun _ hk => hk.2) (.int .i64 t216)) (fun _ hk => hk.2) (.int .i64 t217)) (fun _ hk => ⟨hk.1.2.2.2, ⟨hk.1.2.2.1, ⟨hk.1.1, hk.1.2.1⟩⟩⟩)⟩
            have n4_ : Aside0 (Kd.R (Kd.int .i32) 21 (((w44.setCell ⟨gb219, 0, none⟩ (.slice Ao45 t213.length co45)).setCell ⟨gb219, 1, none⟩ (.int .i64 t216)).setCell ⟨gb219, 2, none⟩ (.int .i64 t217)) w.heap.size (fun k_ => some k_ ≠ (.slice Ao20 x5_1.length co20 : Value).ownBlock ∧ some k_ ≠ (.slice Ao19 x189000_1.length co19 : Value).ownBlock ∧ some k_ ≠ (.slice Ao38 t205.length co38 : Value).ownBlock ∧ some k_ ≠ (v211 : Value).ownBlock) (.slice Ao45 t213.length co45) t213) := ⟨by (with_reducible repeat (first | apply Kd.R_alloc | apply Kd.R_drewN | apply Kd.R_drew)); exact Kd.R_mono (Kd.R_far (p := ⟨gb219, 2, none⟩) (Kd.R_far (p := ⟨gb219, 1, none⟩) (Kd.R_far (p := ⟨gb219, 0, none⟩) (Kd.R_types HO215.out BK219.out (by decide)) (fun _ hk => hk.2) (.slice Ao45 t213.length co45)) (fun _ hk => hk.2) (.int .i64 t216)) (fun _ hk => hk.2) (.int .i64 t217)) (fun _ hk => ⟨hk.1.2.2.2, ⟨hk.1.2.2.1, ⟨hk.1.1, hk.1.2.1⟩⟩⟩)⟩
            have n5_ : Aside0 ((((w44.setCell ⟨gb219, 0, none⟩ (.slice Ao45 t213.length co45)).setCell ⟨gb219, 1, none⟩ (.int .i64 t216)).setCell ⟨gb219, 2, none⟩ (.int .i64 t217)).heap[gb188]? = some (.cells #[.slice Ao19 x189000_1.length co19, .int .i64 x189001_1, .int .i64 x189002_1] 28 (0, 0))) := ⟨by (with_reducible repeat (first | refine blk_drewN ?_ _ | refine blk_drew ?_ | refine blk_alloc ?_ _)); refine blk_far ?_ NB188_219.out _; (with_reducible repeat (first | refine blk_drewN ?_ _ | refine blk_drew ?_ | refine blk_alloc ?_ _)); refine blk_far ?_ NB188_219.out _; (with_reducible repeat (first | refine blk_drewN ?_ _ | refine blk_drew ?_ | refine blk_alloc ?_ _)); refine blk_far ?_ NB188_219.out _; (with_reducible repeat (first | refine blk_drewN ?_ _ | refine blk_drew ?_ | refine blk_alloc ?_ _)); exact BK188.out⟩
            have n6_ : Aside0 ((((w44.setCell ⟨gb219, 0, none⟩ (.slice Ao45 t213.length co45)).setCell ⟨gb219, 1, none⟩ (.int .i64 t216)).setCell ⟨gb219, 2, none⟩ (.int .i64 t217)).heap[gb219]? = some (.cells #[.slice Ao45 t213.length co45, .int .i64 t216, .int .i64 t217] 28 (0, 0))) := ⟨by (with_reducible repeat (first | refine blk_drewN ?_ _ | refine blk_drew ?_ | refine blk_alloc ?_ _)); refine blk_put (cs := #[.slice Ao45 t213.length co45, .int .i64 t216, .int .i64 0]) ?_ 2 _ rfl; (with_reducible repeat (first | refine blk_drewN ?_ _ | refine blk_drew ?_ | refine blk_alloc ?_ _)); refine blk_put (cs := #[.slice Ao45 t213.length co45, .int .i64 0, .int .i64 0]) ?_ 1 _ rfl; (with_reducible repeat (first | refine blk_drewN ?_ _ | refine blk_drew ?_ | refine blk_alloc ?_ _)); refine blk_put (cs := #[.slice none 0 0, .int .i64 0, .int .i64 0]) ?_ 0 _ rfl; (with_reducible repeat (first | refine blk_drewN ?_ _ | refine blk_drew ?_ | refine blk_alloc ?_ _)); exact BK219.out⟩
            have n7_ : Aside0 (IsS121 w (((w44.setCell ⟨gb219, 0, none⟩ (.slice Ao45 t213.length co45)).setCell ⟨gb219, 1, none⟩ (.int .i64 t216)).setCell ⟨gb219, 2, none⟩ (.int .i64 t217)) g187 t184 t208 t209) := ⟨by repeat (first | (with_reducible first | exact HI187.out | apply IsS121.alloc | apply IsS121.drewN | apply IsS121.drew | apply IsS121.set_1 | apply IsS121.set_2 | refine IsS121.far ?_ NB187_188.out _ | refine IsS121.far ?_ NB187_219.out _) | exact HI187.out)⟩
            have n8_ : Aside0 (Below w.heap.size w (((w44.setCell ⟨gb219, 0, none⟩ (.slice Ao45 t213.length co45)).setCell ⟨gb219, 1, none⟩ (.int .i64 t216)).setCell ⟨gb219, 2, none⟩ (.int .i64 t217))) := ⟨by repeat (first | (with_reducible first | exact HB.out | apply below_alloc | apply pw_below_drewN | apply below_drew1 | refine below_set ?_ (IsS121.ge HI187.out) | refine below_set ?_ GE188.out | refine below_set ?_ GE219.out) | exact HB.out)⟩
            (try clear HO_5)
            (try clear HO_189000)
            (try clear HO207)
            (try clear HO212)
            (try clear HO215)
            (try clear BK188)
            (try clear BK219)
            (try clear HI187)
            (try clear HB)
            generalize (((w44.setCell ⟨gb219, 0, none⟩ (.slice Ao45 t213.length co45)).setCell ⟨gb219, 1, none⟩ (.int .i64 t216)).setCell ⟨gb219, 2, none⟩ (.int .i64 t217)) = w49 at n0_ n1_ n2_ n3_ n4_ n5_ n6_ n7_ n8_ ⊢
            have HO_5 := n0_
            have HO_189000 := n1_
            have HO207 := n2_
            have HO212 := n3_
            have HO215 := n4_
            have BK188 := n5_
            have BK219 := n6_
            have HI187 := n7_
            have HB := n8_
            clear n0_ n1_ n2_ n3_ n4_ n5_ n6_ n7_ n8_
            have hnb50 := NB219_188.out
            have hnc50 := NB188_219.out
            have hnb51 := NB219_187.out
            have hnc51 := NB187_219.out
            have hcz52_0 : w49.cell? ⟨gb219, 0, none⟩ = some (.slice Ao45 t213.length co45) := (blk_cell BK219.out 0).trans rfl
            have hcz52_1 : w49.cell? ⟨gb219, 1, none⟩ = some (.int .i64 t216) := (blk_cell BK219.out 1).trans rfl
            have hcz52_2 : w49.cell? ⟨gb219, 2, none⟩ = some (.int .i64 t217) := (blk_cell BK219.out 2).trans rfl
            have hfz52_0 := blk_frozen BK219.out 0
            have hfz52_1 := blk_frozen BK219.out 1
            have hfz52_2 := blk_frozen BK219.out 2
            have hnb53 := NB188_187.out
            have hnc53 := NB187_188.out
            have hcz54_0 : w49.cell? ⟨gb188, 0, none⟩ = some (.slice Ao19 x189000_1.length co19) := (blk_cell BK188.out 0).trans rfl
            have hcz54_1 : w49.cell? ⟨gb188, 1, none⟩ = some (.int .i64 x189001_1) := (blk_cell BK188.out 1).trans rfl
            have hcz54_2 : w49.cell? ⟨gb188, 2, none⟩ = some (.int .i64 x189002_1) := (blk_cell BK188.out 2).trans rfl
            have hfz54_0 := blk_frozen BK188.out 0
            have hfz54_1 := blk_frozen BK188.out 1
            have hfz54_2 := blk_frozen BK188.out 2
            try go_wp2_with (first | ((with_reducible refine gate_store (t := 28) (p := 4) rfl ?_); refine store_event (t := 28) (p := 4) (v := ?vo_w55) (w1 := (((w49.setCell ⟨gb188, 0, none⟩ (.slice Ao45 t213.length co45)).setCell ⟨gb188, 1, none⟩ (.int .i64 t216)).setCell ⟨gb188, 2, none⟩ (.int .i64 t217))) ?hg ?ho ?hn ?hr ?_; (case ho => rfl); (case hg => rfl); (case hn => rfl); (case hr => first | (go_simp; done) | (go_simp; rfl)); intro w55 hw; have n0_ : Aside0 (Kd.R (Kd.int .i32) 21 w55 w.heap.size (fun k_ => some k_ ≠ (.slice Ao19 x189000_1.length co19 : Value).ownBlock ∧ some k_ ≠ (.slice Ao38 t205.length co38 : Value).ownBlock ∧ some k_ ≠ (v211 : Value).ownBlock ∧ some k_ ≠ (.slice Ao45 t213.length co45 : Value).ownBlock) (.slice Ao20 x5_1.length co20) x5_1) := ⟨(by rw [hw]; exact (rD (Kd.R_mono (Kd.R_far (p := ⟨gb188, 2, none⟩) (Kd.R_far (p := ⟨gb188, 1, none⟩) (Kd.R_far (p := ⟨gb188, 0, none⟩) (Kd.R_types HO_5.out BK188.out (by decide)) (fun _ hk => hk.2) (.slice Ao45 t213.length co45)) (fun _ hk => hk.2) (.int .i64 t216)) (fun _ hk => hk.2) (.int .i64 t217)) (fun _ hk => ⟨hk.1.1, ⟨hk.1.2.1, ⟨hk.1.2.2.1, hk.1.2.2.2⟩⟩⟩))))⟩; have n1_ : Aside0 (Kd.R (Kd.int .i32) 21 w55 w.heap.size (fun k_ => some k_ ≠ (.slice Ao20 x5_1.length co20 : Value).ownBlock ∧ some k_ ≠ (.slice Ao38 t205.length co38 : Value).ownBlock ∧ some k_ ≠ (v211 : Value).ownBlock ∧ some k_ ≠ (.slice Ao45 t213.length co45 : Value).ownBlock) (.slice Ao19 x189000_1.length co19) x189000_1) := ⟨(by rw [hw]; exact (rD (Kd.R_mono (Kd.R_far (p := ⟨gb188, 2, none⟩) (Kd.R_far (p := ⟨gb188, 1, none⟩) (Kd.R_far (p := ⟨gb188, 0, none⟩) (Kd.R_types HO_189000.out BK188.out (by decide)) (fun _ hk => hk.2) (.slice Ao45 t213.length co45)) (fun _ hk => hk.2) (.int .i64 t216)) (fun _ hk => hk.2) (.int .i64 t217)) (fun _ hk => ⟨hk.1.1, ⟨hk.1.2.1, ⟨hk.1.2.2.1, hk.1.2.2.2⟩⟩⟩))))⟩; have n2_ : Aside0 (Kd.R (Kd.int .i32) 21 w55 w.heap.size (fun k_ => some k_ ≠ (.slice Ao20 x5_1.length co20 : Value).ownBlock ∧ some k_ ≠ (.slice Ao19 x189000_1.length co19 : Value).ownBlock ∧ some k_ ≠ (v211 : Value).ownBlock ∧ some k_ ≠ (.slice Ao45 t213.length co45 : Value).ownBlock) (.slice Ao38 t205.length co38) t205) := ⟨(by rw [hw]; exact (rD (Kd.R_mono (Kd.R_far (p := ⟨gb188, 2, none⟩) (Kd.R_far (p := ⟨gb188, 1, none⟩) (Kd.R_far (p := ⟨gb188, 0, none⟩) (Kd.R_types HO207.out BK188.out (by decide)) (fun _ hk => hk.2) (.slice Ao45 t213.length co45)) (fun _ hk => hk.2) (.int .i64 t216)) (fun _ hk => hk.2) (.int .i64 t217)) (fun _ hk => ⟨hk.1.1, ⟨hk.1.2.1, ⟨hk.1.2.2.1, hk.1.2.2.2⟩⟩⟩))))⟩; have n3_ : Aside0 (Kd.R (Kd.int .i32) 21 w55 w.heap.size (fun k_ => some k_ ≠ (.slice Ao20 x5_1.length co20 : Value).ownBlock ∧ some k_ ≠ (.slice Ao19 x189000_1.length co19 : Value).ownBlock ∧ some k_ ≠ (.slice Ao38 t205.length co38 : Value).ownBlock ∧ some k_ ≠ (.slice Ao45 t213.length co45 : Value).ownBlock) v211 t210) := ⟨(by rw [hw]; exact (rD (Kd.R_mono (Kd.R_far (p := ⟨gb188, 2, none⟩) (Kd.R_far (p := ⟨gb188, 1, none⟩) (Kd.R_far (p := ⟨gb188, 0, none⟩) (Kd.R_types HO212.out BK188.out (by decide)) (fun _ hk => hk.2) (.slice Ao45 t213.length co45)) (fun _ hk => hk.2) (.int .i64 t216)) (fun _ hk => hk.2) (.int .i64 t217)) (fun _ hk => ⟨hk.1.1, ⟨hk.1.2.1, ⟨hk.1.2.2.1, hk.1.2.2.2⟩⟩⟩))))⟩; have n4_ : Aside0 (Kd.R (Kd.int .i32) 21 w55 w.heap.size (fun k_ => some k_ ≠ (.slice Ao20 x5_1.length co20 : Value).ownBlock ∧ some k_ ≠ (.slice Ao19 x189000_1.length co19 : Value).ownBlock ∧ some k_ ≠ (.slice Ao38 t205.length co38 : Value).ownBlock ∧ some k_ ≠ (v211 : Value).ownBlock) (.slice Ao45 t213.length co45) t213) := ⟨(by rw [hw]; exact (rD (Kd.R_mono (Kd.R_far (p := ⟨gb188, 2, none⟩) (Kd.R_far (p := ⟨gb188, 1, none⟩) (Kd.R_far (p := ⟨gb188, 0, none⟩) (Kd.R_types HO215.out BK188.out (by decide)) (fun _ hk => hk.2) (.slice Ao45 t213.length co45)) (fun _ hk => hk.2) (.int .i64 t216)) (fun _ hk => hk.2) (.int .i64 t217)) (fun _ hk => ⟨hk.1.1, ⟨hk.1.2.1, ⟨hk.1.2.2.1, hk.1.2.2.2⟩⟩⟩))))⟩; have n5_ : Aside0 (w55.heap[gb188]? = some (.cells #[.slice Ao45 t213.length co45, .int .i64 t216, .int .i64 t217] 28 (0, 0))) := ⟨(by rw [hw]; exact (by (with_reducible repeat (first | refine blk_drewN ?_ _ | refine blk_drew ?_ | refine blk_alloc ?_ _)); refine blk_put (cs := #[.slice Ao45 t213.length co45, .int .i64 t216, .int .i64 x189002_1]) ?_ 2 _ rfl; (with_reducible repeat (first | refine blk_drewN ?_ _ | refine blk_drew ?_ | refine blk_alloc ?_ _)); refine blk_put (cs := #[.slice Ao45 t213.length co45, .int .i64 x189001_1, .int .i64 x189002_1]) ?_ 1 _ rfl; (with_reducible repeat (first | refine blk_drewN ?_ _ | refine blk_drew ?_ | refine blk_alloc ?_ _)); refine blk_put (cs := #[.slice Ao19 x189000_1.length co19, .int .i64 x189001_1, .int .i64 x189002_1]) ?_ 0 _ rfl; (with_reducible repeat (first | refine blk_drewN ?_ _ | refine blk_drew ?_ | refine blk_alloc ?_ _)); exact BK188.out))⟩; have n6_ : Aside0 (w55.heap[gb219]? = some (.cells #[.slice Ao45 t213.length co45, .int .i64 t216, .int .i64 t217] 28 (0, 0))) := ⟨(by rw [hw]; exact (by (with_reducible repeat (first | refine blk_drewN ?_ _ | refine blk_drew ?_ | refine blk_alloc ?_ _)); refine blk_far ?_ NB219_188.out _; (with_reducible repeat (first | refine blk_drewN ?_ _ | refine blk_drew ?_ | refine blk_alloc ?_ _)); refine blk_far ?_ NB219_188.out _; (with_reducible repeat (first | refine blk_drewN ?_ _ | refine blk_drew ?_ | refine blk_alloc ?_ _)); refine blk_far ?_ NB219_188.out _; (with_reducible repeat (first | refine blk_drewN ?_ _ | refine blk_drew ?_ | refine blk_alloc ?_ _)); exact BK219.out))⟩; have n7_ : Aside0 (IsS121 w w55 g187 t184 t208 t209) := ⟨(by rw [hw]; exact (isD HI187))⟩; have n8_ : Aside0 (Below w.heap.size w w55) := ⟨(by rw [hw]; exact (hbS HB (IsS121.ge HI187.out)))⟩; clear hw HO_5 HO_189000 HO207 HO212 HO215 BK188 BK219 HI187 HB; have HO_5 := n0_; have HO_189000 := n1_; have HO207 := n2_; have HO212 := n3_; have HO215 := n4_; have BK188 := n5_; have BK219 := n6_; have HI187 := n7_; have HB := n8_; clear n0_ n1_ n2_ n3_ n4_ n5_ n6_ n7_ n8_; have q56 : (t196 : Int) ≤ ((x5_1.length : Int) : Int) := of_decide_eq_true (by first | (with_reducible assumption) | assumption); obtain ⟨i056, hi056, _, hsz56, _⟩ := info_parts info21; have hroom56 : x5_1.length ≤ co20 := (Kd.R_reads' HO_5.out).2.1; have hC56 : Kd.C (Kd.int .i32) _ Ao20 x5_1.length x5_1 := (Kd.R_reads' HO_5.out).2.2; have hcut56 := cut_to (P := Tryd.prog) 22 21 .i64 Tryd.underlying22 hi056 Ao20 x5_1.length co20 t196 (of_decide_eq_true (by first | (with_reducible assumption) | assumption)) q56 hroom56; have hr56 := Kd.C_take (m := (t196 : Int).toNat) hC56 (by omega); have hy56 : y220.length = (t196 : Int).toNat := (by rw [Ny220.out, List.length_take]; omega); rw [← Ny220.out] at hr56; rw [← hy56] at hcut56; have HR223 := Aside0.mk hr56; have HC223 := Aside0.mk (show y220.length ≤ co20 from by omega); clear hr56 hC56 hroom56 hi056 hsz56; have KY56 := Aside0.mk hy56; clear hy56; have KL56 := Aside0.mk (show (t196 : Int).toNat ≤ x5_1.length from by omega); replace q56 := eq_true q56) | ((with_reducible refine gate_callee (f := 29) rfl ?_); refine goesL_ (some 69) rfl rfl Tryd.func29 (by kernel_rfl) rfl #[.slice Ao20 y220.length co20] rfl (by (try simp only [List.map_toArray, List.map_cons, List.map_nil]); first | done | rfl | (simp only [List.length_drop, List.length_take]; rfl)) ?_; (with_reducible refine (laws_cpText.calls _ _ y220 t224 _ ?side1 ?side2 A31.out).mono ?_); (case side1 => repeat (first | exact (by repeat (first | (with_reducible exact HR223.out) | (with_reducible refine Kd.C_alloc ?_ _) | (with_reducible refine Kd.C_drewN ?_ _) | (with_reducible refine Kd.C_drew ?_) | exact HR223.out)) | (with_reducible refine Kd.C_alloc ?_ _) | (with_reducible refine Kd.C_drewN ?_ _) | (with_reducible refine Kd.C_drew ?_))); (case side2 => exact HC223.out); rintro e w57 ⟨v225, rfl, ho0, hb⟩; refine ⟨_, rfl, ?_⟩; have n0_ := Aside0.mk (Kd.R_elder' (rD HO_5.out) (Kd.R_base ho0) hb); have n1_ := Aside0.mk (Kd.R_elder' (rD HO_189000.out) (Kd.R_base ho0) hb); have n2_ := Aside0.mk (Kd.R_elder' (rD HO207.out) (Kd.R_base ho0) hb); have n3_ := Aside0.mk (Kd.R_elder' (rD HO212.out) (Kd.R_base ho0) hb); have n4_ := Aside0.mk (Kd.R_elder' (rD HO215.out) (Kd.R_base ho0) hb); have n5_ := Aside0.mk (Kd.R_lower (Kd.R_new' (Kd.R_new' (Kd.R_new' (Kd.R_new' (Kd.R_new' ho0 (Kd.R_lt (rD HO_5.out))) (Kd.R_lt (rD HO_189000.out))) (Kd.R_lt (rD HO207.out))) (Kd.R_lt (rD HO212.out))) (Kd.R_lt (rD HO215.out))) (below_size (hbS HB (IsS121.ge HI187.out)))); have n6_ := Aside0.mk (blk_below (bkD BK188) hb); have n7_ := Aside0.mk (IsS121.below (isD HI187) hb); have n8_ := Aside0.mk (blk_below (bkD BK219) hb); have n9_ := Aside0.mk (Kd.C_below (by repeat (first | (with_reducible exact HR223.out) | (with_reducible refine Kd.C_alloc ?_ _) | (with_reducible refine Kd.C_drewN ?_ _) | (with_reducible refine Kd.C_drew ?_) | exact HR223.out)) hb); have n10_ := Aside0.mk (below_step (hbS HB (IsS121.ge HI187.out)) hb); clear HO_5 HO_189000 HO207 HO212 HO215 BK188 HI187 BK219 HR223 HB; have HO_5 := n0_; have HO_189000 := n1_; have HO207 := n2_; have HO212 := n3_; have HO215 := n4_; have HO226 := n5_; have BK188 := n6_; have HI187 := n7_; have BK219 := n8_; have HR223 := n9_; have HB := n10_; clear n0_ n1_ n2_ n3_ n4_ n5_ n6_ n7_ n8_ n9_ n10_; (try clear hb); (try clear hb2); (try clear hk); (try clear hi); (try clear ho0)) | ((with_reducible refine gate_builtin (b := .append) (xs := #[.tmp 69, .tmp 70]) rfl ?_); (try (refine gate_guard (by rfl) ?_; dsimp only)); at_builtin; refine Kd.R_append_rows (Kd.int .i32) (w0 := w) w.heap.size rfl (.tmp 69) (.tmp 70) 22 21 (.int .i32 0) 4 rfl Tryd.underlying22 info21 rfl (by decide) (by omega) v225 t224 t205 _ _ _ (fun k_ => some k_ ≠ (.slice Ao20 x5_1.length co20 : Value).ownBlock ∧ some k_ ≠ (.slice Ao19 x189000_1.length co19 : Value).ownBlock ∧ some k_ ≠ (.slice Ao38 t205.length co38 : Value).ownBlock ∧ some k_ ≠ (v211 : Value).ownBlock ∧ some k_ ≠ (.slice Ao45 t213.length co45 : Value).ownBlock) (fun _ => False) rfl rfl ?aO ?aR (fun _ _ h => h) (fun _ h => h.elim) ?aF ?aB ?aS ?aL ?_; (case aR => repeat (first | exact (Kd.R_reads' HO207.out).2.2 | (with_reducible refine Kd.C_alloc ?_ _) | (with_reducible refine Kd.C_drewN ?_ _) | (with_reducible refine Kd.C_drew ?_))); (case aB => exact (hbS HB (IsS121.ge HI187.out))); (case aF => exact (fun k_ hk => ⟨Kd.fresh' (Kd.R_lt (rD HO_5.out)) k_ hk, Kd.fresh' (Kd.R_lt (rD HO_189000.out)) k_ hk, Kd.fresh' (Kd.R_lt (rD HO207.out)) k_ hk, Kd.fresh' (Kd.R_lt (rD HO212.out)) k_ hk, Kd.fresh' (Kd.R_lt (rD HO215.out)) k_ hk⟩)); (case aO => exact (rD (Kd.R_mono HO226.out (fun _ hk => ⟨hk.1.1.1.1.2, ⟨hk.1.1.1.2, ⟨hk.1.1.2, ⟨hk.1.2, hk.2⟩⟩⟩⟩)))); (case aS => exact (below_size (hbS HB (IsS121.ge HI187.out)))); (case aL => have := LMc32.out; omega); intro v228 w58 ho hb hg hat; rw [← Ny227.out] at ho; have n0_ := Aside0.mk (Kd.R_after (ok := (fun k_ => some k_ ≠ (.slice Ao19 x189000_1.length co19 : Value).ownBlock ∧ some k_ ≠ (.slice Ao38 t205.length co38 : Value).ownBlock ∧ some k_ ≠ (v211 : Value).ownBlock ∧ some k_ ≠ (.slice Ao45 t213.length co45 : Value).ownBlock)) (rD HO_5.out) hg hat); have n1_ := Aside0.mk (Kd.R_after (ok := (fun k_ => some k_ ≠ (.slice Ao20 x5_1.length co20 : Value).ownBlock ∧ some k_ ≠ (.slice Ao38 t205.length co38 : Value).ownBlock ∧ some k_ ≠ (v211 : Value).ownBlock ∧ some k_ ≠ (.slice Ao45 t213.length co45 : Value).ownBlock)) (rD HO_189000.out) hg hat); have n2_ := Aside0.mk (blk_grown (g := gb188) (o := .cells #[.slice Ao45 t213.length co45, .int .i64 t216, .int .i64 t217] 28 (0, 0)) (bkD BK188) hg (Kd.R_ne HO226.out BK188.out (by decide))); have n3_ := Aside0.mk (IsS121.grown (isD HI187) hg (IsS121.own_ne HI187.out HO226.out (by decide))); have n4_ := Aside0.mk (Kd.R_after (ok := (fun k_ => some k_ ≠ (.slice Ao20 x5_1.length co20 : Value).ownBlock ∧ some k_ ≠ (.slice Ao19 x189000_1.length co19 : Value).ownBlock ∧ some k_ ≠ (v211 : Value).ownBlock ∧ some k_ ≠ (.slice Ao45 t213.length co45 : Value).ownBlock)) (rD HO207.out) hg hat); have n5_ := Aside0.mk (Kd.R_after (ok := (fun k_ => some k_ ≠ (.slice Ao20 x5_1.length co20 : Value).ownBlock ∧ some k_ ≠ (.slice Ao19 x189000_1.length co19 : Value).ownBlock ∧ some k_ ≠ (.slice Ao38 t205.length co38 : Value).ownBlock ∧ some k_ ≠ (.slice Ao45 t213.length co45 : Value).ownBlock)) (rD HO212.out) hg hat); have n6_ := Aside0.mk (Kd.R_after (ok := (fun k_ => some k_ ≠ (.slice Ao20 x5_1.length co20 : Value).ownBlock ∧ some k_ ≠ (.slice Ao19 x189000_1.length co19 : Value).ownBlock ∧ some k_ ≠ (.slice Ao38 t205.length co38 : Value).ownBlock ∧ some k_ ≠ (v211 : Value).ownBlock)) (rD HO215.out) hg hat); have n7_ := Aside0.mk (blk_grown (g := gb219) (o := .cells #[.slice Ao45 t213.length co45, .int .i64 t216, .int .i64 t217] 28 (0, 0)) (bkD BK219) hg (Kd.R_ne HO226.out BK219.out (by decide))); have n8_ := Aside0.mk (hb); have n9_ := Aside0.mk ((show Kd.C (Kd.int .i32) w58 Ao20 y220.length y220 from by rw [Ny220.out]; exact Kd.C_take (m := (t196 : Int).toNat) ((Kd.R_reads' (Kd.R_after (ok := (fun k_ => some k_ ≠ (.slice Ao19 x189000_1.length co19 : Value).ownBlock ∧ some k_ ≠ (.slice Ao38 t205.length co38 : Value).ownBlock ∧ some k_ ≠ (v211 : Value).ownBlock ∧ some k_ ≠ (.slice Ao45 t213.length co45 : Value).ownBlock)) (rD HO_5.out) hg hat)).2.2) KL56.out)); have n10_ := Aside0.mk (ho); clear HO_5 HO_189000 BK188 HI187 HO207 HO212 HO215 BK219 HB HR223 HO226; have HO_5 := n0_; have HO_189000 := n1_; have BK188 := n2_; have HI187 := n3_; have HO207 := n4_; have HO212 := n5_; have HO215 := n6_; have BK219 := n7_; have HB := n8_; have HR223 := n9_; have HO229 := n10_; clear n0_ n1_ n2_ n3_ n4_ n5_ n6_ n7_ n8_ n9_ n10_ ho hb hg hat; have q59 : (t196 : Int) ≤ ((x5_1.length : Int) : Int) := of_decide_eq_true (by first | (with_reducible assumption) | assumption); obtain ⟨i059, hi059, _, hsz59, _⟩ := info_parts info21; have hroom59 : x5_1.length ≤ co20 := (Kd.R_reads' HO_5.out).2.1; have hC59 : Kd.C (Kd.int .i32) _ Ao20 x5_1.length x5_1 := (Kd.R_reads' HO_5.out).2.2; have q059 : (0 : Int) ≤ (t196 : Int) := of_decide_eq_true (by first | (with_reducible assumption) | assumption); have hcut59 := cut_from (P := Tryd.prog) 22 21 .i64 Tryd.underlying22 hi059 1 hsz59 Ao20 x5_1.length co20 t196 q059 q59; have hr59 := Kd.C_drop (m := (t196 : Int).toNat) (c := co20) hC59 (by omega) hroom59; obtain ⟨A59, hA59⟩ : ∃ A1, A1 = (if co20 = (t196 : Int).toNat then Ao20 else (Ao20 : Option Addr).map (·.add ((t196 : Int).toNat * 1))) := ⟨_, rfl⟩; obtain ⟨c59, hc59⟩ : ∃ c1, c1 = co20 - (t196 : Int).toNat := ⟨_, rfl⟩; have hy59 : y230.length = x5_1.length - (t196 : Int).toNat := (by rw [Ny230.out, List.length_drop] <;> omega); rw [show (x5_1).drop (t196 : Int).toNat = y230 from Ny230.out.symm] at hr59; replace hr59 : Kd.C (Kd.int .i32) _ A59 y230.length y230 := (by rw [hA59]; exact hr59); rw [← hy59, ← hA59, ← hc59] at hcut59; have HR233 := Aside0.mk hr59; have HC233 := Aside0.mk (show y230.length ≤ c59 from by rw [hy59, hc59]; exact Nat.sub_le_sub_right hroom59 _); clear hr59 hC59 hroom59 hi059 hsz59 hc59; have KY59 := Aside0.mk hy59; have KA59 := Aside0.mk hA59; clear hy59 hA59; have KL59 := Aside0.mk (show (t196 : Int).toNat ≤ x5_1.length from by omega); replace q59 := eq_true q59) | ((with_reducible refine gate_builtin (b := .append) (xs := #[.tmp 72, .tmp 75]) rfl ?_); (try (refine gate_guard (by rfl) ?_; dsimp only)); at_builtin; refine Kd.R_append_rows (Kd.int .i32) (w0 := w) w.heap.size rfl (.tmp 72) (.tmp 75) 22 21 (.int .i32 0) 4 rfl Tryd.underlying22 info21 rfl (by decide) (by omega) v228 y227 y230 _ _ _ (fun k_ => some k_ ≠ (.slice Ao20 x5_1.length co20 : Value).ownBlock ∧ some k_ ≠ (.slice Ao19 x189000_1.length co19 : Value).ownBlock ∧ some k_ ≠ (.slice Ao38 t205.length co38 : Value).ownBlock ∧ some k_ ≠ (v211 : Value).ownBlock ∧ some k_ ≠ (.slice Ao45 t213.length co45 : Value).ownBlock) (fun _ => False) rfl rfl ?aO ?aR (fun _ _ h => h) (fun _ h => h.elim) ?aF ?aB ?aS ?aL ?_; (case aR => repeat (first | exact (by repeat (first | (with_reducible exact HR233.out) | (with_reducible refine Kd.C_alloc ?_ _) | (with_reducible refine Kd.C_drewN ?_ _) | (with_reducible refine Kd.C_drew ?_) | exact HR233.out)) | (with_reducible refine Kd.C_alloc ?_ _) | (with_reducible refine Kd.C_drewN ?_ _) | (with_reducible refine Kd.C_drew ?_))); (case aB => exact (hbS HB (IsS121.ge HI187.out))); (case aF => exact (fun k_ hk => ⟨Kd.fresh' (Kd.R_lt (rD HO_5.out)) k_ hk, Kd.fresh' (Kd.R_lt (rD HO_189000.out)) k_ hk, Kd.fresh' (Kd.R_lt (rD HO207.out)) k_ hk, Kd.fresh' (Kd.R_lt (rD HO212.out)) k_ hk, Kd.fresh' (Kd.R_lt (rD HO215.out)) k_ hk⟩)); (case aO => exact (rD HO229.out)); (case aS => exact (below_size (hbS HB (IsS121.ge HI187.out)))); (case aL => have := LMc35.out; omega); intro v235 w60 ho hb hg hat; rw [← Ny234.out] at ho; have n0_ := Aside0.mk (Kd.R_after (ok := (fun k_ => some k_ ≠ (.slice Ao19 x189000_1.length co19 : Value).ownBlock ∧ some k_ ≠ (.slice Ao38 t205.length co38 : Value).ownBlock ∧ some k_ ≠ (v211 : Value).ownBlock ∧ some k_ ≠ (.slice Ao45 t213.length co45 : Value).ownBlock)) (rD HO_5.out) hg hat); have n1_ := Aside0.mk (Kd.R_after (ok := (fun k_ => some k_ ≠ (.slice Ao20 x5_1.length co20 : Value).ownBlock ∧ some k_ ≠ (.slice Ao38 t205.length co38 : Value).ownBlock ∧ some k_ ≠ (v211 : Value).ownBlock ∧ some k_ ≠ (.slice Ao45 t213.length co45 : Value).ownBlock)) (rD HO_189000.out) hg hat); have n2_ := Aside0.mk (blk_grown (g := gb188) (o := .cells #[.slice Ao45 t213.length co45, .int .i64 t216, .int .i64 t217] 28 (0, 0)) (bkD BK188) hg (Kd.R_ne HO229.out BK188.out (by decide))); have n3_ := Aside0.mk (IsS121.grown (isD HI187) hg (IsS121.own_ne HI187.out HO229.out (by decide))); have n4_ := Aside0.mk (Kd.R_after (ok := (fun k_ => some k_ ≠ (.slice Ao20 x5_1.length co20 : Value).ownBlock ∧ some k_ ≠ (.slice Ao19 x189000_1.length co19 : Value).ownBlock ∧ some k_ ≠ (v211 : Value).ownBlock ∧ some k_ ≠ (.slice Ao45 t213.length co45 : Value).ownBlock)) (rD HO207.out) hg hat); have n5_ := Aside0.mk (Kd.R_after (ok := (fun k_ => some k_ ≠ (.slice Ao20 x5_1.length co20 : Value).ownBlock ∧ some k_ ≠ (.slice Ao19 x189000_1.length co19 : Value).ownBlock ∧ some k_ ≠ (.slice Ao38 t205.length co38 : Value).ownBlock ∧ some k_ ≠ (.slice Ao45 t213.length co45 : Value).ownBlock)) (rD HO212.out) hg hat); have n6_ := Aside0.mk (Kd.R_after (ok := (fun k_ => some k_ ≠ (.slice Ao20 x5_1.length co20 : Value).ownBlock ∧ some k_ ≠ (.slice Ao19 x189000_1.length co19 : Value).ownBlock ∧ some k_ ≠ (.slice Ao38 t205.length co38 : Value).ownBlock ∧ some k_ ≠ (v211 : Value).ownBlock)) (rD HO215.out) hg hat); have n7_ := Aside0.mk (blk_grown (g := gb219) (o := .cells #[.slice Ao45 t213.length co45, .int .i64 t216, .int .i64 t217] 28 (0, 0)) (bkD BK219) hg (Kd.R_ne HO229.out BK219.out (by decide))); have n8_ := Aside0.mk (hb); have n9_ := Aside0.mk ((show Kd.C (Kd.int .i32) w60 Ao20 y220.length y220 from by rw [Ny220.out]; exact Kd.C_take (m := (t196 : Int).toNat) ((Kd.R_reads' (Kd.R_after (ok := (fun k_ => some k_ ≠ (.slice Ao19 x189000_1.length co19 : Value).ownBlock ∧ some k_ ≠ (.slice Ao38 t205.length co38 : Value).ownBlock ∧ some k_ ≠ (v211 : Value).ownBlock ∧ some k_ ≠ (.slice Ao45 t213.length co45 : Value).ownBlock)) (rD HO_5.out) hg hat)).2.2) KL56.out)); have n10_ := Aside0.mk ((show Kd.C (Kd.int .i32) w60 A59 y230.length y230 from by rw [Ny230.out, KA59.out]; exact Kd.C_drop (m := (t196 : Int).toNat) (c := co20) ((Kd.R_reads' (Kd.R_after (ok := (fun k_ => some k_ ≠ (.slice Ao19 x189000_1.length co19 : Value).ownBlock ∧ some k_ ≠ (.slice Ao38 t205.length co38 : Value).ownBlock ∧ some k_ ≠ (v211 : Value).ownBlock ∧ some k_ ≠ (.slice Ao45 t213.length co45 : Value).ownBlock)) (rD HO_5.out) hg hat)).2.2) KL59.out ((Kd.R_reads' (Kd.R_after (ok := (fun k_ => some k_ ≠ (.slice Ao19 x189000_1.length co19 : Value).ownBlock ∧ some k_ ≠ (.slice Ao38 t205.length co38 : Value).ownBlock ∧ some k_ ≠ (v211 : Value).ownBlock ∧ some k_ ≠ (.slice Ao45 t213.length co45 : Value).ownBlock)) (rD HO_5.out) hg hat)).2.1))); have n11_ := Aside0.mk (ho); clear HO_5 HO_189000 BK188 HI187 HO207 HO212 HO215 BK219 HB HR223 HR233 HO229; have HO_5 := n0_; have HO_189000 := n1_; have BK188 := n2_; have HI187 := n3_; have HO207 := n4_; have HO212 := n5_; have HO215 := n6_; have BK219 := n7_; have HB := n8_; have HR223 := n9_; have HR233 := n10_; have HO236 := n11_; clear n0_ n1_ n2_ n3_ n4_ n5_ n6_ n7_ n8_ n9_ n10_ n11_ ho hb hg hat))
            go_meet
            case rel => exact ⟨_, (y234), (wrap64 (t196 + (t205.length : Int))), (t208), (t209), (t213), (t216), (t217), (.slice Ao45 t213.length co45), (by first | rfl | (simp; done) | (simp [*]; done)), H', ⟨by have := HK1.out; first | omega | exact Nat.le_refl _⟩, ⟨by (with_reducible repeat (first | apply Kd.R_alloc | apply Kd.R_drewN | apply Kd.R_drew)); exact Kd.R_mono HO236.out (fun _ hk => hk.2.2.2.2)⟩, ⟨by (with_reducible repeat (first | apply Kd.R_alloc | apply Kd.R_drewN | apply Kd.R_drew)); first | exact Kd.R_mono HO215.out (fun _ hk => hk.2) | exact Kd.R_mono HO215.out (fun _ hk => own_len_ hk.2)⟩, ⟨by (with_reducible repeat (first | refine blk_drewN ?_ _ | refine blk_drew ?_ | refine blk_alloc ?_ _)); exact BK188.out⟩, ⟨by repeat (first | (with_reducible first | exact HI187.out | apply IsS121.alloc | apply IsS121.drewN | apply IsS121.drew | apply IsS121.set_1 | apply IsS121.set_2 | refine IsS121.far ?_ NB187_188.out _ | refine IsS121.far ?_ NB187_219.out _) | exact HI187.out)⟩, ⟨by repeat (first | (with_reducible first | exact HB.out | apply below_alloc | apply pw_below_drewN | apply below_drew1 | refine below_set ?_ (IsS121.ge HI187.out) | refine below_set ?_ GE188.out | refine below_set ?_ GE219.out) | exact HB.out)⟩⟩
           ·rw [if_neg c35] at H
            exact absurd H (by simp)
          ·rw [if_neg c32] at H
           exact absurd H (by simp)
         ·rw [if_neg c30] at H
          exact absurd H (by simp)
        ·rw [if_neg c29] at H
         exact absurd H (by simp)
       ·rw [if_neg c28] at H
        have c28b0 : (t218 == 0) = false := beq_eq_false_iff_ne.mpr c28
        have c28b1 : (t218 != 0) = true := bne_iff_ne.mpr c28
        obtain rfl := Option.some.inj H
        try go_wp2_with (first | ((with_reducible refine gate_callee (f := 26) rfl ?_); refine goesL_ (some 53) rfl rfl Tryd.func26 (by kernel_rfl) rfl #[.pointer (some ⟨g187, 0, none⟩), .int .i64 20] rfl (by (try simp only [List.map_toArray, List.map_cons, List.map_nil]); first | done | rfl | (simp only [List.length_drop, List.length_take]; rfl)) ?_; (with_reducible refine (spec_l1Src_N.calls g187 t184 t200 t201 20 t202 t203 t204 w _ ?side1 ?side2 A24.out).mono ?_); (case side1 => repeat (first | (with_reducible first | exact HI187.out | apply IsS121.alloc | apply IsS121.drewN | apply IsS121.drew | apply IsS121.set_1 | apply IsS121.set_2 | refine IsS121.far ?_ NB187_188.out _) | exact HI187.out)); (case side2 => repeat (first | (with_reducible first | exact HB.out | apply below_alloc | apply pw_below_drewN | apply below_drew1 | refine below_set ?_ (IsS121.ge HI187.out) | refine below_set ?_ GE188.out) | exact HB.out)); rintro e w61 ⟨rfl, hi, hb, hk⟩; refine ⟨_, rfl, ?_⟩; have n0_ := Aside0.mk (Kd.R_mono (Kd.R_keep (IsS121.apart (isD HI187 (f := t200) (f' := t201)) (rD HO_5.out) (by decide)) hk (fun _ h => h.2)) (fun _ h => h.1)); have n1_ := Aside0.mk (Kd.R_mono (Kd.R_keep (IsS121.apart (isD HI187 (f := t200) (f' := t201)) (rD HO_189000.out) (by decide)) hk (fun _ h => h.2)) (fun _ h => h.1)); have n2_ := Aside0.mk (KeepBut.blk hk (g' := gb188) (o := .cells #[.slice Ao19 x189000_1.length co19, .int .i64 x189001_1, .int .i64 x189002_1] 28 (0, 0)) (bkD BK188) NB188_187.out (by simp)); have n3_ := Aside0.mk (hb); have n4_ := Aside0.mk (hi); clear HO_5 HO_189000 BK188 HB HI187; have HO_5 := n0_; have HO_189000 := n1_; have BK188 := n2_; have HB := n3_; have HI187 := n4_; clear n0_ n1_ n2_ n3_ n4_; (try clear hb); (try clear hb2); (try clear hk); (try clear hi)) | ((with_reducible refine gate_callee (f := 28) rfl ?_); refine goesL_ (some 54) rfl rfl Tryd.func28 (by kernel_rfl) rfl #[.pointer (some ⟨g187, 0, none⟩), .int .i64 t202] rfl (by (try simp only [List.map_toArray, List.map_cons, List.map_nil]); first | done | rfl | (simp only [List.length_drop, List.length_take]; rfl)) ?_; (with_reducible refine (spec_L1Text.calls k1 g187 t184 t203 t204 t202 t205 t208 t209 w _ ?side1 ?side2 A25.out).mono ?_); (case side1 => repeat (first | (with_reducible first | exact HI187.out | apply IsS121.alloc | apply IsS121.drewN | apply IsS121.drew | apply IsS121.set_1 | apply IsS121.set_2 | refine IsS121.far ?_ NB187_188.out _) | exact HI187.out)); (case side2 => repeat (first | (with_reducible first | exact HB.out | apply below_alloc | apply pw_below_drewN | apply below_drew1 | refine below_set ?_ (IsS121.ge HI187.out) | refine below_set ?_ GE188.out) | exact HB.out)); rintro e w62 ⟨v206, rfl, ho0, hi, hb, hk⟩; refine ⟨_, rfl, ?_⟩; have n0_ := Aside0.mk (Kd.R_mono (Kd.R_told (Kd.R_oldK (IsS121.apart (isD HI187 (f := t203) (f' := t204)) (rD HO_5.out) (by decide)) hk) (Kd.R_base ho0)) (fun _ h_ => h_.1)); have n1_ := Aside0.mk (Kd.R_mono (Kd.R_told (Kd.R_oldK (IsS121.apart (isD HI187 (f := t203) (f' := t204)) (rD HO_189000.out) (by decide)) hk) (Kd.R_base ho0)) (fun _ h_ => h_.1)); have n2_ := Aside0.mk (KeepBut.blk hk (g' := gb188) (o := .cells #[.slice Ao19 x189000_1.length co19, .int .i64 x189001_1, .int .i64 x189002_1] 28 (0, 0)) (bkD BK188) NB188_187.out (by simp)); have n3_ := Aside0.mk (Kd.R_lower (Kd.R_new' (Kd.R_new' ho0 (Kd.R_lt (rD HO_5.out))) (Kd.R_lt (rD HO_189000.out))) (below_size (hbS HB (IsS121.ge HI187.out)))); have n4_ := Aside0.mk (hb); have n5_ := Aside0.mk (hi); clear HO_5 HO_189000 BK188 HB HI187; have HO_5 := n0_; have HO_189000 := n1_; have BK188 := n2_; have HO207 := n3_; have HB := n4_; have HI187 := n5_; clear n0_ n1_ n2_ n3_ n4_ n5_; (try clear hb); (try clear hb2); (try clear hk); (try clear hi); (try clear ho0); obtain ⟨Ao63, co63, eo63⟩ := Kd.R_slice HO207.out; subst eo63))
        have n0_ := Aside0.mk (Kd.R_drew HO_5.out)
        have n1_ := Aside0.mk (Kd.R_drew HO_189000.out)
        have n2_ := Aside0.mk (Kd.R_drew HO207.out)
        have n3_ := Aside0.mk (blk_drew BK188.out)
        have n4_ := Aside0.mk (IsS121.drew HI187.out)
        have n5_ := Aside0.mk (below_drew1 HB.out)
        clear HO_5 HO_189000 HO207 BK188 HI187 HB
        have HO_5 := n0_
        have HO_189000 := n1_
        have HO207 := n2_
        have BK188 := n3_
        have HI187 := n4_
        have HB := n5_
        clear n0_ n1_ n2_ n3_ n4_ n5_
        refine start_ (n := 11) (S := fun w' => w'.cell? ⟨gb188, 0, none⟩ = some (.slice Ao19 x189000_1.length co19) ∧ w'.cell? ⟨gb188, 1, none⟩ = some (.int .i64 x189001_1) ∧ w'.cell? ⟨gb188, 2, none⟩ = some (.int .i64 x189002_1)) (ds := []) #[false, false, false, false, false, false, false, false, false, false, false] (by kernel_rfl) rfl rfl ⟨(blk_cell BK188.out 0).trans rfl, (blk_cell BK188.out 1).trans rfl, (blk_cell BK188.out 2).trans rfl⟩ (fun hHeld => ?_); refine with_tabW laws_FnGapScript.tab14 laws_FnGapScript.bits14 (fun HT_ HW_ => ?_)
        generalize w62.drew = w64 at HO_5 HO_189000 HO207 BK188 HI187 HB hHeld ⊢
        refine pure_ (i := 1) (N := some 57) (v := ?_) (a' := ?_) #[false, true, false, false, false, false, false, false, false, false, false] rfl rfl (any_of HT_.out (by kernel_rfl)) (fun _ _ _ h => h) (Or.inl ⟨by rfl, ?_⟩) ?_ ?_
        rotate_left
        ·intro w'
         go_simp
         with_reducible rfl
        rotate_left
        ·simp only [Act.put, List.setIfInBounds_toArray, List.set_cons_zero, List.set_cons_succ, i64_w, i32_w]
         rfl
        refine pure_ (i := 2) (N := some 58) (v := ?_) (a' := ?_) #[false, true, true, false, false, false, false, false, false, false, false] rfl rfl (any_of HT_.out (by kernel_rfl)) (fun _ _ _ h => h) (Or.inl ⟨by rfl, ?_⟩) ?_ ?_
        rotate_left
        ·intro w'
         go_simp
         with_reducible rfl
        rotate_left
        ·simp only [Act.put, List.setIfInBounds_toArray, List.set_cons_zero, List.set_cons_succ, i64_w, i32_w]
         rfl
        refine take_ (i := 0) (N := some 56) (v := ?_) (a' := ?_) #[true, true, true, false, false, false, false, false, false, false, false] rfl rfl (take_ofW HT_.out HW_.out (by kernel_rfl)) (fun _ _ _ h => h) (Or.inl ⟨by rfl, ?_⟩) hHeld ?_ ?_
        rotate_left
        ·rintro w' ⟨s0, s1, s2⟩
         go_simp
         with_reducible rfl
        rotate_left
        ·simp only [Act.put, List.setIfInBounds_toArray, List.set_cons_zero, List.set_cons_succ, i64_w, i32_w]
         rfl
        refine join_ (σ := Value × Value × Nat) 2 #[true, true, true, true, true, true, true, true, true, false, false] (fun s_ => [(59, s_.1), (60, .tuple #[.agg #[s_.2.1, .int .i64 t216, .int .i64 t217], .int .i64 t218]), (11, .pointer (some ⟨s_.2.2, 0, none⟩)), (55, .tuple #[.agg #[s_.2.1, .int .i64 t216, .int .i64 t217], .int .i64 t218]), (61, .agg #[s_.2.1, .int .i64 t216, .int .i64 t217]), (62, .int .i64 t218)]) (fun s_ w' => (w'.cell? ⟨gb188, 0, none⟩ = some (.slice Ao19 x189000_1.length co19) ∧ w'.cell? ⟨gb188, 1, none⟩ = some (.int .i64 x189001_1) ∧ w'.cell? ⟨gb188, 2, none⟩ = some (.int .i64 x189002_1)) ∧ (Kd.R (Kd.int .i32) 21 w' w.heap.size (fun k_ => some k_ ≠ (s_.1 : Value).ownBlock ∧ some k_ ≠ (s_.2.1 : Value).ownBlock ∧ some k_ ≠ (.slice Ao19 x189000_1.length co19 : Value).ownBlock ∧ some k_ ≠ (.slice Ao20 x5_1.length co20 : Value).ownBlock) (.slice Ao63 t205.length co63) t205) ∧ (Kd.R (Kd.int .i32) 21 w' w.heap.size (fun k_ => some k_ ≠ (.slice Ao63 t205.length co63 : Value).ownBlock ∧ some k_ ≠ (s_.2.1 : Value).ownBlock ∧ some k_ ≠ (.slice Ao19 x189000_1.length co19 : Value).ownBlock ∧ some k_ ≠ (.slice Ao20 x5_1.length co20 : Value).ownBlock) s_.1 t210) ∧ (Kd.R (Kd.int .i32) 21 w' w.heap.size (fun k_ => some k_ ≠ (.slice Ao63 t205.length co63 : Value).ownBlock ∧ some k_ ≠ (s_.1 : Value).ownBlock ∧ some k_ ≠ (.slice Ao19 x189000_1.length co19 : Value).ownBlock ∧ some k_ ≠ (.slice Ao20 x5_1.length co20 : Value).ownBlock) s_.2.1 t213) ∧ (Kd.R (Kd.int .i32) 21 w' w.heap.size (fun k_ => some k_ ≠ (.slice Ao63 t205.length co63 : Value).ownBlock ∧ some k_ ≠ (s_.1 : Value).ownBlock ∧ some k_ ≠ (s_.2.1 : Value).ownBlock ∧ some k_ ≠ (.slice Ao20 x5_1.length co20 : Value).ownBlock) (.slice Ao19 x189000_1.length co19) x189000_1) ∧ (Kd.R (Kd.int .i32) 21 w' w.heap.size (fun k_ => some k_ ≠ (.slice Ao63 t205.length co63 : Value).ownBlock ∧ some k_ ≠ (s_.1 : Value).ownBlock ∧ some k_ ≠ (s_.2.1 : Value).ownBlock ∧ some k_ ≠ (.slice Ao19 x189000_1.length co19 : Value).ownBlock) (.slice Ao20 x5_1.length co20) x5_1) ∧ (w'.heap[gb188]? = some (.cells #[.slice Ao19 x189000_1.length co19, .int .i64 x189001_1, .int .i64 x189002_1] 28 (0, 0))) ∧ (w'.heap[s_.2.2]? = some (.cells #[.slice none 0 0, .int .i64 0, .int .i64 0] 28 (0, 0))) ∧ (w.heap.size ≤ s_.2.2) ∧ (w.heap.size ≤ s_.2.2) ∧ (g187 ≠ s_.2.2) ∧ (s_.2.2 ≠ g187) ∧ (gb188 ≠ s_.2.2) ∧ (s_.2.2 ≠ gb188) ∧ (IsS121 w w' g187 t184 t208 t209) ∧ (Below w.heap.size w w')) ?_ ?_
        rotate_left
        ·intro hCont
         refine two_ (i := 3) (j := 8) (Ni := some 59) (Nj := some 11) #[true, true, true, true, false, false, false, false, false, false, false] #[true, true, true, false, false, false, false, false, true, false, false] rfl rfl rfl rfl (two_of HT_.out (by kernel_rfl)) (by decide) (by decide) (fun K hK => ?_) (fun K hK => ?_)
         ·skip
          refine goes_ Tryd.func29 (by kernel_rfl) rfl #[.slice Ao63 t205.length co63] (by rfl) rfl rfl (by (try simp only [List.map_toArray, List.map_cons, List.map_nil]); first | done | rfl | (simp only [List.length_drop, List.length_take]; rfl)) ?_
          with_reducible refine (laws_cpText.calls _ _ t205 t210 _ ?side1 ?side2 A26.out).mono ?_
          (case side1 => repeat (first | exact (Kd.R_reads' HO207.out).2.2 | (with_reducible refine Kd.C_alloc ?_ _) | (with_reducible refine Kd.C_drewN ?_ _) | (with_reducible refine Kd.C_drew ?_)))
          (case side2 => exact (Kd.R_reads' HO207.out).2.1)
          rintro e w65 ⟨v211, rfl, ho0, hb⟩
          refine ⟨_, rfl, ?_⟩
          have n0_ := Aside0.mk (Kd.R_elder' (rD HO_5.out) (Kd.R_base ho0) hb)
          have n1_ := Aside0.mk (Kd.R_elder' (rD HO_189000.out) (Kd.R_base ho0) hb)
          have n2_ := Aside0.mk (Kd.R_elder' (rD HO207.out) (Kd.R_base ho0) hb)
          have n3_ := Aside0.mk (Kd.R_lower (Kd.R_new' (Kd.R_new' (Kd.R_new' ho0 (Kd.R_lt (rD HO_5.out))) (Kd.R_lt (rD HO_189000.out))) (Kd.R_lt (rD HO207.out))) (below_size (hbS HB (IsS121.ge HI187.out))))
          have n4_ := Aside0.mk (blk_below (bkD BK188) hb)
          have n5_ := Aside0.mk (IsS121.below (isD HI187) hb)
          have n6_ := Aside0.mk (below_step (hbS HB (IsS121.ge HI187.out)) hb)
          clear HO_5 HO_189000 HO207 BK188 HI187 HB
          have HO_5 := n0_
          have HO_189000 := n1_
          have HO207 := n2_
          have HO212 := n3_
          have BK188 := n4_
          have HI187 := n5_
          have HB := n6_
          clear n0_ n1_ n2_ n3_ n4_ n5_ n6_
          (try clear hb)
          (try clear hb2)
          (try clear hk)
          (try clear hi)
          (try clear ho0)
          obtain ⟨Ao66, co66, eo66⟩ := Kd.R_slice HO212.out
          (first | subst eo66 | (injection eo66 with f1_ f2_ f3_; have f4_ := f1_.symm; have f5_ := f3_.symm; clear f1_ f2_ f3_; subst f4_; subst f5_))
          refine hK.out _ _ ⟨(blk_cell BK188.out 0).trans rfl, (blk_cell BK188.out 1).trans rfl, (blk_cell BK188.out 2).trans rfl⟩ (fun hHeld => ?_)
          clear hK K
          refine norm_ (a' := ?_) ?_ ?_
          rotate_left
          ·show Act.put _ (some 59) _ = _
           simp only [Act.put, List.setIfInBounds_toArray, List.set_cons_zero, List.set_cons_succ, i64_w, i32_w]
           rfl
          refine two_ (i := 4) (j := 8) (Ni := some 60) (Nj := some 11) #[true, true, true, true, true, false, false, false, false, false, false] #[true, true, true, true, false, false, false, false, true, false, false] rfl rfl rfl rfl (two_of HT_.out (by kernel_rfl)) (by decide) (by decide) (fun K hK => ?_) (fun K hK => ?_)
          ·skip
           refine goes_ Tryd.func24 (by kernel_rfl) rfl #[.agg #[.slice Ao19 x189000_1.length co19, .int .i64 x189001_1, .int .i64 x189002_1], .int .i64 t196, .slice Ao66 t210.length co66] (by rfl) rfl rfl (by (try simp only [List.map_toArray, List.map_cons, List.map_nil]); first | done | rfl | (simp only [List.length_drop, List.length_take]; rfl)) ?_
           with_reducible refine (impl_GapInsert.calls _ _ x189000_1 x189001_1 x189002_1 t196 _ _ t210 t213 t216 t217 t218 _ ?side1 ?side2 ?side3 ?side4 ?side5 A27.out).mono ?_
           (case side1 => repeat (first | exact (Kd.R_reads' HO_189000.out).2.2 | (with_reducible refine Kd.C_alloc ?_ _) | (with_reducible refine Kd.C_drewN ?_ _) | (with_reducible refine Kd.C_drew ?_)))
           (case side2 => exact (Kd.R_reads' HO_189000.out).2.1)
           (case side3 => repeat (first | exact (Kd.R_reads' HO212.out).2.2 | (with_reducible refine Kd.C_alloc ?_ _) | (with_reducible refine Kd.C_drewN ?_ _) | (with_reducible refine Kd.C_drew ?_)))
           (case side4 => exact (Kd.R_reads' HO212.out).2.1)
           (case side5 => exact HG.below hgG_ (hbS HB (IsS121.ge HI187.out)))
           rintro e w67 ⟨v214, rfl, ho0, hb⟩
           refine ⟨_, rfl, ?_⟩
           have n0_ := Aside0.mk (Kd.R_elder' (rD HO_5.out) (Kd.R_base ho0) hb)
           have n1_ := Aside0.mk (Kd.R_elder' (rD HO_189000.out) (Kd.R_base ho0) hb)
           have n2_ := Aside0.mk (Kd.R_elder' (rD HO207.out) (Kd.R_base ho0) hb)
           have n3_ := Aside0.mk (Kd.R_elder' (rD HO212.out) (Kd.R_base ho0) hb)
           have n4_ := Aside0.mk (Kd.R_lower (Kd.R_new' (Kd.R_new' (Kd.R_new' (Kd.R_new' ho0 (Kd.R_lt (rD HO_5.out))) (Kd.R_lt (rD HO_189000.out))) (Kd.R_lt (rD HO207.out))) (Kd.R_lt (rD HO212.out))) (below_size (hbS HB (IsS121.ge HI187.out))))
           have n5_ := Aside0.mk (blk_below (bkD BK188) hb)
           have n6_ := Aside0.mk (IsS121.below (isD HI187) hb)
           have n7_ := Aside0.mk (below_step (hbS HB (IsS121.ge HI187.out)) hb)
           clear HO_5 HO_189000 HO207 HO212 BK188 HI187 HB
           have HO_5 := n0_
           have HO_189000 := n1_
           have HO207 := n2_
           have HO212 := n3_
           have HO215 := n4_
           have BK188 := n5_
           have HI187 := n6_
           have HB := n7_
           clear n0_ n1_ n2_ n3_ n4_ n5_ n6_ n7_
           (try clear hb)
           (try clear hb2)
           (try clear hk)
           (try clear hi)
           (try clear ho0)
           refine hK.out _ _ ⟨(blk_cell BK188.out 0).trans rfl, (blk_cell BK188.out 1).trans rfl, (blk_cell BK188.out 2).trans rfl⟩ (fun hHeld => ?_)
           clear hK K
           refine norm_ (a' := ?_) ?_ ?_
           rotate_left
           ·show Act.put _ (some 60) _ = _
            simp only [Act.put, List.setIfInBounds_toArray, List.set_cons_zero, List.set_cons_succ, i64_w, i32_w]
            rfl
           refine pure_ (i := 5) (N := some 55) (v := ?_) (a' := ?_) #[true, true, true, true, true, true, false, false, false, false, false] rfl rfl (any_of HT_.out (by kernel_rfl)) (fun _ _ _ h => h) (Or.inl ⟨by rfl, ?_⟩) ?_ ?_
           rotate_left
           ·intro w'
            go_simp
            with_reducible rfl
           rotate_left
           ·simp only [Act.put, List.setIfInBounds_toArray, List.set_cons_zero, List.set_cons_succ, i64_w, i32_w]
            rfl
           refine pure_ (i := 6) (N := some 61) (v := ?_) (a' := ?_) #[true, true, true, true, true, true, true, false, false, false, false] rfl rfl (any_of HT_.out (by kernel_rfl)) (fun _ _ _ h => h) (Or.inl ⟨by rfl, ?_⟩) ?_ ?_
           rotate_left
           ·intro w'
            go_simp
            with_reducible rfl
           rotate_left
           ·simp only [Act.put, List.setIfInBounds_toArray, List.set_cons_zero, List.set_cons_succ, i64_w, i32_w]
            rfl
           refine pure_ (i := 7) (N := some 62) (v := ?_) (a' := ?_) #[true, true, true, true, true, true, true, true, false, false, false] rfl rfl (any_of HT_.out (by kernel_rfl)) (fun _ _ _ h => h) (Or.inl ⟨by rfl, ?_⟩) ?_ ?_
           rotate_left
           ·intro w'
            go_simp
            with_reducible rfl
           rotate_left
           ·simp only [Act.put, List.setIfInBounds_toArray, List.set_cons_zero, List.set_cons_succ, i64_w, i32_w]
            rfl
           refine one_ (i := 8) (N := some 11) #[true, true, true, true, true, true, true, true, true, false, false] rfl rfl (one_of HT_.out (by kernel_rfl)) (by decide) (fun K hK => ?_)
           refine box_step ?hg (N := 11) ?hd (cs := #[.slice none 0 0, .int .i64 0, .int .i64 0]) (t := 28) ?hr ?_; (case hd => rfl); (case hg => rfl); (case hr => first | (go_simp; done) | (go_simp; rfl))
           intro gb219 hg w68 hbox hb
           have n0_ := Aside0.mk (Kd.R_below (rD HO_5.out) hb)
           have n1_ := Aside0.mk (Kd.R_below (rD HO_189000.out) hb)
           have n2_ := Aside0.mk (Kd.R_below (rD HO207.out) hb)
           have n3_ := Aside0.mk (Kd.R_below (rD HO212.out) hb)
           have n4_ := Aside0.mk (Kd.R_below (rD HO215.out) hb)
           have n5_ := Aside0.mk (blk_below (bkD BK188) hb)
           have n6_ := Aside0.mk (IsS121.below (isD HI187) hb)
           have n7_ := Aside0.mk (below_step (hbS HB (IsS121.ge HI187.out)) hb)
           have n8_ := Aside0.mk (hbox)
           have n9_ := Aside0.mk ((by rw [hg]; exact (below_size (hbS HB (IsS121.ge HI187.out))) : w.heap.size ≤ gb219))
           have n10_ := Aside0.mk ((by rw [hg]; exact (below_size (hbS HB (IsS121.ge HI187.out))) : w.heap.size ≤ gb219))
           have n11_ := Aside0.mk ((by rw [hg]; exact Nat.ne_of_lt (blk_lt (bkD BK188)) : gb188 ≠ gb219))
           have n12_ := Aside0.mk ((by rw [hg]; exact Nat.ne_of_gt (blk_lt (bkD BK188)) : gb219 ≠ gb188))
           have n13_ := Aside0.mk ((by rw [hg]; exact Nat.ne_of_lt (IsS121.lt (isD HI187 (f := t208) (f' := t209))) : g187 ≠ gb219))
           have n14_ := Aside0.mk ((by rw [hg]; exact Nat.ne_of_gt (IsS121.lt (isD HI187 (f := t208) (f' := t209))) : gb219 ≠ g187))
           clear HO_5 HO_189000 HO207 HO212 HO215 BK188 HI187 HB
           have HO_5 := n0_
           have HO_189000 := n1_
           have HO207 := n2_
           have HO212 := n3_
           have HO215 := n4_
           have BK188 := n5_
           have HI187 := n6_
           have HB := n7_
           have BK219 := n8_
           have GW219 := n9_
           have GE219 := n10_
           have NB188_219 := n11_
           have NB219_188 := n12_
           have NB187_219 := n13_
           have NB219_187 := n14_
           clear n0_ n1_ n2_ n3_ n4_ n5_ n6_ n7_ n8_ n9_ n10_ n11_ n12_ n13_ n14_ hb hbox hg
           refine hK.out _ _ ⟨(blk_cell BK188.out 0).trans rfl, (blk_cell BK188.out 1).trans rfl, (blk_cell BK188.out 2).trans rfl⟩ (fun hHeld => ?_)
           clear hK K
           refine norm_ (a' := ?_) ?_ ?_
           rotate_left
           ·show Act.put _ (some 11) _ = _
            simp only [Act.put, List.setIfInBounds_toArray, List.set_cons_zero, List.set_cons_succ, i64_w, i32_w]
            rfl
           exact norm_ (by simp only [putAll, Act.put, List.setIfInBounds_toArray, List.set_cons_zero, List.set_cons_succ]) (hCont (.slice Ao66 t210.length co66, v214, gb219) _ ⟨hHeld, (rD (Kd.R_mono HO207.out (fun _ hk => ⟨hk.1.2, ⟨hk.2, ⟨hk.1.1.2, hk.1.1.1.2⟩⟩⟩))), (rD (Kd.R_mono HO212.out (fun _ hk => ⟨hk.1.2, ⟨hk.2, ⟨hk.1.1.2, hk.1.1.1.2⟩⟩⟩))), (rD (Kd.R_mono HO215.out (fun _ hk => ⟨hk.1.2, ⟨hk.2, ⟨hk.1.1.2, hk.1.1.1.2⟩⟩⟩))), (rD (Kd.R_mono HO_189000.out (fun _ hk => ⟨hk.1.1.2, ⟨hk.1.2, ⟨hk.2, hk.1.1.1⟩⟩⟩))), (rD (Kd.R_mono HO_5.out (fun _ hk => ⟨hk.1.1.2, ⟨hk.1.2, ⟨hk.2, hk.1.1.1⟩⟩⟩))), (bkD BK188), (bkD BK219), GW219.out, GE219.out, NB187_219.out, NB219_187.out, NB188_219.out, NB219_188.out, (isD HI187), (hbS HB (IsS121.ge HI187.out))⟩)
          ·skip
           refine box_step ?hg (N := 11) ?hd (cs := #[.slice none 0 0, .int .i64 0, .int .i64 0]) (t := 28) ?hr ?_; (case hd => rfl); (case hg => rfl); (case hr => first | (go_simp; done) | (go_simp; rfl))
           intro gb219 hg w66 hbox hb
           have n0_ := Aside0.mk (Kd.R_below (rD HO_5.out) hb)
           have n1_ := Aside0.mk (Kd.R_below (rD HO_189000.out) hb)
           have n2_ := Aside0.mk (Kd.R_below (rD HO207.out) hb)
           have n3_ := Aside0.mk (Kd.R_below (rD HO212.out) hb)
           have n4_ := Aside0.mk (blk_below (bkD BK188) hb)
           have n5_ := Aside0.mk (IsS121.below (isD HI187) hb)
           have n6_ := Aside0.mk (below_step (hbS HB (IsS121.ge HI187.out)) hb)
           have n7_ := Aside0.mk (hbox)
           have n8_ := Aside0.mk ((by rw [hg]; exact (below_size (hbS HB (IsS121.ge HI187.out))) : w.heap.size ≤ gb219))
           have n9_ := Aside0.mk ((by rw [hg]; exact (below_size (hbS HB (IsS121.ge HI187.out))) : w.heap.size ≤ gb219))
           have n10_ := Aside0.mk ((by rw [hg]; exact Nat.ne_of_lt (blk_lt (bkD BK188)) : gb188 ≠ gb219))
           have n11_ := Aside0.mk ((by rw [hg]; exact Nat.ne_of_gt (blk_lt (bkD BK188)) : gb219 ≠ gb188))
           have n12_ := Aside0.mk ((by rw [hg]; exact Nat.ne_of_lt (IsS121.lt (isD HI187 (f := t208) (f' := t209))) : g187 ≠ gb219))
           have n13_ := Aside0.mk ((by rw [hg]; exact Nat.ne_of_gt (IsS121.lt (isD HI187 (f := t208) (f' := t209))) : gb219 ≠ g187))
           clear HO_5 HO_189000 HO207 HO212 BK188 HI187 HB
           have HO_5 := n0_
           have HO_189000 := n1_
           have HO207 := n2_
           have HO212 := n3_
           have BK188 := n4_
           have HI187 := n5_
           have HB := n6_
           have BK219 := n7_
           have GW219 := n8_
           have GE219 := n9_
           have NB188_219 := n10_
           have NB219_188 := n11_
           have NB187_219 := n12_
           have NB219_187 := n13_
           clear n0_ n1_ n2_ n3_ n4_ n5_ n6_ n7_ n8_ n9_ n10_ n11_ n12_ n13_ hb hbox hg
           obtain ⟨Ao67, co67, eo67⟩ := Kd.R_slice HO212.out
           (first | subst eo67 | (injection eo67 with f1_ f2_ f3_; have f4_ := f1_.symm; have f5_ := f3_.symm; clear f1_ f2_ f3_; subst f4_; subst f5_))
           refine hK.out _ _ ⟨(blk_cell BK188.out 0).trans rfl, (blk_cell BK188.out 1).trans rfl, (blk_cell BK188.out 2).trans rfl⟩ (fun hHeld => ?_)
           clear hK K
           refine norm_ (a' := ?_) ?_ ?_
           rotate_left
           ·show Act.put _ (some 11) _ = _
            simp only [Act.put, List.setIfInBounds_toArray, List.set_cons_zero, List.set_cons_succ, i64_w, i32_w]
            rfl
           refine one_ (i := 4) (N := some 60) #[true, true, true, true, true, false, false, false, true, false, false] rfl rfl (one_of HT_.out (by kernel_rfl)) (by decide) (fun K hK => ?_)
           refine goes_ Tryd.func24 (by kernel_rfl) rfl #[.agg #[.slice Ao19 x189000_1.length co19, .int .i64 x189001_1, .int .i64 x189002_1], .int .i64 t196, .slice Ao67 t210.length co67] (by rfl) rfl rfl (by (try simp only [List.map_toArray, List.map_cons, List.map_nil]); first | done | rfl | (simp only [List.length_drop, List.length_take]; rfl)) ?_
           with_reducible refine (impl_GapInsert.calls _ _ x189000_1 x189001_1 x189002_1 t196 _ _ t210 t213 t216 t217 t218 _ ?side1 ?side2 ?side3 ?side4 ?side5 A27.out).mono ?_
           (case side1 => repeat (first | exact (Kd.R_reads' HO_189000.out).2.2 | (with_reducible refine Kd.C_alloc ?_ _) | (with_reducible refine Kd.C_drewN ?_ _) | (with_reducible refine Kd.C_drew ?_)))
           (case side2 => exact (Kd.R_reads' HO_189000.out).2.1)
           (case side3 => repeat (first | exact (Kd.R_reads' HO212.out).2.2 | (with_reducible refine Kd.C_alloc ?_ _) | (with_reducible refine Kd.C_drewN ?_ _) | (with_reducible refine Kd.C_drew ?_)))
           (case side4 => exact (Kd.R_reads' HO212.out).2.1)
           (case side5 => exact HG.below hgG_ (hbS HB (IsS121.ge HI187.out)))
           rintro e w68 ⟨v214, rfl, ho0, hb⟩
           refine ⟨_, rfl, ?_⟩
           have n0_ := Aside0.mk (Kd.R_elder' (rD HO_5.out) (Kd.R_base ho0) hb)
           have n1_ := Aside0.mk (Kd.R_elder' (rD HO_189000.out) (Kd.R_base ho0) hb)
           have n2_ := Aside0.mk (Kd.R_elder' (rD HO207.out) (Kd.R_base ho0) hb)
           have n3_ := Aside0.mk (Kd.R_elder' (rD HO212.out) (Kd.R_base ho0) hb)
           have n4_ := Aside0.mk (Kd.R_lower (Kd.R_new' (Kd.R_new' (Kd.R_new' (Kd.R_new' ho0 (Kd.R_lt (rD HO_5.out))) (Kd.R_lt (rD HO_189000.out))) (Kd.R_lt (rD HO207.out))) (Kd.R_lt (rD HO212.out))) (below_size (hbS HB (IsS121.ge HI187.out))))
           have n5_ := Aside0.mk (blk_below (bkD BK188) hb)
           have n6_ := Aside0.mk (IsS121.below (isD HI187) hb)
           have n7_ := Aside0.mk (blk_below (bkD BK219) hb)
           have n8_ := Aside0.mk (below_step (hbS HB (IsS121.ge HI187.out)) hb)
           clear HO_5 HO_189000 HO207 HO212 BK188 HI187 BK219 HB
           have HO_5 := n0_
           have HO_189000 := n1_
           have HO207 := n2_
           have HO212 := n3_
           have HO215 := n4_
           have BK188 := n5_
           have HI187 := n6_
           have BK219 := n7_
           have HB := n8_
           clear n0_ n1_ n2_ n3_ n4_ n5_ n6_ n7_ n8_
           (try clear hb)
           (try clear hb2)
           (try clear hk)
           (try clear hi)
           (try clear ho0)
           refine hK.out _ _ ⟨(blk_cell BK188.out 0).trans rfl, (blk_cell BK188.out 1).trans rfl, (blk_cell BK188.out 2).trans rfl⟩ (fun hHeld => ?_)
           clear hK K
           refine norm_ (a' := ?_) ?_ ?_
           rotate_left
           ·show Act.put _ (some 60) _ = _
            simp only [Act.put, List.setIfInBounds_toArray, List.set_cons_zero, List.set_cons_succ, i64_w, i32_w]
            rfl
           refine pure_ (i := 5) (N := some 55) (v := ?_) (a' := ?_) #[true, true, true, true, true, true, false, false, true, false, false] rfl rfl (any_of HT_.out (by kernel_rfl)) (fun _ _ _ h => h) (Or.inl ⟨by rfl, ?_⟩) ?_ ?_
           rotate_left
           ·intro w'
            go_simp
            with_reducible rfl
           rotate_left
           ·simp only [Act.put, List.setIfInBounds_toArray, List.set_cons_zero, List.set_cons_succ, i64_w, i32_w]
            rfl
           refine pure_ (i := 6) (N := some 61) (v := ?_) (a' := ?_) #[true, true, true, true, true, true, true, false, true, false, false] rfl rfl (any_of HT_.out (by kernel_rfl)) (fun _ _ _ h => h) (Or.inl ⟨by rfl, ?_⟩) ?_ ?_
           rotate_left
           ·intro w'
            go_simp
            with_reducible rfl
           rotate_left
           ·simp only [Act.put, List.setIfInBounds_toArray, List.set_cons_zero, List.set_cons_succ, i64_w, i32_w]
            rfl
           refine pure_ (i := 7) (N := some 62) (v := ?_) (a' := ?_) #[true, true, true, true, true, true, true, true, true, false, false] rfl rfl (any_of HT_.out (by kernel_rfl)) (fun _ _ _ h => h) (Or.inl ⟨by rfl, ?_⟩) ?_ ?_
           rotate_left
           ·intro w'
            go_simp
            with_reducible rfl
           rotate_left
           ·simp only [Act.put, List.setIfInBounds_toArray, List.set_cons_zero, List.set_cons_succ, i64_w, i32_w]
            rfl
           exact norm_ (by simp only [putAll, Act.put, List.setIfInBounds_toArray, List.set_cons_zero, List.set_cons_succ]) (hCont (.slice Ao67 t210.length co67, v214, gb219) _ ⟨hHeld, (rD (Kd.R_mono HO207.out (fun _ hk => ⟨hk.1.2, ⟨hk.2, ⟨hk.1.1.2, hk.1.1.1.2⟩⟩⟩))), (rD (Kd.R_mono HO212.out (fun _ hk => ⟨hk.1.2, ⟨hk.2, ⟨hk.1.1.2, hk.1.1.1.2⟩⟩⟩))), (rD (Kd.R_mono HO215.out (fun _ hk => ⟨hk.1.2, ⟨hk.2, ⟨hk.1.1.2, hk.1.1.1.2⟩⟩⟩))), (rD (Kd.R_mono HO_189000.out (fun _ hk => ⟨hk.1.1.2, ⟨hk.1.2, ⟨hk.2, hk.1.1.1⟩⟩⟩))), (rD (Kd.R_mono HO_5.out (fun _ hk => ⟨hk.1.1.2, ⟨hk.1.2, ⟨hk.2, hk.1.1.1⟩⟩⟩))), (bkD BK188), (bkD BK219), GW219.out, GE219.out, NB187_219.out, NB219_187.out, NB188_219.out, NB219_188.out, (isD HI187), (hbS HB (IsS121.ge HI187.out))⟩)
         ·skip
          refine box_step ?hg (N := 11) ?hd (cs := #[.slice none 0 0, .int .i64 0, .int .i64 0]) (t := 28) ?hr ?_; (case hd => rfl); (case hg => rfl); (case hr => first | (go_simp; done) | (go_simp; rfl))
          intro gb219 hg w65 hbox hb
          have n0_ := Aside0.mk (Kd.R_below (rD HO_5.out) hb)
          have n1_ := Aside0.mk (Kd.R_below (rD HO_189000.out) hb)
          have n2_ := Aside0.mk (Kd.R_below (rD HO207.out) hb)
          have n3_ := Aside0.mk (blk_below (bkD BK188) hb)
          have n4_ := Aside0.mk (IsS121.below (isD HI187) hb)
          have n5_ := Aside0.mk (below_step (hbS HB (IsS121.ge HI187.out)) hb)
          have n6_ := Aside0.mk (hbox)
          have n7_ := Aside0.mk ((by rw [hg]; exact (below_size (hbS HB (IsS121.ge HI187.out))) : w.heap.size ≤ gb219))
          have n8_ := Aside0.mk ((by rw [hg]; exact (below_size (hbS HB (IsS121.ge HI187.out))) : w.heap.size ≤ gb219))
          have n9_ := Aside0.mk ((by rw [hg]; exact Nat.ne_of_lt (blk_lt (bkD BK188)) : gb188 ≠ gb219))
          have n10_ := Aside0.mk ((by rw [hg]; exact Nat.ne_of_gt (blk_lt (bkD BK188)) : gb219 ≠ gb188))
          have n11_ := Aside0.mk ((by rw [hg]; exact Nat.ne_of_lt (IsS121.lt (isD HI187 (f := t208) (f' := t209))) : g187 ≠ gb219))
          have n12_ := Aside0.mk ((by rw [hg]; exact Nat.ne_of_gt (IsS121.lt (isD HI187 (f := t208) (f' := t209))) : gb219 ≠ g187))
          clear HO_5 HO_189000 HO207 BK188 HI187 HB
          have HO_5 := n0_
          have HO_189000 := n1_
          have HO207 := n2_
          have BK188 := n3_
          have HI187 := n4_
          have HB := n5_
          have BK219 := n6_
          have GW219 := n7_
          have GE219 := n8_
          have NB188_219 := n9_
          have NB219_188 := n10_
          have NB187_219 := n11_
          have NB219_187 := n12_
          clear n0_ n1_ n2_ n3_ n4_ n5_ n6_ n7_ n8_ n9_ n10_ n11_ n12_ hb hbox hg
          refine hK.out _ _ ⟨(blk_cell BK188.out 0).trans rfl, (blk_cell BK188.out 1).trans rfl, (blk_cell BK188.out 2).trans rfl⟩ (fun hHeld => ?_)
          clear hK K
          refine norm_ (a' := ?_) ?_ ?_
          rotate_left
          ·show Act.put _ (some 11) _ = _
           simp only [Act.put, List.setIfInBounds_toArray, List.set_cons_zero, List.set_cons_succ, i64_w, i32_w]
           rfl
          refine one_ (i := 3) (N := some 59) #[true, true, true, true, false, false, false, false, true, false, false] rfl rfl (one_of HT_.out (by kernel_rfl)) (by decide) (fun K hK => ?_)
          refine goes_ Tryd.func29 (by kernel_rfl) rfl #[.slice Ao63 t205.length co63] (by rfl) rfl rfl (by (try simp only [List.map_toArray, List.map_cons, List.map_nil]); first | done | rfl | (simp only [List.length_drop, List.length_take]; rfl)) ?_
          with_reducible refine (laws_cpText.calls _ _ t205 t210 _ ?side1 ?side2 A26.out).mono ?_
          (case side1 => repeat (first | exact (Kd.R_reads' HO207.out).2.2 | (with_reducible refine Kd.C_alloc ?_ _) | (with_reducible refine Kd.C_drewN ?_ _) | (with_reducible refine Kd.C_drew ?_)))
          (case side2 => exact (Kd.R_reads' HO207.out).2.1)
          rintro e w66 ⟨v211, rfl, ho0, hb⟩
          refine ⟨_, rfl, ?_⟩
          have n0_ := Aside0.mk (Kd.R_elder' (rD HO_5.out) (Kd.R_base ho0) hb)
          have n1_ := Aside0.mk (Kd.R_elder' (rD HO_189000.out) (Kd.R_base ho0) hb)
          have n2_ := Aside0.mk (Kd.R_elder' (rD HO207.out) (Kd.R_base ho0) hb)
          have n3_ := Aside0.mk (Kd.R_lower (Kd.R_new' (Kd.R_new' (Kd.R_new' ho0 (Kd.R_lt (rD HO_5.out))) (Kd.R_lt (rD HO_189000.out))) (Kd.R_lt (rD HO207.out))) (below_size (hbS HB (IsS121.ge HI187.out))))
          have n4_ := Aside0.mk (blk_below (bkD BK188) hb)
          have n5_ := Aside0.mk (IsS121.below (isD HI187) hb)
          have n6_ := Aside0.mk (blk_below (bkD BK219) hb)
          have n7_ := Aside0.mk (below_step (hbS HB (IsS121.ge HI187.out)) hb)
          clear HO_5 HO_189000 HO207 BK188 HI187 BK219 HB
          have HO_5 := n0_
          have HO_189000 := n1_
          have HO207 := n2_
          have HO212 := n3_
          have BK188 := n4_
          have HI187 := n5_
          have BK219 := n6_
          have HB := n7_
          clear n0_ n1_ n2_ n3_ n4_ n5_ n6_ n7_
          (try clear hb)
          (try clear hb2)
          (try clear hk)
          (try clear hi)
          (try clear ho0)
          obtain ⟨Ao67, co67, eo67⟩ := Kd.R_slice HO212.out
          (first | subst eo67 | (injection eo67 with f1_ f2_ f3_; have f4_ := f1_.symm; have f5_ := f3_.symm; clear f1_ f2_ f3_; subst f4_; subst f5_))
          refine hK.out _ _ ⟨(blk_cell BK188.out 0).trans rfl, (blk_cell BK188.out 1).trans rfl, (blk_cell BK188.out 2).trans rfl⟩ (fun hHeld => ?_)
          clear hK K
          refine norm_ (a' := ?_) ?_ ?_
          rotate_left
          ·show Act.put _ (some 59) _ = _
           simp only [Act.put, List.setIfInBounds_toArray, List.set_cons_zero, List.set_cons_succ, i64_w, i32_w]
           rfl
          refine one_ (i := 4) (N := some 60) #[true, true, true, true, true, false, false, false, true, false, false] rfl rfl (one_of HT_.out (by kernel_rfl)) (by decide) (fun K hK => ?_)
          refine goes_ Tryd.func24 (by kernel_rfl) rfl #[.agg #[.slice Ao19 x189000_1.length co19, .int .i64 x189001_1, .int .i64 x189002_1], .int .i64 t196, .slice Ao67 t210.length co67] (by rfl) rfl rfl (by (try simp only [List.map_toArray, List.map_cons, List.map_nil]); first | done | rfl | (simp only [List.length_drop, List.length_take]; rfl)) ?_
          with_reducible refine (impl_GapInsert.calls _ _ x189000_1 x189001_1 x189002_1 t196 _ _ t210 t213 t216 t217 t218 _ ?side1 ?side2 ?side3 ?side4 ?side5 A27.out).mono ?_
          (case side1 => repeat (first | exact (Kd.R_reads' HO_189000.out).2.2 | (with_reducible refine Kd.C_alloc ?_ _) | (with_reducible refine Kd.C_drewN ?_ _) | (with_reducible refine Kd.C_drew ?_)))
          (case side2 => exact (Kd.R_reads' HO_189000.out).2.1)
          (case side3 => repeat (first | exact (Kd.R_reads' HO212.out).2.2 | (with_reducible refine Kd.C_alloc ?_ _) | (with_reducible refine Kd.C_drewN ?_ _) | (with_reducible refine Kd.C_drew ?_)))
          (case side4 => exact (Kd.R_reads' HO212.out).2.1)
          (case side5 => exact HG.below hgG_ (hbS HB (IsS121.ge HI187.out)))
          rintro e w68 ⟨v214, rfl, ho0, hb⟩
          refine ⟨_, rfl, ?_⟩
          have n0_ := Aside0.mk (Kd.R_elder' (rD HO_5.out) (Kd.R_base ho0) hb)
          have n1_ := Aside0.mk (Kd.R_elder' (rD HO_189000.out) (Kd.R_base ho0) hb)
          have n2_ := Aside0.mk (Kd.R_elder' (rD HO207.out) (Kd.R_base ho0) hb)
          have n3_ := Aside0.mk (Kd.R_elder' (rD HO212.out) (Kd.R_base ho0) hb)
          have n4_ := Aside0.mk (Kd.R_lower (Kd.R_new' (Kd.R_new' (Kd.R_new' (Kd.R_new' ho0 (Kd.R_lt (rD HO_5.out))) (Kd.R_lt (rD HO_189000.out))) (Kd.R_lt (rD HO207.out))) (Kd.R_lt (rD HO212.out))) (below_size (hbS HB (IsS121.ge HI187.out))))
          have n5_ := Aside0.mk (blk_below (bkD BK188) hb)
          have n6_ := Aside0.mk (IsS121.below (isD HI187) hb)
          have n7_ := Aside0.mk (blk_below (bkD BK219) hb)
          have n8_ := Aside0.mk (below_step (hbS HB (IsS121.ge HI187.out)) hb)
          clear HO_5 HO_189000 HO207 HO212 BK188 HI187 BK219 HB
          have HO_5 := n0_
          have HO_189000 := n1_
          have HO207 := n2_
          have HO212 := n3_
          have HO215 := n4_
          have BK188 := n5_
          have HI187 := n6_
          have BK219 := n7_
          have HB := n8_
          clear n0_ n1_ n2_ n3_ n4_ n5_ n6_ n7_ n8_
          (try clear hb)
          (try clear hb2)
          (try clear hk)
          (try clear hi)
          (try clear ho0)
          refine hK.out _ _ ⟨(blk_cell BK188.out 0).trans rfl, (blk_cell BK188.out 1).trans rfl, (blk_cell BK188.out 2).trans rfl⟩ (fun hHeld => ?_)
          clear hK K
          refine norm_ (a' := ?_) ?_ ?_
          rotate_left
          ·show Act.put _ (some 60) _ = _
           simp only [Act.put, List.setIfInBounds_toArray, List.set_cons_zero, List.set_cons_succ, i64_w, i32_w]
           rfl
          refine pure_ (i := 5) (N := some 55) (v := ?_) (a' := ?_) #[true, true, true, true, true, true, false, false, true, false, false] rfl rfl (any_of HT_.out (by kernel_rfl)) (fun _ _ _ h => h) (Or.inl ⟨by rfl, ?_⟩) ?_ ?_
          rotate_left
          ·intro w'
           go_simp
           with_reducible rfl
          rotate_left
          ·simp only [Act.put, List.setIfInBounds_toArray, List.set_cons_zero, List.set_cons_succ, i64_w, i32_w]
           rfl
          refine pure_ (i := 6) (N := some 61) (v := ?_) (a' := ?_) #[true, true, true, true, true, true, true, false, true, false, false] rfl rfl (any_of HT_.out (by kernel_rfl)) (fun _ _ _ h => h) (Or.inl ⟨by rfl, ?_⟩) ?_ ?_
          rotate_left
          ·intro w'
           go_simp
           with_reducible rfl
          rotate_left
          ·simp only [Act.put, List.setIfInBounds_toArray, List.set_cons_zero, List.set_cons_succ, i64_w, i32_w]
           rfl
          refine pure_ (i := 7) (N := some 62) (v := ?_) (a' := ?_) #[true, true, true, true, true, true, true, true, true, false, false] rfl rfl (any_of HT_.out (by kernel_rfl)) (fun _ _ _ h => h) (Or.inl ⟨by rfl, ?_⟩) ?_ ?_
          rotate_left
          ·intro w'
           go_simp
           with_reducible rfl
          rotate_left
          ·simp only [Act.put, List.setIfInBounds_toArray, List.set_cons_zero, List.set_cons_succ, i64_w, i32_w]
           rfl
          exact norm_ (by simp only [putAll, Act.put, List.setIfInBounds_toArray, List.set_cons_zero, List.set_cons_succ]) (hCont (.slice Ao67 t210.length co67, v214, gb219) _ ⟨hHeld, (rD (Kd.R_mono HO207.out (fun _ hk => ⟨hk.1.2, ⟨hk.2, ⟨hk.1.1.2, hk.1.1.1.2⟩⟩⟩))), (rD (Kd.R_mono HO212.out (fun _ hk => ⟨hk.1.2, ⟨hk.2, ⟨hk.1.1.2, hk.1.1.1.2⟩⟩⟩))), (rD (Kd.R_mono HO215.out (fun _ hk => ⟨hk.1.2, ⟨hk.2, ⟨hk.1.1.2, hk.1.1.1.2⟩⟩⟩))), (rD (Kd.R_mono HO_189000.out (fun _ hk => ⟨hk.1.1.2, ⟨hk.1.2, ⟨hk.2, hk.1.1.1⟩⟩⟩))), (rD (Kd.R_mono HO_5.out (fun _ hk => ⟨hk.1.1.2, ⟨hk.1.2, ⟨hk.2, hk.1.1.1⟩⟩⟩))), (bkD BK188), (bkD BK219), GW219.out, GE219.out, NB187_219.out, NB219_187.out, NB188_219.out, NB219_188.out, (isD HI187), (hbS HB (IsS121.ge HI187.out))⟩)
        rintro ⟨v211, v214, gb219⟩ w69 ⟨hS_, h0_, h1_, h2_, h3_, h4_, h5_, h6_, h7_, h8_, h9_, h10_, h11_, h12_, h13_, h14_⟩
        have n0_ : Aside0 (Kd.R (Kd.int .i32) 21 w69 w.heap.size (fun k_ => some k_ ≠ (v211 : Value).ownBlock ∧ some k_ ≠ (v214 : Value).ownBlock ∧ some k_ ≠ (.slice Ao19 x189000_1.length co19 : Value).ownBlock ∧ some k_ ≠ (.slice Ao20 x5_1.length co20 : Value).ownBlock) (.slice Ao63 t205.length co63) t205) := ⟨h0_⟩
        have n1_ : Aside0 (Kd.R (Kd.int .i32) 21 w69 w.heap.size (fun k_ => some k_ ≠ (.slice Ao63 t205.length co63 : Value).ownBlock ∧ some k_ ≠ (v214 : Value).ownBlock ∧ some k_ ≠ (.slice Ao19 x189000_1.length co19 : Value).ownBlock ∧ some k_ ≠ (.slice Ao20 x5_1.length co20 : Value).ownBlock) v211 t210) := ⟨h1_⟩
        have n2_ : Aside0 (Kd.R (Kd.int .i32) 21 w69 w.heap.size (fun k_ => some k_ ≠ (.slice Ao63 t205.length co63 : Value).ownBlock ∧ some k_ ≠ (v211 : Value).ownBlock ∧ some k_ ≠ (.slice Ao19 x189000_1.length co19 : Value).ownBlock ∧ some k_ ≠ (.slice Ao20 x5_1.length co20 : Value).ownBlock) v214 t213) := ⟨h2_⟩
        have n3_ : Aside0 (Kd.R (Kd.int .i32) 21 w69 w.heap.size (fun k_ => some k_ ≠ (.slice Ao63 t205.length co63 : Value).ownBlock ∧ some k_ ≠ (v211 : Value).ownBlock ∧ some k_ ≠ (v214 : Value).ownBlock ∧ some k_ ≠ (.slice Ao20 x5_1.length co20 : Value).ownBlock) (.slice Ao19 x189000_1.length co19) x189000_1) := ⟨h3_⟩
        have n4_ : Aside0 (Kd.R (Kd.int .i32) 21 w69 w.heap.size (fun k_ => some k_ ≠ (.slice Ao63 t205.length co63 : Value).ownBlock ∧ some k_ ≠ (v211 : Value).ownBlock ∧ some k_ ≠ (v214 : Value).ownBlock ∧ some k_ ≠ (.slice Ao19 x189000_1.length co19 : Value).ownBlock) (.slice Ao20 x5_1.length co20) x5_1) := ⟨h4_⟩
        have n5_ : Aside0 (w69.heap[gb188]? = some (.cells #[.slice Ao19 x189000_1.length co19, .int .i64 x189001_1, .int .i64 x189002_1] 28 (0, 0))) := ⟨h5_⟩
        have n6_ : Aside0 (w69.heap[gb219]? = some (.cells #[.slice none 0 0, .int .i64 0, .int .i64 0] 28 (0, 0))) := ⟨h6_⟩
        have n7_ : Aside0 (w.heap.size ≤ gb219) := ⟨h7_⟩
        have n8_ : Aside0 (w.heap.size ≤ gb219) := ⟨h8_⟩
        have n9_ : Aside0 (g187 ≠ gb219) := ⟨h9_⟩
        have n10_ : Aside0 (gb219 ≠ g187) := ⟨h10_⟩
        have n11_ : Aside0 (gb188 ≠ gb219) := ⟨h11_⟩
        have n12_ : Aside0 (gb219 ≠ gb188) := ⟨h12_⟩
        have n13_ : Aside0 (IsS121 w w69 g187 t184 t208 t209) := ⟨h13_⟩
        have n14_ : Aside0 (Below w.heap.size w w69) := ⟨h14_⟩
        clear HO_5 HO_189000 HO207 BK188 HI187 HB h0_ h1_ h2_ h3_ h4_ h5_ h6_ h7_ h8_ h9_ h10_ h11_ h12_ h13_ h14_
        have HO207 := n0_
        have HO212 := n1_
        have HO215 := n2_
        have HO_189000 := n3_
        have HO_5 := n4_
        have BK188 := n5_
        have BK219 := n6_
        have GW219 := n7_
        have GE219 := n8_
        have NB187_219 := n9_
        have NB219_187 := n10_
        have NB188_219 := n11_
        have NB219_188 := n12_
        have HI187 := n13_
        have HB := n14_
        clear n0_ n1_ n2_ n3_ n4_ n5_ n6_ n7_ n8_ n9_ n10_ n11_ n12_ n13_ n14_
        have hHeld : w69.cell? ⟨gb188, 0, none⟩ = some (.slice Ao19 x189000_1.length co19) ∧ w69.cell? ⟨gb188, 1, none⟩ = some (.int .i64 x189001_1) ∧ w69.cell? ⟨gb188, 2, none⟩ = some (.int .i64 x189002_1) := hS_
        obtain ⟨Ao70, co70, eo70⟩ := Kd.R_slice HO215.out
        (first | subst eo70 | (injection eo70 with f1_ f2_ f3_; have f4_ := f1_.symm; have f5_ := f3_.symm; clear f1_ f2_ f3_; subst f4_; subst f5_))
        refine norm_ (a' := ?_) ?_ ?_
        rotate_left
        ·simp only [putAll, Act.put, List.setIfInBounds_toArray, List.set_cons_zero, List.set_cons_succ]
         rfl
        refine one_ (i := 9) (N := none) #[true, true, true, true, true, true, true, true, true, true, false] rfl rfl (one_of HT_.out (by kernel_rfl)) (by decide) (fun K hK => ?_)
        have hs71 : w69.cell? ⟨gb219, 0, none⟩ = some (.slice none 0 0) := (blk_cell BK219.out 0).trans rfl
        have hfs71 := blk_frozen BK219.out 0
        have hns71_0 := NB188_219.out
        have hms71_0 := NB219_188.out
        have hs72 : w69.cell? ⟨gb219, 1, none⟩ = some (.int .i64 0) := (blk_cell BK219.out 1).trans rfl
        have hfs72 := blk_frozen BK219.out 1
        have hns72_0 := NB188_219.out
        have hms72_0 := NB219_188.out
        have hs73 : w69.cell? ⟨gb219, 2, none⟩ = some (.int .i64 0) := (blk_cell BK219.out 2).trans rfl
        have hfs73 := blk_frozen BK219.out 2
        have hns73_0 := NB188_219.out
        have hms73_0 := NB219_188.out
        refine skip_ (w1 := ?_) (by rfl) rfl ?_ ?_
        rotate_left
        ·go_simp
         rfl
        refine hK.out _ _ ⟨((cell_far (p := ⟨gb219, _, none⟩) NB188_219.out _).trans (((cell_far (p := ⟨gb219, _, none⟩) NB188_219.out _).trans (((cell_far (p := ⟨gb219, _, none⟩) NB188_219.out _).trans (hHeld.1)))))), ((cell_far (p := ⟨gb219, _, none⟩) NB188_219.out _).trans (((cell_far (p := ⟨gb219, _, none⟩) NB188_219.out _).trans (((cell_far (p := ⟨gb219, _, none⟩) NB188_219.out _).trans (hHeld.2.1)))))), ((cell_far (p := ⟨gb219, _, none⟩) NB188_219.out _).trans (((cell_far (p := ⟨gb219, _, none⟩) NB188_219.out _).trans (((cell_far (p := ⟨gb219, _, none⟩) NB188_219.out _).trans (hHeld.2.2))))))⟩ (fun hHeld => ?_)
        clear hK K
        refine pure_ (i := 10) (N := some 12) (v := ?_) (a' := ?_) #[true, true, true, true, true, true, true, true, true, true, true] rfl rfl (any_of HT_.out (by kernel_rfl)) (fun _ _ _ h => h) (Or.inl ⟨by rfl, ?_⟩) ?_ ?_
        rotate_left
        ·intro w'
         go_simp
         with_reducible rfl
        rotate_left
        ·simp only [Act.put, List.setIfInBounds_toArray, List.set_cons_zero, List.set_cons_succ, i64_w, i32_w]
         rfl
        refine done_ (done_of HT_.out (by kernel_rfl)) ?_
        try go_wp2
        go_ret
        exact ⟨by first | rfl | (simp [errW_none, errW_some] <;> rfl) | (simp [*, errW_none, errW_some] <;> rfl), by repeat (first | (with_reducible first | exact HB.out | apply below_alloc | apply pw_below_drewN | apply below_drew1 | refine below_set ?_ (IsS121.ge HI187.out) | refine below_set ?_ GE188.out | refine below_set ?_ GE219.out) | exact HB.out)⟩
      ·rw [if_neg c23] at H
       have c23b0 : decide (0 < t199) = false := decide_eq_false c23
       clear c23
       (first | rw [c23b0] | (simp only [i64_w, i32_w]; rw [c23b0]) | skip)
       replace H := Option.bind_eq_some_iff.mp H
       obtain ⟨⟨t237, t238, t239⟩, A740, H⟩ := H
       replace H : ((impl_GapDelete.f x189000_1 x189001_1 x189002_1 t196 (wrap64 (t196 + t237))).bind fun bt240 => (if bt240.2.2.2 = 0 then (if 0 ≤ t196 then (if t196 ≤ (x5_1.length : Int) then ((laws_cpText.f (x5_1.take (t196 : Int).toNat)).bind fun t251 => (if 0 ≤ (wrap64 (t196 + t237)) then (if (wrap64 (t196 + t237)) ≤ (x5_1.length : Int) then ((some (x5_1.drop ((wrap64 (t196 + t237)) : Int).toNat : List Int)).bind fun y254 => (if t251.length + y254.length < 35184372088832 then (laws_FnGapScript.j1 k1 (t251 ++ y254) x6_1 (x189000_1.length : Int) t196 t184 t238 t239 bt240.1 bt240.2.1 bt240.2.2.1) else (none))) else (none)) else (none))) else (none)) else (none)) else (some false))) = some r := H
       have A74 := Aside0.mk A740
       clear A740
       replace H := Option.bind_eq_some_iff.mp H
       obtain ⟨⟨t240, t243, t244, t245⟩, A750, H⟩ := H
       replace H : (if t245 = 0 then (if 0 ≤ t196 then (if t196 ≤ (x5_1.length : Int) then ((laws_cpText.f (x5_1.take (t196 : Int).toNat)).bind fun t251 => (if 0 ≤ (wrap64 (t196 + t237)) then (if (wrap64 (t196 + t237)) ≤ (x5_1.length : Int) then ((some (x5_1.drop ((wrap64 (t196 + t237)) : Int).toNat : List Int)).bind fun y254 => (if t251.length + y254.length < 35184372088832 then (laws_FnGapScript.j1 k1 (t251 ++ y254) x6_1 (x189000_1.length : Int) t196 t184 t238 t239 t240 t243 t244) else (none))) else (none)) else (none))) else (none)) else (none)) else (some false)) = some r := H
       have A75 := Aside0.mk A750
       clear A750
       by_cases c76 : t245 = 0
       ·rw [if_pos c76] at H
        have c76b0 : (t245 == 0) = true := beq_iff_eq.mpr c76
        have c76b1 : (t245 != 0) = false := bne_eq_false_iff_eq.mpr c76
        clear c76
        by_cases c77 : 0 ≤ t196
        ·rw [if_pos c77] at H
         have c77b0 := eq_true c77
         have c77b1 : decide (0 ≤ t196) = true := decide_eq_true c77
         clear c77
         by_cases c78 : t196 ≤ (x5_1.length : Int)
         ·rw [if_pos c78] at H
          have c78b0 := eq_true c78
          have c78b1 : decide (t196 ≤ (x5_1.length : Int)) = true := decide_eq_true c78
          clear c78
          obtain ⟨y247, hy247⟩ : ∃ y_ : List Int, y_ = (x5_1.take (t196 : Int).toNat) := ⟨_, rfl⟩
          replace H : ((laws_cpText.f y247).bind fun t251 => (if 0 ≤ (wrap64 (t196 + t237)) then (if (wrap64 (t196 + t237)) ≤ (x5_1.length : Int) then ((some (x5_1.drop ((wrap64 (t196 + t237)) : Int).toNat : List Int)).bind fun y254 => (if t251.length + y254.length < 35184372088832 then (laws_FnGapScript.j1 k1 (t251 ++ y254) x6_1 (x189000_1.length : Int) t196 t184 t238 t239 t240 t243 t244) else (none))) else (none)) else (none))) = some r := by first | (rw [hy247]; with_reducible exact H) | (have H2_ := (Option.bind_some _ _).symm.trans H; rw [hy247]; with_reducible exact H2_) | (have H2_ := (Option.bind_some _ _).symm.trans H; with_reducible exact H2_) | with_reducible exact H | (rw [hy247]; exact H) | exact H
          have Ny247 := Aside0.mk hy247
          clear hy247
          replace H := Option.bind_eq_some_iff.mp H
          obtain ⟨t251, A790, H⟩ := H
          replace H : (if 0 ≤ (wrap64 (t196 + t237)) then (if (wrap64 (t196 + t237)) ≤ (x5_1.length : Int) then ((some (x5_1.drop ((wrap64 (t196 + t237)) : Int).toNat : List Int)).bind fun y254 => (if t251.length + y254.length < 35184372088832 then (laws_FnGapScript.j1 k1 (t251 ++ y254) x6_1 (x189000_1.length : Int) t196 t184 t238 t239 t240 t243 t244) else (none))) else (none)) else (none)) = some r := H
          have A79 := Aside0.mk A790
          clear A790
          obtain ⟨ji80, hji80⟩ : ∃ j_ : Int, (wrap64 (t196 + t237)) = j_ := ⟨_, rfl⟩
          replace H : (if 0 ≤ (ji80) then (if (ji80) ≤ (x5_1.length : Int) then ((some (x5_1.drop ((ji80) : Int).toNat : List Int)).bind fun y254 => (if t251.length + y254.length < 35184372088832 then (laws_FnGapScript.j1 k1 (t251 ++ y254) x6_1 (x189000_1.length : Int) t196 t184 t238 t239 t240 t243 t244) else (none))) else (none)) else (none)) = some r := by first | (rw [hji80] at H; exact H) | (simp only [hji80] at H ⊢; exact H)
          (try rw [hji80] at A74)
          (try rw [hji80] at A75)
          (try rw [hji80] at A79)
          have hji80w : (IntKind.i64.wrap (t196 + t237)) = ji80 := (i64_w _).trans hji80
          by_cases c81 : 0 ≤ (ji80)
          ·rw [if_pos c81] at H
           have c81b0 := eq_true c81
           have c81b1 : decide (0 ≤ (ji80)) = true := decide_eq_true c81
           clear c81
           by_cases c82 : (ji80) ≤ (x5_1.length : Int)
           ·rw [if_pos c82] at H
            have c82b0 := eq_true c82
            have c82b1 : decide ((ji80) ≤ (x5_1.length : Int)) = true := decide_eq_true c82
            clear c82
            obtain ⟨y254, hy254⟩ : ∃ y_ : List Int, y_ = (x5_1.drop ((ji80) : Int).toNat) := ⟨_, rfl⟩
            replace H : (if t251.length + y254.length < 35184372088832 then (laws_FnGapScript.j1 k1 (t251 ++ y254) x6_1 (x189000_1.length : Int) t196 t184 t238 t239 t240 t243 t244) else (none)) = some r := by first | (rw [hy254]; with_reducible exact H) | (have H2_ := (Option.bind_some _ _).symm.trans H; rw [hy254]; with_reducible exact H2_) | (have H2_ := (Option.bind_some _ _).symm.trans H; with_reducible exact H2_) | with_reducible exact H | (rw [hy254]; exact H) | exact H
            have Ny254 := Aside0.mk hy254
            clear hy254
            by_cases c83 : t251.length + y254.length < 35184372088832
            ·rw [if_pos c83] at H
             have LMc83 := Aside0.mk c83
             clear c83
             obtain ⟨y258, hy258⟩ : ∃ y_ : List Int, y_ = (t251 ++ y254) := ⟨_, rfl⟩
             replace H : (laws_FnGapScript.j1 k1 y258 x6_1 (x189000_1.length : Int) t196 t184 t238 t239 t240 t243 t244) = some r := by first | (rw [hy258]; with_reducible exact H) | (have H2_ := (Option.bind_some _ _).symm.trans H; rw [hy258]; with_reducible exact H2_) | (have H2_ := (Option.bind_some _ _).symm.trans H; with_reducible exact H2_) | with_reducible exact H | (rw [hy258]; exact H) | exact H
             have Ny258 := Aside0.mk hy258
             clear hy258
             have H' := Aside0.mk H
             clear H
             go_wp2_with (first | ((with_reducible refine gate_callee (f := 26) rfl ?_); refine goesL_ (some 88) rfl rfl Tryd.func26 (by kernel_rfl) rfl #[.pointer (some ⟨g187, 0, none⟩), .int .i64 (wrap64 ((wrap64 ((x5_1.length : Int) - t196)) + 1))] rfl (by (try simp only [List.map_toArray, List.map_cons, List.map_nil]); first | done | rfl | (simp only [List.length_drop, List.length_take]; rfl)) ?_; (with_reducible refine (spec_l1Src_N.calls g187 t184 t200 t201 (wrap64 ((wrap64 ((x5_1.length : Int) - t196)) + 1)) t237 t238 t239 w _ ?side1 ?side2 A74.out).mono ?_); (case side1 => repeat (first | (with_reducible first | exact HI187.out | apply IsS121.alloc | apply IsS121.drewN | apply IsS121.drew | apply IsS121.set_1 | apply IsS121.set_2 | refine IsS121.far ?_ NB187_188.out _) | exact HI187.out)); (case side2 => repeat (first | (with_reducible first | exact HB.out | apply below_alloc | apply pw_below_drewN | apply below_drew1 | refine below_set ?_ (IsS121.ge HI187.out) | refine below_set ?_ GE188.out) | exact HB.out)); rintro e w84 ⟨rfl, hi, hb, hk⟩; refine ⟨_, rfl, ?_⟩; have n0_ := Aside0.mk (Kd.R_mono (Kd.R_keep (IsS121.apart (isD HI187 (f := t200) (f' := t201)) (rD HO_5.out) (by decide)) hk (fun _ h => h.2)) (fun _ h => h.1)); have n1_ := Aside0.mk (Kd.R_mono (Kd.R_keep (IsS121.apart (isD HI187 (f := t200) (f' := t201)) (rD HO_189000.out) (by decide)) hk (fun _ h => h.2)) (fun _ h => h.1)); have n2_ := Aside0.mk (KeepBut.blk hk (g' := gb188) (o := .cells #[.slice Ao19 x189000_1.length co19, .int .i64 x189001_1, .int .i64 x189002_1] 28 (0, 0)) (bkD BK188) NB188_187.out (by simp)); have n3_ := Aside0.mk (hb); have n4_ := Aside0.mk (hi); clear HO_5 HO_189000 BK188 HB HI187; have HO_5 := n0_; have HO_189000 := n1_; have BK188 := n2_; have HB := n3_; have HI187 := n4_; clear n0_ n1_ n2_ n3_ n4_; (try clear hb); (try clear hb2); (try clear hk); (try clear hi); have hnb85 := NB188_187.out; have hnc85 := NB187_188.out; have hcz86_0 : w84.cell? ⟨gb188, 0, none⟩ = some (.slice Ao19 x189000_1.length co19) := (blk_cell BK188.out 0).trans rfl; have hcz86_1 : w84.cell? ⟨gb188, 1, none⟩ = some (.int .i64 x189001_1) := (blk_cell BK188.out 1).trans rfl; have hcz86_2 : w84.cell? ⟨gb188, 2, none⟩ = some (.int .i64 x189002_1) := (blk_cell BK188.out 2).trans rfl; have hfz86_0 := blk_frozen BK188.out 0; have hfz86_1 := blk_frozen BK188.out 1; have hfz86_2 := blk_frozen BK188.out 2) | ((with_reducible refine gate_callee (f := 20) rfl ?_); refine goesL_ (some 94) rfl rfl Tryd.func20 (by kernel_rfl) rfl #[.agg #[.slice Ao19 x189000_1.length co19, .int .i64 x189001_1, .int .i64 x189002_1], .int .i64 t196, .int .i64 ji80] rfl (by (try simp only [List.map_toArray, List.map_cons, List.map_nil]); first | done | (simp only [hji80]; rfl) | rfl | (simp only [List.length_drop, List.length_take]; rfl)) ?_; (with_reducible refine (impl_GapDelete.calls _ _ x189000_1 x189001_1 x189002_1 t196 ji80 t240 t243 t244 t245 _ ?side1 ?side2 ?side3 A75.out).mono ?_); (case side1 => repeat (first | exact (Kd.R_reads' HO_189000.out).2.2 | (with_reducible refine Kd.C_alloc ?_ _) | (with_reducible refine Kd.C_drewN ?_ _) | (with_reducible refine Kd.C_drew ?_))); (case side2 => exact (Kd.R_reads' HO_189000.out).2.1); (case side3 => exact HG.below hgG_ (hbS HB (IsS121.ge HI187.out))); rintro e w87 ⟨v241, rfl, ho0, hb⟩; refine ⟨_, rfl, ?_⟩; have n0_ := Aside0.mk (Kd.R_elder' (rD HO_5.out) (Kd.R_base ho0) hb); have n1_ := Aside0.mk (Kd.R_elder' (rD HO_189000.out) (Kd.R_base ho0) hb); have n2_ := Aside0.mk (Kd.R_lower (Kd.R_new' (Kd.R_new' ho0 (Kd.R_lt (rD HO_5.out))) (Kd.R_lt (rD HO_189000.out))) (below_size (hbS HB (IsS121.ge HI187.out)))); have n3_ := Aside0.mk (blk_below (bkD BK188) hb); have n4_ := Aside0.mk (IsS121.below (isD HI187) hb); have n5_ := Aside0.mk (below_step (hbS HB (IsS121.ge HI187.out)) hb); clear HO_5 HO_189000 BK188 HI187 HB; have HO_5 := n0_; have HO_189000 := n1_; have HO242 := n2_; have BK188 := n3_; have HI187 := n4_; have HB := n5_; clear n0_ n1_ n2_ n3_ n4_ n5_; (try clear hb); (try clear hb2); (try clear hk); (try clear hi); (try clear ho0)) | ((with_reducible refine gate_dst (N := 15) rfl ?_); (try (refine gate_guard (by rfl) ?_; dsimp only)); refine box_event ?hg (N := 15) ?hd (cs := #[.slice none 0 0, .int .i64 0, .int .i64 0]) (t := 28) ?hr ?_; (case hd => rfl); (case hg => rfl); (case hr => first | (go_simp; done) | (go_simp; rfl)); intro gb246 hg w88 hbox hb; have n0_ := Aside0.mk (Kd.R_below (rD HO_5.out) hb); have n1_ := Aside0.mk (Kd.R_below (rD HO_189000.out) hb); have n2_ := Aside0.mk (Kd.R_below (rD HO242.out) hb); have n3_ := Aside0.mk (blk_below (bkD BK188) hb); have n4_ := Aside0.mk (IsS121.below (isD HI187) hb); have n5_ := Aside0.mk (below_step (hbS HB (IsS121.ge HI187.out)) hb); have n6_ := Aside0.mk (hbox); have n7_ := Aside0.mk ((by rw [hg]; exact (below_size (hbS HB (IsS121.ge HI187.out))) : w.heap.size ≤ gb246)); have n8_ := n7_; have n9_ := Aside0.mk ((by rw [hg]; exact Nat.ne_of_lt (blk_lt (bkD BK188)) : gb188 ≠ gb246)); have n10_ := Aside0.mk ((by rw [hg]; exact Nat.ne_of_gt (blk_lt (bkD BK188)) : gb246 ≠ gb188)); have n11_ := Aside0.mk ((by rw [hg]; exact Nat.ne_of_lt (IsS121.lt (isD HI187 (f := t238) (f' := t239))) : g187 ≠ gb246)); have n12_ := Aside0.mk ((by rw [hg]; exact Nat.ne_of_gt (IsS121.lt (isD HI187 (f := t238) (f' := t239))) : gb246 ≠ g187)); clear HO_5 HO_189000 HO242 BK188 HI187 HB; have HO_5 := n0_; have HO_189000 := n1_; have HO242 := n2_; have BK188 := n3_; have HI187 := n4_; have HB := n5_; have BK246 := n6_; have GW246 := n7_; have GE246 := n8_; have NB188_246 := n9_; have NB246_188 := n10_; have NB187_246 := n11_; have NB246_187 := n12_; clear n0_ n1_ n2_ n3_ n4_ n5_ n6_ n7_ n8_ n9_ n10_ n11_ n12_ hb hbox hg; obtain ⟨Ao89, co89, eo89⟩ := Kd.R_slice HO242.out; subst eo89; have hnb90 := NB246_188.out; have hnc90 := NB188_246.out; have hnb91 := NB246_187.out; have hnc91 := NB187_246.out; have hcz92_0 : w88.cell? ⟨gb246, 0, none⟩ = some (.slice none 0 0) := (blk_cell BK246.out 0).trans rfl; have hcz92_1 : w88.cell? ⟨gb246, 1, none⟩ = some (.int .i64 0) := (blk_cell BK246.out 1).trans rfl; have hcz92_2 : w88.cell? ⟨gb246, 2, none⟩ = some (.int .i64 0) := (blk_cell BK246.out 2).trans rfl; have hfz92_0 := blk_frozen BK246.out 0; have hfz92_1 := blk_frozen BK246.out 1; have hfz92_2 := blk_frozen BK246.out 2) | ((with_reducible refine gate_store (t := 28) (p := 15) rfl ?_); refine store_event (t := 28) (p := 15) (v := ?vo_w93) (w1 := (((w88.setCell ⟨gb246, 0, none⟩ (.slice Ao89 t240.length co89)).setCell ⟨gb246, 1, none⟩ (.int .i64 t243)).setCell ⟨gb246, 2, none⟩ (.int .i64 t244))) ?hg ?ho ?hn ?hr ?_; (case ho => rfl); (case hg => rfl); (case hn => rfl); (case hr => first | (go_simp; done) | (go_simp; rfl)); intro w93 hw; have n0_ : Aside0 (Kd.R (Kd.int .i32) 21 w93 w.heap.size (fun k_ => some k_ ≠ (.slice Ao19 x189000_1.length co19 : Value).ownBlock ∧ some k_ ≠ (.slice Ao89 t240.length co89 : Value).ownBlock) (.slice Ao20 x5_1.length co20) x5_1) := ⟨(by rw [hw]; exact (rD (Kd.R_mono (Kd.R_far (p := ⟨gb246, 2, none⟩) (Kd.R_far (p := ⟨gb246, 1, none⟩) (Kd.R_far (p := ⟨gb246, 0, none⟩) (Kd.R_types HO_5.out BK246.out (by decide)) (fun _ hk => hk.2) (.slice Ao89 t240.length co89)) (fun _ hk => hk.2) (.int .i64 t243)) (fun _ hk => hk.2) (.int .i64 t244)) (fun _ hk => ⟨hk.1.1, hk.1.2⟩))))⟩; have n1_ : Aside0 (Kd.R (Kd.int .i32) 21 w93 w.heap.size (fun k_ => some k_ ≠ (.slice Ao20 x5_1.length co20 : Value).ownBlock ∧ some k_ ≠ (.slice Ao89 t240.length co89 : Value).ownBlock) (.slice Ao19 x189000_1.length co19) x189000_1) := ⟨(by rw [hw]; exact (rD (Kd.R_mono (Kd.R_far (p := ⟨gb246, 2, none⟩) (Kd.R_far (p := ⟨gb246, 1, none⟩) (Kd.R_far (p := ⟨gb246, 0, none⟩) (Kd.R_types HO_189000.out BK246.out (by decide)) (fun _ hk => hk.2) (.slice Ao89 t240.length co89)) (fun _ hk => hk.2) (.int .i64 t243)) (fun _ hk => hk.2) (.int .i64 t244)) (fun _ hk => ⟨hk.1.1, hk.1.2⟩))))⟩; have n2_ : Aside0 (Kd.R (Kd.int .i32) 21 w93 w.heap.size (fun k_ => some k_ ≠ (.slice Ao20 x5_1.length co20 : Value).ownBlock ∧ some k_ ≠ (.slice Ao19 x189000_1.length co19 : Value).ownBlock) (.slice Ao89 t240.length co89) t240) := ⟨(by rw [hw]; exact (rD (Kd.R_mono (Kd.R_far (p := ⟨gb246, 2, none⟩) (Kd.R_far (p := ⟨gb246, 1, none⟩) (Kd.R_far (p := ⟨gb246, 0, none⟩) (Kd.R_types HO242.out BK246.out (by decide)) (fun _ hk => hk.2) (.slice Ao89 t240.length co89)) (fun _ hk => hk.2) (.int .i64 t243)) (fun _ hk => hk.2) (.int .i64 t244)) (fun _ hk => ⟨hk.1.1.2, hk.1.2⟩))))⟩; have n3_ : Aside0 (w93.heap[gb188]? = some (.cells #[.slice Ao19 x189000_1.length co19, .int .i64 x189001_1, .int .i64 x189002_1] 28 (0, 0))) := ⟨(by rw [hw]; exact (by (with_reducible repeat (first | refine blk_drewN ?_ _ | refine blk_drew ?_ | refine blk_alloc ?_ _)); refine blk_far ?_ NB188_246.out _; (with_reducible repeat (first | refine blk_drewN ?_ _ | refine blk_drew ?_ | refine blk_alloc ?_ _)); refine blk_far ?_ NB188_246.out _; (with_reducible repeat (first | refine blk_drewN ?_ _ | refine blk_drew ?_ | refine blk_alloc ?_ _)); refine blk_far ?_ NB188_246.out _; (with_reducible repeat (first | refine blk_drewN ?_ _ | refine blk_drew ?_ | refine blk_alloc ?_ _)); exact BK188.out))⟩; have n4_ : Aside0 (w93.heap[gb246]? = some (.cells #[.slice Ao89 t240.length co89, .int .i64 t243, .int .i64 t244] 28 (0, 0))) := ⟨(by rw [hw]; exact (by (with_reducible repeat (first | refine blk_drewN ?_ _ | refine blk_drew ?_ | refine blk_alloc ?_ _)); refine blk_put (cs := #[.slice Ao89 t240.length co89, .int .i64 t243, .int .i64 0]) ?_ 2 _ rfl; (with_reducible repeat (first | refine blk_drewN ?_ _ | refine blk_drew ?_ | refine blk_alloc ?_ _)); refine blk_put (cs := #[.slice Ao89 t240.length co89, .int .i64 0, .int .i64 0]) ?_ 1 _ rfl; (with_reducible repeat (first | refine blk_drewN ?_ _ | refine blk_drew ?_ | refine blk_alloc ?_ _)); refine blk_put (cs := #[.slice none 0 0, .int .i64 0, .int .i64 0]) ?_ 0 _ rfl; (with_reducible repeat (first | refine blk_drewN ?_ _ | refine blk_drew ?_ | refine blk_alloc ?_ _)); exact BK246.out))⟩; have n5_ : Aside0 (IsS121 w w93 g187 t184 t238 t239) := ⟨(by rw [hw]; exact (isD HI187))⟩; have n6_ : Aside0 (Below w.heap.size w w93) := ⟨(by rw [hw]; exact (hbS HB (IsS121.ge HI187.out)))⟩; clear hw HO_5 HO_189000 HO242 BK188 BK246 HI187 HB; have HO_5 := n0_; have HO_189000 := n1_; have HO242 := n2_; have BK188 := n3_; have BK246 := n4_; have HI187 := n5_; have HB := n6_; clear n0_ n1_ n2_ n3_ n4_ n5_ n6_; have hcz94_0 : w93.cell? ⟨gb246, 0, none⟩ = some (.slice Ao89 t240.length co89) := (blk_cell BK246.out 0).trans rfl; have hcz94_1 : w93.cell? ⟨gb246, 1, none⟩ = some (.int .i64 t243) := (blk_cell BK246.out 1).trans rfl; have hcz94_2 : w93.cell? ⟨gb246, 2, none⟩ = some (.int .i64 t244) := (blk_cell BK246.out 2).trans rfl; have hfz94_0 := blk_frozen BK246.out 0; have hfz94_1 := blk_frozen BK246.out 1; have hfz94_2 := blk_frozen BK246.out 2; have hcz95_0 : w93.cell? ⟨gb188, 0, none⟩ = some (.slice Ao19 x189000_1.length co19) := (blk_cell BK188.out 0).trans rfl; have hcz95_1 : w93.cell? ⟨gb188, 1, none⟩ = some (.int .i64 x189001_1) := (blk_cell BK188.out 1).trans rfl; have hcz95_2 : w93.cell? ⟨gb188, 2, none⟩ = some (.int .i64 x189002_1) := (blk_cell BK188.out 2).trans rfl; have hfz95_0 := blk_frozen BK188.out 0; have hfz95_1 := blk_frozen BK188.out 1; have hfz95_2 := blk_frozen BK188.out 2) | ((with_reducible refine gate_store (t := 28) (p := 4) rfl ?_); refine store_event (t := 28) (p := 4) (v := ?vo_w96) (w1 := (((w93.setCell ⟨gb188, 0, none⟩ (.slice Ao89 t240.length co89)).setCell ⟨gb188, 1, none⟩ (.int .i64 t243)).setCell ⟨gb188, 2, none⟩ (.int .i64 t244))) ?hg ?ho ?hn ?hr ?_; (case ho => rfl); (case hg => rfl); (case hn => rfl); (case hr => first | (go_simp; done) | (go_simp; rfl)); intro w96 hw; have n0_ : Aside0 (Kd.R (Kd.int .i32) 21 w96 w.heap.size (fun k_ => some k_ ≠ (.slice Ao19 x189000_1.length co19 : Value).ownBlock ∧ some k_ ≠ (.slice Ao89 t240.length co89 : Value).ownBlock) (.slice Ao20 x5_1.length co20) x5_1) := ⟨(by rw [hw]; exact (rD (Kd.R_mono (Kd.R_far (p := ⟨gb188, 2, none⟩) (Kd.R_far (p := ⟨gb188, 1, none⟩) (Kd.R_far (p := ⟨gb188, 0, none⟩) (Kd.R_types HO_5.out BK188.out (by decide)) (fun _ hk => hk.2) (.slice Ao89 t240.length co89)) (fun _ hk => hk.2) (.int .i64 t243)) (fun _ hk => hk.2) (.int .i64 t244)) (fun _ hk => ⟨hk.1.1, hk.1.2⟩))))⟩; have n1_ : Aside0 (Kd.R (Kd.int .i32) 21 w96 w.heap.size (fun k_ => some k_ ≠ (.slice Ao20 x5_1.length co20 : Value).ownBlock ∧ some k_ ≠ (.slice Ao89 t240.length co89 : Value).ownBlock) (.slice Ao19 x189000_1.length co19) x189000_1) := ⟨(by rw [hw]; exact (rD (Kd.R_mono (Kd.R_far (p := ⟨gb188, 2, none⟩) (Kd.R_far (p := ⟨gb188, 1, none⟩) (Kd.R_far (p := ⟨gb188, 0, none⟩) (Kd.R_types HO_189000.out BK188.out (by decide)) (fun _ hk => hk.2) (.slice Ao89 t240.length co89)) (fun _ hk => hk.2) (.int .i64 t243)) (fun _ hk => hk.2) (.int .i64 t244)) (fun _ hk => ⟨hk.1.1, hk.1.2⟩))))⟩; have n2_ : Aside0 (Kd.R (Kd.int .i32) 21 w96 w.heap.size (fun k_ => some k_ ≠ (.slice Ao20 x5_1.length co20 : Value).ownBlock ∧ some k_ ≠ (.slice Ao19 x189000_1.length co19 : Value).ownBlock) (.slice Ao89 t240.length co89) t240) := ⟨(by rw [hw]; exact (rD (Kd.R_mono (Kd.R_far (p := ⟨gb188, 2, none⟩) (Kd.R_far (p := ⟨gb188, 1, none⟩) (Kd.R_far (p := ⟨gb188, 0, none⟩) (Kd.R_types HO242.out BK188.out (by decide)) (fun _ hk => hk.2) (.slice Ao89 t240.length co89)) (fun _ hk => hk.2) (.int .i64 t243)) (fun _ hk => hk.2) (.int .i64 t244)) (fun _ hk => ⟨hk.1.1, hk.1.2⟩))))⟩; have n3_ : Aside0 (w96.heap[gb188]? = some (.cells #[.slice Ao89 t240.length co89, .int .i64 t243, .int .i64 t244] 28 (0, 0))) := ⟨(by rw [hw]; exact (by (with_reducible repeat (first | refine blk_drewN ?_ _ | refine blk_drew ?_ | refine blk_alloc ?_ _)); refine blk_put (cs := #[.slice Ao89 t240.length co89, .int .i64 t243, .int .i64 x189002_1]) ?_ 2 _ rfl; (with_reducible repeat (first | refine blk_drewN ?_ _ | refine blk_drew ?_ | refine blk_alloc ?_ _)); refine blk_put (cs := #[.slice Ao89 t240.length co89, .int .i64 x189001_1, .int .i64 x189002_1]) ?_ 1 _ rfl; (with_reducible repeat (first | refine blk_drewN ?_ _ | refine blk_drew ?_ | refine blk_alloc ?_ _)); refine blk_put (cs := #[.slice Ao19 x189000_1.length co19, .int .i64 x189001_1, .int .i64 x189002_1]) ?_ 0 _ rfl; (with_reducible repeat (first | refine blk_drewN ?_ _ | refine blk_drew ?_ | refine blk_alloc ?_ _)); exact BK188.out))⟩; have n4_ : Aside0 (w96.heap[gb246]? = some (.cells #[.slice Ao89 t240.length co89, .int .i64 t243, .int .i64 t244] 28 (0, 0))) := ⟨(by rw [hw]; exact (by (with_reducible repeat (first | refine blk_drewN ?_ _ | refine blk_drew ?_ | refine blk_alloc ?_ _)); refine blk_far ?_ NB246_188.out _; (with_reducible repeat (first | refine blk_drewN ?_ _ | refine blk_drew ?_ | refine blk_alloc ?_ _)); refine blk_far ?_ NB246_188.out _; (with_reducible repeat (first | refine blk_drewN ?_ _ | refine blk_drew ?_ | refine blk_alloc ?_ _)); refine blk_far ?_ NB246_188.out _; (with_reducible repeat (first | refine blk_drewN ?_ _ | refine blk_drew ?_ | refine blk_alloc ?_ _)); exact BK246.out))⟩; have n5_ : Aside0 (IsS121 w w96 g187 t184 t238 t239) := ⟨(by rw [hw]; exact (isD HI187))⟩; have n6_ : Aside0 (Below w.heap.size w w96) := ⟨(by rw [hw]; exact (hbS HB (IsS121.ge HI187.out)))⟩; clear hw HO_5 HO_189000 HO242 BK188 BK246 HI187 HB; have HO_5 := n0_; have HO_189000 := n1_; have HO242 := n2_; have BK188 := n3_; have BK246 := n4_; have HI187 := n5_; have HB := n6_; clear n0_ n1_ n2_ n3_ n4_ n5_ n6_; have q97 : (t196 : Int) ≤ ((x5_1.length : Int) : Int) := of_decide_eq_true (by first | (with_reducible assumption) | assumption); obtain ⟨i097, hi097, _, hsz97, _⟩ := info_parts info21; have hroom97 : x5_1.length ≤ co20 := (Kd.R_reads' HO_5.out).2.1; have hC97 : Kd.C (Kd.int .i32) _ Ao20 x5_1.length x5_1 := (Kd.R_reads' HO_5.out).2.2; have hcut97 := cut_to (P := Tryd.prog) 22 21 .i64 Tryd.underlying22 hi097 Ao20 x5_1.length co20 t196 (of_decide_eq_true (by first | (with_reducible assumption) | assumption)) q97 hroom97; have hr97 := Kd.C_take (m := (t196 : Int).toNat) hC97 (by omega); have hy97 : y247.length = (t196 : Int).toNat := (by rw [Ny247.out, List.length_take]; omega); rw [← Ny247.out] at hr97; rw [← hy97] at hcut97; have HR250 := Aside0.mk hr97; have HC250 := Aside0.mk (show y247.length ≤ co20 from by omega); clear hr97 hC97 hroom97 hi097 hsz97; have KY97 := Aside0.mk hy97; clear hy97; have KL97 := Aside0.mk (show (t196 : Int).toNat ≤ x5_1.length from by omega); replace q97 := eq_true q97) | ((with_reducible refine gate_callee (f := 29) rfl ?_); refine goesL_ (some 103) rfl rfl Tryd.func29 (by kernel_rfl) rfl #[.slice Ao20 y247.length co20] rfl (by (try simp only [List.map_toArray, List.map_cons, List.map_nil]); first | done | rfl | (simp only [List.length_drop, List.length_take]; rfl)) ?_; (with_reducible refine (laws_cpText.calls _ _ y247 t251 _ ?side1 ?side2 A79.out).mono ?_); (case side1 => repeat (first | exact (by repeat (first | (with_reducible exact HR250.out) | (with_reducible refine Kd.C_alloc ?_ _) | (with_reducible refine Kd.C_drewN ?_ _) | (with_reducible refine Kd.C_drew ?_) | exact HR250.out)) | (with_reducible refine Kd.C_alloc ?_ _) | (with_reducible refine Kd.C_drewN ?_ _) | (with_reducible refine Kd.C_drew ?_))); (case side2 => exact HC250.out); rintro e w98 ⟨v252, rfl, ho0, hb⟩; refine ⟨_, rfl, ?_⟩; have n0_ := Aside0.mk (Kd.R_elder' (rD HO_5.out) (Kd.R_base ho0) hb); have n1_ := Aside0.mk (Kd.R_elder' (rD HO_189000.out) (Kd.R_base ho0) hb); have n2_ := Aside0.mk (Kd.R_elder' (rD HO242.out) (Kd.R_base ho0) hb); have n3_ := Aside0.mk (Kd.R_lower (Kd.R_new' (Kd.R_new' (Kd.R_new' ho0 (Kd.R_lt (rD HO_5.out))) (Kd.R_lt (rD HO_189000.out))) (Kd.R_lt (rD HO242.out))) (below_size (hbS HB (IsS121.ge HI187.out)))); have n4_ := Aside0.mk (blk_below (bkD BK188) hb); have n5_ := Aside0.mk (IsS121.below (isD HI187) hb); have n6_ := Aside0.mk (blk_below (bkD BK246) hb); have n7_ := Aside0.mk (Kd.C_below (by repeat (first | (with_reducible exact HR250.out) | (with_reducible refine Kd.C_alloc ?_ _) | (with_reducible refine Kd.C_drewN ?_ _) | (with_reducible refine Kd.C_drew ?_) | exact HR250.out)) hb); have n8_ := Aside0.mk (below_step (hbS HB (IsS121.ge HI187.out)) hb); clear HO_5 HO_189000 HO242 BK188 HI187 BK246 HR250 HB; have HO_5 := n0_; have HO_189000 := n1_; have HO242 := n2_; have HO253 := n3_; have BK188 := n4_; have HI187 := n5_; have BK246 := n6_; have HR250 := n7_; have HB := n8_; clear n0_ n1_ n2_ n3_ n4_ n5_ n6_ n7_ n8_; (try clear hb); (try clear hb2); (try clear hk); (try clear hi); (try clear ho0); have q99 : ((ji80) : Int) ≤ ((x5_1.length : Int) : Int) := of_decide_eq_true (by first | (with_reducible assumption) | assumption); obtain ⟨i099, hi099, _, hsz99, _⟩ := info_parts info21; have hroom99 : x5_1.length ≤ co20 := (Kd.R_reads' HO_5.out).2.1; have hC99 : Kd.C (Kd.int .i32) _ Ao20 x5_1.length x5_1 := (Kd.R_reads' HO_5.out).2.2; have q099 : (0 : Int) ≤ ((ji80) : Int) := of_decide_eq_true (by first | (with_reducible assumption) | assumption); have hcut99 := cut_from (P := Tryd.prog) 22 21 .i64 Tryd.underlying22 hi099 1 hsz99 Ao20 x5_1.length co20 (ji80) q099 q99; have hr99 := Kd.C_drop (m := ((ji80) : Int).toNat) (c := co20) hC99 (by omega) hroom99; obtain ⟨A99, hA99⟩ : ∃ A1, A1 = (if co20 = ((ji80) : Int).toNat then Ao20 else (Ao20 : Option Addr).map (·.add (((ji80) : Int).toNat * 1))) := ⟨_, rfl⟩; obtain ⟨c99, hc99⟩ : ∃ c1, c1 = co20 - ((ji80) : Int).toNat := ⟨_, rfl⟩; have hy99 : y254.length = x5_1.length - ((ji80) : Int).toNat := (by rw [Ny254.out, List.length_drop] <;> omega); rw [show (x5_1).drop ((ji80) : Int).toNat = y254 from Ny254.out.symm] at hr99; replace hr99 : Kd.C (Kd.int .i32) _ A99 y254.length y254 := (by rw [hA99]; exact hr99); rw [← hy99, ← hA99, ← hc99] at hcut99; have HR257 := Aside0.mk hr99; have HC257 := Aside0.mk (show y254.length ≤ c99 from by rw [hy99, hc99]; exact Nat.sub_le_sub_right hroom99 _); clear hr99 hC99 hroom99 hi099 hsz99 hc99; have KY99 := Aside0.mk hy99; have KA99 := Aside0.mk hA99; clear hy99 hA99; have KL99 := Aside0.mk (show ((ji80) : Int).toNat ≤ x5_1.length from by omega); replace q99 := eq_true q99) | ((with_reducible refine gate_builtin (b := .append) (xs := #[.tmp 104, .tmp 107]) rfl ?_); (try (refine gate_guard (by rfl) ?_; dsimp only)); at_builtin; refine Kd.R_append_rows (Kd.int .i32) (w0 := w) w.heap.size rfl (.tmp 104) (.tmp 107) 22 21 (.int .i32 0) 4 rfl Tryd.underlying22 info21 rfl (by decide) (by omega) v252 t251 y254 _ _ _ (fun k_ => some k_ ≠ (.slice Ao20 x5_1.length co20 : Value).ownBlock ∧ some k_ ≠ (.slice Ao19 x189000_1.length co19 : Value).ownBlock ∧ some k_ ≠ (.slice Ao89 t240.length co89 : Value).ownBlock) (fun _ => False) rfl rfl ?aO ?aR (fun _ _ h => h) (fun _ h => h.elim) ?aF ?aB ?aS ?aL ?_; (case aR => repeat (first | exact (by repeat (first | (with_reducible exact HR257.out) | (with_reducible refine Kd.C_alloc ?_ _) | (with_reducible refine Kd.C_drewN ?_ _) | (with_reducible refine Kd.C_drew ?_) | exact HR257.out)) | (with_reducible refine Kd.C_alloc ?_ _) | (with_reducible refine Kd.C_drewN ?_ _) | (with_reducible refine Kd.C_drew ?_))); (case aB => exact (hbS HB (IsS121.ge HI187.out))); (case aF => exact (fun k_ hk => ⟨Kd.fresh' (Kd.R_lt (rD HO_5.out)) k_ hk, Kd.fresh' (Kd.R_lt (rD HO_189000.out)) k_ hk, Kd.fresh' (Kd.R_lt (rD HO242.out)) k_ hk⟩)); (case aO => exact (rD (Kd.R_mono HO253.out (fun _ hk => ⟨hk.1.1.2, ⟨hk.1.2, hk.2⟩⟩)))); (case aS => exact (below_size (hbS HB (IsS121.ge HI187.out)))); (case aL => have := LMc83.out; omega); intro v259 w100 ho hb hg hat; rw [← Ny258.out] at ho; have n0_ := Aside0.mk (Kd.R_after (ok := (fun k_ => some k_ ≠ (.slice Ao19 x189000_1.length co19 : Value).ownBlock ∧ some k_ ≠ (.slice Ao89 t240.length co89 : Value).ownBlock)) (rD HO_5.out) hg hat); have n1_ := Aside0.mk (Kd.R_after (ok := (fun k_ => some k_ ≠ (.slice Ao20 x5_1.length co20 : Value).ownBlock ∧ some k_ ≠ (.slice Ao89 t240.length co89 : Value).ownBlock)) (rD HO_189000.out) hg hat); have n2_ := Aside0.mk (blk_grown (g := gb188) (o := .cells #[.slice Ao89 t240.length co89, .int .i64 t243, .int .i64 t244] 28 (0, 0)) (bkD BK188) hg (Kd.R_ne HO253.out BK188.out (by decide))); have n3_ := Aside0.mk (IsS121.grown (isD HI187) hg (IsS121.own_ne HI187.out HO253.out (by decide))); have n4_ := Aside0.mk (Kd.R_after (ok := (fun k_ => some k_ ≠ (.slice Ao20 x5_1.length co20 : Value).ownBlock ∧ some k_ ≠ (.slice Ao19 x189000_1.length co19 : Value).ownBlock)) (rD HO242.out) hg hat); have n5_ := Aside0.mk (blk_grown (g := gb246) (o := .cells #[.slice Ao89 t240.length co89, .int .i64 t243, .int .i64 t244] 28 (0, 0)) (bkD BK246) hg (Kd.R_ne HO253.out BK246.out (by decide))); have n6_ := Aside0.mk (hb); have n7_ := Aside0.mk ((show Kd.C (Kd.int .i32) w100 Ao20 y247.length y247 from by rw [Ny247.out]; exact Kd.C_take (m := (t196 : Int).toNat) ((Kd.R_reads' (Kd.R_after (ok := (fun k_ => some k_ ≠ (.slice Ao19 x189000_1.length co19 : Value).ownBlock ∧ some k_ ≠ (.slice Ao89 t240.length co89 : Value).ownBlock)) (rD HO_5.out) hg hat)).2.2) KL97.out)); have n8_ := Aside0.mk ((show Kd.C (Kd.int .i32) w100 A99 y254.length y254 from by rw [Ny254.out, KA99.out]; exact Kd.C_drop (m := ((ji80) : Int).toNat) (c := co20) ((Kd.R_reads' (Kd.R_after (ok := (fun k_ => some k_ ≠ (.slice Ao19 x189000_1.length co19 : Value).ownBlock ∧ some k_ ≠ (.slice Ao89 t240.length co89 : Value).ownBlock)) (rD HO_5.out) hg hat)).2.2) KL99.out ((Kd.R_reads' (Kd.R_after (ok := (fun k_ => some k_ ≠ (.slice Ao19 x189000_1.length co19 : Value).ownBlock ∧ some k_ ≠ (.slice Ao89 t240.length co89 : Value).ownBlock)) (rD HO_5.out) hg hat)).2.1))); have n9_ := Aside0.mk (ho); clear HO_5 HO_189000 BK188 HI187 HO242 BK246 HB HR250 HR257 HO253; have HO_5 := n0_; have HO_189000 := n1_; have BK188 := n2_; have HI187 := n3_; have HO242 := n4_; have BK246 := n5_; have HB := n6_; have HR250 := n7_; have HR257 := n8_; have HO260 := n9_; clear n0_ n1_ n2_ n3_ n4_ n5_ n6_ n7_ n8_ n9_ ho hb hg hat))
             go_meet
             case rel => exact ⟨_, (y258), (t196), (t238), (t239), (t240), (t243), (t244), (.slice Ao89 t240.length co89), (by first | rfl | (simp; done) | (simp [*]; done)), H', ⟨by have := HK1.out; first | omega | exact Nat.le_refl _⟩, ⟨by (with_reducible repeat (first | apply Kd.R_alloc | apply Kd.R_drewN | apply Kd.R_drew)); exact Kd.R_mono HO260.out (fun _ hk => hk.2.2)⟩, ⟨by (with_reducible repeat (first | apply Kd.R_alloc | apply Kd.R_drewN | apply Kd.R_drew)); first | exact Kd.R_mono HO242.out (fun _ hk => hk.2) | exact Kd.R_mono HO242.out (fun _ hk => own_len_ hk.2)⟩, ⟨by (with_reducible repeat (first | refine blk_drewN ?_ _ | refine blk_drew ?_ | refine blk_alloc ?_ _)); exact BK188.out⟩, ⟨by repeat (first | (with_reducible first | exact HI187.out | apply IsS121.alloc | apply IsS121.drewN | apply IsS121.drew | apply IsS121.set_1 | apply IsS121.set_2 | refine IsS121.far ?_ NB187_188.out _ | refine IsS121.far ?_ NB187_246.out _) | exact HI187.out)⟩, ⟨by repeat (first | (with_reducible first | exact HB.out | apply below_alloc | apply pw_below_drewN | apply below_drew1 | refine below_set ?_ (IsS121.ge HI187.out) | refine below_set ?_ GE188.out | refine below_set ?_ GE246.out) | exact HB.out)⟩⟩
            ·rw [if_neg c83] at H
             exact absurd H (by simp)
           ·rw [if_neg c82] at H
            exact absurd H (by simp)
          ·rw [if_neg c81] at H
           exact absurd H (by simp)
         ·rw [if_neg c78] at H
          exact absurd H (by simp)
        ·rw [if_neg c77] at H
         exact absurd H (by simp)
       ·rw [if_neg c76] at H
        have c76b0 : (t245 == 0) = false := beq_eq_false_iff_ne.mpr c76
        have c76b1 : (t245 != 0) = true := bne_iff_ne.mpr c76
        obtain rfl := Option.some.inj H
        go_wp2_with (first | ((with_reducible refine gate_callee (f := 26) rfl ?_); refine goesL_ (some 88) rfl rfl Tryd.func26 (by kernel_rfl) rfl #[.pointer (some ⟨g187, 0, none⟩), .int .i64 (wrap64 ((wrap64 ((x5_1.length : Int) - t196)) + 1))] rfl (by (try simp only [List.map_toArray, List.map_cons, List.map_nil]); first | done | rfl | (simp only [List.length_drop, List.length_take]; rfl)) ?_; (with_reducible refine (spec_l1Src_N.calls g187 t184 t200 t201 (wrap64 ((wrap64 ((x5_1.length : Int) - t196)) + 1)) t237 t238 t239 w _ ?side1 ?side2 A74.out).mono ?_); (case side1 => repeat (first | (with_reducible first | exact HI187.out | apply IsS121.alloc | apply IsS121.drewN | apply IsS121.drew | apply IsS121.set_1 | apply IsS121.set_2 | refine IsS121.far ?_ NB187_188.out _) | exact HI187.out)); (case side2 => repeat (first | (with_reducible first | exact HB.out | apply below_alloc | apply pw_below_drewN | apply below_drew1 | refine below_set ?_ (IsS121.ge HI187.out) | refine below_set ?_ GE188.out) | exact HB.out)); rintro e w101 ⟨rfl, hi, hb, hk⟩; refine ⟨_, rfl, ?_⟩; have n0_ := Aside0.mk (Kd.R_mono (Kd.R_keep (IsS121.apart (isD HI187 (f := t200) (f' := t201)) (rD HO_5.out) (by decide)) hk (fun _ h => h.2)) (fun _ h => h.1)); have n1_ := Aside0.mk (Kd.R_mono (Kd.R_keep (IsS121.apart (isD HI187 (f := t200) (f' := t201)) (rD HO_189000.out) (by decide)) hk (fun _ h => h.2)) (fun _ h => h.1)); have n2_ := Aside0.mk (KeepBut.blk hk (g' := gb188) (o := .cells #[.slice Ao19 x189000_1.length co19, .int .i64 x189001_1, .int .i64 x189002_1] 28 (0, 0)) (bkD BK188) NB188_187.out (by simp)); have n3_ := Aside0.mk (hb); have n4_ := Aside0.mk (hi); clear HO_5 HO_189000 BK188 HB HI187; have HO_5 := n0_; have HO_189000 := n1_; have BK188 := n2_; have HB := n3_; have HI187 := n4_; clear n0_ n1_ n2_ n3_ n4_; (try clear hb); (try clear hb2); (try clear hk); (try clear hi); have hnb102 := NB188_187.out; have hnc102 := NB187_188.out; have hcz103_0 : w101.cell? ⟨gb188, 0, none⟩ = some (.slice Ao19 x189000_1.length co19) := (blk_cell BK188.out 0).trans rfl; have hcz103_1 : w101.cell? ⟨gb188, 1, none⟩ = some (.int .i64 x189001_1) := (blk_cell BK188.out 1).trans rfl; have hcz103_2 : w101.cell? ⟨gb188, 2, none⟩ = some (.int .i64 x189002_1) := (blk_cell BK188.out 2).trans rfl; have hfz103_0 := blk_frozen BK188.out 0; have hfz103_1 := blk_frozen BK188.out 1; have hfz103_2 := blk_frozen BK188.out 2) | ((with_reducible refine gate_callee (f := 20) rfl ?_); refine goesL_ (some 94) rfl rfl Tryd.func20 (by kernel_rfl) rfl #[.agg #[.slice Ao19 x189000_1.length co19, .int .i64 x189001_1, .int .i64 x189002_1], .int .i64 t196, .int .i64 (wrap64 (t196 + t237))] rfl (by (try simp only [List.map_toArray, List.map_cons, List.map_nil]); first | done | rfl | (simp only [List.length_drop, List.length_take]; rfl)) ?_; (with_reducible refine (impl_GapDelete.calls _ _ x189000_1 x189001_1 x189002_1 t196 (wrap64 (t196 + t237)) t240 t243 t244 t245 _ ?side1 ?side2 ?side3 A75.out).mono ?_); (case side1 => repeat (first | exact (Kd.R_reads' HO_189000.out).2.2 | (with_reducible refine Kd.C_alloc ?_ _) | (with_reducible refine Kd.C_drewN ?_ _) | (with_reducible refine Kd.C_drew ?_))); (case side2 => exact (Kd.R_reads' HO_189000.out).2.1); (case side3 => exact HG.below hgG_ (hbS HB (IsS121.ge HI187.out))); rintro e w104 ⟨v241, rfl, ho0, hb⟩; refine ⟨_, rfl, ?_⟩; have n0_ := Aside0.mk (Kd.R_elder' (rD HO_5.out) (Kd.R_base ho0) hb); have n1_ := Aside0.mk (Kd.R_elder' (rD HO_189000.out) (Kd.R_base ho0) hb); have n2_ := Aside0.mk (Kd.R_lower (Kd.R_new' (Kd.R_new' ho0 (Kd.R_lt (rD HO_5.out))) (Kd.R_lt (rD HO_189000.out))) (below_size (hbS HB (IsS121.ge HI187.out)))); have n3_ := Aside0.mk (blk_below (bkD BK188) hb); have n4_ := Aside0.mk (IsS121.below (isD HI187) hb); have n5_ := Aside0.mk (below_step (hbS HB (IsS121.ge HI187.out)) hb); clear HO_5 HO_189000 BK188 HI187 HB; have HO_5 := n0_; have HO_189000 := n1_; have HO242 := n2_; have BK188 := n3_; have HI187 := n4_; have HB := n5_; clear n0_ n1_ n2_ n3_ n4_ n5_; (try clear hb); (try clear hb2); (try clear hk); (try clear hi); (try clear ho0)) | ((with_reducible refine gate_dst (N := 15) rfl ?_); (try (refine gate_guard (by rfl) ?_; dsimp only)); refine box_event ?hg (N := 15) ?hd (cs := #[.slice none 0 0, .int .i64 0, .int .i64 0]) (t := 28) ?hr ?_; (case hd => rfl); (case hg => rfl); (case hr => first | (go_simp; done) | (go_simp; rfl)); intro gb246 hg w105 hbox hb; have n0_ := Aside0.mk (Kd.R_below (rD HO_5.out) hb); have n1_ := Aside0.mk (Kd.R_below (rD HO_189000.out) hb); have n2_ := Aside0.mk (Kd.R_below (rD HO242.out) hb); have n3_ := Aside0.mk (blk_below (bkD BK188) hb); have n4_ := Aside0.mk (IsS121.below (isD HI187) hb); have n5_ := Aside0.mk (below_step (hbS HB (IsS121.ge HI187.out)) hb); have n6_ := Aside0.mk (hbox); have n7_ := Aside0.mk ((by rw [hg]; exact (below_size (hbS HB (IsS121.ge HI187.out))) : w.heap.size ≤ gb246)); have n8_ := n7_; have n9_ := Aside0.mk ((by rw [hg]; exact Nat.ne_of_lt (blk_lt (bkD BK188)) : gb188 ≠ gb246)); have n10_ := Aside0.mk ((by rw [hg]; exact Nat.ne_of_gt (blk_lt (bkD BK188)) : gb246 ≠ gb188)); have n11_ := Aside0.mk ((by rw [hg]; exact Nat.ne_of_lt (IsS121.lt (isD HI187 (f := t238) (f' := t239))) : g187 ≠ gb246)); have n12_ := Aside0.mk ((by rw [hg]; exact Nat.ne_of_gt (IsS121.lt (isD HI187 (f := t238) (f' := t239))) : gb246 ≠ g187)); clear HO_5 HO_189000 HO242 BK188 HI187 HB; have HO_5 := n0_; have HO_189000 := n1_; have HO242 := n2_; have BK188 := n3_; have HI187 := n4_; have HB := n5_; have BK246 := n6_; have GW246 := n7_; have GE246 := n8_; have NB188_246 := n9_; have NB246_188 := n10_; have NB187_246 := n11_; have NB246_187 := n12_; clear n0_ n1_ n2_ n3_ n4_ n5_ n6_ n7_ n8_ n9_ n10_ n11_ n12_ hb hbox hg; obtain ⟨Ao106, co106, eo106⟩ := Kd.R_slice HO242.out; subst eo106; have hnb107 := NB246_188.out; have hnc107 := NB188_246.out; have hnb108 := NB246_187.out; have hnc108 := NB187_246.out; have hcz109_0 : w105.cell? ⟨gb246, 0, none⟩ = some (.slice none 0 0) := (blk_cell BK246.out 0).trans rfl; have hcz109_1 : w105.cell? ⟨gb246, 1, none⟩ = some (.int .i64 0) := (blk_cell BK246.out 1).trans rfl; have hcz109_2 : w105.cell? ⟨gb246, 2, none⟩ = some (.int .i64 0) := (blk_cell BK246.out 2).trans rfl; have hfz109_0 := blk_frozen BK246.out 0; have hfz109_1 := blk_frozen BK246.out 1; have hfz109_2 := blk_frozen BK246.out 2))
        go_ret
        exact ⟨by first | rfl | (simp [errW_none, errW_some] <;> rfl) | (simp [*, errW_none, errW_some] <;> rfl), by repeat (first | (with_reducible first | exact HB.out | apply below_alloc | apply pw_below_drewN | apply below_drew1 | refine below_set ?_ (IsS121.ge HI187.out) | refine below_set ?_ GE188.out | refine below_set ?_ GE246.out) | exact HB.out)⟩
     case rest =>
      clear HC16
      try clear c1
      try clear c2
      try clear p2
      try clear p6
      try clear c7
      try clear c8
      try clear c9
      try clear q9
      try clear c10
      try clear c20
      try clear c23
      try clear c23b0
      try clear c24
      try clear c26
      try clear c29
      try clear p64
      try clear c76
      try clear c76b0
      try clear c76b1
      try clear c77
      try clear c77b0
      try clear c77b1
      try clear c78
      try clear c78b0
      try clear c78b1
      try clear c81
      try clear c81b0
      try clear c81b1
      try clear c82
      try clear c82b0
      try clear c82b1
      try clear c83
      try clear c85
      try clear c90
      try clear c91
      try clear q97
      try clear c99
      try clear q99
      try clear c102
      try clear c107
      try clear c108
      try clear hcz103_0
      try clear hcz103_1
      try clear hcz103_2
      try clear hcz109_0
      try clear hcz109_1
      try clear hcz109_2
      try clear hcz86_0
      try clear hcz86_1
      try clear hcz86_2
      try clear hcz92_0
      try clear hcz92_1
      try clear hcz92_2
      try clear hcz94_0
      try clear hcz94_1
      try clear hcz94_2
      try clear hcz95_0
      try clear hcz95_1
      try clear hcz95_2
      try clear hfz103_0
      try clear hfz103_1
      try clear hfz103_2
      try clear hfz109_0
      try clear hfz109_1
      try clear hfz109_2
      try clear hfz86_0
      try clear hfz86_1
      try clear hfz86_2
      try clear hfz92_0
      try clear hfz92_1
      try clear hfz92_2
      try clear hfz94_0
      try clear hfz94_1
      try clear hfz94_2
      try clear hfz95_0
      try clear hfz95_1
      try clear hfz95_2
      try clear q099
      try clear q97
      try clear q99
      obtain ⟨kq, x5_15, x9_15, x188001_15, x188002_15, x189000_15, x189001_15, x189002_15, u189000, rfl, HA, HJ15, HO_5, HO_189000, BK188, HI187, HB⟩ := hcut
      cases kq with
      | zero => exact absurd HA.out (by simp [laws_FnGapScript.j1])
      | succ kj15 =>
       have H := HA.out
       clear HA
       simp only [laws_FnGapScript.j1] at H
       have HC110 := Aside0.mk H
       clear H
       go_upto_region 28 with (fail)
       go_cut [124] (fun v124 wc => ∃ (kq : Nat) (x124_109 : Bool), v124 = .bool x124_109 ∧ Aside0 (laws_FnGapScript.j2 kq x5_15 x6_1 x124_109 t184 x188001_15 x188002_15 x189000_15 x189001_15 x189002_15 = some r) ∧ Aside0 (kq ≤ kj15) ∧ Aside0 (Kd.R (Kd.int .i32) 21 wc w.heap.size (fun k_ => some k_ ≠ (u189000 : Value).ownBlock) u5 x5_15) ∧ Aside0 (Kd.R (Kd.int .i32) 21 wc w.heap.size (fun k_ => some k_ ≠ (u5 : Value).ownBlock) u189000 x189000_15) ∧ Aside0 (wc.heap[gb188]? = some (.cells #[u189000, .int .i64 x189001_15, .int .i64 x189002_15] 28 (0, 0))) ∧ Aside0 (IsS121 w wc g187 t184 x188001_15 x188002_15) ∧ Aside0 (Below w.heap.size w wc))
       case first =>
        have H := HC110.out
        clear HC110
        replace H := Option.bind_eq_some_iff.mp H
        obtain ⟨t261, A1110, H⟩ := H
        replace H : (if t261 = true then (if (x189000_15.length : Int) < (x189000_1.length : Int) then (laws_FnGapScript.j2 kj15 x5_15 x6_1 true t184 x188001_15 x188002_15 x189000_15 x189001_15 x189002_15) else (laws_FnGapScript.j2 kj15 x5_15 x6_1 (x189001_15 != x9_15) t184 x188001_15 x188002_15 x189000_15 x189001_15 x189002_15)) else (laws_FnGapScript.j2 kj15 x5_15 x6_1 true t184 x188001_15 x188002_15 x189000_15 x189001_15 x189002_15)) = some r := H
        have A111 := Aside0.mk A1110
        clear A1110
        by_cases c112 : t261 = true
        ·subst c112
         have H1 : (if (x189000_15.length : Int) < (x189000_1.length : Int) then (laws_FnGapScript.j2 kj15 x5_15 x6_1 true t184 x188001_15 x188002_15 x189000_15 x189001_15 x189002_15) else (laws_FnGapScript.j2 kj15 x5_15 x6_1 (x189001_15 != x9_15) t184 x188001_15 x188002_15 x189000_15 x189001_15 x189002_15)) = some r := by rw [if_pos rfl] at H; exact H
         clear H
         have H := H1
         clear H1
         by_cases c113 : (x189000_15.length : Int) < (x189000_1.length : Int)
         ·rw [if_pos c113] at H
          have c113b0 : decide ((x189000_15.length : Int) < (x189000_1.length : Int)) = true := decide_eq_true c113
          have c113b1 : decide (x189000_15.length < x189000_1.length) = true := decide_eq_true (Int.ofNat_lt.mp c113)
          clear c113
          (first | rw [c113b0] | (simp only [i64_w, i32_w]; rw [c113b0]) | skip)
          have H' := Aside0.mk H
          clear H
          have hnb114 := NB188_187.out
          have hnc114 := NB187_188.out
          have hcz115_0 : wc.cell? ⟨gb188, 0, none⟩ = some (u189000) := (blk_cell BK188.out 0).trans rfl
          have hcz115_1 : wc.cell? ⟨gb188, 1, none⟩ = some (.int .i64 x189001_15) := (blk_cell BK188.out 1).trans rfl
          have hcz115_2 : wc.cell? ⟨gb188, 2, none⟩ = some (.int .i64 x189002_15) := (blk_cell BK188.out 2).trans rfl
          have hfz115_0 := blk_frozen BK188.out 0
          have hfz115_1 := blk_frozen BK188.out 1
          have hfz115_2 := blk_frozen BK188.out 2
          obtain ⟨Ao116, co116, eo116⟩ := Kd.R_slice HO_189000.out
          subst eo116
          go_wp2_with (first | ((with_reducible refine gate_callee (f := 30) rfl ?_); refine goesL_ (some 110) rfl rfl Tryd.func30 (by kernel_rfl) rfl #[.agg #[.slice Ao116 x189000_15.length co116, .int .i64 x189001_15, .int .i64 x189002_15]] rfl (by (try simp only [List.map_toArray, List.map_cons, List.map_nil]); first | done | rfl | (simp only [List.length_drop, List.length_take]; rfl)) ?_; (with_reducible refine (spec_L3Valid.calls kj15 _ _ x189000_15 x189001_15 x189002_15 true _ ?side1 ?side2 A111.out).mono ?_); (case side1 => repeat (first | exact (Kd.R_reads' HO_189000.out).2.2 | (with_reducible refine Kd.C_alloc ?_ _) | (with_reducible refine Kd.C_drewN ?_ _) | (with_reducible refine Kd.C_drew ?_))); (case side2 => exact (Kd.R_reads' HO_189000.out).2.1); rintro e w117 ⟨rfl, hb⟩; refine ⟨_, rfl, ?_⟩; have n0_ := Aside0.mk (Kd.R_below (rD HO_5.out) hb); have n1_ := Aside0.mk (Kd.R_below (rD HO_189000.out) hb); have n2_ := Aside0.mk (blk_below (bkD BK188) hb); have n3_ := Aside0.mk (IsS121.below (isD HI187) hb); have n4_ := Aside0.mk (below_step (hbS HB (IsS121.ge HI187.out)) hb); clear HO_5 HO_189000 BK188 HI187 HB; have HO_5 := n0_; have HO_189000 := n1_; have BK188 := n2_; have HI187 := n3_; have HB := n4_; clear n0_ n1_ n2_ n3_ n4_; (try clear hb); (try clear hb2); (try clear hk); (try clear hi); have hcz118_0 : w117.cell? ⟨gb188, 0, none⟩ = some (.slice Ao116 x189000_15.length co116) := (blk_cell BK188.out 0).trans rfl; have hcz118_1 : w117.cell? ⟨gb188, 1, none⟩ = some (.int .i64 x189001_15) := (blk_cell BK188.out 1).trans rfl; have hcz118_2 : w117.cell? ⟨gb188, 2, none⟩ = some (.int .i64 x189002_15) := (blk_cell BK188.out 2).trans rfl; have hfz118_0 := blk_frozen BK188.out 0; have hfz118_1 := blk_frozen BK188.out 1; have hfz118_2 := blk_frozen BK188.out 2))
          go_meet
          case rel => exact ⟨_, (true), (by first | rfl | (simp; done) | (simp [*]; done)), H', ⟨by have := HK1.out; have := HJ15.out; first | omega | exact Nat.le_refl _⟩, ⟨by (with_reducible repeat (first | apply Kd.R_alloc | apply Kd.R_drewN | apply Kd.R_drew)); exact HO_5.out⟩, ⟨by (with_reducible repeat (first | apply Kd.R_alloc | apply Kd.R_drewN | apply Kd.R_drew)); exact HO_189000.out⟩, ⟨by (with_reducible repeat (first | refine blk_drewN ?_ _ | refine blk_drew ?_ | refine blk_alloc ?_ _)); exact BK188.out⟩, ⟨by repeat (first | (with_reducible first | exact HI187.out | apply IsS121.alloc | apply IsS121.drewN | apply IsS121.drew | apply IsS121.set_1 | apply IsS121.set_2 | refine IsS121.far ?_ NB187_188.out _) | exact HI187.out)⟩, ⟨by repeat (first | (with_reducible first | exact HB.out | apply below_alloc | apply pw_below_drewN | apply below_drew1 | refine below_set ?_ (IsS121.ge HI187.out) | refine below_set ?_ GE188.out) | exact HB.out)⟩⟩
         ·rw [if_neg c113] at H
          have c113b0 : decide ((x189000_15.length : Int) < (x189000_1.length : Int)) = false := decide_eq_false c113
          have c113b1 : decide (x189000_15.length < x189000_1.length) = false := decide_eq_false (fun h => c113 (Int.ofNat_lt.mpr h))
          clear c113
          (first | rw [c113b0] | (simp only [i64_w, i32_w]; rw [c113b0]) | skip)
          have H' := Aside0.mk H
          clear H
          have hnb119 := NB188_187.out
          have hnc119 := NB187_188.out
          have hcz120_0 : wc.cell? ⟨gb188, 0, none⟩ = some (u189000) := (blk_cell BK188.out 0).trans rfl
          have hcz120_1 : wc.cell? ⟨gb188, 1, none⟩ = some (.int .i64 x189001_15) := (blk_cell BK188.out 1).trans rfl
          have hcz120_2 : wc.cell? ⟨gb188, 2, none⟩ = some (.int .i64 x189002_15) := (blk_cell BK188.out 2).trans rfl
          have hfz120_0 := blk_frozen BK188.out 0
          have hfz120_1 := blk_frozen BK188.out 1
          have hfz120_2 := blk_frozen BK188.out 2
          obtain ⟨Ao121, co121, eo121⟩ := Kd.R_slice HO_189000.out
          subst eo121
          go_wp2_with (first | ((with_reducible refine gate_callee (f := 30) rfl ?_); refine goesL_ (some 110) rfl rfl Tryd.func30 (by kernel_rfl) rfl #[.agg #[.slice Ao121 x189000_15.length co121, .int .i64 x189001_15, .int .i64 x189002_15]] rfl (by (try simp only [List.map_toArray, List.map_cons, List.map_nil]); first | done | rfl | (simp only [List.length_drop, List.length_take]; rfl)) ?_; (with_reducible refine (spec_L3Valid.calls kj15 _ _ x189000_15 x189001_15 x189002_15 true _ ?side1 ?side2 A111.out).mono ?_); (case side1 => repeat (first | exact (Kd.R_reads' HO_189000.out).2.2 | (with_reducible refine Kd.C_alloc ?_ _) | (with_reducible refine Kd.C_drewN ?_ _) | (with_reducible refine Kd.C_drew ?_))); (case side2 => exact (Kd.R_reads' HO_189000.out).2.1); rintro e w122 ⟨rfl, hb⟩; refine ⟨_, rfl, ?_⟩; have n0_ := Aside0.mk (Kd.R_below (rD HO_5.out) hb); have n1_ := Aside0.mk (Kd.R_below (rD HO_189000.out) hb); have n2_ := Aside0.mk (blk_below (bkD BK188) hb); have n3_ := Aside0.mk (IsS121.below (isD HI187) hb); have n4_ := Aside0.mk (below_step (hbS HB (IsS121.ge HI187.out)) hb); clear HO_5 HO_189000 BK188 HI187 HB; have HO_5 := n0_; have HO_189000 := n1_; have BK188 := n2_; have HI187 := n3_; have HB := n4_; clear n0_ n1_ n2_ n3_ n4_; (try clear hb); (try clear hb2); (try clear hk); (try clear hi); have hcz123_0 : w122.cell? ⟨gb188, 0, none⟩ = some (.slice Ao121 x189000_15.length co121) := (blk_cell BK188.out 0).trans rfl; have hcz123_1 : w122.cell? ⟨gb188, 1, none⟩ = some (.int .i64 x189001_15) := (blk_cell BK188.out 1).trans rfl; have hcz123_2 : w122.cell? ⟨gb188, 2, none⟩ = some (.int .i64 x189002_15) := (blk_cell BK188.out 2).trans rfl; have hfz123_0 := blk_frozen BK188.out 0; have hfz123_1 := blk_frozen BK188.out 1; have hfz123_2 := blk_frozen BK188.out 2))
          go_meet
          case rel => exact ⟨_, ((x189001_15 != x9_15)), (by first | rfl | (simp; done) | (simp [*]; done)), H', ⟨by have := HK1.out; have := HJ15.out; first | omega | exact Nat.le_refl _⟩, ⟨by (with_reducible repeat (first | apply Kd.R_alloc | apply Kd.R_drewN | apply Kd.R_drew)); exact HO_5.out⟩, ⟨by (with_reducible repeat (first | apply Kd.R_alloc | apply Kd.R_drewN | apply Kd.R_drew)); exact HO_189000.out⟩, ⟨by (with_reducible repeat (first | refine blk_drewN ?_ _ | refine blk_drew ?_ | refine blk_alloc ?_ _)); exact BK188.out⟩, ⟨by repeat (first | (with_reducible first | exact HI187.out | apply IsS121.alloc | apply IsS121.drewN | apply IsS121.drew | apply IsS121.set_1 | apply IsS121.set_2 | refine IsS121.far ?_ NB187_188.out _) | exact HI187.out)⟩, ⟨by repeat (first | (with_reducible first | exact HB.out | apply below_alloc | apply pw_below_drewN | apply below_drew1 | refine below_set ?_ (IsS121.ge HI187.out) | refine below_set ?_ GE188.out) | exact HB.out)⟩⟩
        ·replace c112 := Bool.eq_false_iff.mpr c112
         subst c112
         have H1 : (laws_FnGapScript.j2 kj15 x5_15 x6_1 true t184 x188001_15 x188002_15 x189000_15 x189001_15 x189002_15) = some r := by rw [if_neg (show ¬ (false = true) by decide)] at H; exact H
         clear H
         have H := H1
         clear H1
         have H' := Aside0.mk H
         clear H
         have hnb124 := NB188_187.out
         have hnc124 := NB187_188.out
         have hcz125_0 : wc.cell? ⟨gb188, 0, none⟩ = some (u189000) := (blk_cell BK188.out 0).trans rfl
         have hcz125_1 : wc.cell? ⟨gb188, 1, none⟩ = some (.int .i64 x189001_15) := (blk_cell BK188.out 1).trans rfl
         have hcz125_2 : wc.cell? ⟨gb188, 2, none⟩ = some (.int .i64 x189002_15) := (blk_cell BK188.out 2).trans rfl
         have hfz125_0 := blk_frozen BK188.out 0
         have hfz125_1 := blk_frozen BK188.out 1
         have hfz125_2 := blk_frozen BK188.out 2
         obtain ⟨Ao126, co126, eo126⟩ := Kd.R_slice HO_189000.out
         subst eo126
         go_wp2_with (first | ((with_reducible refine gate_callee (f := 30) rfl ?_); refine goesL_ (some 110) rfl rfl Tryd.func30 (by kernel_rfl) rfl #[.agg #[.slice Ao126 x189000_15.length co126, .int .i64 x189001_15, .int .i64 x189002_15]] rfl (by (try simp only [List.map_toArray, List.map_cons, List.map_nil]); first | done | rfl | (simp only [List.length_drop, List.length_take]; rfl)) ?_; (with_reducible refine (spec_L3Valid.calls kj15 _ _ x189000_15 x189001_15 x189002_15 false _ ?side1 ?side2 A111.out).mono ?_); (case side1 => repeat (first | exact (Kd.R_reads' HO_189000.out).2.2 | (with_reducible refine Kd.C_alloc ?_ _) | (with_reducible refine Kd.C_drewN ?_ _) | (with_reducible refine Kd.C_drew ?_))); (case side2 => exact (Kd.R_reads' HO_189000.out).2.1); rintro e w127 ⟨rfl, hb⟩; refine ⟨_, rfl, ?_⟩; have n0_ := Aside0.mk (Kd.R_below (rD HO_5.out) hb); have n1_ := Aside0.mk (Kd.R_below (rD HO_189000.out) hb); have n2_ := Aside0.mk (blk_below (bkD BK188) hb); have n3_ := Aside0.mk (IsS121.below (isD HI187) hb); have n4_ := Aside0.mk (below_step (hbS HB (IsS121.ge HI187.out)) hb); clear HO_5 HO_189000 BK188 HI187 HB; have HO_5 := n0_; have HO_189000 := n1_; have BK188 := n2_; have HI187 := n3_; have HB := n4_; clear n0_ n1_ n2_ n3_ n4_; (try clear hb); (try clear hb2); (try clear hk); (try clear hi)))
         go_meet
         case rel => exact ⟨_, (true), (by first | rfl | (simp; done) | (simp [*]; done)), H', ⟨by have := HK1.out; have := HJ15.out; first | omega | exact Nat.le_refl _⟩, ⟨by (with_reducible repeat (first | apply Kd.R_alloc | apply Kd.R_drewN | apply Kd.R_drew)); exact HO_5.out⟩, ⟨by (with_reducible repeat (first | apply Kd.R_alloc | apply Kd.R_drewN | apply Kd.R_drew)); exact HO_189000.out⟩, ⟨by (with_reducible repeat (first | refine blk_drewN ?_ _ | refine blk_drew ?_ | refine blk_alloc ?_ _)); exact BK188.out⟩, ⟨by repeat (first | (with_reducible first | exact HI187.out | apply IsS121.alloc | apply IsS121.drewN | apply IsS121.drew | apply IsS121.set_1 | apply IsS121.set_2 | refine IsS121.far ?_ NB187_188.out _) | exact HI187.out)⟩, ⟨by repeat (first | (with_reducible first | exact HB.out | apply below_alloc | apply pw_below_drewN | apply below_drew1 | refine below_set ?_ (IsS121.ge HI187.out) | refine below_set ?_ GE188.out) | exact HB.out)⟩⟩
       case rest =>
        clear HC110
        try clear c1
        try clear c2
        try clear p2
        try clear c3
        try clear p6
        try clear c7
        try clear c8
        try clear c9
        try clear q9
        try clear c10
        try clear c11
        try clear c12
        try clear c20
        try clear c23
        try clear c23b0
        try clear c24
        try clear c26
        try clear c29
        try clear c30
        try clear p64
        try clear c76
        try clear c76b0
        try clear c76b1
        try clear c77
        try clear c77b0
        try clear c77b1
        try clear c78
        try clear c78b0
        try clear c78b1
        try clear c81
        try clear c81b0
        try clear c81b1
        try clear c82
        try clear c82b0
        try clear c82b1
        try clear c83
        try clear c85
        try clear c90
        try clear c91
        try clear q97
        try clear c99
        try clear q99
        try clear c102
        try clear c107
        try clear c108
        try clear c112
        try clear c113
        try clear c113b0
        try clear c113b1
        try clear c114
        try clear c119
        try clear c124
        try clear hcz103_0
        try clear hcz103_1
        try clear hcz103_2
        try clear hcz109_0
        try clear hcz109_1
        try clear hcz109_2
        try clear hcz115_0
        try clear hcz115_1
        try clear hcz115_2
        try clear hcz118_0
        try clear hcz118_1
        try clear hcz118_2
        try clear hcz120_0
        try clear hcz120_1
        try clear hcz120_2
        try clear hcz123_0
        try clear hcz123_1
        try clear hcz123_2
        try clear hcz125_0
        try clear hcz125_1
        try clear hcz125_2
        try clear hcz86_0
        try clear hcz86_1
        try clear hcz86_2
        try clear hcz92_0
        try clear hcz92_1
        try clear hcz92_2
        try clear hcz94_0
        try clear hcz94_1
        try clear hcz94_2
        try clear hcz95_0
        try clear hcz95_1
        try clear hcz95_2
        try clear hfz103_0
        try clear hfz103_1
        try clear hfz103_2
        try clear hfz109_0
        try clear hfz109_1
        try clear hfz109_2
        try clear hfz115_0
        try clear hfz115_1
        try clear hfz115_2
        try clear hfz118_0
        try clear hfz118_1
        try clear hfz118_2
        try clear hfz120_0
        try clear hfz120_1
        try clear hfz120_2
        try clear hfz123_0
        try clear hfz123_1
        try clear hfz123_2
        try clear hfz125_0
        try clear hfz125_1
        try clear hfz125_2
        try clear hfz86_0
        try clear hfz86_1
        try clear hfz86_2
        try clear hfz92_0
        try clear hfz92_1
        try clear hfz92_2
        try clear hfz94_0
        try clear hfz94_1
        try clear hfz94_2
        try clear hfz95_0
        try clear hfz95_1
        try clear hfz95_2
        try clear p2
        try clear p6
        try clear p64
        try clear q099
        try clear q9
        try clear q97
        try clear q99
        obtain ⟨kq, x124_109, rfl, HA, HJ109, HO_5, HO_189000, BK188, HI187, HB⟩ := hcut
        cases kq with
        | zero => exact absurd HA.out (by simp [laws_FnGapScript.j2])
        | succ kj109 =>
         have H := HA.out
         clear HA
         simp only [laws_FnGapScript.j2] at H
         by_cases c128 : x124_109 = true
         ·subst c128
          have H1 : (some false) = some r := by rw [if_pos rfl] at H; exact H
          clear H
          have H := H1
          clear H1
          obtain rfl := Option.some.inj H
          go_wp2
          go_ret
          exact ⟨by first | rfl | (simp [errW_none, errW_some] <;> rfl) | (simp [*, errW_none, errW_some] <;> rfl), by repeat (first | (with_reducible first | exact HB.out | apply below_alloc | apply pw_below_drewN | apply below_drew1 | refine below_set ?_ (IsS121.ge HI187.out) | refine below_set ?_ GE188.out) | exact HB.out)⟩
         ·replace c128 := Bool.eq_false_iff.mpr c128
          subst c128
          have H1 : ((spec_l1Src_N.f t184 x188001_15 x188002_15 (wrap64 ((x5_15.length : Int) + 1))).bind fun bt262 => ((laws_cpGap.f x189000_15 x189001_15 x189002_15).bind fun bt265 => ((impl_GapRead.f bt265.1 bt265.2.1 bt265.2.2 bt262.1 (x5_15.length : Int)).bind fun bt270 => ((laws_cpGap.f x189000_15 x189001_15 x189002_15).bind fun bt274 => ((impl_GapRead.f bt274.1 bt274.2.1 bt274.2.2 0 (x5_15.length : Int)).bind fun bt279 => (if bt270.2 = 0 then (if bt279.2 = 0 then ((laws_smText.f kj109 bt279.1 x5_15).bind fun t283 => (if t283 = true then (if 0 ≤ bt262.1 then (if bt262.1 ≤ (x5_15.length : Int) then ((laws_smText.f kj109 bt270.1 (x5_15.drop (bt262.1 : Int).toNat)).bind fun t288 => (if t288 = true then (laws_FnGapScript.l0 kj109 x5_15 (wrap64 (x6_1 - 1)) t184 bt262.2.1 bt262.2.2 x189000_15 x189001_15 x189002_15) else (some false))) else (none)) else (none)) else (some false))) else (some false)) else (some false))))))) = some r := by rw [if_neg (show ¬ (false = true) by decide)] at H; exact H
          clear H
          have H := H1
          clear H1
          replace H := Option.bind_eq_some_iff.mp H
          obtain ⟨⟨t262, t263, t264⟩, A1290, H⟩ := H
          replace H : ((laws_cpGap.f x189000_15 x189001_15 x189002_15).bind fun bt265 => ((impl_GapRead.f bt265.1 bt265.2.1 bt265.2.2 t262 (x5_15.length : Int)).bind fun bt270 => ((laws_cpGap.f x189000_15 x189001_15 x189002_15).bind fun bt274 => ((impl_GapRead.f bt274.1 bt274.2.1 bt274.2.2 0 (x5_15.length : Int)).bind fun bt279 => (if bt270.2 = 0 then (if bt279.2 = 0 then ((laws_smText.f kj109 bt279.1 x5_15).bind fun t283 => (if t283 = true then (if 0 ≤ t262 then (if t262 ≤ (x5_15.length : Int) then ((laws_smText.f kj109 bt270.1 (x5_15.drop (t262 : Int).toNat)).bind fun t288 => (if t288 = true then (laws_FnGapScript.l0 kj109 x5_15 (wrap64 (x6_1 - 1)) t184 t263 t264 x189000_15 x189001_15 x189002_15) else (some false))) else (none)) else (none)) else (some false))) else (some false)) else (some false)))))) = some r := H
          have A129 := Aside0.mk A1290
          clear A1290
          replace H := Option.bind_eq_some_iff.mp H
          obtain ⟨⟨t265, t268, t269⟩, A1300, H⟩ := H
          replace H : ((impl_GapRead.f t265 t268 t269 t262 (x5_15.length : Int)).bind fun bt270 => ((laws_cpGap.f x189000_15 x189001_15 x189002_15).bind fun bt274 => ((impl_GapRead.f bt274.1 bt274.2.1 bt274.2.2 0 (x5_15.length : Int)).bind fun bt279 => (if bt270.2 = 0 then (if bt279.2 = 0 then ((laws_smText.f kj109 bt279.1 x5_15).bind fun t283 => (if t283 = true then (if 0 ≤ t262 then (if t262 ≤ (x5_15.length : Int) then ((laws_smText.f kj109 bt270.1 (x5_15.drop (t262 : Int).toNat)).bind fun t288 => (if t288 = true then (laws_FnGapScript.l0 kj109 x5_15 (wrap64 (x6_1 - 1)) t184 t263 t264 x189000_15 x189001_15 x189002_15) else (some false))) else (none)) else (none)) else (some false))) else (some false)) else (some false))))) = some r := H
          have A130 := Aside0.mk A1300
          clear A1300
          replace H := Option.bind_eq_some_iff.mp H
          obtain ⟨⟨t270, t273⟩, A1310, H⟩ := H
          replace H : ((laws_cpGap.f x189000_15 x189001_15 x189002_15).bind fun bt274 => ((impl_GapRead.f bt274.1 bt274.2.1 bt274.2.2 0 (x5_15.length : Int)).bind fun bt279 => (if t273 = 0 then (if bt279.2 = 0 then ((laws_smText.f kj109 bt279.1 x5_15).bind fun t283 => (if t283 = true then (if 0 ≤ t262 then (if t262 ≤ (x5_15.length : Int) then ((laws_smText.f kj109 t270 (x5_15.drop (t262 : Int).toNat)).bind fun t288 => (if t288 = true then (laws_FnGapScript.l0 kj109 x5_15 (wrap64 (x6_1 - 1)) t184 t263 t264 x189000_15 x189001_15 x189002_15) else (some false))) else (none)) else (none)) else (some false))) else (some false)) else (some false)))) = some r := H
          have A131 := Aside0.mk A1310
          clear A1310
          replace H := Option.bind_eq_some_iff.mp H
          obtain ⟨⟨t274, t277, t278⟩, A1320, H⟩ := H
          replace H : ((impl_GapRead.f t274 t277 t278 0 (x5_15.length : Int)).bind fun bt279 => (if t273 = 0 then (if bt279.2 = 0 then ((laws_smText.f kj109 bt279.1 x5_15).bind fun t283 => (if t283 = true then (if 0 ≤ t262 then (if t262 ≤ (x5_15.length : Int) then ((laws_smText.f kj109 t270 (x5_15.drop (t262 : Int).toNat)).bind fun t288 => (if t288 = true then (laws_FnGapScript.l0 kj109 x5_15 (wrap64 (x6_1 - 1)) t184 t263 t264 x189000_15 x189001_15 x189002_15) else (some false))) else (none)) else (none)) else (some false))) else (some false)) else (some false))) = some r := H
          have A132 := Aside0.mk A1320
          clear A1320
          replace H := Option.bind_eq_some_iff.mp H
          obtain ⟨⟨t279, t282⟩, A1330, H⟩ := H
          replace H : (if t273 = 0 then (if t282 = 0 then ((laws_smText.f kj109 t279 x5_15).bind fun t283 => (if t283 = true then (if 0 ≤ t262 then (if t262 ≤ (x5_15.length : Int) then ((laws_smText.f kj109 t270 (x5_15.drop (t262 : Int).toNat)).bind fun t288 => (if t288 = true then (laws_FnGapScript.l0 kj109 x5_15 (wrap64 (x6_1 - 1)) t184 t263 t264 x189000_15 x189001_15 x189002_15) else (some false))) else (none)) else (none)) else (some false))) else (some false)) else (some false)) = some r := H
          have A133 := Aside0.mk A1330
          clear A1330
          by_cases c134 : t273 = 0
          ·rw [if_pos c134] at H
           have c134b0 : (t273 == 0) = true := beq_iff_eq.mpr c134
           have c134b1 : (t273 != 0) = false := bne_eq_false_iff_eq.mpr c134
           clear c134
           by_cases c135 : t282 = 0
           ·rw [if_pos c135] at H
            have c135b0 : (t282 == 0) = true := beq_iff_eq.mpr c135
            have c135b1 : (t282 != 0) = false := bne_eq_false_iff_eq.mpr c135
            clear c135
            replace H := Option.bind_eq_some_iff.mp H
            obtain ⟨t283, A1360, H⟩ := H
            replace H : (if t283 = true then (if 0 ≤ t262 then (if t262 ≤ (x5_15.length : Int) then ((laws_smText.f kj109 t270 (x5_15.drop (t262 : Int).toNat)).bind fun t288 => (if t288 = true then (laws_FnGapScript.l0 kj109 x5_15 (wrap64 (x6_1 - 1)) t184 t263 t264 x189000_15 x189001_15 x189002_15) else (some false))) else (none)) else (none)) else (some false)) = some r := H
            have A136 := Aside0.mk A1360
            clear A1360
            by_cases c137 : t283 = true
            ·subst c137
             have H1 : (if 0 ≤ t262 then (if t262 ≤ (x5_15.length : Int) then ((laws_smText.f kj109 t270 (x5_15.drop (t262 : Int).toNat)).bind fun t288 => (if t288 = true then (laws_FnGapScript.l0 kj109 x5_15 (wrap64 (x6_1 - 1)) t184 t263 t264 x189000_15 x189001_15 x189002_15) else (some false))) else (none)) else (none)) = some r := by rw [if_pos rfl] at H; exact H
             clear H
             have H := H1
             clear H1
             by_cases c138 : 0 ≤ t262
             ·rw [if_pos c138] at H
              have c138b0 := eq_true c138
              have c138b1 : decide (0 ≤ t262) = true := decide_eq_true c138
              clear c138
              by_cases c139 : t262 ≤ (x5_15.length : Int)
              ·rw [if_pos c139] at H
               have c139b0 := eq_true c139
               have c139b1 : decide (t262 ≤ (x5_15.length : Int)) = true := decide_eq_true c139
               clear c139
               obtain ⟨y284, hy284⟩ : ∃ y_ : List Int, y_ = (x5_15.drop (t262 : Int).toNat) := ⟨_, rfl⟩
               replace H : ((laws_smText.f kj109 t270 y284).bind fun t288 => (if t288 = true then (laws_FnGapScript.l0 kj109 x5_15 (wrap64 (x6_1 - 1)) t184 t263 t264 x189000_15 x189001_15 x189002_15) else (some false))) = some r := by first | (rw [hy284]; with_reducible exact H) | (have H2_ := (Option.bind_some _ _).symm.trans H; rw [hy284]; with_reducible exact H2_) | (have H2_ := (Option.bind_some _ _).symm.trans H; with_reducible exact H2_) | with_reducible exact H | (rw [hy284]; exact H) | exact H
               have Ny284 := Aside0.mk hy284
               clear hy284
               replace H := Option.bind_eq_some_iff.mp H
               obtain ⟨t288, A1400, H⟩ := H
               replace H : (if t288 = true then (laws_FnGapScript.l0 kj109 x5_15 (wrap64 (x6_1 - 1)) t184 t263 t264 x189000_15 x189001_15 x189002_15) else (some false)) = some r := H
               have A140 := Aside0.mk A1400
               clear A1400
               by_cases c141 : t288 = true
               ·subst c141
                have H1 : (laws_FnGapScript.l0 kj109 x5_15 (wrap64 (x6_1 - 1)) t184 t263 t264 x189000_15 x189001_15 x189002_15) = some r := by rw [if_pos rfl] at H; exact H
                clear H
                have H := H1
                clear H1
                have H' := Aside0.mk H
                clear H
                obtain ⟨Ao142, co142, eo142⟩ := Kd.R_slice HO_5.out
                subst eo142
                go_wp2_with (first | ((with_reducible refine gate_callee (f := 26) rfl ?_); refine goesL_ (some 129) rfl rfl Tryd.func26 (by kernel_rfl) rfl #[.pointer (some ⟨g187, 0, none⟩), .int .i64 (wrap64 ((x5_15.length : Int) + 1))] rfl (by (try simp only [List.map_toArray, List.map_cons, List.map_nil]); first | done | rfl | (simp only [List.length_drop, List.length_take]; rfl)) ?_; (with_reducible refine (spec_l1Src_N.calls g187 t184 x188001_15 x188002_15 (wrap64 ((x5_15.length : Int) + 1)) t262 t263 t264 w _ ?side1 ?side2 A129.out).mono ?_); (case side1 => repeat (first | (with_reducible first | exact HI187.out | apply IsS121.alloc | apply IsS121.drewN | apply IsS121.drew | apply IsS121.set_1 | apply IsS121.set_2 | refine IsS121.far ?_ NB187_188.out _) | exact HI187.out)); (case side2 => repeat (first | (with_reducible first | exact HB.out | apply below_alloc | apply pw_below_drewN | apply below_drew1 | refine below_set ?_ (IsS121.ge HI187.out) | refine below_set ?_ GE188.out) | exact HB.out)); rintro e w143 ⟨rfl, hi, hb, hk⟩; refine ⟨_, rfl, ?_⟩; have n0_ := Aside0.mk (Kd.R_mono (Kd.R_keep (IsS121.apart (isD HI187 (f := x188001_15) (f' := x188002_15)) (rD HO_5.out) (by decide)) hk (fun _ h => h.2)) (fun _ h => h.1)); have n1_ := Aside0.mk (Kd.R_mono (Kd.R_keep (IsS121.apart (isD HI187 (f := x188001_15) (f' := x188002_15)) (rD HO_189000.out) (by decide)) hk (fun _ h => h.2)) (fun _ h => h.1)); have n2_ := Aside0.mk (KeepBut.blk hk (g' := gb188) (o := .cells #[u189000, .int .i64 x189001_15, .int .i64 x189002_15] 28 (0, 0)) (bkD BK188) NB188_187.out (by simp)); have n3_ := Aside0.mk (hb); have n4_ := Aside0.mk (hi); clear HO_5 HO_189000 BK188 HB HI187; have HO_5 := n0_; have HO_189000 := n1_; have BK188 := n2_; have HB := n3_; have HI187 := n4_; clear n0_ n1_ n2_ n3_ n4_; (try clear hb); (try clear hb2); (try clear hk); (try clear hi); have hnb144 := NB188_187.out; have hnc144 := NB187_188.out; have hcz145_0 : w143.cell? ⟨gb188, 0, none⟩ = some (u189000) := (blk_cell BK188.out 0).trans rfl; have hcz145_1 : w143.cell? ⟨gb188, 1, none⟩ = some (.int .i64 x189001_15) := (blk_cell BK188.out 1).trans rfl; have hcz145_2 : w143.cell? ⟨gb188, 2, none⟩ = some (.int .i64 x189002_15) := (blk_cell BK188.out 2).trans rfl; have hfz145_0 := blk_frozen BK188.out 0; have hfz145_1 := blk_frozen BK188.out 1; have hfz145_2 := blk_frozen BK188.out 2; obtain ⟨Ao146, co146, eo146⟩ := Kd.R_slice HO_189000.out; subst eo146) | ((with_reducible refine gate_callee (f := 31) rfl ?_); refine goesL_ (some 132) rfl rfl Tryd.func31 (by kernel_rfl) rfl #[.agg #[.slice Ao146 x189000_15.length co146, .int .i64 x189001_15, .int .i64 x189002_15]] rfl (by (try simp only [List.map_toArray, List.map_cons, List.map_nil]); first | done | rfl | (simp only [List.length_drop, List.length_take]; rfl)) ?_; (with_reducible refine (laws_cpGap.calls _ _ x189000_15 x189001_15 x189002_15 t265 t268 t269 _ ?side1 ?side2 A130.out).mono ?_); (case side1 => repeat (first | exact (Kd.R_reads' HO_189000.out).2.2 | (with_reducible refine Kd.C_alloc ?_ _) | (with_reducible refine Kd.C_drewN ?_ _) | (with_reducible refine Kd.C_drew ?_))); (case side2 => exact (Kd.R_reads' HO_189000.out).2.1); rintro e w147 ⟨v266, rfl, ho0, hb⟩; refine ⟨_, rfl, ?_⟩; have n0_ := Aside0.mk (Kd.R_elder' (rD HO_5.out) (Kd.R_base ho0) hb); have n1_ := Aside0.mk (Kd.R_elder' (rD HO_189000.out) (Kd.R_base ho0) hb); have n2_ := Aside0.mk (Kd.R_lower (Kd.R_new' (Kd.R_new' ho0 (Kd.R_lt (rD HO_5.out))) (Kd.R_lt (rD HO_189000.out))) (below_size (hbS HB (IsS121.ge HI187.out)))); have n3_ := Aside0.mk (blk_below (bkD BK188) hb); have n4_ := Aside0.mk (IsS121.below (isD HI187) hb); have n5_ := Aside0.mk (below_step (hbS HB (IsS121.ge HI187.out)) hb); clear HO_5 HO_189000 BK188 HI187 HB; have HO_5 := n0_; have HO_189000 := n1_; have HO267 := n2_; have BK188 := n3_; have HI187 := n4_; have HB := n5_; clear n0_ n1_ n2_ n3_ n4_ n5_; (try clear hb); (try clear hb2); (try clear hk); (try clear hi); (try clear ho0); obtain ⟨Ao148, co148, eo148⟩ := Kd.R_slice HO267.out; subst eo148) | ((with_reducible refine gate_callee (f := 13) rfl ?_); refine goesL_ (some 136) rfl rfl Tryd.func13 (by kernel_rfl) rfl #[.agg #[.slice Ao148 t265.length co148, .int .i64 t268, .int .i64 t269], .int .i64 t262, .int .i64 (x5_15.length : Int)] rfl (by (try simp only [List.map_toArray, List.map_cons, List.map_nil]); first | done | rfl | (simp only [List.length_drop, List.length_take]; rfl)) ?_; (with_reducible refine (impl_GapRead.calls _ _ t265 t268 t269 t262 (x5_15.length : Int) t270 t273 _ ?side1 ?side2 ?side3 A131.out).mono ?_); (case side1 => repeat (first | exact (Kd.R_reads' HO267.out).2.2 | (with_reducible refine Kd.C_alloc ?_ _) | (with_reducible refine Kd.C_drewN ?_ _) | (with_reducible refine Kd.C_drew ?_))); (case side2 => exact (Kd.R_reads' HO267.out).2.1); (case side3 => exact HG.below hgG_ (hbS HB (IsS121.ge HI187.out))); rintro e w149 ⟨v271, rfl, ho0, hb⟩; refine ⟨_, rfl, ?_⟩; have n0_ := Aside0.mk (Kd.R_elder' (rD HO_5.out) (Kd.R_base ho0) hb); have n1_ := Aside0.mk (Kd.R_elder' (rD HO_189000.out) (Kd.R_base ho0) hb); have n2_ := Aside0.mk (Kd.R_elder' (rD HO267.out) (Kd.R_base ho0) hb); have n3_ := Aside0.mk (Kd.R_lower (Kd.R_new' (Kd.R_new' (Kd.R_new' ho0 (Kd.R_lt (rD HO_5.out))) (Kd.R_lt (rD HO_189000.out))) (Kd.R_lt (rD HO267.out))) (below_size (hbS HB (IsS121.ge HI187.out)))); have n4_ := Aside0.mk (blk_below (bkD BK188) hb); have n5_ := Aside0.mk (IsS121.below (isD HI187) hb); have n6_ := Aside0.mk (below_step (hbS HB (IsS121.ge HI187.out)) hb); clear HO_5 HO_189000 HO267 BK188 HI187 HB; have HO_5 := n0_; have HO_189000 := n1_; have HO267 := n2_; have HO272 := n3_; have BK188 := n4_; have HI187 := n5_; have HB := n6_; clear n0_ n1_ n2_ n3_ n4_ n5_ n6_; (try clear hb); (try clear hb2); (try clear hk); (try clear hi); (try clear ho0); have hcz150_0 : w149.cell? ⟨gb188, 0, none⟩ = some (.slice Ao146 x189000_15.length co146) := (blk_cell BK188.out 0).trans rfl; have hcz150_1 : w149.cell? ⟨gb188, 1, none⟩ = some (.int .i64 x189001_15) := (blk_cell BK188.out 1).trans rfl; have hcz150_2 : w149.cell? ⟨gb188, 2, none⟩ = some (.int .i64 x189002_15) := (blk_cell BK188.out 2).trans rfl; have hfz150_0 := blk_frozen BK188.out 0; have hfz150_1 := blk_frozen BK188.out 1; have hfz150_2 := blk_frozen BK188.out 2) | ((with_reducible refine gate_callee (f := 31) rfl ?_); refine goesL_ (some 141) rfl rfl Tryd.func31 (by kernel_rfl) rfl #[.agg #[.slice Ao146 x189000_15.length co146, .int .i64 x189001_15, .int .i64 x189002_15]] rfl (by (try simp only [List.map_toArray, List.map_cons, List.map_nil]); first | done | rfl | (simp only [List.length_drop, List.length_take]; rfl)) ?_; (with_reducible refine (laws_cpGap.calls _ _ x189000_15 x189001_15 x189002_15 t274 t277 t278 _ ?side1 ?side2 A132.out).mono ?_); (case side1 => repeat (first | exact (Kd.R_reads' HO_189000.out).2.2 | (with_reducible refine Kd.C_alloc ?_ _) | (with_reducible refine Kd.C_drewN ?_ _) | (with_reducible refine Kd.C_drew ?_))); (case side2 => exact (Kd.R_reads' HO_189000.out).2.1); rintro e w151 ⟨v275, rfl, ho0, hb⟩; refine ⟨_, rfl, ?_⟩; have n0_ := Aside0.mk (Kd.R_elder' (rD HO_5.out) (Kd.R_base ho0) hb); have n1_ := Aside0.mk (Kd.R_elder' (rD HO_189000.out) (Kd.R_base ho0) hb); have n2_ := Aside0.mk (Kd.R_elder' (rD HO267.out) (Kd.R_base ho0) hb); have n3_ := Aside0.mk (Kd.R_elder' (rD HO272.out) (Kd.R_base ho0) hb); have n4_ := Aside0.mk (Kd.R_lower (Kd.R_new' (Kd.R_new' (Kd.R_new' (Kd.R_new' ho0 (Kd.R_lt (rD HO_5.out))) (Kd.R_lt (rD HO_189000.out))) (Kd.R_lt (rD HO267.out))) (Kd.R_lt (rD HO272.out))) (below_size (hbS HB (IsS121.ge HI187.out)))); have n5_ := Aside0.mk (blk_below (bkD BK188) hb); have n6_ := Aside0.mk (IsS121.below (isD HI187) hb); have n7_ := Aside0.mk (below_step (hbS HB (IsS121.ge HI187.out)) hb); clear HO_5 HO_189000 HO267 HO272 BK188 HI187 HB; have HO_5 := n0_; have HO_189000 := n1_; have HO267 := n2_; have HO272 := n3_; have HO276 := n4_; have BK188 := n5_; have HI187 := n6_; have HB := n7_; clear n0_ n1_ n2_ n3_ n4_ n5_ n6_ n7_; (try clear hb); (try clear hb2); (try clear hk); (try clear hi); (try clear ho0); obtain ⟨Ao152, co152, eo152⟩ := Kd.R_slice HO276.out; subst eo152) | ((with_reducible refine gate_callee (f := 13) rfl ?_); refine goesL_ (some 144) rfl rfl Tryd.func13 (by kernel_rfl) rfl #[.agg #[.slice Ao152 t274.length co152, .int .i64 t277, .int .i64 t278], .int .i64 0, .int .i64 (x5_15.length : Int)] rfl (by (try simp only [List.map_toArray, List.map_cons, List.map_nil]); first | done | rfl | (simp only [List.length_drop, List.length_take]; rfl)) ?_; (with_reducible refine (impl_GapRead.calls _ _ t274 t277 t278 0 (x5_15.length : Int) t279 t282 _ ?side1 ?side2 ?side3 A133.out).mono ?_); (case side1 => repeat (first | exact (Kd.R_reads' HO276.out).2.2 | (with_reducible refine Kd.C_alloc ?_ _) | (with_reducible refine Kd.C_drewN ?_ _) | (with_reducible refine Kd.C_drew ?_))); (case side2 => exact (Kd.R_reads' HO276.out).2.1); (case side3 => exact HG.below hgG_ (hbS HB (IsS121.ge HI187.out))); rintro e w153 ⟨v280, rfl, ho0, hb⟩; refine ⟨_, rfl, ?_⟩; have n0_ := Aside0.mk (Kd.R_elder' (rD HO_5.out) (Kd.R_base ho0) hb); have n1_ := Aside0.mk (Kd.R_elder' (rD HO_189000.out) (Kd.R_base ho0) hb); have n2_ := Aside0.mk (Kd.R_elder' (rD HO267.out) (Kd.R_base ho0) hb); have n3_ := Aside0.mk (Kd.R_elder' (rD HO272.out) (Kd.R_base ho0) hb); have n4_ := Aside0.mk (Kd.R_elder' (rD HO276.out) (Kd.R_base ho0) hb); have n5_ := Aside0.mk (Kd.R_lower (Kd.R_new' (Kd.R_new' (Kd.R_new' (Kd.R_new' (Kd.R_new' ho0 (Kd.R_lt (rD HO_5.out))) (Kd.R_lt (rD HO_189000.out))) (Kd.R_lt (rD HO267.out))) (Kd.R_lt (rD HO272.out))) (Kd.R_lt (rD HO276.out))) (below_size (hbS HB (IsS121.ge HI187.out)))); have n6_ := Aside0.mk (blk_below (bkD BK188) hb); have n7_ := Aside0.mk (IsS121.below (isD HI187) hb); have n8_ := Aside0.mk (below_step (hbS HB (IsS121.ge HI187.out)) hb); clear HO_5 HO_189000 HO267 HO272 HO276 BK188 HI187 HB; have HO_5 := n0_; have HO_189000 := n1_; have HO267 := n2_; have HO272 := n3_; have HO276 := n4_; have HO281 := n5_; have BK188 := n6_; have HI187 := n7_; have HB := n8_; clear n0_ n1_ n2_ n3_ n4_ n5_ n6_ n7_ n8_; (try clear hb); (try clear hb2); (try clear hk); (try clear hi); (try clear ho0); obtain ⟨Ao154, co154, eo154⟩ := Kd.R_slice HO281.out; subst eo154) | (go_at_call 32; (with_reducible refine (laws_smText.calls kj109 _ _ t279 _ _ x5_15 true _ ?side1 ?side2 ?side3 ?side4 A136.out).mono ?_); (case side1 => repeat (first | exact (Kd.R_reads' HO281.out).2.2 | (with_reducible refine Kd.C_alloc ?_ _) | (with_reducible refine Kd.C_drewN ?_ _) | (with_reducible refine Kd.C_drew ?_))); (case side2 => exact (Kd.R_reads' HO281.out).2.1); (case side3 => repeat (first | exact (Kd.R_reads' HO_5.out).2.2 | (with_reducible refine Kd.C_alloc ?_ _) | (with_reducible refine Kd.C_drewN ?_ _) | (with_reducible refine Kd.C_drew ?_))); (case side4 => exact (Kd.R_reads' HO_5.out).2.1); rintro e w' ⟨rfl, ⟨nd, rfl⟩⟩; have q155 : (t262 : Int) ≤ ((x5_15.length : Int) : Int) := of_decide_eq_true (by first | (with_reducible assumption) | assumption); obtain ⟨i0155, hi0155, _, hsz155, _⟩ := info_parts info21; have hroom155 : x5_15.length ≤ co142 := (Kd.R_reads' HO_5.out).2.1; have hC155 : Kd.C (Kd.int .i32) _ Ao142 x5_15.length x5_15 := (Kd.R_reads' HO_5.out).2.2; have q0155 : (0 : Int) ≤ (t262 : Int) := of_decide_eq_true (by first | (with_reducible assumption) | assumption); have hcut155 := cut_from (P := Tryd.prog) 22 21 .i64 Tryd.underlying22 hi0155 1 hsz155 Ao142 x5_15.length co142 t262 q0155 q155; have hr155 := Kd.C_drop (m := (t262 : Int).toNat) (c := co142) hC155 (by omega) hroom155; obtain ⟨A155, hA155⟩ : ∃ A1, A1 = (if co142 = (t262 : Int).toNat then Ao142 else (Ao142 : Option Addr).map (·.add ((t262 : Int).toNat * 1))) := ⟨_, rfl⟩; obtain ⟨c155, hc155⟩ : ∃ c1, c1 = co142 - (t262 : Int).toNat := ⟨_, rfl⟩; have hy155 : y284.length = x5_15.length - (t262 : Int).toNat := (by rw [Ny284.out, List.length_drop] <;> omega); rw [show (x5_15).drop (t262 : Int).toNat = y284 from Ny284.out.symm] at hr155; replace hr155 : Kd.C (Kd.int .i32) _ A155 y284.length y284 := (by rw [hA155]; exact hr155); rw [← hy155, ← hA155, ← hc155] at hcut155; have HR287 := Aside0.mk hr155; have HC287 := Aside0.mk (show y284.length ≤ c155 from by rw [hy155, hc155]; exact Nat.sub_le_sub_right hroom155 _); clear hr155 hC155 hroom155 hi0155 hsz155 hc155; have KY155 := Aside0.mk hy155; have KA155 := Aside0.mk hA155; clear hy155 hA155; have KL155 := Aside0.mk (show (t262 : Int).toNat ≤ x5_15.length from by omega); replace q155 := eq_true q155; obtain ⟨Ao156, co156, eo156⟩ := Kd.R_slice HO272.out; subst eo156) | (go_at_call 32; (with_reducible refine (laws_smText.calls kj109 _ _ t270 _ _ y284 true _ ?side1 ?side2 ?side3 ?side4 A140.out).mono ?_); (case side1 => repeat (first | exact (Kd.R_reads' HO272.out).2.2 | (with_reducible refine Kd.C_alloc ?_ _) | (with_reducible refine Kd.C_drewN ?_ _) | (with_reducible refine Kd.C_drew ?_))); (case side2 => exact (Kd.R_reads' HO272.out).2.1); (case side3 => repeat (first | exact (by repeat (first | (with_reducible exact HR287.out) | (with_reducible refine Kd.C_alloc ?_ _) | (with_reducible refine Kd.C_drewN ?_ _) | (with_reducible refine Kd.C_drew ?_) | exact HR287.out)) | (with_reducible refine Kd.C_alloc ?_ _) | (with_reducible refine Kd.C_drewN ?_ _) | (with_reducible refine Kd.C_drew ?_))); (case side4 => exact HC287.out); rintro e w' ⟨rfl, ⟨nd, rfl⟩⟩))
                go_roundg kj109
                case measure => have := HK1.out; have := HJ15.out; have := HJ109.out; omega
                case rel => exact ⟨(x5_15), (wrap64 (x6_1 - 1)), (t263), (t264), (x189000_15), (x189001_15), (x189002_15), (.slice Ao146 x189000_15.length co146), (by first | rfl | (simp; done) | (simp [*]; done)), H', ⟨by have := HK1.out; have := HJ15.out; have := HJ109.out; omega⟩, ⟨by (with_reducible repeat (first | apply Kd.R_alloc | apply Kd.R_drewN | apply Kd.R_drew)); exact Kd.R_mono HO_5.out (fun _ hk => hk.1.1.1.1)⟩, ⟨by (with_reducible repeat (first | apply Kd.R_alloc | apply Kd.R_drewN | apply Kd.R_drew)); exact Kd.R_mono HO_189000.out (fun _ hk => hk.1.1.1.1)⟩, ⟨by (with_reducible repeat (first | refine blk_drewN ?_ _ | refine blk_drew ?_ | refine blk_alloc ?_ _)); exact BK188.out⟩, ⟨by repeat (first | (with_reducible first | exact HI187.out | apply IsS121.alloc | apply IsS121.drewN | apply IsS121.drew | apply IsS121.set_1 | apply IsS121.set_2 | refine IsS121.far ?_ NB187_188.out _) | exact HI187.out)⟩, ⟨by repeat (first | (with_reducible first | exact HB.out | apply below_alloc | apply pw_below_drewN | apply below_drew1 | refine below_set ?_ (IsS121.ge HI187.out) | refine below_set ?_ GE188.out) | exact HB.out)⟩⟩
               ·replace c141 := Bool.eq_false_iff.mpr c141
                subst c141
                have H1 : (some false) = some r := by rw [if_neg (show ¬ (false = true) by decide)] at H; exact H
                clear H
                have H := H1
                clear H1
                obtain rfl := Option.some.inj H
                obtain ⟨Ao157, co157, eo157⟩ := Kd.R_slice HO_5.out
                subst eo157
                go_wp2_with (first | ((with_reducible refine gate_callee (f := 26) rfl ?_); refine goesL_ (some 129) rfl rfl Tryd.func26 (by kernel_rfl) rfl #[.pointer (some ⟨g187, 0, none⟩), .int .i64 (wrap64 ((x5_15.length : Int) + 1))] rfl (by (try simp only [List.map_toArray, List.map_cons, List.map_nil]); first | done | rfl | (simp only [List.length_drop, List.length_take]; rfl)) ?_; (with_reducible refine (spec_l1Src_N.calls g187 t184 x188001_15 x188002_15 (wrap64 ((x5_15.length : Int) + 1)) t262 t263 t264 w _ ?side1 ?side2 A129.out).mono ?_); (case side1 => repeat (first | (with_reducible first | exact HI187.out | apply IsS121.alloc | apply IsS121.drewN | apply IsS121.drew | apply IsS121.set_1 | apply IsS121.set_2 | refine IsS121.far ?_ NB187_188.out _) | exact HI187.out)); (case side2 => repeat (first | (with_reducible first | exact HB.out | apply below_alloc | apply pw_below_drewN | apply below_drew1 | refine below_set ?_ (IsS121.ge HI187.out) | refine below_set ?_ GE188.out) | exact HB.out)); rintro e w158 ⟨rfl, hi, hb, hk⟩; refine ⟨_, rfl, ?_⟩; have n0_ := Aside0.mk (Kd.R_mono (Kd.R_keep (IsS121.apart (isD HI187 (f := x188001_15) (f' := x188002_15)) (rD HO_5.out) (by decide)) hk (fun _ h => h.2)) (fun _ h => h.1)); have n1_ := Aside0.mk (Kd.R_mono (Kd.R_keep (IsS121.apart (isD HI187 (f := x188001_15) (f' := x188002_15)) (rD HO_189000.out) (by decide)) hk (fun _ h => h.2)) (fun _ h => h.1)); have n2_ := Aside0.mk (KeepBut.blk hk (g' := gb188) (o := .cells #[u189000, .int .i64 x189001_15, .int .i64 x189002_15] 28 (0, 0)) (bkD BK188) NB188_187.out (by simp)); have n3_ := Aside0.mk (hb); have n4_ := Aside0.mk (hi); clear HO_5 HO_189000 BK188 HB HI187; have HO_5 := n0_; have HO_189000 := n1_; have BK188 := n2_; have HB := n3_; have HI187 := n4_; clear n0_ n1_ n2_ n3_ n4_; (try clear hb); (try clear hb2); (try clear hk); (try clear hi); have hnb159 := NB188_187.out; have hnc159 := NB187_188.out; have hcz160_0 : w158.cell? ⟨gb188, 0, none⟩ = some (u189000) := (blk_cell BK188.out 0).trans rfl; have hcz160_1 : w158.cell? ⟨gb188, 1, none⟩ = some (.int .i64 x189001_15) := (blk_cell BK188.out 1).trans rfl; have hcz160_2 : w158.cell? ⟨gb188, 2, none⟩ = some (.int .i64 x189002_15) := (blk_cell BK188.out 2).trans rfl; have hfz160_0 := blk_frozen BK188.out 0; have hfz160_1 := blk_frozen BK188.out 1; have hfz160_2 := blk_frozen BK188.out 2; obtain ⟨Ao161, co161, eo161⟩ := Kd.R_slice HO_189000.out; subst eo161) | ((with_reducible refine gate_callee (f := 31) rfl ?_); refine goesL_ (some 132) rfl rfl Tryd.func31 (by kernel_rfl) rfl #[.agg #[.slice Ao161 x189000_15.length co161, .int .i64 x189001_15, .int .i64 x189002_15]] rfl (by (try simp only [List.map_toArray, List.map_cons, List.map_nil]); first | done | rfl | (simp only [List.length_drop, List.length_take]; rfl)) ?_; (with_reducible refine (laws_cpGap.calls _ _ x189000_15 x189001_15 x189002_15 t265 t268 t269 _ ?side1 ?side2 A130.out).mono ?_); (case side1 => repeat (first | exact (Kd.R_reads' HO_189000.out).2.2 | (with_reducible refine Kd.C_alloc ?_ _) | (with_reducible refine Kd.C_drewN ?_ _) | (with_reducible refine Kd.C_drew ?_))); (case side2 => exact (Kd.R_reads' HO_189000.out).2.1); rintro e w162 ⟨v266, rfl, ho0, hb⟩; refine ⟨_, rfl, ?_⟩; have n0_ := Aside0.mk (Kd.R_elder' (rD HO_5.out) (Kd.R_base ho0) hb); have n1_ := Aside0.mk (Kd.R_elder' (rD HO_189000.out) (Kd.R_base ho0) hb); have n2_ := Aside0.mk (Kd.R_lower (Kd.R_new' (Kd.R_new' ho0 (Kd.R_lt (rD HO_5.out))) (Kd.R_lt (rD HO_189000.out))) (below_size (hbS HB (IsS121.ge HI187.out)))); have n3_ := Aside0.mk (blk_below (bkD BK188) hb); have n4_ := Aside0.mk (IsS121.below (isD HI187) hb); have n5_ := Aside0.mk (below_step (hbS HB (IsS121.ge HI187.out)) hb); clear HO_5 HO_189000 BK188 HI187 HB; have HO_5 := n0_; have HO_189000 := n1_; have HO267 := n2_; have BK188 := n3_; have HI187 := n4_; have HB := n5_; clear n0_ n1_ n2_ n3_ n4_ n5_; (try clear hb); (try clear hb2); (try clear hk); (try clear hi); (try clear ho0); obtain ⟨Ao163, co163, eo163⟩ := Kd.R_slice HO267.out; subst eo163) | ((with_reducible refine gate_callee (f := 13) rfl ?_); refine goesL_ (some 136) rfl rfl Tryd.func13 (by kernel_rfl) rfl #[.agg #[.slice Ao163 t265.length co163, .int .i64 t268, .int .i64 t269], .int .i64 t262, .int .i64 (x5_15.length : Int)] rfl (by (try simp only [List.map_toArray, List.map_cons, List.map_nil]); first | done | rfl | (simp only [List.length_drop, List.length_take]; rfl)) ?_; (with_reducible refine (impl_GapRead.calls _ _ t265 t268 t269 t262 (x5_15.length : Int) t270 t273 _ ?side1 ?side2 ?side3 A131.out).mono ?_); (case side1 => repeat (first | exact (Kd.R_reads' HO267.out).2.2 | (with_reducible refine Kd.C_alloc ?_ _) | (with_reducible refine Kd.C_drewN ?_ _) | (with_reducible refine Kd.C_drew ?_))); (case side2 => exact (Kd.R_reads' HO267.out).2.1); (case side3 => exact HG.below hgG_ (hbS HB (IsS121.ge HI187.out))); rintro e w164 ⟨v271, rfl, ho0, hb⟩; refine ⟨_, rfl, ?_⟩; have n0_ := Aside0.mk (Kd.R_elder' (rD HO_5.out) (Kd.R_base ho0) hb); have n1_ := Aside0.mk (Kd.R_elder' (rD HO_189000.out) (Kd.R_base ho0) hb); have n2_ := Aside0.mk (Kd.R_elder' (rD HO267.out) (Kd.R_base ho0) hb); have n3_ := Aside0.mk (Kd.R_lower (Kd.R_new' (Kd.R_new' (Kd.R_new' ho0 (Kd.R_lt (rD HO_5.out))) (Kd.R_lt (rD HO_189000.out))) (Kd.R_lt (rD HO267.out))) (below_size (hbS HB (IsS121.ge HI187.out)))); have n4_ := Aside0.mk (blk_below (bkD BK188) hb); have n5_ := Aside0.mk (IsS121.below (isD HI187) hb); have n6_ := Aside0.mk (below_step (hbS HB (IsS121.ge HI187.out)) hb); clear HO_5 HO_189000 HO267 BK188 HI187 HB; have HO_5 := n0_; have HO_189000 := n1_; have HO267 := n2_; have HO272 := n3_; have BK188 := n4_; have HI187 := n5_; have HB := n6_; clear n0_ n1_ n2_ n3_ n4_ n5_ n6_; (try clear hb); (try clear hb2); (try clear hk); (try clear hi); (try clear ho0); have hcz165_0 : w164.cell? ⟨gb188, 0, none⟩ = some (.slice Ao161 x189000_15.length co161) := (blk_cell BK188.out 0).trans rfl; have hcz165_1 : w164.cell? ⟨gb188, 1, none⟩ = some (.int .i64 x189001_15) := (blk_cell BK188.out 1).trans rfl; have hcz165_2 : w164.cell? ⟨gb188, 2, none⟩ = some (.int .i64 x189002_15) := (blk_cell BK188.out 2).trans rfl; have hfz165_0 := blk_frozen BK188.out 0; have hfz165_1 := blk_frozen BK188.out 1; have hfz165_2 := blk_frozen BK188.out 2) | ((with_reducible refine gate_callee (f := 31) rfl ?_); refine goesL_ (some 141) rfl rfl Tryd.func31 (by kernel_rfl) rfl #[.agg #[.slice Ao161 x189000_15.length co161, .int .i64 x189001_15, .int .i64 x189002_15]] rfl (by (try simp only [List.map_toArray, List.map_cons, List.map_nil]); first | done | rfl | (simp only [List.length_drop, List.length_take]; rfl)) ?_; (with_reducible refine (laws_cpGap.calls _ _ x189000_15 x189001_15 x189002_15 t274 t277 t278 _ ?side1 ?side2 A132.out).mono ?_); (case side1 => repeat (first | exact (Kd.R_reads' HO_189000.out).2.2 | (with_reducible refine Kd.C_alloc ?_ _) | (with_reducible refine Kd.C_drewN ?_ _) | (with_reducible refine Kd.C_drew ?_))); (case side2 => exact (Kd.R_reads' HO_189000.out).2.1); rintro e w166 ⟨v275, rfl, ho0, hb⟩; refine ⟨_, rfl, ?_⟩; have n0_ := Aside0.mk (Kd.R_elder' (rD HO_5.out) (Kd.R_base ho0) hb); have n1_ := Aside0.mk (Kd.R_elder' (rD HO_189000.out) (Kd.R_base ho0) hb); have n2_ := Aside0.mk (Kd.R_elder' (rD HO267.out) (Kd.R_base ho0) hb); have n3_ := Aside0.mk (Kd.R_elder' (rD HO272.out) (Kd.R_base ho0) hb); have n4_ := Aside0.mk (Kd.R_lower (Kd.R_new' (Kd.R_new' (Kd.R_new' (Kd.R_new' ho0 (Kd.R_lt (rD HO_5.out))) (Kd.R_lt (rD HO_189000.out))) (Kd.R_lt (rD HO267.out))) (Kd.R_lt (rD HO272.out))) (below_size (hbS HB (IsS121.ge HI187.out)))); have n5_ := Aside0.mk (blk_below (bkD BK188) hb); have n6_ := Aside0.mk (IsS121.below (isD HI187) hb); have n7_ := Aside0.mk (below_step (hbS HB (IsS121.ge HI187.out)) hb); clear HO_5 HO_189000 HO267 HO272 BK188 HI187 HB; have HO_5 := n0_; have HO_189000 := n1_; have HO267 := n2_; have HO272 := n3_; have HO276 := n4_; have BK188 := n5_; have HI187 := n6_; have HB := n7_; clear n0_ n1_ n2_ n3_ n4_ n5_ n6_ n7_; (try clear hb); (try clear hb2); (try clear hk); (try clear hi); (try clear ho0); obtain ⟨Ao167, co167, eo167⟩ := Kd.R_slice HO276.out; subst eo167) | ((with_reducible refine gate_callee (f := 13) rfl ?_); refine goesL_ (some 144) rfl rfl Tryd.func13 (by kernel_rfl) rfl #[.agg #[.slice Ao167 t274.length co167, .int .i64 t277, .int .i64 t278], .int .i64 0, .int .i64 (x5_15.length : Int)] rfl (by (try simp only [List.map_toArray, List.map_cons, List.map_nil]); first | done | rfl | (simp only [List.length_drop, List.length_take]; rfl)) ?_; (with_reducible refine (impl_GapRead.calls _ _ t274 t277 t278 0 (x5_15.length : Int) t279 t282 _ ?side1 ?side2 ?side3 A133.out).mono ?_); (case side1 => repeat (first | exact (Kd.R_reads' HO276.out).2.2 | (with_reducible refine Kd.C_alloc ?_ _) | (with_reducible refine Kd.C_drewN ?_ _) | (with_reducible refine Kd.C_drew ?_))); (case side2 => exact (Kd.R_reads' HO276.out).2.1); (case side3 => exact HG.below hgG_ (hbS HB (IsS121.ge HI187.out))); rintro e w168 ⟨v280, rfl, ho0, hb⟩; refine ⟨_, rfl, ?_⟩; have n0_ := Aside0.mk (Kd.R_elder' (rD HO_5.out) (Kd.R_base ho0) hb); have n1_ := Aside0.mk (Kd.R_elder' (rD HO_189000.out) (Kd.R_base ho0) hb); have n2_ := Aside0.mk (Kd.R_elder' (rD HO267.out) (Kd.R_base ho0) hb); have n3_ := Aside0.mk (Kd.R_elder' (rD HO272.out) (Kd.R_base ho0) hb); have n4_ := Aside0.mk (Kd.R_elder' (rD HO276.out) (Kd.R_base ho0) hb); have n5_ := Aside0.mk (Kd.R_lower (Kd.R_new' (Kd.R_new' (Kd.R_new' (Kd.R_new' (Kd.R_new' ho0 (Kd.R_lt (rD HO_5.out))) (Kd.R_lt (rD HO_189000.out))) (Kd.R_lt (rD HO267.out))) (Kd.R_lt (rD HO272.out))) (Kd.R_lt (rD HO276.out))) (below_size (hbS HB (IsS121.ge HI187.out)))); have n6_ := Aside0.mk (blk_below (bkD BK188) hb); have n7_ := Aside0.mk (IsS121.below (isD HI187) hb); have n8_ := Aside0.mk (below_step (hbS HB (IsS121.ge HI187.out)) hb); clear HO_5 HO_189000 HO267 HO272 HO276 BK188 HI187 HB; have HO_5 := n0_; have HO_189000 := n1_; have HO267 := n2_; have HO272 := n3_; have HO276 := n4_; have HO281 := n5_; have BK188 := n6_; have HI187 := n7_; have HB := n8_; clear n0_ n1_ n2_ n3_ n4_ n5_ n6_ n7_ n8_; (try clear hb); (try clear hb2); (try clear hk); (try clear hi); (try clear ho0); obtain ⟨Ao169, co169, eo169⟩ := Kd.R_slice HO281.out; subst eo169) | (go_at_call 32; (with_reducible refine (laws_smText.calls kj109 _ _ t279 _ _ x5_15 true _ ?side1 ?side2 ?side3 ?side4 A136.out).mono ?_); (case side1 => repeat (first | exact (Kd.R_reads' HO281.out).2.2 | (with_reducible refine Kd.C_alloc ?_ _) | (with_reducible refine Kd.C_drewN ?_ _) | (with_reducible refine Kd.C_drew ?_))); (case side2 => exact (Kd.R_reads' HO281.out).2.1); (case side3 => repeat (first | exact (Kd.R_reads' HO_5.out).2.2 | (with_reducible refine Kd.C_alloc ?_ _) | (with_reducible refine Kd.C_drewN ?_ _) | (with_reducible refine Kd.C_drew ?_))); (case side4 => exact (Kd.R_reads' HO_5.out).2.1); rintro e w' ⟨rfl, ⟨nd, rfl⟩⟩; have q170 : (t262 : Int) ≤ ((x5_15.length : Int) : Int) := of_decide_eq_true (by first | (with_reducible assumption) | assumption); obtain ⟨i0170, hi0170, _, hsz170, _⟩ := info_parts info21; have hroom170 : x5_15.length ≤ co157 := (Kd.R_reads' HO_5.out).2.1; have hC170 : Kd.C (Kd.int .i32) _ Ao157 x5_15.length x5_15 := (Kd.R_reads' HO_5.out).2.2; have q0170 : (0 : Int) ≤ (t262 : Int) := of_decide_eq_true (by first | (with_reducible assumption) | assumption); have hcut170 := cut_from (P := Tryd.prog) 22 21 .i64 Tryd.underlying22 hi0170 1 hsz170 Ao157 x5_15.length co157 t262 q0170 q170; have hr170 := Kd.C_drop (m := (t262 : Int).toNat) (c := co157) hC170 (by omega) hroom170; obtain ⟨A170, hA170⟩ : ∃ A1, A1 = (if co157 = (t262 : Int).toNat then Ao157 else (Ao157 : Option Addr).map (·.add ((t262 : Int).toNat * 1))) := ⟨_, rfl⟩; obtain ⟨c170, hc170⟩ : ∃ c1, c1 = co157 - (t262 : Int).toNat := ⟨_, rfl⟩; have hy170 : y284.length = x5_15.length - (t262 : Int).toNat := (by rw [Ny284.out, List.length_drop] <;> omega); rw [show (x5_15).drop (t262 : Int).toNat = y284 from Ny284.out.symm] at hr170; replace hr170 : Kd.C (Kd.int .i32) _ A170 y284.length y284 := (by rw [hA170]; exact hr170); rw [← hy170, ← hA170, ← hc170] at hcut170; have HR287 := Aside0.mk hr170; have HC287 := Aside0.mk (show y284.length ≤ c170 from by rw [hy170, hc170]; exact Nat.sub_le_sub_right hroom170 _); clear hr170 hC170 hroom170 hi0170 hsz170 hc170; have KY170 := Aside0.mk hy170; have KA170 := Aside0.mk hA170; clear hy170 hA170; have KL170 := Aside0.mk (show (t262 : Int).toNat ≤ x5_15.length from by omega); replace q170 := eq_true q170; obtain ⟨Ao171, co171, eo171⟩ := Kd.R_slice HO272.out; subst eo171) | (go_at_call 32; (with_reducible refine (laws_smText.calls kj109 _ _ t270 _ _ y284 false _ ?side1 ?side2 ?side3 ?side4 A140.out).mono ?_); (case side1 => repeat (first | exact (Kd.R_reads' HO272.out).2.2 | (with_reducible refine Kd.C_alloc ?_ _) | (with_reducible refine Kd.C_drewN ?_ _) | (with_reducible refine Kd.C_drew ?_))); (case side2 => exact (Kd.R_reads' HO272.out).2.1); (case side3 => repeat (first | exact (by repeat (first | (with_reducible exact HR287.out) | (with_reducible refine Kd.C_alloc ?_ _) | (with_reducible refine Kd.C_drewN ?_ _) | (with_reducible refine Kd.C_drew ?_) | exact HR287.out)) | (with_reducible refine Kd.C_alloc ?_ _) | (with_reducible refine Kd.C_drewN ?_ _) | (with_reducible refine Kd.C_drew ?_))); (case side4 => exact HC287.out); rintro e w' ⟨rfl, ⟨nd, rfl⟩⟩))
                go_ret
                exact ⟨by first | rfl | (simp [errW_none, errW_some] <;> rfl) | (simp [*, errW_none, errW_some] <;> rfl), by repeat (first | (with_reducible first | exact HB.out | apply below_alloc | apply pw_below_drewN | apply below_drew1 | refine below_set ?_ (IsS121.ge HI187.out) | refine below_set ?_ GE188.out) | exact HB.out)⟩
              ·rw [if_neg c139] at H
               exact absurd H (by simp)
             ·rw [if_neg c138] at H
              exact absurd H (by simp)
            ·replace c137 := Bool.eq_false_iff.mpr c137
             subst c137
             have H1 : (some false) = some r := by rw [if_neg (show ¬ (false = true) by decide)] at H; exact H
             clear H
             have H := H1
             clear H1
             obtain rfl := Option.some.inj H
             obtain ⟨Ao172, co172, eo172⟩ := Kd.R_slice HO_5.out
             subst eo172
             go_wp2_with (first | ((with_reducible refine gate_callee (f := 26) rfl ?_); refine goesL_ (some 129) rfl rfl Tryd.func26 (by kernel_rfl) rfl #[.pointer (some ⟨g187, 0, none⟩), .int .i64 (wrap64 ((x5_15.length : Int) + 1))] rfl (by (try simp only [List.map_toArray, List.map_cons, List.map_nil]); first | done | rfl | (simp only [List.length_drop, List.length_take]; rfl)) ?_; (with_reducible refine (spec_l1Src_N.calls g187 t184 x188001_15 x188002_15 (wrap64 ((x5_15.length : Int) + 1)) t262 t263 t264 w _ ?side1 ?side2 A129.out).mono ?_); (case side1 => repeat (first | (with_reducible first | exact HI187.out | apply IsS121.alloc | apply IsS121.drewN | apply IsS121.drew | apply IsS121.set_1 | apply IsS121.set_2 | refine IsS121.far ?_ NB187_188.out _) | exact HI187.out)); (case side2 => repeat (first | (with_reducible first | exact HB.out | apply below_alloc | apply pw_below_drewN | apply below_drew1 | refine below_set ?_ (IsS121.ge HI187.out) | refine below_set ?_ GE188.out) | exact HB.out)); rintro e w173 ⟨rfl, hi, hb, hk⟩; refine ⟨_, rfl, ?_⟩; have n0_ := Aside0.mk (Kd.R_mono (Kd.R_keep (IsS121.apart (isD HI187 (f := x188001_15) (f' := x188002_15)) (rD HO_5.out) (by decide)) hk (fun _ h => h.2)) (fun _ h => h.1)); have n1_ := Aside0.mk (Kd.R_mono (Kd.R_keep (IsS121.apart (isD HI187 (f := x188001_15) (f' := x188002_15)) (rD HO_189000.out) (by decide)) hk (fun _ h => h.2)) (fun _ h => h.1)); have n2_ := Aside0.mk (KeepBut.blk hk (g' := gb188) (o := .cells #[u189000, .int .i64 x189001_15, .int .i64 x189002_15] 28 (0, 0)) (bkD BK188) NB188_187.out (by simp)); have n3_ := Aside0.mk (hb); have n4_ := Aside0.mk (hi); clear HO_5 HO_189000 BK188 HB HI187; have HO_5 := n0_; have HO_189000 := n1_; have BK188 := n2_; have HB := n3_; have HI187 := n4_; clear n0_ n1_ n2_ n3_ n4_; (try clear hb); (try clear hb2); (try clear hk); (try clear hi); have hnb174 := NB188_187.out; have hnc174 := NB187_188.out; have hcz175_0 : w173.cell? ⟨gb188, 0, none⟩ = some (u189000) := (blk_cell BK188.out 0).trans rfl; have hcz175_1 : w173.cell? ⟨gb188, 1, none⟩ = some (.int .i64 x189001_15) := (blk_cell BK188.out 1).trans rfl; have hcz175_2 : w173.cell? ⟨gb188, 2, none⟩ = some (.int .i64 x189002_15) := (blk_cell BK188.out 2).trans rfl; have hfz175_0 := blk_frozen BK188.out 0; have hfz175_1 := blk_frozen BK188.out 1; have hfz175_2 := blk_frozen BK188.out 2; obtain ⟨Ao176, co176, eo176⟩ := Kd.R_slice HO_189000.out; subst eo176) | ((with_reducible refine gate_callee (f := 31) rfl ?_); refine goesL_ (some 132) rfl rfl Tryd.func31 (by kernel_rfl) rfl #[.agg #[.slice Ao176 x189000_15.length co176, .int .i64 x189001_15, .int .i64 x189002_15]] rfl (by (try simp only [List.map_toArray, List.map_cons, List.map_nil]); first | done | rfl | (simp only [List.length_drop, List.length_take]; rfl)) ?_; (with_reducible refine (laws_cpGap.calls _ _ x189000_15 x189001_15 x189002_15 t265 t268 t269 _ ?side1 ?side2 A130.out).mono ?_); (case side1 => repeat (first | exact (Kd.R_reads' HO_189000.out).2.2 | (with_reducible refine Kd.C_alloc ?_ _) | (with_reducible refine Kd.C_drewN ?_ _) | (with_reducible refine Kd.C_drew ?_))); (case side2 => exact (Kd.R_reads' HO_189000.out).2.1); rintro e w177 ⟨v266, rfl, ho0, hb⟩; refine ⟨_, rfl, ?_⟩; have n0_ := Aside0.mk (Kd.R_elder' (rD HO_5.out) (Kd.R_base ho0) hb); have n1_ := Aside0.mk (Kd.R_elder' (rD HO_189000.out) (Kd.R_base ho0) hb); have n2_ := Aside0.mk (Kd.R_lower (Kd.R_new' (Kd.R_new' ho0 (Kd.R_lt (rD HO_5.out))) (Kd.R_lt (rD HO_189000.out))) (below_size (hbS HB (IsS121.ge HI187.out)))); have n3_ := Aside0.mk (blk_below (bkD BK188) hb); have n4_ := Aside0.mk (IsS121.below (isD HI187) hb); have n5_ := Aside0.mk (below_step (hbS HB (IsS121.ge HI187.out)) hb); clear HO_5 HO_189000 BK188 HI187 HB; have HO_5 := n0_; have HO_189000 := n1_; have HO267 := n2_; have BK188 := n3_; have HI187 := n4_; have HB := n5_; clear n0_ n1_ n2_ n3_ n4_ n5_; (try clear hb); (try clear hb2); (try clear hk); (try clear hi); (try clear ho0); obtain ⟨Ao178, co178, eo178⟩ := Kd.R_slice HO267.out; subst eo178) | ((with_reducible refine gate_callee (f := 13) rfl ?_); refine goesL_ (some 136) rfl rfl Tryd.func13 (by kernel_rfl) rfl #[.agg #[.slice Ao178 t265.length co178, .int .i64 t268, .int .i64 t269], .int .i64 t262, .int .i64 (x5_15.length : Int)] rfl (by (try simp only [List.map_toArray, List.map_cons, List.map_nil]); first | done | rfl | (simp only [List.length_drop, List.length_take]; rfl)) ?_; (with_reducible refine (impl_GapRead.calls _ _ t265 t268 t269 t262 (x5_15.length : Int) t270 t273 _ ?side1 ?side2 ?side3 A131.out).mono ?_); (case side1 => repeat (first | exact (Kd.R_reads' HO267.out).2.2 | (with_reducible refine Kd.C_alloc ?_ _) | (with_reducible refine Kd.C_drewN ?_ _) | (with_reducible refine Kd.C_drew ?_))); (case side2 => exact (Kd.R_reads' HO267.out).2.1); (case side3 => exact HG.below hgG_ (hbS HB (IsS121.ge HI187.out))); rintro e w179 ⟨v271, rfl, ho0, hb⟩; refine ⟨_, rfl, ?_⟩; have n0_ := Aside0.mk (Kd.R_elder' (rD HO_5.out) (Kd.R_base ho0) hb); have n1_ := Aside0.mk (Kd.R_elder' (rD HO_189000.out) (Kd.R_base ho0) hb); have n2_ := Aside0.mk (Kd.R_elder' (rD HO267.out) (Kd.R_base ho0) hb); have n3_ := Aside0.mk (Kd.R_lower (Kd.R_new' (Kd.R_new' (Kd.R_new' ho0 (Kd.R_lt (rD HO_5.out))) (Kd.R_lt (rD HO_189000.out))) (Kd.R_lt (rD HO267.out))) (below_size (hbS HB (IsS121.ge HI187.out)))); have n4_ := Aside0.mk (blk_below (bkD BK188) hb); have n5_ := Aside0.mk (IsS121.below (isD HI187) hb); have n6_ := Aside0.mk (below_step (hbS HB (IsS121.ge HI187.out)) hb); clear HO_5 HO_189000 HO267 BK188 HI187 HB; have HO_5 := n0_; have HO_189000 := n1_; have HO267 := n2_; have HO272 := n3_; have BK188 := n4_; have HI187 := n5_; have HB := n6_; clear n0_ n1_ n2_ n3_ n4_ n5_ n6_; (try clear hb); (try clear hb2); (try clear hk); (try clear hi); (try clear ho0); have hcz180_0 : w179.cell? ⟨gb188, 0, none⟩ = some (.slice Ao176 x189000_15.length co176) := (blk_cell BK188.out 0).trans rfl; have hcz180_1 : w179.cell? ⟨gb188, 1, none⟩ = some (.int .i64 x189001_15) := (blk_cell BK188.out 1).trans rfl; have hcz180_2 : w179.cell? ⟨gb188, 2, none⟩ = some (.int .i64 x189002_15) := (blk_cell BK188.out 2).trans rfl; have hfz180_0 := blk_frozen BK188.out 0; have hfz180_1 := blk_frozen BK188.out 1; have hfz180_2 := blk_frozen BK188.out 2) | ((with_reducible refine gate_callee (f := 31) rfl ?_); refine goesL_ (some 141) rfl rfl Tryd.func31 (by kernel_rfl) rfl #[.agg #[.slice Ao176 x189000_15.length co176, .int .i64 x189001_15, .int .i64 x189002_15]] rfl (by (try simp only [List.map_toArray, List.map_cons, List.map_nil]); first | done | rfl | (simp only [List.length_drop, List.length_take]; rfl)) ?_; (with_reducible refine (laws_cpGap.calls _ _ x189000_15 x189001_15 x189002_15 t274 t277 t278 _ ?side1 ?side2 A132.out).mono ?_); (case side1 => repeat (first | exact (Kd.R_reads' HO_189000.out).2.2 | (with_reducible refine Kd.C_alloc ?_ _) | (with_reducible refine Kd.C_drewN ?_ _) | (with_reducible refine Kd.C_drew ?_))); (case side2 => exact (Kd.R_reads' HO_189000.out).2.1); rintro e w181 ⟨v275, rfl, ho0, hb⟩; refine ⟨_, rfl, ?_⟩; have n0_ := Aside0.mk (Kd.R_elder' (rD HO_5.out) (Kd.R_base ho0) hb); have n1_ := Aside0.mk (Kd.R_elder' (rD HO_189000.out) (Kd.R_base ho0) hb); have n2_ := Aside0.mk (Kd.R_elder' (rD HO267.out) (Kd.R_base ho0) hb); have n3_ := Aside0.mk (Kd.R_elder' (rD HO272.out) (Kd.R_base ho0) hb); have n4_ := Aside0.mk (Kd.R_lower (Kd.R_new' (Kd.R_new' (Kd.R_new' (Kd.R_new' ho0 (Kd.R_lt (rD HO_5.out))) (Kd.R_lt (rD HO_189000.out))) (Kd.R_lt (rD HO267.out))) (Kd.R_lt (rD HO272.out))) (below_size (hbS HB (IsS121.ge HI187.out)))); have n5_ := Aside0.mk (blk_below (bkD BK188) hb); have n6_ := Aside0.mk (IsS121.below (isD HI187) hb); have n7_ := Aside0.mk (below_step (hbS HB (IsS121.ge HI187.out)) hb); clear HO_5 HO_189000 HO267 HO272 BK188 HI187 HB; have HO_5 := n0_; have HO_189000 := n1_; have HO267 := n2_; have HO272 := n3_; have HO276 := n4_; have BK188 := n5_; have HI187 := n6_; have HB := n7_; clear n0_ n1_ n2_ n3_ n4_ n5_ n6_ n7_; (try clear hb); (try clear hb2); (try clear hk); (try clear hi); (try clear ho0); obtain ⟨Ao182, co182, eo182⟩ := Kd.R_slice HO276.out; subst eo182) | ((with_reducible refine gate_callee (f := 13) rfl ?_); refine goesL_ (some 144) rfl rfl Tryd.func13 (by kernel_rfl) rfl #[.agg #[.slice Ao182 t274.length co182, .int .i64 t277, .int .i64 t278], .int .i64 0, .int .i64 (x5_15.length : Int)] rfl (by (try simp only [List.map_toArray, List.map_cons, List.map_nil]); first | done | rfl | (simp only [List.length_drop, List.length_take]; rfl)) ?_; (with_reducible refine (impl_GapRead.calls _ _ t274 t277 t278 0 (x5_15.length : Int) t279 t282 _ ?side1 ?side2 ?side3 A133.out).mono ?_); (case side1 => repeat (first | exact (Kd.R_reads' HO276.out).2.2 | (with_reducible refine Kd.C_alloc ?_ _) | (with_reducible refine Kd.C_drewN ?_ _) | (with_reducible refine Kd.C_drew ?_))); (case side2 => exact (Kd.R_reads' HO276.out).2.1); (case side3 => exact HG.below hgG_ (hbS HB (IsS121.ge HI187.out))); rintro e w183 ⟨v280, rfl, ho0, hb⟩; refine ⟨_, rfl, ?_⟩; have n0_ := Aside0.mk (Kd.R_elder' (rD HO_5.out) (Kd.R_base ho0) hb); have n1_ := Aside0.mk (Kd.R_elder' (rD HO_189000.out) (Kd.R_base ho0) hb); have n2_ := Aside0.mk (Kd.R_elder' (rD HO267.out) (Kd.R_base ho0) hb); have n3_ := Aside0.mk (Kd.R_elder' (rD HO272.out) (Kd.R_base ho0) hb); have n4_ := Aside0.mk (Kd.R_elder' (rD HO276.out) (Kd.R_base ho0) hb); have n5_ := Aside0.mk (Kd.R_lower (Kd.R_new' (Kd.R_new' (Kd.R_new' (Kd.R_new' (Kd.R_new' ho0 (Kd.R_lt (rD HO_5.out))) (Kd.R_lt (rD HO_189000.out))) (Kd.R_lt (rD HO267.out))) (Kd.R_lt (rD HO272.out))) (Kd.R_lt (rD HO276.out))) (below_size (hbS HB (IsS121.ge HI187.out)))); have n6_ := Aside0.mk (blk_below (bkD BK188) hb); have n7_ := Aside0.mk (IsS121.below (isD HI187) hb); have n8_ := Aside0.mk (below_step (hbS HB (IsS121.ge HI187.out)) hb); clear HO_5 HO_189000 HO267 HO272 HO276 BK188 HI187 HB; have HO_5 := n0_; have HO_189000 := n1_; have HO267 := n2_; have HO272 := n3_; have HO276 := n4_; have HO281 := n5_; have BK188 := n6_; have HI187 := n7_; have HB := n8_; clear n0_ n1_ n2_ n3_ n4_ n5_ n6_ n7_ n8_; (try clear hb); (try clear hb2); (try clear hk); (try clear hi); (try clear ho0); obtain ⟨Ao184, co184, eo184⟩ := Kd.R_slice HO281.out; subst eo184) | (go_at_call 32; (with_reducible refine (laws_smText.calls kj109 _ _ t279 _ _ x5_15 false _ ?side1 ?side2 ?side3 ?side4 A136.out).mono ?_); (case side1 => repeat (first | exact (Kd.R_reads' HO281.out).2.2 | (with_reducible refine Kd.C_alloc ?_ _) | (with_reducible refine Kd.C_drewN ?_ _) | (with_reducible refine Kd.C_drew ?_))); (case side2 => exact (Kd.R_reads' HO281.out).2.1); (case side3 => repeat (first | exact (Kd.R_reads' HO_5.out).2.2 | (with_reducible refine Kd.C_alloc ?_ _) | (with_reducible refine Kd.C_drewN ?_ _) | (with_reducible refine Kd.C_drew ?_))); (case side4 => exact (Kd.R_reads' HO_5.out).2.1); rintro e w' ⟨rfl, ⟨nd, rfl⟩⟩))
             go_ret
             exact ⟨by first | rfl | (simp [errW_none, errW_some] <;> rfl) | (simp [*, errW_none, errW_some] <;> rfl), by repeat (first | (with_reducible first | exact HB.out | apply below_alloc | apply pw_below_drewN | apply below_drew1 | refine below_set ?_ (IsS121.ge HI187.out) | refine below_set ?_ GE188.out) | exact HB.out)⟩
           ·rw [if_neg c135] at H
            have c135b0 : (t282 == 0) = false := beq_eq_false_iff_ne.mpr c135
            have c135b1 : (t282 != 0) = true := bne_iff_ne.mpr c135
            obtain rfl := Option.some.inj H
            obtain ⟨Ao185, co185, eo185⟩ := Kd.R_slice HO_5.out
            subst eo185
            go_wp2_with (first | ((with_reducible refine gate_callee (f := 26) rfl ?_); refine goesL_ (some 129) rfl rfl Tryd.func26 (by kernel_rfl) rfl #[.pointer (some ⟨g187, 0, none⟩), .int .i64 (wrap64 ((x5_15.length : Int) + 1))] rfl (by (try simp only [List.map_toArray, List.map_cons, List.map_nil]); first | done | rfl | (simp only [List.length_drop, List.length_take]; rfl)) ?_; (with_reducible refine (spec_l1Src_N.calls g187 t184 x188001_15 x188002_15 (wrap64 ((x5_15.length : Int) + 1)) t262 t263 t264 w _ ?side1 ?side2 A129.out).mono ?_); (case side1 => repeat (first | (with_reducible first | exact HI187.out | apply IsS121.alloc | apply IsS121.drewN | apply IsS121.drew | apply IsS121.set_1 | apply IsS121.set_2 | refine IsS121.far ?_ NB187_188.out _) | exact HI187.out)); (case side2 => repeat (first | (with_reducible first | exact HB.out | apply below_alloc | apply pw_below_drewN | apply below_drew1 | refine below_set ?_ (IsS121.ge HI187.out) | refine below_set ?_ GE188.out) | exact HB.out)); rintro e w186 ⟨rfl, hi, hb, hk⟩; refine ⟨_, rfl, ?_⟩; have n0_ := Aside0.mk (Kd.R_mono (Kd.R_keep (IsS121.apart (isD HI187 (f := x188001_15) (f' := x188002_15)) (rD HO_5.out) (by decide)) hk (fun _ h => h.2)) (fun _ h => h.1)); have n1_ := Aside0.mk (Kd.R_mono (Kd.R_keep (IsS121.apart (isD HI187 (f := x188001_15) (f' := x188002_15)) (rD HO_189000.out) (by decide)) hk (fun _ h => h.2)) (fun _ h => h.1)); have n2_ := Aside0.mk (KeepBut.blk hk (g' := gb188) (o := .cells #[u189000, .int .i64 x189001_15, .int .i64 x189002_15] 28 (0, 0)) (bkD BK188) NB188_187.out (by simp)); have n3_ := Aside0.mk (hb); have n4_ := Aside0.mk (hi); clear HO_5 HO_189000 BK188 HB HI187; have HO_5 := n0_; have HO_189000 := n1_; have BK188 := n2_; have HB := n3_; have HI187 := n4_; clear n0_ n1_ n2_ n3_ n4_; (try clear hb); (try clear hb2); (try clear hk); (try clear hi); have hnb187 := NB188_187.out; have hnc187 := NB187_188.out; have hcz188_0 : w186.cell? ⟨gb188, 0, none⟩ = some (u189000) := (blk_cell BK188.out 0).trans rfl; have hcz188_1 : w186.cell? ⟨gb188, 1, none⟩ = some (.int .i64 x189001_15) := (blk_cell BK188.out 1).trans rfl; have hcz188_2 : w186.cell? ⟨gb188, 2, none⟩ = some (.int .i64 x189002_15) := (blk_cell BK188.out 2).trans rfl; have hfz188_0 := blk_frozen BK188.out 0; have hfz188_1 := blk_frozen BK188.out 1; have hfz188_2 := blk_frozen BK188.out 2; obtain ⟨Ao189, co189, eo189⟩ := Kd.R_slice HO_189000.out; subst eo189) | ((with_reducible refine gate_callee (f := 31) rfl ?_); refine goesL_ (some 132) rfl rfl Tryd.func31 (by kernel_rfl) rfl #[.agg #[.slice Ao189 x189000_15.length co189, .int .i64 x189001_15, .int .i64 x189002_15]] rfl (by (try simp only [List.map_toArray, List.map_cons, List.map_nil]); first | done | rfl | (simp only [List.length_drop, List.length_take]; rfl)) ?_; (with_reducible refine (laws_cpGap.calls _ _ x189000_15 x189001_15 x189002_15 t265 t268 t269 _ ?side1 ?side2 A130.out).mono ?_); (case side1 => repeat (first | exact (Kd.R_reads' HO_189000.out).2.2 | (with_reducible refine Kd.C_alloc ?_ _) | (with_reducible refine Kd.C_drewN ?_ _) | (with_reducible refine Kd.C_drew ?_))); (case side2 => exact (Kd.R_reads' HO_189000.out).2.1); rintro e w190 ⟨v266, rfl, ho0, hb⟩; refine ⟨_, rfl, ?_⟩; have n0_ := Aside0.mk (Kd.R_elder' (rD HO_5.out) (Kd.R_base ho0) hb); have n1_ := Aside0.mk (Kd.R_elder' (rD HO_189000.out) (Kd.R_base ho0) hb); have n2_ := Aside0.mk (Kd.R_lower (Kd.R_new' (Kd.R_new' ho0 (Kd.R_lt (rD HO_5.out))) (Kd.R_lt (rD HO_189000.out))) (below_size (hbS HB (IsS121.ge HI187.out)))); have n3_ := Aside0.mk (blk_below (bkD BK188) hb); have n4_ := Aside0.mk (IsS121.below (isD HI187) hb); have n5_ := Aside0.mk (below_step (hbS HB (IsS121.ge HI187.out)) hb); clear HO_5 HO_189000 BK188 HI187 HB; have HO_5 := n0_; have HO_189000 := n1_; have HO267 := n2_; have BK188 := n3_; have HI187 := n4_; have HB := n5_; clear n0_ n1_ n2_ n3_ n4_ n5_; (try clear hb); (try clear hb2); (try clear hk); (try clear hi); (try clear ho0); obtain ⟨Ao191, co191, eo191⟩ := Kd.R_slice HO267.out; subst eo191) | ((with_reducible refine gate_callee (f := 13) rfl ?_); refine goesL_ (some 136) rfl rfl Tryd.func13 (by kernel_rfl) rfl #[.agg #[.slice Ao191 t265.length co191, .int .i64 t268, .int .i64 t269], .int .i64 t262, .int .i64 (x5_15.length : Int)] rfl (by (try simp only [List.map_toArray, List.map_cons, List.map_nil]); first | done | rfl | (simp only [List.length_drop, List.length_take]; rfl)) ?_; (with_reducible refine (impl_GapRead.calls _ _ t265 t268 t269 t262 (x5_15.length : Int) t270 t273 _ ?side1 ?side2 ?side3 A131.out).mono ?_); (case side1 => repeat (first | exact (Kd.R_reads' HO267.out).2.2 | (with_reducible refine Kd.C_alloc ?_ _) | (with_reducible refine Kd.C_drewN ?_ _) | (with_reducible refine Kd.C_drew ?_))); (case side2 => exact (Kd.R_reads' HO267.out).2.1); (case side3 => exact HG.below hgG_ (hbS HB (IsS121.ge HI187.out))); rintro e w192 ⟨v271, rfl, ho0, hb⟩; refine ⟨_, rfl, ?_⟩; have n0_ := Aside0.mk (Kd.R_elder' (rD HO_5.out) (Kd.R_base ho0) hb); have n1_ := Aside0.mk (Kd.R_elder' (rD HO_189000.out) (Kd.R_base ho0) hb); have n2_ := Aside0.mk (Kd.R_elder' (rD HO267.out) (Kd.R_base ho0) hb); have n3_ := Aside0.mk (Kd.R_lower (Kd.R_new' (Kd.R_new' (Kd.R_new' ho0 (Kd.R_lt (rD HO_5.out))) (Kd.R_lt (rD HO_189000.out))) (Kd.R_lt (rD HO267.out))) (below_size (hbS HB (IsS121.ge HI187.out)))); have n4_ := Aside0.mk (blk_below (bkD BK188) hb); have n5_ := Aside0.mk (IsS121.below (isD HI187) hb); have n6_ := Aside0.mk (below_step (hbS HB (IsS121.ge HI187.out)) hb); clear HO_5 HO_189000 HO267 BK188 HI187 HB; have HO_5 := n0_; have HO_189000 := n1_; have HO267 := n2_; have HO272 := n3_; have BK188 := n4_; have HI187 := n5_; have HB := n6_; clear n0_ n1_ n2_ n3_ n4_ n5_ n6_; (try clear hb); (try clear hb2); (try clear hk); (try clear hi); (try clear ho0); have hcz193_0 : w192.cell? ⟨gb188, 0, none⟩ = some (.slice Ao189 x189000_15.length co189) := (blk_cell BK188.out 0).trans rfl; have hcz193_1 : w192.cell? ⟨gb188, 1, none⟩ = some (.int .i64 x189001_15) := (blk_cell BK188.out 1).trans rfl; have hcz193_2 : w192.cell? ⟨gb188, 2, none⟩ = some (.int .i64 x189002_15) := (blk_cell BK188.out 2).trans rfl; have hfz193_0 := blk_frozen BK188.out 0; have hfz193_1 := blk_frozen BK188.out 1; have hfz193_2 := blk_frozen BK188.out 2) | ((with_reducible refine gate_callee (f := 31) rfl ?_); refine goesL_ (some 141) rfl rfl Tryd.func31 (by kernel_rfl) rfl #[.agg #[.slice Ao189 x189000_15.length co189, .int .i64 x189001_15, .int .i64 x189002_15]] rfl (by (try simp only [List.map_toArray, List.map_cons, List.map_nil]); first | done | rfl | (simp only [List.length_drop, List.length_take]; rfl)) ?_; (with_reducible refine (laws_cpGap.calls _ _ x189000_15 x189001_15 x189002_15 t274 t277 t278 _ ?side1 ?side2 A132.out).mono ?_); (case side1 => repeat (first | exact (Kd.R_reads' HO_189000.out).2.2 | (with_reducible refine Kd.C_alloc ?_ _) | (with_reducible refine Kd.C_drewN ?_ _) | (with_reducible refine Kd.C_drew ?_))); (case side2 => exact (Kd.R_reads' HO_189000.out).2.1); rintro e w194 ⟨v275, rfl, ho0, hb⟩; refine ⟨_, rfl, ?_⟩; have n0_ := Aside0.mk (Kd.R_elder' (rD HO_5.out) (Kd.R_base ho0) hb); have n1_ := Aside0.mk (Kd.R_elder' (rD HO_189000.out) (Kd.R_base ho0) hb); have n2_ := Aside0.mk (Kd.R_elder' (rD HO267.out) (Kd.R_base ho0) hb); have n3_ := Aside0.mk (Kd.R_elder' (rD HO272.out) (Kd.R_base ho0) hb); have n4_ := Aside0.mk (Kd.R_lower (Kd.R_new' (Kd.R_new' (Kd.R_new' (Kd.R_new' ho0 (Kd.R_lt (rD HO_5.out))) (Kd.R_lt (rD HO_189000.out))) (Kd.R_lt (rD HO267.out))) (Kd.R_lt (rD HO272.out))) (below_size (hbS HB (IsS121.ge HI187.out)))); have n5_ := Aside0.mk (blk_below (bkD BK188) hb); have n6_ := Aside0.mk (IsS121.below (isD HI187) hb); have n7_ := Aside0.mk (below_step (hbS HB (IsS121.ge HI187.out)) hb); clear HO_5 HO_189000 HO267 HO272 BK188 HI187 HB; have HO_5 := n0_; have HO_189000 := n1_; have HO267 := n2_; have HO272 := n3_; have HO276 := n4_; have BK188 := n5_; have HI187 := n6_; have HB := n7_; clear n0_ n1_ n2_ n3_ n4_ n5_ n6_ n7_; (try clear hb); (try clear hb2); (try clear hk); (try clear hi); (try clear ho0); obtain ⟨Ao195, co195, eo195⟩ := Kd.R_slice HO276.out; subst eo195) | ((with_reducible refine gate_callee (f := 13) rfl ?_); refine goesL_ (some 144) rfl rfl Tryd.func13 (by kernel_rfl) rfl #[.agg #[.slice Ao195 t274.length co195, .int .i64 t277, .int .i64 t278], .int .i64 0, .int .i64 (x5_15.length : Int)] rfl (by (try simp only [List.map_toArray, List.map_cons, List.map_nil]); first | done | rfl | (simp only [List.length_drop, List.length_take]; rfl)) ?_; (with_reducible refine (impl_GapRead.calls _ _ t274 t277 t278 0 (x5_15.length : Int) t279 t282 _ ?side1 ?side2 ?side3 A133.out).mono ?_); (case side1 => repeat (first | exact (Kd.R_reads' HO276.out).2.2 | (with_reducible refine Kd.C_alloc ?_ _) | (with_reducible refine Kd.C_drewN ?_ _) | (with_reducible refine Kd.C_drew ?_))); (case side2 => exact (Kd.R_reads' HO276.out).2.1); (case side3 => exact HG.below hgG_ (hbS HB (IsS121.ge HI187.out))); rintro e w196 ⟨v280, rfl, ho0, hb⟩; refine ⟨_, rfl, ?_⟩; have n0_ := Aside0.mk (Kd.R_elder' (rD HO_5.out) (Kd.R_base ho0) hb); have n1_ := Aside0.mk (Kd.R_elder' (rD HO_189000.out) (Kd.R_base ho0) hb); have n2_ := Aside0.mk (Kd.R_elder' (rD HO267.out) (Kd.R_base ho0) hb); have n3_ := Aside0.mk (Kd.R_elder' (rD HO272.out) (Kd.R_base ho0) hb); have n4_ := Aside0.mk (Kd.R_elder' (rD HO276.out) (Kd.R_base ho0) hb); have n5_ := Aside0.mk (Kd.R_lower (Kd.R_new' (Kd.R_new' (Kd.R_new' (Kd.R_new' (Kd.R_new' ho0 (Kd.R_lt (rD HO_5.out))) (Kd.R_lt (rD HO_189000.out))) (Kd.R_lt (rD HO267.out))) (Kd.R_lt (rD HO272.out))) (Kd.R_lt (rD HO276.out))) (below_size (hbS HB (IsS121.ge HI187.out)))); have n6_ := Aside0.mk (blk_below (bkD BK188) hb); have n7_ := Aside0.mk (IsS121.below (isD HI187) hb); have n8_ := Aside0.mk (below_step (hbS HB (IsS121.ge HI187.out)) hb); clear HO_5 HO_189000 HO267 HO272 HO276 BK188 HI187 HB; have HO_5 := n0_; have HO_189000 := n1_; have HO267 := n2_; have HO272 := n3_; have HO276 := n4_; have HO281 := n5_; have BK188 := n6_; have HI187 := n7_; have HB := n8_; clear n0_ n1_ n2_ n3_ n4_ n5_ n6_ n7_ n8_; (try clear hb); (try clear hb2); (try clear hk); (try clear hi); (try clear ho0)))
            go_ret
            exact ⟨by first | rfl | (simp [errW_none, errW_some] <;> rfl) | (simp [*, errW_none, errW_some] <;> rfl), by repeat (first | (with_reducible first | exact HB.out | apply below_alloc | apply pw_below_drewN | apply below_drew1 | refine below_set ?_ (IsS121.ge HI187.out) | refine below_set ?_ GE188.out) | exact HB.out)⟩
          ·rw [if_neg c134] at H
           have c134b0 : (t273 == 0) = false := beq_eq_false_iff_ne.mpr c134
           have c134b1 : (t273 != 0) = true := bne_iff_ne.mpr c134
           obtain rfl := Option.some.inj H
           obtain ⟨Ao197, co197, eo197⟩ := Kd.R_slice HO_5.out
           subst eo197
           go_wp2_with (first | ((with_reducible refine gate_callee (f := 26) rfl ?_); refine goesL_ (some 129) rfl rfl Tryd.func26 (by kernel_rfl) rfl #[.pointer (some ⟨g187, 0, none⟩), .int .i64 (wrap64 ((x5_15.length : Int) + 1))] rfl (by (try simp only [List.map_toArray, List.map_cons, List.map_nil]); first | done | rfl | (simp only [List.length_drop, List.length_take]; rfl)) ?_; (with_reducible refine (spec_l1Src_N.calls g187 t184 x188001_15 x188002_15 (wrap64 ((x5_15.length : Int) + 1)) t262 t263 t264 w _ ?side1 ?side2 A129.out).mono ?_); (case side1 => repeat (first | (with_reducible first | exact HI187.out | apply IsS121.alloc | apply IsS121.drewN | apply IsS121.drew | apply IsS121.set_1 | apply IsS121.set_2 | refine IsS121.far ?_ NB187_188.out _) | exact HI187.out)); (case side2 => repeat (first | (with_reducible first | exact HB.out | apply below_alloc | apply pw_below_drewN | apply below_drew1 | refine below_set ?_ (IsS121.ge HI187.out) | refine below_set ?_ GE188.out) | exact HB.out)); rintro e w198 ⟨rfl, hi, hb, hk⟩; refine ⟨_, rfl, ?_⟩; have n0_ := Aside0.mk (Kd.R_mono (Kd.R_keep (IsS121.apart (isD HI187 (f := x188001_15) (f' := x188002_15)) (rD HO_5.out) (by decide)) hk (fun _ h => h.2)) (fun _ h => h.1)); have n1_ := Aside0.mk (Kd.R_mono (Kd.R_keep (IsS121.apart (isD HI187 (f := x188001_15) (f' := x188002_15)) (rD HO_189000.out) (by decide)) hk (fun _ h => h.2)) (fun _ h => h.1)); have n2_ := Aside0.mk (KeepBut.blk hk (g' := gb188) (o := .cells #[u189000, .int .i64 x189001_15, .int .i64 x189002_15] 28 (0, 0)) (bkD BK188) NB188_187.out (by simp)); have n3_ := Aside0.mk (hb); have n4_ := Aside0.mk (hi); clear HO_5 HO_189000 BK188 HB HI187; have HO_5 := n0_; have HO_189000 := n1_; have BK188 := n2_; have HB := n3_; have HI187 := n4_; clear n0_ n1_ n2_ n3_ n4_; (try clear hb); (try clear hb2); (try clear hk); (try clear hi); have hnb199 := NB188_187.out; have hnc199 := NB187_188.out; have hcz200_0 : w198.cell? ⟨gb188, 0, none⟩ = some (u189000) := (blk_cell BK188.out 0).trans rfl; have hcz200_1 : w198.cell? ⟨gb188, 1, none⟩ = some (.int .i64 x189001_15) := (blk_cell BK188.out 1).trans rfl; have hcz200_2 : w198.cell? ⟨gb188, 2, none⟩ = some (.int .i64 x189002_15) := (blk_cell BK188.out 2).trans rfl; have hfz200_0 := blk_frozen BK188.out 0; have hfz200_1 := blk_frozen BK188.out 1; have hfz200_2 := blk_frozen BK188.out 2; obtain ⟨Ao201, co201, eo201⟩ := Kd.R_slice HO_189000.out; subst eo201) | ((with_reducible refine gate_callee (f := 31) rfl ?_); refine goesL_ (some 132) rfl rfl Tryd.func31 (by kernel_rfl) rfl #[.agg #[.slice Ao201 x189000_15.length co201, .int .i64 x189001_15, .int .i64 x189002_15]] rfl (by (try simp only [List.map_toArray, List.map_cons, List.map_nil]); first | done | rfl | (simp only [List.length_drop, List.length_take]; rfl)) ?_; (with_reducible refine (laws_cpGap.calls _ _ x189000_15 x189001_15 x189002_15 t265 t268 t269 _ ?side1 ?side2 A130.out).mono ?_); (case side1 => repeat (first | exact (Kd.R_reads' HO_189000.out).2.2 | (with_reducible refine Kd.C_alloc ?_ _) | (with_reducible refine Kd.C_drewN ?_ _) | (with_reducible refine Kd.C_drew ?_))); (case side2 => exact (Kd.R_reads' HO_189000.out).2.1); rintro e w202 ⟨v266, rfl, ho0, hb⟩; refine ⟨_, rfl, ?_⟩; have n0_ := Aside0.mk (Kd.R_elder' (rD HO_5.out) (Kd.R_base ho0) hb); have n1_ := Aside0.mk (Kd.R_elder' (rD HO_189000.out) (Kd.R_base ho0) hb); have n2_ := Aside0.mk (Kd.R_lower (Kd.R_new' (Kd.R_new' ho0 (Kd.R_lt (rD HO_5.out))) (Kd.R_lt (rD HO_189000.out))) (below_size (hbS HB (IsS121.ge HI187.out)))); have n3_ := Aside0.mk (blk_below (bkD BK188) hb); have n4_ := Aside0.mk (IsS121.below (isD HI187) hb); have n5_ := Aside0.mk (below_step (hbS HB (IsS121.ge HI187.out)) hb); clear HO_5 HO_189000 BK188 HI187 HB; have HO_5 := n0_; have HO_189000 := n1_; have HO267 := n2_; have BK188 := n3_; have HI187 := n4_; have HB := n5_; clear n0_ n1_ n2_ n3_ n4_ n5_; (try clear hb); (try clear hb2); (try clear hk); (try clear hi); (try clear ho0); obtain ⟨Ao203, co203, eo203⟩ := Kd.R_slice HO267.out; subst eo203) | ((with_reducible refine gate_callee (f := 13) rfl ?_); refine goesL_ (some 136) rfl rfl Tryd.func13 (by kernel_rfl) rfl #[.agg #[.slice Ao203 t265.length co203, .int .i64 t268, .int .i64 t269], .int .i64 t262, .int .i64 (x5_15.length : Int)] rfl (by (try simp only [List.map_toArray, List.map_cons, List.map_nil]); first | done | rfl | (simp only [List.length_drop, List.length_take]; rfl)) ?_; (with_reducible refine (impl_GapRead.calls _ _ t265 t268 t269 t262 (x5_15.length : Int) t270 t273 _ ?side1 ?side2 ?side3 A131.out).mono ?_); (case side1 => repeat (first | exact (Kd.R_reads' HO267.out).2.2 | (with_reducible refine Kd.C_alloc ?_ _) | (with_reducible refine Kd.C_drewN ?_ _) | (with_reducible refine Kd.C_drew ?_))); (case side2 => exact (Kd.R_reads' HO267.out).2.1); (case side3 => exact HG.below hgG_ (hbS HB (IsS121.ge HI187.out))); rintro e w204 ⟨v271, rfl, ho0, hb⟩; refine ⟨_, rfl, ?_⟩; have n0_ := Aside0.mk (Kd.R_elder' (rD HO_5.out) (Kd.R_base ho0) hb); have n1_ := Aside0.mk (Kd.R_elder' (rD HO_189000.out) (Kd.R_base ho0) hb); have n2_ := Aside0.mk (Kd.R_elder' (rD HO267.out) (Kd.R_base ho0) hb); have n3_ := Aside0.mk (Kd.R_lower (Kd.R_new' (Kd.R_new' (Kd.R_new' ho0 (Kd.R_lt (rD HO_5.out))) (Kd.R_lt (rD HO_189000.out))) (Kd.R_lt (rD HO267.out))) (below_size (hbS HB (IsS121.ge HI187.out)))); have n4_ := Aside0.mk (blk_below (bkD BK188) hb); have n5_ := Aside0.mk (IsS121.below (isD HI187) hb); have n6_ := Aside0.mk (below_step (hbS HB (IsS121.ge HI187.out)) hb); clear HO_5 HO_189000 HO267 BK188 HI187 HB; have HO_5 := n0_; have HO_189000 := n1_; have HO267 := n2_; have HO272 := n3_; have BK188 := n4_; have HI187 := n5_; have HB := n6_; clear n0_ n1_ n2_ n3_ n4_ n5_ n6_; (try clear hb); (try clear hb2); (try clear hk); (try clear hi); (try clear ho0); have hcz205_0 : w204.cell? ⟨gb188, 0, none⟩ = some (.slice Ao201 x189000_15.length co201) := (blk_cell BK188.out 0).trans rfl; have hcz205_1 : w204.cell? ⟨gb188, 1, none⟩ = some (.int .i64 x189001_15) := (blk_cell BK188.out 1).trans rfl; have hcz205_2 : w204.cell? ⟨gb188, 2, none⟩ = some (.int .i64 x189002_15) := (blk_cell BK188.out 2).trans rfl; have hfz205_0 := blk_frozen BK188.out 0; have hfz205_1 := blk_frozen BK188.out 1; have hfz205_2 := blk_frozen BK188.out 2) | ((with_reducible refine gate_callee (f := 31) rfl ?_); refine goesL_ (some 141) rfl rfl Tryd.func31 (by kernel_rfl) rfl #[.agg #[.slice Ao201 x189000_15.length co201, .int .i64 x189001_15, .int .i64 x189002_15]] rfl (by (try simp only [List.map_toArray, List.map_cons, List.map_nil]); first | done | rfl | (simp only [List.length_drop, List.length_take]; rfl)) ?_; (with_reducible refine (laws_cpGap.calls _ _ x189000_15 x189001_15 x189002_15 t274 t277 t278 _ ?side1 ?side2 A132.out).mono ?_); (case side1 => repeat (first | exact (Kd.R_reads' HO_189000.out).2.2 | (with_reducible refine Kd.C_alloc ?_ _) | (with_reducible refine Kd.C_drewN ?_ _) | (with_reducible refine Kd.C_drew ?_))); (case side2 => exact (Kd.R_reads' HO_189000.out).2.1); rintro e w206 ⟨v275, rfl, ho0, hb⟩; refine ⟨_, rfl, ?_⟩; have n0_ := Aside0.mk (Kd.R_elder' (rD HO_5.out) (Kd.R_base ho0) hb); have n1_ := Aside0.mk (Kd.R_elder' (rD HO_189000.out) (Kd.R_base ho0) hb); have n2_ := Aside0.mk (Kd.R_elder' (rD HO267.out) (Kd.R_base ho0) hb); have n3_ := Aside0.mk (Kd.R_elder' (rD HO272.out) (Kd.R_base ho0) hb); have n4_ := Aside0.mk (Kd.R_lower (Kd.R_new' (Kd.R_new' (Kd.R_new' (Kd.R_new' ho0 (Kd.R_lt (rD HO_5.out))) (Kd.R_lt (rD HO_189000.out))) (Kd.R_lt (rD HO267.out))) (Kd.R_lt (rD HO272.out))) (below_size (hbS HB (IsS121.ge HI187.out)))); have n5_ := Aside0.mk (blk_below (bkD BK188) hb); have n6_ := Aside0.mk (IsS121.below (isD HI187) hb); have n7_ := Aside0.mk (below_step (hbS HB (IsS121.ge HI187.out)) hb); clear HO_5 HO_189000 HO267 HO272 BK188 HI187 HB; have HO_5 := n0_; have HO_189000 := n1_; have HO267 := n2_; have HO272 := n3_; have HO276 := n4_; have BK188 := n5_; have HI187 := n6_; have HB := n7_; clear n0_ n1_ n2_ n3_ n4_ n5_ n6_ n7_; (try clear hb); (try clear hb2); (try clear hk); (try clear hi); (try clear ho0); obtain ⟨Ao207, co207, eo207⟩ := Kd.R_slice HO276.out; subst eo207) | ((with_reducible refine gate_callee (f := 13) rfl ?_); refine goesL_ (some 144) rfl rfl Tryd.func13 (by kernel_rfl) rfl #[.agg #[.slice Ao207 t274.length co207, .int .i64 t277, .int .i64 t278], .int .i64 0, .int .i64 (x5_15.length : Int)] rfl (by (try simp only [List.map_toArray, List.map_cons, List.map_nil]); first | done | rfl | (simp only [List.length_drop, List.length_take]; rfl)) ?_; (with_reducible refine (impl_GapRead.calls _ _ t274 t277 t278 0 (x5_15.length : Int) t279 t282 _ ?side1 ?side2 ?side3 A133.out).mono ?_); (case side1 => repeat (first | exact (Kd.R_reads' HO276.out).2.2 | (with_reducible refine Kd.C_alloc ?_ _) | (with_reducible refine Kd.C_drewN ?_ _) | (with_reducible refine Kd.C_drew ?_))); (case side2 => exact (Kd.R_reads' HO276.out).2.1); (case side3 => exact HG.below hgG_ (hbS HB (IsS121.ge HI187.out))); rintro e w208 ⟨v280, rfl, ho0, hb⟩; refine ⟨_, rfl, ?_⟩; have n0_ := Aside0.mk (Kd.R_elder' (rD HO_5.out) (Kd.R_base ho0) hb); have n1_ := Aside0.mk (Kd.R_elder' (rD HO_189000.out) (Kd.R_base ho0) hb); have n2_ := Aside0.mk (Kd.R_elder' (rD HO267.out) (Kd.R_base ho0) hb); have n3_ := Aside0.mk (Kd.R_elder' (rD HO272.out) (Kd.R_base ho0) hb); have n4_ := Aside0.mk (Kd.R_elder' (rD HO276.out) (Kd.R_base ho0) hb); have n5_ := Aside0.mk (Kd.R_lower (Kd.R_new' (Kd.R_new' (Kd.R_new' (Kd.R_new' (Kd.R_new' ho0 (Kd.R_lt (rD HO_5.out))) (Kd.R_lt (rD HO_189000.out))) (Kd.R_lt (rD HO267.out))) (Kd.R_lt (rD HO272.out))) (Kd.R_lt (rD HO276.out))) (below_size (hbS HB (IsS121.ge HI187.out)))); have n6_ := Aside0.mk (blk_below (bkD BK188) hb); have n7_ := Aside0.mk (IsS121.below (isD HI187) hb); have n8_ := Aside0.mk (below_step (hbS HB (IsS121.ge HI187.out)) hb); clear HO_5 HO_189000 HO267 HO272 HO276 BK188 HI187 HB; have HO_5 := n0_; have HO_189000 := n1_; have HO267 := n2_; have HO272 := n3_; have HO276 := n4_; have HO281 := n5_; have BK188 := n6_; have HI187 := n7_; have HB := n8_; clear n0_ n1_ n2_ n3_ n4_ n5_ n6_ n7_ n8_; (try clear hb); (try clear hb2); (try clear hk); (try clear hi); (try clear ho0)))
           go_ret
           exact ⟨by first | rfl | (simp [errW_none, errW_some] <;> rfl) | (simp [*, errW_none, errW_some] <;> rfl), by repeat (first | (with_reducible first | exact HB.out | apply below_alloc | apply pw_below_drewN | apply below_drew1 | refine below_set ?_ (IsS121.ge HI187.out) | refine below_set ?_ GE188.out) | exact HB.out)⟩
    ·rw [if_neg c13] at H
     have c13b0 : decide (0 < x6_1) = false := decide_eq_false c13
     clear c13
     obtain rfl := Option.some.inj H
     go_wp2
     go_ret
     exact ⟨by first | rfl | (simp [errW_none, errW_some] <;> rfl) | (simp [*, errW_none, errW_some] <;> rfl), by repeat (first | (with_reducible first | exact HB.out | apply below_alloc | apply pw_below_drewN | apply below_drew1 | refine below_set ?_ (IsS121.ge HI187.out) | refine below_set ?_ GE188.out) | exact HB.out)⟩

end Go.Proofs.YtlacoameobpfgaaDoor.QFnGapScript
