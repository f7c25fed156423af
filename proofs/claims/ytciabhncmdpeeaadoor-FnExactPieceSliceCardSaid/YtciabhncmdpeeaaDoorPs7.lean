/- PieceLineCol, walked. Conditions: at most 1048576 items and runes; errors.errorType reads as laid. -/
import Derived.Test.YtciabhncmdpeeaaDoorPs6
namespace Go.Proofs.YtciabhncmdpeeaaDoor
open Go.RowKit Go.Proofs.YtciabhncmdpeeaaDoorW.PrintWords Go.Proofs.YtciabhncmdpeeaaDoorW.PrintLast Go.Proofs.YtciabhncmdpeeaaDoorW.PrintMore Er
theorem openV_ok {T : List Int} {xs : List It} {t : Tree} (h : openV T xs = some t) : TxtOk T t ∧ TP.toL t = xs.map pcOf ∧ grownV xs = some t ∧ T.length ≤ 220000 ∧ OkPcs T xs := by
 unfold openV at h
 split at h
 ·rename_i hh
  obtain ⟨h1, h2, h3, h4, h5, h6⟩ := grownV_toL h
  obtain ⟨f1, f2, f3, f4⟩ := grownV_fine h
  refine ⟨⟨fun v hv => ?_, f3, by omega, fun v hv => ?_, fun v hv => ?_⟩, h1, h, hh.1, hh.2⟩
  all_goals
   rw [h1] at hv
   obtain ⟨x, hx, rfl⟩ := List.mem_map.1 hv
   have g := h5 x hx
   have g2 := hh.2 x hx
   unfold goodP at g
   unfold okPc at g2
  ·simp only [pcOf]; omega
  ·unfold InStore; simp only [pcOf]; omega
  ·unfold ptext; simp only [pcOf]; exact g2.2
 ·cases h
/-- what PieceLineCol answers -/
def pieceLineColV (T : List Int) (xs : List It) (off : Int) : Int × Int × Int :=
 match openV T xs with
 | none => (0, 0, 1)
 | some t => if 0 ≤ off ∧ off ≤ rl t then ((lcF ((txtOf T (TP.toL t)).take off.toNat) 0 0).1, (lcF ((txtOf T (TP.toL t)).take off.toNat) 0 0).2, 0) else (0, 0, 2)
def Out3 (w : World) (r : Int × Int × Int) (e : Ending) (w' : World) : Prop := e = .returned (.tuple #[.int .i64 r.1, .int .i64 r.2.1, .int .i64 r.2.2]) ∧ Below w.heap.size w w'
set_option maxHeartbeats 8000000 in
set_option maxRecDepth 100000 in
theorem pieceLineCol_any (w : World) (T : List Int) (A : Option Addr) (c : Nat) (xs : List It) (B : Option Addr) (c2 : Nat) (off : Int) (hm : xs.length ≤ 1048576) (hT : T.length ≤ 1048576) (hr : Kd.C (Kd.int .i32) w A T.length T) (hc : T.length ≤ c) (hr2 : Kd.C QBase.k54 w B xs.length xs) (hc2 : xs.length ≤ c2) (hg : HG w) :
  Calls Tryd.prog 47 #[.agg #[.slice A T.length c, .slice B xs.length c2], .int .i64 off] w (Out3 w (pieceLineColV T xs off)) := by
 obtain ⟨w0, e0⟩ : ∃ y, w.alloc (.cells #[.slice A T.length c, .slice B xs.length c2] 64) = y := ⟨_, rfl⟩
 have HB0 : Aside0 (Below w.heap.size w w0) := ⟨by subst e0; exact (Below.refl _ w).alloc (Nat.le_refl _) _⟩
 have HX : Aside0 (w0.heap[w.heap.size]? = some (.cells #[.slice A T.length c, .slice B xs.length c2] 64 (0, 0))) := ⟨by subst e0; exact blk_new w (.cells #[.slice A T.length c, .slice B xs.length c2] 64)⟩
 have q0 : w0.cell? ⟨w.heap.size, 0, none⟩ = some (.slice A T.length c) := (blk_cell HX.out 0).trans rfl
 have q1 : w0.cell? ⟨w.heap.size, 1, none⟩ = some (.slice B xs.length c2) := (blk_cell HX.out 1).trans rfl
 have HR := Aside0.mk (Kd.C_below hr HB0.out)
 have HR2 := Aside0.mk (Kd.C_below hr2 HB0.out)
 have HG0 := Aside0.mk hg
 clear hr hr2 hg
 go_enter Tryd.func47, Tryd.ntmps47
 go_wp2_with fail
 refine (openPieces_any w0 T A c xs B c2 hm hT HR.out hc HR2.out hc2).mono ?_
 intro e w1 hp
 obtain ⟨hb1, hp⟩ := hp
 have HB1 := Aside0.mk (below_step HB0.out hb1)
 clear hb1 q0 q1 e0
 rcases hp with ⟨t, b, S, hV, rfl, hpb, -, -, -⟩ | ⟨hV, b, v, rfl, hz, hE⟩
 ·obtain ⟨ok, -⟩ := openV_ok hV
  have hk := allP_key t ok.allp
  have HP := Aside0.mk hpb
  have OK := Aside0.mk ok
  have HV := Aside0.mk hV
  clear hV hpb ok
  go_wp2_with fail
  refine (psize_any w1 b T t S HP.out OK.out.fine).mono ?_
  rintro e w' ⟨rfl, hw⟩
  rw [hw]
  clear hw w'
  go_wp2_with fail
  by_cases cin : 0 ≤ off ∧ off ≤ rl t
  ·have hw := within_any w1 off 0 (rl t)
   rw [decide_eq_true cin] at hw
   have WI := Aside0.mk hw
   clear hw
   refine WI.out.mono ?_
   rintro e w' ⟨rfl, hw⟩
   rw [hw]
   clear hw w'
   go_wp2_with fail
   refine (unless_any w1 true 2).mono ?_
   rintro e w' ⟨rfl, hw⟩
   rw [hw]
   clear hw w'
   simp only [ev, if_true]
   go_wp2_with fail
   refine (firstOf2 _ w1.heap.size none none (by simp [ev]) (by simp [ev])).mono ?_
   rintro e w' ⟨rfl, hw⟩
   rw [hw]
   clear hw w'
   simp only [ev, firstE]
   obtain ⟨w2, e2⟩ : ∃ y, w1.alloc (.cells #[.nilIface, .nilIface] 85) = y := ⟨_, rfl⟩
   have hb2 : Below w1.heap.size w1 w2 := by subst e2; exact (Below.refl _ w1).alloc (Nat.le_refl _) _
   have HP2 := Aside0.mk (HP.out.below hb2)
   have HB2 := Aside0.mk (below_step HB1.out hb2)
   rw [e2]
   clear e2 hb2
   go_wp2_with fail
   refine (lineCol_any w2 b T t S off HP2.out OK.out cin (fun l a d => by have := start_bd OK.out l a d; have := OK.out.sum; omega)).mono ?_
   rintro e w3 ⟨r, rfl, hli, hb3⟩
   have EQ := Aside0.mk (lineIs_lc OK.out off cin.1 cin.2 r hli)
   go_wp2
   refine bodyPost_ret (results_list (rs := [.tmp 4, .tmp 5, .tmp 6]) rfl (by simp) (.tmp (.tmp (.tmp .nil)))) rfl ?_
   refine ⟨?_, below_step HB2.out hb3⟩
   unfold pieceLineColV
   rw [HV.out]
   simp only
   rw [if_pos cin, ← EQ.out]
   rfl
  ·have hw := within_any w1 off 0 (rl t)
   rw [decide_eq_false cin] at hw
   have WI := Aside0.mk hw
   have CIN := Aside0.mk cin
   clear hw cin
   refine WI.out.mono ?_
   rintro e w' ⟨rfl, hw⟩
   rw [hw]
   clear hw w'
   go_wp2_with fail
   refine (unless_any w1 false 2).mono ?_
   rintro e w' ⟨rfl, hw⟩
   rw [hw]
   clear hw w'
   simp only [ev, Bool.false_eq_true, if_false]
   go_wp2_with fail
   refine (firstOf2 _ w1.heap.size none (some (129, .int .i64 2)) (by simp [ev]) (by simp [ev])).mono ?_
   rintro e w' ⟨rfl, hw⟩
   rw [hw]
   clear hw w'
   simp only [ev, firstE]
   obtain ⟨w2, e2⟩ : ∃ y, w1.alloc (.cells #[.nilIface, .iface 129 (.int .i64 2)] 85) = y := ⟨_, rfl⟩
   have HB2 : Aside0 (Below w.heap.size w w2) := ⟨by subst e2; exact HB1.out.alloc HB1.out.size _⟩
   rw [e2]
   clear e2
   go_wp2_with fail
   refine (codeOf_any _ 2 w2 (HG0.out.below HB2.out) (.inl rfl)).mono ?_
   rintro e w3 ⟨rfl, hb3⟩
   go_wp2
   refine bodyPost_ret (results_list (rs := [.tmp 4, .tmp 5, .tmp 6]) rfl (by simp) (.tmp (.tmp (.tmp .nil)))) rfl ?_
   refine ⟨?_, below_step HB2.out hb3⟩
   unfold pieceLineColV
   rw [HV.out]
   simp only
   rw [if_neg CIN.out]
   rfl
 ·obtain ⟨TT, x, rfl⟩ := errIs_ev hE
  have HE := Aside0.mk hE
  have HV := Aside0.mk hV
  have HZ := Aside0.mk hz
  clear hE hV hz
  simp only [ev]
  go_wp2_with fail
  refine (psize_none w1 b HZ.out).mono ?_
  rintro e w' ⟨rfl, hw⟩
  rw [hw]
  clear hw w'
  go_wp2_with fail
  refine (within_any w1 off 0 0).mono ?_
  rintro e w' ⟨rfl, hw⟩
  rw [hw]
  clear hw w'
  generalize decide (0 ≤ off ∧ off ≤ 0) = bb
  cases bb with
  | true =>
   go_wp2_with fail
   refine (unless_any w1 true 2).mono ?_
   rintro e w' ⟨rfl, hw⟩
   rw [hw]
   clear hw w'
   simp only [ev, if_true]
   go_wp2_with fail
   refine (firstOf2 _ w1.heap.size (some (TT, x)) none (by simp [ev]) (by simp [ev])).mono ?_
   rintro e w' ⟨rfl, hw⟩
   rw [hw]
   clear hw w'
   simp only [ev, firstE]
   obtain ⟨w2, e2⟩ : ∃ y, w1.alloc (.cells #[.iface TT x, .nilIface] 85) = y := ⟨_, rfl⟩
   have hb2 : Below w1.heap.size w1 w2 := by subst e2; exact (Below.refl _ w1).alloc (Nat.le_refl _) _
   have HB2 := Aside0.mk (below_step HB1.out hb2)
   have HE2 := Aside0.mk (HE.out.below hb2)
   rw [e2]
   clear e2 hb2
   go_wp2_with fail
   refine (codeOf_any _ 1 w2 (HG0.out.below HB2.out) HE2.out).mono ?_
   rintro e w3 ⟨rfl, hb3⟩
   go_wp2
   refine bodyPost_ret (results_list (rs := [.tmp 4, .tmp 5, .tmp 6]) rfl (by simp) (.tmp (.tmp (.tmp .nil)))) rfl ?_
   refine ⟨?_, below_step HB2.out hb3⟩
   unfold pieceLineColV
   rw [HV.out]
   rfl
  | false =>
   go_wp2_with fail
   refine (unless_any w1 false 2).mono ?_
   rintro e w' ⟨rfl, hw⟩
   rw [hw]
   clear hw w'
   simp only [ev, Bool.false_eq_true, if_false]
   go_wp2_with fail
   refine (firstOf2 _ w1.heap.size (some (TT, x)) (some (129, .int .i64 2)) (by simp [ev]) (by simp [ev])).mono ?_
   rintro e w' ⟨rfl, hw⟩
   rw [hw]
   clear hw w'
   simp only [ev, firstE]
   obtain ⟨w2, e2⟩ : ∃ y, w1.alloc (.cells #[.iface TT x, .iface 129 (.int .i64 2)] 85) = y := ⟨_, rfl⟩
   have hb2 : Below w1.heap.size w1 w2 := by subst e2; exact (Below.refl _ w1).alloc (Nat.le_refl _) _
   have HB2 := Aside0.mk (below_step HB1.out hb2)
   have HE2 := Aside0.mk (HE.out.below hb2)
   rw [e2]
   clear e2 hb2
   go_wp2_with fail
   refine (codeOf_any _ 1 w2 (HG0.out.below HB2.out) HE2.out).mono ?_
   rintro e w3 ⟨rfl, hb3⟩
   go_wp2
   refine bodyPost_ret (results_list (rs := [.tmp 4, .tmp 5, .tmp 6]) rfl (by simp) (.tmp (.tmp (.tmp .nil)))) rfl ?_
   refine ⟨?_, below_step HB2.out hb3⟩
   unfold pieceLineColV
   rw [HV.out]
   rfl
end Go.Proofs.YtciabhncmdpeeaaDoor
