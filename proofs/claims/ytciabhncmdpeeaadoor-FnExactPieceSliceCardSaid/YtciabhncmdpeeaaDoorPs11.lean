/- PieceSlice, walked. Conditions: at most 1048576 items and runes; errors.errorType reads as laid. -/
import Derived.Test.YtciabhncmdpeeaaDoorPs10
namespace Go.Proofs.YtciabhncmdpeeaaDoor
open Go.RowKit Go.Proofs.YtciabhncmdpeeaaDoorW.PrintWords Go.Proofs.YtciabhncmdpeeaaDoorW.PrintLast Go.Proofs.YtciabhncmdpeeaaDoorW.PrintMore Er
theorem rangeOf_any (w : World) (lo hi n : Int) : Calls Tryd.prog 87 #[.int .i64 lo, .int .i64 hi, .int .i64 n] w fun e w' => e = .returned (ev (if 0 ≤ lo ∧ lo ≤ hi ∧ hi ≤ n then none else some (129, .int .i64 2))) ∧ w' = w := by
 by_cases c1 : 0 ≤ lo
 ·by_cases c2 : lo ≤ hi
  ·by_cases c3 : hi ≤ n
   ·rw [if_pos ⟨c1, c2, c3⟩]
    go_enter Tryd.func87, Tryd.ntmps87
    go_wp2_with (go_at_call 59; refine (unless_any w true 2).mono ?_; rintro e w' ⟨rfl, hw⟩; rw [hw]; clear hw w')
    go_ret
    exact ⟨rfl, rfl⟩
   ·rw [if_neg (fun h => c3 h.2.2)]
    go_enter Tryd.func87, Tryd.ntmps87
    go_wp2_with (go_at_call 59; refine (unless_any w false 2).mono ?_; rintro e w' ⟨rfl, hw⟩; rw [hw]; clear hw w')
    go_ret
    exact ⟨rfl, rfl⟩
  ·rw [if_neg (fun h => c2 h.2.1)]
   go_enter Tryd.func87, Tryd.ntmps87
   go_wp2_with (go_at_call 59; refine (unless_any w false 2).mono ?_; rintro e w' ⟨rfl, hw⟩; rw [hw]; clear hw w')
   go_ret
   exact ⟨rfl, rfl⟩
 ·rw [if_neg (fun h => c1 h.1)]
  go_enter Tryd.func87, Tryd.ntmps87
  go_wp2_with (go_at_call 59; refine (unless_any w false 2).mono ?_; rintro e w' ⟨rfl, hw⟩; rw [hw]; clear hw w')
  go_ret
  exact ⟨rfl, rfl⟩
/-- what PieceSlice answers -/
def pieceSliceV (T : List Int) (xs : List It) (lo hi : Int) : List Int × Int :=
 match openV T xs with
 | none => ([], 1)
 | some t => if 0 ≤ lo ∧ lo ≤ hi ∧ hi ≤ rl t then (((txtOf T (TP.toL t)).take hi.toNat).drop lo.toNat, 0) else ([], 2)
def TextPost (w : World) (r : List Int × Int) (e : Ending) (w' : World) : Prop := ∃ v0_ : Value, e = .returned (.tuple #[v0_, .int .i64 r.2]) ∧ Kd.R (Kd.int .i32) 21 w' w.heap.size (fun _ => True) v0_ r.1 ∧ Below w.heap.size w w'
set_option maxHeartbeats 8000000 in
set_option maxRecDepth 100000 in
theorem pieceSlice_any (w : World) (T : List Int) (A : Option Addr) (c : Nat) (xs : List It) (B : Option Addr) (c2 : Nat) (lo hi : Int) (hm : xs.length ≤ 1048576) (hT : T.length ≤ 1048576) (hr : Kd.C (Kd.int .i32) w A T.length T) (hc : T.length ≤ c) (hr2 : Kd.C QBase.k54 w B xs.length xs) (hc2 : xs.length ≤ c2) (hg : HG w) :
  Calls Tryd.prog 38 #[.agg #[.slice A T.length c, .slice B xs.length c2], .int .i64 lo, .int .i64 hi] w (TextPost w (pieceSliceV T xs lo hi)) := by
 obtain ⟨w0, e0⟩ : ∃ y, w.alloc (.cells #[.slice A T.length c, .slice B xs.length c2] 64) = y := ⟨_, rfl⟩
 have HB0 : Aside0 (Below w.heap.size w w0) := ⟨by subst e0; exact (Below.refl _ w).alloc (Nat.le_refl _) _⟩
 have HX : Aside0 (w0.heap[w.heap.size]? = some (.cells #[.slice A T.length c, .slice B xs.length c2] 64 (0, 0))) := ⟨by subst e0; exact blk_new w (.cells #[.slice A T.length c, .slice B xs.length c2] 64)⟩
 have q0 : w0.cell? ⟨w.heap.size, 0, none⟩ = some (.slice A T.length c) := (blk_cell HX.out 0).trans rfl
 have q1 : w0.cell? ⟨w.heap.size, 1, none⟩ = some (.slice B xs.length c2) := (blk_cell HX.out 1).trans rfl
 have HR := Aside0.mk (Kd.C_below hr HB0.out)
 have HR2 := Aside0.mk (Kd.C_below hr2 HB0.out)
 have HG0 := Aside0.mk hg
 clear hr hr2 hg
 go_enter Tryd.func38, Tryd.ntmps38
 go_wp2_with fail
 refine (openPieces_any w0 T A c xs B c2 hm hT HR.out hc HR2.out hc2).mono ?_
 intro e w1 hp
 obtain ⟨hb1, hp⟩ := hp
 have HB1 := Aside0.mk (below_step HB0.out hb1)
 clear hb1 q0 q1 e0
 rcases hp with ⟨t, b, S, hV, rfl, hpb, -, -, -⟩ | ⟨hV, b, v, rfl, hz, hE⟩
 ·obtain ⟨ok, -⟩ := openV_ok hV
  have HP := Aside0.mk hpb
  have OK := Aside0.mk ok
  have HV := Aside0.mk hV
  clear hV hpb ok
  go_wp2_with fail
  refine (psize_any w1 b T t S HP.out OK.out.fine).mono ?_
  rintro e w' ⟨rfl, hw⟩
  rw [hw]
  clear hw w'
  go_wp2_with fail
  by_cases cin : 0 ≤ lo ∧ lo ≤ hi ∧ hi ≤ rl t
  ·have hro := rangeOf_any w1 lo hi (rl t)
   rw [if_pos cin] at hro
   have WI := Aside0.mk hro
   clear hro
   refine WI.out.mono ?_
   rintro e w' ⟨rfl, hw⟩
   rw [hw]
   clear hw w'
   simp only [ev]
   go_wp2_with fail
   refine (firstOf2 _ w1.heap.size none none (by simp [ev]) (by simp [ev])).mono ?_
   rintro e w' ⟨rfl, hw⟩
   rw [hw]
   clear hw w'
   simp only [ev, firstE]
   obtain ⟨w2, e2⟩ : ∃ y, w1.alloc (.cells #[.nilIface, .nilIface] 85) = y := ⟨_, rfl⟩
   have hb2 : Below w1.heap.size w1 w2 := by subst e2; exact (Below.refl _ w1).alloc (Nat.le_refl _) _
   have HP2 := Aside0.mk (HP.out.below hb2)
   have HB2 := Aside0.mk (below_step HB1.out hb2)
   have hbd : hi ≤ 10000 := by have := OK.out.sum; omega
   rw [e2]
   clear e2 hb2
   have CIN := Aside0.mk cin
   clear cin
   have PK := Aside0.mk (peek_any w2 b T t S lo hi HP2.out OK.out CIN.out.1 CIN.out.2.1 hbd)
   clear hbd
   go_wp2_with fail
   refine PK.out.mono ?_
   rintro e w3 ⟨v, rfl, hR, hb3⟩
   go_wp2
   refine bodyPost_ret (results_list (rs := [.tmp 6, .tmp 7]) rfl (by simp) (.tmp (.tmp .nil))) rfl ?_
   have e : pieceSliceV T xs lo hi = (((txtOf T (TP.toL t)).take hi.toNat).drop lo.toNat, 0) := by
    unfold pieceSliceV
    rw [HV.out]
    simp only
    rw [if_pos CIN.out]
   rw [e]
   exact ⟨v, rfl, Kd.R_lower hR HB2.out.size, below_step HB2.out hb3⟩
  ·have hro := rangeOf_any w1 lo hi (rl t)
   rw [if_neg cin] at hro
   have WI := Aside0.mk hro
   have CIN := Aside0.mk cin
   clear hro cin
   refine WI.out.mono ?_
   rintro e w' ⟨rfl, hw⟩
   rw [hw]
   clear hw w'
   simp only [ev]
   go_wp2_with fail
   refine (firstOf2 _ w1.heap.size none (some (129, .int .i64 2)) (by simp [ev]) (by simp [ev])).mono ?_
   rintro e w' ⟨rfl, hw⟩
   rw [hw]
   clear hw w'
   simp only [ev, firstE]
   obtain ⟨w2, e2⟩ : ∃ y, w1.alloc (.cells #[.nilIface, .iface 129 (.int .i64 2)] 85) = y := ⟨_, rfl⟩
   have HB2 : Aside0 (Below w.heap.size w w2) := ⟨by subst e2; exact HB1.out.alloc HB1.out.size _⟩
   rw [e2]
   clear e2
   go_wp2_with fail
   refine (codeOf_any _ 2 w2 (HG0.out.below HB2.out) (.inl rfl)).mono ?_
   rintro e w3 ⟨rfl, hb3⟩
   go_wp2
   refine bodyPost_ret (results_list (rs := [.tmp 6, .tmp 7]) rfl (by simp) (.tmp (.tmp .nil))) rfl ?_
   have e : pieceSliceV T xs lo hi = ([], 2) := by
    unfold pieceSliceV
    rw [HV.out]
    simp only
    rw [if_neg CIN.out]
   rw [e]
   exact ⟨_, rfl, Kd.R_nil _ _ _ _ _, below_step HB2.out hb3⟩
 ·obtain ⟨TT, x, rfl⟩ := errIs_ev hE
  have HE := Aside0.mk hE
  have HV := Aside0.mk hV
  have HZ := Aside0.mk hz
  clear hE hV hz
  simp only [ev]
  go_wp2_with fail
  refine (psize_none w1 b HZ.out).mono ?_
  rintro e w' ⟨rfl, hw⟩
  rw [hw]
  clear hw w'
  go_wp2_with fail
  refine (rangeOf_any w1 lo hi 0).mono ?_
  rintro e w' ⟨rfl, hw⟩
  rw [hw]
  clear hw w'
  have ev0 : pieceSliceV T xs lo hi = ([], 1) := by unfold pieceSliceV; rw [HV.out]
  have EV0 := Aside0.mk ev0
  clear ev0
  generalize (if 0 ≤ lo ∧ lo ≤ hi ∧ hi ≤ 0 then none else some (129, Value.int .i64 2) : EV) = E2
  have he2 : ∃ v2, ev E2 = v2 := ⟨_, rfl⟩
  obtain ⟨v2, he2⟩ := he2
  rw [he2]
  cases E2 with
  | none =>
   simp only [ev] at he2
   subst he2
   go_wp2_with fail
   refine (firstOf2 _ w1.heap.size (some (TT, x)) none (by simp [ev]) (by simp [ev])).mono ?_
   rintro e w' ⟨rfl, hw⟩
   rw [hw]
   clear hw w'
   simp only [ev, firstE]
   obtain ⟨w2, e2⟩ : ∃ y, w1.alloc (.cells #[.iface TT x, .nilIface] 85) = y := ⟨_, rfl⟩
   have hb2 : Below w1.heap.size w1 w2 := by subst e2; exact (Below.refl _ w1).alloc (Nat.le_refl _) _
   have HB2 := Aside0.mk (below_step HB1.out hb2)
   have HE2 := Aside0.mk (HE.out.below hb2)
   rw [e2]
   clear e2 hb2
   go_wp2_with fail
   refine (codeOf_any _ 1 w2 (HG0.out.below HB2.out) HE2.out).mono ?_
   rintro e w3 ⟨rfl, hb3⟩
   go_wp2
   refine bodyPost_ret (results_list (rs := [.tmp 6, .tmp 7]) rfl (by simp) (.tmp (.tmp .nil))) rfl ?_
   rw [EV0.out]
   exact ⟨_, rfl, Kd.R_nil _ _ _ _ _, below_step HB2.out hb3⟩
  | some z =>
   obtain ⟨Tz, xz⟩ := z
   simp only [ev] at he2
   subst he2
   go_wp2_with fail
   refine (firstOf2 _ w1.heap.size (some (TT, x)) (some (Tz, xz)) (by simp [ev]) (by simp [ev])).mono ?_
   rintro e w' ⟨rfl, hw⟩
   rw [hw]
   clear hw w'
   simp only [ev, firstE]
   obtain ⟨w2, e2⟩ : ∃ y, w1.alloc (.cells #[.iface TT x, .iface Tz xz] 85) = y := ⟨_, rfl⟩
   have hb2 : Below w1.heap.size w1 w2 := by subst e2; exact (Below.refl _ w1).alloc (Nat.le_refl _) _
   have HB2 := Aside0.mk (below_step HB1.out hb2)
   have HE2 := Aside0.mk (HE.out.below hb2)
   rw [e2]
   clear e2 hb2
   go_wp2_with fail
   refine (codeOf_any _ 1 w2 (HG0.out.below HB2.out) HE2.out).mono ?_
   rintro e w3 ⟨rfl, hb3⟩
   go_wp2
   refine bodyPost_ret (results_list (rs := [.tmp 6, .tmp 7]) rfl (by simp) (.tmp (.tmp .nil))) rfl ?_
   rw [EV0.out]
   exact ⟨_, rfl, Kd.R_nil _ _ _ _ _, below_step HB2.out hb3⟩
end Go.Proofs.YtciabhncmdpeeaaDoor
