/- Lines: LineLineCol, walked. Conditions: at most 1048576 rows, starts, and cells in a row; errors.errorType reads as laid. -/
import Derived.Test.YtamcacahjlaogaaDoorLh
namespace Go.Proofs.YtamcacahjlaogaaDoor.Ln
open Go.RowKit Go.Proofs.YtamcacahjlaogaaDoorW.PrintWords Go.Proofs.YtamcacahjlaogaaDoorW.PrintLast Go.Proofs.YtamcacahjlaogaaDoorW.PrintMore Er Go.Proofs.YtamcacahjlaogaaDoor.LP
open F (UpdS Fresh R_upd)
set_option linter.unusedSimpArgs false
set_option linter.unusedVariables false
set_option maxHeartbeats 8000000 in
set_option maxRecDepth 100000 in
theorem lineLineCol_any (w : World) (gs : List SG) (A0 : Option Addr) (c0 : Nat) (st : List Int) (A1 : Option Addr) (c1 : Nat) (off : Int) (hg0 : kG.C w A0 gs.length gs) (hc0 : gs.length ≤ c0) (hs : (Kd.int .i64).C w A1 st.length st) (hc1 : st.length ≤ c1)
  (hm : gs.length ≤ 1048576) (hst : st.length ≤ 1048576) (hz : ∀ i, i < gs.length → (rdG gs i).f0.length ≤ 1048576) (hg : HG w) :
  Calls Tryd.prog 9 #[.agg #[.slice A0 gs.length c0, .slice A1 st.length c1], .int .i64 off] w fun e w' => ∃ xs st' a b c, LcRes gs st off xs st' a b c ∧ LOut3 w xs st' a b c e w' := by
 obtain ⟨wa, ea⟩ : ∃ y, w.alloc (.cells #[.slice A0 gs.length c0, .slice A1 st.length c1] 29) = y := ⟨_, rfl⟩
 have hba : Below w.heap.size w wa := by subst ea; exact (Below.refl _ w).alloc (Nat.le_refl _) _
 have bka : wa.heap[w.heap.size]? = some (.cells #[.slice A0 gs.length c0, .slice A1 st.length c1] 29 (0, 0)) := by subst ea; exact blk_new w (.cells #[.slice A0 gs.length c0, .slice A1 st.length c1] 29)
 obtain ⟨w0, e0⟩ : ∃ y, wa.alloc (.cells #[.slice none 0 0, .slice none 0 0] 29) = y := ⟨_, rfl⟩
 have hb0 : Below wa.heap.size wa w0 := by subst e0; exact (Below.refl _ wa).alloc (Nat.le_refl _) _
 obtain ⟨rs, hrs⟩ : ∃ z, wa.heap.size = z := ⟨_, rfl⟩
 have RS0 := Aside0.mk (show w0.heap[rs]? = some (.cells #[.slice none 0 0, .slice none 0 0] 29 (0, 0)) by subst e0; rw [← hrs]; exact blk_new wa (.cells #[.slice none 0 0, .slice none 0 0] 29))
 have HB0 := Aside0.mk (below_step hba hb0)
 have HX := Aside0.mk (blk_below bka hb0)
 have HRS := Aside0.mk (show w.heap.size ≤ rs by rw [← hrs]; exact hba.size)
 have q0 : w0.cell? ⟨w.heap.size, 0, none⟩ = some (.slice A0 gs.length c0) := (blk_cell HX.out 0).trans rfl
 have q1 : w0.cell? ⟨w.heap.size, 1, none⟩ = some (.slice A1 st.length c1) := (blk_cell HX.out 1).trans rfl
 have HR := Aside0.mk (Kd.C_below hg0 HB0.out)
 have HR2 := Aside0.mk (Kd.C_below hs HB0.out)
 have HG0 := Aside0.mk hg
 have HZ := Aside0.mk hz
 clear hg0 hs hg hz hba hb0 bka
 go_enter Tryd.func9, Tryd.ntmps9
 go_wp2_with fail
 refine (openLines_any w0 gs A0 c0 st A1 c1 HR.out hc0 HR2.out hc1 hm hst HZ.out).mono ?_
 intro e w1 hp
 obtain ⟨hb1, hp⟩ := hp
 have HB1 := Aside0.mk (below_step HB0.out hb1)
 have RS1 := Aside0.mk (blk_below RS0.out hb1)
 have HB01 := Aside0.mk hb1.size
 clear hb1 q0 q1 e0 ea hrs
 rcases hp with ⟨hok, L, ps, l, g, sv, S0, Ss, rfl, hlf⟩ | ⟨hno, L, v, rfl, hz, hE⟩
 ·rw [totL_is] at hlf
  obtain ⟨tot, HT⟩ : ∃ z, Aside0 (totL gs = z) := ⟨_, ⟨rfl⟩⟩
  rw [HT.out] at hlf
  have HL1 := Aside0.mk hlf
  have HOK := Aside0.mk hok
  obtain ⟨vr, hvr, -⟩ := hlf.blk
  have BL := Aside0.mk hvr
  clear hlf hok hvr
  go_wp2_with fail
  refine (lsize_any w1 L _ _ _ _ tot BL.out).mono ?_
  rintro e w' ⟨rfl, hw⟩
  rw [hw]
  clear hw w'
  go_wp2_with fail
  by_cases cin : 0 ≤ off ∧ off ≤ tot
  ·have hw := within_any w1 off 0 tot
   rw [decide_eq_true cin] at hw
   have WI := Aside0.mk hw
   clear hw
   refine WI.out.mono ?_
   rintro e w' ⟨rfl, hw⟩
   rw [hw]
   clear hw w'
   go_wp2_with fail
   refine (unless_any w1 true 2).mono ?_
   rintro e w' ⟨rfl, hw⟩
   rw [hw]
   clear hw w'
   simp only [ev, if_true]
   go_wp2_with fail
   refine (firstOf2 _ w1.heap.size none none (by simp [ev]) (by simp [ev])).mono ?_
   rintro e w' ⟨rfl, hw⟩
   rw [hw]
   clear hw w'
   simp only [ev, firstE]
   obtain ⟨w2, e2⟩ : ∃ y, w1.alloc (.cells #[.nilIface, .nilIface] 53) = y := ⟨_, rfl⟩
   have hb2 : Below w1.heap.size w1 w2 := by subst e2; exact (Below.refl _ w1).alloc (Nat.le_refl _) _
   have HB2 := Aside0.mk (below_step HB1.out hb2)
   have RS2 := Aside0.mk (blk_below RS1.out hb2)
   have HL2 := HL1.out.below hb2
   rw [HOK.out.sts] at HL2
   have HL2 := Aside0.mk HL2
   have HB02 := Aside0.mk (Nat.le_trans HB01.out hb2.size)
   rw [e2]
   clear e2 hb2
   go_wp2_with fail
   have f1 := HOK.out.fine
   have f2 := HOK.out.tot
   have f3 := HOK.out.2.1
   refine (lineCol_any w2 w0.heap.size L st.length ps (gs.map rwOf) l g tot off sv S0 Ss HL2.out HB02.out f3.1 (by rw [List.length_map]; exact f3.2) (by rw [List.length_map]; have := f1.n; omega) (by rw [List.length_map]; unfold totL at f2; omega) (by rw [HT.out] at f2; omega)).mono ?_
   rintro e w3 ⟨k, line, sv3, rfl, hkn, hln, hl3, hb3⟩
   have HKN := Aside0.mk hkn
   have HLN := Aside0.mk hln
   have HL3 := Aside0.mk hl3
   have RS3 := Aside0.mk ((hb3.block rs (blk_lt RS0.out)).trans RS2.out)
   have HB3 := Aside0.mk (HB2.out.trans (Below.mono hb3 HB0.out.size))
   clear hkn hln hl3 hb3 f1 f2 f3
   go_wp2_with fail
   have f1 := HOK.out.fine.n
   refine (told_any w3 w0.heap.size L ps (gs.map rwOf) l g _ tot sv3 S0 Ss HL3.out (by rw [sts_length]; have := HKN.out.hi; rw [List.length_map] at this; omega) (by rw [List.length_map]; omega)).mono ?_
   rintro e w4 ⟨v0, v1, rfl, hS4, hR4, hb4⟩
   rw [HOK.out.fine.tg] at hS4
   have LB4 := Aside0.mk (show LB w4 w.heap.size (fun _ => True) v0 v1 gs (sts (gs.map rwOf) k) from ⟨Kd.S_lower hS4 HB3.out.size, Kd.R_lower hR4 HB3.out.size⟩)
   have RS4 := blk_below RS3.out hb4
   have HB4 := Aside0.mk (below_step HB3.out hb4)
   have r0 : w4.cell? ⟨rs, 0, none⟩ = some (.slice none 0 0) := (blk_cell RS4 0).trans rfl
   have r1 : w4.cell? ⟨rs, 1, none⟩ = some (.slice none 0 0) := (blk_cell RS4 1).trans rfl
   have g0 := blk_frozen RS4 0
   have g1 := blk_frozen RS4 1
   obtain ⟨A4, c4, rfl⟩ := Kd.S_slice hS4
   obtain ⟨A5, c5, rfl⟩ := Kd.R_slice hR4
   have RS4 := Aside0.mk RS4
   clear hS4 hR4 hb4 f1
   go_wp2
   have BX := Aside0.mk (blk_put (blk_put RS4.out 0 (.slice A4 gs.length c4) rfl) 1 (.slice A5 (sts (gs.map rwOf) k).length c5) rfl)
   refine bodyPost_ret (results_list (rs := [.cell 4 29, .tmp 5, .tmp 6, .tmp 7]) rfl (by simp) (.cell rs 29 _ (0, 0) _ rfl BX.out Tryd.underlying29 rfl (by kernel_rfl) (.tmp (.tmp (.tmp .nil))))) rfl ?_
   have hres : LcRes gs st off gs (sts (gs.map rwOf) k) line (off - stAt (gs.map rwOf) line) 0 := .inr (.inr ⟨HOK.out, by rw [HT.out]; exact cin, k, line, HKN.out, HLN.out, rfl, rfl, rfl, rfl, rfl⟩)
   refine ⟨gs, sts (gs.map rwOf) k, line, off - stAt (gs.map rwOf) line, 0, hres, _, _, rfl, LB.put LB4.out RS4.out, (HB4.out.setCell (p := ⟨rs, 0, none⟩) HRS.out _).setCell (p := ⟨rs, 1, none⟩) HRS.out _⟩
  ·have hw := within_any w1 off 0 tot
   rw [decide_eq_false cin] at hw
   have WI := Aside0.mk hw
   have CIN := Aside0.mk cin
   clear hw cin
   refine WI.out.mono ?_
   rintro e w' ⟨rfl, hw⟩
   rw [hw]
   clear hw w'
   go_wp2_with fail
   refine (unless_any w1 false 2).mono ?_
   rintro e w' ⟨rfl, hw⟩
   rw [hw]
   clear hw w'
   simp only [ev, Bool.false_eq_true, if_false]
   go_wp2_with fail
   refine (firstOf2 _ w1.heap.size none (some (84, .int .i64 2)) (by simp [ev]) (by simp [ev])).mono ?_
   rintro e w' ⟨rfl, hw⟩
   rw [hw]
   clear hw w'
   simp only [ev, firstE]
   obtain ⟨w2, e2⟩ : ∃ y, w1.alloc (.cells #[.nilIface, .iface 84 (.int .i64 2)] 53) = y := ⟨_, rfl⟩
   have hb2 : Below w1.heap.size w1 w2 := by subst e2; exact (Below.refl _ w1).alloc (Nat.le_refl _) _
   have HB2 : Aside0 (Below w.heap.size w w2) := ⟨below_step HB1.out hb2⟩
   have RS2 := Aside0.mk (blk_below RS1.out hb2)
   rw [e2]
   clear e2 hb2
   go_wp2_with fail
   refine (codeOf_any _ 2 w2 (HG0.out.below HB2.out) (.inl rfl)).mono ?_
   rintro e w3 ⟨rfl, hb3⟩
   have RS3 := blk_below RS2.out hb3
   have HB3 := Aside0.mk (below_step HB2.out hb3)
   have r0 : w3.cell? ⟨rs, 0, none⟩ = some (.slice none 0 0) := (blk_cell RS3 0).trans rfl
   have r1 : w3.cell? ⟨rs, 1, none⟩ = some (.slice none 0 0) := (blk_cell RS3 1).trans rfl
   have g0 := blk_frozen RS3 0
   have g1 := blk_frozen RS3 1
   have RS3 := Aside0.mk RS3
   clear hb3
   go_wp2
   have BX := Aside0.mk (blk_put (blk_put RS3.out 0 (.slice none 0 0) rfl) 1 (.slice none 0 0) rfl)
   refine bodyPost_ret (results_list (rs := [.cell 4 29, .tmp 5, .tmp 6, .tmp 7]) rfl (by simp) (.cell rs 29 _ (0, 0) _ rfl BX.out Tryd.underlying29 rfl (by kernel_rfl) (.tmp (.tmp (.tmp .nil))))) rfl ?_
   have hres : LcRes gs st off [] [] 0 0 2 := .inr (.inl ⟨HOK.out, by rw [HT.out]; exact CIN.out, rfl, rfl, rfl, rfl, rfl⟩)
   exact ⟨[], [], 0, 0, 2, hres, _, _, rfl, LB.put (LB.nil _ _ _) RS3.out, (HB3.out.setCell (p := ⟨rs, 0, none⟩) HRS.out _).setCell (p := ⟨rs, 1, none⟩) HRS.out _⟩
 ·obtain ⟨TT, x, rfl⟩ := errIs_ev hE
  have HE := Aside0.mk hE
  have HNO := Aside0.mk hno
  have BL := Aside0.mk hz
  clear hE hno hz
  simp only [ev]
  go_wp2_with fail
  refine (lsize_any w1 L _ _ _ _ 0 BL.out).mono ?_
  rintro e w' ⟨rfl, hw⟩
  rw [hw]
  clear hw w'
  go_wp2_with fail
  refine (within_any w1 off 0 0).mono ?_
  rintro e w' ⟨rfl, hw⟩
  rw [hw]
  clear hw w'
  generalize decide (0 ≤ off ∧ off ≤ 0) = bb
  have hres : Aside0 (LcRes gs st off [] [] 0 0 1) := ⟨.inl ⟨HNO.out, rfl, rfl, rfl, rfl, rfl⟩⟩
  cases bb with
  | true =>
   go_wp2_with fail
   refine (unless_any w1 true 2).mono ?_
   rintro e w' ⟨rfl, hw⟩
   rw [hw]
   clear hw w'
   simp only [ev, if_true]
   go_wp2_with fail
   refine (firstOf2 _ w1.heap.size (some (TT, x)) none (by simp [ev]) (by simp [ev])).mono ?_
   rintro e w' ⟨rfl, hw⟩
   rw [hw]
   clear hw w'
   simp only [ev, firstE]
   obtain ⟨w2, e2⟩ : ∃ y, w1.alloc (.cells #[.iface TT x, .nilIface] 53) = y := ⟨_, rfl⟩
   have hb2 : Below w1.heap.size w1 w2 := by subst e2; exact (Below.refl _ w1).alloc (Nat.le_refl _) _
   have HB2 := Aside0.mk (below_step HB1.out hb2)
   have RS2 := Aside0.mk (blk_below RS1.out hb2)
   have HE2 := Aside0.mk (HE.out.below hb2)
   rw [e2]
   clear e2 hb2
   go_wp2_with fail
   refine (codeOf_any _ 1 w2 (HG0.out.below HB2.out) (HE2.out)).mono ?_
   rintro e w3 ⟨rfl, hb3⟩
   have RS3 := blk_below RS2.out hb3
   have HB3 := Aside0.mk (below_step HB2.out hb3)
   have r0 : w3.cell? ⟨rs, 0, none⟩ = some (.slice none 0 0) := (blk_cell RS3 0).trans rfl
   have r1 : w3.cell? ⟨rs, 1, none⟩ = some (.slice none 0 0) := (blk_cell RS3 1).trans rfl
   have g0 := blk_frozen RS3 0
   have g1 := blk_frozen RS3 1
   have RS3 := Aside0.mk RS3
   clear hb3
   go_wp2
   have BX := Aside0.mk (blk_put (blk_put RS3.out 0 (.slice none 0 0) rfl) 1 (.slice none 0 0) rfl)
   refine bodyPost_ret (results_list (rs := [.cell 4 29, .tmp 5, .tmp 6, .tmp 7]) rfl (by simp) (.cell rs 29 _ (0, 0) _ rfl BX.out Tryd.underlying29 rfl (by kernel_rfl) (.tmp (.tmp (.tmp .nil))))) rfl ?_
   exact ⟨[], [], 0, 0, 1, hres.out, _, _, rfl, LB.put (LB.nil _ _ _) RS3.out, (HB3.out.setCell (p := ⟨rs, 0, none⟩) HRS.out _).setCell (p := ⟨rs, 1, none⟩) HRS.out _⟩
  | false =>
   go_wp2_with fail
   refine (unless_any w1 false 2).mono ?_
   rintro e w' ⟨rfl, hw⟩
   rw [hw]
   clear hw w'
   simp only [ev, Bool.false_eq_true, if_false]
   go_wp2_with fail
   refine (firstOf2 _ w1.heap.size (some (TT, x)) (some (84, .int .i64 2)) (by simp [ev]) (by simp [ev])).mono ?_
   rintro e w' ⟨rfl, hw⟩
   rw [hw]
   clear hw w'
   simp only [ev, firstE]
   obtain ⟨w2, e2⟩ : ∃ y, w1.alloc (.cells #[.iface TT x, .iface 84 (.int .i64 2)] 53) = y := ⟨_, rfl⟩
   have hb2 : Below w1.heap.size w1 w2 := by subst e2; exact (Below.refl _ w1).alloc (Nat.le_refl _) _
   have HB2 := Aside0.mk (below_step HB1.out hb2)
   have RS2 := Aside0.mk (blk_below RS1.out hb2)
   have HE2 := Aside0.mk (HE.out.below hb2)
   rw [e2]
   clear e2 hb2
   go_wp2_with fail
   refine (codeOf_any _ 1 w2 (HG0.out.below HB2.out) (HE2.out)).mono ?_
   rintro e w3 ⟨rfl, hb3⟩
   have RS3 := blk_below RS2.out hb3
   have HB3 := Aside0.mk (below_step HB2.out hb3)
   have r0 : w3.cell? ⟨rs, 0, none⟩ = some (.slice none 0 0) := (blk_cell RS3 0).trans rfl
   have r1 : w3.cell? ⟨rs, 1, none⟩ = some (.slice none 0 0) := (blk_cell RS3 1).trans rfl
   have g0 := blk_frozen RS3 0
   have g1 := blk_frozen RS3 1
   have RS3 := Aside0.mk RS3
   clear hb3
   go_wp2
   have BX := Aside0.mk (blk_put (blk_put RS3.out 0 (.slice none 0 0) rfl) 1 (.slice none 0 0) rfl)
   refine bodyPost_ret (results_list (rs := [.cell 4 29, .tmp 5, .tmp 6, .tmp 7]) rfl (by simp) (.cell rs 29 _ (0, 0) _ rfl BX.out Tryd.underlying29 rfl (by kernel_rfl) (.tmp (.tmp (.tmp .nil))))) rfl ?_
   exact ⟨[], [], 0, 0, 1, hres.out, _, _, rfl, LB.put (LB.nil _ _ _) RS3.out, (HB3.out.setCell (p := ⟨rs, 0, none⟩) HRS.out _).setCell (p := ⟨rs, 1, none⟩) HRS.out _⟩
end Go.Proofs.YtamcacahjlaogaaDoor.Ln
