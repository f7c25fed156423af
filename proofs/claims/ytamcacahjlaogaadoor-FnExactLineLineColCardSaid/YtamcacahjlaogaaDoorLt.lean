/- Lines: spec.LineLineCol, walked. Conditions: at most 1048576 rows, starts, and cells in a row. -/
import Derived.Test.YtamcacahjlaogaaDoorLs
import Derived.Test.YtamcacahjlaogaaDoorLi
namespace Go.Proofs.YtamcacahjlaogaaDoor.LP
open Go Go.RowKit Go.Proofs.YtamcacahjlaogaaDoor.Ln Go.Proofs.YtamcacahjlaogaaDoor.QBaseL Go.Proofs.YtamcacahjlaogaaDoorW.PrintWords Go.Proofs.YtamcacahjlaogaaDoorW.PrintLast Go.Proofs.YtamcacahjlaogaaDoorW.PrintMore
set_option linter.unusedSimpArgs false
set_option linter.unusedVariables false
theorem lineValid_any (w : World) (gs : List SG) (A0 : Option Addr) (c0 : Nat) (st : List Int) (A1 : Option Addr) (c1 : Nat) (hg0 : kG.C w A0 gs.length gs) (hc0 : gs.length ≤ c0) (hs : (Kd.int .i64).C w A1 st.length st) (hc1 : st.length ≤ c1) :
  Calls Tryd.prog 19 #[.agg #[.slice A0 gs.length c0, .slice A1 st.length c1]] w fun e w' => ∃ b : Bool, e = .returned (.bool b) ∧ (b = true ∧ okLn gs st ∨ b = false ∧ ¬ okLn gs st) ∧ Below w.heap.size w w' := by
 by_cases h : okLn gs st
 ·obtain ⟨k, hk⟩ := Ev.rounds ((validLn_ev gs st).1 h)
  refine (spec_L4LineValid.calls k A0 c0 gs A1 c1 st true w hg0 hc0 hs hc1 hk).mono ?_
  rintro e w' ⟨rfl, hb⟩
  exact ⟨true, rfl, .inl ⟨rfl, h⟩, hb⟩
 ·obtain ⟨k, hk⟩ := Ev.rounds ((validLn_ev gs st).2 h)
  refine (spec_L4LineValid.calls k A0 c0 gs A1 c1 st false w hg0 hc0 hs hc1 hk).mono ?_
  rintro e w' ⟨rfl, hb⟩
  exact ⟨false, rfl, .inr ⟨rfl, h⟩, hb⟩
theorem lineText_any (w : World) (gs : List SG) (A0 : Option Addr) (c0 : Nat) (st : List Int) (A1 : Option Addr) (c1 : Nat) (hg0 : kG.C w A0 gs.length gs) (hc0 : gs.length ≤ c0) (hs : (Kd.int .i64).C w A1 st.length st) (hc1 : st.length ≤ c1) (h : Fine gs) :
  Calls Tryd.prog 20 #[.agg #[.slice A0 gs.length c0, .slice A1 st.length c1]] w fun e w' => ∃ v : Value, e = .returned v ∧ Kd.R (Kd.int .i32) 21 w' w.heap.size (fun _ => True) v (textTo (gs.map rwOf) gs.length) ∧ Below w.heap.size w w' := by
 obtain ⟨k, hk⟩ := Ev.rounds (lineText_ev gs st h)
 exact spec_L4LineText.calls k A0 c0 gs A1 c1 st _ w hg0 hc0 hs hc1 hk
set_option maxHeartbeats 8000000 in
set_option maxRecDepth 100000 in
theorem specLineCol_any (w : World) (gs : List SG) (A0 : Option Addr) (c0 : Nat) (st : List Int) (A1 : Option Addr) (c1 : Nat) (off : Int) (hg0 : kG.C w A0 gs.length gs) (hc0 : gs.length ≤ c0) (hs : (Kd.int .i64).C w A1 st.length st) (hc1 : st.length ≤ c1) :
  Calls Tryd.prog 7 #[.agg #[.slice A0 gs.length c0, .slice A1 st.length c1], .int .i64 off] w fun e w' => ∃ xs st' a b c, LcRes gs st off xs st' a b c ∧ LOut3 w xs st' a b c e w' := by
 obtain ⟨wa, ea⟩ : ∃ y, w.alloc (.cells #[.slice A0 gs.length c0, .slice A1 st.length c1] 29) = y := ⟨_, rfl⟩
 have hba : Below w.heap.size w wa := by subst ea; exact (Below.refl _ w).alloc (Nat.le_refl _) _
 have bka : wa.heap[w.heap.size]? = some (.cells #[.slice A0 gs.length c0, .slice A1 st.length c1] 29 (0, 0)) := by subst ea; exact blk_new w (.cells #[.slice A0 gs.length c0, .slice A1 st.length c1] 29)
 obtain ⟨w0, e0⟩ : ∃ y, wa.alloc (.cells #[.slice none 0 0, .slice none 0 0] 29) = y := ⟨_, rfl⟩
 have hb0 : Below wa.heap.size wa w0 := by subst e0; exact (Below.refl _ wa).alloc (Nat.le_refl _) _
 obtain ⟨rs, hrs⟩ : ∃ z, wa.heap.size = z := ⟨_, rfl⟩
 have RS0 := Aside0.mk (show w0.heap[rs]? = some (.cells #[.slice none 0 0, .slice none 0 0] 29 (0, 0)) by subst e0; rw [← hrs]; exact blk_new wa (.cells #[.slice none 0 0, .slice none 0 0] 29))
 have HB0 := Aside0.mk (below_step hba hb0)
 have HX := Aside0.mk (blk_below bka hb0)
 have HRS := Aside0.mk (show w.heap.size ≤ rs by rw [← hrs]; exact hba.size)
 have q0 : w0.cell? ⟨w.heap.size, 0, none⟩ = some (.slice A0 gs.length c0) := (blk_cell HX.out 0).trans rfl
 have q1 : w0.cell? ⟨w.heap.size, 1, none⟩ = some (.slice A1 st.length c1) := (blk_cell HX.out 1).trans rfl
 have HR := Aside0.mk (Kd.C_below hg0 HB0.out)
 have HR2 := Aside0.mk (Kd.C_below hs HB0.out)
 clear hg0 hs hba hb0 bka
 go_enter Tryd.func7, Tryd.ntmps7
 go_wp2_with fail
 refine (lineValid_any w0 gs A0 c0 st A1 c1 HR.out hc0 HR2.out hc1).mono ?_
 rintro e w1 ⟨b, rfl, hbv, hb1⟩
 have HB1 := Aside0.mk (below_step HB0.out hb1)
 have RS1 := Aside0.mk (blk_below RS0.out hb1)
 have HX1 := Aside0.mk (blk_below HX.out hb1)
 have HR_1 := Aside0.mk (Kd.C_below HR.out hb1)
 have HR2_1 := Aside0.mk (Kd.C_below HR2.out hb1)
 clear hb1 q0 q1 e0 ea hrs
 rcases hbv with ⟨rfl, hok⟩ | ⟨rfl, hno⟩
 ·have HOK := Aside0.mk hok
  have HF := Aside0.mk hok.fine
  have q0 : w1.cell? ⟨w.heap.size, 0, none⟩ = some (.slice A0 gs.length c0) := (blk_cell HX1.out 0).trans rfl
  have q1 : w1.cell? ⟨w.heap.size, 1, none⟩ = some (.slice A1 st.length c1) := (blk_cell HX1.out 1).trans rfl
  clear hok
  go_wp2_with fail
  refine (lineText_any w1 gs A0 c0 st A1 c1 HR_1.out hc0 HR2_1.out hc1 HF.out).mono ?_
  rintro e w2 ⟨vt, rfl, hT, hb2⟩
  obtain ⟨T, HTT⟩ : ∃ z, Aside0 (textTo (gs.map rwOf) gs.length = z) := ⟨_, ⟨rfl⟩⟩
  rw [HTT.out] at hT
  have hTl : (T.length : Int) = totL gs := by
   have h1 := textTo_len (gs.map rwOf) gs.length
   have h2 := stN_is (gs.map rwOf) gs.length
   have h3 := HOK.out.tot
   unfold totL at h3 ⊢
   rw [← HTT.out, h1.1]; omega
  obtain ⟨At, ct, rfl⟩ := Kd.R_slice hT
  have HT := Aside0.mk hT
  have HB2 := Aside0.mk (below_step HB1.out hb2)
  have RS2 := Aside0.mk (blk_below RS1.out hb2)
  have HX2 := Aside0.mk (blk_below HX1.out hb2)
  have HR_2 := Aside0.mk (Kd.C_below HR_1.out hb2)
  have HR2_2 := Aside0.mk (Kd.C_below HR2_1.out hb2)
  have HTL := Aside0.mk hTl
  clear hT hb2 hTl q0 q1
  have q0 : w2.cell? ⟨w.heap.size, 0, none⟩ = some (.slice A0 gs.length c0) := (blk_cell HX2.out 0).trans rfl
  have q1 : w2.cell? ⟨w.heap.size, 1, none⟩ = some (.slice A1 st.length c1) := (blk_cell HX2.out 1).trans rfl
  have r0 : w2.cell? ⟨rs, 0, none⟩ = some (.slice none 0 0) := (blk_cell RS2.out 0).trans rfl
  have r1 : w2.cell? ⟨rs, 1, none⟩ = some (.slice none 0 0) := (blk_cell RS2.out 1).trans rfl
  have g0 := blk_frozen RS2.out 0
  have g1 := blk_frozen RS2.out 1
  have bad : ¬ (0 ≤ off ∧ off ≤ totL gs) → LcRes gs st off [] [] 0 0 2 := fun h => .inr (.inl ⟨HOK.out, h, rfl, rfl, rfl, rfl, rfl⟩)
  by_cases c1' : off < 0
  ·have BAD := Aside0.mk (bad (by omega))
   clear bad
   go_wp2
   have BX := Aside0.mk (blk_put (blk_put RS2.out 0 (.slice none 0 0) rfl) 1 (.slice none 0 0) rfl)
   refine bodyPost_ret (results_list (rs := [.cell 4 29, .tmp 5, .tmp 6, .tmp 7]) rfl (by simp) (.cell rs 29 _ (0, 0) _ rfl BX.out Tryd.underlying29 rfl (by kernel_rfl) (.tmp (.tmp (.tmp .nil))))) rfl ?_
   exact ⟨[], [], 0, 0, 2, BAD.out, _, _, rfl, LB.put (LB.nil _ _ _) RS2.out, (HB2.out.setCell (p := ⟨rs, 0, none⟩) HRS.out _).setCell (p := ⟨rs, 1, none⟩) HRS.out _⟩
  by_cases c2' : (T.length : Int) < off
  ·have BAD := Aside0.mk (bad (by rw [← HTL.out]; omega))
   clear bad
   go_wp2
   have BX := Aside0.mk (blk_put (blk_put RS2.out 0 (.slice none 0 0) rfl) 1 (.slice none 0 0) rfl)
   refine bodyPost_ret (results_list (rs := [.cell 4 29, .tmp 5, .tmp 6, .tmp 7]) rfl (by simp) (.cell rs 29 _ (0, 0) _ rfl BX.out Tryd.underlying29 rfl (by kernel_rfl) (.tmp (.tmp (.tmp .nil))))) rfl ?_
   exact ⟨[], [], 0, 0, 2, BAD.out, _, _, rfl, LB.put (LB.nil _ _ _) RS2.out, (HB2.out.setCell (p := ⟨rs, 0, none⟩) HRS.out _).setCell (p := ⟨rs, 1, none⟩) HRS.out _⟩
  ·have cin : 0 ≤ off ∧ off ≤ totL gs := by rw [← HTL.out]; omega
   have CIN := Aside0.mk cin
   clear bad r0 r1 g0 g1
   go_wp2_with fail
   refine (l4Find_any w2 gs A0 c0 st A1 c1 off HR_2.out hc0 HR2_2.out hc1 HOK.out cin).mono ?_
   rintro e w3 ⟨k, line, v0, v1, rfl, hkn, hln, hlb, hb3⟩
   obtain ⟨B0, d0, B1, d1, rfl, rfl, -, -, -, -⟩ := hlb.form
   have HKN := Aside0.mk hkn
   have HLN := Aside0.mk hln
   have HLB := Aside0.mk hlb
   have HB3 := Aside0.mk hb3
   clear hkn hln hlb hb3 q0 q1 cin
   go_wp2_with ((with_reducible refine gate_dst (N := 9) rfl ?_); refine box_event ?hg (N := 9) ?hd (cs := #[.slice none 0 0, .slice none 0 0]) (t := 29) ?hr ?_; (case hd => rfl); (case hg => rfl); (case hr => first | (go_simp; done) | (go_simp; rfl)); intro bo hbo w4 hbox hb; have BK := Aside0.mk hbox; have BW := Aside0.mk hb; have LE := Aside0.mk (by rw [hbo]; exact Nat.le_refl _ : w3.heap.size ≤ bo); have a0 : w4.cell? ⟨bo, 0, none⟩ = some (.slice none 0 0) := (blk_cell hbox 0).trans rfl; have a1 : w4.cell? ⟨bo, 1, none⟩ = some (.slice none 0 0) := (blk_cell hbox 1).trans rfl; have f0 := blk_frozen hbox 0; have f1 := blk_frozen hbox 1; clear hb hbox hbo)
   obtain ⟨w5, e5⟩ : ∃ y, (w4.setCell ⟨bo, 0, none⟩ (.slice B0 gs.length d0)).setCell ⟨bo, 1, none⟩ (.slice B1 (sts (gs.map rwOf) k).length d1) = y := ⟨_, rfl⟩
   have H5 : Below w3.heap.size w3 w5 := by subst e5; exact below_set (below_set BW.out LE.out) LE.out
   have BK5 : w5.heap[bo]? = some (.cells #[.slice B0 gs.length d0, .slice B1 (sts (gs.map rwOf) k).length d1] 29 (0, 0)) := by subst e5; exact blk_put (blk_put BK.out 0 _ rfl) 1 _ rfl
   have HLB5 := Aside0.mk (HLB.out.below H5)
   have H25 := Aside0.mk (below_step HB3.out H5)
   have BO5 := Aside0.mk BK5
   obtain ⟨K, hK⟩ := Ev.rounds (lc_ev (gs.map rwOf) (by rw [List.length_map]; exact HOK.out.1.1) HF.out.plain (by rw [List.length_map]; have := HOK.out.tot; unfold totL at this; omega) off CIN.out.1 (by rw [List.length_map]; exact CIN.out.2) st.length k line HKN.out HLN.out)
   rw [List.length_map, HTT.out] at hK
   have HKK := Aside0.mk hK
   rw [e5]
   clear e5 a0 a1 f0 f1 H5 BK5 hK
   go_wp2_with fail
   have hT5 := Kd.R_reads' (Kd.R_below HT.out H25.out)
   refine (spec_l4LineCol.calls K At ct T off _ _ w5 hT5.2.2 hT5.2.1 HKK.out).mono ?_
   rintro e w6 ⟨rfl, hb6⟩
   have hb6 : Below w5.heap.size w5 w6 := by first | exact hb6 | exact hb6.below
   have HLB6 := Aside0.mk (HLB5.out.below hb6)
   have BO6 := blk_below BO5.out hb6
   have RS6 := Aside0.mk (blk_below (blk_below RS2.out H25.out) hb6)
   have HB6 := Aside0.mk (below_step (below_step HB2.out H25.out) hb6)
   have x0 : w6.cell? ⟨bo, 0, none⟩ = some (.slice B0 gs.length d0) := (blk_cell BO6 0).trans rfl
   have x1 : w6.cell? ⟨bo, 1, none⟩ = some (.slice B1 (sts (gs.map rwOf) k).length d1) := (blk_cell BO6 1).trans rfl
   have r0 : w6.cell? ⟨rs, 0, none⟩ = some (.slice none 0 0) := (blk_cell RS6.out 0).trans rfl
   have r1 : w6.cell? ⟨rs, 1, none⟩ = some (.slice none 0 0) := (blk_cell RS6.out 1).trans rfl
   have g0 := blk_frozen RS6.out 0
   have g1 := blk_frozen RS6.out 1
   clear hT5 hb6 BO6
   go_wp2
   have BX := Aside0.mk (blk_put (blk_put RS6.out 0 (.slice B0 gs.length d0) rfl) 1 (.slice B1 (sts (gs.map rwOf) k).length d1) rfl)
   refine bodyPost_ret (results_list (rs := [.cell 4 29, .tmp 5, .tmp 6, .tmp 7]) rfl (by simp) (.cell rs 29 _ (0, 0) _ rfl BX.out Tryd.underlying29 rfl (by kernel_rfl) (.tmp (.tmp (.tmp .nil))))) rfl ?_
   have hres : LcRes gs st off gs (sts (gs.map rwOf) k) line (off - stAt (gs.map rwOf) line) 0 := .inr (.inr ⟨HOK.out, CIN.out, k, line, HKN.out, HLN.out, rfl, rfl, rfl, rfl, rfl⟩)
   exact ⟨gs, sts (gs.map rwOf) k, line, off - stAt (gs.map rwOf) line, 0, hres, _, _, rfl, LB.put ⟨Kd.S_lower HLB6.out.1 HB2.out.size, Kd.R_lower HLB6.out.2 HB2.out.size⟩ RS6.out, (HB6.out.setCell (p := ⟨rs, 0, none⟩) HRS.out _).setCell (p := ⟨rs, 1, none⟩) HRS.out _⟩
 ·have r0 : w1.cell? ⟨rs, 0, none⟩ = some (.slice none 0 0) := (blk_cell RS1.out 0).trans rfl
  have r1 : w1.cell? ⟨rs, 1, none⟩ = some (.slice none 0 0) := (blk_cell RS1.out 1).trans rfl
  have g0 := blk_frozen RS1.out 0
  have g1 := blk_frozen RS1.out 1
  have hres : Aside0 (LcRes gs st off [] [] 0 0 1) := ⟨.inl ⟨hno, rfl, rfl, rfl, rfl, rfl⟩⟩
  clear hno
  go_wp2
  have BX := Aside0.mk (blk_put (blk_put RS1.out 0 (.slice none 0 0) rfl) 1 (.slice none 0 0) rfl)
  refine bodyPost_ret (results_list (rs := [.cell 4 29, .tmp 5, .tmp 6, .tmp 7]) rfl (by simp) (.cell rs 29 _ (0, 0) _ rfl BX.out Tryd.underlying29 rfl (by kernel_rfl) (.tmp (.tmp (.tmp .nil))))) rfl ?_
  exact ⟨[], [], 0, 0, 1, hres.out, _, _, rfl, LB.put (LB.nil _ _ _) RS1.out, (HB1.out.setCell (p := ⟨rs, 0, none⟩) HRS.out _).setCell (p := ⟨rs, 1, none⟩) HRS.out _⟩
end Go.Proofs.YtamcacahjlaogaaDoor.LP
