/- PieceInsert, walked. Conditions: at most 1048576 items and runes; errors.errorType reads as laid. -/
import Derived.Test.YtnomidpnofhjdaaGreatDoorPt6
namespace Go.Proofs.YtnomidpnofhjdaaGreatDoor
open Go.RowKit Go.Proofs.YtnomidpnofhjdaaGreatDoorW.PrintWords Go.Proofs.YtnomidpnofhjdaaGreatDoorW.PrintLast Go.Proofs.YtnomidpnofhjdaaGreatDoorW.PrintMore Er
def pieceInsertV (T : List Int) (xs : List It) (X : List Int) (off : Int) : List Int × List It × Int :=
 match openV T xs with
 | none => ([], [], 1)
 | some t => if 0 ≤ off ∧ off ≤ rl t then (if X.length = 0 then (T, (TP.flat t 0).map toIt, 0) else if rl t + (X.length : Int) ≤ 8192 ∧ T.length + X.length ≤ 220000 then (T ++ X, (TP.flat (pinsT T X t off) 0).map toIt, 0) else ([], [], 10)) else ([], [], 2)
theorem pins_to (w : World) (base b : Nat) (T X : List Int) (B : Option Addr) (d : Nat) (t : Tree) (S : List Nat) (off : Int) (T' : List Int) (hT' : T' = T ++ X) (h : PS w base b T t S) (ok : TxtOk T t) (ha : TP.Avl t) (h0 : 0 ≤ off) (h1 : off ≤ rl t) (hl : (T ++ X).length ≤ 1000000) (hX : Kd.C (Kd.int .i32) w B X.length X) (hXd : X.length ≤ d) (hbs : base ≤ w.heap.size) :
  Calls Tryz.prog 37 #[.pointer (some ⟨b, 0, none⟩), .int .i64 off, .slice B X.length d] w fun e w' => e = .returned (.tuple #[]) ∧ (∃ S', PS w' base b T' (pinsT T X t off) S') ∧ Below base w w' := by
 subst hT'
 exact pinsert_any w base b T X B d t S off h ok ha h0 h1 hl hX hXd hbs
theorem pinsT_cnt (T X : List Int) (t : Tree) (off : Int) (ok : TxtOk (T ++ X) t) (ha : TP.Avl t) (h0 : 0 ≤ off) (h1 : off ≤ rl t) : TP.cnt (pinsT T X t off) ≤ TP.cnt t + 2 := by
 unfold pinsT
 split
 ·rw [setT_cnt]; omega
 ·rw [insert_cnt]
  have := (cutT_ok (T ++ X) t off ok ha h0 h1).cnt
  omega
set_option maxHeartbeats 16000000 in
set_option maxRecDepth 100000 in
theorem pieceInsert_any (w : World) (T : List Int) (A : Option Addr) (c : Nat) (xs : List It) (B : Option Addr) (c2 : Nat) (off : Int) (X : List Int) (D : Option Addr) (d : Nat) (hm : xs.length ≤ 1048576) (hT : T.length ≤ 1048576) (hXm : X.length ≤ 1048576) (hr : Kd.C (Kd.int .i32) w A T.length T) (hc : T.length ≤ c) (hr2 : Kd.C QBase.k86 w B xs.length xs) (hc2 : xs.length ≤ c2) (hrX : Kd.C (Kd.int .i32) w D X.length X) (hcX : X.length ≤ d) (hg : HG w) :
  Calls Tryz.prog 10 #[.agg #[.slice A T.length c, .slice B xs.length c2], .int .i64 off, .slice D X.length d] w (PieceOut w (pieceInsertV T xs X off)) := by
 obtain ⟨w00, e00⟩ : ∃ y, w.alloc (.cells #[.slice A T.length c, .slice B xs.length c2] 33) = y := ⟨_, rfl⟩
 have hb00 : Below w.heap.size w w00 := by subst e00; exact (Below.refl _ w).alloc (Nat.le_refl _) _
 have hx00 : w00.heap[w.heap.size]? = some (.cells #[.slice A T.length c, .slice B xs.length c2] 33 (0, 0)) := by subst e00; exact blk_new w (.cells #[.slice A T.length c, .slice B xs.length c2] 33)
 have z00 : w00.heap.size = w.heap.size + 1 := by subst e00; simp
 obtain ⟨w0, e0⟩ : ∃ y, w00.alloc (.cells #[.slice none 0 0, .slice none 0 0] 33) = y := ⟨_, rfl⟩
 have hb0 : Below w00.heap.size w00 w0 := by subst e0; exact (Below.refl _ w00).alloc (Nat.le_refl _) _
 have hy0 : w0.heap[w.heap.size + 1]? = some (.cells #[.slice none 0 0, .slice none 0 0] 33 (0, 0)) := by rw [← z00]; subst e0; exact blk_new w00 (.cells #[.slice none 0 0, .slice none 0 0] 33)
 have z0 : w0.heap.size = w.heap.size + 1 + 1 := by rw [← z00]; subst e0; simp
 have HB0 : Aside0 (Below w.heap.size w w0) := ⟨below_step hb00 hb0⟩
 have HX0 := Aside0.mk (blk_below hx00 hb0)
 have HY0 := Aside0.mk hy0
 have Z0 := Aside0.mk z0
 have q0 : w0.cell? ⟨w.heap.size, 0, none⟩ = some (.slice A T.length c) := (blk_cell HX0.out 0).trans rfl
 have q1 : w0.cell? ⟨w.heap.size, 1, none⟩ = some (.slice B xs.length c2) := (blk_cell HX0.out 1).trans rfl
 have HR := Aside0.mk (Kd.C_below hr HB0.out)
 have HR2 := Aside0.mk (Kd.C_below hr2 HB0.out)
 have HRX := Aside0.mk (Kd.C_below hrX HB0.out)
 have HXM := Aside0.mk hXm
 clear hrX hXm
 have HG0 := Aside0.mk hg
 clear hr hr2 hg hb00 hx00 hb0 hy0 z0
 go_enter Tryz.func10, Tryz.ntmps10
 go_wp2_with fail
 refine (openPieces_any w0 T A c xs B c2 hm hT HR.out hc HR2.out hc2).mono ?_
 intro e w1 hp
 obtain ⟨hb1, hp⟩ := hp
 have HB1 := Aside0.mk (below_step HB0.out hb1)
 have HB01 := Aside0.mk hb1
 have HY1 := Aside0.mk (blk_below HY0.out hb1)
 clear hb1 q0 q1 e0 e00 z00
 rcases hp with ⟨t, b, S, hV, rfl, -, hnd, hblo, hslo, hex⟩ | ⟨hV, b, v, rfl, hz, hE⟩
 ·obtain ⟨ok, -, hgr, hT22, -⟩ := openV_ok hV
  have hav := (grownV_toL hgr).2.1
  obtain ⟨nb, hnb⟩ : ∃ nb, w0.heap.size = nb := ⟨_, rfl⟩
  have hps : PS w1 nb b T t S := by
   obtain ⟨v0, p0, x1, x2, x3⟩ := hex
   obtain ⟨A0, c0, rfl⟩ := Kd.R_slice x2
   rw [hnb] at x2 hblo hslo
   exact ⟨⟨A0, c0, p0, x1, x2, x3⟩, hnd, hblo, fun k hk => (hslo k hk).1⟩
  have NB : Aside0 (nb = w.heap.size + 1 + 1 ∧ nb ≤ w1.heap.size) := ⟨by rw [← hnb]; exact Z0.out, by rw [← hnb]; exact HB01.out.size⟩
  have hk := allP_key t ok.allp
  have HK := Aside0.mk hk
  have HP := Aside0.mk hps
  have OK := Aside0.mk ok
  have HV := Aside0.mk hV
  have HAV := Aside0.mk hav
  have HT22 := Aside0.mk hT22
  clear hV hps ok hav hgr hnd hblo hslo hex hnb hk hT22
  go_wp2_with fail
  refine (psize_any w1 b T t S HP.out.pb OK.out.fine).mono ?_
  rintro e w' ⟨rfl, hw⟩
  rw [hw]
  clear hw w'
  go_wp2_with fail
  by_cases cin : 0 ≤ off ∧ off ≤ rl t
  ·have hw := within_any w1 off 0 (rl t)
   rw [decide_eq_true cin] at hw
   have WI := Aside0.mk hw
   have CIN := Aside0.mk cin
   clear hw cin
   refine WI.out.mono ?_
   rintro e w' ⟨rfl, hw⟩
   rw [hw]
   clear hw w'
   go_wp2_with fail
   refine (unless_any w1 true 2).mono ?_
   rintro e w' ⟨rfl, hw⟩
   rw [hw]
   clear hw w'
   simp only [ev, if_true]
   go_wp2_with fail
   refine (firstOf2 _ w1.heap.size none none (by simp [ev]) (by simp [ev])).mono ?_
   rintro e w' ⟨rfl, hw⟩
   rw [hw]
   clear hw w'
   simp only [ev, firstE]
   obtain ⟨w2, e2⟩ : ∃ y, w1.alloc (.cells #[.nilIface, .nilIface] 60) = y := ⟨_, rfl⟩
   have hb2 : Below w1.heap.size w1 w2 := by subst e2; exact (Below.refl _ w1).alloc (Nat.le_refl _) _
   have HB2 := Aside0.mk (below_step HB1.out hb2)
   have HY2 := Aside0.mk (blk_below HY1.out hb2)
   have HP2 := Aside0.mk (HP.out.below hb2)
   have HRX2 := Aside0.mk (Kd.C_below (Kd.C_below HRX.out HB01.out) hb2)
   have HNB2 := Aside0.mk (Nat.le_trans NB.out.2 hb2.size)
   rw [e2]
   clear e2 hb2
   by_cases cx : X.length = 0
   ·have EVA : Aside0 (pieceInsertV T xs X off = (T, (TP.flat t 0).map toIt, 0)) := ⟨by unfold pieceInsertV; rw [HV.out]; simp only; rw [if_pos CIN.out, if_pos cx]⟩
    have HYW := HY2
    have cxd : decide ((0 : Int) < (X.length : Int)) = false := decide_eq_false (by omega)
    have cxe : (0 < X.length) = False := eq_false (by omega)
    clear cx
    go_wp2_with fail
    refine (ptold_any w2 nb b T t _ HP2.out (by have := HK.out; have := OK.out.sum; omega) (by have := HT22.out; omega)).mono ?_
    rintro e w4 ⟨v1, v2, rfl, hR4, hJ4, hb4⟩
    obtain ⟨A4, c4, rfl⟩ := Kd.R_slice hR4
    obtain ⟨A5, c5, rfl⟩ := Kd.R_slice hJ4
    obtain ⟨ys, HYS⟩ : ∃ ys, Aside0 (ys = (TP.flat t 0).map toIt) := ⟨_, ⟨rfl⟩⟩
    rw [← HYS.out] at hJ4 ⊢
    have hY4 := blk_below HYW.out hb4
    have BX : Aside0 _ := ⟨blk_put (blk_put hY4 0 (.slice A4 (T).length c4) rfl) 1 (.slice A5 ys.length c5) rfl⟩
    have y0 : w4.cell? ⟨w.heap.size + 1, 0, none⟩ = some (.slice none 0 0) := (blk_cell hY4 0).trans rfl
    have y1 : w4.cell? ⟨w.heap.size + 1, 1, none⟩ = some (.slice none 0 0) := (blk_cell hY4 1).trans rfl
    have f0 := blk_frozen hY4 0
    have f1 := blk_frozen hY4 1
    have hlt : w.heap.size + 1 < w2.heap.size := blk_lt HYW.out
    have hle : w.heap.size ≤ w2.heap.size := by omega
    have HI := Aside0.mk (R_boxk (R_boxk hR4 hlt (Nat.le_refl _) 0 (.slice A4 (T).length c4)) hlt hle 1 (.slice A5 ys.length c5))
    have HJ := Aside0.mk (R_boxk (R_boxk hJ4 hlt (Nat.le_refl _) 0 (.slice A4 (T).length c4)) hlt hle 1 (.slice A5 ys.length c5))
    have HBF := Aside0.mk (((below_step HB2.out hb4).setCell (p := ⟨w.heap.size + 1, 0, none⟩) (by show w.heap.size ≤ w.heap.size + 1; omega) (.slice A4 (T).length c4)).setCell (p := ⟨w.heap.size + 1, 1, none⟩) (by show w.heap.size ≤ w.heap.size + 1; omega) (.slice A5 ys.length c5))
    clear hR4 hJ4 hY4 hb4 hlt hle
    go_wp2
    refine bodyPost_ret (results_list (rs := [.cell 6 33, .tmp 7]) rfl (by simp) (.cell (w.heap.size + 1) 33 _ (0, 0) _ rfl BX.out Tryz.underlying33 rfl (by kernel_rfl) (.tmp .nil))) rfl ?_
    rw [EVA.out, ← HYS.out]
    exact ⟨_, _, rfl, HI.out, HJ.out, HBF.out⟩
   ·have cxd : decide ((0 : Int) < (X.length : Int)) = true := decide_eq_true (by omega)
    have cxe : (0 < X.length) = True := eq_true (by omega)
    have CX := Aside0.mk cx
    clear cx
    obtain ⟨A3, c3, p3, g3, -, -⟩ := HP2.out.ex
    have q2 : w2.cell? ⟨b, 0, none⟩ = some (.slice A3 T.length c3) := (blk_cell g3 0).trans rfl
    clear g3
    go_wp2_with fail
    refine (psize_any w2 b T t S HP2.out.pb OK.out.fine).mono ?_
    rintro e w' ⟨rfl, hw⟩
    rw [hw]
    clear hw w'
    obtain ⟨sm, hsm⟩ : ∃ sm : Int, sm = rl t + (X.length : Int) := ⟨_, rfl⟩
    have hsw : wrap64 (rl t + (X.length : Int)) = sm := by have := OK.out.fine.pos; have := HXM.out; unfold wrap64; omega
    have SM := Aside0.mk hsm
    clear hsm
    by_cases c8 : sm ≤ 8192
    ·have c8d : decide (sm ≤ 8192) = true := decide_eq_true c8
     have C8 := Aside0.mk c8
     clear c8
     obtain ⟨tm, htm⟩ : ∃ tm : Int, tm = (T.length : Int) + (X.length : Int) := ⟨_, rfl⟩
     have htw : wrap64 ((T.length : Int) + (X.length : Int)) = tm := by have := HXM.out; have := HT22.out; unfold wrap64; omega
     have TM := Aside0.mk htm
     clear htm
     by_cases c22 : tm ≤ 220000
     ·have c22d : decide (tm ≤ 220000) = true := decide_eq_true c22
      have C22 := Aside0.mk c22
      clear c22
      go_wp2_with fail
      refine (unless_any w2 true 10).mono ?_
      rintro e w' ⟨rfl, hw⟩
      rw [hw]
      clear hw w'
      simp only [ev, if_true]
      have EVA : Aside0 (pieceInsertV T xs X off = (T ++ X, (TP.flat (pinsT T X t off) 0).map toIt, 0)) := ⟨by unfold pieceInsertV; rw [HV.out]; simp only; rw [if_pos CIN.out, if_neg CX.out, if_pos ⟨by have := SM.out; have := C8.out; omega, by have := TM.out; have := C22.out; omega⟩]⟩
      have hl6 : (T ++ X).length ≤ 220000 := by rw [List.length_append]; have := TM.out; have := C22.out; omega
      have OKL := OK.out.longer (Nat.le_trans hl6 (by omega))
      have HPC := Aside0.mk (pinsT_cnt T X t off OKL HAV.out CIN.out.1 CIN.out.2)
      obtain ⟨T2, hT2⟩ : ∃ T2, T2 = T ++ X := ⟨_, rfl⟩
      have PI := Aside0.mk (pins_to w2 nb b T X D d t S off T2 hT2 HP2.out OK.out HAV.out CIN.out.1 CIN.out.2 (Nat.le_trans hl6 (by omega)) HRX2.out hcX HNB2.out)
      rw [← hT2] at EVA hl6
      have HL6 := Aside0.mk hl6
      clear hl6 OKL hT2 q2
      go_wp2_with fail
      refine PI.out.mono ?_
      rintro e w3 ⟨rfl, ⟨S3, hp3⟩, hb3⟩
      have HP3 := Aside0.mk hp3
      have HB3 := Aside0.mk (HB2.out.trans (hb3.mono (by have := NB.out; omega)))
      have HYW : Aside0 (w3.heap[w.heap.size + 1]? = _) := ⟨(hb3.block _ (by have := NB.out; omega)).trans HY2.out⟩
      clear hp3 hb3
      go_wp2_with fail
      refine (ptold_any w3 nb b T2 (pinsT T X t off) _ HP3.out (by have := HPC.out; have := HK.out; have := OK.out.sum; omega) (by have := HL6.out; omega)).mono ?_
      rintro e w4 ⟨v1, v2, rfl, hR4, hJ4, hb4⟩
      obtain ⟨A4, c4, rfl⟩ := Kd.R_slice hR4
      obtain ⟨A5, c5, rfl⟩ := Kd.R_slice hJ4
      obtain ⟨ys, HYS⟩ : ∃ ys, Aside0 (ys = (TP.flat (pinsT T X t off) 0).map toIt) := ⟨_, ⟨rfl⟩⟩
      rw [← HYS.out] at hJ4 ⊢
      have hY4 := blk_below HYW.out hb4
      have BX : Aside0 _ := ⟨blk_put (blk_put hY4 0 (.slice A4 (T2).length c4) rfl) 1 (.slice A5 ys.length c5) rfl⟩
      have y0 : w4.cell? ⟨w.heap.size + 1, 0, none⟩ = some (.slice none 0 0) := (blk_cell hY4 0).trans rfl
      have y1 : w4.cell? ⟨w.heap.size + 1, 1, none⟩ = some (.slice none 0 0) := (blk_cell hY4 1).trans rfl
      have f0 := blk_frozen hY4 0
      have f1 := blk_frozen hY4 1
      have hlt : w.heap.size + 1 < w3.heap.size := blk_lt HYW.out
      have hle : w.heap.size ≤ w3.heap.size := by omega
      have HI := Aside0.mk (R_boxk (R_boxk hR4 hlt (Nat.le_refl _) 0 (.slice A4 (T2).length c4)) hlt hle 1 (.slice A5 ys.length c5))
      have HJ := Aside0.mk (R_boxk (R_boxk hJ4 hlt (Nat.le_refl _) 0 (.slice A4 (T2).length c4)) hlt hle 1 (.slice A5 ys.length c5))
      have HBF := Aside0.mk (((below_step HB3.out hb4).setCell (p := ⟨w.heap.size + 1, 0, none⟩) (by show w.heap.size ≤ w.heap.size + 1; omega) (.slice A4 (T2).length c4)).setCell (p := ⟨w.heap.size + 1, 1, none⟩) (by show w.heap.size ≤ w.heap.size + 1; omega) (.slice A5 ys.length c5))
      clear hR4 hJ4 hY4 hb4 hlt hle
      go_wp2
      refine bodyPost_ret (results_list (rs := [.cell 6 33, .tmp 7]) rfl (by simp) (.cell (w.heap.size + 1) 33 _ (0, 0) _ rfl BX.out Tryz.underlying33 rfl (by kernel_rfl) (.tmp .nil))) rfl ?_
      rw [EVA.out, ← HYS.out]
      exact ⟨_, _, rfl, HI.out, HJ.out, HBF.out⟩
     ·have c22d : decide (tm ≤ 220000) = false := decide_eq_false c22
      have C22 := Aside0.mk c22
      clear c22
      go_wp2_with fail
      refine (unless_any w2 false 10).mono ?_
      rintro e w' ⟨rfl, hw⟩
      rw [hw]
      clear hw w'
      simp only [ev, Bool.false_eq_true, if_false]
      have EVA : Aside0 (pieceInsertV T xs X off = ([], [], 10)) := ⟨by unfold pieceInsertV; rw [HV.out]; simp only; rw [if_pos CIN.out, if_neg CX.out, if_neg (fun q => by have := TM.out; have := C22.out; omega)]⟩
      clear q2
      go_wp2_with fail
      refine (codeOf_any _ 10 w2 (HG0.out.below HB2.out) (.inl rfl)).mono ?_
      rintro e w3 ⟨rfl, hb3⟩
      have hY3 := blk_below HY2.out hb3
      have BX : Aside0 _ := ⟨blk_put (blk_put hY3 0 (.slice none 0 0) rfl) 1 (.slice none 0 0) rfl⟩
      have y0 : w3.cell? ⟨w.heap.size + 1, 0, none⟩ = some (.slice none 0 0) := (blk_cell hY3 0).trans rfl
      have y1 : w3.cell? ⟨w.heap.size + 1, 1, none⟩ = some (.slice none 0 0) := (blk_cell hY3 1).trans rfl
      have f0 := blk_frozen hY3 0
      have f1 := blk_frozen hY3 1
      have HBF := Aside0.mk (((below_step HB2.out hb3).setCell (p := ⟨w.heap.size + 1, 0, none⟩) (by show w.heap.size ≤ w.heap.size + 1; omega) (.slice none 0 0)).setCell (p := ⟨w.heap.size + 1, 1, none⟩) (by show w.heap.size ≤ w.heap.size + 1; omega) (.slice none 0 0))
      clear hY3 hb3
      go_wp2
      refine bodyPost_ret (results_list (rs := [.cell 6 33, .tmp 7]) rfl (by simp) (.cell (w.heap.size + 1) 33 _ (0, 0) _ rfl BX.out Tryz.underlying33 rfl (by kernel_rfl) (.tmp .nil))) rfl ?_
      rw [EVA.out]
      exact ⟨_, _, rfl, Kd.R_nil _ _ _ _ _, Kd.R_nil _ _ _ _ _, HBF.out⟩
    ·have c8d : decide (sm ≤ 8192) = false := decide_eq_false c8
     have C8 := Aside0.mk c8
     clear c8
     go_wp2_with fail
     refine (unless_any w2 false 10).mono ?_
     rintro e w' ⟨rfl, hw⟩
     rw [hw]
     clear hw w'
     simp only [ev, Bool.false_eq_true, if_false]
     have EVA : Aside0 (pieceInsertV T xs X off = ([], [], 10)) := ⟨by unfold pieceInsertV; rw [HV.out]; simp only; rw [if_pos CIN.out, if_neg CX.out, if_neg (fun q => by have := SM.out; have := C8.out; omega)]⟩
     clear q2
     go_wp2_with fail
     refine (codeOf_any _ 10 w2 (HG0.out.below HB2.out) (.inl rfl)).mono ?_
     rintro e w3 ⟨rfl, hb3⟩
     have hY3 := blk_below HY2.out hb3
     have BX : Aside0 _ := ⟨blk_put (blk_put hY3 0 (.slice none 0 0) rfl) 1 (.slice none 0 0) rfl⟩
     have y0 : w3.cell? ⟨w.heap.size + 1, 0, none⟩ = some (.slice none 0 0) := (blk_cell hY3 0).trans rfl
     have y1 : w3.cell? ⟨w.heap.size + 1, 1, none⟩ = some (.slice none 0 0) := (blk_cell hY3 1).trans rfl
     have f0 := blk_frozen hY3 0
     have f1 := blk_frozen hY3 1
     have HBF := Aside0.mk (((below_step HB2.out hb3).setCell (p := ⟨w.heap.size + 1, 0, none⟩) (by show w.heap.size ≤ w.heap.size + 1; omega) (.slice none 0 0)).setCell (p := ⟨w.heap.size + 1, 1, none⟩) (by show w.heap.size ≤ w.heap.size + 1; omega) (.slice none 0 0))
     clear hY3 hb3
     go_wp2
     refine bodyPost_ret (results_list (rs := [.cell 6 33, .tmp 7]) rfl (by simp) (.cell (w.heap.size + 1) 33 _ (0, 0) _ rfl BX.out Tryz.underlying33 rfl (by kernel_rfl) (.tmp .nil))) rfl ?_
     rw [EVA.out]
     exact ⟨_, _, rfl, Kd.R_nil _ _ _ _ _, Kd.R_nil _ _ _ _ _, HBF.out⟩
  ·have hw := within_any w1 off 0 (rl t)
   rw [decide_eq_false cin] at hw
   have WI := Aside0.mk hw
   have CIN := Aside0.mk cin
   clear hw cin
   refine WI.out.mono ?_
   rintro e w' ⟨rfl, hw⟩
   rw [hw]
   clear hw w'
   go_wp2_with fail
   refine (unless_any w1 false 2).mono ?_
   rintro e w' ⟨rfl, hw⟩
   rw [hw]
   clear hw w'
   simp only [ev, Bool.false_eq_true, if_false]
   go_wp2_with fail
   refine (firstOf2 _ w1.heap.size none (some (98, .int .i64 2)) (by simp [ev]) (by simp [ev])).mono ?_
   rintro e w' ⟨rfl, hw⟩
   rw [hw]
   clear hw w'
   simp only [ev, firstE]
   obtain ⟨w2, e2⟩ : ∃ y, w1.alloc (.cells #[.nilIface, .iface 98 (.int .i64 2)] 60) = y := ⟨_, rfl⟩
   have hb2 : Below w1.heap.size w1 w2 := by subst e2; exact (Below.refl _ w1).alloc (Nat.le_refl _) _
   have HB2 := Aside0.mk (below_step HB1.out hb2)
   have HY2 := Aside0.mk (blk_below HY1.out hb2)
   rw [e2]
   clear e2 hb2
   have EVA : Aside0 (pieceInsertV T xs X off = ([], [], 2)) := ⟨by unfold pieceInsertV; rw [HV.out]; simp only; rw [if_neg CIN.out]⟩
   go_wp2_with fail
   refine (codeOf_any _ 2 w2 (HG0.out.below HB2.out) (.inl rfl)).mono ?_
   rintro e w3 ⟨rfl, hb3⟩
   have hY3 := blk_below HY2.out hb3
   have BX : Aside0 _ := ⟨blk_put (blk_put hY3 0 (.slice none 0 0) rfl) 1 (.slice none 0 0) rfl⟩
   have y0 : w3.cell? ⟨w.heap.size + 1, 0, none⟩ = some (.slice none 0 0) := (blk_cell hY3 0).trans rfl
   have y1 : w3.cell? ⟨w.heap.size + 1, 1, none⟩ = some (.slice none 0 0) := (blk_cell hY3 1).trans rfl
   have f0 := blk_frozen hY3 0
   have f1 := blk_frozen hY3 1
   have HBF := Aside0.mk (((below_step HB2.out hb3).setCell (p := ⟨w.heap.size + 1, 0, none⟩) (by show w.heap.size ≤ w.heap.size + 1; omega) (.slice none 0 0)).setCell (p := ⟨w.heap.size + 1, 1, none⟩) (by show w.heap.size ≤ w.heap.size + 1; omega) (.slice none 0 0))
   clear hY3 hb3
   go_wp2
   refine bodyPost_ret (results_list (rs := [.cell 6 33, .tmp 7]) rfl (by simp) (.cell (w.heap.size + 1) 33 _ (0, 0) _ rfl BX.out Tryz.underlying33 rfl (by kernel_rfl) (.tmp .nil))) rfl ?_
   rw [EVA.out]
   exact ⟨_, _, rfl, Kd.R_nil _ _ _ _ _, Kd.R_nil _ _ _ _ _, HBF.out⟩
 ·obtain ⟨TT, x, rfl⟩ := errIs_ev hE
  have HE := Aside0.mk hE
  have HV := Aside0.mk hV
  have HZ := Aside0.mk hz
  clear hE hV hz
  simp only [ev]
  go_wp2_with fail
  refine (psize_none w1 b HZ.out).mono ?_
  rintro e w' ⟨rfl, hw⟩
  rw [hw]
  clear hw w'
  go_wp2_with fail
  have EVA : Aside0 (pieceInsertV T xs X off = ([], [], 1)) := ⟨by unfold pieceInsertV; rw [HV.out]⟩
  refine (within_any w1 off 0 0).mono ?_
  rintro e w' ⟨rfl, hw⟩
  rw [hw]
  clear hw w'
  generalize decide (0 ≤ off ∧ off ≤ 0) = bb
  go_wp2_with fail
  refine (unless_any w1 bb 2).mono ?_
  rintro e w' ⟨rfl, hw⟩
  rw [hw]
  clear hw w'
  generalize (if bb = true then none else some (98, Value.int .i64 2) : EV) = E2
  obtain ⟨v2, he2⟩ : ∃ v2, ev E2 = v2 := ⟨_, rfl⟩
  rw [he2]
  cases E2 with
  | none =>
   simp only [ev] at he2
   subst he2
   go_wp2_with fail
   refine (firstOf2 _ w1.heap.size (some (TT, x)) none (by simp [ev]) (by simp [ev])).mono ?_
   rintro e w' ⟨rfl, hw⟩
   rw [hw]
   clear hw w'
   simp only [ev, firstE]
   obtain ⟨w2, e2⟩ : ∃ y, w1.alloc (.cells #[.iface TT x, .nilIface] 60) = y := ⟨_, rfl⟩
   have hb2 : Below w1.heap.size w1 w2 := by subst e2; exact (Below.refl _ w1).alloc (Nat.le_refl _) _
   have HB2 := Aside0.mk (below_step HB1.out hb2)
   have HY2 := Aside0.mk (blk_below HY1.out hb2)
   have HE2 := Aside0.mk (HE.out.below hb2)
   rw [e2]
   clear e2 hb2
   go_wp2_with fail
   refine (codeOf_any _ 1 w2 (HG0.out.below HB2.out) HE2.out).mono ?_
   rintro e w3 ⟨rfl, hb3⟩
   have hY3 := blk_below HY2.out hb3
   have BX : Aside0 _ := ⟨blk_put (blk_put hY3 0 (.slice none 0 0) rfl) 1 (.slice none 0 0) rfl⟩
   have y0 : w3.cell? ⟨w.heap.size + 1, 0, none⟩ = some (.slice none 0 0) := (blk_cell hY3 0).trans rfl
   have y1 : w3.cell? ⟨w.heap.size + 1, 1, none⟩ = some (.slice none 0 0) := (blk_cell hY3 1).trans rfl
   have f0 := blk_frozen hY3 0
   have f1 := blk_frozen hY3 1
   have HBF := Aside0.mk (((below_step HB2.out hb3).setCell (p := ⟨w.heap.size + 1, 0, none⟩) (by show w.heap.size ≤ w.heap.size + 1; omega) (.slice none 0 0)).setCell (p := ⟨w.heap.size + 1, 1, none⟩) (by show w.heap.size ≤ w.heap.size + 1; omega) (.slice none 0 0))
   clear hY3 hb3
   go_wp2
   refine bodyPost_ret (results_list (rs := [.cell 6 33, .tmp 7]) rfl (by simp) (.cell (w.heap.size + 1) 33 _ (0, 0) _ rfl BX.out Tryz.underlying33 rfl (by kernel_rfl) (.tmp .nil))) rfl ?_
   rw [EVA.out]
   exact ⟨_, _, rfl, Kd.R_nil _ _ _ _ _, Kd.R_nil _ _ _ _ _, HBF.out⟩
  | some z =>
   obtain ⟨Tz, xz⟩ := z
   simp only [ev] at he2
   subst he2
   go_wp2_with fail
   refine (firstOf2 _ w1.heap.size (some (TT, x)) (some (Tz, xz)) (by simp [ev]) (by simp [ev])).mono ?_
   rintro e w' ⟨rfl, hw⟩
   rw [hw]
   clear hw w'
   simp only [ev, firstE]
   obtain ⟨w2, e2⟩ : ∃ y, w1.alloc (.cells #[.iface TT x, .iface Tz xz] 60) = y := ⟨_, rfl⟩
   have hb2 : Below w1.heap.size w1 w2 := by subst e2; exact (Below.refl _ w1).alloc (Nat.le_refl _) _
   have HB2 := Aside0.mk (below_step HB1.out hb2)
   have HY2 := Aside0.mk (blk_below HY1.out hb2)
   have HE2 := Aside0.mk (HE.out.below hb2)
   rw [e2]
   clear e2 hb2
   go_wp2_with fail
   refine (codeOf_any _ 1 w2 (HG0.out.below HB2.out) HE2.out).mono ?_
   rintro e w3 ⟨rfl, hb3⟩
   have hY3 := blk_below HY2.out hb3
   have BX : Aside0 _ := ⟨blk_put (blk_put hY3 0 (.slice none 0 0) rfl) 1 (.slice none 0 0) rfl⟩
   have y0 : w3.cell? ⟨w.heap.size + 1, 0, none⟩ = some (.slice none 0 0) := (blk_cell hY3 0).trans rfl
   have y1 : w3.cell? ⟨w.heap.size + 1, 1, none⟩ = some (.slice none 0 0) := (blk_cell hY3 1).trans rfl
   have f0 := blk_frozen hY3 0
   have f1 := blk_frozen hY3 1
   have HBF := Aside0.mk (((below_step HB2.out hb3).setCell (p := ⟨w.heap.size + 1, 0, none⟩) (by show w.heap.size ≤ w.heap.size + 1; omega) (.slice none 0 0)).setCell (p := ⟨w.heap.size + 1, 1, none⟩) (by show w.heap.size ≤ w.heap.size + 1; omega) (.slice none 0 0))
   clear hY3 hb3
   go_wp2
   refine bodyPost_ret (results_list (rs := [.cell 6 33, .tmp 7]) rfl (by simp) (.cell (w.heap.size + 1) 33 _ (0, 0) _ rfl BX.out Tryz.underlying33 rfl (by kernel_rfl) (.tmp .nil))) rfl ?_
   rw [EVA.out]
   exact ⟨_, _, rfl, Kd.R_nil _ _ _ _ _, Kd.R_nil _ _ _ _ _, HBF.out⟩
end Go.Proofs.YtnomidpnofhjdaaGreatDoor
