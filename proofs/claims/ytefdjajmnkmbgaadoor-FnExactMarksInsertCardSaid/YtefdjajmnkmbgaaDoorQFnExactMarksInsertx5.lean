/- What the law FnExactMarksInsert reaches: each function as a plain function, and that the machine's call does it (written by a program). The condition, where there is one: errors.errorType reads as laid. -/
import Derived.Test.YtefdjajmnkmbgaaDoorQFnExactMarksInsertx0
import Derived.Test.YtefdjajmnkmbgaaDoorQFnExactMarksInsertx3
import Derived.Test.YtefdjajmnkmbgaaDoorQFnExactMarksInsertx4
namespace Go.Proofs.YtefdjajmnkmbgaaDoor.QFnExactMarksInsert
open Go.Proofs.YtefdjajmnkmbgaaDoor.Er
open Go.RowKit Go.Proofs.YtefdjajmnkmbgaaDoorW.PrintWords Go.Proofs.YtefdjajmnkmbgaaDoorW.PrintLast Go.Proofs.YtefdjajmnkmbgaaDoorW.PrintMore
attribute [local go_sem] max2_int min2_int max_two min_two max_three min_three max_four min_four   -- for this text's walks alone
set_option linter.unusedVariables false
set_option linter.unusedSimpArgs false

/-! ### spec_l5Insert: function 62 -/
def spec_l5Insert.l0 : Nat → Int → Int → List (S53) → Int → Int → Option ((List (S53)))
  | 0, _, _, _, _, _ => none
  | k + 1, x1, x2, x7, x13, x14 => if x14 < x13 then (if 0 ≤ x14 then (if x14 < (x7.length : Int) then (if ((rd_T53 x7 x14).f1) > x1 then (spec_l5Insert.l0 k x1 x2 (x7.set (x14 : Int).toNat (⟨(rd_T53 x7 x14).f0, wrap64 (((rd_T53 x7 x14).f1) + x2), (rd_T53 x7 x14).f2⟩ : S53)) x13 (wrap64 (x14 + 1))) else (if ((rd_T53 x7 x14).f1) = x1 then (if ((rd_T53 x7 x14).f2) = 1 then (spec_l5Insert.l0 k x1 x2 (x7.set (x14 : Int).toNat (⟨(rd_T53 x7 x14).f0, wrap64 (((rd_T53 x7 x14).f1) + x2), (rd_T53 x7 x14).f2⟩ : S53)) x13 (wrap64 (x14 + 1))) else (spec_l5Insert.l0 k x1 x2 x7 x13 (wrap64 (x14 + 1)))) else (spec_l5Insert.l0 k x1 x2 x7 x13 (wrap64 (x14 + 1))))) else (none)) else (none)) else ((spec_l5Sort.f k x7).bind fun t170 => (some t170))
def spec_l5Insert.f (k : Nat) (l0 : List (S53)) (a1 : Int) (a2 : Int) : Option ((List (S53))) := (some (([] : List (S53)) : List (S53))).bind fun y157 => (if y157.length + l0.length < 5864062014805 then ((some (y157 ++ l0 : List (S53))).bind fun y160 => (spec_l5Insert.l0 k a1 a2 y160 (y160.length : Int) 0)) else (none))
theorem spec_l5Insert.mono_l : ∀ k, (∀ y0 y1 y2 y3 y4, LeO (spec_l5Insert.l0 k y0 y1 y2 y3 y4) (spec_l5Insert.l0 (k + 1) y0 y1 y2 y3 y4))
  | 0 => fun _ _ _ _ _ r h => by simp [spec_l5Insert.l0] at h
  | k + 1 => by
    have ih0 := spec_l5Insert.mono_l k
    · intro y0 y1 y2 y3 y4
      unfold spec_l5Insert.l0
      repeat' first
      | (with_reducible exact ih0 _ _ _ _ _)
      | (with_reducible exact spec_l5Sort.mono _ _)
      | (with_reducible exact LeO.refl _)
      | (with_reducible exact LeO.none _)
      | (with_reducible refine LeO.ite ?_ ?_)
      | (with_reducible refine LeO.bind ?_ (fun _ => ?_))
      | exact ih0 _ _ _ _ _
      | exact spec_l5Sort.mono _ _
      | exact LeO.none _
      | refine LeO.ite ?_ ?_
      | refine LeO.bind ?_ (fun _ => ?_)
theorem spec_l5Insert.mono : ∀ a0 a1 a2 k, LeO (spec_l5Insert.f k a0 a1 a2) (spec_l5Insert.f (k + 1) a0 a1 a2) := by
  intro a0 a1 a2 k
  have ih0 := spec_l5Insert.mono_l k
  unfold spec_l5Insert.f
  repeat' first
      | (with_reducible exact ih0 _ _ _ _ _)
      | (with_reducible exact spec_l5Sort.mono _ _)
      | (with_reducible exact LeO.refl _)
      | (with_reducible exact LeO.none _)
      | (with_reducible refine LeO.ite ?_ ?_)
      | (with_reducible refine LeO.bind ?_ (fun _ => ?_))
      | exact ih0 _ _ _ _ _
      | exact spec_l5Sort.mono _ _
      | exact LeO.none _
      | refine LeO.ite ?_ ?_
      | refine LeO.bind ?_ (fun _ => ?_)
set_option maxHeartbeats 8000000 in
set_option maxRecDepth 100000 in
theorem spec_l5Insert.calls (k : Nat) (A0 : Option Addr) (c0 : Nat) (l0 : List (S53)) (a1 : Int) (a2 : Int) (r : List (S53)) (w : World) (hr0 : Kd.C k53 w A0 l0.length l0) (hc0 : l0.length ≤ c0) (h : spec_l5Insert.f k l0 a1 a2 = some r) :
    Calls Tryd.prog 62 #[.slice A0 l0.length c0, .int .i64 a1, .int .i64 a2] w fun e w' => ∃ v0_ : Value, e = .returned (v0_) ∧ Kd.R k53 53 w' w.heap.size (fun _ => True) v0_ r ∧ Below w.heap.size w w' := by
  have HR0 := Aside0.mk hr0
  have HC0 := Aside0.mk hc0
  clear hr0 hc0
  have HB := Aside0.mk (Below.refl w.heap.size w)
  have H : ((some (([] : List (S53)) : List (S53))).bind fun y157 => (if y157.length + l0.length < 5864062014805 then ((some (y157 ++ l0 : List (S53))).bind fun y160 => (spec_l5Insert.l0 k a1 a2 y160 (y160.length : Int) 0)) else (none))) = some r := h
  clear h
  obtain ⟨y157, hy157⟩ : ∃ y_ : List (S53), y_ = (([] : List (S53))) := ⟨_, rfl⟩
  replace H : (if y157.length + l0.length < 5864062014805 then ((some (y157 ++ l0 : List (S53))).bind fun y160 => (spec_l5Insert.l0 k a1 a2 y160 (y160.length : Int) 0)) else (none)) = some r := by first | (rw [hy157]; with_reducible exact H) | (have H2_ := (Option.bind_some _ _).symm.trans H; rw [hy157]; with_reducible exact H2_) | (have H2_ := (Option.bind_some _ _).symm.trans H; with_reducible exact H2_) | with_reducible exact H | (rw [hy157]; exact H) | exact H
  have Ny157 := Aside0.mk hy157
  clear hy157
  by_cases c4 : y157.length + l0.length < 5864062014805
  · rw [if_pos c4] at H
    have LMc4 := Aside0.mk c4
    clear c4
    obtain ⟨y160, hy160⟩ : ∃ y_ : List (S53), y_ = (y157 ++ l0) := ⟨_, rfl⟩
    replace H : (spec_l5Insert.l0 k a1 a2 y160 (y160.length : Int) 0) = some r := by first | (rw [hy160]; with_reducible exact H) | (have H2_ := (Option.bind_some _ _).symm.trans H; rw [hy160]; with_reducible exact H2_) | (have H2_ := (Option.bind_some _ _).symm.trans H; with_reducible exact H2_) | with_reducible exact H | (rw [hy160]; exact H) | exact H
    have Ny160 := Aside0.mk hy160
    clear hy160
    have H' := Aside0.mk H
    clear H
    go_enter Tryd.func62, Tryd.ntmps62
    go_wp2_with (first | ((with_reducible refine gate_dst (N := 9) rfl ?_); refine Kd.R_lit k53 _ 53 ?hg (N := 9) ?hd (xs := ([] : List (S53))) (inner := []) (ok := fun _ => True) (okp := fun _ => True) ?hr ?hp (fun _ hk => hk) trivial (Below.refl _ _) (Nat.le_refl _) (by simp) ?_; (case hd => rfl); (case hg => rfl); (case hr => first | (go_simp; done) | (go_simp; rfl)); (case hp => exact (Reps.none _ _)); intro v158 w5 ho6 hb hg_ hnew_; clear hg_ hnew_; (first | rw [← Ny157.out] at ho6 | (simp only [Int.reduceToNat] at ho6; rw [← Ny157.out] at ho6)); have n0_ := Aside0.mk (Kd.R_lower ho6 (below_size (by repeat (first | (with_reducible first | exact HB.out | apply below_alloc | apply pw_below_drewN | apply below_drew1) | exact HB.out)))); have n1_ := Aside0.mk (below_step (by repeat (first | (with_reducible first | exact HB.out | apply below_alloc | apply pw_below_drewN | apply below_drew1) | exact HB.out)) hb); clear HB; have HO159 := n0_; have HB := n1_; clear n0_ n1_; clear hb ho6) | ((with_reducible refine gate_builtin (b := .append) (xs := #[.tmp 9, .tmp 10]) rfl ?_); at_builtin; refine Kd.R_append_rows k53 (w0 := w) w.heap.size rfl (.tmp 9) (.tmp 10) 26 53 (.agg #[(.int .i64 0), (.int .i64 0), (.int .i64 0)]) 24 rfl Tryd.underlying26 info53 rfl (by decide) (by omega) v158 y157 l0 _ _ _ (fun _ => True) (fun _ => False) rfl rfl ?aO ?aR (fun _ _ h => h) (fun _ h => h.elim) ?aF ?aB ?aS ?aL ?_; (case aR => repeat (first | exact (Kd.C_below HR0.out HB.out) | (with_reducible refine Kd.C_alloc ?_ _) | (with_reducible refine Kd.C_drewN ?_ _) | (with_reducible refine Kd.C_drew ?_))); (case aB => exact (by repeat (first | (with_reducible first | exact HB.out | apply below_alloc | apply pw_below_drewN | apply below_drew1) | exact HB.out))); (case aF => exact (fun _ _ => trivial)); (case aO => exact (by (with_reducible repeat (first | apply Kd.R_alloc | apply Kd.R_drewN | apply Kd.R_drew)); exact HO159.out)); (case aS => exact (below_size (by repeat (first | (with_reducible first | exact HB.out | apply below_alloc | apply pw_below_drewN | apply below_drew1) | exact HB.out)))); (case aL => have := LMc4.out; omega); intro v161 w7 ho hb hg hat; rw [← Ny160.out] at ho; have n0_ := Aside0.mk (hb); have n1_ := Aside0.mk (ho); clear HB; clear HO159; have HB := n0_; have HO162 := n1_; clear n0_ n1_; clear ho hb hg hat; obtain ⟨Ao8, co8, eo8⟩ := Kd.R_slice HO162.out; subst eo8))
    go_loopg [14] k (fun kq v14 w' => ∃ (x7_1 : List (S53)) (x14_1 : Int), v14 = .int .i64 x14_1 ∧ Aside0 (spec_l5Insert.l0 kq a1 a2 x7_1 (y160.length : Int) x14_1 = some r) ∧ Aside0 (kq ≤ k) ∧ Aside0 (Kd.R k53 53 w' w.heap.size (fun _ => True) (.slice Ao8 y160.length co8) x7_1) ∧ Aside0 (Below w.heap.size w w'))
    case atStart => exact ⟨(y160), (0), (by first | rfl | (simp; done) | (simp [*]; done)), H', ⟨Nat.le_refl _⟩, ⟨by (with_reducible repeat (first | apply Kd.R_alloc | apply Kd.R_drewN | apply Kd.R_drew)); exact HO162.out⟩, ⟨by repeat (first | (with_reducible first | exact HB.out | apply below_alloc | apply pw_below_drewN | apply below_drew1) | exact HB.out)⟩⟩
    case round =>
      clear H'
      try clear p2
      try clear c4
      try clear c6
      obtain ⟨x7_1, x14_1, rfl, HA, HK1, HO_7, HB⟩ := hrel
      have hl7_1 := (Kd.R_reads' HO_7.out).1
      rw [hl7_1] at HO_7
      (try simp only [hl7_1])
      cases gk with
      | zero => exact absurd HA.out (by simp [spec_l5Insert.l0])
      | succ k1 =>
        have H := HA.out
        clear HA
        simp only [spec_l5Insert.l0] at H
        by_cases c9 : x14_1 < (y160.length : Int)
        · rw [if_pos c9] at H
          have c9b0 : decide (x14_1 < (y160.length : Int)) = true := decide_eq_true c9
          clear c9
          by_cases c10 : 0 ≤ x14_1
          · rw [if_pos c10] at H
            have c10b0 : decide (0 ≤ x14_1) = true := decide_eq_true c10
            clear c10
            by_cases c11 : x14_1 < (x7_1.length : Int)
            · rw [if_pos c11] at H
              have c11b0 : decide (x14_1 < (x7_1.length : Int)) = true := decide_eq_true c11
              clear c11
              by_cases c12 : ((rd_T53 x7_1 x14_1).f1) > a1
              · rw [if_pos c12] at H
                have c12b0 : decide (a1 < ((rd_T53 x7_1 x14_1).f1)) = true := decide_eq_true c12
                clear c12
                obtain ⟨y165, hy165⟩ : ∃ y_ : List (S53), y_ = (x7_1.set (x14_1 : Int).toNat (⟨(rd_T53 x7_1 x14_1).f0, wrap64 (((rd_T53 x7_1 x14_1).f1) + a2), (rd_T53 x7_1 x14_1).f2⟩ : S53)) := ⟨_, rfl⟩
                replace H : (spec_l5Insert.l0 k1 a1 a2 y165 (y160.length : Int) (wrap64 (x14_1 + 1))) = some r := by first | (rw [hy165]; with_reducible exact H) | (have H2_ := (Option.bind_some _ _).symm.trans H; rw [hy165]; with_reducible exact H2_) | (have H2_ := (Option.bind_some _ _).symm.trans H; with_reducible exact H2_) | with_reducible exact H | (rw [hy165]; exact H) | exact H
                have Ny165 := Aside0.mk hy165
                clear hy165
                have H' := Aside0.mk H
                clear H
                have p163 : 0 ≤ (x14_1 : Int) := of_decide_eq_true (by first | (with_reducible assumption) | assumption)
                have q163 : x14_1 < (x7_1.length : Int) := of_decide_eq_true (by first | (with_reducible assumption) | assumption)
                obtain ⟨ad163, e163, hx163_0, hx163_1, hx163_2⟩ := at_T53 (Kd.R_reads' HO_7.out).2.2 x14_1 p163 q163
                cases e163
                replace p163 := eq_true p163
                replace q163 := eq_true q163
                have p164 : 0 ≤ (x14_1 : Int) := of_decide_eq_true (by first | (with_reducible assumption) | assumption)
                have q164 : x14_1 < (x7_1.length : Int) := of_decide_eq_true (by first | (with_reducible assumption) | assumption)
                obtain ⟨ad164, e164, hx164_0, hx164_1, hx164_2⟩ := at_T53 (Kd.R_reads' HO_7.out).2.2 x14_1 p164 q164
                obtain rfl : ad163 = ad164 := (by injection e164)
                replace p164 := eq_true p164
                replace q164 := eq_true q164
                have p13 : 0 ≤ (x14_1 : Int) := of_decide_eq_true (by first | (with_reducible assumption) | assumption)
                have q13 : (x14_1 : Int) < ((x7_1.length : Int) : Int) := of_decide_eq_true (by first | (with_reducible assumption) | assumption)
                obtain ⟨go13, co13, eo13, gb13, gl13, cl13, HG13⟩ := Kd.R_form HO_7.out (by omega)
                (first | cases eo13 | (injection eo13 with ea_ en_ ec_; (first | subst ea_ | (injection ea_ with ea_; subst ea_)); subst ec_; clear en_))
                have GB13 := Aside0.mk gb13
                have GG13 := Aside0.mk HG13
                clear gb13 gl13 HG13
                (first | simp only [add_plain] at hx163_0 | skip)
                (first | simp only [add_plain] at hx163_1 | skip)
                (first | simp only [add_plain] at hx163_2 | skip)
                (first | simp only [add_plain] at hx164_0 | skip)
                (first | simp only [add_plain] at hx164_1 | skip)
                (first | simp only [add_plain] at hx164_2 | skip)
                obtain ⟨ce13, hcl13, hM13, hcc13, hfr13⟩ := Kd.R_elem HO_7.out z53 (x14_1 : Int) p13 q13
                obtain rfl := k53_openM hM13
                have hx13_0 : wr.cell? ⟨go13, (x14_1 : Int).toNat * 3, none⟩ = some (.int .i64 ((rd_T53 x7_1 x14_1).f0)) := hcc13 0 _ rfl
                have hx13_1 : wr.cell? ⟨go13, (x14_1 : Int).toNat * 3 + 1, none⟩ = some (.int .i64 ((rd_T53 x7_1 x14_1).f1)) := hcc13 1 _ rfl
                have hx13_2 : wr.cell? ⟨go13, (x14_1 : Int).toNat * 3 + 2, none⟩ = some (.int .i64 ((rd_T53 x7_1 x14_1).f2)) := hcc13 2 _ rfl
                have hf13_0 : wr.frozen? ⟨go13, (x14_1 : Int).toNat * 3, none⟩ = false := hfr13 0
                have hf13_1 : wr.frozen? ⟨go13, (x14_1 : Int).toNat * 3 + 1, none⟩ = false := hfr13 1
                have hf13_2 : wr.frozen? ⟨go13, (x14_1 : Int).toNat * 3 + 2, none⟩ = false := hfr13 2
                clear hcl13 hcc13 hfr13 hM13
                replace p13 := eq_true p13
                replace q13 := eq_true q13
                have HX14 := Aside0.mk (show Kd.R k53 53 wr w.heap.size (fun _ => True) (.slice (some ⟨go13, 0, none⟩) x7_1.length co8) x7_1 from (by (with_reducible repeat (first | apply Kd.R_alloc | apply Kd.R_drewN | apply Kd.R_drew)); exact HO_7.out))
                obtain ⟨ce14, hcl14, hM14, hcc14, hfr14⟩ := Kd.R_elem HX14.out z53 (x14_1 : Int) (of_decide_eq_true (by first | (with_reducible assumption) | assumption)) (by have h_ : (x14_1 : Int) < ((x7_1.length : Int) : Int) := of_decide_eq_true (by first | (with_reducible assumption) | assumption); first | exact h_ | (have e_ := (Kd.R_reads' HO_7.out).1; omega) | simpa using h_)
                obtain rfl := k53_openM hM14
                have HP14 := Kd.R_seg HX14.out (x14_1 : Int) (of_decide_eq_true (by first | (with_reducible assumption) | assumption)) (by have h_ : (x14_1 : Int) < ((x7_1.length : Int) : Int) := of_decide_eq_true (by first | (with_reducible assumption) | assumption); first | exact h_ | (have e_ := (Kd.R_reads' HO_7.out).1; omega) | simpa using h_) (seg := [.int .i64 (wrap64 (((rd_T53 x7_1 x14_1).f1) + a2))]) (j := 1) hcl14 hcc14 (show 2 ≤ 3 from by decide) (x' := (⟨(rd_T53 x7_1 x14_1).f0, wrap64 (((rd_T53 x7_1 x14_1).f1) + a2), (rd_T53 x7_1 x14_1).f2⟩ : S53)) (k53_mkM _ _ _ (⟨(rd_T53 x7_1 x14_1).f0, wrap64 (((rd_T53 x7_1 x14_1).f1) + a2), (rd_T53 x7_1 x14_1).f2⟩ : S53) ) (fun _ hk => hk)
                have hx14_1 := hcc14 1 _ rfl
                (try simp only [show (k53).sz = 3 from rfl, Nat.mul_one, Nat.add_zero] at hx14_1)
                have hf14_1 := hfr14 1
                (try simp only [show (k53).sz = 3 from rfl, Nat.mul_one, Nat.add_zero] at hf14_1)
                clear hcl14 hcc14 hfr14 hM14
                go_wp2_with (first | ((with_reducible refine gate_store (t := 3) (p := 49) rfl ?_); refine store_event (t := 3) (p := 49) (v := ?vo_w15) (w1 := (wr.setCell ⟨go13, (x14_1 : Int).toNat * 3 + 1, none⟩ (.int .i64 (wrap64 (((rd_T53 x7_1 x14_1).f1) + a2))))) ?hg ?ho ?hn ?hr ?_; (case ho => rfl); (case hg => rfl); (case hn => rfl); (case hr => first | (go_simp; done) | (go_simp; rfl)); intro w15 hw; have hg : wr.grownBy w15 (some go13) := (by rw [hw]; exact HP14.2); have hp_ : Kd.R k53 53 w15 w.heap.size (fun _ => True) (.slice (some ⟨go13, 0, none⟩) x7_1.length co8) y165 := (by rw [hw, Ny165.out]; exact HP14.1); clear HP14; have n0_ := Aside0.mk (hp_); have n1_ := Aside0.mk ((by rw [hw]; exact below_set (HB.out) GB13.out : Below w.heap.size w w15)); clear HO_7; clear HB; have HO_7 := n0_; have HB := n1_; clear n0_ n1_; clear hg hw hp_))
                (try simp only [← hl7_1])
                go_roundg k1
                case measure => have := HK1.out; omega
                case rel => exact ⟨(y165), (wrap64 (x14_1 + 1)), (by first | rfl | (simp; done) | (simp [*]; done)), H', ⟨by have := HK1.out; omega⟩, ⟨by (try simp only [hl7_1]); (with_reducible repeat (first | apply Kd.R_alloc | apply Kd.R_drewN | apply Kd.R_drew)); exact HO_7.out⟩, ⟨by repeat (first | (with_reducible first | exact HB.out | apply below_alloc | apply pw_below_drewN | apply below_drew1) | exact HB.out)⟩⟩
              · rw [if_neg c12] at H
                have c12b0 : decide (a1 < ((rd_T53 x7_1 x14_1).f1)) = false := decide_eq_false c12
                clear c12
                by_cases c16 : ((rd_T53 x7_1 x14_1).f1) = a1
                · rw [if_pos c16] at H
                  have c16b0 : (((rd_T53 x7_1 x14_1).f1) == a1) = true := beq_iff_eq.mpr c16
                  have c16b1 : (((rd_T53 x7_1 x14_1).f1) != a1) = false := bne_eq_false_iff_eq.mpr c16
                  clear c16
                  by_cases c17 : ((rd_T53 x7_1 x14_1).f2) = 1
                  · rw [if_pos c17] at H
                    have c17b0 : (((rd_T53 x7_1 x14_1).f2) == 1) = true := beq_iff_eq.mpr c17
                    have c17b1 : (((rd_T53 x7_1 x14_1).f2) != 1) = false := bne_eq_false_iff_eq.mpr c17
                    clear c17
                    obtain ⟨y169, hy169⟩ : ∃ y_ : List (S53), y_ = (x7_1.set (x14_1 : Int).toNat (⟨(rd_T53 x7_1 x14_1).f0, wrap64 (((rd_T53 x7_1 x14_1).f1) + a2), (rd_T53 x7_1 x14_1).f2⟩ : S53)) := ⟨_, rfl⟩
                    replace H : (spec_l5Insert.l0 k1 a1 a2 y169 (y160.length : Int) (wrap64 (x14_1 + 1))) = some r := by first | (rw [hy169]; with_reducible exact H) | (have H2_ := (Option.bind_some _ _).symm.trans H; rw [hy169]; with_reducible exact H2_) | (have H2_ := (Option.bind_some _ _).symm.trans H; with_reducible exact H2_) | with_reducible exact H | (rw [hy169]; exact H) | exact H
                    have Ny169 := Aside0.mk hy169
                    clear hy169
                    have H' := Aside0.mk H
                    clear H
                    have p163 : 0 ≤ (x14_1 : Int) := of_decide_eq_true (by first | (with_reducible assumption) | assumption)
                    have q163 : x14_1 < (x7_1.length : Int) := of_decide_eq_true (by first | (with_reducible assumption) | assumption)
                    obtain ⟨ad163, e163, hx163_0, hx163_1, hx163_2⟩ := at_T53 (Kd.R_reads' HO_7.out).2.2 x14_1 p163 q163
                    cases e163
                    replace p163 := eq_true p163
                    replace q163 := eq_true q163
                    have p166 : 0 ≤ (x14_1 : Int) := of_decide_eq_true (by first | (with_reducible assumption) | assumption)
                    have q166 : x14_1 < (x7_1.length : Int) := of_decide_eq_true (by first | (with_reducible assumption) | assumption)
                    obtain ⟨ad166, e166, hx166_0, hx166_1, hx166_2⟩ := at_T53 (Kd.R_reads' HO_7.out).2.2 x14_1 p166 q166
                    obtain rfl : ad163 = ad166 := (by injection e166)
                    replace p166 := eq_true p166
                    replace q166 := eq_true q166
                    have p167 : 0 ≤ (x14_1 : Int) := of_decide_eq_true (by first | (with_reducible assumption) | assumption)
                    have q167 : x14_1 < (x7_1.length : Int) := of_decide_eq_true (by first | (with_reducible assumption) | assumption)
                    obtain ⟨ad167, e167, hx167_0, hx167_1, hx167_2⟩ := at_T53 (Kd.R_reads' HO_7.out).2.2 x14_1 p167 q167
                    obtain rfl : ad163 = ad167 := (by injection e167)
                    replace p167 := eq_true p167
                    replace q167 := eq_true q167
                    have p168 : 0 ≤ (x14_1 : Int) := of_decide_eq_true (by first | (with_reducible assumption) | assumption)
                    have q168 : x14_1 < (x7_1.length : Int) := of_decide_eq_true (by first | (with_reducible assumption) | assumption)
                    obtain ⟨ad168, e168, hx168_0, hx168_1, hx168_2⟩ := at_T53 (Kd.R_reads' HO_7.out).2.2 x14_1 p168 q168
                    obtain rfl : ad163 = ad168 := (by injection e168)
                    replace p168 := eq_true p168
                    replace q168 := eq_true q168
                    have p18 : 0 ≤ (x14_1 : Int) := of_decide_eq_true (by first | (with_reducible assumption) | assumption)
                    have q18 : (x14_1 : Int) < ((x7_1.length : Int) : Int) := of_decide_eq_true (by first | (with_reducible assumption) | assumption)
                    obtain ⟨go18, co18, eo18, gb18, gl18, cl18, HG18⟩ := Kd.R_form HO_7.out (by omega)
                    (first | cases eo18 | (injection eo18 with ea_ en_ ec_; (first | subst ea_ | (injection ea_ with ea_; subst ea_)); subst ec_; clear en_))
                    have GB18 := Aside0.mk gb18
                    have GG18 := Aside0.mk HG18
                    clear gb18 gl18 HG18
                    (first | simp only [add_plain] at hx163_0 | skip)
                    (first | simp only [add_plain] at hx163_1 | skip)
                    (first | simp only [add_plain] at hx163_2 | skip)
                    (first | simp only [add_plain] at hx166_0 | skip)
                    (first | simp only [add_plain] at hx166_1 | skip)
                    (first | simp only [add_plain] at hx166_2 | skip)
                    (first | simp only [add_plain] at hx167_0 | skip)
                    (first | simp only [add_plain] at hx167_1 | skip)
                    (first | simp only [add_plain] at hx167_2 | skip)
                    (first | simp only [add_plain] at hx168_0 | skip)
                    (first | simp only [add_plain] at hx168_1 | skip)
                    (first | simp only [add_plain] at hx168_2 | skip)
                    obtain ⟨ce18, hcl18, hM18, hcc18, hfr18⟩ := Kd.R_elem HO_7.out z53 (x14_1 : Int) p18 q18
                    obtain rfl := k53_openM hM18
                    have hx18_0 : wr.cell? ⟨go18, (x14_1 : Int).toNat * 3, none⟩ = some (.int .i64 ((rd_T53 x7_1 x14_1).f0)) := hcc18 0 _ rfl
                    have hx18_1 : wr.cell? ⟨go18, (x14_1 : Int).toNat * 3 + 1, none⟩ = some (.int .i64 ((rd_T53 x7_1 x14_1).f1)) := hcc18 1 _ rfl
                    have hx18_2 : wr.cell? ⟨go18, (x14_1 : Int).toNat * 3 + 2, none⟩ = some (.int .i64 ((rd_T53 x7_1 x14_1).f2)) := hcc18 2 _ rfl
                    have hf18_0 : wr.frozen? ⟨go18, (x14_1 : Int).toNat * 3, none⟩ = false := hfr18 0
                    have hf18_1 : wr.frozen? ⟨go18, (x14_1 : Int).toNat * 3 + 1, none⟩ = false := hfr18 1
                    have hf18_2 : wr.frozen? ⟨go18, (x14_1 : Int).toNat * 3 + 2, none⟩ = false := hfr18 2
                    clear hcl18 hcc18 hfr18 hM18
                    replace p18 := eq_true p18
                    replace q18 := eq_true q18
                    have HX19 := Aside0.mk (show Kd.R k53 53 wr w.heap.size (fun _ => True) (.slice (some ⟨go18, 0, none⟩) x7_1.length co8) x7_1 from (by (with_reducible repeat (first | apply Kd.R_alloc | apply Kd.R_drewN | apply Kd.R_drew)); exact HO_7.out))
                    obtain ⟨ce19, hcl19, hM19, hcc19, hfr19⟩ := Kd.R_elem HX19.out z53 (x14_1 : Int) (of_decide_eq_true (by first | (with_reducible assumption) | assumption)) (by have h_ : (x14_1 : Int) < ((x7_1.length : Int) : Int) := of_decide_eq_true (by first | (with_reducible assumption) | assumption); first | exact h_ | (have e_ := (Kd.R_reads' HO_7.out).1; omega) | simpa using h_)
                    obtain rfl := k53_openM hM19
                    have HP19 := Kd.R_seg HX19.out (x14_1 : Int) (of_decide_eq_true (by first | (with_reducible assumption) | assumption)) (by have h_ : (x14_1 : Int) < ((x7_1.length : Int) : Int) := of_decide_eq_true (by first | (with_reducible assumption) | assumption); first | exact h_ | (have e_ := (Kd.R_reads' HO_7.out).1; omega) | simpa using h_) (seg := [.int .i64 (wrap64 (((rd_T53 x7_1 x14_1).f1) + a2))]) (j := 1) hcl19 hcc19 (show 2 ≤ 3 from by decide) (x' := (⟨(rd_T53 x7_1 x14_1).f0, wrap64 (((rd_T53 x7_1 x14_1).f1) + a2), (rd_T53 x7_1 x14_1).f2⟩ : S53)) (k53_mkM _ _ _ (⟨(rd_T53 x7_1 x14_1).f0, wrap64 (((rd_T53 x7_1 x14_1).f1) + a2), (rd_T53 x7_1 x14_1).f2⟩ : S53) ) (fun _ hk => hk)
                    have hx19_1 := hcc19 1 _ rfl
                    (try simp only [show (k53).sz = 3 from rfl, Nat.mul_one, Nat.add_zero] at hx19_1)
                    have hf19_1 := hfr19 1
                    (try simp only [show (k53).sz = 3 from rfl, Nat.mul_one, Nat.add_zero] at hf19_1)
                    clear hcl19 hcc19 hfr19 hM19
                    go_wp2_with (first | ((with_reducible refine gate_store (t := 3) (p := 49) rfl ?_); refine store_event (t := 3) (p := 49) (v := ?vo_w20) (w1 := (wr.setCell ⟨go18, (x14_1 : Int).toNat * 3 + 1, none⟩ (.int .i64 (wrap64 (((rd_T53 x7_1 x14_1).f1) + a2))))) ?hg ?ho ?hn ?hr ?_; (case ho => rfl); (case hg => rfl); (case hn => rfl); (case hr => first | (go_simp; done) | (go_simp; rfl)); intro w20 hw; have hg : wr.grownBy w20 (some go18) := (by rw [hw]; exact HP19.2); have hp_ : Kd.R k53 53 w20 w.heap.size (fun _ => True) (.slice (some ⟨go18, 0, none⟩) x7_1.length co8) y169 := (by rw [hw, Ny169.out]; exact HP19.1); clear HP19; have n0_ := Aside0.mk (hp_); have n1_ := Aside0.mk ((by rw [hw]; exact below_set (HB.out) GB18.out : Below w.heap.size w w20)); clear HO_7; clear HB; have HO_7 := n0_; have HB := n1_; clear n0_ n1_; clear hg hw hp_))
                    (try simp only [← hl7_1])
                    go_roundg k1
                    case measure => have := HK1.out; omega
                    case rel => exact ⟨(y169), (wrap64 (x14_1 + 1)), (by first | rfl | (simp; done) | (simp [*]; done)), H', ⟨by have := HK1.out; omega⟩, ⟨by (try simp only [hl7_1]); (with_reducible repeat (first | apply Kd.R_alloc | apply Kd.R_drewN | apply Kd.R_drew)); exact HO_7.out⟩, ⟨by repeat (first | (with_reducible first | exact HB.out | apply below_alloc | apply pw_below_drewN | apply below_drew1) | exact HB.out)⟩⟩
                  · rw [if_neg c17] at H
                    have c17b0 : (((rd_T53 x7_1 x14_1).f2) == 1) = false := beq_eq_false_iff_ne.mpr c17
                    have c17b1 : (((rd_T53 x7_1 x14_1).f2) != 1) = true := bne_iff_ne.mpr c17
                    have H' := Aside0.mk H
                    clear H
                    have p163 : 0 ≤ (x14_1 : Int) := of_decide_eq_true (by first | (with_reducible assumption) | assumption)
                    have q163 : x14_1 < (x7_1.length : Int) := of_decide_eq_true (by first | (with_reducible assumption) | assumption)
                    obtain ⟨ad163, e163, hx163_0, hx163_1, hx163_2⟩ := at_T53 (Kd.R_reads' HO_7.out).2.2 x14_1 p163 q163
                    cases e163
                    replace p163 := eq_true p163
                    replace q163 := eq_true q163
                    have p166 : 0 ≤ (x14_1 : Int) := of_decide_eq_true (by first | (with_reducible assumption) | assumption)
                    have q166 : x14_1 < (x7_1.length : Int) := of_decide_eq_true (by first | (with_reducible assumption) | assumption)
                    obtain ⟨ad166, e166, hx166_0, hx166_1, hx166_2⟩ := at_T53 (Kd.R_reads' HO_7.out).2.2 x14_1 p166 q166
                    obtain rfl : ad163 = ad166 := (by injection e166)
                    replace p166 := eq_true p166
                    replace q166 := eq_true q166
                    have p167 : 0 ≤ (x14_1 : Int) := of_decide_eq_true (by first | (with_reducible assumption) | assumption)
                    have q167 : x14_1 < (x7_1.length : Int) := of_decide_eq_true (by first | (with_reducible assumption) | assumption)
                    obtain ⟨ad167, e167, hx167_0, hx167_1, hx167_2⟩ := at_T53 (Kd.R_reads' HO_7.out).2.2 x14_1 p167 q167
                    obtain rfl : ad163 = ad167 := (by injection e167)
                    replace p167 := eq_true p167
                    replace q167 := eq_true q167
                    go_wp2
                    (try simp only [← hl7_1])
                    go_roundg k1
                    case measure => have := HK1.out; omega
                    case rel => exact ⟨(x7_1), (wrap64 (x14_1 + 1)), (by first | rfl | (simp; done) | (simp [*]; done)), H', ⟨by have := HK1.out; omega⟩, ⟨by (try simp only [hl7_1]); (with_reducible repeat (first | apply Kd.R_alloc | apply Kd.R_drewN | apply Kd.R_drew)); exact HO_7.out⟩, ⟨by repeat (first | (with_reducible first | exact HB.out | apply below_alloc | apply pw_below_drewN | apply below_drew1) | exact HB.out)⟩⟩
                · rw [if_neg c16] at H
                  have c16b0 : (((rd_T53 x7_1 x14_1).f1) == a1) = false := beq_eq_false_iff_ne.mpr c16
                  have c16b1 : (((rd_T53 x7_1 x14_1).f1) != a1) = true := bne_iff_ne.mpr c16
                  have H' := Aside0.mk H
                  clear H
                  have p163 : 0 ≤ (x14_1 : Int) := of_decide_eq_true (by first | (with_reducible assumption) | assumption)
                  have q163 : x14_1 < (x7_1.length : Int) := of_decide_eq_true (by first | (with_reducible assumption) | assumption)
                  obtain ⟨ad163, e163, hx163_0, hx163_1, hx163_2⟩ := at_T53 (Kd.R_reads' HO_7.out).2.2 x14_1 p163 q163
                  cases e163
                  replace p163 := eq_true p163
                  replace q163 := eq_true q163
                  have p166 : 0 ≤ (x14_1 : Int) := of_decide_eq_true (by first | (with_reducible assumption) | assumption)
                  have q166 : x14_1 < (x7_1.length : Int) := of_decide_eq_true (by first | (with_reducible assumption) | assumption)
                  obtain ⟨ad166, e166, hx166_0, hx166_1, hx166_2⟩ := at_T53 (Kd.R_reads' HO_7.out).2.2 x14_1 p166 q166
                  obtain rfl : ad163 = ad166 := (by injection e166)
                  replace p166 := eq_true p166
                  replace q166 := eq_true q166
                  go_wp2
                  (try simp only [← hl7_1])
                  go_roundg k1
                  case measure => have := HK1.out; omega
                  case rel => exact ⟨(x7_1), (wrap64 (x14_1 + 1)), (by first | rfl | (simp; done) | (simp [*]; done)), H', ⟨by have := HK1.out; omega⟩, ⟨by (try simp only [hl7_1]); (with_reducible repeat (first | apply Kd.R_alloc | apply Kd.R_drewN | apply Kd.R_drew)); exact HO_7.out⟩, ⟨by repeat (first | (with_reducible first | exact HB.out | apply below_alloc | apply pw_below_drewN | apply below_drew1) | exact HB.out)⟩⟩
            · rw [if_neg c11] at H
              exact absurd H (by simp)
          · rw [if_neg c10] at H
            exact absurd H (by simp)
        · rw [if_neg c9] at H
          have c9b0 : decide (x14_1 < (y160.length : Int)) = false := decide_eq_false c9
          (try rw [hl7_1] at c9b0)
          clear c9
          replace H := Option.bind_eq_some_iff.mp H
          obtain ⟨t170, A210, H⟩ := H
          replace H : (some t170) = some r := H
          have A21 := Aside0.mk A210
          clear A210
          obtain rfl := Option.some.inj H
          go_wp2_with (first | ((with_reducible refine gate_callee (f := 54) rfl ?_); refine goesL_ (some 52) rfl rfl Tryd.func54 (by kernel_rfl) rfl #[.slice Ao8 x7_1.length co8] rfl (by (try simp only [List.map_toArray, List.map_cons, List.map_nil]); first | done | rfl | (simp only [List.length_drop, List.length_take]; rfl)) ?_; (with_reducible refine (spec_l5Sort.calls k1 _ _ x7_1 t170 _ ?side1 ?side2 A21.out).mono ?_); (case side1 => repeat (first | exact (Kd.R_reads' HO_7.out).2.2 | (with_reducible refine Kd.C_alloc ?_ _) | (with_reducible refine Kd.C_drewN ?_ _) | (with_reducible refine Kd.C_drew ?_))); (case side2 => exact (Kd.R_reads' HO_7.out).2.1); rintro e w22 ⟨v171, rfl, ho0, hb⟩; refine ⟨_, rfl, ?_⟩; have n0_ := Aside0.mk (Kd.R_elder' (by (with_reducible repeat (first | apply Kd.R_alloc | apply Kd.R_drewN | apply Kd.R_drew)); exact HO_7.out) (Kd.R_base ho0) hb); have n1_ := Aside0.mk (Kd.R_lower (Kd.R_new' ho0 (Kd.R_lt (by (with_reducible repeat (first | apply Kd.R_alloc | apply Kd.R_drewN | apply Kd.R_drew)); exact HO_7.out))) (below_size (by repeat (first | (with_reducible first | exact HB.out | apply below_alloc | apply pw_below_drewN | apply below_drew1) | exact HB.out)))); have n2_ := Aside0.mk (below_step (by repeat (first | (with_reducible first | exact HB.out | apply below_alloc | apply pw_below_drewN | apply below_drew1) | exact HB.out)) hb); clear HO_7; clear HB; have HO_7 := n0_; have HO172 := n1_; have HB := n2_; clear n0_ n1_ n2_; (try clear hb); (try clear hb2); (try clear hk); (try clear hi); (try clear ho0)))
          go_ret
          exact ⟨_, by first | rfl | (simp [errW_none, errW_some] <;> rfl) | (simp [*, errW_none, errW_some] <;> rfl), by (with_reducible repeat (first | apply Kd.R_alloc | apply Kd.R_drewN | apply Kd.R_drew)); exact Kd.R_mono HO172.out (fun _ hk => trivial), by repeat (first | (with_reducible first | exact HB.out | apply below_alloc | apply pw_below_drewN | apply below_drew1) | exact HB.out)⟩
  · rw [if_neg c4] at H
    exact absurd H (by simp)

/-! ### spec_MarksInsert: function 34 -/
mutual
def spec_MarksInsert.j0 : Nat → List (S53) → Int → Int → Bool → Option ((List (S53)) × Int)
  | 0, _, _, _, _ => none
  | k + 1, x0, x1, x2, x27 => if x27 = true then (some (([] : List (S53)), 2)) else ((spec_l5Insert.f k x0 x1 x2).bind fun t174 => (spec_MarksInsert.l0 k t174 t174 (t174.length : Int) 0))
def spec_MarksInsert.l0 : Nat → List (S53) → List (S53) → Int → Int → Option ((List (S53)) × Int)
  | 0, _, _, _, _ => none
  | k + 1, x8, x32, x33, x34 => if x34 < x33 then (if 0 ≤ x34 then (if x34 < (x32.length : Int) then (if ((rd_T53 x32 x34).f1) > 8192 then (some (([] : List (S53)), 10)) else (spec_MarksInsert.l0 k x8 x32 x33 (wrap64 (x34 + 1)))) else (none)) else (none)) else (some (x8, 0))
end
def spec_MarksInsert.f (k : Nat) (l0 : List (S53)) (a1 : Int) (a2 : Int) : Option ((List (S53)) × Int) := (spec_L5Valid.f k l0).bind fun t173 => (if t173 = true then (if a1 < 0 then (spec_MarksInsert.j0 k l0 a1 a2 true) else (if a1 > 8192 then (spec_MarksInsert.j0 k l0 a1 a2 true) else (if a2 < 0 then (spec_MarksInsert.j0 k l0 a1 a2 true) else (spec_MarksInsert.j0 k l0 a1 a2 (decide (a2 > 8192)))))) else (some (([] : List (S53)), 1)))
theorem spec_MarksInsert.mono_l : ∀ k, (∀ y0 y1 y2 y3, LeO (spec_MarksInsert.j0 k y0 y1 y2 y3) (spec_MarksInsert.j0 (k + 1) y0 y1 y2 y3)) ∧ (∀ y0 y1 y2 y3, LeO (spec_MarksInsert.l0 k y0 y1 y2 y3) (spec_MarksInsert.l0 (k + 1) y0 y1 y2 y3))
  | 0 => ⟨fun _ _ _ _ r h => by simp [spec_MarksInsert.j0] at h, fun _ _ _ _ r h => by simp [spec_MarksInsert.l0] at h⟩
  | k + 1 => by
    obtain ⟨ih0, ih1⟩ := spec_MarksInsert.mono_l k
    refine ⟨?_, ?_⟩
    · intro y0 y1 y2 y3
      unfold spec_MarksInsert.j0
      repeat' first
      | (with_reducible exact ih0 _ _ _ _)
      | (with_reducible exact ih1 _ _ _ _)
      | (with_reducible exact spec_L5Valid.mono _ _)
      | (with_reducible exact spec_l5Insert.mono _ _ _ _)
      | (with_reducible exact LeO.refl _)
      | (with_reducible exact LeO.none _)
      | (with_reducible refine LeO.ite ?_ ?_)
      | (with_reducible refine LeO.bind ?_ (fun _ => ?_))
      | exact ih0 _ _ _ _
      | exact ih1 _ _ _ _
      | exact spec_L5Valid.mono _ _
      | exact spec_l5Insert.mono _ _ _ _
      | exact LeO.none _
      | refine LeO.ite ?_ ?_
      | refine LeO.bind ?_ (fun _ => ?_)
    · intro y0 y1 y2 y3
      unfold spec_MarksInsert.l0
      repeat' first
      | (with_reducible exact ih0 _ _ _ _)
      | (with_reducible exact ih1 _ _ _ _)
      | (with_reducible exact spec_L5Valid.mono _ _)
      | (with_reducible exact spec_l5Insert.mono _ _ _ _)
      | (with_reducible exact LeO.refl _)
      | (with_reducible exact LeO.none _)
      | (with_reducible refine LeO.ite ?_ ?_)
      | (with_reducible refine LeO.bind ?_ (fun _ => ?_))
      | exact ih0 _ _ _ _
      | exact ih1 _ _ _ _
      | exact spec_L5Valid.mono _ _
      | exact spec_l5Insert.mono _ _ _ _
      | exact LeO.none _
      | refine LeO.ite ?_ ?_
      | refine LeO.bind ?_ (fun _ => ?_)
theorem spec_MarksInsert.mono : ∀ a0 a1 a2 k, LeO (spec_MarksInsert.f k a0 a1 a2) (spec_MarksInsert.f (k + 1) a0 a1 a2) := by
  intro a0 a1 a2 k
  obtain ⟨ih0, ih1⟩ := spec_MarksInsert.mono_l k
  unfold spec_MarksInsert.f
  repeat' first
      | (with_reducible exact ih0 _ _ _ _)
      | (with_reducible exact ih1 _ _ _ _)
      | (with_reducible exact spec_L5Valid.mono _ _)
      | (with_reducible exact spec_l5Insert.mono _ _ _ _)
      | (with_reducible exact LeO.refl _)
      | (with_reducible exact LeO.none _)
      | (with_reducible refine LeO.ite ?_ ?_)
      | (with_reducible refine LeO.bind ?_ (fun _ => ?_))
      | exact ih0 _ _ _ _
      | exact ih1 _ _ _ _
      | exact spec_L5Valid.mono _ _
      | exact spec_l5Insert.mono _ _ _ _
      | exact LeO.none _
      | refine LeO.ite ?_ ?_
      | refine LeO.bind ?_ (fun _ => ?_)
set_option maxHeartbeats 8000000 in
set_option maxRecDepth 100000 in
theorem spec_MarksInsert.calls (k : Nat) (A0 : Option Addr) (c0 : Nat) (l0 : List (S53)) (a1 : Int) (a2 : Int) (r1 : List (S53)) (r2 : Int) (w : World) (hr0 : Kd.C k53 w A0 l0.length l0) (hc0 : l0.length ≤ c0) (h : spec_MarksInsert.f k l0 a1 a2 = some (r1, r2)) :
    Calls Tryd.prog 34 #[.slice A0 l0.length c0, .int .i64 a1, .int .i64 a2] w fun e w' => ∃ v0_ : Value, e = .returned (.tuple #[v0_, .int .i64 r2]) ∧ Kd.R k53 53 w' w.heap.size (fun _ => True) v0_ r1 ∧ Below w.heap.size w w' := by
  have hu53 := Tryd.underlying53
  have HR0 := Aside0.mk hr0
  have HC0 := Aside0.mk hc0
  clear hr0 hc0
  have HB := Aside0.mk (Below.refl w.heap.size w)
  have H : ((spec_L5Valid.f k l0).bind fun t173 => (if t173 = true then (if a1 < 0 then (spec_MarksInsert.j0 k l0 a1 a2 true) else (if a1 > 8192 then (spec_MarksInsert.j0 k l0 a1 a2 true) else (if a2 < 0 then (spec_MarksInsert.j0 k l0 a1 a2 true) else (spec_MarksInsert.j0 k l0 a1 a2 (decide (a2 > 8192)))))) else (some (([] : List (S53)), 1)))) = some (r1, r2) := h
  clear h
  replace H := Option.bind_eq_some_iff.mp H
  obtain ⟨t173, A40, H⟩ := H
  replace H : (if t173 = true then (if a1 < 0 then (spec_MarksInsert.j0 k l0 a1 a2 true) else (if a1 > 8192 then (spec_MarksInsert.j0 k l0 a1 a2 true) else (if a2 < 0 then (spec_MarksInsert.j0 k l0 a1 a2 true) else (spec_MarksInsert.j0 k l0 a1 a2 (decide (a2 > 8192)))))) else (some (([] : List (S53)), 1))) = some (r1, r2) := H
  have A4 := Aside0.mk A40
  clear A40
  by_cases c5 : t173 = true
  · subst c5
    have H1 : (if a1 < 0 then (spec_MarksInsert.j0 k l0 a1 a2 true) else (if a1 > 8192 then (spec_MarksInsert.j0 k l0 a1 a2 true) else (if a2 < 0 then (spec_MarksInsert.j0 k l0 a1 a2 true) else (spec_MarksInsert.j0 k l0 a1 a2 (decide (a2 > 8192)))))) = some (r1, r2) := by rw [if_pos rfl] at H; exact H
    clear H
    have H := H1
    clear H1
    have HC6 := Aside0.mk H
    clear H
    go_enter Tryd.func34, Tryd.ntmps34
    go_upto_region 3 with (first | ((with_reducible refine gate_callee (f := 35) rfl ?_); refine goesL_ (some 12) rfl rfl Tryd.func35 (by kernel_rfl) rfl #[.slice A0 l0.length c0] rfl (by (try simp only [List.map_toArray, List.map_cons, List.map_nil]); first | done | rfl | (simp only [List.length_drop, List.length_take]; rfl)) ?_; (with_reducible refine (spec_L5Valid.calls k _ _ l0 true _ ?side1 ?side2 A4.out).mono ?_); (case side1 => repeat (first | exact HR0.out | (with_reducible refine Kd.C_alloc ?_ _) | (with_reducible refine Kd.C_drewN ?_ _) | (with_reducible refine Kd.C_drew ?_))); (case side2 => exact HC0.out); rintro e w7 ⟨rfl, hb⟩; refine ⟨_, rfl, ?_⟩; have n0_ := Aside0.mk (below_step (by repeat (first | (with_reducible first | exact HB.out | apply below_alloc | apply pw_below_drewN | apply below_drew1) | exact HB.out)) hb); clear HB; have HB := n0_; clear n0_; (try clear hb); (try clear hb2); (try clear hk); (try clear hi)))
    (try simp only [Act.put, List.setIfInBounds_toArray, List.set_cons_zero, List.set_cons_succ])
    go_cut [27] (fun v27 wc => ∃ (kq : Nat) (x27_5 : Bool), v27 = .bool x27_5 ∧ Aside0 (spec_MarksInsert.j0 kq l0 a1 a2 x27_5 = some (r1, r2)) ∧ Aside0 (kq ≤ k) ∧ Aside0 (Below w.heap.size w wc))
    case first =>
      have H := HC6.out
      clear HC6
      by_cases c8 : a1 < 0
      · rw [if_pos c8] at H
        have c8b0 : decide (a1 < 0) = true := decide_eq_true c8
        clear c8
        (first | rw [c8b0] | (simp only [i64_w, i32_w]; rw [c8b0]) | skip)
        have H' := Aside0.mk H
        clear H
        go_wp2
        go_meet
        case rel => exact ⟨_, (true), (by first | rfl | (simp; done) | (simp [*]; done)), H', ⟨by first | omega | exact Nat.le_refl _⟩, ⟨by repeat (first | (with_reducible first | exact HB.out | apply below_alloc | apply pw_below_drewN | apply below_drew1) | exact HB.out)⟩⟩
      · rw [if_neg c8] at H
        have c8b0 : decide (a1 < 0) = false := decide_eq_false c8
        clear c8
        (first | rw [c8b0] | (simp only [i64_w, i32_w]; rw [c8b0]) | skip)
        by_cases c9 : a1 > 8192
        · rw [if_pos c9] at H
          have c9b0 : decide (8192 < a1) = true := decide_eq_true c9
          clear c9
          have H' := Aside0.mk H
          clear H
          go_wp2
          go_meet
          case rel => exact ⟨_, (true), (by first | rfl | (simp; done) | (simp [*]; done)), H', ⟨by first | omega | exact Nat.le_refl _⟩, ⟨by repeat (first | (with_reducible first | exact HB.out | apply below_alloc | apply pw_below_drewN | apply below_drew1) | exact HB.out)⟩⟩
        · rw [if_neg c9] at H
          have c9b0 : decide (8192 < a1) = false := decide_eq_false c9
          clear c9
          by_cases c10 : a2 < 0
          · rw [if_pos c10] at H
            have c10b0 : decide (a2 < 0) = true := decide_eq_true c10
            clear c10
            have H' := Aside0.mk H
            clear H
            go_wp2
            go_meet
            case rel => exact ⟨_, (true), (by first | rfl | (simp; done) | (simp [*]; done)), H', ⟨by first | omega | exact Nat.le_refl _⟩, ⟨by repeat (first | (with_reducible first | exact HB.out | apply below_alloc | apply pw_below_drewN | apply below_drew1) | exact HB.out)⟩⟩
          · rw [if_neg c10] at H
            have c10b0 : decide (a2 < 0) = false := decide_eq_false c10
            clear c10
            have H' := Aside0.mk H
            clear H
            go_wp2
            go_meet
            case rel => exact ⟨_, (decide (a2 > 8192)), (by first | rfl | (simp; done) | (simp [*]; done)), H', ⟨by first | omega | exact Nat.le_refl _⟩, ⟨by repeat (first | (with_reducible first | exact HB.out | apply below_alloc | apply pw_below_drewN | apply below_drew1) | exact HB.out)⟩⟩
    case rest =>
      clear HC6
      try clear c1
      try clear p2
      try clear c3
      try clear c5
      try clear c8
      try clear c8b0
      try clear c9
      try clear c9b0
      try clear c10
      try clear c10b0
      obtain ⟨kq, x27_5, rfl, HA, HJ5, HB⟩ := hcut
      cases kq with
      | zero => exact absurd HA.out (by simp [spec_MarksInsert.j0])
      | succ kj5 =>
        have H := HA.out
        clear HA
        simp only [spec_MarksInsert.j0] at H
        by_cases c11 : x27_5 = true
        · subst c11
          have H1 : (some (([] : List (S53)), 2)) = some (r1, r2) := by rw [if_pos rfl] at H; exact H
          clear H
          have H := H1
          clear H1
          simp only [Option.some.injEq, Prod.mk.injEq] at H
          obtain ⟨rfl, rfl⟩ := H
          go_wp2
          go_ret2
          exact ⟨_, by first | rfl | (simp [errW_none, errW_some] <;> rfl) | (simp [*, errW_none, errW_some] <;> rfl), by first | exact Kd.R_nil _ _ _ _ _ | exact Kd.N_nil _ _ _ _ _ | exact Kd.V_nil _ _ _ _ _ | exact Kd.Q_nil _ _ _ _ _ | exact Kd.S_nil _ _ _ _ _, by repeat (first | (with_reducible first | exact HB.out | apply below_alloc | apply pw_below_drewN | apply below_drew1) | exact HB.out)⟩
        · replace c11 := Bool.eq_false_iff.mpr c11
          subst c11
          have H1 : ((spec_l5Insert.f kj5 l0 a1 a2).bind fun t174 => (spec_MarksInsert.l0 kj5 t174 t174 (t174.length : Int) 0)) = some (r1, r2) := by rw [if_neg (show ¬ (false = true) by decide)] at H; exact H
          clear H
          have H := H1
          clear H1
          replace H := Option.bind_eq_some_iff.mp H
          obtain ⟨t174, A120, H⟩ := H
          replace H : (spec_MarksInsert.l0 kj5 t174 t174 (t174.length : Int) 0) = some (r1, r2) := H
          have A12 := Aside0.mk A120
          clear A120
          have H' := Aside0.mk H
          clear H
          go_wp2_with (first | ((with_reducible refine gate_callee (f := 62) rfl ?_); refine goesL_ (some 31) rfl rfl Tryd.func62 (by kernel_rfl) rfl #[.slice A0 l0.length c0, .int .i64 a1, .int .i64 a2] rfl (by (try simp only [List.map_toArray, List.map_cons, List.map_nil]); first | done | rfl | (simp only [List.length_drop, List.length_take]; rfl)) ?_; (with_reducible refine (spec_l5Insert.calls kj5 _ _ l0 a1 a2 t174 _ ?side1 ?side2 A12.out).mono ?_); (case side1 => repeat (first | exact (Kd.C_below HR0.out HB.out) | (with_reducible refine Kd.C_alloc ?_ _) | (with_reducible refine Kd.C_drewN ?_ _) | (with_reducible refine Kd.C_drew ?_))); (case side2 => exact HC0.out); rintro e w13 ⟨v175, rfl, ho0, hb⟩; refine ⟨_, rfl, ?_⟩; have n0_ := Aside0.mk (Kd.R_lower ho0 (below_size (by repeat (first | (with_reducible first | exact HB.out | apply below_alloc | apply pw_below_drewN | apply below_drew1) | exact HB.out)))); have n1_ := Aside0.mk (below_step (by repeat (first | (with_reducible first | exact HB.out | apply below_alloc | apply pw_below_drewN | apply below_drew1) | exact HB.out)) hb); clear HB; have HO176 := n0_; have HB := n1_; clear n0_ n1_; (try clear hb); (try clear hb2); (try clear hk); (try clear hi); (try clear ho0); obtain ⟨Ao14, co14, eo14⟩ := Kd.R_slice HO176.out; subst eo14))
          go_loopg [34] kj5 (fun kq v34 w' => ∃ (x34_2 : Int), v34 = .int .i64 x34_2 ∧ Aside0 (spec_MarksInsert.l0 kq t174 t174 (t174.length : Int) x34_2 = some (r1, r2)) ∧ Aside0 (kq ≤ kj5) ∧ Aside0 (Kd.R k53 53 w' w.heap.size (fun _ => True) (.slice Ao14 t174.length co14) t174) ∧ Aside0 (Kd.R k53 53 w' w.heap.size (fun _ => True) (.slice Ao14 t174.length co14) t174) ∧ Aside0 (Below w.heap.size w w'))
          case atStart => exact ⟨(0), (by first | rfl | (simp; done) | (simp [*]; done)), H', ⟨Nat.le_refl _⟩, ⟨by (with_reducible repeat (first | apply Kd.R_alloc | apply Kd.R_drewN | apply Kd.R_drew)); exact HO176.out⟩, ⟨by (with_reducible repeat (first | apply Kd.R_alloc | apply Kd.R_drewN | apply Kd.R_drew)); exact HO176.out⟩, ⟨by repeat (first | (with_reducible first | exact HB.out | apply below_alloc | apply pw_below_drewN | apply below_drew1) | exact HB.out)⟩⟩
          case round =>
            clear H'
            try clear c1
            try clear p2
            try clear c3
            try clear c5
            try clear c6
            try clear c8
            try clear c8b0
            try clear c9
            try clear c9b0
            try clear c10
            try clear c10b0
            try clear c11
            try clear p2
            obtain ⟨x34_2, rfl, HA, HK2, HO_8, HO_32, HB⟩ := hrel
            cases gk with
            | zero => exact absurd HA.out (by simp [spec_MarksInsert.l0])
            | succ k2 =>
              have H := HA.out
              clear HA
              simp only [spec_MarksInsert.l0] at H
              by_cases c15 : x34_2 < (t174.length : Int)
              · rw [if_pos c15] at H
                have c15b0 : decide (x34_2 < (t174.length : Int)) = true := decide_eq_true c15
                clear c15
                by_cases c16 : 0 ≤ x34_2
                · rw [if_pos c16] at H
                  have c16b0 : decide (0 ≤ x34_2) = true := decide_eq_true c16
                  clear c16
                  by_cases c17 : x34_2 < (t174.length : Int)
                  · rw [if_pos c17] at H
                    have c17b0 : decide (x34_2 < (t174.length : Int)) = true := decide_eq_true c17
                    clear c17
                    by_cases c18 : ((rd_T53 t174 x34_2).f1) > 8192
                    · rw [if_pos c18] at H
                      have c18b0 : decide (8192 < ((rd_T53 t174 x34_2).f1)) = true := decide_eq_true c18
                      clear c18
                      simp only [Option.some.injEq, Prod.mk.injEq] at H
                      obtain ⟨rfl, rfl⟩ := H
                      have p177 : 0 ≤ (x34_2 : Int) := of_decide_eq_true (by first | (with_reducible assumption) | assumption)
                      have q177 : x34_2 < (t174.length : Int) := of_decide_eq_true (by first | (with_reducible assumption) | assumption)
                      obtain ⟨ad177, e177, hx177_0, hx177_1, hx177_2⟩ := at_T53 (Kd.R_reads' HO_32.out).2.2 x34_2 p177 q177
                      cases e177
                      replace p177 := eq_true p177
                      replace q177 := eq_true q177
                      go_wp2_with (first | ((with_reducible refine gate_dst (N := 10) rfl ?_); refine box_event ?hg (N := 10) ?hd (cs := #[.int .i64 0, .int .i64 0, .int .i64 0]) (t := 53) ?hr ?_; (case hd => rfl); (case hg => rfl); (case hr => first | (go_simp; done) | (go_simp; rfl)); intro gb178 hg w19 hbox hb; have n0_ := Aside0.mk (Kd.R_below (Kd.R_elderB (by (with_reducible repeat (first | apply Kd.R_alloc | apply Kd.R_drewN | apply Kd.R_drew)); exact HO_8.out) gb178 (Nat.le_of_eq hg.symm)) hb); have n1_ := Aside0.mk (Kd.R_below (Kd.R_elderB (by (with_reducible repeat (first | apply Kd.R_alloc | apply Kd.R_drewN | apply Kd.R_drew)); exact HO_32.out) gb178 (Nat.le_of_eq hg.symm)) hb); have n2_ := Aside0.mk (below_step (by repeat (first | (with_reducible first | exact HB.out | apply below_alloc | apply pw_below_drewN | apply below_drew1) | exact HB.out)) hb); have n3_ := Aside0.mk (hbox); have n4_ := Aside0.mk ((by rw [hg]; exact (below_size (by repeat (first | (with_reducible first | exact HB.out | apply below_alloc | apply pw_below_drewN | apply below_drew1) | exact HB.out))) : w.heap.size ≤ gb178)); have n5_ := Aside0.mk ((by rw [hg]; exact (below_size (by repeat (first | (with_reducible first | exact HB.out | apply below_alloc | apply pw_below_drewN | apply below_drew1) | exact HB.out))) : w.heap.size ≤ gb178)); clear HO_8; clear HO_32; clear HB; have HO_8 := n0_; have HO_32 := n1_; have HB := n2_; have BK178 := n3_; have GW178 := n4_; have GE178 := n5_; clear n0_ n1_ n2_ n3_ n4_ n5_; clear hb hbox hg; have hcz20_0 : w19.cell? ⟨gb178, 0, none⟩ = some (.int .i64 0) := (blk_cell BK178.out 0).trans rfl; have hcz20_1 : w19.cell? ⟨gb178, 1, none⟩ = some (.int .i64 0) := (blk_cell BK178.out 1).trans rfl; have hcz20_2 : w19.cell? ⟨gb178, 2, none⟩ = some (.int .i64 0) := (blk_cell BK178.out 2).trans rfl; have hfz20_0 := blk_frozen BK178.out 0; have hfz20_1 := blk_frozen BK178.out 1; have hfz20_2 := blk_frozen BK178.out 2))
                      go_ret2
                      exact ⟨_, by first | rfl | (simp [errW_none, errW_some] <;> rfl) | (simp [*, errW_none, errW_some] <;> rfl), by first | exact Kd.R_nil _ _ _ _ _ | exact Kd.N_nil _ _ _ _ _ | exact Kd.V_nil _ _ _ _ _ | exact Kd.Q_nil _ _ _ _ _ | exact Kd.S_nil _ _ _ _ _, by repeat (first | (with_reducible first | exact HB.out | apply below_alloc | apply pw_below_drewN | apply below_drew1 | refine below_set ?_ GE178.out) | exact HB.out)⟩
                    · rw [if_neg c18] at H
                      have c18b0 : decide (8192 < ((rd_T53 t174 x34_2).f1)) = false := decide_eq_false c18
                      clear c18
                      have H' := Aside0.mk H
                      clear H
                      have p177 : 0 ≤ (x34_2 : Int) := of_decide_eq_true (by first | (with_reducible assumption) | assumption)
                      have q177 : x34_2 < (t174.length : Int) := of_decide_eq_true (by first | (with_reducible assumption) | assumption)
                      obtain ⟨ad177, e177, hx177_0, hx177_1, hx177_2⟩ := at_T53 (Kd.R_reads' HO_32.out).2.2 x34_2 p177 q177
                      cases e177
                      replace p177 := eq_true p177
                      replace q177 := eq_true q177
                      go_wp2_with (first | ((with_reducible refine gate_dst (N := 10) rfl ?_); refine box_event ?hg (N := 10) ?hd (cs := #[.int .i64 0, .int .i64 0, .int .i64 0]) (t := 53) ?hr ?_; (case hd => rfl); (case hg => rfl); (case hr => first | (go_simp; done) | (go_simp; rfl)); intro gb178 hg w21 hbox hb; have n0_ := Aside0.mk (Kd.R_below (Kd.R_elderB (by (with_reducible repeat (first | apply Kd.R_alloc | apply Kd.R_drewN | apply Kd.R_drew)); exact HO_8.out) gb178 (Nat.le_of_eq hg.symm)) hb); have n1_ := Aside0.mk (Kd.R_below (Kd.R_elderB (by (with_reducible repeat (first | apply Kd.R_alloc | apply Kd.R_drewN | apply Kd.R_drew)); exact HO_32.out) gb178 (Nat.le_of_eq hg.symm)) hb); have n2_ := Aside0.mk (below_step (by repeat (first | (with_reducible first | exact HB.out | apply below_alloc | apply pw_below_drewN | apply below_drew1) | exact HB.out)) hb); have n3_ := Aside0.mk (hbox); have n4_ := Aside0.mk ((by rw [hg]; exact (below_size (by repeat (first | (with_reducible first | exact HB.out | apply below_alloc | apply pw_below_drewN | apply below_drew1) | exact HB.out))) : w.heap.size ≤ gb178)); have n5_ := Aside0.mk ((by rw [hg]; exact (below_size (by repeat (first | (with_reducible first | exact HB.out | apply below_alloc | apply pw_below_drewN | apply below_drew1) | exact HB.out))) : w.heap.size ≤ gb178)); clear HO_8; clear HO_32; clear HB; have HO_8 := n0_; have HO_32 := n1_; have HB := n2_; have BK178 := n3_; have GW178 := n4_; have GE178 := n5_; clear n0_ n1_ n2_ n3_ n4_ n5_; clear hb hbox hg; have hcz22_0 : w21.cell? ⟨gb178, 0, none⟩ = some (.int .i64 0) := (blk_cell BK178.out 0).trans rfl; have hcz22_1 : w21.cell? ⟨gb178, 1, none⟩ = some (.int .i64 0) := (blk_cell BK178.out 1).trans rfl; have hcz22_2 : w21.cell? ⟨gb178, 2, none⟩ = some (.int .i64 0) := (blk_cell BK178.out 2).trans rfl; have hfz22_0 := blk_frozen BK178.out 0; have hfz22_1 := blk_frozen BK178.out 1; have hfz22_2 := blk_frozen BK178.out 2))
                      go_roundg k2
                      case measure => have := HJ5.out; have := HK2.out; omega
                      case rel => exact ⟨(wrap64 (x34_2 + 1)), (by first | rfl | (simp; done) | (simp [*]; done)), H', ⟨by have := HJ5.out; have := HK2.out; omega⟩, ⟨by (with_reducible repeat (first | apply Kd.R_alloc | apply Kd.R_drewN | apply Kd.R_drew)); exact Kd.R_mono (Kd.R_far (p := ⟨gb178, 2, none⟩) (Kd.R_far (p := ⟨gb178, 1, none⟩) (Kd.R_far (p := ⟨gb178, 0, none⟩) (Kd.R_mono HO_8.out (fun k_ hk => (⟨hk, hk.2⟩ : _ ∧ k_ ≠ gb178))) (fun _ hk => hk.2) (.int .i64 ((rd_T53 t174 x34_2).f0))) (fun _ hk => hk.2) (.int .i64 ((rd_T53 t174 x34_2).f1))) (fun _ hk => hk.2) (.int .i64 ((rd_T53 t174 x34_2).f2))) (fun _ hk => trivial)⟩, ⟨by (with_reducible repeat (first | apply Kd.R_alloc | apply Kd.R_drewN | apply Kd.R_drew)); exact Kd.R_mono (Kd.R_far (p := ⟨gb178, 2, none⟩) (Kd.R_far (p := ⟨gb178, 1, none⟩) (Kd.R_far (p := ⟨gb178, 0, none⟩) (Kd.R_mono HO_32.out (fun k_ hk => (⟨hk, hk.2⟩ : _ ∧ k_ ≠ gb178))) (fun _ hk => hk.2) (.int .i64 ((rd_T53 t174 x34_2).f0))) (fun _ hk => hk.2) (.int .i64 ((rd_T53 t174 x34_2).f1))) (fun _ hk => hk.2) (.int .i64 ((rd_T53 t174 x34_2).f2))) (fun _ hk => trivial)⟩, ⟨by repeat (first | (with_reducible first | exact HB.out | apply below_alloc | apply pw_below_drewN | apply below_drew1 | refine below_set ?_ GE178.out) | exact HB.out)⟩⟩
                  · rw [if_neg c17] at H
                    exact absurd H (by simp)
                · rw [if_neg c16] at H
                  exact absurd H (by simp)
              · rw [if_neg c15] at H
                have c15b0 : decide (x34_2 < (t174.length : Int)) = false := decide_eq_false c15
                clear c15
                simp only [Option.some.injEq, Prod.mk.injEq] at H
                obtain ⟨rfl, rfl⟩ := H
                go_wp2
                go_ret2
                exact ⟨_, by first | rfl | (simp [errW_none, errW_some] <;> rfl) | (simp [*, errW_none, errW_some] <;> rfl), by (with_reducible repeat (first | apply Kd.R_alloc | apply Kd.R_drewN | apply Kd.R_drew)); exact HO_8.out, by repeat (first | (with_reducible first | exact HB.out | apply below_alloc | apply pw_below_drewN | apply below_drew1) | exact HB.out)⟩
  · replace c5 := Bool.eq_false_iff.mpr c5
    subst c5
    have H1 : (some (([] : List (S53)), 1)) = some (r1, r2) := by rw [if_neg (show ¬ (false = true) by decide)] at H; exact H
    clear H
    have H := H1
    clear H1
    simp only [Option.some.injEq, Prod.mk.injEq] at H
    obtain ⟨rfl, rfl⟩ := H
    go_enter Tryd.func34, Tryd.ntmps34
    go_wp2_with (first | ((with_reducible refine gate_callee (f := 35) rfl ?_); refine goesL_ (some 12) rfl rfl Tryd.func35 (by kernel_rfl) rfl #[.slice A0 l0.length c0] rfl (by (try simp only [List.map_toArray, List.map_cons, List.map_nil]); first | done | rfl | (simp only [List.length_drop, List.length_take]; rfl)) ?_; (with_reducible refine (spec_L5Valid.calls k _ _ l0 false _ ?side1 ?side2 A4.out).mono ?_); (case side1 => repeat (first | exact HR0.out | (with_reducible refine Kd.C_alloc ?_ _) | (with_reducible refine Kd.C_drewN ?_ _) | (with_reducible refine Kd.C_drew ?_))); (case side2 => exact HC0.out); rintro e w23 ⟨rfl, hb⟩; refine ⟨_, rfl, ?_⟩; have n0_ := Aside0.mk (below_step (by repeat (first | (with_reducible first | exact HB.out | apply below_alloc | apply pw_below_drewN | apply below_drew1) | exact HB.out)) hb); clear HB; have HB := n0_; clear n0_; (try clear hb); (try clear hb2); (try clear hk); (try clear hi)))
    go_ret2
    exact ⟨_, by first | rfl | (simp [errW_none, errW_some] <;> rfl) | (simp [*, errW_none, errW_some] <;> rfl), by first | exact Kd.R_nil _ _ _ _ _ | exact Kd.N_nil _ _ _ _ _ | exact Kd.V_nil _ _ _ _ _ | exact Kd.Q_nil _ _ _ _ _ | exact Kd.S_nil _ _ _ _ _, by repeat (first | (with_reducible first | exact HB.out | apply below_alloc | apply pw_below_drewN | apply below_drew1) | exact HB.out)⟩

end Go.Proofs.YtefdjajmnkmbgaaDoor.QFnExactMarksInsert
