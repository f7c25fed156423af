/- impl.StoreRead and impl.StoreAppend, walked. Conditions: errors.errorType reads as laid (where a fault is told); lists not longer than a machine holds. -/
import Derived.Test.YtefdjajmnkmbgaaDoorHk
namespace Go.Proofs.YtefdjajmnkmbgaaDoor
open Go.RowKit Go.Proofs.YtefdjajmnkmbgaaDoorW.PrintWords Go.Proofs.YtefdjajmnkmbgaaDoorW.PrintLast Er
def storeBad (n : Nat) (off len : Int) : Prop := off < 0 ∨ len < 0 ∨ (n : Int) < off ∨ (n : Int) - off < len
instance (n : Nat) (off len : Int) : Decidable (storeBad n off len) := by unfold storeBad; infer_instance
def SRPost (w : World) (r1 : List Int) (r2 r3 : Int) (e : Ending) (w' : World) : Prop :=
  ∃ v0_ : Value, e = .returned (.tuple #[v0_, .int .i64 r2, .int .i64 r3]) ∧ Kd.R (Kd.int .i32) 21 w' w.heap.size (fun _ => True) v0_ r1 ∧ Below w.heap.size w w'
set_option maxHeartbeats 2000000 in
set_option maxRecDepth 100000 in
theorem storeRead_bad (A0 : Option Addr) (c0 : Nat) (l0 : List Int) (off len : Int) (w : World) (hl : (l0.length : Int) ≤ 9223372036854775807) (hg : HG w)
    (h : storeBad l0.length off len) :
    Calls Tryd.prog 23 #[.slice A0 l0.length c0, .agg #[.int .i64 off, .int .i64 len]] w (SRPost w [] 0 2) := by
  have hu28 := Tryd.underlying42
  unfold storeBad at h
  by_cases c1 : off < 0
  · have c1b : decide (off < 0) = true := decide_eq_true c1
    clear h hl
    go_enter Tryd.func23, Tryd.ntmps23
    go_wp2_with fail
    refine (in_fault _ 2 _).mono ?_
    rintro e w1 ⟨v, rfl, hE, hb1⟩
    have HB1 := below_step ((Below.refl _ w).alloc (Nat.le_refl _) (.cells #[.int .i64 off, .int .i64 len] 42)) hb1
    go_wp2_with fail
    refine (codeOf_any v 2 _ (hg.below HB1) hE).mono ?_
    rintro e w2 ⟨rfl, hb2⟩
    go_wp2_with fail
    go_ret3
    exact ⟨_, rfl, Kd.R_nil _ _ _ _ _, below_step HB1 hb2⟩
  have c1b : decide (off < 0) = false := decide_eq_false c1
  by_cases c2 : len < 0
  · have c2b : decide (len < 0) = true := decide_eq_true c2
    clear h hl c1
    go_enter Tryd.func23, Tryd.ntmps23
    go_wp2_with fail
    refine (in_fault _ 2 _).mono ?_
    rintro e w1 ⟨v, rfl, hE, hb1⟩
    have HB1 := below_step ((Below.refl _ w).alloc (Nat.le_refl _) (.cells #[.int .i64 off, .int .i64 len] 42)) hb1
    go_wp2_with fail
    refine (codeOf_any v 2 _ (hg.below HB1) hE).mono ?_
    rintro e w2 ⟨rfl, hb2⟩
    go_wp2_with fail
    go_ret3
    exact ⟨_, rfl, Kd.R_nil _ _ _ _ _, below_step HB1 hb2⟩
  have c2b : decide (len < 0) = false := decide_eq_false c2
  by_cases c3 : (l0.length : Int) < off
  · have c3b : decide ((l0.length : Int) < off) = true := decide_eq_true c3
    clear h hl c1 c2
    go_enter Tryd.func23, Tryd.ntmps23
    go_wp2_with fail
    refine (in_fault _ 2 _).mono ?_
    rintro e w1 ⟨v, rfl, hE, hb1⟩
    have HB1 := below_step ((Below.refl _ w).alloc (Nat.le_refl _) (.cells #[.int .i64 off, .int .i64 len] 42)) hb1
    go_wp2_with fail
    refine (codeOf_any v 2 _ (hg.below HB1) hE).mono ?_
    rintro e w2 ⟨rfl, hb2⟩
    go_wp2_with fail
    go_ret3
    exact ⟨_, rfl, Kd.R_nil _ _ _ _ _, below_step HB1 hb2⟩
  have c3b : decide ((l0.length : Int) < off) = false := decide_eq_false c3
  · have c4b : decide (wrap64 ((l0.length : Int) - off) < len) = true := decide_eq_true (by rw [w64 (by omega)]; omega)
    clear h hl c1 c2 c3
    go_enter Tryd.func23, Tryd.ntmps23
    go_wp2_with fail
    refine (in_fault _ 2 _).mono ?_
    rintro e w1 ⟨v, rfl, hE, hb1⟩
    have HB1 := below_step ((Below.refl _ w).alloc (Nat.le_refl _) (.cells #[.int .i64 off, .int .i64 len] 42)) hb1
    go_wp2_with fail
    refine (codeOf_any v 2 _ (hg.below HB1) hE).mono ?_
    rintro e w2 ⟨rfl, hb2⟩
    go_wp2_with fail
    go_ret3
    exact ⟨_, rfl, Kd.R_nil _ _ _ _ _, below_step HB1 hb2⟩
set_option maxHeartbeats 2000000 in
set_option maxRecDepth 100000 in
theorem storeRead_good (A0 : Option Addr) (c0 : Nat) (l0 : List Int) (off len : Int) (w : World) (hr0 : Kd.C (Kd.int .i32) w A0 l0.length l0) (hc0 : l0.length ≤ c0) (k : Nat) (n : Int)
    (h : ¬ storeBad l0.length off len) (hlen : l0.length < 35184372088832) (hk : QBase.impl_breaksIn.f k ((l0.take (wrap64 (off + len)).toNat).drop off.toNat) = some n) :
    Calls Tryd.prog 23 #[.slice A0 l0.length c0, .agg #[.int .i64 off, .int .i64 len]] w (SRPost w ((l0.take (wrap64 (off + len)).toNat).drop off.toNat) n 0) := by
  have hu28 := Tryd.underlying42
  unfold storeBad at h
  have c1b : decide (off < 0) = false := decide_eq_false (by omega)
  have c2b : decide (len < 0) = false := decide_eq_false (by omega)
  have c3b : decide ((l0.length : Int) < off) = false := decide_eq_false (by omega)
  have c4b : decide (wrap64 ((l0.length : Int) - off) < len) = false := decide_eq_false (by rw [w64 (by omega)]; omega)
  have e1 : wrap64 (off + len) = off + len := w64 (by omega)
  have c5 : decide (0 ≤ off) = true := decide_eq_true (by omega)
  have c6 : decide (off ≤ wrap64 (off + len)) = true := decide_eq_true (by omega)
  have c7 : decide (wrap64 (off + len) ≤ (l0.length : Int)) = true := decide_eq_true (by omega)
  have d5 := eq_true (of_decide_eq_true c5)
  have d6 := eq_true (of_decide_eq_true c6)
  have d7 := eq_true (of_decide_eq_true c7)
  obtain ⟨i0, hi0, _, hsz, _⟩ := info_parts QBase.info21
  obtain ⟨A2, hcut, hA2, hC2⟩ := print_mid_of (P := Tryd.prog) (Value.int .i32) 0 35 21 .i64 .i64 Tryd.underlying35 hi0 hsz A0 c0 l0 off (wrap64 (off + len)) (by omega) (by omega) (by omega) hc0
  have HR := Lib.hid (Kd.C_of_reads (h1 := fun _ => rfl) (hA2 _ (Kd.reads_of_C hr0)))
  have HL : ((l0.take (wrap64 (off + len)).toNat).drop off.toNat).length = (wrap64 (off + len)).toNat - off.toNat := by rw [List.length_drop, List.length_take]; omega
  have HLM : ((l0.take (wrap64 (off + len)).toNat).drop off.toNat).length < 35184372088832 := by rw [HL]; omega
  have HC := Lib.hid hC2
  have HK := Lib.hid hk
  have HLL := Lib.hid HL
  have HLM2 := Lib.hid HLM
  clear hA2 hC2 hi0 hsz e1 h hr0 hk HL HLM
  go_enter Tryd.func23, Tryd.ntmps23
  go_wp2_with ((with_reducible refine gate_builtin (b := .append) (xs := #[.const (.slice none 0 0), .tmp 44]) rfl ?_); at_builtin; refine app_nil .i32 (fun _ => True) rfl (.const (.slice none 0 0)) (.tmp 44) 35 21 (.int .i32 0) 4 rfl Tryd.underlying35 QBase.info21 rfl (by decide) rfl ((l0.take (wrap64 (off + len)).toNat).drop off.toNat) _ _ _ rfl HLL.out.symm (Kd.C_alloc HR.out _) (fun _ _ => trivial) (by have := HLM2.out; omega) ?_; intro v1 w1 ho hb)
  obtain ⟨Ao, co, rfl⟩ := Kd.R_slice ho
  have hq := Kd.R_reads' ho
  refine (QBase.impl_breaksIn.calls k _ _ _ n w1 hq.2.2 hq.2.1 HK.out).mono ?_
  rintro e w' ⟨rfl, ⟨nd, rfl⟩⟩
  go_wp2_with fail
  go_ret3
  refine ⟨.slice Ao _ co, rfl, by rw [← HLL.out]; exact Kd.R_drewN (Kd.R_lower (base' := w.heap.size) ho (by simp)) _, pw_below_drewN (below_step ((Below.refl _ w).alloc (Nat.le_refl _) _) hb) _⟩
def SAPost (w : World) (r1 : List Int) (r2 r3 r4 : Int) (e : Ending) (w' : World) : Prop :=
  ∃ v0_ : Value, e = .returned (.tuple #[v0_, .agg #[.int .i64 r2, .int .i64 r3], .int .i64 r4]) ∧ Kd.R (Kd.int .i32) 21 w' w.heap.size (fun _ => True) v0_ r1 ∧ Below w.heap.size w w'
set_option maxHeartbeats 2000000 in
set_option maxRecDepth 100000 in
theorem storeAppend_bad (A0 A1 : Option Addr) (c0 c1 : Nat) (l0 l1 : List Int) (w : World) (hr1 : Kd.C (Kd.int .u8) w A1 l1.length l1) (hc1 : l1.length ≤ c1) (hg : HG w) (k : Nat) (rs : List Int)
    (hk : QBase.impl_DecodeText.f k l1 = some rs) (h : (220000 : Int) < wrap64 ((l0.length : Int) + (rs.length : Int))) :
    Calls Tryd.prog 22 #[.slice A0 l0.length c0, .slice A1 l1.length c1] w (SAPost w [] 0 0 10) := by
  have hb : decide ((220000 : Int) < wrap64 ((l0.length : Int) + (rs.length : Int))) = true := decide_eq_true h
  have HK := Lib.hid hk
  obtain ⟨w0, e0⟩ : ∃ y, w.alloc (.cells #[.int .i64 0, .int .i64 0] 42) = y := ⟨_, rfl⟩
  have HB0 : Below w.heap.size w w0 := by subst e0; exact (Below.refl _ w).alloc (Nat.le_refl _) _
  have HV := Lib.hid (Kd.V_mk (e := 5) (base := w0.heap.size) hc1 (Kd.C_F (Kd.heap_int .u8) (Kd.C_below hr1 HB0)))
  clear hk hr1 h
  go_enter Tryd.func22, Tryd.ntmps22
  go_wp2_with fail
  have hcz : w0.heap[w.heap.size]? = some (.cells #[.int .i64 0, .int .i64 0] 42 (0, 0)) := by subst e0; exact blk_new w (.cells #[.int .i64 0, .int .i64 0] 42)
  clear e0
  refine (QBase.impl_DecodeText.calls k _ _ _ _ rs w0 HV.out HK.out).mono ?_
  rintro e w1 ⟨v, rfl, ho, hb1'⟩
  have hcz1 := blk_below hcz hb1'
  have hb1 := below_step HB0 hb1'
  obtain ⟨Ao, co, rfl⟩ := Kd.R_slice ho
  go_wp2_with fail
  refine (in_fault _ 10 _).mono ?_
  rintro e w2 ⟨v, rfl, hE, hb2⟩
  have HB2 := below_step hb1 hb2
  go_wp2_with fail
  refine (codeOf_any v 10 _ (hg.below HB2) hE).mono ?_
  rintro e w3 ⟨rfl, hb3⟩
  have hcz3' := blk_below (blk_below hcz1 hb2) hb3
  have q0 := blk_cell hcz3' 0
  have q1 := blk_cell hcz3' 1
  have f0 := blk_frozen hcz3' 0
  have f1 := blk_frozen hcz3' 1
  simp at q0 q1
  go_wp2_with fail
  have hcz3 := blk_below (blk_below hcz1 hb2) hb3
  refine bodyPost_ret (results_list (rs := [.tmp 4, .cell 5 42, .tmp 6]) rfl (by simp) (.tmp (.cell w.heap.size 42 #[.int .i64 0, .int .i64 0] (0, 0) _ rfl (by refine blk_put (cs := #[.int .i64 0, .int .i64 0]) ?_ 1 _ rfl; refine blk_put (cs := #[.int .i64 0, .int .i64 0]) ?_ 0 _ rfl; exact hcz3) Tryd.underlying42 rfl (by kernel_rfl) (.tmp .nil)))) rfl ?_
  exact ⟨_, rfl, Kd.R_nil _ _ _ _ _, ((below_step HB2 hb3).setCell (p := ⟨w.heap.size, 0, none⟩) (Nat.le_refl _) _).setCell (p := ⟨w.heap.size, 1, none⟩) (Nat.le_refl _) _⟩
set_option maxHeartbeats 2000000 in
set_option maxRecDepth 100000 in
theorem storeAppend_good (A0 A1 : Option Addr) (c0 c1 : Nat) (l0 l1 : List Int) (w : World) (hr0 : Kd.C (Kd.int .i32) w A0 l0.length l0) (hr1 : Kd.C (Kd.int .u8) w A1 l1.length l1) (hc1 : l1.length ≤ c1) (k : Nat) (rs : List Int)
    (hk : QBase.impl_DecodeText.f k l1 = some rs) (h : ¬ (220000 : Int) < wrap64 ((l0.length : Int) + (rs.length : Int))) (hlen : l0.length + rs.length < 35184372088832) :
    Calls Tryd.prog 22 #[.slice A0 l0.length c0, .slice A1 l1.length c1] w (SAPost w (l0 ++ rs) l0.length rs.length 0) := by
  have hb : decide ((220000 : Int) < wrap64 ((l0.length : Int) + (rs.length : Int))) = false := decide_eq_false h
  have HK := Lib.hid hk
  have HR := Lib.hid hr0
  obtain ⟨w0, e0⟩ : ∃ y, w.alloc (.cells #[.int .i64 0, .int .i64 0] 42) = y := ⟨_, rfl⟩
  have HB0 : Below w.heap.size w w0 := by subst e0; exact (Below.refl _ w).alloc (Nat.le_refl _) _
  have HV := Lib.hid (Kd.V_mk (e := 5) (base := w0.heap.size) hc1 (Kd.C_F (Kd.heap_int .u8) (Kd.C_below hr1 HB0)))
  clear hk hr1 hr0 h
  go_enter Tryd.func22, Tryd.ntmps22
  go_wp2_with fail
  have hcz : w0.heap[w.heap.size]? = some (.cells #[.int .i64 0, .int .i64 0] 42 (0, 0)) := by subst e0; exact blk_new w (.cells #[.int .i64 0, .int .i64 0] 42)
  clear e0
  refine (QBase.impl_DecodeText.calls k _ _ _ _ rs w0 HV.out HK.out).mono ?_
  rintro e w1 ⟨v, rfl, ho, hb1'⟩
  have hcz1 := blk_below hcz hb1'
  have hb1 := below_step HB0 hb1'
  obtain ⟨Ao, co, rfl⟩ := Kd.R_slice ho
  have hrs := Kd.R_reads' ho
  have hlt1 := (Array.getElem?_eq_some_iff.1 hcz1).1
  have HLEN := Lib.hid hlen
  clear hlen
  go_wp2_with (first | ((with_reducible refine gate_builtin (b := .append) (xs := #[.const (.slice none 0 0), .tmp 21]) rfl ?_); at_builtin; refine app_nil .i32 (fun k => k ≠ w.heap.size) rfl (.const (.slice none 0 0)) (.tmp 21) 35 21 (.int .i32 0) 4 rfl Tryd.underlying35 QBase.info21 rfl (by decide) rfl l0 _ _ _ rfl rfl (Kd.C_below HR.out hb1) (fun _ h => by omega) (by have := HLEN.out; omega) ?_; intro v1 w2 ho1 hb2; have hcz2 := blk_below hcz1 hb2; have HB2 := below_step hb1 hb2; have ho1' := Kd.R_lower (base' := w.heap.size) ho1 hb1.size; have hrs2 := Kd.C_below hrs.2.2 hb2; have hn1 : some w.heap.size ≠ v1.ownBlock := (fun e => by have := Kd.R_base ho1 _ e.symm; omega); have hsz2 := hb2.size; clear hb2 ho1) | ((with_reducible refine gate_builtin (b := .append) (xs := #[.tmp 22, .tmp 23]) rfl ?_); at_builtin; refine app_own .i32 w (fun k => k ≠ w.heap.size) rfl (.tmp 22) (.tmp 23) 35 21 (.int .i32 0) 4 rfl Tryd.underlying35 QBase.info21 rfl (by decide) v1 rfl l0 rs _ _ _ rfl rfl ho1' hrs2 (fun _ h => by omega) HB2 (by have := HLEN.out; omega) ?_; intro v2 w3 ho3 hb3 hg3 hat; have hcz3 := blk_grown hcz2 hg3 hn1; clear hcz2 hcz1 hcz hg3 hat hn1 HB2; have q0 := blk_cell hcz3 0; have q1 := blk_cell hcz3 1; have f0 := blk_frozen hcz3 0; have f1 := blk_frozen hcz3 1; simp at q0 q1))
  refine bodyPost_ret (results_list (rs := [.tmp 4, .cell 5 42, .tmp 6]) rfl (by simp) (.tmp (.cell w.heap.size 42 #[.int .i64 (l0.length : Int), .int .i64 (rs.length : Int)] (0, 0) _ rfl (by refine blk_put (cs := #[.int .i64 (l0.length : Int), .int .i64 0]) ?_ 1 _ rfl; refine blk_put (cs := #[.int .i64 0, .int .i64 0]) ?_ 0 _ rfl; exact hcz3) Tryd.underlying42 rfl (by kernel_rfl) (.tmp .nil)))) rfl ?_
  exact ⟨_, rfl, Kd.R_mono (Kd.R_far (p := ⟨w.heap.size, 1, none⟩) (Kd.R_far (p := ⟨w.heap.size, 0, none⟩) ho3 (fun _ h => h) _) (fun _ h => h) _) (fun _ _ => trivial), (hb3.setCell (p := ⟨w.heap.size, 0, none⟩) (Nat.le_refl _) _).setCell (p := ⟨w.heap.size, 1, none⟩) (Nat.le_refl _) _⟩
end Go.Proofs.YtefdjajmnkmbgaaDoor
