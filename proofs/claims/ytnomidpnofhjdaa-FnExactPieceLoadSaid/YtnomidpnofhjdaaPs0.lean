/- A piece of a store with the line breaks that its text has (piece), walked. Condition: it lies in the store. -/
import Derived.Test.YtnomidpnofhjdaaTr11
import Derived.Test.YtnomidpnofhjdaaWEqStruct
namespace Go.Proofs.Ytnomidpnofhjdaa
open Go.RowKit Go.Proofs.YtnomidpnofhjdaaW.PrintWords Go.Proofs.YtnomidpnofhjdaaW.PrintLast Go.Proofs.YtnomidpnofhjdaaW.PrintMore Er
/-- how many line breaks a text has -/
def nl : List Int → Int | [] => 0 | x :: L => (if x = 10 then 1 else 0) + nl L
theorem nl_app (L M : List Int) : nl (L ++ M) = nl L + nl M := by
  induction L with
  | nil => simp [nl]
  | cons x L ih => simp only [List.cons_append, nl, ih]; omega
theorem nl_le (L : List Int) : 0 ≤ nl L ∧ nl L ≤ (L.length : Int) := by
  induction L with
  | nil => simp [nl]
  | cons x L ih => simp only [nl, List.length_cons]; split <;> omega
theorem nl_loop (L : List Int) (hn : L.length ≤ 2000000) (d : Nat) : ∀ i : Nat, i + d = L.length → QBase.impl_breaksIn.l0 (d + 1) (nl (L.take i)) L (L.length : Int) (i : Int) = some (nl L) := by
  induction d with
  | zero =>
    intro i hi
    obtain rfl : i = L.length := by omega
    simp only [QBase.impl_breaksIn.l0]
    rw [if_neg (by omega), List.take_length]
  | succ d ih =>
    intro i hi
    have hlt : i < L.length := by omega
    have hb := nl_le (L.take i)
    have hl : (L.take i).length ≤ 2000000 := by rw [List.length_take]; omega
    have e : rd L (i : Int) = L[i] := by unfold rd; simp [List.getD, hlt]
    have e2 : nl (L.take (i + 1)) = nl (L.take i) + (if L[i] = 10 then 1 else 0) := by
      rw [List.take_succ_eq_append_getElem hlt, nl_app]; simp [nl]
    have w1 : wrap64 ((i : Int) + 1) = ((i + 1 : Nat) : Int) := by unfold wrap64; omega
    have w2 : wrap64 (nl (L.take i) + 1) = nl (L.take i) + 1 := by unfold wrap64; omega
    have := ih (i + 1) (by omega)
    rw [QBase.impl_breaksIn.l0, if_pos (by omega), if_pos (by omega), if_pos (by omega), e, w1, w2]
    by_cases c : L[i] = 10
    · rw [if_pos c] at e2 ⊢
      rw [← e2]; exact this
    · rw [if_neg c] at e2 ⊢
      rw [e2, Int.add_zero] at this; exact this
theorem nlIn_any (w : World) (A : Option Addr) (c : Nat) (L : List Int) (hr : Kd.C (Kd.int .i32) w A L.length L) (hc : L.length ≤ c) (hn : L.length ≤ 2000000) :
    Calls Try.prog 27 #[.slice A L.length c] w fun e w' => e = .returned (.int .i64 (nl L)) ∧ Drawn0 w w' :=
  QBase.impl_breaksIn.calls (L.length + 1) A c L (nl L) w hr hc (nl_loop L hn L.length 0 (Nat.zero_add _))
theorem info32 : (Try.prog.info? 21).map (fun i => (i.zero, i.size, i.bytes)) = some (some (.int .i32 0), 1, 4) := by kernel_rfl
set_option maxHeartbeats 4000000 in
set_option maxRecDepth 100000 in
theorem piece_any (w : World) (b : Nat) (A : Option Addr) (c : Nat) (T : List Int) (pr : Value) (off n : Nat) (hb : w.heap[b]? = some (.cells #[.slice A T.length c, pr] 43 (0, 0))) (hr : Kd.C (Kd.int .i32) w A T.length T) (hc : T.length ≤ c) (hl : off + n ≤ T.length) (hm : T.length ≤ 1000000) :
    Calls Try.prog 21 #[.pointer (some ⟨b, 0, none⟩), .int .i64 off, .int .i64 n] w fun e w' => e = .returned (.agg #[.int .i64 off, .int .i64 n, .int .i64 (nl ((T.take (off + n)).drop off))]) ∧ Below w.heap.size w w' := by
  obtain ⟨w0, e0⟩ : ∃ y, w.alloc (.cells #[.int .i64 0, .int .i64 0, .int .i64 0] 38) = y := ⟨_, rfl⟩
  have HB0 : Aside0 (Below w.heap.size w w0) := ⟨by subst e0; exact (Below.refl _ w).alloc (Nat.le_refl _) _⟩
  have hx : w0.heap[w.heap.size]? = some (.cells #[.int .i64 0, .int .i64 0, .int .i64 0] 38 (0, 0)) := by subst e0; exact blk_new w (.cells #[.int .i64 0, .int .i64 0, .int .i64 0] 38)
  have q0 : w0.cell? ⟨b, 0, none⟩ = some (.slice A T.length c) := (blk_cell (blk_below hb HB0.out) 0).trans rfl
  have hcut := cut_mid (P := Try.prog) 22 21 .i64 .i64 Try.underlying22 (info_parts info32).choose_spec.1 1 (info_parts info32).choose_spec.2.2.1 A T.length c (off : Int) (wrap64 ((off : Int) + (n : Int))) (by omega) (by unfold wrap64; omega) (by unfold wrap64; omega) hc
  obtain ⟨L, hL⟩ : ∃ L : List Int, L = (T.take (off + n)).drop off := ⟨_, rfl⟩
  have hlen : L.length = (wrap64 ((off : Int) + (n : Int))).toNat - ((off : Int)).toNat := by
    have e : wrap64 ((off : Int) + (n : Int)) = ((off + n : Nat) : Int) := by unfold wrap64; omega
    rw [hL, List.length_drop, List.length_take, e]; omega
  obtain ⟨A1, hA1⟩ : ∃ A1, A1 = (if c = ((off : Int)).toNat then A else A.map (·.add (((off : Int)).toNat * 1))) := ⟨_, rfl⟩
  obtain ⟨c1, hc1⟩ : ∃ c1, c1 = c - ((off : Int)).toNat := ⟨_, rfl⟩
  rw [← hlen, ← hA1, ← hc1] at hcut
  have hr1 : Kd.C (Kd.int .i32) w0 A1 L.length L := by
    have h := Kd.C_mid (lo := off) (hi := off + n) (c := c) (Kd.C_below hr HB0.out) (by omega) hl hc
    rw [hL, hA1, Int.toNat_natCast]; exact h
  have hcc : L.length ≤ c1 := by rw [hlen, hc1]; unfold wrap64; omega
  have hLm : L.length ≤ 2000000 := by rw [hL, List.length_drop, List.length_take]; omega
  have HR1 := Aside0.mk hr1
  have HCC := Aside0.mk hcc
  have HLM := Aside0.mk hLm
  have HX := Aside0.mk hx
  have HL := Aside0.mk hL
  have hsz : Aside0 (w.heap.size < w0.heap.size) := ⟨blk_lt hx⟩
  clear hr1 hcc hLm hlen hL hA1 hc1 hl hr hx hc hm
  go_enter Try.func21, Try.ntmps21
  go_wp2_with fail
  refine (nlIn_any w0 A1 c1 L HR1.out HCC.out HLM.out).mono ?_
  rintro e w1 ⟨rfl, ⟨nd, rfl⟩⟩
  have HX1 : Aside0 ((w0.drewN nd).heap[w.heap.size]? = some (.cells #[.int .i64 0, .int .i64 0, .int .i64 0] 38 (0, 0))) := ⟨blk_drewN HX.out nd⟩
  have HB1 : Aside0 (Below w.heap.size w (w0.drewN nd)) := ⟨pw_below_drewN HB0.out nd⟩
  generalize w0.drewN nd = w1 at HX1 HB1 ⊢
  have a0 : w1.cell? ⟨w.heap.size, 0, none⟩ = some (.int .i64 0) := (blk_cell HX1.out 0).trans rfl
  have a1 : w1.cell? ⟨w.heap.size, 1, none⟩ = some (.int .i64 0) := (blk_cell HX1.out 1).trans rfl
  have a2 : w1.cell? ⟨w.heap.size, 2, none⟩ = some (.int .i64 0) := (blk_cell HX1.out 2).trans rfl
  have f0 := blk_frozen HX1.out 0
  have f1 := blk_frozen HX1.out 1
  have f2 := blk_frozen HX1.out 2
  go_wp2
  have BX := Aside0.mk (blk_put (blk_put (blk_put HX1.out 0 (.int .i64 off) rfl) 1 (.int .i64 n) rfl) 2 (.int .i64 (nl L)) rfl)
  refine bodyPost_ret (v := .agg #[.int .i64 off, .int .i64 n, .int .i64 (nl L)]) (results_single rfl (.cell w.heap.size 38 _ (0, 0) _ rfl BX.out Try.underlying38 rfl (by kernel_rfl) .nil)) rfl ?_
  refine ⟨by rw [HL.out], ?_⟩
  exact ((HB1.out.setCell (p := ⟨w.heap.size, 0, none⟩) (Nat.le_refl _) _).setCell (p := ⟨w.heap.size, 1, none⟩) (Nat.le_refl _) _).setCell (p := ⟨w.heap.size, 2, none⟩) (Nat.le_refl _) _
theorem pcEq (d : Nat) (w : World) (x0 y0 : Int) (x1 y1 : Int) (x2 y2 : Int) :
    (Op.equalIn (d + 2) 38 (.agg #[.int .i64 x0, .int .i64 x1, .int .i64 x2]) (.agg #[.int .i64 y0, .int .i64 y1, .int .i64 y2])).run Try.prog w = .ok (x0 == y0 && (x1 == y1 && (x2 == y2))) w := by
  refine eqA_of Try.underlying38 (by kernel_rfl) ?_; refine eqf_cons (by rfl) (by go_simp; rfl) (by go_simp; rfl) (by go_simp) ?_; refine eqf_cons (by rfl) (by go_simp; rfl) (by go_simp; rfl) (by go_simp) ?_; exact eqf_last (by rfl) (by go_simp; rfl) (by go_simp; rfl) (by go_simp)
/-- what a text of pieces stands as in memory: its store and its tree -/
structure PB (w : World) (b : Nat) (T : List Int) (t : Tree) (S : List Nat) : Prop where
  row : ∃ A c p, w.heap[b]? = some (.cells #[.slice A T.length c, ptrV p] 43 (0, 0)) ∧ Kd.C (Kd.int .i32) w A T.length T ∧ T.length ≤ c ∧ Rep w t p S
theorem PB.below {w w' : World} {b : Nat} {T : List Int} {t : Tree} {S : List Nat} (h : PB w b T t S) (hb : Below w.heap.size w w') : PB w' b T t S := by
  obtain ⟨A, c, p, h1, h2, h3, h4⟩ := h
  exact ⟨A, c, p, blk_below h1 hb, Kd.C_below h2 hb, h3, h4.below hb⟩
end Go.Proofs.Ytnomidpnofhjdaa
