/- PieceLoad, walked. Condition: at most 1048576 runes. -/
import Derived.Test.YtnomidpnofhjdaaLp2
namespace Go.Proofs.Ytnomidpnofhjdaa
open Go.RowKit Go.Proofs.YtnomidpnofhjdaaW.PrintWords Go.Proofs.YtnomidpnofhjdaaW.PrintLast Go.Proofs.YtnomidpnofhjdaaW.PrintMore Er
/-- append(nothing, xs...) at a step of a region that draws its order -/
theorem step_app_nil {P : Program} {ops : Array Oper} {o : Oper} {a : Act} {K : Act → World → Prop} {Q : Exit → Act → World → Prop} {E : Prop} (k : IntKind) {W : World} (ok : Nat → Prop) (hgd : o.guard = none) (s x : Operand) (t e : TypeId) (z : Value) (bytes : Nat)
    (ho : o.op = .call { callee := .builtin .append, args := #[s, x], argTypes := #[t, t] })
    (ht : P.underlying t = some (.slice e)) (hinfo : (P.info? e).map (fun i => (i.zero, i.size, i.bytes)) = some (some z, 1, bytes)) (hz : z.cells.size = 1) (hb0 : 0 < bytes)
    (hs : a.eval s = .slice none 0 0) (xs : List Int) (A : Option Addr) (m c : Nat) (hx : a.eval x = .slice A m c) (HR : (Kd.int k).C W A m xs) (hfresh : ∀ k, W.heap.size ≤ k → ok k) (hl : m * bytes ≤ 140737488355328)
    (h : ∀ v1 w1, (Kd.int k).R e w1 W.heap.size ok v1 xs → Below W.heap.size W w1 → K (a.put o.dst v1) w1) :
    if Region.wanted o (yielded ops a.tmps) = true then Oper.wp P o a W K Q else E := by
  have hw : Region.wanted o (yielded ops a.tmps) = true := by simp [Region.wanted, hgd]
  have key := Kd.R_append_rows_step (ops := ops) (Q := Q) (Kc := K) (Kd.int k) (w0 := W) W.heap.size hw s x t e z bytes ho ht hinfo hz Nat.one_pos hb0 (.slice none 0 0) [] xs A m c ok (fun _ => False) hs hx (Kd.R_nil _ _ _ _ _) HR (fun _ _ h => h) (fun _ h => h.elim) hfresh (Below.refl _ _) (Nat.le_refl _) (by simp only [List.length_nil, Nat.zero_add]; exact hl) (fun v1 w1 ho hb _ _ => h v1 w1 ho hb)
  rw [if_pos hw] at key ⊢
  exact key
/-- a text of pieces and a code, handed back -/
def PieceOut (w : World) (r : List Int × List It × Int) (e : Ending) (w' : World) : Prop := ∃ v0_ v1_ : Value, e = .returned (.tuple #[.agg #[v0_, v1_], .int .i64 r.2.2]) ∧ Kd.R (Kd.int .i32) 21 w' w.heap.size (fun _ => True) v0_ r.1 ∧ Kd.R QBase.k50 50 w' w.heap.size (fun _ => True) v1_ r.2.1 ∧ Below w.heap.size w w'
set_option maxHeartbeats 8000000 in
set_option maxRecDepth 100000 in
theorem ptold_any (w : World) (base b : Nat) (T : List Int) (t : Tree) (S : List Nat) (A : Option Addr) (c : Nat) (p : Option Nat) (h1 : w.heap[b]? = some (.cells #[.slice A T.length c, ptrV p] 43 (0, 0))) (h2 : Kd.R (Kd.int .i32) 21 w base (fun _ => True) (.slice A T.length c) T) (h3 : Rep w t p S) (hc : TP.cnt t ≤ 1000000) (hT : T.length ≤ 1000000) :
    Calls Try.prog 15 #[.pointer (some ⟨b, 0, none⟩)] w fun e w' => ∃ v1 v2, e = .returned (.agg #[v1, v2]) ∧ Kd.R (Kd.int .i32) 21 w' w.heap.size (fun _ => True) v1 T ∧ Kd.R QBase.k50 50 w' w.heap.size (fun _ => True) v2 ((TP.flat t 0).map toIt) ∧ Below w.heap.size w w' := by
  obtain ⟨A', c', e, hcc, hC⟩ := Kd.R_reads h2
  cases e
  obtain ⟨w0, e0⟩ : ∃ y, w.alloc (.cells #[.slice none 0 0, .slice none 0 0] 27) = y := ⟨_, rfl⟩
  have hb0 : Below w.heap.size w w0 := by subst e0; exact (Below.refl _ w).alloc (Nat.le_refl _) _
  have HX : Aside0 (w0.heap[w.heap.size]? = some (.cells #[.slice none 0 0, .slice none 0 0] 27 (0, 0))) := ⟨by subst e0; exact blk_new w (.cells #[.slice none 0 0, .slice none 0 0] 27)⟩
  have T0 : TSt w w0 := ⟨hb0⟩
  have w0c : w.cell? ⟨b, 0, none⟩ = some (.slice A T.length c) := (blk_cell h1 0).trans rfl
  have w1c : w.cell? ⟨b, 1, none⟩ = some (ptrV p) := (blk_cell h1 1).trans rfl
  have q0 := T0.keep w0c
  have q1 := T0.keep w1c
  have W0 := Aside0.mk w0c
  have W1 := Aside0.mk w1c
  have HC := Aside0.mk (Kd.C_below hC hb0)
  have HP := Aside0.mk (h3.below hb0)
  have HTL := Aside0.mk hT
  obtain ⟨ys, HYS⟩ : ∃ ys, Aside0 (ys = (TP.flat t 0).map toIt) := ⟨_, ⟨rfl⟩⟩
  rw [← HYS.out]
  have TA : Aside0 (∀ W, Below w0.heap.size w0 W → Calls Try.prog 23 #[ptrV p] W fun e W' => ∃ v, e = .returned (.agg #[v]) ∧ Kd.R QBase.k50 50 W' W.heap.size (fun _ => True) v ys ∧ Below W.heap.size W W') := ⟨fun W hW => by
    rw [HYS.out]
    exact told_any p S t W (HP.out.below hW) hc⟩
  have hXlt := Aside0.mk (blk_lt HX.out)
  have HSZ : Aside0 (w0.heap.size = w.heap.size + 1) := ⟨by subst e0; simp⟩
  have HB0 := Aside0.mk hb0
  clear h1 h2 h3 hcc hC hb0 w0c w1c hT
  go_enter Try.func15, Try.ntmps15
  go_wp2
  clear e0
  go_region_held3 (fun w' => w'.cell? ⟨b, 0, none⟩ = some (.slice A T.length c) ∧ w'.cell? ⟨b, 1, none⟩ = some (ptrV p) ∧ TSt w w')
    (first | (refine (fun (y : TSt w _) => ⟨y.keep W0.out, y.keep W1.out, y⟩) ?_; repeat (first | assumption | (with_reducible apply TSt.drew) | (with_reducible apply TSt.alloc) | (with_reducible refine TSt.set ?_ (Nat.le_refl _)))))
    (first
      | (refine step_app_nil .i32 (fun _ => True) (by rfl) (.const (.slice none 0 0)) (.tmp 6) 22 21 (.int .i32 0) 4 (by rfl) Try.underlying22 info32 (by rfl) (by decide) (by rfl) T A T.length c (by rfl) (Kd.C_below HC.out (Below.refl _ _).drew) (fun _ _ => trivial) (by have := HTL.out; omega) ?_; intro v1 w2 ho hb2a; have hb2 := below_step (Below.refl w0.heap.size w0).drew hb2a; clear hb2a; have ts2 := T0.below hb2; obtain ⟨A2, c2, rfl⟩ := Kd.R_slice ho)
      | (go_at_call 23; refine (TA.out _ hb2).mono ?_; rintro e w3 ⟨v, rfl, hR3, hb3⟩; have ts3 := ts2.below hb3; have hX3 := blk_below (blk_below HX.out hb2) hb3; have x0 : w3.cell? ⟨w.heap.size, 0, none⟩ = some (.slice none 0 0) := (blk_cell hX3 0).trans rfl; have x1 : w3.cell? ⟨w.heap.size, 1, none⟩ = some (.slice none 0 0) := (blk_cell hX3 1).trans rfl; have f0 := blk_frozen hX3 0; have f1 := blk_frozen hX3 1; obtain ⟨A3, c3, rfl⟩ := Kd.R_slice hR3))
  all_goals
    have BX : Aside0 _ := ⟨blk_put (blk_put hX3 0 (.slice A2 T.length c2) rfl) 1 (.slice A3 ys.length c3) rfl⟩
    have hs3 := Nat.le_trans hb2.size hb3.size
    have HI : Aside0 (Kd.R (Kd.int .i32) 21 ((w3.setCell ⟨w.heap.size, 0, none⟩ (.slice A2 T.length c2)).setCell ⟨w.heap.size, 1, none⟩ (.slice A3 ys.length c3)) w.heap.size (fun _ => True) (.slice A2 T.length c2) T) := ⟨R_boxk (R_boxk (Kd.R_below ho hb3) hXlt.out (Nat.le_refl _) 0 _) hXlt.out HB0.out.size 1 _⟩
    have HJ : Aside0 (Kd.R QBase.k50 50 ((w3.setCell ⟨w.heap.size, 0, none⟩ (.slice A2 T.length c2)).setCell ⟨w.heap.size, 1, none⟩ (.slice A3 ys.length c3)) w.heap.size (fun _ => True) (.slice A3 ys.length c3) ys) := ⟨R_boxk (R_boxk hR3 (Nat.lt_of_lt_of_le hXlt.out hb2.size) (Nat.le_refl _) 0 _) (Nat.lt_of_lt_of_le hXlt.out hb2.size) (Nat.le_trans HB0.out.size hb2.size) 1 _⟩
    have HB3 : Aside0 (Below w.heap.size w ((w3.setCell ⟨w.heap.size, 0, none⟩ (.slice A2 T.length c2)).setCell ⟨w.heap.size, 1, none⟩ (.slice A3 ys.length c3))) := ⟨((ts3.set (p := ⟨w.heap.size, 0, none⟩) (Nat.le_refl _)).set (p := ⟨w.heap.size, 1, none⟩) (Nat.le_refl _)).bel⟩
    clear ho hR3 hb2 hb3 ts2 ts3 x0 x1 f0 f1 hX3
    go_wp2
    refine bodyPost_ret (results_single rfl (.cell w.heap.size 27 _ (0, 0) _ rfl BX.out Try.underlying27 rfl (by kernel_rfl) .nil)) rfl ?_
    exact ⟨_, _, rfl, HI.out, HJ.out, HB3.out⟩
/-- what PieceLoad answers -/
def pieceLoadV (T : List Int) : List Int × List It × Int :=
  if T.length ≤ 8192 then (T, (TP.flat (midF 1000000 ((chunkQ T ((T.length + 15) / 16)).map pcQ)) 0).map toIt, 0) else ([], [], 10)
theorem midF_cnt (n : Nat) : ∀ ps : List Pc, ps.length ≤ n → TP.cnt (midF n ps) = ps.length := by
  induction n with
  | zero => intro ps h; have : ps = [] := List.eq_nil_of_length_eq_zero (by omega); subst this; rfl
  | succ n ih =>
    intro ps h
    simp only [midF]
    by_cases h0 : ps = []
    · subst h0; rfl
    · have hl : 0 < ps.length := List.length_pos_iff.2 h0
      have hk : ps.length / 2 < ps.length := by omega
      rw [List.getElem?_eq_getElem hk]
      simp only [TP.cnt]
      rw [ih _ (by rw [List.length_take]; omega), ih _ (by rw [List.length_drop]; omega), List.length_take, List.length_drop]
      omega
set_option maxHeartbeats 8000000 in
set_option maxRecDepth 100000 in
theorem pieceLoad_any (w : World) (T : List Int) (B : Option Addr) (d : Nat) (hT : T.length ≤ 1048576) (hr : Kd.C (Kd.int .i32) w B T.length T) (hd : T.length ≤ d) :
    Calls Try.prog 6 #[.slice B T.length d] w (PieceOut w (pieceLoadV T)) := by
  obtain ⟨w0, e0⟩ : ∃ y, w.alloc (.cells #[.slice none 0 0, .slice none 0 0] 27) = y := ⟨_, rfl⟩
  have HB0 : Aside0 (Below w.heap.size w w0) := ⟨by subst e0; exact (Below.refl _ w).alloc (Nat.le_refl _) _⟩
  have HX0 : Aside0 (w0.heap[w.heap.size]? = some (.cells #[.slice none 0 0, .slice none 0 0] 27 (0, 0))) := ⟨by subst e0; exact blk_new w (.cells #[.slice none 0 0, .slice none 0 0] 27)⟩
  have Z0 : Aside0 (w0.heap.size = w.heap.size + 1) := ⟨by subst e0; simp⟩
  have y0 : w0.cell? ⟨w.heap.size, 0, none⟩ = some (.slice none 0 0) := (blk_cell HX0.out 0).trans rfl
  have y1 : w0.cell? ⟨w.heap.size, 1, none⟩ = some (.slice none 0 0) := (blk_cell HX0.out 1).trans rfl
  have f0 := blk_frozen HX0.out 0
  have f1 := blk_frozen HX0.out 1
  have HR := Aside0.mk (Kd.C_below hr HB0.out)
  have HD := Aside0.mk hd
  clear hr hd
  by_cases ct : T.length ≤ 8192
  · have cd : decide ((8192 : Int) < (T.length : Int)) = false := decide_eq_false (by omega)
    have ce : (8192 < T.length) = False := eq_false (by omega)
    have CT := Aside0.mk ct
    clear ct y0 y1 f0 f1
    have EVA : Aside0 (pieceLoadV T = (T, (TP.flat (midF 1000000 ((chunkQ T ((T.length + 15) / 16)).map pcQ)) 0).map toIt, 0)) := ⟨by unfold pieceLoadV; rw [if_pos CT.out]⟩
    obtain ⟨w1, e1⟩ : ∃ y, w0.alloc (.cells #[.slice none 0 0, .pointer none] 43) = y := ⟨_, rfl⟩
    have hb1 : Below w0.heap.size w0 w1 := by subst e1; exact (Below.refl _ w0).alloc (Nat.le_refl _) _
    have hx1 : w1.heap[w0.heap.size]? = some (.cells #[.slice none 0 0, .pointer none] 43 (0, 0)) := by subst e1; exact blk_new w0 (.cells #[.slice none 0 0, .pointer none] 43)
    have LA := Aside0.mk (load_any w1 w0.heap.size T B d hx1 CT.out (Kd.C_below HR.out hb1) HD.out)
    have HB1 := Aside0.mk (below_step HB0.out hb1)
    have HY1 := Aside0.mk (blk_below HX0.out hb1)
    clear hb1 hx1
    go_enter Try.func6, Try.ntmps6
    go_wp2_with fail
    refine LA.out.mono ?_
    rintro e w2 ⟨rfl, ⟨A2, c2, p, S, hx2, hI2, hr2⟩, hb2⟩
    obtain ⟨t, HT⟩ : ∃ t, Aside0 (t = midF 1000000 ((chunkQ T ((T.length + 15) / 16)).map pcQ)) := ⟨_, ⟨rfl⟩⟩
    rw [← HT.out] at EVA hr2
    have hcnt : TP.cnt t ≤ 1000000 := by
      rw [HT.out, midF_cnt _ _ (by rw [List.length_map, chunkQ_len]; have := CT.out; omega), List.length_map, chunkQ_len]
      have := CT.out
      omega
    have HB2 := Aside0.mk (HB1.out.trans (hb2.mono (by have := Z0.out; omega)))
    have HYW : Aside0 (w2.heap[w.heap.size]? = _) := ⟨(hb2.block _ (by have := Z0.out; omega)).trans HY1.out⟩
    have PT := Aside0.mk (ptold_any w2 _ w0.heap.size T t S A2 c2 p hx2 hI2 hr2 hcnt (by have := CT.out; omega))
    clear hx2 hI2 hr2 hb2 hcnt LA
    go_wp2_with fail
    refine PT.out.mono ?_
    rintro e w4 ⟨v1, v2, rfl, hR4, hJ4, hb4⟩
    obtain ⟨A4, c4, rfl⟩ := Kd.R_slice hR4
    obtain ⟨A5, c5, rfl⟩ := Kd.R_slice hJ4
    obtain ⟨ys, HYS⟩ : ∃ ys, Aside0 (ys = (TP.flat t 0).map toIt) := ⟨_, ⟨rfl⟩⟩
    rw [← HYS.out] at hJ4 ⊢
    have hY4 := blk_below HYW.out hb4
    have BX : Aside0 _ := ⟨blk_put (blk_put hY4 0 (.slice A4 T.length c4) rfl) 1 (.slice A5 ys.length c5) rfl⟩
    have y0 : w4.cell? ⟨w.heap.size, 0, none⟩ = some (.slice none 0 0) := (blk_cell hY4 0).trans rfl
    have y1 : w4.cell? ⟨w.heap.size, 1, none⟩ = some (.slice none 0 0) := (blk_cell hY4 1).trans rfl
    have f0 := blk_frozen hY4 0
    have f1 := blk_frozen hY4 1
    have hlt : w.heap.size < w2.heap.size := blk_lt HYW.out
    have hle : w.heap.size ≤ w2.heap.size := by omega
    have HI := Aside0.mk (R_boxk (R_boxk hR4 hlt (Nat.le_refl _) 0 (.slice A4 T.length c4)) hlt hle 1 (.slice A5 ys.length c5))
    have HJ := Aside0.mk (R_boxk (R_boxk hJ4 hlt (Nat.le_refl _) 0 (.slice A4 T.length c4)) hlt hle 1 (.slice A5 ys.length c5))
    have HBF := Aside0.mk (((below_step HB2.out hb4).setCell (p := ⟨w.heap.size, 0, none⟩) (Nat.le_refl _) (.slice A4 T.length c4)).setCell (p := ⟨w.heap.size, 1, none⟩) (Nat.le_refl _) (.slice A5 ys.length c5))
    clear hR4 hJ4 hY4 hb4 hlt hle
    go_wp2
    refine bodyPost_ret (results_list (rs := [.cell 2 27, .tmp 3]) rfl (by simp) (.cell w.heap.size 27 _ (0, 0) _ rfl BX.out Try.underlying27 rfl (by kernel_rfl) (.tmp .nil))) rfl ?_
    rw [EVA.out, ← HYS.out]
    exact ⟨_, _, rfl, HI.out, HJ.out, HBF.out⟩
  · have cd : decide ((8192 : Int) < (T.length : Int)) = true := decide_eq_true (by omega)
    have ce : (8192 < T.length) = True := eq_true (by omega)
    have EVA : Aside0 (pieceLoadV T = ([], [], 10)) := ⟨by unfold pieceLoadV; rw [if_neg ct]⟩
    have BX : Aside0 _ := ⟨blk_put (blk_put HX0.out 0 (.slice none 0 0) rfl) 1 (.slice none 0 0) rfl⟩
    have HBF := Aside0.mk ((HB0.out.setCell (p := ⟨w.heap.size, 0, none⟩) (Nat.le_refl _) (.slice none 0 0)).setCell (p := ⟨w.heap.size, 1, none⟩) (Nat.le_refl _) (.slice none 0 0))
    clear ct
    go_enter Try.func6, Try.ntmps6
    go_wp2
    refine bodyPost_ret (results_list (rs := [.cell 2 27, .tmp 3]) rfl (by simp) (.cell w.heap.size 27 _ (0, 0) _ rfl BX.out Try.underlying27 rfl (by kernel_rfl) (.tmp .nil))) rfl ?_
    rw [EVA.out]
    exact ⟨_, _, rfl, Kd.R_nil _ _ _ _ _, Kd.R_nil _ _ _ _ _, HBF.out⟩
end Go.Proofs.Ytnomidpnofhjdaa
