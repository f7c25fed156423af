/- Lines: openLines, walked. Conditions: at most 1048576 rows, starts, and cells in a row. -/
import Derived.Test.YtamcacahjlaogaaDoorLb
namespace Go.Proofs.YtamcacahjlaogaaDoor.Ln
open Go.RowKit Go.Proofs.YtamcacahjlaogaaDoorW.PrintWords Go.Proofs.YtamcacahjlaogaaDoorW.PrintLast Go.Proofs.YtamcacahjlaogaaDoorW.PrintMore Er
open F (UpdS Fresh R_upd)
set_option linter.unusedSimpArgs false
set_option linter.unusedVariables false
theorem bad_post {w w2 : World} {gs : List SG} {st : List Int} {v : Value} (hn : ¬ okLn gs st) (hb : Below w.heap.size w w2) (hE : ErrIs w2 v 1) : OpenedL w gs st (.returned (.tuple #[.pointer (some ⟨w2.heap.size, 0, none⟩), v])) (w2.alloc (.cells #[.slice none 0 0, .int .i64 0, .int .i64 0, .slice none 0 0, .int .i64 0] 89)) :=
 ⟨hb.alloc hb.size _, .inr ⟨hn, w2.heap.size, v, rfl, blk_new w2 (.cells #[.slice none 0 0, .int .i64 0, .int .i64 0, .slice none 0 0, .int .i64 0] 89), hE.below ((Below.refl _ w2).alloc (Nat.le_refl _) _)⟩⟩
theorem gf_low {w : World} {base base' b : Nat} {T : List Int} {l g : Nat} {S : List Nat} (h : F.GapF w base b T l g S) (hb : base' ≤ base) : F.GapF w base' b T l g S := by
 obtain ⟨h1, h2, h3, v, h4, h5, h6⟩ := h
 exact ⟨Nat.le_trans hb h1, h2, h3, v, h4, Kd.R_lower h5 hb, h6⟩
theorem ErrIs.put {w : World} {v : Value} {c : Int} {L : Nat} {tot : Int} (h : ErrIs w v c) (hb : w.heap[L]? = some (.cells #[.slice none 0 0, .int .i64 0, .int .i64 0, .slice none 0 0, .int .i64 tot] 89 (0, 0))) (u : Value) : ErrIs (w.setCell ⟨L, 4, none⟩ u) v c := by
 rcases h with h | ⟨pb, h1, h2⟩
 ·exact .inl h
 ·refine .inr ⟨pb, h1, (cell_far (p := ⟨L, 4, none⟩) (a := ⟨pb, 1, none⟩) (fun e => ?_) u).trans h2⟩
  have e' : pb = L := e
  subst e'
  have h3 := blk_cell hb 1
  rw [h2] at h3
  simp at h3
theorem mem_flatten_of {Ss : List (List Nat)} {j k : Nat} (hj : j < Ss.length) (h : k ∈ Ss.getD j []) : k ∈ Ss.flatten := by
 rw [List.getD_eq_getElem?_getD, List.getElem?_eq_getElem hj, Option.getD_some] at h
 exact List.mem_flatten.2 ⟨_, List.getElem_mem hj, h⟩
theorem getD_app_lt {α : Type} {xs ys : List α} {d : α} {i : Nat} (h : i < xs.length) : (xs ++ ys).getD i d = xs.getD i d := by
 simp only [List.getD_eq_getElem?_getD, List.getElem?_append_left h]
theorem getD_app_one {α : Type} {xs : List α} {y d : α} {i : Nat} (h : xs.length = i) : (xs ++ [y]).getD i d = y := by
 subst h; simp [List.getD_eq_getElem?_getD]
theorem RowsAt.step {B L b l g i : Nat} {gs : List SG} {ps : List Nat} {Ss : List (List Nat)} {v6 v11 : Value} {wr w9 w10 w11 : World} {T : List Int} {Sb : List Nat}
  (h : RowsAt B L gs i ps Ss v6 wr) (hL : L < wr.heap.size) (hB9 : Below wr.heap.size wr w9) (hT : rwOf (rdG gs i) = (T, l, g)) (hb : F.GapF w9 B b T l g Sb) (hlo : ∀ k ∈ Sb, wr.heap.size ≤ k)
  (h10 : w9.heap.size ≤ w10.heap.size) (U : UpdS (L :: v6.ownBlock.toList) w9 w11) (hR : Kd.R V.KV 90 w11 B (fun k => k ≠ L) v11 (pvs ps ++ [some b])) (ho : v11.ownBlock = v6.ownBlock ∨ ∃ b, v11.ownBlock = some b ∧ w10.heap.size ≤ b) :
  RowsAt B L gs (i + 1) (ps ++ [b]) (Ss ++ [Sb]) v11 w11 := by
 have hv6 : ∀ k, v6.ownBlock = some k → k < wr.heap.size := fun k hk => Kd.R_lt h.pr k hk
 have n1 : ∀ k ∈ Ss.flatten, k ∉ L :: v6.ownBlock.toList := fun k hk hm => by
  obtain ⟨h1, h2, h3⟩ := h.lt k hk
  rcases List.mem_cons.1 hm with e | e
  ·exact h2 e
  ·exact h3 (Option.mem_toList.1 e).symm
 have n2 : ∀ k ∈ Sb, k ∉ L :: v6.ownBlock.toList := fun k hk hm => by
  have h1 := hlo k hk
  rcases List.mem_cons.1 hm with e | e
  ·omega
  ·have := hv6 k (Option.mem_toList.1 e); omega
 refine ⟨by simp [h.lp], by simp [h.ls], ?_, fun j hj => ?_, ?_, fun k hk => ?_⟩
 ·rw [show pvs (ps ++ [b]) = pvs ps ++ [some b] by simp [pvs]]; exact hR
 ·by_cases e : j < i
  ·rw [getD_app_lt (by rw [h.lp]; exact e), getD_app_lt (by rw [h.ls]; exact e)]
   exact ((h.row j e).below hB9).upd U (fun k hk => n1 k (mem_flatten_of (by rw [h.ls]; exact e) hk))
  ·obtain rfl : j = i := by omega
   rw [getD_app_one h.lp, getD_app_one h.ls, hT]
   exact hb.upd U n2
 ·rw [List.flatten_append, List.flatten_singleton]
  refine List.nodup_append.2 ⟨h.nd, hb.nd, fun a ha c hc e => ?_⟩
  have h1 := (h.lt a ha).1; have h2 := hlo c hc; omega
 ·rw [List.flatten_append, List.flatten_singleton] at hk
  have hs1 := hB9.size
  have hs2 := U.size
  rcases List.mem_append.1 hk with hk | hk
  ·obtain ⟨h1, h2, h3⟩ := h.lt k hk
   refine ⟨by omega, h2, fun e => ?_⟩
   rcases ho with ho | ⟨c, ho, hc⟩
   ·exact h3 (e.trans ho)
   ·rw [ho] at e; injection e with e; omega
  ·have h1 := hlo k hk
   have h2 := hb.lt k hk
   refine ⟨by omega, by omega, fun e => ?_⟩
   rcases ho with ho | ⟨c, ho, hc⟩
   ·have := hv6 k (ho.symm.trans e.symm); omega
   ·rw [ho] at e; injection e with e; omega
theorem nd_mid {a a' b c : List Nat} (h : (a ++ b ++ c).Nodup) (hn : a'.Nodup) (hd : ∀ k ∈ a', k ∈ b ∨ ((∀ x ∈ a, x ≠ k) ∧ ∀ x ∈ c, x ≠ k)) : (a ++ a' ++ c).Nodup := by
 have h1 := List.nodup_append.1 h
 have h2 := List.nodup_append.1 h1.1
 refine List.nodup_append.2 ⟨List.nodup_append.2 ⟨h2.1, hn, fun x hx y hy e => ?_⟩, h1.2.1, fun x hx y hy e => ?_⟩
 ·subst e
  rcases hd x hy with q | q
  ·exact h2.2.2 x hx x q rfl
  ·exact q.1 x hx rfl
 ·subst e
  rcases List.mem_append.1 hx with q | q
  ·exact h1.2.2 x (List.mem_append_left _ q) x hy rfl
  ·rcases hd x q with r | r
   ·exact h1.2.2 x (List.mem_append_right _ r) x hy rfl
   ·exact r.2 x hy rfl
theorem V.GapF.put {sv tv : Value} {w : World} {base b : Nat} {T : List V.PV} {l g : Nat} {S : List Nat} (h : V.GapF sv tv w base b T l g S) (u : Value) : V.GapF u tv (w.setCell ⟨b, 3, none⟩ u) base b T l g S := by
 obtain ⟨h1, h2, h3, v, h4, h5, h6⟩ := h
 exact ⟨h1, h2, h3, v, blk_put h4 3 u rfl, Kd.R_far (p := ⟨b, 3, none⟩) h5 (fun _ h => h) u, h6⟩
theorem LF.put {w5 w6 : World} {base L : Nat} {ps : List Nat} {Rs : List Rw} {l g : Nat} {st st' : List Int} {tot : Int} {sv v6 : Value} {S0 : List Nat} {Ss : List (List Nat)} (h : LF w5 base L ps Rs l g st tot sv S0 Ss)
  (U : UpdS sv.ownBlock.toList w5 w6) (hR : Kd.R (Kd.int .i64) 3 w6 base (fun k => k ≠ L) v6 st') (ho : v6.ownBlock = sv.ownBlock ∨ ∃ b, v6.ownBlock = some b ∧ w5.heap.size ≤ b) : LF (w6.setCell ⟨L, 3, none⟩ v6) base L ps Rs l g st' tot v6 S0 Ss := by
 have h1 := List.nodup_append.1 h.nd
 have h2 := List.nodup_append.1 h1.1
 have hrow : ∀ j (hj : j < Rs.length), ∀ k ∈ Ss.getD j [], k ∈ Ss.flatten := fun j hj k hk => mem_flatten_of (by rw [h.ls]; exact hj) hk
 refine ⟨V.GapF.put (h.rows.upd U (fun k hk hm => h2.2.2 k hk k hm rfl)) v6, Kd.R_far (p := ⟨L, 3, none⟩) hR (fun _ h => h) v6, h.lp, h.ls, fun i hi => ?_, nd_mid h.nd ?_ (fun k hk => ?_)⟩
 ·have r1 := (h.row i hi).upd U (fun k hk hm => h1.2.2 k (List.mem_append_right _ hm) k (hrow i hi k hk) rfl)
  refine r1.upd ((UpdS.refl [L] w6).setCell (p := ⟨L, 3, none⟩) (.inl (by simp)) v6) (fun k hk hm => ?_)
  obtain rfl : k = L := by simpa using hm
  exact h1.2.2 k (List.mem_append_left _ h.rows.mem) k (hrow i hi k hk) rfl
 ·cases v6.ownBlock <;> simp
 ·have hk' : v6.ownBlock = some k := Option.mem_toList.1 hk
  rcases ho with ho | ⟨c, ho, hc⟩
  ·rw [ho] at hk; exact .inl hk
  ·rw [ho] at hk'; injection hk' with e; subst e
   refine .inr ⟨fun x hx e => ?_, fun x hx e => ?_⟩
   ·have := h.rows.lt x hx; omega
   ·obtain ⟨S, hS, hxS⟩ := List.mem_flatten.1 hx
    obtain ⟨i, hi, rfl⟩ := List.getElem_of_mem hS
    have hi' : i < Rs.length := by rw [← h.ls]; exact hi
    have := (h.row i hi').lt x (by rw [List.getD_eq_getElem?_getD, List.getElem?_eq_getElem hi]; exact hxS)
    omega
structure RdS (w4 : World) (base L gb : Nat) (ps : List Nat) (Rs : List Rw) (l g : Nat) (st : List Int) (tot : Int) (sv : Value) (S0 : List Nat) (Ss : List (List Nat)) (cs : Array Value) (w' : World) : Prop where
 lf : LF w' base L ps Rs l g st tot sv S0 Ss
 gb : w'.heap[gb]? = some (.cells cs 29 (0, 0))
 bel : Below w4.heap.size w4 w'
theorem RdS.below {w4 : World} {base L gb : Nat} {ps : List Nat} {Rs : List Rw} {l g : Nat} {st : List Int} {tot : Int} {sv : Value} {S0 : List Nat} {Ss : List (List Nat)} {cs : Array Value} {w1 w2 : World} (h : RdS w4 base L gb ps Rs l g st tot sv S0 Ss cs w1) (hb : Below w1.heap.size w1 w2) : RdS w4 base L gb ps Rs l g st tot sv S0 Ss cs w2 :=
 ⟨h.lf.below hb, blk_below h.gb hb, below_step h.bel hb⟩
theorem RdS.drew {w4 : World} {base L gb : Nat} {ps : List Nat} {Rs : List Rw} {l g : Nat} {st : List Int} {tot : Int} {sv : Value} {S0 : List Nat} {Ss : List (List Nat)} {cs : Array Value} {w1 : World} (h : RdS w4 base L gb ps Rs l g st tot sv S0 Ss cs w1) : RdS w4 base L gb ps Rs l g st tot sv S0 Ss cs w1.drew := h.below (Below.refl _ w1).drew
theorem RdS.c3 {w4 : World} {base L gb : Nat} {ps : List Nat} {Rs : List Rw} {l g : Nat} {st : List Int} {tot : Int} {sv : Value} {S0 : List Nat} {Ss : List (List Nat)} {cs : Array Value} {w1 : World} (h : RdS w4 base L gb ps Rs l g st tot sv S0 Ss cs w1) : w1.cell? ⟨L, 3, none⟩ = some sv := by
 obtain ⟨v, hv, -⟩ := h.lf.blk
 exact (blk_cell hv 3).trans rfl
theorem RdS.L3 {w4 : World} {base L gb : Nat} {ps : List Nat} {Rs : List Rw} {l g : Nat} {st : List Int} {tot : Int} {sv : Value} {S0 : List Nat} {Ss : List (List Nat)} {cs : Array Value} {w1 w6 : World} (h : RdS w4 base L gb ps Rs l g st tot sv S0 Ss cs w1) (hg : w1.grownBy w6 sv.ownBlock) : w6.cell? ⟨L, 3, none⟩ = some sv ∧ w6.frozen? ⟨L, 3, none⟩ = false := by
 obtain ⟨v, hv, -⟩ := h.lf.blk
 have hb := (hg.block L (Array.getElem?_eq_some_iff.1 hv).1 (fun e => h.lf.starts.1 L e.symm rfl)).trans hv
 exact ⟨(blk_cell hb 3).trans rfl, blk_frozen hb 3⟩
theorem LF.nil {w4 wr : World} {base L l g : Nat} {gs : List SG} {ps : List Nat} {Ss : List (List Nat)} {v6 : Value} {tot : Int} {S' : List Nat} (hB : base ≤ L) (hRW : RowsAt L L gs gs.length ps Ss v6 wr)
  (hg4 : V.GapF (.slice none 0 0) (.int .i64 tot) w4 base L (pvs ps) l g S') (hfr : Fresh [L] S' wr) (hu4 : UpdS [L] wr w4) : LF w4 base L ps (gs.map rwOf) l g [] tot (.slice none 0 0) S' Ss := by
 refine ⟨hg4, Kd.R_nil _ _ _ _ _, by rw [List.length_map]; exact hRW.lp, by rw [List.length_map]; exact hRW.ls, fun i hi => ?_, ?_⟩
 ·have hi' : i < gs.length := by simpa using hi
  have h1 := hRW.row i hi'
  have e : (gs.map rwOf)[i] = rwOf (rdG gs i) := by rw [List.getElem_map, rdG_at gs i hi']
  rw [e]
  exact gf_low (h1.upd hu4 (fun k hk hm => (hRW.lt k (mem_flatten_of (by rw [hRW.ls]; exact hi') hk)).2.1 (by simpa using hm))) hB
 ·show (S' ++ [] ++ Ss.flatten).Nodup
  rw [List.append_nil]
  refine List.nodup_append.2 ⟨hg4.nd, hRW.nd, fun x hx y hy e => ?_⟩
  subst e
  obtain ⟨k1, k2, -⟩ := hRW.lt x hy
  rcases hfr x hx with q | q
  ·exact k2 (by simpa using q)
  ·omega
structure RdD (base b : Nat) (T : List Int) (l g L : Nat) (tot : Int) (w8 w' : World) : Prop where
 gi : GapIs w' base b T l g
 bl : w'.heap[L]? = some (.cells #[.slice none 0 0, .int .i64 0, .int .i64 0, .slice none 0 0, .int .i64 tot] 89 (0, 0))
 bel : Below w8.heap.size w8 w'
theorem RdD.below {base b : Nat} {T : List Int} {l g L : Nat} {tot : Int} {w8 w1 w2 : World} (h : RdD base b T l g L tot w8 w1) (hb : Below w1.heap.size w1 w2) : RdD base b T l g L tot w8 w2 := ⟨h.gi.below hb, blk_below h.bl hb, below_step h.bel hb⟩
theorem RdD.drew {base b : Nat} {T : List Int} {l g L : Nat} {tot : Int} {w8 w1 : World} (h : RdD base b T l g L tot w8 w1) : RdD base b T l g L tot w8 w1.drew := h.below (Below.refl _ w1).drew
theorem RdD.c4 {base b : Nat} {T : List Int} {l g L : Nat} {tot : Int} {w8 w1 : World} (h : RdD base b T l g L tot w8 w1) : w1.cell? ⟨L, 4, none⟩ = some (.int .i64 tot) := (blk_cell h.bl 4).trans rfl
set_option maxHeartbeats 8000000 in
set_option maxRecDepth 100000 in
theorem openLines_any (w : World) (gs : List SG) (A0 : Option Addr) (c0 : Nat) (st : List Int) (A1 : Option Addr) (c1 : Nat) (hg : kG.C w A0 gs.length gs) (hc0 : gs.length ≤ c0) (hs : (Kd.int .i64).C w A1 st.length st) (hc1 : st.length ≤ c1)
  (hm : gs.length ≤ 1048576) (hst : st.length ≤ 1048576) (hz : ∀ i, i < gs.length → (rdG gs i).f0.length ≤ 1048576) :
  Calls Tryd.prog 25 #[.agg #[.slice A0 gs.length c0, .slice A1 st.length c1]] w (OpenedL w gs st) := by
 obtain ⟨w1, e1⟩ : ∃ y, w.alloc (.cells #[.slice A0 gs.length c0, .slice A1 st.length c1] 29) = y := ⟨_, rfl⟩
 have hb1 : Below w.heap.size w w1 := by subst e1; exact (Below.refl _ w).alloc (Nat.le_refl _) _
 have HB1 := Aside0.mk hb1
 have BK1 : Aside0 (w1.heap[w.heap.size]? = some (.cells #[.slice A0 gs.length c0, .slice A1 st.length c1] 29 (0, 0))) := ⟨by subst e1; exact blk_new w (.cells #[.slice A0 gs.length c0, .slice A1 st.length c1] 29)⟩
 have HG := Aside0.mk hg
 have HS := Aside0.mk hs
 have HZ := Aside0.mk hz
 clear hb1 hg hs hz
 go_enter Tryd.func25, Tryd.ntmps25
 go_wp2_with fail
 refine (in_fault _ 1 w1).mono ?_
 rintro e w2 ⟨vb, rfl, hE, hb⟩
 obtain ⟨ET, ex, rfl⟩ := errIs_ev hE
 have HE2 := Aside0.mk hE
 have HB2 := Aside0.mk (below_step HB1.out hb)
 have BK2 := Aside0.mk (blk_below BK1.out hb)
 have q0 : w2.cell? ⟨w.heap.size, 0, none⟩ = some (.slice A0 gs.length c0) := (blk_cell BK2.out 0).trans rfl
 have q1 : w2.cell? ⟨w.heap.size, 1, none⟩ = some (.slice A1 st.length c1) := (blk_cell BK2.out 1).trans rfl
 clear hb hE e1 HB1 BK1
 simp only [ev]
 by_cases h1 : gs.length = 0
 ·have C1 := Aside0.mk h1
  have b1 : ((gs.length : Int) == 0) = true := beq_iff_eq.2 (by omega)
  clear h1
  go_wp2
  refine bodyPost_ret (results_list (rs := [.tmp 2, .tmp 3]) rfl (by simp) (.tmp (.tmp .nil))) rfl ?_
  exact bad_post (fun h => by have := h.1.1; have := C1.out; omega) HB2.out HE2.out
 have b1 : ((gs.length : Int) == 0) = false := beq_eq_false_iff_ne.2 (by omega)
 by_cases h2 : 8193 < gs.length
 ·have C2 := Aside0.mk h2
  have b2 : decide (8193 < (gs.length : Int)) = true := decide_eq_true (by omega)
  clear h1 h2
  go_wp2
  refine bodyPost_ret (results_list (rs := [.tmp 2, .tmp 3]) rfl (by simp) (.tmp (.tmp .nil))) rfl ?_
  exact bad_post (fun h => by have := h.1.2; have := C2.out; omega) HB2.out HE2.out
 have b2 : decide (8193 < (gs.length : Int)) = false := decide_eq_false (by omega)
 by_cases h3 : st.length = 0
 ·have C3 := Aside0.mk h3
  have b3 : ((st.length : Int) == 0) = true := beq_iff_eq.2 (by omega)
  clear h1 h2 h3
  go_wp2
  refine bodyPost_ret (results_list (rs := [.tmp 2, .tmp 3]) rfl (by simp) (.tmp (.tmp .nil))) rfl ?_
  exact bad_post (fun h => by have := h.2.1.1; have := C3.out; omega) HB2.out HE2.out
 have b3 : ((st.length : Int) == 0) = false := beq_eq_false_iff_ne.2 (by omega)
 by_cases h4 : gs.length < st.length
 ·have C4 := Aside0.mk h4
  have b4 : decide ((gs.length : Int) < (st.length : Int)) = true := decide_eq_true (by omega)
  have b5 : decide (gs.length < st.length) = true := decide_eq_true h4
  clear h1 h2 h3 h4
  go_wp2
  refine bodyPost_ret (results_list (rs := [.tmp 2, .tmp 3]) rfl (by simp) (.tmp (.tmp .nil))) rfl ?_
  exact bad_post (fun h => by have := h.2.1.2; have := C4.out; omega) HB2.out HE2.out
 have b4 : decide ((gs.length : Int) < (st.length : Int)) = false := decide_eq_false (by omega)
 have b5 : decide (gs.length < st.length) = false := decide_eq_false (by omega)
 have HD := Aside0.mk (show (0 < gs.length ∧ gs.length ≤ 8193) ∧ 0 < st.length ∧ st.length ≤ gs.length by omega)
 clear h1 h2 h3 h4
 have s1 : IntKind.i64.wrap ((gs.length : Int) - 1) = (gs.length : Int) - 1 := by rw [IntKind.wrap_i64]; omega
 obtain ⟨w3, e3⟩ : ∃ y, w2.alloc (.cells #[.slice none 0 0, .int .i64 0, .int .i64 0, .slice none 0 0, .int .i64 ((gs.length : Int) - 1)] 89) = y := ⟨_, rfl⟩
 have hb3 : Below w2.heap.size w2 w3 := by subst e3; exact (Below.refl _ w2).alloc (Nat.le_refl _) _
 have BL3 := Aside0.mk (show w3.heap[w2.heap.size]? = some (.cells #[.slice none 0 0, .int .i64 0, .int .i64 0, .slice none 0 0, .int .i64 ((gs.length : Int) - 1)] 89 (0, 0)) by subst e3; exact blk_new w2 (.cells #[.slice none 0 0, .int .i64 0, .int .i64 0, .slice none 0 0, .int .i64 ((gs.length : Int) - 1)] 89))
 have BK3 := Aside0.mk (blk_below BK2.out hb3)
 have HE3 := Aside0.mk (HE2.out.below hb3)
 have HB3 := Aside0.mk (below_step HB2.out hb3)
 have q2 : (w2.alloc (.cells #[.slice none 0 0, .int .i64 0, .int .i64 0, .slice none 0 0, .int .i64 ((gs.length : Int) - 1)] 89)).cell? ⟨w.heap.size, 0, none⟩ = some (.slice A0 gs.length c0) := by rw [e3]; exact (blk_cell BK3.out 0).trans rfl
 have E3 := Aside0.mk e3
 clear e3
 have LW := Aside0.mk HB2.out.size
 have LG := Aside0.mk (show w.heap.size ≠ w2.heap.size from Nat.ne_of_lt (Array.getElem?_eq_some_iff.1 BK2.out).1)
 obtain ⟨vb, HVB⟩ : ∃ z, Aside0 (ev (some (ET, ex)) = z) := ⟨_, ⟨rfl⟩⟩
 have AT : Aside0 (OpAt w2 gs st gs.length (.slice none 0 0) (.int .i64 0) w3) :=
  ⟨⟨⟨0, [], [], rfl, by omega, ⟨rfl, rfl, Kd.R_nil _ _ _ _ _, fun j h => by omega, by simp, fun k h => by simp at h⟩, by simpa [sumR] using BL3.out, fun j h => by omega⟩, hb3⟩⟩
 go_wp2
 rw [E3.out]
 clear E3 q0 q1 q2 s1 HE3 HB3 BK3 BL3 hb3
 go_loopg [6, 50] gs.length (fun k v6 v50 wr => OpAt w2 gs st k v6 v50 wr)
 case atStart => exact AT.out
 case round =>
  clear AT
  obtain ⟨⟨i, ps, Ss, rfl, hk, hRW, hbl, hok⟩, hX⟩ := hrel
  have hgb := blk_below BK2.out hX
  have her := HE2.out.below hX
  have hB := below_step HB2.out hX
  have HX := Aside0.mk hX
  obtain ⟨A6, c6, rfl⟩ := Kd.R_slice hRW.pr
  have HK := Aside0.mk hk
  have HRW := Aside0.mk hRW
  have HBL := Aside0.mk hbl
  have HOK := Aside0.mk hok
  have HGB := Aside0.mk hgb
  have HER := Aside0.mk her
  have HB := Aside0.mk hB
  clear hk hRW hbl hok hgb her hB hX
  by_cases ci : i < gs.length
  ·obtain ⟨ad, Ai, cI, ea, hx0, hx1, hx2, hcI, hCi⟩ := QBaseL.at_T76 HG.out (i : Int) (by omega) (by omega)
   cases ea
   have hzi := HZ.out i ci
   simp only [Int.toNat_natCast] at hx0 hx1 hx2
   have k0 : ∀ {a : Addr} {v : Value}, w.cell? a = some v → wr.cell? a = some v := fun e => (HB.out.cell (World.block_lt_of_cell? w _ e)).trans e
   replace hx0 := k0 hx0
   replace hx1 := k0 hx1
   replace hx2 := k0 hx2
   clear k0
   obtain ⟨y, HY⟩ : ∃ y, Aside0 (QBaseL.rd_T76 gs (i : Int) = y) := ⟨_, ⟨rfl⟩⟩
   rw [HY.out] at hx0 hx1 hx2 hcI hCi
   have hzy : y.f0.length ≤ 1048576 := by rw [← HY.out]; exact hzi
   obtain ⟨w5, e5⟩ : ∃ z, wr.alloc (.cells #[.slice Ai y.f0.length cI, .int .i64 y.f1, .int .i64 y.f2] 76) = z := ⟨_, rfl⟩
   have hb5 : Below wr.heap.size wr w5 := by subst e5; exact (Below.refl _ wr).alloc (Nat.le_refl _) _
   have bk5 : w5.heap[wr.heap.size]? = some (.cells #[.slice Ai y.f0.length cI, .int .i64 y.f1, .int .i64 y.f2] 76 (0, 0)) := by subst e5; exact blk_new wr (.cells #[.slice Ai y.f0.length cI, .int .i64 y.f1, .int .i64 y.f2] 76)
   have p0 : w5.cell? ⟨wr.heap.size, 0, none⟩ = some (.slice Ai y.f0.length cI) := (blk_cell bk5 0).trans rfl
   have p1 : w5.cell? ⟨wr.heap.size, 1, none⟩ = some (.int .i64 y.f1) := (blk_cell bk5 1).trans rfl
   have p2 : w5.cell? ⟨wr.heap.size, 2, none⟩ = some (.int .i64 y.f2) := (blk_cell bk5 2).trans rfl
   have HCi := Aside0.mk (Kd.C_below hCi (HB.out.trans (Below.mono hb5 HB.out.size)))
   have HB5 := Aside0.mk hb5
   clear hzi hb5 bk5 hCi
   go_wp2_with fail
   refine (opened_any w5 y.f0 Ai cI y.f1 y.f2 HCi.out hcI hzy).mono ?_
   rintro e w6 ⟨hb6, ⟨ok, b, rfl, hGI⟩ | ⟨nok, b, v, rfl, hGI, hEI⟩⟩
   ·have OKG := Aside0.mk ok
    have HGI := Aside0.mk hGI
    obtain ⟨g1, g2, g3, vR, hbk, hRv⟩ := hGI
    rw [← (okGap_lay ok).1] at hRv
    obtain ⟨Ac, cc, rfl⟩ := Kd.R_slice hRv
    obtain ⟨-, hcc, hCv⟩ := Kd.R_reads' hRv
    have pc : w6.cell? ⟨b, 0, none⟩ = some (.slice Ac y.f0.length cc) := (blk_cell hbk 0).trans rfl
    have HB6 := Aside0.mk (Below.trans HB5.out (Below.mono hb6 HB5.out.size))
    have HCV := Aside0.mk hCv
    clear ok hbk hRv hCv g1 g2 g3 hb6 e5 p0 p1 p2 hx0 hx1 hx2
    simp only [gpt]
    go_wp2_with fail
    refine (nlIn_any w6 Ac cc y.f0 HCV.out hcc (by omega)).mono ?_
    rintro e w7 ⟨rfl, hd7⟩
    have hb7 := hd7.below
    have HB7 := Aside0.mk (Below.trans HB6.out (Below.mono hb7 HB6.out.size))
    have HGI7 := Aside0.mk (HGI.out.below hb7)
    clear hd7 hb7 HCV pc
    by_cases hnl : nl y.f0 = 0
    ·have b7 : decide (0 < nl y.f0) = false := decide_eq_false (by omega)
     have NL := Aside0.mk hnl
     clear hnl
     obtain ⟨sI, HSI⟩ : ∃ z, Aside0 (sumR (gs.take i) = z) := ⟨_, ⟨rfl⟩⟩
     have nI : 0 ≤ sI ∧ sI ≤ 8192 := by
      rw [← HSI.out]
      refine ⟨sumR_nn _, ?_⟩
      rcases Nat.eq_zero_or_pos i with h0 | h0
      ·subst h0; simp [sumR]
      ·have := (HOK.out (i - 1) (by omega)).2.2.2
       rw [show i - 1 + 1 = i by omega] at this
       have := HD.out.1.1
       omega
     have bl7 := blk_below HBL.out HB7.out
     rw [HSI.out] at bl7
     have HBL7 := Aside0.mk bl7
     have C0 := Aside0.mk (show w7.cell? ⟨w.heap.size, 0, none⟩ = some (.slice (some ad) gs.length c0) from (blk_cell (blk_below HGB.out HB7.out) 0).trans rfl)
     have C1 := Aside0.mk (show w7.cell? ⟨w.heap.size, 1, none⟩ = some (.slice A1 st.length c1) from (blk_cell (blk_below HGB.out HB7.out) 1).trans rfl)
     have C4 := Aside0.mk (show w7.cell? ⟨w2.heap.size, 4, none⟩ = some (.int .i64 ((gs.length : Int) - 1 + sI)) from (blk_cell HBL7.out 4).trans rfl)
     have n1 := HD.out.1.2
     have s2 : IntKind.i64.wrap ((gs.length : Int) - 1) = (gs.length : Int) - 1 := by rw [IntKind.wrap_i64]; omega
     have s3 : IntKind.i64.wrap ((gs.length : Int) - 1 + sI - ((gs.length : Int) - 1)) = sI := by rw [IntKind.wrap_i64]; omega
     have s4 : IntKind.i64.wrap (sI + (i : Int)) = sI + (i : Int) := by rw [IntKind.wrap_i64]; omega
     clear bl7
     go_wp2
     by_cases hs : i < st.length
     ·have d1 : decide ((i : Int) < (st.length : Int)) = true := decide_eq_true (by omega)
      have d2 : decide (i < st.length) = true := decide_eq_true hs
      obtain ⟨ad1, ea1, hc5⟩ := Kd.at_int (HS.out) (i : Int) (by omega) (by omega)
      cases ea1
      rw [Int.toNat_natCast] at hc5
      obtain ⟨z, HZZ⟩ : ∃ z, Aside0 (st.getD i 0 = z) := ⟨_, ⟨rfl⟩⟩
      have C5 := Aside0.mk (show w7.cell? (ad1.add i) = some (.int .i64 z) by
       rw [← HZZ.out]
       refine (((below_step HB.out HB7.out).cell (World.block_lt_of_cell? w _ hc5)).trans hc5).trans ?_
       simp [rdOf, rd])
      have HSI2 := Aside0.mk hs
      clear hc5
      refine start_ (n := 24) (S := fun w' => w'.cell? ⟨w.heap.size, 0, none⟩ = some (.slice (some ad) gs.length c0) ∧ w'.cell? ⟨w.heap.size, 1, none⟩ = some (.slice (some ad1) st.length c1) ∧ w'.cell? ⟨w2.heap.size, 4, none⟩ = some (.int .i64 ((gs.length : Int) - 1 + sI)) ∧ w'.cell? (ad1.add i) = some (.int .i64 z)) (ds := []) #[false, false, false, false, false, false, false, false, false, false, false, false, false, false, false, false, false, false, false, false, false, false, false, false] (by kernel_rfl) rfl rfl ⟨C0.out, C1.out, C4.out, C5.out⟩ (fun hHeld => ?_)
      refine pure_ (i := 0) (N := some 73) (v := ?_) (a' := ?_) #[true, false, false, false, false, false, false, false, false, false, false, false, false, false, false, false, false, false, false, false, false, false, false, false] rfl rfl (by kernel_rfl) (fun _ _ _ h => h) (Or.inl ⟨by rfl, ?_⟩) ?_ ?_
      rotate_left
      ·intro w'
       go_simp
       with_reducible rfl
      rotate_left
      ·simp only [Act.put, List.setIfInBounds_toArray, List.set_cons_zero, List.set_cons_succ, i64_w, i32_w]
       rfl
      refine pure_ (i := 1) (N := some 74) (v := ?_) (a' := ?_) #[true, true, false, false, false, false, false, false, false, false, false, false, false, false, false, false, false, false, false, false, false, false, false, false] rfl rfl (by kernel_rfl) (fun _ _ _ h => h) (Or.inl ⟨by rfl, ?_⟩) ?_ ?_
      rotate_left
      ·intro w'
       go_simp
       with_reducible rfl
      rotate_left
      ·simp only [Act.put, List.setIfInBounds_toArray, List.set_cons_zero, List.set_cons_succ, i64_w, i32_w]
       rfl
      refine take_ (i := 2) (N := some 75) (v := ?_) (a' := ?_) #[true, true, true, false, false, false, false, false, false, false, false, false, false, false, false, false, false, false, false, false, false, false, false, false] rfl rfl (by kernel_rfl) (fun _ _ _ h => h) (Or.inl ⟨by rfl, ?_⟩) hHeld ?_ ?_
      rotate_left
      ·rintro w' ⟨s0, s1, s2, s3⟩
       go_simp
       with_reducible rfl
      rotate_left
      ·simp only [Act.put, List.setIfInBounds_toArray, List.set_cons_zero, List.set_cons_succ, i64_w, i32_w]
       rfl
      refine pure_ (i := 3) (N := some 76) (v := ?_) (a' := ?_) #[true, true, true, true, false, false, false, false, false, false, false, false, false, false, false, false, false, false, false, false, false, false, false, false] rfl rfl (by kernel_rfl) (fun _ _ _ h => h) (Or.inl ⟨by rfl, ?_⟩) ?_ ?_
      rotate_left
      ·intro w'
       go_simp
       with_reducible rfl
      rotate_left
      ·simp only [Act.put, List.setIfInBounds_toArray, List.set_cons_zero, List.set_cons_succ, i64_w, i32_w]
       rfl
      refine pure_ (i := 4) (N := some 77) (v := ?_) (a' := ?_) #[true, true, true, true, true, false, false, false, false, false, false, false, false, false, false, false, false, false, false, false, false, false, false, false] rfl rfl (by kernel_rfl) (fun _ _ _ h => h) (Or.inl ⟨by rfl, ?_⟩) ?_ ?_
      rotate_left
      ·intro w'
       go_simp
       with_reducible rfl
      rotate_left
      ·simp only [Act.put, List.setIfInBounds_toArray, List.set_cons_zero, List.set_cons_succ, i64_w, i32_w]
       rfl
      refine pure_ (i := 5) (N := some 78) (v := ?_) (a' := ?_) #[true, true, true, true, true, true, false, false, false, false, false, false, false, false, false, false, false, false, false, false, false, false, false, false] rfl rfl (by kernel_rfl) (fun _ _ _ h => h) (Or.inl ⟨by rfl, ?_⟩) ?_ ?_
      rotate_left
      ·intro w'
       go_simp
       with_reducible rfl
      rotate_left
      ·simp only [Act.put, List.setIfInBounds_toArray, List.set_cons_zero, List.set_cons_succ, i64_w, i32_w]
       rfl
      refine pure_ (i := 6) (N := some 79) (v := ?_) (a' := ?_) #[true, true, true, true, true, true, true, false, false, false, false, false, false, false, false, false, false, false, false, false, false, false, false, false] rfl rfl (by kernel_rfl) (fun _ _ _ h => h) (Or.inl ⟨by rfl, ?_⟩) ?_ ?_
      rotate_left
      ·intro w'
       go_simp
       with_reducible rfl
      rotate_left
      ·simp only [Act.put, List.setIfInBounds_toArray, List.set_cons_zero, List.set_cons_succ, i64_w, i32_w]
       rfl
      refine pure_ (i := 8) (N := some 81) (v := ?_) (a' := ?_) #[true, true, true, true, true, true, true, false, true, false, false, false, false, false, false, false, false, false, false, false, false, false, false, false] rfl rfl (by kernel_rfl) (fun _ _ _ h => h) (Or.inl ⟨by rfl, ?_⟩) ?_ ?_
      rotate_left
      ·intro w'
       go_simp
       with_reducible rfl
      rotate_left
      ·simp only [Act.put, List.setIfInBounds_toArray, List.set_cons_zero, List.set_cons_succ, i64_w, i32_w]
       rfl
      refine pure_ (i := 11) (N := some 84) (v := ?_) (a' := ?_) #[true, true, true, true, true, true, true, false, true, false, false, true, false, false, false, false, false, false, false, false, false, false, false, false] rfl rfl (by kernel_rfl) (fun _ _ _ h => h) (Or.inl ⟨by rfl, ?_⟩) ?_ ?_
      rotate_left
      ·intro w'
       go_simp
       with_reducible rfl
      rotate_left
      ·simp only [Act.put, List.setIfInBounds_toArray, List.set_cons_zero, List.set_cons_succ, i64_w, i32_w]
       rfl
      refine pure_ (i := 12) (N := some 85) (v := ?_) (a' := ?_) #[true, true, true, true, true, true, true, false, true, false, false, true, true, false, false, false, false, false, false, false, false, false, false, false] rfl rfl (by kernel_rfl) (fun _ _ _ h => h) (Or.inl ⟨by rfl, ?_⟩) ?_ ?_
      rotate_left
      ·intro w'
       go_simp
       with_reducible rfl
      rotate_left
      ·simp only [Act.put, List.setIfInBounds_toArray, List.set_cons_zero, List.set_cons_succ, i64_w, i32_w]
       rfl
      refine pure_ (i := 13) (N := some 86) (v := ?_) (a' := ?_) #[true, true, true, true, true, true, true, false, true, false, false, true, true, true, false, false, false, false, false, false, false, false, false, false] rfl rfl (by kernel_rfl) (fun _ _ _ h => h) (Or.inl ⟨by rfl, ?_⟩) ?_ ?_
      rotate_left
      ·intro w'
       go_simp
       with_reducible rfl
      rotate_left
      ·simp only [Act.put, List.setIfInBounds_toArray, List.set_cons_zero, List.set_cons_succ, i64_w, i32_w]
       rfl
      refine pure_ (i := 15) (N := some 88) (v := ?_) (a' := ?_) #[true, true, true, true, true, true, true, false, true, false, false, true, true, true, false, true, false, false, false, false, false, false, false, false] rfl rfl (by kernel_rfl) (fun _ _ _ h => h) (Or.inl ⟨by rfl, ?_⟩) ?_ ?_
      rotate_left
      ·intro w'
       go_simp
       with_reducible rfl
      rotate_left
      ·simp only [Act.put, List.setIfInBounds_toArray, List.set_cons_zero, List.set_cons_succ, i64_w, i32_w]
       rfl
      refine pure_ (i := 20) (N := some 93) (v := ?_) (a' := ?_) #[true, true, true, true, true, true, true, false, true, false, false, true, true, true, false, true, false, false, false, false, true, false, false, false] rfl rfl (by kernel_rfl) (fun _ _ _ h => h) (Or.inl ⟨by rfl, ?_⟩) ?_ ?_
      rotate_left
      ·intro w'
       go_simp
       with_reducible rfl
      rotate_left
      ·simp only [Act.put, List.setIfInBounds_toArray, List.set_cons_zero, List.set_cons_succ, i64_w, i32_w]
       rfl
      refine take_ (i := 7) (N := some 80) (v := ?_) (a' := ?_) #[true, true, true, true, true, true, true, true, true, false, false, true, true, true, false, true, false, false, false, false, true, false, false, false] rfl rfl (by kernel_rfl) (fun _ _ _ h => h) (Or.inl ⟨by rfl, ?_⟩) hHeld ?_ ?_
      rotate_left
      ·rintro w' ⟨s0, s1, s2, s3⟩
       go_simp
       with_reducible rfl
      rotate_left
      ·simp only [Act.put, List.setIfInBounds_toArray, List.set_cons_zero, List.set_cons_succ, i64_w, i32_w]
       rfl
      refine pure_ (i := 9) (N := some 82) (v := ?_) (a' := ?_) #[true, true, true, true, true, true, true, true, true, true, false, true, true, true, false, true, false, false, false, false, true, false, false, false] rfl rfl (by kernel_rfl) (fun _ _ _ h => h) (Or.inl ⟨by rfl, ?_⟩) ?_ ?_
      rotate_left
      ·intro w'
       go_simp
       with_reducible rfl
      rotate_left
      ·simp only [Act.put, List.setIfInBounds_toArray, List.set_cons_zero, List.set_cons_succ, i64_w, i32_w]
       rfl
      refine take_ (i := 10) (N := some 83) (v := ?_) (a' := ?_) #[true, true, true, true, true, true, true, true, true, true, true, true, true, true, false, true, false, false, false, false, true, false, false, false] rfl rfl (by kernel_rfl) (fun _ _ _ h => h) (Or.inl ⟨by rfl, ?_⟩) hHeld ?_ ?_
      rotate_left
      ·rintro w' ⟨s0, s1, s2, s3⟩
       go_simp
       with_reducible rfl
      rotate_left
      ·simp only [Act.put, List.setIfInBounds_toArray, List.set_cons_zero, List.set_cons_succ, i64_w, i32_w]
       rfl
      refine take_ (i := 14) (N := some 87) (v := ?_) (a' := ?_) #[true, true, true, true, true, true, true, true, true, true, true, true, true, true, true, true, false, false, false, false, true, false, false, false] rfl rfl (by kernel_rfl) (fun _ _ _ h => h) (Or.inl ⟨by rfl, ?_⟩) hHeld ?_ ?_
      rotate_left
      ·rintro w' ⟨s0, s1, s2, s3⟩
       go_simp
       with_reducible rfl
      rotate_left
      ·simp only [Act.put, List.setIfInBounds_toArray, List.set_cons_zero, List.set_cons_succ, i64_w, i32_w]
       rfl
      refine take_ (i := 16) (N := some 89) (v := ?_) (a' := ?_) #[true, true, true, true, true, true, true, true, true, true, true, true, true, true, true, true, true, false, false, false, true, false, false, false] rfl rfl (by kernel_rfl) (fun _ _ _ h => h) (Or.inl ⟨by rfl, ?_⟩) hHeld ?_ ?_
      rotate_left
      ·rintro w' ⟨s0, s1, s2, s3⟩
       go_simp
       with_reducible rfl
      rotate_left
      ·simp only [Act.put, List.setIfInBounds_toArray, List.set_cons_zero, List.set_cons_succ, i64_w, i32_w]
       rfl
      refine pure_ (i := 17) (N := some 90) (v := ?_) (a' := ?_) #[true, true, true, true, true, true, true, true, true, true, true, true, true, true, true, true, true, true, false, false, true, false, false, false] rfl rfl (by kernel_rfl) (fun _ _ _ h => h) (Or.inl ⟨by rfl, ?_⟩) ?_ ?_
      rotate_left
      ·intro w'
       go_simp
       with_reducible rfl
      rotate_left
      ·simp only [Act.put, List.setIfInBounds_toArray, List.set_cons_zero, List.set_cons_succ, i64_w, i32_w]
       rfl
      refine pure_ (i := 18) (N := some 91) (v := ?_) (a' := ?_) #[true, true, true, true, true, true, true, true, true, true, true, true, true, true, true, true, true, true, true, false, true, false, false, false] rfl rfl (by kernel_rfl) (fun _ _ _ h => h) (Or.inl ⟨by rfl, ?_⟩) ?_ ?_
      rotate_left
      ·intro w'
       go_simp
       with_reducible rfl
      rotate_left
      ·simp only [Act.put, List.setIfInBounds_toArray, List.set_cons_zero, List.set_cons_succ, i64_w, i32_w]
       rfl
      refine pure_ (i := 19) (N := some 92) (v := ?_) (a' := ?_) #[true, true, true, true, true, true, true, true, true, true, true, true, true, true, true, true, true, true, true, true, true, false, false, false] rfl rfl (by kernel_rfl) (fun _ _ _ h => h) (Or.inl ⟨by rfl, ?_⟩) ?_ ?_
      rotate_left
      ·intro w'
       go_simp
       with_reducible rfl
      rotate_left
      ·simp only [Act.put, List.setIfInBounds_toArray, List.set_cons_zero, List.set_cons_succ, i64_w, i32_w]
       rfl
      refine pure_ (i := 21) (N := some 94) (v := ?_) (a' := ?_) #[true, true, true, true, true, true, true, true, true, true, true, true, true, true, true, true, true, true, true, true, true, true, false, false] rfl rfl (by kernel_rfl) (fun _ _ _ h => h) (Or.inl ⟨by rfl, ?_⟩) ?_ ?_
      rotate_left
      ·intro w'
       go_simp
       with_reducible rfl
      rotate_left
      ·simp only [Act.put, List.setIfInBounds_toArray, List.set_cons_zero, List.set_cons_succ, i64_w, i32_w]
       rfl
      refine pure_ (i := 22) (N := some 95) (v := ?_) (a' := ?_) #[true, true, true, true, true, true, true, true, true, true, true, true, true, true, true, true, true, true, true, true, true, true, true, false] rfl rfl (by kernel_rfl) (fun _ _ _ h => h) (Or.inl ⟨by rfl, ?_⟩) ?_ ?_
      rotate_left
      ·intro w'
       go_simp
       with_reducible rfl
      rotate_left
      ·simp only [Act.put, List.setIfInBounds_toArray, List.set_cons_zero, List.set_cons_succ, i64_w, i32_w]
       rfl
      refine pure_ (i := 23) (N := some 96) (v := ?_) (a' := ?_) #[true, true, true, true, true, true, true, true, true, true, true, true, true, true, true, true, true, true, true, true, true, true, true, true] rfl rfl (by kernel_rfl) (fun _ _ _ h => h) (Or.inl ⟨by rfl, ?_⟩) ?_ ?_
      rotate_left
      ·intro w'
       go_simp
       with_reducible rfl
      rotate_left
      ·simp only [Act.put, List.setIfInBounds_toArray, List.set_cons_zero, List.set_cons_succ, i64_w, i32_w]
       rfl
      refine done_ (by kernel_rfl) ?_
      clear hHeld
      by_cases hz : z = sI + (i : Int)
      ·have z1 : (z != sI + (i : Int)) = false := by simp [hz]
       have HZ1 := Aside0.mk hz
       clear hz
       go_wp2
       obtain ⟨w8, e8⟩ : ∃ z, w7.drew = z := ⟨_, rfl⟩
       have HB8 := Aside0.mk (show Below wr.heap.size wr w8 by rw [← e8]; exact HB7.out.drew)
       obtain ⟨T, HT⟩ : ∃ T, Aside0 (y.f0.take y.f1.toNat ++ y.f0.drop y.f2.toNat = T) := ⟨_, ⟨rfl⟩⟩
       have gi8 : GapIs w8 w5.heap.size b T y.f1.toNat (y.f2 - y.f1).toNat := by rw [← e8, ← HT.out]; exact HGI7.out.below (Below.refl _ w7).drew
       have z9 : RdD w5.heap.size b T y.f1.toNat (y.f2 - y.f1).toNat w2.heap.size ((gs.length : Int) - 1 + sI) w8 w8 := ⟨gi8, by rw [← e8]; exact HBL7.out, Below.refl _ _⟩
       have hT1 : T.length ≤ 1000000 := by have := gi8.2.2.1; omega
       have s5 : IntKind.i64.wrap ((gs.length : Int) - 1 + sI + (T.length : Int)) = (gs.length : Int) - 1 + sI + (T.length : Int) := by rw [IntKind.wrap_i64]; omega
       rw [e8]
       clear e8 C0 C1 C4 gi8
       refine start_ (n := 10) (S := fun w' => w'.cell? ⟨w2.heap.size, 4, none⟩ = some (.int .i64 ((gs.length : Int) - 1 + sI)) ∧ RdD w5.heap.size b T (y.f1.toNat) ((y.f2 - y.f1).toNat) w2.heap.size ((gs.length : Int) - 1 + sI) w8 w') (ds := [9]) #[false, false, false, false, false, false, false, false, false, false] (by kernel_rfl) rfl rfl ⟨z9.drew.c4, z9.drew⟩ (fun hHeld => ?_)
       refine pure_ (i := 0) (N := some 100) (v := ?_) (a' := ?_) #[true, false, false, false, false, false, false, false, false, false] rfl rfl (by kernel_rfl) (fun _ _ _ h => h) (Or.inl ⟨by rfl, ?_⟩) ?_ ?_
       rotate_left
       ·intro w'
        go_simp
        with_reducible rfl
       rotate_left
       ·simp only [Act.put, List.setIfInBounds_toArray, List.set_cons_zero, List.set_cons_succ, i64_w, i32_w]
        rfl
       refine pure_ (i := 1) (N := some 101) (v := ?_) (a' := ?_) #[true, true, false, false, false, false, false, false, false, false] rfl rfl (by kernel_rfl) (fun _ _ _ h => h) (Or.inl ⟨by rfl, ?_⟩) ?_ ?_
       rotate_left
       ·intro w'
        go_simp
        with_reducible rfl
       rotate_left
       ·simp only [Act.put, List.setIfInBounds_toArray, List.set_cons_zero, List.set_cons_succ, i64_w, i32_w]
        rfl
       refine pure_ (i := 2) (N := some 102) (v := ?_) (a' := ?_) #[true, true, true, false, false, false, false, false, false, false] rfl rfl (by kernel_rfl) (fun _ _ _ h => h) (Or.inl ⟨by rfl, ?_⟩) ?_ ?_
       rotate_left
       ·intro w'
        go_simp
        with_reducible rfl
       rotate_left
       ·simp only [Act.put, List.setIfInBounds_toArray, List.set_cons_zero, List.set_cons_succ, i64_w, i32_w]
        rfl
       refine pure_ (i := 4) (N := some 104) (v := ?_) (a' := ?_) #[true, true, true, false, true, false, false, false, false, false] rfl rfl (by kernel_rfl) (fun _ _ _ h => h) (Or.inl ⟨by rfl, ?_⟩) ?_ ?_
       rotate_left
       ·intro w'
        go_simp
        with_reducible rfl
       rotate_left
       ·simp only [Act.put, List.setIfInBounds_toArray, List.set_cons_zero, List.set_cons_succ, i64_w, i32_w]
        rfl
       refine take_ (i := 3) (N := some 103) (v := ?_) (a' := ?_) #[true, true, true, true, true, false, false, false, false, false] rfl rfl (by kernel_rfl) (fun _ _ _ h => h) (Or.inl ⟨by rfl, ?_⟩) hHeld ?_ ?_
       rotate_left
       ·rintro w' ⟨s0, s1⟩
        go_simp
        with_reducible rfl
       rotate_left
       ·simp only [Act.put, List.setIfInBounds_toArray, List.set_cons_zero, List.set_cons_succ, i64_w, i32_w]
        rfl
       refine one_ (i := 5) (N := some 105) #[true, true, true, true, true, true, false, false, false, false] rfl rfl (by kernel_rfl) (by decide) (fun K hK => ?_)
       refine goes_ Tryd.func56 (by kernel_rfl) rfl #[.pointer (some ⟨b, 0, none⟩)] (by rfl) rfl rfl (by simp only [List.map_toArray, List.map_cons, List.map_nil]; rfl) ?_
       with_reducible refine (gsize_any _ _ b _ _ _ hHeld.2.gi).mono ?_
       rintro e w9 ⟨rfl, hb⟩
       refine ⟨_, rfl, ?_⟩
       have z10 := RdD.below hHeld.2 hb
       clear hb
       refine hK.out _ _ ⟨z10.c4, z10⟩ (fun hHeld => ?_)
       clear hK K
       refine norm_ (a' := ?_) ?_ ?_
       rotate_left
       ·show Act.put _ (some 105) _ = _
        simp only [Act.put, List.setIfInBounds_toArray, List.set_cons_zero, List.set_cons_succ, i64_w, i32_w]
        rfl
       refine pure_ (i := 6) (N := some 106) (v := ?_) (a' := ?_) #[true, true, true, true, true, true, true, false, false, false] rfl rfl (by kernel_rfl) (fun _ _ _ h => h) (Or.inl ⟨by rfl, ?_⟩) ?_ ?_
       rotate_left
       ·intro w'
        go_simp
        with_reducible rfl
       rotate_left
       ·simp only [Act.put, List.setIfInBounds_toArray, List.set_cons_zero, List.set_cons_succ, i64_w, i32_w]
        rfl
       refine pure_ (i := 7) (N := some 107) (v := ?_) (a' := ?_) #[true, true, true, true, true, true, true, true, false, false] rfl rfl (by kernel_rfl) (fun _ _ _ h => h) (Or.inl ⟨by rfl, ?_⟩) ?_ ?_
       rotate_left
       ·intro w'
        go_simp
        with_reducible rfl
       rotate_left
       ·simp only [Act.put, List.setIfInBounds_toArray, List.set_cons_zero, List.set_cons_succ, i64_w, i32_w]
        rfl
       refine pure_ (i := 8) (N := some 108) (v := ?_) (a' := ?_) #[true, true, true, true, true, true, true, true, true, false] rfl rfl (by kernel_rfl) (fun _ _ _ h => h) (Or.inl ⟨by rfl, ?_⟩) ?_ ?_
       rotate_left
       ·intro w'
        go_simp
        with_reducible rfl
       rotate_left
       ·simp only [Act.put, List.setIfInBounds_toArray, List.set_cons_zero, List.set_cons_succ, i64_w, i32_w]
        rfl
       refine last_ (i := 9) (N := none) #[true, true, true, true, true, true, true, true, true, true] rfl rfl (by kernel_rfl) (by decide) (fun K hK => ?_)
       have Z9 := Aside0.mk hHeld.2
       have hc9 := hHeld.1
       have fz := blk_frozen hHeld.2.bl 4
       refine skip_ (w1 := ?_) (by rfl) rfl ?_ ?_
       rotate_left
       ·go_simp
        rfl
       refine hK.out _ _ ?_
       clear hK K
       refine done_ (by kernel_rfl) ?_

       have HB9 := Aside0.mk (Below.trans HB8.out (Below.mono Z9.out.bel HB8.out.size))
       have HE9 := Aside0.mk (ErrIs.put (HER.out.below HB9.out) Z9.out.bl (.int .i64 ((gs.length : Int) - 1 + sI + (T.length : Int))))
       have HW9 := Aside0.mk ((below_step HB.out HB9.out).setCell (p := ⟨w2.heap.size, 4, none⟩) LW.out (.int .i64 ((gs.length : Int) - 1 + sI + (T.length : Int))))
       have HX9 := Aside0.mk ((Below.trans HX.out (Below.mono HB9.out HX.out.size)).setCell (p := ⟨w2.heap.size, 4, none⟩) (Nat.le_refl _) (.int .i64 ((gs.length : Int) - 1 + sI + (T.length : Int))))
       have BL9 := Aside0.mk (blk_put Z9.out.bl 4 (.int .i64 ((gs.length : Int) - 1 + sI + (T.length : Int))) rfl)
       have RL := Aside0.mk (show rlen (rdG gs i) = (T.length : Int) by unfold rlen rwOf rdG; rw [HY.out, ← HT.out])
       clear hc9 fz hHeld z9 z10
       obtain ⟨w10, e10⟩ : ∃ z, w9.setCell ⟨w2.heap.size, 4, none⟩ (.int .i64 ((gs.length : Int) - 1 + sI + (T.length : Int))) = z := ⟨_, rfl⟩
       rw [e10] at HE9 HW9 HX9 BL9
       have q4 : w10.cell? ⟨w2.heap.size, 4, none⟩ = some (.int .i64 ((gs.length : Int) - 1 + sI + (T.length : Int))) := (blk_cell BL9.out 4).trans rfl
       have E10 := Aside0.mk e10
       rw [e10]
       clear e10
       by_cases big : 8192 < (gs.length : Int) - 1 + sI + (T.length : Int)
       ·have b9 : decide (8192 < (gs.length : Int) - 1 + sI + (T.length : Int)) = true := decide_eq_true big
        have BIG := Aside0.mk big
        clear big
        go_wp2
        refine bodyPost_ret (results_list (rs := [.tmp 2, .tmp 3]) rfl (by simp) (.tmp (.tmp .nil))) rfl ?_
        exact bad_post (fun h => by
         have := (h.2.2 i ci).2.2.2
         rw [sumR_take gs i ci, HSI.out, RL.out] at this
         have := BIG.out
         omega) HW9.out HE9.out
       ·have b9 : decide (8192 < (gs.length : Int) - 1 + sI + (T.length : Int)) = false := decide_eq_false big
        have BIG := Aside0.mk big
        clear big
        have HPR := Aside0.mk (show Kd.R V.KV 90 w10 w2.heap.size (fun k => k ≠ w2.heap.size) (.slice A6 (pvs ps).length c6) (pvs ps) by
         rw [← E10.out]
         exact Kd.R_far (p := ⟨w2.heap.size, 4, none⟩) (Kd.R_below HRW.out.pr HB9.out) (fun _ h => h) _)
        have LT := Aside0.mk (Array.getElem?_eq_some_iff.1 BL9.out).1
        have PL := Aside0.mk (show (pvs ps).length ≤ 8193 by rw [pvs_length, HRW.out.lp]; have := HD.out.1.2; omega)
        go_wp2_with ((with_reducible refine gate_builtin (b := .append) (xs := #[.tmp 117, .tmp 119]) rfl ?_); at_builtin; refine V.app_ptr w2 (fun k => k ≠ w2.heap.size) rfl (.tmp 117) (.tmp 119) 85 90 (.pointer none) 8 rfl Tryd.underlying85 QBase.infoP rfl (by decide) _ rfl (pvs ps) [some b] _ 1 1 rfl rfl (Kd.R_alloc HPR.out _) (V.one_reads w10 (some b) _) (fun k hk e => by have h1 := LT.out; have h2 : w10.heap.size ≤ k := Nat.le_trans ((Below.refl _ w10).alloc (Nat.le_refl _) (.cells #[.pointer (some ⟨b, 0, none⟩)] 90)).size hk; omega) (HX9.out.alloc HX9.out.size _) (by have := PL.out; simp only [List.length_singleton]; omega) ?_; intro v11 w11 hr11 hb11 hg11 ho11; have HR11 := Aside0.mk hr11; have HB11 := Aside0.mk hb11; have HG11 := Aside0.mk hg11; have HO11 := Aside0.mk ho11; clear hr11 hb11 hg11 ho11)
        go_roundg (gs.length - (i + 1))
        case measure => have := HK.out; omega
        case rel =>
         obtain ⟨Sb, hSb0, hlo⟩ := F.GapF.of Z9.out.gi
         have hlo2 : ∀ k ∈ Sb, wr.heap.size ≤ k := fun k hk => Nat.le_trans HB5.out.size (hlo k hk)
         have hSb := gf_low hSb0 (show w2.heap.size ≤ w5.heap.size from Nat.le_trans HX.out.size HB5.out.size)
         have U0 : UpdS (w2.heap.size :: (Value.slice A6 (pvs ps).length c6).ownBlock.toList) w9 w10 := by rw [← E10.out]; exact (UpdS.refl _ _).setCell (p := ⟨w2.heap.size, 4, none⟩) (.inl (by simp)) _
         have U : UpdS (w2.heap.size :: (Value.slice A6 (pvs ps).length c6).ownBlock.toList) w9 w11 := by
          exact (U0.alloc _).grown HG11.out (fun k hk => .inl (List.mem_cons_of_mem _ (by have h2 : (Value.slice A6 (pvs ps).length c6).ownBlock = some k := hk; rw [h2]; simp)))
         have hst := HRW.out.step (Array.getElem?_eq_some_iff.1 HBL.out).1 HB9.out (show rwOf (rdG gs i) = (T, y.f1.toNat, (y.f2 - y.f1).toNat) by unfold rwOf rdG; rw [HY.out, HT.out]) hSb hlo2 (Nat.le_trans U0.size ((Below.refl _ w10).alloc (Nat.le_refl _) (.cells #[.pointer (some ⟨b, 0, none⟩)] 90)).size) U HR11.out HO11.out
         have sT : sumR (gs.take (i + 1)) = sI + (T.length : Int) := by rw [sumR_take gs i ci, HSI.out, RL.out]
         have bl11 : w11.heap[w2.heap.size]? = some (.cells #[.slice none 0 0, .int .i64 0, .int .i64 0, .slice none 0 0, .int .i64 ((gs.length : Int) - 1 + sumR (gs.take (i + 1)))] 89 (0, 0)) := by
          rw [sT, ← Int.add_assoc]
          exact (HG11.out.block _ (Nat.lt_of_lt_of_le LT.out ((Below.refl _ w10).alloc (Nat.le_refl _) (.cells #[.pointer (some ⟨b, 0, none⟩)] 90)).size) (fun e => HRW.out.pr.1 _ e.symm rfl)).trans (blk_below BL9.out ((Below.refl _ w10).alloc (Nat.le_refl _) (.cells #[.pointer (some ⟨b, 0, none⟩)] 90)))
         refine ⟨⟨i + 1, ps ++ [b], Ss ++ [Sb], by go_num, by have := HK.out; omega, hst, bl11, fun j hj => ?_⟩, HB11.out⟩
         ·by_cases e : j < i
          ·exact HOK.out j e
          ·obtain rfl : j = i := by omega
           refine ⟨?_, ?_, fun _ => by rw [HZZ.out, HZ1.out, HSI.out], ?_⟩
           ·have := OKG.out; unfold rdG; rw [HY.out]; exact this
           ·have := NL.out; unfold rdG; rw [HY.out]; exact this
           ·rw [sT]; have := BIG.out; omega
      ·have z1 : (z != sI + (i : Int)) = true := by simp [hz]
       have HZ1 := Aside0.mk hz
       clear hz
       go_wp2
       refine bodyPost_ret (results_list (rs := [.tmp 2, .tmp 3]) rfl (by simp) (.tmp (.tmp .nil))) rfl ?_
       exact bad_post (fun h => HZ1.out (by have := (h.2.2 i ci).2.2.1 HSI2.out; rw [HZZ.out, HSI.out] at this; exact this)) (below_step HB.out (HB7.out.drew)) (HER.out.below (HB7.out.drew))
     ·have d1 : decide ((i : Int) < (st.length : Int)) = false := decide_eq_false (by omega)
      have d2 : decide (i < st.length) = false := decide_eq_false hs
      have HSI2 := Aside0.mk hs
      clear hs
      refine start_ (n := 24) (S := fun w' => w'.cell? ⟨w.heap.size, 0, none⟩ = some (.slice (some ad) gs.length c0) ∧ w'.cell? ⟨w.heap.size, 1, none⟩ = some (.slice A1 st.length c1) ∧ w'.cell? ⟨w2.heap.size, 4, none⟩ = some (.int .i64 ((gs.length : Int) - 1 + sI))) (ds := []) #[false, false, false, false, false, false, false, false, false, false, false, false, false, false, false, false, false, false, false, false, false, false, false, false] (by kernel_rfl) rfl rfl ⟨C0.out, C1.out, C4.out⟩ (fun hHeld => ?_)
      refine pure_ (i := 0) (N := some 73) (v := ?_) (a' := ?_) #[true, false, false, false, false, false, false, false, false, false, false, false, false, false, false, false, false, false, false, false, false, false, false, false] rfl rfl (by kernel_rfl) (fun _ _ _ h => h) (Or.inl ⟨by rfl, ?_⟩) ?_ ?_
      rotate_left
      ·intro w'
       go_simp
       with_reducible rfl
      rotate_left
      ·simp only [Act.put, List.setIfInBounds_toArray, List.set_cons_zero, List.set_cons_succ, i64_w, i32_w]
       rfl
      refine pure_ (i := 1) (N := some 74) (v := ?_) (a' := ?_) #[true, true, false, false, false, false, false, false, false, false, false, false, false, false, false, false, false, false, false, false, false, false, false, false] rfl rfl (by kernel_rfl) (fun _ _ _ h => h) (Or.inl ⟨by rfl, ?_⟩) ?_ ?_
      rotate_left
      ·intro w'
       go_simp
       with_reducible rfl
      rotate_left
      ·simp only [Act.put, List.setIfInBounds_toArray, List.set_cons_zero, List.set_cons_succ, i64_w, i32_w]
       rfl
      refine take_ (i := 2) (N := some 75) (v := ?_) (a' := ?_) #[true, true, true, false, false, false, false, false, false, false, false, false, false, false, false, false, false, false, false, false, false, false, false, false] rfl rfl (by kernel_rfl) (fun _ _ _ h => h) (Or.inl ⟨by rfl, ?_⟩) hHeld ?_ ?_
      rotate_left
      ·rintro w' ⟨s0, s1, s2⟩
       go_simp
       with_reducible rfl
      rotate_left
      ·simp only [Act.put, List.setIfInBounds_toArray, List.set_cons_zero, List.set_cons_succ, i64_w, i32_w]
       rfl
      refine pure_ (i := 3) (N := some 76) (v := ?_) (a' := ?_) #[true, true, true, true, false, false, false, false, false, false, false, false, false, false, false, false, false, false, false, false, false, false, false, false] rfl rfl (by kernel_rfl) (fun _ _ _ h => h) (Or.inl ⟨by rfl, ?_⟩) ?_ ?_
      rotate_left
      ·intro w'
       go_simp
       with_reducible rfl
      rotate_left
      ·simp only [Act.put, List.setIfInBounds_toArray, List.set_cons_zero, List.set_cons_succ, i64_w, i32_w]
       rfl
      refine pure_ (i := 4) (N := some 77) (v := ?_) (a' := ?_) #[true, true, true, true, true, false, false, false, false, false, false, false, false, false, false, false, false, false, false, false, false, false, false, false] rfl rfl (by kernel_rfl) (fun _ _ _ h => h) (Or.inl ⟨by rfl, ?_⟩) ?_ ?_
      rotate_left
      ·intro w'
       go_simp
       with_reducible rfl
      rotate_left
      ·simp only [Act.put, List.setIfInBounds_toArray, List.set_cons_zero, List.set_cons_succ, i64_w, i32_w]
       rfl
      refine pure_ (i := 5) (N := some 78) (v := ?_) (a' := ?_) #[true, true, true, true, true, true, false, false, false, false, false, false, false, false, false, false, false, false, false, false, false, false, false, false] rfl rfl (by kernel_rfl) (fun _ _ _ h => h) (Or.inl ⟨by rfl, ?_⟩) ?_ ?_
      rotate_left
      ·intro w'
       go_simp
       with_reducible rfl
      rotate_left
      ·simp only [Act.put, List.setIfInBounds_toArray, List.set_cons_zero, List.set_cons_succ, i64_w, i32_w]
       rfl
      refine pure_ (i := 6) (N := some 79) (v := undef) (a' := ?_) #[true, true, true, true, true, true, true, false, false, false, false, false, false, false, false, false, false, false, false, false, false, false, false, false] rfl rfl (by kernel_rfl) (fun _ _ _ h => h) (Or.inr ⟨by rfl, rfl⟩) ?_ ?_
      rotate_left
      ·simp only [Act.put, List.setIfInBounds_toArray, List.set_cons_zero, List.set_cons_succ, i64_w, i32_w]
       rfl
      refine pure_ (i := 7) (N := some 80) (v := undef) (a' := ?_) #[true, true, true, true, true, true, true, true, false, false, false, false, false, false, false, false, false, false, false, false, false, false, false, false] rfl rfl (by kernel_rfl) (fun _ _ _ h => h) (Or.inr ⟨by rfl, rfl⟩) ?_ ?_
      rotate_left
      ·simp only [Act.put, List.setIfInBounds_toArray, List.set_cons_zero, List.set_cons_succ, i64_w, i32_w]
       rfl
      refine pure_ (i := 8) (N := some 81) (v := undef) (a' := ?_) #[true, true, true, true, true, true, true, true, true, false, false, false, false, false, false, false, false, false, false, false, false, false, false, false] rfl rfl (by kernel_rfl) (fun _ _ _ h => h) (Or.inr ⟨by rfl, rfl⟩) ?_ ?_
      rotate_left
      ·simp only [Act.put, List.setIfInBounds_toArray, List.set_cons_zero, List.set_cons_succ, i64_w, i32_w]
       rfl
      refine pure_ (i := 9) (N := some 82) (v := undef) (a' := ?_) #[true, true, true, true, true, true, true, true, true, true, false, false, false, false, false, false, false, false, false, false, false, false, false, false] rfl rfl (by kernel_rfl) (fun _ _ _ h => h) (Or.inr ⟨by rfl, rfl⟩) ?_ ?_
      rotate_left
      ·simp only [Act.put, List.setIfInBounds_toArray, List.set_cons_zero, List.set_cons_succ, i64_w, i32_w]
       rfl
      refine pure_ (i := 10) (N := some 83) (v := undef) (a' := ?_) #[true, true, true, true, true, true, true, true, true, true, true, false, false, false, false, false, false, false, false, false, false, false, false, false] rfl rfl (by kernel_rfl) (fun _ _ _ h => h) (Or.inr ⟨by rfl, rfl⟩) ?_ ?_
      rotate_left
      ·simp only [Act.put, List.setIfInBounds_toArray, List.set_cons_zero, List.set_cons_succ, i64_w, i32_w]
       rfl
      refine pure_ (i := 11) (N := some 84) (v := undef) (a' := ?_) #[true, true, true, true, true, true, true, true, true, true, true, true, false, false, false, false, false, false, false, false, false, false, false, false] rfl rfl (by kernel_rfl) (fun _ _ _ h => h) (Or.inr ⟨by rfl, rfl⟩) ?_ ?_
      rotate_left
      ·simp only [Act.put, List.setIfInBounds_toArray, List.set_cons_zero, List.set_cons_succ, i64_w, i32_w]
       rfl
      refine pure_ (i := 12) (N := some 85) (v := undef) (a' := ?_) #[true, true, true, true, true, true, true, true, true, true, true, true, true, false, false, false, false, false, false, false, false, false, false, false] rfl rfl (by kernel_rfl) (fun _ _ _ h => h) (Or.inr ⟨by rfl, rfl⟩) ?_ ?_
      rotate_left
      ·simp only [Act.put, List.setIfInBounds_toArray, List.set_cons_zero, List.set_cons_succ, i64_w, i32_w]
       rfl
      refine pure_ (i := 13) (N := some 86) (v := undef) (a' := ?_) #[true, true, true, true, true, true, true, true, true, true, true, true, true, true, false, false, false, false, false, false, false, false, false, false] rfl rfl (by kernel_rfl) (fun _ _ _ h => h) (Or.inr ⟨by rfl, rfl⟩) ?_ ?_
      rotate_left
      ·simp only [Act.put, List.setIfInBounds_toArray, List.set_cons_zero, List.set_cons_succ, i64_w, i32_w]
       rfl
      refine pure_ (i := 14) (N := some 87) (v := undef) (a' := ?_) #[true, true, true, true, true, true, true, true, true, true, true, true, true, true, true, false, false, false, false, false, false, false, false, false] rfl rfl (by kernel_rfl) (fun _ _ _ h => h) (Or.inr ⟨by rfl, rfl⟩) ?_ ?_
      rotate_left
      ·simp only [Act.put, List.setIfInBounds_toArray, List.set_cons_zero, List.set_cons_succ, i64_w, i32_w]
       rfl
      refine pure_ (i := 15) (N := some 88) (v := undef) (a' := ?_) #[true, true, true, true, true, true, true, true, true, true, true, true, true, true, true, true, false, false, false, false, false, false, false, false] rfl rfl (by kernel_rfl) (fun _ _ _ h => h) (Or.inr ⟨by rfl, rfl⟩) ?_ ?_
      rotate_left
      ·simp only [Act.put, List.setIfInBounds_toArray, List.set_cons_zero, List.set_cons_succ, i64_w, i32_w]
       rfl
      refine pure_ (i := 16) (N := some 89) (v := undef) (a' := ?_) #[true, true, true, true, true, true, true, true, true, true, true, true, true, true, true, true, true, false, false, false, false, false, false, false] rfl rfl (by kernel_rfl) (fun _ _ _ h => h) (Or.inr ⟨by rfl, rfl⟩) ?_ ?_
      rotate_left
      ·simp only [Act.put, List.setIfInBounds_toArray, List.set_cons_zero, List.set_cons_succ, i64_w, i32_w]
       rfl
      refine pure_ (i := 17) (N := some 90) (v := undef) (a' := ?_) #[true, true, true, true, true, true, true, true, true, true, true, true, true, true, true, true, true, true, false, false, false, false, false, false] rfl rfl (by kernel_rfl) (fun _ _ _ h => h) (Or.inr ⟨by rfl, rfl⟩) ?_ ?_
      rotate_left
      ·simp only [Act.put, List.setIfInBounds_toArray, List.set_cons_zero, List.set_cons_succ, i64_w, i32_w]
       rfl
      refine pure_ (i := 18) (N := some 91) (v := undef) (a' := ?_) #[true, true, true, true, true, true, true, true, true, true, true, true, true, true, true, true, true, true, true, false, false, false, false, false] rfl rfl (by kernel_rfl) (fun _ _ _ h => h) (Or.inr ⟨by rfl, rfl⟩) ?_ ?_
      rotate_left
      ·simp only [Act.put, List.setIfInBounds_toArray, List.set_cons_zero, List.set_cons_succ, i64_w, i32_w]
       rfl
      refine pure_ (i := 19) (N := some 92) (v := undef) (a' := ?_) #[true, true, true, true, true, true, true, true, true, true, true, true, true, true, true, true, true, true, true, true, false, false, false, false] rfl rfl (by kernel_rfl) (fun _ _ _ h => h) (Or.inr ⟨by rfl, rfl⟩) ?_ ?_
      rotate_left
      ·simp only [Act.put, List.setIfInBounds_toArray, List.set_cons_zero, List.set_cons_succ, i64_w, i32_w]
       rfl
      refine pure_ (i := 20) (N := some 93) (v := undef) (a' := ?_) #[true, true, true, true, true, true, true, true, true, true, true, true, true, true, true, true, true, true, true, true, true, false, false, false] rfl rfl (by kernel_rfl) (fun _ _ _ h => h) (Or.inr ⟨by rfl, rfl⟩) ?_ ?_
      rotate_left
      ·simp only [Act.put, List.setIfInBounds_toArray, List.set_cons_zero, List.set_cons_succ, i64_w, i32_w]
       rfl
      refine pure_ (i := 21) (N := some 94) (v := undef) (a' := ?_) #[true, true, true, true, true, true, true, true, true, true, true, true, true, true, true, true, true, true, true, true, true, true, false, false] rfl rfl (by kernel_rfl) (fun _ _ _ h => h) (Or.inr ⟨by rfl, rfl⟩) ?_ ?_
      rotate_left
      ·simp only [Act.put, List.setIfInBounds_toArray, List.set_cons_zero, List.set_cons_succ, i64_w, i32_w]
       rfl
      refine pure_ (i := 22) (N := some 95) (v := undef) (a' := ?_) #[true, true, true, true, true, true, true, true, true, true, true, true, true, true, true, true, true, true, true, true, true, true, true, false] rfl rfl (by kernel_rfl) (fun _ _ _ h => h) (Or.inr ⟨by rfl, rfl⟩) ?_ ?_
      rotate_left
      ·simp only [Act.put, List.setIfInBounds_toArray, List.set_cons_zero, List.set_cons_succ, i64_w, i32_w]
       rfl
      refine pure_ (i := 23) (N := some 96) (v := ?_) (a' := ?_) #[true, true, true, true, true, true, true, true, true, true, true, true, true, true, true, true, true, true, true, true, true, true, true, true] rfl rfl (by kernel_rfl) (fun _ _ _ h => h) (Or.inl ⟨by rfl, ?_⟩) ?_ ?_
      rotate_left
      ·intro w'
       go_simp
       with_reducible rfl
      rotate_left
      ·simp only [Act.put, List.setIfInBounds_toArray, List.set_cons_zero, List.set_cons_succ, i64_w, i32_w]
       rfl
      refine done_ (by kernel_rfl) ?_
      clear hHeld
      go_wp2
      obtain ⟨w8, e8⟩ : ∃ z, w7.drew = z := ⟨_, rfl⟩
      have HB8 := Aside0.mk (show Below wr.heap.size wr w8 by rw [← e8]; exact HB7.out.drew)
      obtain ⟨T, HT⟩ : ∃ T, Aside0 (y.f0.take y.f1.toNat ++ y.f0.drop y.f2.toNat = T) := ⟨_, ⟨rfl⟩⟩
      have gi8 : GapIs w8 w5.heap.size b T y.f1.toNat (y.f2 - y.f1).toNat := by rw [← e8, ← HT.out]; exact HGI7.out.below (Below.refl _ w7).drew
      have z9 : RdD w5.heap.size b T y.f1.toNat (y.f2 - y.f1).toNat w2.heap.size ((gs.length : Int) - 1 + sI) w8 w8 := ⟨gi8, by rw [← e8]; exact HBL7.out, Below.refl _ _⟩
      have hT1 : T.length ≤ 1000000 := by have := gi8.2.2.1; omega
      have s5 : IntKind.i64.wrap ((gs.length : Int) - 1 + sI + (T.length : Int)) = (gs.length : Int) - 1 + sI + (T.length : Int) := by rw [IntKind.wrap_i64]; omega
      rw [e8]
      clear e8 C0 C1 C4 gi8
      refine start_ (n := 10) (S := fun w' => w'.cell? ⟨w2.heap.size, 4, none⟩ = some (.int .i64 ((gs.length : Int) - 1 + sI)) ∧ RdD w5.heap.size b T (y.f1.toNat) ((y.f2 - y.f1).toNat) w2.heap.size ((gs.length : Int) - 1 + sI) w8 w') (ds := [9]) #[false, false, false, false, false, false, false, false, false, false] (by kernel_rfl) rfl rfl ⟨z9.drew.c4, z9.drew⟩ (fun hHeld => ?_)
      refine pure_ (i := 0) (N := some 100) (v := ?_) (a' := ?_) #[true, false, false, false, false, false, false, false, false, false] rfl rfl (by kernel_rfl) (fun _ _ _ h => h) (Or.inl ⟨by rfl, ?_⟩) ?_ ?_
      rotate_left
      ·intro w'
       go_simp
       with_reducible rfl
      rotate_left
      ·simp only [Act.put, List.setIfInBounds_toArray, List.set_cons_zero, List.set_cons_succ, i64_w, i32_w]
       rfl
      refine pure_ (i := 1) (N := some 101) (v := ?_) (a' := ?_) #[true, true, false, false, false, false, false, false, false, false] rfl rfl (by kernel_rfl) (fun _ _ _ h => h) (Or.inl ⟨by rfl, ?_⟩) ?_ ?_
      rotate_left
      ·intro w'
       go_simp
       with_reducible rfl
      rotate_left
      ·simp only [Act.put, List.setIfInBounds_toArray, List.set_cons_zero, List.set_cons_succ, i64_w, i32_w]
       rfl
      refine pure_ (i := 2) (N := some 102) (v := ?_) (a' := ?_) #[true, true, true, false, false, false, false, false, false, false] rfl rfl (by kernel_rfl) (fun _ _ _ h => h) (Or.inl ⟨by rfl, ?_⟩) ?_ ?_
      rotate_left
      ·intro w'
       go_simp
       with_reducible rfl
      rotate_left
      ·simp only [Act.put, List.setIfInBounds_toArray, List.set_cons_zero, List.set_cons_succ, i64_w, i32_w]
       rfl
      refine pure_ (i := 4) (N := some 104) (v := ?_) (a' := ?_) #[true, true, true, false, true, false, false, false, false, false] rfl rfl (by kernel_rfl) (fun _ _ _ h => h) (Or.inl ⟨by rfl, ?_⟩) ?_ ?_
      rotate_left
      ·intro w'
       go_simp
       with_reducible rfl
      rotate_left
      ·simp only [Act.put, List.setIfInBounds_toArray, List.set_cons_zero, List.set_cons_succ, i64_w, i32_w]
       rfl
      refine take_ (i := 3) (N := some 103) (v := ?_) (a' := ?_) #[true, true, true, true, true, false, false, false, false, false] rfl rfl (by kernel_rfl) (fun _ _ _ h => h) (Or.inl ⟨by rfl, ?_⟩) hHeld ?_ ?_
      rotate_left
      ·rintro w' ⟨s0, s1⟩
       go_simp
       with_reducible rfl
      rotate_left
      ·simp only [Act.put, List.setIfInBounds_toArray, List.set_cons_zero, List.set_cons_succ, i64_w, i32_w]
       rfl
      refine one_ (i := 5) (N := some 105) #[true, true, true, true, true, true, false, false, false, false] rfl rfl (by kernel_rfl) (by decide) (fun K hK => ?_)
      refine goes_ Tryd.func56 (by kernel_rfl) rfl #[.pointer (some ⟨b, 0, none⟩)] (by rfl) rfl rfl (by simp only [List.map_toArray, List.map_cons, List.map_nil]; rfl) ?_
      with_reducible refine (gsize_any _ _ b _ _ _ hHeld.2.gi).mono ?_
      rintro e w9 ⟨rfl, hb⟩
      refine ⟨_, rfl, ?_⟩
      have z10 := RdD.below hHeld.2 hb
      clear hb
      refine hK.out _ _ ⟨z10.c4, z10⟩ (fun hHeld => ?_)
      clear hK K
      refine norm_ (a' := ?_) ?_ ?_
      rotate_left
      ·show Act.put _ (some 105) _ = _
       simp only [Act.put, List.setIfInBounds_toArray, List.set_cons_zero, List.set_cons_succ, i64_w, i32_w]
       rfl
      refine pure_ (i := 6) (N := some 106) (v := ?_) (a' := ?_) #[true, true, true, true, true, true, true, false, false, false] rfl rfl (by kernel_rfl) (fun _ _ _ h => h) (Or.inl ⟨by rfl, ?_⟩) ?_ ?_
      rotate_left
      ·intro w'
       go_simp
       with_reducible rfl
      rotate_left
      ·simp only [Act.put, List.setIfInBounds_toArray, List.set_cons_zero, List.set_cons_succ, i64_w, i32_w]
       rfl
      refine pure_ (i := 7) (N := some 107) (v := ?_) (a' := ?_) #[true, true, true, true, true, true, true, true, false, false] rfl rfl (by kernel_rfl) (fun _ _ _ h => h) (Or.inl ⟨by rfl, ?_⟩) ?_ ?_
      rotate_left
      ·intro w'
       go_simp
       with_reducible rfl
      rotate_left
      ·simp only [Act.put, List.setIfInBounds_toArray, List.set_cons_zero, List.set_cons_succ, i64_w, i32_w]
       rfl
      refine pure_ (i := 8) (N := some 108) (v := ?_) (a' := ?_) #[true, true, true, true, true, true, true, true, true, false] rfl rfl (by kernel_rfl) (fun _ _ _ h => h) (Or.inl ⟨by rfl, ?_⟩) ?_ ?_
      rotate_left
      ·intro w'
       go_simp
       with_reducible rfl
      rotate_left
      ·simp only [Act.put, List.setIfInBounds_toArray, List.set_cons_zero, List.set_cons_succ, i64_w, i32_w]
       rfl
      refine last_ (i := 9) (N := none) #[true, true, true, true, true, true, true, true, true, true] rfl rfl (by kernel_rfl) (by decide) (fun K hK => ?_)
      have Z9 := Aside0.mk hHeld.2
      have hc9 := hHeld.1
      have fz := blk_frozen hHeld.2.bl 4
      refine skip_ (w1 := ?_) (by rfl) rfl ?_ ?_
      rotate_left
      ·go_simp
       rfl
      refine hK.out _ _ ?_
      clear hK K
      refine done_ (by kernel_rfl) ?_

      have HB9 := Aside0.mk (Below.trans HB8.out (Below.mono Z9.out.bel HB8.out.size))
      have HE9 := Aside0.mk (ErrIs.put (HER.out.below HB9.out) Z9.out.bl (.int .i64 ((gs.length : Int) - 1 + sI + (T.length : Int))))
      have HW9 := Aside0.mk ((below_step HB.out HB9.out).setCell (p := ⟨w2.heap.size, 4, none⟩) LW.out (.int .i64 ((gs.length : Int) - 1 + sI + (T.length : Int))))
      have HX9 := Aside0.mk ((Below.trans HX.out (Below.mono HB9.out HX.out.size)).setCell (p := ⟨w2.heap.size, 4, none⟩) (Nat.le_refl _) (.int .i64 ((gs.length : Int) - 1 + sI + (T.length : Int))))
      have BL9 := Aside0.mk (blk_put Z9.out.bl 4 (.int .i64 ((gs.length : Int) - 1 + sI + (T.length : Int))) rfl)
      have RL := Aside0.mk (show rlen (rdG gs i) = (T.length : Int) by unfold rlen rwOf rdG; rw [HY.out, ← HT.out])
      clear hc9 fz hHeld z9 z10
      obtain ⟨w10, e10⟩ : ∃ z, w9.setCell ⟨w2.heap.size, 4, none⟩ (.int .i64 ((gs.length : Int) - 1 + sI + (T.length : Int))) = z := ⟨_, rfl⟩
      rw [e10] at HE9 HW9 HX9 BL9
      have q4 : w10.cell? ⟨w2.heap.size, 4, none⟩ = some (.int .i64 ((gs.length : Int) - 1 + sI + (T.length : Int))) := (blk_cell BL9.out 4).trans rfl
      have E10 := Aside0.mk e10
      rw [e10]
      clear e10
      by_cases big : 8192 < (gs.length : Int) - 1 + sI + (T.length : Int)
      ·have b9 : decide (8192 < (gs.length : Int) - 1 + sI + (T.length : Int)) = true := decide_eq_true big
       have BIG := Aside0.mk big
       clear big
       go_wp2
       refine bodyPost_ret (results_list (rs := [.tmp 2, .tmp 3]) rfl (by simp) (.tmp (.tmp .nil))) rfl ?_
       exact bad_post (fun h => by
        have := (h.2.2 i ci).2.2.2
        rw [sumR_take gs i ci, HSI.out, RL.out] at this
        have := BIG.out
        omega) HW9.out HE9.out
      ·have b9 : decide (8192 < (gs.length : Int) - 1 + sI + (T.length : Int)) = false := decide_eq_false big
       have BIG := Aside0.mk big
       clear big
       have HPR := Aside0.mk (show Kd.R V.KV 90 w10 w2.heap.size (fun k => k ≠ w2.heap.size) (.slice A6 (pvs ps).length c6) (pvs ps) by
        rw [← E10.out]
        exact Kd.R_far (p := ⟨w2.heap.size, 4, none⟩) (Kd.R_below HRW.out.pr HB9.out) (fun _ h => h) _)
       have LT := Aside0.mk (Array.getElem?_eq_some_iff.1 BL9.out).1
       have PL := Aside0.mk (show (pvs ps).length ≤ 8193 by rw [pvs_length, HRW.out.lp]; have := HD.out.1.2; omega)
       go_wp2_with ((with_reducible refine gate_builtin (b := .append) (xs := #[.tmp 117, .tmp 119]) rfl ?_); at_builtin; refine V.app_ptr w2 (fun k => k ≠ w2.heap.size) rfl (.tmp 117) (.tmp 119) 85 90 (.pointer none) 8 rfl Tryd.underlying85 QBase.infoP rfl (by decide) _ rfl (pvs ps) [some b] _ 1 1 rfl rfl (Kd.R_alloc HPR.out _) (V.one_reads w10 (some b) _) (fun k hk e => by have h1 := LT.out; have h2 : w10.heap.size ≤ k := Nat.le_trans ((Below.refl _ w10).alloc (Nat.le_refl _) (.cells #[.pointer (some ⟨b, 0, none⟩)] 90)).size hk; omega) (HX9.out.alloc HX9.out.size _) (by have := PL.out; simp only [List.length_singleton]; omega) ?_; intro v11 w11 hr11 hb11 hg11 ho11; have HR11 := Aside0.mk hr11; have HB11 := Aside0.mk hb11; have HG11 := Aside0.mk hg11; have HO11 := Aside0.mk ho11; clear hr11 hb11 hg11 ho11)
       go_roundg (gs.length - (i + 1))
       case measure => have := HK.out; omega
       case rel =>
        obtain ⟨Sb, hSb0, hlo⟩ := F.GapF.of Z9.out.gi
        have hlo2 : ∀ k ∈ Sb, wr.heap.size ≤ k := fun k hk => Nat.le_trans HB5.out.size (hlo k hk)
        have hSb := gf_low hSb0 (show w2.heap.size ≤ w5.heap.size from Nat.le_trans HX.out.size HB5.out.size)
        have U0 : UpdS (w2.heap.size :: (Value.slice A6 (pvs ps).length c6).ownBlock.toList) w9 w10 := by rw [← E10.out]; exact (UpdS.refl _ _).setCell (p := ⟨w2.heap.size, 4, none⟩) (.inl (by simp)) _
        have U : UpdS (w2.heap.size :: (Value.slice A6 (pvs ps).length c6).ownBlock.toList) w9 w11 := by
         exact (U0.alloc _).grown HG11.out (fun k hk => .inl (List.mem_cons_of_mem _ (by have h2 : (Value.slice A6 (pvs ps).length c6).ownBlock = some k := hk; rw [h2]; simp)))
        have hst := HRW.out.step (Array.getElem?_eq_some_iff.1 HBL.out).1 HB9.out (show rwOf (rdG gs i) = (T, y.f1.toNat, (y.f2 - y.f1).toNat) by unfold rwOf rdG; rw [HY.out, HT.out]) hSb hlo2 (Nat.le_trans U0.size ((Below.refl _ w10).alloc (Nat.le_refl _) (.cells #[.pointer (some ⟨b, 0, none⟩)] 90)).size) U HR11.out HO11.out
        have sT : sumR (gs.take (i + 1)) = sI + (T.length : Int) := by rw [sumR_take gs i ci, HSI.out, RL.out]
        have bl11 : w11.heap[w2.heap.size]? = some (.cells #[.slice none 0 0, .int .i64 0, .int .i64 0, .slice none 0 0, .int .i64 ((gs.length : Int) - 1 + sumR (gs.take (i + 1)))] 89 (0, 0)) := by
         rw [sT, ← Int.add_assoc]
         exact (HG11.out.block _ (Nat.lt_of_lt_of_le LT.out ((Below.refl _ w10).alloc (Nat.le_refl _) (.cells #[.pointer (some ⟨b, 0, none⟩)] 90)).size) (fun e => HRW.out.pr.1 _ e.symm rfl)).trans (blk_below BL9.out ((Below.refl _ w10).alloc (Nat.le_refl _) (.cells #[.pointer (some ⟨b, 0, none⟩)] 90)))
        refine ⟨⟨i + 1, ps ++ [b], Ss ++ [Sb], by go_num, by have := HK.out; omega, hst, bl11, fun j hj => ?_⟩, HB11.out⟩
        ·by_cases e : j < i
         ·exact HOK.out j e
         ·obtain rfl : j = i := by omega
          refine ⟨?_, ?_, fun h => absurd h HSI2.out, ?_⟩
          ·have := OKG.out; unfold rdG; rw [HY.out]; exact this
          ·have := NL.out; unfold rdG; rw [HY.out]; exact this
          ·rw [sT]; have := BIG.out; omega
    ·have b7 : decide (0 < nl y.f0) = true := decide_eq_true (by have := nl_le y.f0; omega)
     have NNL := Aside0.mk hnl
     clear hnl
     go_wp2
     refine bodyPost_ret (results_list (rs := [.tmp 2, .tmp 3]) rfl (by simp) (.tmp (.tmp .nil))) rfl ?_
     exact bad_post (fun h => NNL.out (by have := (h.2.2 i ci).2.1; unfold rdG at this; rw [HY.out] at this; exact this)) (below_step HB.out HB7.out) (HER.out.below HB7.out)
   ·obtain ⟨T2, x2, rfl⟩ := errIs_ev hEI
    have NOK := Aside0.mk nok
    have HB6 := Aside0.mk (below_step (below_step HB.out HB5.out) hb6)
    have HE6 := Aside0.mk ((HER.out.below HB5.out).below hb6)
    clear hEI nok hGI hb6 e5 p0 p1 p2 hx0 hx1 hx2
    simp only [ev]
    go_wp2
    refine bodyPost_ret (results_list (rs := [.tmp 2, .tmp 3]) rfl (by simp) (.tmp (.tmp .nil))) rfl ?_
    exact bad_post (fun h => NOK.out (by have := (h.2.2 i ci).1; unfold rdG at this; rw [HY.out] at this; exact this)) HB6.out HE6.out
  ·have hil : i = gs.length := by have := HK.out; omega
   subst hil
   clear ci
   obtain ⟨tot, HTOT⟩ : ∃ z, Aside0 ((gs.length : Int) - 1 + sumR gs = z) := ⟨_, ⟨rfl⟩⟩
   have hbl := HBL.out
   rw [List.take_length, HTOT.out] at hbl
   have hg0 : Aside0 (V.GapF (.slice none 0 0) (.int .i64 tot) wr w.heap.size w2.heap.size [] 0 0 [w2.heap.size]) := ⟨⟨LW.out, Nat.le_refl _, by simp, .slice none 0 0, hbl, Kd.R_nil _ _ _ _ _, rfl⟩⟩
   have hes : Aside0 (∀ W, UpdS [w2.heap.size] wr W → V.KV.C W A6 (pvs ps).length (pvs ps)) := ⟨fun W hU => (Kd.R_reads' (R_upd rfl HRW.out.pr hU (fun k hk hm => HRW.out.pr.1 k hk (by simpa using hm)))).2.2⟩
   have PL := Aside0.mk (show (pvs ps).length ≤ 8193 by rw [pvs_length, HRW.out.lp]; have := HD.out.1.2; omega)
   clear hbl
   go_wp2_with fail
   refine (V.insert_any (.slice none 0 0) (.int .i64 tot) wr w.heap.size w2.heap.size [] 0 0 0 (pvs ps) A6 c6 [w2.heap.size] hg0.out (Nat.le_refl _) (by have := PL.out; simp only [List.length_nil]; omega) (by simp) hes.out).mono ?_
   rintro e w4 ⟨rfl, ⟨S', hg4, hfr⟩, hu4⟩
   obtain ⟨gA, HGA⟩ : ∃ z, Aside0 (gapAfter ([] : List V.PV).length 0 (pvs ps).length = z) := ⟨_, ⟨rfl⟩⟩
   obtain ⟨lA, HLA⟩ : ∃ z, Aside0 (0 + (pvs ps).length = z) := ⟨_, ⟨rfl⟩⟩
   rw [HGA.out, HLA.out, show V.withIn [] (pvs ps) 0 = pvs ps by simp [V.withIn]] at hg4
   have LF4 := LF.nil LW.out HRW.out hg4 hfr hu4
   have HB4 := Aside0.mk (HB.out.trans (UpdS.bel hu4 (fun k hk => by simp only [List.mem_singleton] at hk; rw [hk]; exact LW.out) HB.out.size))
   have GB4 := (hu4.block _ (Array.getElem?_eq_some_iff.1 HGB.out).1 (by simpa using LG.out)).trans HGB.out
   have z9 : RdS w4 w.heap.size w2.heap.size w.heap.size ps (gs.map rwOf) lA gA [] tot (.slice none 0 0) S' Ss #[.slice A0 gs.length c0, .slice A1 st.length c1] w4 := ⟨LF4, GB4, Below.refl _ _⟩
   have y1 : w4.cell? ⟨w.heap.size, 1, none⟩ = some (.slice A1 st.length c1) := (blk_cell GB4 1).trans rfl
   have STL := Aside0.mk (show st.length ≤ 1000000 by have := HD.out; omega)
   clear hg4 hfr hu4 LF4 GB4
   go_wp2
   refine start_ (n := 11) (S := fun w' => w'.cell? ⟨w2.heap.size, 3, none⟩ = some (.slice none 0 0) ∧ w'.cell? ⟨w.heap.size, 1, none⟩ = some (.slice A1 st.length c1) ∧ RdS w4 w.heap.size w2.heap.size w.heap.size ps (gs.map rwOf) lA gA [] tot (.slice none 0 0) S' Ss #[.slice A0 gs.length c0, .slice A1 st.length c1] w') (ds := [7, 10]) #[false, false, false, false, false, false, false, false, false, false, false] (by kernel_rfl) rfl rfl ⟨z9.drew.c3, (blk_cell z9.drew.gb 1).trans rfl, z9.drew⟩ (fun hHeld => ?_)
   refine pure_ (i := 0) (N := some 127) (v := ?_) (a' := ?_) #[true, false, false, false, false, false, false, false, false, false, false] rfl rfl (by kernel_rfl) (fun _ _ _ h => h) (Or.inl ⟨by rfl, ?_⟩) ?_ ?_
   rotate_left
   ·intro w'
    go_simp
    with_reducible rfl
   rotate_left
   ·simp only [Act.put, List.setIfInBounds_toArray, List.set_cons_zero, List.set_cons_succ, i64_w, i32_w]
    rfl
   refine pure_ (i := 1) (N := some 128) (v := ?_) (a' := ?_) #[true, true, false, false, false, false, false, false, false, false, false] rfl rfl (by kernel_rfl) (fun _ _ _ h => h) (Or.inl ⟨by rfl, ?_⟩) ?_ ?_
   rotate_left
   ·intro w'
    go_simp
    with_reducible rfl
   rotate_left
   ·simp only [Act.put, List.setIfInBounds_toArray, List.set_cons_zero, List.set_cons_succ, i64_w, i32_w]
    rfl
   refine pure_ (i := 2) (N := some 129) (v := ?_) (a' := ?_) #[true, true, true, false, false, false, false, false, false, false, false] rfl rfl (by kernel_rfl) (fun _ _ _ h => h) (Or.inl ⟨by rfl, ?_⟩) ?_ ?_
   rotate_left
   ·intro w'
    go_simp
    with_reducible rfl
   rotate_left
   ·simp only [Act.put, List.setIfInBounds_toArray, List.set_cons_zero, List.set_cons_succ, i64_w, i32_w]
    rfl
   refine pure_ (i := 3) (N := some 130) (v := ?_) (a' := ?_) #[true, true, true, true, false, false, false, false, false, false, false] rfl rfl (by kernel_rfl) (fun _ _ _ h => h) (Or.inl ⟨by rfl, ?_⟩) ?_ ?_
   rotate_left
   ·intro w'
    go_simp
    with_reducible rfl
   rotate_left
   ·simp only [Act.put, List.setIfInBounds_toArray, List.set_cons_zero, List.set_cons_succ, i64_w, i32_w]
    rfl
   refine pure_ (i := 5) (N := some 132) (v := ?_) (a' := ?_) #[true, true, true, true, false, true, false, false, false, false, false] rfl rfl (by kernel_rfl) (fun _ _ _ h => h) (Or.inl ⟨by rfl, ?_⟩) ?_ ?_
   rotate_left
   ·intro w'
    go_simp
    with_reducible rfl
   rotate_left
   ·simp only [Act.put, List.setIfInBounds_toArray, List.set_cons_zero, List.set_cons_succ, i64_w, i32_w]
    rfl
   refine take_ (i := 4) (N := some 131) (v := ?_) (a' := ?_) #[true, true, true, true, true, true, false, false, false, false, false] rfl rfl (by kernel_rfl) (fun _ _ _ h => h) (Or.inl ⟨by rfl, ?_⟩) hHeld ?_ ?_
   rotate_left
   ·rintro w' ⟨s0, s1, s2⟩
    go_simp
    with_reducible rfl
   rotate_left
   ·simp only [Act.put, List.setIfInBounds_toArray, List.set_cons_zero, List.set_cons_succ, i64_w, i32_w]
    rfl
   refine take_ (i := 6) (N := some 133) (v := ?_) (a' := ?_) #[true, true, true, true, true, true, true, false, false, false, false] rfl rfl (by kernel_rfl) (fun _ _ _ h => h) (Or.inl ⟨by rfl, ?_⟩) hHeld ?_ ?_
   rotate_left
   ·rintro w' ⟨s0, s1, s2⟩
    go_simp
    with_reducible rfl
   rotate_left
   ·simp only [Act.put, List.setIfInBounds_toArray, List.set_cons_zero, List.set_cons_succ, i64_w, i32_w]
    rfl
   refine last_ (i := 7) (N := some 134) #[true, true, true, true, true, true, true, true, false, false, false] rfl rfl (by kernel_rfl) (by decide) (fun K hK => ?_)
   refine Kd.R_append_rows_step (Kd.int .i64) (w0 := w) w.heap.size (by rfl) (.tmp 131) (.tmp 133) 23 3 (.int .i64 0) 8 rfl Tryd.underlying23 info3 rfl (by decide) (by decide) (.slice none 0 0) [] st A1 st.length c1 (fun k => k ≠ w2.heap.size) (fun _ => False) ?sE ?xE (Kd.R_nil _ _ _ _ _) (Kd.C_below HS.out (HB4.out.trans (Below.mono hHeld.2.2.bel HB4.out.size))) (fun _ _ h => h) (fun _ h => h.elim) ?fr ?hB ?hb ?hL ?_
   case sE => rfl
   case xE => rfl
   case fr => exact fun k hk e => by have := hHeld.2.2.lf.rows.lt _ hHeld.2.2.lf.rows.mem; omega
   case hB => exact HB4.out.trans (Below.mono hHeld.2.2.bel HB4.out.size)
   case hb => exact Nat.le_trans HB4.out.size hHeld.2.2.bel.size
   case hL => have := STL.out; simp only [List.length_nil]; omega
   intro v6 w6 hR6 hb6 hg6 ho6
   rw [List.nil_append] at hR6
   obtain ⟨A60, c60, e60⟩ := Kd.R_slice hR6
   subst e60
   have Z5 := Aside0.mk hHeld.2.2
   obtain ⟨y6, f6⟩ := Z5.out.L3 hg6
   have HR6 := Aside0.mk hR6
   have HB6 := Aside0.mk hb6
   have HG6 := Aside0.mk hg6
   have HO6 := Aside0.mk ho6
   clear hR6 hb6 hg6 ho6
   refine hK.out _ _ ?_
   clear hK K
   refine norm_ (a' := ?_) ?_ ?_
   rotate_left
   ·show Act.put _ (some 134) _ = _
    simp only [Act.put, List.setIfInBounds_toArray, List.set_cons_zero, List.set_cons_succ, i64_w, i32_w]
    rfl
   refine pure_ (i := 8) (N := some 135) (v := ?_) (a' := ?_) #[true, true, true, true, true, true, true, true, true, false, false] rfl rfl (by kernel_rfl) (fun _ _ _ h => h) (Or.inl ⟨by rfl, ?_⟩) ?_ ?_
   rotate_left
   ·intro w'
    go_simp
    with_reducible rfl
   rotate_left
   ·simp only [Act.put, List.setIfInBounds_toArray, List.set_cons_zero, List.set_cons_succ, i64_w, i32_w]
    rfl
   refine pure_ (i := 9) (N := some 136) (v := ?_) (a' := ?_) #[true, true, true, true, true, true, true, true, true, true, false] rfl rfl (by kernel_rfl) (fun _ _ _ h => h) (Or.inl ⟨by rfl, ?_⟩) ?_ ?_
   rotate_left
   ·intro w'
    go_simp
    with_reducible rfl
   rotate_left
   ·simp only [Act.put, List.setIfInBounds_toArray, List.set_cons_zero, List.set_cons_succ, i64_w, i32_w]
    rfl
   refine last_ (i := 10) (N := none) #[true, true, true, true, true, true, true, true, true, true, true] rfl rfl (by kernel_rfl) (by decide) (fun K hK => ?_)
   refine skip_ (w1 := ?_) (by rfl) rfl ?_ ?_
   rotate_left
   ·go_simp
    rfl
   refine hK.out _ _ ?_
   clear hK K
   refine done_ (by kernel_rfl) ?_
   have HBF := Aside0.mk (HB6.out.setCell (p := ⟨w2.heap.size, 3, none⟩) LW.out (.slice A60 st.length c60))
   have HLF := Aside0.mk (Z5.out.lf.put ((UpdS.refl _ _).grown HG6.out (fun k hk => by simp [Value.ownBlock] at hk)) HR6.out HO6.out)
   clear hHeld
   go_wp2
   refine bodyPost_ret (results_list (rs := [.tmp 2, .tmp 3]) rfl (by simp) (.tmp (.tmp .nil))) rfl ?_
   refine ⟨HBF.out, .inl ⟨⟨HD.out.1, HD.out.2, HOK.out⟩, w2.heap.size, ps, lA, gA, .slice A60 st.length c60, S', Ss, rfl, ?_⟩⟩
   rw [HTOT.out]
   exact HLF.out
end Go.Proofs.YtamcacahjlaogaaDoor.Ln
