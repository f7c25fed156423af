/- Lines: the law's helpers, as contracts over a text in rows that is held. Conditions: the bounds. -/
import Derived.Test.YtamcacahjlaogaaDoorLm
namespace Go.Proofs.YtamcacahjlaogaaDoor.LP
open Go Go.RowKit Go.Proofs.YtamcacahjlaogaaDoor.QBaseL Go.Proofs.YtamcacahjlaogaaDoorW.PrintWords Go.Proofs.YtamcacahjlaogaaDoorW.PrintLast Go.Proofs.YtamcacahjlaogaaDoorW.PrintMore
set_option linter.unusedSimpArgs false
set_option linter.unusedVariables false
def LB (w : World) (lo : Nat) (P : Nat → Prop) (v0 v1 : Value) (xs : List S76) (st : List Int) : Prop :=
 Kd.S k76 76 w lo P v0 xs ∧ Kd.R (Kd.int .i64) 3 w lo P v1 st
section
variable {w w1 : World} {lo : Nat} {P : Nat → Prop} {v0 v1 : Value} {xs : List S76} {st : List Int}
theorem LB.form (h : LB w lo P v0 v1 xs st) : ∃ A0 c0 A1 c1, v0 = .slice A0 xs.length c0 ∧ v1 = .slice A1 st.length c1 ∧ xs.length ≤ c0 ∧ st.length ≤ c1 ∧ k76.C w A0 xs.length xs ∧ (Kd.int .i64).C w A1 st.length st := by
 obtain ⟨A0, c0, rfl⟩ := Kd.S_slice h.1
 obtain ⟨A1, c1, rfl⟩ := Kd.R_slice h.2
 have a := Kd.S_reads' h.1
 have b := Kd.R_reads' h.2
 exact ⟨A0, c0, A1, c1, rfl, rfl, a.2.1, b.2.1, a.2.2, b.2.2⟩
theorem LB.below (h : LB w lo P v0 v1 xs st) (hb : Below w.heap.size w w1) : LB w1 lo P v0 v1 xs st := ⟨Kd.S_below h.1 hb, Kd.R_below h.2 hb⟩
theorem LB.kept (h : LB w lo P v0 v1 xs st) {S : Nat → Prop} (hk : Kept w w1 S) (hn : ∀ k, P k → ¬ S k) : LB w1 lo P v0 v1 xs st := ⟨Kd.S_kept h.1 hk hn, Kd.R_kept h.2 hk hn⟩
theorem LB.bound (h : LB w lo P v0 v1 xs st) : LB w lo (fun k => P k ∧ lo ≤ k ∧ k < w.heap.size) v0 v1 xs st :=
 ⟨Kd.S_mono (Kd.S_bound h.1) (fun k hk => ⟨hk.1, hk.2.1, hk.2.2.1⟩), Kd.R_mono (Kd.R_bound h.2) (fun k hk => ⟨hk.1, hk.2.1, hk.2.2.1⟩)⟩
end
theorem szLineBuf_any (w : World) (A0 : Option Addr) (c0 : Nat) (xs : List S75) (A1 : Option Addr) (c1 : Nat) (st : List Int) (h0 : k75.C w A0 xs.length xs) (hc0 : xs.length ≤ c0) (h1 : (Kd.int .i64).C w A1 st.length st) (hc1 : st.length ≤ c1)
  (hn : xs.length ≤ 9223372036854775807) (hm : ∀ x ∈ xs, x.f0.length ≤ 9223372036854775807) (hs : st.length ≤ 9223372036854775807) :
  Calls Tryd.prog 6 #[.agg #[.slice A0 xs.length c0, .slice A1 st.length c1], .int .i64 1048576] w fun e w' => ∃ v : Int, e = .returned (.int .i64 v) ∧ (-1 ≤ v ∧ v ≤ 1048576 ∧ (0 ≤ v → xs.length + cellsL xs + st.length ≤ 1048576)) ∧ Below w.heap.size w w' := by
 obtain ⟨v, hv, h⟩ := szLineBuf_ev xs st hn hm hs
 obtain ⟨k, hk⟩ := Ev.rounds hv
 refine (laws_szLineBuf.calls k A0 c0 xs A1 c1 st 1048576 v w h0 hc0 h1 hc1 hk).mono ?_
 rintro e w' ⟨rfl, hb⟩
 exact ⟨v, rfl, h, hb⟩
theorem toLineBuf_any (w : World) (A0 : Option Addr) (c0 : Nat) (xs : List S75) (A1 : Option Addr) (c1 : Nat) (st : List Int) (h0 : k75.C w A0 xs.length xs) (hc0 : xs.length ≤ c0) (h1 : (Kd.int .i64).C w A1 st.length st) (hc1 : st.length ≤ c1)
  (hn : xs.length + cellsL xs + st.length ≤ 1048576) :
  Calls Tryd.prog 8 #[.agg #[.slice A0 xs.length c0, .slice A1 st.length c1]] w fun e w' => ∃ v0 v1 : Value, e = .returned (.agg #[v0, v1]) ∧ LB w' w.heap.size (fun _ => True) v0 v1 (xs.map cvG) st ∧ Below w.heap.size w w' := by
 obtain ⟨k, hk⟩ := Ev.rounds (toLineBuf_ev xs st (by omega) (fun x hx => by have := cellsL_mem xs x hx; omega) (by omega))
 refine (laws_toLineBuf.calls k A0 c0 xs A1 c1 st _ _ w h0 hc0 h1 hc1 hk).mono ?_
 rintro e w' ⟨v0, v1, rfl, hS, hR, hb⟩
 exact ⟨v0, v1, rfl, ⟨hS, hR⟩, hb⟩
theorem eqLineBuf_any (w : World) (lo lo' : Nat) (P P' : Nat → Prop) (v0 v1 u0 u1 : Value) (xs : List S76) (st : List Int) (h : LB w lo P v0 v1 xs st) (h' : LB w lo' P' u0 u1 xs st) (hn : xs.length ≤ 1048576) (hz : szS xs ≤ 5000000) (hs : st.length ≤ 2000000) :
  Calls Tryd.prog 10 #[.agg #[v0, v1], .agg #[u0, u1]] w fun e w' => e = .returned (.bool true) ∧ Below w.heap.size w w' := by
 have hx : ∀ x ∈ xs, x.f0.length ≤ 9000000 := fun x hx => by
  obtain ⟨i, hi, rfl⟩ := List.getElem_of_mem hx
  have h1 := szS_nn (xs.take i); have h2 := szS_take xs i hi; have h3 := szS_take_le xs (i + 1)
  omega
 obtain ⟨k, hk⟩ := Ev.rounds (eqLineBuf_ev xs st (by omega) hx (by omega))
 obtain ⟨A0, c0, A1, c1, rfl, rfl, a1, a2, a3, a4⟩ := h.form
 obtain ⟨B0, d0, B1, d1, rfl, rfl, b1, b2, b3, b4⟩ := h'.form
 exact laws_eqLineBuf.calls k A0 c0 xs A1 c1 st B0 d0 xs B1 d1 st true w a3 a1 a4 a2 b3 b1 b4 b2 hk
theorem heldLineBuf_any (w : World) (lo : Nat) (P : Nat → Prop) (v0 v1 : Value) (xs : List S76) (st : List Int) (h : LB w lo P v0 v1 (mkG xs 1) (mk (fun x => x) (1 + szS xs) st.length)) (hn : xs.length ≤ 1048576) (hz : szS xs ≤ 5000000) (hs : st.length ≤ 2000000) :
  Calls Tryd.prog 12 #[.agg #[v0, v1], .int .i64 1] w fun e w' => e = .returned (.int .i64 (1 + szS xs + (st.length : Int))) ∧ Below w.heap.size w w' := by
 obtain ⟨k, hk⟩ := Ev.rounds (heldLineBuf_ev xs st hz hn hs)
 obtain ⟨A0, c0, A1, c1, rfl, rfl, a1, a2, a3, a4⟩ := h.form
 exact laws_heldLineBuf.calls k A0 c0 _ A1 c1 _ 1 _ w a3 a1 a4 a2 hk
set_option maxHeartbeats 8000000 in
set_option maxRecDepth 100000 in
theorem markLineBuf_any (w0 w : World) (P : Nat → Prop) (v0 v1 : Value) (xs : List S76) (st : List Int) (hB : Below w0.heap.size w0 w) (h : LB w w0.heap.size P v0 v1 xs st) (hn : xs.length ≤ 1048576) (hz : szS xs ≤ 5000000) (hs : st.length ≤ 2000000) :
  Calls Tryd.prog 11 #[.agg #[v0, v1], .int .i64 1] w fun e w' => e = .returned (.int .i64 (1 + szS xs + (st.length : Int))) ∧ LB w' w0.heap.size (fun k => P k ∨ w.heap.size ≤ k) v0 v1 (mkG xs 1) (mk (fun x => x) (1 + szS xs) st.length) ∧ Below w0.heap.size w0 w' ∧ Kept w w' P := by
 obtain ⟨A0, c0, A1, c1, rfl, rfl, a1, a2, a3, a4⟩ := h.form
 obtain ⟨w1, e1⟩ : ∃ z, w.alloc (.cells #[.slice A0 xs.length c0, .slice A1 st.length c1] 29) = z := ⟨_, rfl⟩
 have hb1 : Below w.heap.size w w1 := by subst e1; exact (Below.refl _ w).alloc (Nat.le_refl _) _
 have bk1 : w1.heap[w.heap.size]? = some (.cells #[.slice A0 xs.length c0, .slice A1 st.length c1] 29 (0, 0)) := by subst e1; exact blk_new w (.cells #[.slice A0 xs.length c0, .slice A1 st.length c1] 29)
 have q0 : w1.cell? ⟨w.heap.size, 0, none⟩ = some (.slice A0 xs.length c0) := (blk_cell bk1 0).trans rfl
 have HB := Aside0.mk (below_step hB hb1)
 have HW := Aside0.mk hb1.size
 have H1 := Aside0.mk (h.bound.below hb1)
 have KP := Aside0.mk (Kept.of_below hb1 P)
 have BK := Aside0.mk bk1
 -- the rows' blocks are of other types than the starts'
 have HS := Aside0.mk (Kd.S_mono (Kd.S_apart' (v := .slice A1 st.length c1) H1.out.1 (Kd.R_typed H1.out.2) (by decide)) (ok' := fun k => (P k ∧ k < w.heap.size) ∧ some k ≠ (Value.slice A1 st.length c1).ownBlock) (fun k hk => ⟨⟨hk.1.1, hk.1.2.2⟩, hk.2⟩))
 clear a1 a2 a3 a4 h hB bk1 hb1
 have hz0 := szS_nn xs
 go_enter Tryd.func11, Tryd.ntmps11
 go_wp2_with fail
 refine (markGapS_any w0 w1 _ _ xs 1 (by omega) (by omega) hn HB.out HS.out).mono ?_
 rintro e w2 ⟨rfl, hS2, hB2, hK2⟩
 have HS2 := Aside0.mk hS2
 have HB2 := Aside0.mk hB2
 have HK2 := Aside0.mk hK2
 have hR2 := Kd.R_mono (Kd.R_kept (Kd.R_mono (Kd.R_tight2 rfl H1.out.2) (ok' := fun k => some k = (Value.slice A1 st.length c1).ownBlock ∧ P k ∧ k < w.heap.size) (fun k hk => ⟨hk.1, hk.2.1, hk.2.2.2⟩)) hK2 (fun k hk hn => hn.2 hk.1)) (ok' := fun k => P k ∧ k < w.heap.size) (fun k hk => hk.2)
 have BK2 := (hK2.2 w.heap.size (blk_lt BK.out) (fun hn => by omega)).trans BK.out
 have q1 : w2.cell? ⟨w.heap.size, 1, none⟩ = some (.slice A1 st.length c1) := (blk_cell BK2 1).trans rfl
 obtain ⟨K, hK⟩ := Ev.rounds (markIntS_from (1 + szS xs) (by omega) st (by omega))
 have HKK := Aside0.mk hK
 have HR2 := Aside0.mk hR2
 clear hS2 hB2 hK2 hR2 BK2 hK q0
 go_wp2_with fail
 refine (laws_markIntS.calls K _ (.slice A1 st.length c1) st (1 + szS xs) _ _ w0 w2 HB2.out (Kd.R_mono (Kd.R_tight2 rfl HR2.out) (ok' := fun k => some k = (Value.slice A1 st.length c1).ownBlock ∧ P k ∧ k < w.heap.size) (fun k hk => hk)) HKK.out).mono ?_
 rintro e w3 ⟨rfl, hR3, hB3, hK3⟩
 have HR3 := Aside0.mk hR3
 have HB3 := Aside0.mk hB3
 have HK3 := Aside0.mk hK3
 clear hR3 hB3 hK3 q1
 go_wp2
 go_ret
 have hs1 : w.heap.size ≤ w2.heap.size := Nat.le_trans HW.out HK2.out.1
 refine ⟨rfl, ⟨?_, ?_⟩, HB3.out, ?_⟩
 ·refine Kd.S_mono (Kd.S_kept HS2.out HK3.out (fun k hk hn => ?_)) (fun k hk => ?_)
  ·rcases hk with hk | hk
   ·exact hk.2 hn.1
   ·have := HW.out; omega
  ·rcases hk with hk | hk
   ·exact .inl hk.1.1
   ·exact .inr (Nat.le_trans HW.out hk)
 ·exact Kd.R_mono HR3.out (fun k hk => hk.elim (fun h => .inl h.2.1) (fun h => .inr (Nat.le_trans hs1 h)))
 ·exact (KP.out.then_ HK2.out (fun k hk => .inl hk.1.1)).then_ HK3.out (fun k hk => .inl hk.2.1)
end Go.Proofs.YtamcacahjlaogaaDoor.LP
