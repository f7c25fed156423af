/- Where a line begins (start), walked. Condition: the line is one of the text. -/
import Derived.Test.YtciabhncmdpeeaaDoorPs2
namespace Go.Proofs.YtciabhncmdpeeaaDoor
open Go.RowKit Go.Proofs.YtciabhncmdpeeaaDoorW.PrintWords Go.Proofs.YtciabhncmdpeeaaDoorW.PrintLast Go.Proofs.YtciabhncmdpeeaaDoorW.PrintMore Er
/-- the place behind the n-th line break of a text, counted from i -/
def nlAt : List Int → Int → Int → Option Int
 | [], _, _ => none
 | x :: L, n, i => if x = 10 then (if n - 1 = 0 then some (i + 1) else nlAt L (n - 1) (i + 1)) else nlAt L n (i + 1)
theorem findBV_rank (t : Tree) : ∀ (line rank bf : Int), 1 ≤ line → line ≤ kl t → ∃ k : Nat, k < TP.cnt t ∧ (findBV t line rank bf).1 = rank + k := by
 induction t with
 | nil => intro line rank bf h0 h1; simp only [kl] at h1; omega
 | node l v r ihl ihr =>
  intro line rank bf h0 h1
  simp only [kl] at h1
  simp only [findBV, TP.cnt]
  by_cases c1 : line ≤ kl l
  ·rw [if_pos c1]
   obtain ⟨k, a, b⟩ := ihl line rank bf h0 c1
   exact ⟨k, by omega, b⟩
  ·rw [if_neg c1]
   by_cases c2 : line ≤ kl l + v.brk
   ·rw [if_pos c2]
    exact ⟨TP.cnt l, by omega, rfl⟩
   ·rw [if_neg c2]
    obtain ⟨k, a, b⟩ := ihr (line - (kl l + v.brk)) (rank + TP.cnt l + 1) (bf + rl l + v.len) (by omega) (by omega)
    exact ⟨TP.cnt l + 1 + k, by omega, by rw [b]; omega⟩
/-- the text of a piece -/
def ptext (T : List Int) (x : Pc) : List Int := (T.take (x.off + x.len).toNat).drop x.off.toNat
/-- what start answers -/
def startV (T : List Int) (t : Tree) (line : Int) : Int :=
 if line = 0 then 0 else
  match (TP.toL t)[(findBV t line 0 0).1.toNat]? with
  | none => 0
  | some x => match nlAt (ptext T x) (findBV t line 0 0).2.1 0 with
   | none => 0
   | some k => (findBV t line 0 0).2.2 + k
/-- a piece lies in the store -/
def InStore (T : List Int) (x : Pc) : Prop := 0 ≤ x.off ∧ 1 ≤ x.len ∧ x.len ≤ 8192 ∧ x.off + x.len ≤ (T.length : Int)
/-- where the search for a break stands -/
structure StartAt (w5 : World) (L : List Int) (R : Option Int) (k : Nat) (v6 v30 : Value) (wr : World) : Prop where
 st : ∃ nn ii : Int, v6 = .int .i64 nn ∧ v30 = .int .i64 ii ∧ 0 ≤ ii ∧ ii + k = (L.length : Int) ∧ -ii ≤ nn ∧ nn ≤ 1000000 ∧ nlAt (L.drop ii.toNat) nn ii = R
 bel : TSt w5 wr
set_option maxHeartbeats 8000000 in
set_option maxRecDepth 100000 in
theorem start_any (w : World) (b : Nat) (T : List Int) (t : Tree) (S : List Nat) (line : Int) (h : PB w b T t S) (hf : Fine t) (hc : TP.cnt t ≤ 10000) (hT : T.length ≤ 1000000) (hs : ∀ x ∈ TP.toL t, InStore T x) (h0 : 0 ≤ line) (h1 : line ≤ kl t) (hb : 1 ≤ line → (findBV t line 0 0).2.1 ≤ 100000) (hb2 : 1 ≤ line → 0 ≤ (findBV t line 0 0).2.1 ∧ 0 ≤ (findBV t line 0 0).2.2 ∧ (findBV t line 0 0).2.2 ≤ 100000) :
  Calls Tryd.prog 115 #[.pointer (some ⟨b, 0, none⟩), .int .i64 line] w fun e w' => e = .returned (.int .i64 (startV T t line)) ∧ Below w.heap.size w w' := by
 by_cases cz : line = 0
 ·subst cz
  have e : startV T t 0 = 0 := by unfold startV; rw [if_pos rfl]
  rw [e]
  clear h hs hb hb2
  go_enter Tryd.func115, Tryd.ntmps115
  go_wp2
  go_ret
  exact ⟨rfl, Below.refl _ _⟩
 ·have cz1 : decide (line = 0) = false := decide_eq_false cz
  obtain ⟨A, c, p, g1, g2, g3, g4⟩ := h
  obtain ⟨j, hj, ej⟩ := findBV_rank t line 0 0 (by omega) h1
  obtain ⟨x, hx⟩ : ∃ x, (TP.toL t)[j]? = some x := ⟨_, List.getElem?_eq_getElem (by rw [TP.toL_length]; exact hj)⟩
  have hin := hs x (List.mem_of_getElem? hx)
  have EV : Aside0 (startV T t line = match nlAt (ptext T x) (findBV t line 0 0).2.1 0 with | none => 0 | some k => (findBV t line 0 0).2.2 + k) := ⟨by
   unfold startV
   rw [if_neg cz, ej, show ((0 : Int) + (j : Int)).toNat = j by omega, hx]⟩
  have q1 : w.cell? ⟨b, 1, none⟩ = some (ptrV p) := (blk_cell g1 1).trans rfl
  have PB0 := Aside0.mk g1
  have HR := Aside0.mk g2
  have HC := Aside0.mk g3
  have HP := Aside0.mk g4
  have h01 : 1 ≤ line := by omega
  have HF := Aside0.mk hf
  have HJ := Aside0.mk hx
  have HIN := Aside0.mk hin
  have HTL := Aside0.mk hT
  have HB2 := Aside0.mk (hb2 h01)
  have HBB := Aside0.mk (hb h01)
  clear g1 g2 g3 g4 hf hx hin hs hT hj hb2 hb cz
  go_enter Tryd.func115, Tryd.ntmps115
  go_wp2_with fail
  refine (findBreak_any w t p S line HP.out HF.out h01 h1).mono ?_
  rintro e w1 ⟨rfl, hb1⟩
  rw [ej]
  have PB1 := Aside0.mk (blk_below PB0.out hb1)
  have HR1 := Aside0.mk (Kd.C_below HR.out hb1)
  have HP1 := Aside0.mk (HP.out.below hb1)
  have HB1 := Aside0.mk hb1
  generalize (findBV t line 0 0).2.1 = nth at EV HB2 HBB ⊢
  generalize (findBV t line 0 0).2.2 = before at EV HB2 ⊢
  clear hb1 PB0 HR HP q1 ej
  rw [show (0 : Int) + (j : Int) = (j : Int) by omega]
  have q1 : w1.cell? ⟨b, 1, none⟩ = some (ptrV p) := (blk_cell PB1.out 1).trans rfl
  go_wp2_with fail
  refine (get_any w1 t p S j x HP1.out HJ.out (by omega)).mono ?_
  rintro e w2 ⟨rfl, hb2⟩
  have PB2 := Aside0.mk (blk_below PB1.out hb2)
  have HR2 := Aside0.mk (Kd.C_below HR1.out hb2)
  have HB2' := Aside0.mk (below_step HB1.out hb2)
  clear hb2 q1 PB1 HR1 HP1 HB1
  go_wp2_with ((with_reducible refine gate_dst (N := 8) rfl ?_); refine box_event ?hg (N := 8) ?hd (cs := #[.int .i64 0, .int .i64 0, .int .i64 0]) (t := 50) ?hr ?_; (case hd => rfl); (case hg => rfl); (case hr => first | (go_simp; done) | (go_simp; rfl)); intro gb8 hgb w4 hbox hb; have BK := Aside0.mk hbox; have HB4 := Aside0.mk (below_step HB2'.out hb); have PB4 := Aside0.mk (blk_below PB2.out hb); have HR4 := Aside0.mk (Kd.C_below HR2.out hb); have GE := Aside0.mk (by rw [hgb]; exact HB2'.out.size : w.heap.size ≤ gb8); have NE : Aside0 (b ≠ gb8) := ⟨by have := blk_lt PB2.out; omega⟩; have LE := Aside0.mk (by rw [hgb]; exact Nat.le_refl _ : w2.heap.size ≤ gb8); have a0 : w4.cell? ⟨gb8, 0, none⟩ = some (.int .i64 0) := (blk_cell hbox 0).trans rfl; have a1 : w4.cell? ⟨gb8, 1, none⟩ = some (.int .i64 0) := (blk_cell hbox 1).trans rfl; have a2 : w4.cell? ⟨gb8, 2, none⟩ = some (.int .i64 0) := (blk_cell hbox 2).trans rfl; have f0 := blk_frozen hbox 0; have f1 := blk_frozen hbox 1; have f2 := blk_frozen hbox 2; have BW := Aside0.mk hb; clear hb hbox hgb)
  obtain ⟨w5, e5⟩ : ∃ y, ((w4.setCell ⟨gb8, 0, none⟩ (.int .i64 x.off)).setCell ⟨gb8, 1, none⟩ (.int .i64 x.len)).setCell ⟨gb8, 2, none⟩ (.int .i64 x.brk) = y := ⟨_, rfl⟩
  have H52 : Below w2.heap.size w2 w5 := by subst e5; exact below_set (below_set (below_set BW.out LE.out) LE.out) LE.out
  have BK5 : w5.heap[gb8]? = some (.cells #[.int .i64 x.off, .int .i64 x.len, .int .i64 x.brk] 50 (0, 0)) := by subst e5; exact blk_put (blk_put (blk_put BK.out 0 _ rfl) 1 _ rfl) 2 _ rfl
  have PB5 := Aside0.mk (blk_below PB2.out H52)
  have HR5 := Aside0.mk (Kd.C_below HR2.out H52)
  have HB5 := Aside0.mk (below_step HB2'.out H52)
  rw [e5]
  have c0 : w5.cell? ⟨gb8, 0, none⟩ = some (.int .i64 x.off) := (blk_cell BK5 0).trans rfl
  have c1 : w5.cell? ⟨gb8, 1, none⟩ = some (.int .i64 x.len) := (blk_cell BK5 1).trans rfl
  have q0 : w5.cell? ⟨b, 0, none⟩ = some (.slice A T.length c) := (blk_cell PB5.out 0).trans rfl
  clear e5 a0 a1 a2 f0 f1 f2 BK BW HB4 PB4 HR4 H52 BK5 PB2 HR2
  obtain ⟨i1, i2, i3, i4⟩ := HIN.out
  have hTL := HTL.out
  obtain ⟨L, hL⟩ : ∃ L, ptext T x = L := ⟨_, rfl⟩
  have hlen : (L.length : Int) = x.len := by rw [← hL]; unfold ptext; rw [List.length_drop, List.length_take]; omega
  have elt : Aside0 (∀ ii : Int, 0 ≤ ii → ii < (L.length : Int) → rd T (x.off + ii) = rd L ii) := ⟨by
   intro ii k0 k1
   rw [← hL]
   unfold ptext rd
   simp only [List.getD_eq_getElem?_getD]
   rw [List.getElem?_drop, List.getElem?_take, if_pos (by omega)]
   congr 2; omega⟩
  rw [hL] at EV
  obtain ⟨R, hR⟩ : ∃ R, nlAt L nth 0 = R := ⟨_, rfl⟩
  rw [hR] at EV
  have LEN := Aside0.mk hlen
  have AT : Aside0 (StartAt w5 L R L.length (.int .i64 nth) (.int .i64 0) w5) := ⟨⟨⟨nth, 0, rfl, rfl, by omega, by omega, by have := HB2.out; omega, by have := HBB.out; omega, by simpa using hR⟩, ⟨Below.refl _ _⟩⟩⟩
  clear hL hR hlen
  go_loopg [6, 30] L.length (fun k v6 v30 wr => StartAt w5 L R k v6 v30 wr)
  case atStart => exact AT.out
  case round =>
   clear AT
   obtain ⟨⟨nn, ii, rfl, rfl, h0, hk, hn0, hn1, hR⟩, hB⟩ := hrel
   have HBR := Aside0.mk hB
   have d0 := hB.keep c0
   have d1 := hB.keep c1
   have e0 := hB.keep q0
   have HRR := Aside0.mk hR
   have HK := Aside0.mk hk
   have hlen := LEN.out
   clear hR hB hk
   by_cases ci : ii < x.len
   ·have cib : decide (ii < x.len) = true := decide_eq_true ci
    obtain ⟨ad, ea, hxx⟩ := Kd.at_int (Kd.C_below HR5.out HBR.out.bel) (x.off + ii) (by omega) (by omega)
    cases ea
    have s1 : IntKind.i64.wrap (x.off + ii) = x.off + ii := by rw [IntKind.wrap_i64]; omega
    have b0 : (0 : Int) ≤ x.off + ii := by omega
    have b1 : x.off + ii < (T.length : Int) := by omega
    rw [elt.out ii h0 (by omega)] at hxx
    have hcons : L.drop ii.toNat = rd L ii :: L.drop (ii.toNat + 1) := by
     have hl : ii.toNat < L.length := by omega
     rw [List.drop_eq_getElem_cons hl]
     congr 1
     unfold rd; simp [List.getD, hl]
    have hr2 := HRR.out
    rw [hcons] at hr2
    generalize rd L ii = r at hxx hr2
    simp only [nlAt] at hr2
    by_cases cr : r = 10
    ·have crb : decide (r = 10) = true := decide_eq_true cr
     rw [if_pos cr] at hr2
     by_cases cn : nn - 1 = 0
     ·have cnb : decide (wrap64 (nn - 1) = 0) = true := decide_eq_true (by unfold wrap64; omega)
      rw [if_pos cn] at hr2
      have HH := Aside0.mk hr2
      clear hr2 hcons
      go_wp2
      go_quiet (fail)
      go_wp2
      go_ret
      refine ⟨?_, pw_below_drewN (below_step HB5.out HBR.out.bel) _⟩
      have hh := HB2.out
      rw [EV.out, ← HH.out]
      simp only [Ending.returned.injEq]
      show Value.int .i64 (wrap64 (wrap64 (before + ii) + 1)) = Value.int .i64 (before + (ii + 1))
      rw [show wrap64 (before + ii) = before + ii by unfold wrap64; omega, show wrap64 (before + ii + 1) = before + (ii + 1) by unfold wrap64; omega]
     ·have cnb : decide (wrap64 (nn - 1) = 0) = false := decide_eq_false (by unfold wrap64; omega)
      rw [if_neg cn] at hr2
      have HH := Aside0.mk hr2
      clear hr2 hcons
      go_wp2
      go_quiet (fail)
      go_wp2
      go_roundg (L.length - (ii.toNat + 1))
      case measure => have := HK.out; omega
      case rel => exact ⟨⟨_, _, rfl, rfl, by omega, by have := HK.out; omega, by omega, by omega, by rw [show (ii + 1).toNat = ii.toNat + 1 by omega]; exact HH.out⟩, ⟨pw_below_drewN HBR.out.bel _⟩⟩
    ·have crb : decide (r = 10) = false := decide_eq_false cr
     rw [if_neg cr] at hr2
     have HH := Aside0.mk hr2
     clear hr2 hcons
     go_wp2
     go_quiet (fail)
     go_wp2
     go_roundg (L.length - (ii.toNat + 1))
     case measure => have := HK.out; omega
     case rel => exact ⟨⟨_, _, rfl, rfl, by omega, by have := HK.out; omega, by omega, by omega, by rw [show (ii + 1).toNat = ii.toNat + 1 by omega]; exact HH.out⟩, ⟨pw_below_drewN HBR.out.bel _⟩⟩
   ·have cib : decide (ii < x.len) = false := decide_eq_false ci
    go_wp2
    go_ret
    have hr2 := HRR.out
    rw [List.drop_eq_nil_of_le (by omega)] at hr2
    simp only [nlAt] at hr2
    refine ⟨?_, below_step HB5.out HBR.out.bel⟩
    rw [EV.out, ← hr2]
    rfl
end Go.Proofs.YtciabhncmdpeeaaDoor
