/- Lines: what openLines asks, in words; breaksIn. No condition but the bounds. -/
import Derived.Test.YtamcacahjlaogaaDoorLa
import Derived.Test.YtamcacahjlaogaaDoorFo0
namespace Go.Proofs.YtamcacahjlaogaaDoor.Ln
open Go.RowKit Go.Proofs.YtamcacahjlaogaaDoorW.PrintWords Go.Proofs.YtamcacahjlaogaaDoorW.PrintLast Go.Proofs.YtamcacahjlaogaaDoorW.PrintMore Er
open F (UpdS Fresh R_upd)
set_option linter.unusedSimpArgs false
set_option linter.unusedVariables false
def nl : List Int → Int | [] => 0 | x :: L => (if x = 10 then 1 else 0) + nl L
theorem nl_app (L M : List Int) : nl (L ++ M) = nl L + nl M := by
 induction L with
 | nil => simp [nl]
 | cons x L ih => simp only [List.cons_append, nl, ih]; omega
theorem nl_le (L : List Int) : 0 ≤ nl L ∧ nl L ≤ (L.length : Int) := by
 induction L with
 | nil => simp [nl]
 | cons x L ih => simp only [nl, List.length_cons]; split <;> omega
theorem nl_loop (L : List Int) (hn : L.length ≤ 2000000) (d : Nat) : ∀ i : Nat, i + d = L.length → QBaseL.impl_breaksIn.l0 (d + 1) (nl (L.take i)) L (L.length : Int) (i : Int) = some (nl L) := by
 induction d with
 | zero =>
  intro i hi
  obtain rfl : i = L.length := by omega
  simp only [QBaseL.impl_breaksIn.l0]
  rw [if_neg (by omega), List.take_length]
 | succ d ih =>
  intro i hi
  have hlt : i < L.length := by omega
  have hb := nl_le (L.take i)
  have hl : (L.take i).length ≤ 2000000 := by rw [List.length_take]; omega
  have e : rd L (i : Int) = L[i] := by unfold rd; simp [List.getD, hlt]
  have e2 : nl (L.take (i + 1)) = nl (L.take i) + (if L[i] = 10 then 1 else 0) := by
   rw [List.take_succ_eq_append_getElem hlt, nl_app]; simp [nl]
  have w1 : wrap64 ((i : Int) + 1) = ((i + 1 : Nat) : Int) := by unfold wrap64; omega
  have w2 : wrap64 (nl (L.take i) + 1) = nl (L.take i) + 1 := by unfold wrap64; omega
  have := ih (i + 1) (by omega)
  rw [QBaseL.impl_breaksIn.l0, if_pos (by omega), if_pos (by omega), if_pos (by omega), e, w1, w2]
  by_cases c : L[i] = 10
  ·rw [if_pos c] at e2 ⊢
   rw [← e2]; exact this
  ·rw [if_neg c] at e2 ⊢
   rw [e2, Int.add_zero] at this; exact this
theorem nlIn_any (w : World) (A : Option Addr) (c : Nat) (L : List Int) (hr : Kd.C (Kd.int .i32) w A L.length L) (hc : L.length ≤ c) (hn : L.length ≤ 2000000) :
  Calls Tryd.prog 55 #[.slice A L.length c] w fun e w' => e = .returned (.int .i64 (nl L)) ∧ Drawn0 w w' :=
 QBaseL.impl_breaksIn.calls (L.length + 1) A c L (nl L) w hr hc (nl_loop L hn L.length 0 (Nat.zero_add _))
def rwOf (g : SG) : Rw := (g.f0.take g.f1.toNat ++ g.f0.drop g.f2.toNat, g.f1.toNat, (g.f2 - g.f1).toNat)
def rlen (g : SG) : Int := ((rwOf g).1.length : Int)
def sumR : List SG → Int | [] => 0 | g :: l => rlen g + sumR l
theorem sumR_app (a b : List SG) : sumR (a ++ b) = sumR a + sumR b := by
 induction a with
 | nil => simp [sumR]
 | cons x a ih => simp only [List.cons_append, sumR, ih]; omega
theorem sumR_nn (a : List SG) : 0 ≤ sumR a := by
 induction a with
 | nil => simp [sumR]
 | cons x a ih => simp only [sumR, rlen]; omega
abbrev rdG (gs : List SG) (i : Nat) : SG := QBaseL.rd_T76 gs (i : Int)
theorem rdG_at (gs : List SG) (i : Nat) (h : i < gs.length) : rdG gs i = gs[i] := by unfold rdG QBaseL.rd_T76; simp [List.getD, h]
theorem sumR_take (gs : List SG) (i : Nat) (h : i < gs.length) : sumR (gs.take (i + 1)) = sumR (gs.take i) + rlen (rdG gs i) := by
 rw [List.take_succ_eq_append_getElem h, sumR_app, rdG_at gs i h]
 simp [sumR]
def okRow (gs : List SG) (st : List Int) (i : Nat) : Prop :=
 okGap (rdG gs i).f0 (rdG gs i).f1 (rdG gs i).f2 ∧ nl (rdG gs i).f0 = 0 ∧ (i < st.length → st.getD i 0 = sumR (gs.take i) + (i : Int)) ∧ (gs.length : Int) - 1 + sumR (gs.take (i + 1)) ≤ 8192
def okLn (gs : List SG) (st : List Int) : Prop := (0 < gs.length ∧ gs.length ≤ 8193) ∧ (0 < st.length ∧ st.length ≤ gs.length) ∧ ∀ i, i < gs.length → okRow gs st i
def OpenedL (w : World) (gs : List SG) (st : List Int) (e : Ending) (w' : World) : Prop :=
 Below w.heap.size w w' ∧
  ((okLn gs st ∧ ∃ L ps l g sv S0 Ss, e = .returned (.tuple #[.pointer (some ⟨L, 0, none⟩), .nilIface]) ∧ LF w' w.heap.size L ps (gs.map rwOf) l g st ((gs.length : Int) - 1 + sumR gs) sv S0 Ss) ∨
   (¬ okLn gs st ∧ ∃ L v, e = .returned (.tuple #[.pointer (some ⟨L, 0, none⟩), v]) ∧ w'.heap[L]? = some (.cells #[.slice none 0 0, .int .i64 0, .int .i64 0, .slice none 0 0, .int .i64 0] 89 (0, 0)) ∧ ErrIs w' v 1))
structure RowsAt (B L : Nat) (gs : List SG) (i : Nat) (ps : List Nat) (Ss : List (List Nat)) (v6 : Value) (w : World) : Prop where
 lp : ps.length = i
 ls : Ss.length = i
 pr : Kd.R V.KV 90 w B (fun k => k ≠ L) v6 (pvs ps)
 row : ∀ j, j < i → F.GapF w B (ps.getD j 0) (rwOf (rdG gs j)).1 (rwOf (rdG gs j)).2.1 (rwOf (rdG gs j)).2.2 (Ss.getD j [])
 nd : Ss.flatten.Nodup
 lt : ∀ k ∈ Ss.flatten, k < w.heap.size ∧ k ≠ L ∧ some k ≠ v6.ownBlock
structure OpAt (w2 : World) (gs : List SG) (st : List Int) (k : Nat) (v6 v50 : Value) (wr : World) : Prop where
 st : ∃ (i : Nat) (ps : List Nat) (Ss : List (List Nat)), v50 = .int .i64 i ∧ i + k = gs.length ∧ RowsAt w2.heap.size w2.heap.size gs i ps Ss v6 wr ∧
  wr.heap[w2.heap.size]? = some (.cells #[.slice none 0 0, .int .i64 0, .int .i64 0, .slice none 0 0, .int .i64 ((gs.length : Int) - 1 + sumR (gs.take i))] 89 (0, 0)) ∧ ∀ j, j < i → okRow gs st j
 bel : Below w2.heap.size w2 wr
end Go.Proofs.YtamcacahjlaogaaDoor.Ln
