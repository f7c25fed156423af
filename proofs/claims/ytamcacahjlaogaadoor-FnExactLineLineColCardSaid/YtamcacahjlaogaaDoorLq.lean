/- Lines: the text of the rows, where rows start, validity: the specification's functions, plainly. No condition but the bounds. -/
import Derived.Test.YtamcacahjlaogaaDoorLd
import Derived.Test.YtamcacahjlaogaaDoorLn
namespace Go.Proofs.YtamcacahjlaogaaDoor.LP
open Go Go.RowKit Go.Proofs.YtamcacahjlaogaaDoor.Ln Go.Proofs.YtamcacahjlaogaaDoor.QBaseL Go.Proofs.YtamcacahjlaogaaDoorW.PrintWords Go.Proofs.YtamcacahjlaogaaDoorW.PrintLast Go.Proofs.YtamcacahjlaogaaDoorW.PrintMore
set_option linter.unusedSimpArgs false
set_option linter.unusedVariables false
def rwT (Rs : List Rw) (i : Nat) : List Int := (Rs.getD i ([], 0, 0)).1
theorem rwT_len (Rs : List Rw) (i : Nat) : (rwT Rs i).length = rwLen Rs i := rfl
def stN (Rs : List Rw) : Nat → Nat | 0 => 0 | i + 1 => stN Rs i + rwLen Rs i + 1
theorem stN_is (Rs : List Rw) (i : Nat) : stAt Rs i = (stN Rs i : Int) := by
 induction i with
 | zero => rfl
 | succ i ih => simp only [stAt, stN, ih]; omega
theorem stN_mono (Rs : List Rw) {i j : Nat} (h : i ≤ j) : stN Rs i + (j - i) ≤ stN Rs j := by
 have := stAt_mono Rs h
 rw [stN_is, stN_is] at this
 omega
def textTo (Rs : List Rw) : Nat → List Int | 0 => [] | i + 1 => textTo Rs i ++ ((if 0 < i then [10] else []) ++ rwT Rs i)
theorem textTo_len (Rs : List Rw) (i : Nat) : (textTo Rs i).length = stN Rs i - 1 ∧ (0 < i → 1 ≤ stN Rs i) := by
 induction i with
 | zero => exact ⟨rfl, fun h => absurd h (by omega)⟩
 | succ i ih =>
  simp only [textTo, List.length_append, stN, rwT_len]
  refine ⟨?_, fun _ => by omega⟩
  rw [ih.1]
  by_cases c : 0 < i
  ·rw [if_pos c]; have := ih.2 c; simp only [List.length_singleton]; omega
  ·obtain rfl : i = 0 := by omega
   simp [stN]
theorem textTo_head (Rs : List Rw) (n : Nat) : (textTo Rs n ++ (if 0 < n then [10] else [])).length = stN Rs n := by
 have h := textTo_len Rs n
 by_cases c : 0 < n
 ·rw [if_pos c, List.length_append, h.1]; have := h.2 c; simp only [List.length_singleton]; omega
 ·obtain rfl : n = 0 := by omega
  simp [textTo, stN]
theorem textTo_get (Rs : List Rw) (n : Nat) : ∀ i j, i < n → j < rwLen Rs i → (textTo Rs n).getD (stN Rs i + j) 0 = (rwT Rs i).getD j 0 := by
 induction n with
 | zero => intro i j h; omega
 | succ n ih =>
  intro i j hi hj
  have hh := textTo_head Rs n
  simp only [textTo]
  rw [← List.append_assoc]
  by_cases e : i = n
  ·subst e
   rw [List.getD_eq_getElem?_getD, List.getElem?_append_right (by rw [hh]; omega), hh, Nat.add_sub_cancel_left, List.getD_eq_getElem?_getD]
  ·have h1 := stN_mono Rs (i := i + 1) (j := n) (by omega)
   have h2 : stN Rs (i + 1) = stN Rs i + rwLen Rs i + 1 := rfl
   have h3 := textTo_len Rs n
   rw [List.getD_eq_getElem?_getD, List.append_assoc, List.getElem?_append_left (by rw [h3.1]; omega), ← List.getD_eq_getElem?_getD]
   exact ih i j (by omega) hj
theorem textTo_nl (Rs : List Rw) (n : Nat) : ∀ i, i + 1 < n → (textTo Rs n).getD (stN Rs i + rwLen Rs i) 0 = 10 := by
 induction n with
 | zero => intro i h; omega
 | succ n ih =>
  intro i hi
  have h2 : stN Rs (i + 1) = stN Rs i + rwLen Rs i + 1 := rfl
  have h3 := textTo_len Rs n
  simp only [textTo]
  by_cases e : i + 1 = n
  ·subst e
   rw [if_pos (by omega), List.getD_eq_getElem?_getD, List.getElem?_append_right (by rw [h3.1]; omega), h3.1, show stN Rs i + rwLen Rs i - (stN Rs (i + 1) - 1) = 0 by omega]; rfl
  ·have h1 := stN_mono Rs (i := i + 1) (j := n) (by omega)
   rw [List.getD_eq_getElem?_getD, List.getElem?_append_left (by rw [h3.1]; omega), ← List.getD_eq_getElem?_getD]
   exact ih i (by omega)
def Plain (Rs : List Rw) : Prop := ∀ i, i < Rs.length → ∀ x ∈ rwT Rs i, x ≠ 10
theorem nl_zero {L : List Int} (h : nl L = 0) : ∀ x ∈ L, x ≠ 10 := by
 induction L with
 | nil => intro x hx; cases hx
 | cons y L ih =>
  intro x hx
  simp only [nl] at h
  have := nl_le L
  rcases List.mem_cons.1 hx with rfl | hx
  ·intro e; rw [if_pos e] at h; omega
  ·exact ih (by split at h <;> omega) x hx
theorem nl_zeros (g : Nat) : nl (List.replicate g 0) = 0 := by
 induction g with
 | zero => rfl
 | succ g ih => rw [List.replicate_succ]; simp only [nl, ih]; simp
theorem nl_lay (T : List Int) (l g : Nat) : nl (lay T l g) = nl T := by
 have h := nl_app (T.take l) (T.drop l)
 rw [List.take_append_drop] at h
 unfold lay
 rw [nl_app, nl_app, nl_zeros, h]; omega
def okR (g : S76) : Prop := okGap g.f0 g.f1 g.f2 ∧ nl (txt g.f0 g.f1 g.f2) = 0
theorem nl_txt {xs : List Int} {lo hi : Int} (h : okGap xs lo hi) : nl (txt xs lo hi) = nl xs := by
 conv => rhs; rw [(okGap_lay h).1]
 rw [nl_lay]; rfl
theorem rwT_at (gs : List S76) (i : Nat) (h : i < gs.length) : rwT (gs.map rwOf) i = txt gs[i].f0 gs[i].f1 gs[i].f2 := by
 unfold rwT
 rw [List.getD_eq_getElem?_getD, List.getElem?_map, List.getElem?_eq_getElem h]; rfl
theorem rwLen_gs (gs : List S76) (i : Nat) (h : i < gs.length) : rwLen (gs.map rwOf) i = (txt gs[i].f0 gs[i].f1 gs[i].f2).length := by
 rw [← rwT_len, rwT_at gs i h]
theorem rlen_at (gs : List S76) (i : Nat) (h : i < gs.length) : rlen (rdG gs i) = (rwLen (gs.map rwOf) i : Int) := by
 rw [rwLen_gs gs i h, rdG_at gs i h]; rfl
theorem sumR_st (gs : List S76) (i : Nat) (h : i ≤ gs.length) : sumR (gs.take i) + (i : Int) = stAt (gs.map rwOf) i := by
 induction i with
 | zero => simp [sumR, stAt]
 | succ i ih =>
  rw [sumR_take gs i (by omega), rlen_at gs i (by omega)]
  simp only [stAt]
  rw [← ih (by omega)]; omega
theorem sumR_all (gs : List S76) : sumR gs + (gs.length : Int) = stAt (gs.map rwOf) gs.length := by
 have := sumR_st gs gs.length (Nat.le_refl _)
 rw [List.take_length] at this; exact this
theorem okLn_iff (gs : List S76) (st : List Int) : okLn gs st ↔ ((0 < gs.length ∧ gs.length ≤ 8193) ∧ (0 < st.length ∧ st.length ≤ gs.length)) ∧ (∀ i (h : i < gs.length), okR gs[i]) ∧ stAt (gs.map rwOf) gs.length - 1 ≤ 8192 ∧ ∀ i, i < st.length → st.getD i 0 = stAt (gs.map rwOf) i := by
 constructor
 ·rintro ⟨h1, h2, h3⟩
  refine ⟨⟨h1, h2⟩, fun i h => ?_, ?_, fun i hi => ?_⟩
  ·have h4 := h3 i h
   have e := rdG_at gs i h
   unfold okRow at h4
   rw [e] at h4
   exact ⟨h4.1, by rw [nl_txt h4.1]; exact h4.2.1⟩
  ·have h4 := (h3 (gs.length - 1) (by omega)).2.2.2
   rw [show gs.length - 1 + 1 = gs.length by omega, List.take_length] at h4
   have := sumR_all gs
   omega
  ·have h4 := (h3 i (by omega)).2.2.1 hi
   rw [h4, sumR_st gs i (by omega)]
 ·rintro ⟨⟨h1, h2⟩, h3, h4, h5⟩
  refine ⟨h1, h2, fun i hi => ?_⟩
  have h6 := h3 i hi
  have e := rdG_at gs i hi
  refine ⟨by rw [e]; exact h6.1, by rw [e, ← nl_txt h6.1]; exact h6.2, fun h => ?_, ?_⟩
  ·rw [h5 i h, sumR_st gs i (by omega)]
  ·have a := sumR_st gs (i + 1) (by omega)
   have b := stAt_mono (gs.map rwOf) (i := i + 1) (j := gs.length) (by omega)
   omega
structure Fine (gs : List S76) : Prop where
 n : gs.length ≤ 8193
 ok : ∀ i (h : i < gs.length), okR gs[i]
theorem Fine.len {gs : List S76} (h : Fine gs) (i : Nat) (hi : i < gs.length) : rwLen (gs.map rwOf) i ≤ 8192 := by
 rw [rwLen_gs gs i hi]; exact txt_len _ _ _ (h.ok i hi).1
theorem Fine.st {gs : List S76} (h : Fine gs) (i : Nat) (hi : i ≤ gs.length) : 0 ≤ stAt (gs.map rwOf) i ∧ stAt (gs.map rwOf) i ≤ 8193 * (i : Int) := by
 induction i with
 | zero => simp [stAt]
 | succ i ih =>
  have := ih (by omega)
  have := h.len i (by omega)
  simp only [stAt]; omega
theorem Fine.plain {gs : List S76} (h : Fine gs) : Plain (gs.map rwOf) := fun i hi x hx => by
 have hi' : i < gs.length := by simpa using hi
 rw [rwT_at gs i hi'] at hx
 exact nl_zero (h.ok i hi').2 x hx
theorem Fine.tg {gs : List S76} (h : Fine gs) : (gs.map rwOf).map toG = gs := by
 rw [List.map_map]
 refine (List.map_congr_left fun g hg => ?_).trans (List.map_id gs)
 obtain ⟨i, hi, rfl⟩ := List.getElem_of_mem hg
 have h1 := (h.ok i hi).1
 have h2 := okGap_lay h1
 obtain ⟨a1, a2, a3, a4, -⟩ := h1
 show toG (rwOf gs[i]) = gs[i]
 unfold toG rwOf
 simp only
 rw [← h2.1, show ((gs[i].f1.toNat : Nat) : Int) = gs[i].f1 by omega, show ((gs[i].f1.toNat + (gs[i].f2 - gs[i].f1).toNat : Nat) : Int) = gs[i].f2 by omega]
theorem lineText_loop (gs : List S76) (h : Fine gs) (d : Nat) : ∀ i : Nat, i + d = gs.length →
  Ev (fun k => spec_L4LineText.l0 k (textTo (gs.map rwOf) i) gs (gs.length : Int) (i : Int)) (textTo (gs.map rwOf) gs.length) := by
 induction d with
 | zero =>
  intro i hi
  obtain rfl : i = gs.length := by omega
  refine ev_now fun k => ?_
  simp only [spec_L4LineText.l0]
  rw [if_neg (by omega)]
 | succ d ih =>
  intro i hi
  have hn := h.n
  have hlt : i < gs.length := by omega
  have ht := text_is _ _ _ (h.ok i hlt).1
  have hl := h.len i hlt
  rw [rwLen_gs gs i hlt] at hl
  have hs := h.st i (by omega)
  have hT := textTo_len (gs.map rwOf) i
  rw [stN_is] at hs
  have e : textTo (gs.map rwOf) (i + 1) = textTo (gs.map rwOf) i ++ ((if 0 < i then [10] else []) ++ txt gs[i].f0 gs[i].f1 gs[i].f2) := by simp only [textTo]; rw [rwT_at gs i hlt]
  refine Ev.step (f := fun k => spec_L4LineText.l0 k (textTo (gs.map rwOf) (i + 1)) gs (gs.length : Int) ((i + 1 : Nat) : Int)) (fun k => ?_) (ih (i + 1) (by omega))
  simp only [spec_L4LineText.l0]
  rw [if_pos (by omega), if_pos (by omega), if_pos (by omega), rdG_ gs i hlt, ht, w64 (by omega), e]
  simp only [Option.bind_some]
  by_cases c : 0 < i
  ·rw [if_pos (by omega), if_pos (by omega), if_pos (by rw [List.length_append, List.length_singleton]; omega), if_pos c, List.append_assoc]; rfl
  ·rw [if_neg (by omega), if_pos (by omega), if_neg c, List.nil_append]; rfl
theorem lineText_ev (gs : List S76) (st : List Int) (h : Fine gs) : Ev (fun k => spec_L4LineText.f k gs st) (textTo (gs.map rwOf) gs.length) := by
 unfold spec_L4LineText.f
 exact lineText_loop gs h gs.length 0 (by omega)
theorem all_loop (gs : List S76) (h : Fine gs) (d : Nat) : ∀ i : Nat, i + d = gs.length →
  Ev (fun k => spec_l4All.l0 k (sts (gs.map rwOf) i) (stAt (gs.map rwOf) i) gs (gs.length : Int) (i : Int)) (sts (gs.map rwOf) gs.length) := by
 induction d with
 | zero =>
  intro i hi
  obtain rfl : i = gs.length := by omega
  refine ev_now fun k => ?_
  simp only [spec_l4All.l0]
  rw [if_neg (by omega)]
 | succ d ih =>
  intro i hi
  have hn := h.n
  have hlt : i < gs.length := by omega
  have hg := (h.ok i hlt).1
  have hs := h.st i (by omega)
  have hl := (okGap_lay hg).2.2.2
  have hl2 := rwLen_gs gs i hlt
  unfold txt at hl2
  obtain ⟨a1, a2, a3, a4, -, a6⟩ := hg
  refine Ev.step (f := fun k => spec_l4All.l0 k (sts (gs.map rwOf) (i + 1)) (stAt (gs.map rwOf) (i + 1)) gs (gs.length : Int) ((i + 1 : Nat) : Int)) (fun k => ?_) (ih (i + 1) (by omega))
  simp only [spec_l4All.l0]
  rw [if_pos (by omega), if_pos (by omega), if_pos (by omega), if_pos (by rw [sts_length]; omega), rdG_ gs i hlt, w64 (show -9223372036854775808 ≤ gs[i].f2 - gs[i].f1 ∧ gs[i].f2 - gs[i].f1 ≤ 9223372036854775807 by omega), w64 (show -9223372036854775808 ≤ (gs[i].f0.length : Int) - (gs[i].f2 - gs[i].f1) ∧ (gs[i].f0.length : Int) - (gs[i].f2 - gs[i].f1) ≤ 9223372036854775807 by omega), w64 (show -9223372036854775808 ≤ (gs[i].f0.length : Int) - (gs[i].f2 - gs[i].f1) + 1 ∧ (gs[i].f0.length : Int) - (gs[i].f2 - gs[i].f1) + 1 ≤ 9223372036854775807 by omega), w64 (by omega), w64 (by omega), sts_succ]
  congr 1
  simp only [stAt]
  omega
theorem all_ev (gs : List S76) (st : List Int) (h : Fine gs) : Ev (fun k => spec_l4All.f k gs st) (sts (gs.map rwOf) gs.length) := by
 unfold spec_l4All.f
 exact all_loop gs h gs.length 0 (by omega)
theorem copyRows_loop (gs : List S76) (hn : gs.length ≤ 1000000) (hx : ∀ i (h : i < gs.length), gs[i].f0.length ≤ 2000000) (d : Nat) : ∀ i : Nat, i + d = gs.length →
  Ev (fun k => spec_l4CopyRows.l0 k (gs.take i) gs (gs.length : Int) (i : Int)) gs := by
 induction d with
 | zero =>
  intro i hi
  obtain rfl : i = gs.length := by omega
  refine ev_now fun k => ?_
  simp only [spec_l4CopyRows.l0]
  rw [if_neg (by omega), List.take_length]
 | succ d ih =>
  intro i hi
  have hlt : i < gs.length := by omega
  have := hx i hlt
  have e : spec_l4CopyGap.f gs[i].f0 gs[i].f1 gs[i].f2 = some (gs[i].f0, gs[i].f1, gs[i].f2) := by
   unfold spec_l4CopyGap.f
   simp only [Option.bind_some]
   rw [if_pos (by simp only [List.length_nil]; omega)]; rfl
  refine Ev.step (f := fun k => spec_l4CopyRows.l0 k (gs.take (i + 1)) gs (gs.length : Int) ((i + 1 : Nat) : Int)) (fun k => ?_) (ih (i + 1) (by omega))
  simp only [spec_l4CopyRows.l0]
  rw [if_pos (by omega), if_pos (by omega), if_pos (by omega), rdG_ gs i hlt, e]
  simp only [Option.bind_some]
  rw [if_pos (by rw [List.length_take]; omega), w64 (by omega), List.take_succ_eq_append_getElem hlt]; rfl
theorem copyRows_ev (gs : List S76) (h : Fine gs) : Ev (fun k => spec_l4CopyRows.f k gs) gs := by
 unfold spec_l4CopyRows.f
 have hn := h.n
 have := copyRows_loop gs (by omega) (fun i hi => by have := (h.ok i hi).1.1; omega) gs.length 0 (by omega)
 simpa using this
end Go.Proofs.YtamcacahjlaogaaDoor.LP
