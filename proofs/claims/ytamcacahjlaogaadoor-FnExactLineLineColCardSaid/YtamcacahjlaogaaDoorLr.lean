/- Lines: the specification's validity and its line and column, plainly. No condition but the bounds. -/
import Derived.Test.YtamcacahjlaogaaDoorLh
namespace Go.Proofs.YtamcacahjlaogaaDoor.LP
open Go Go.RowKit Go.Proofs.YtamcacahjlaogaaDoor.Ln Go.Proofs.YtamcacahjlaogaaDoor.QBaseL Go.Proofs.YtamcacahjlaogaaDoorW.PrintWords Go.Proofs.YtamcacahjlaogaaDoorW.PrintLast Go.Proofs.YtamcacahjlaogaaDoorW.PrintMore
set_option linter.unusedSimpArgs false
set_option linter.unusedVariables false
theorem br_loop (L : List Int) (hn : L.length ≤ 2000000) (d : Nat) : ∀ i : Nat, i + d = L.length → Ev (fun k => spec_l1Breaks.l0 k (nl (L.take i)) L (L.length : Int) (i : Int)) (nl L) := by
 induction d with
 | zero =>
  intro i hi
  obtain rfl : i = L.length := by omega
  refine ev_now fun k => ?_
  simp only [spec_l1Breaks.l0]
  rw [if_neg (by omega), List.take_length]
 | succ d ih =>
  intro i hi
  have hlt : i < L.length := by omega
  have hb := nl_le (L.take i)
  have hl : (L.take i).length ≤ 2000000 := by rw [List.length_take]; omega
  have e2 : nl (L.take (i + 1)) = nl (L.take i) + (if L[i] = 10 then 1 else 0) := by
   rw [List.take_succ_eq_append_getElem hlt, nl_app]; simp [nl]
  refine Ev.step (f := fun k => spec_l1Breaks.l0 k (nl (L.take (i + 1))) L (L.length : Int) ((i + 1 : Nat) : Int)) (fun k => ?_) (ih (i + 1) (by omega))
  simp only [spec_l1Breaks.l0]
  rw [if_pos (by omega), if_pos (by omega), if_pos (by omega), rd_at L i hlt, w64 (by omega), w64 (by omega), e2]
  by_cases c : L[i] = 10
  ·rw [if_pos c, if_pos c]; rfl
  ·rw [if_neg c, if_neg c, Int.add_zero]; rfl
theorem br_ev (L : List Int) (hn : L.length ≤ 2000000) : Ev (fun k => spec_l1Breaks.f k L) (nl L) := by
 unfold spec_l1Breaks.f
 exact Ev.congr (fun k => by simp [nl]) (br_loop L hn L.length 0 (by omega))
theorem cmp_loop (all st : List Int) (hn : st.length ≤ all.length) (hb : all.length ≤ 1000000) (d : Nat) : ∀ i : Nat, i + d = st.length →
  ((∀ j, i ≤ j → j < st.length → st.getD j 0 = all.getD j 0) → Ev (fun k => spec_L4LineValid.l1 k all st (st.length : Int) (i : Int)) true) ∧
  ((∃ j, i ≤ j ∧ j < st.length ∧ st.getD j 0 ≠ all.getD j 0) → Ev (fun k => spec_L4LineValid.l1 k all st (st.length : Int) (i : Int)) false) := by
 induction d with
 | zero =>
  intro i hi
  refine ⟨fun _ => ev_now fun k => ?_, fun ⟨j, h1, h2, _⟩ => by omega⟩
  simp only [spec_L4LineValid.l1]
  rw [if_neg (by omega)]
 | succ d ih =>
  intro i hi
  obtain ⟨h1, h2⟩ := ih (i + 1) (by omega)
  have e1 : rd st (i : Int) = st.getD i 0 := by unfold rd; simp
  have e2 : rd all (i : Int) = all.getD i 0 := by unfold rd; simp
  by_cases c : st.getD i 0 = all.getD i 0
  ·have step : ∀ r, Ev (fun k => spec_L4LineValid.l1 k all st (st.length : Int) ((i + 1 : Nat) : Int)) r → Ev (fun k => spec_L4LineValid.l1 k all st (st.length : Int) (i : Int)) r := fun r h =>
    Ev.step (fun k => by simp only [spec_L4LineValid.l1]; rw [if_pos (by omega), if_pos (by omega), if_pos (by omega), if_pos (by omega), e1, e2, if_pos c, w64 (by omega)]; rfl) h
   refine ⟨fun h => step _ (h1 fun j a b => h j (by omega) b), fun ⟨j, a, b, n⟩ => step _ (h2 ⟨j, ?_, b, n⟩)⟩
   rcases Nat.lt_or_ge i j with q | q
   ·omega
   ·obtain rfl : j = i := by omega
    exact absurd c n
  ·refine ⟨fun h => absurd (h i (Nat.le_refl _) (by omega)) c, fun _ => ev_now fun k => ?_⟩
   simp only [spec_L4LineValid.l1]
   rw [if_pos (by omega), if_pos (by omega), if_pos (by omega), if_pos (by omega), e1, e2, if_neg c]
theorem rows_loop (gs : List S76) (st : List Int) (hn : gs.length ≤ 1000000) (r : Bool) (d : Nat) : ∀ i : Nat, i + d = gs.length →
  ((∀ j (h : j < gs.length), i ≤ j → okR gs[j]) → Ev (fun k => (spec_L4LineText.f k gs st).bind fun t161 => (if (t161.length : Int) > 8192 then (some false) else ((spec_l4All.f k gs st).bind fun t164 => (spec_L4LineValid.l1 k t164 st (st.length : Int) 0)))) r → Ev (fun k => spec_L4LineValid.l0 k gs (gs.length : Int) (i : Int) gs st) r) ∧
  ((∃ j, ∃ h : j < gs.length, i ≤ j ∧ ¬ okR gs[j]) → Ev (fun k => spec_L4LineValid.l0 k gs (gs.length : Int) (i : Int) gs st) false) := by
 induction d with
 | zero =>
  intro i hi
  refine ⟨fun _ h => ?_, fun ⟨j, h1, h2, _⟩ => by omega⟩
  refine Ev.step (fun k => ?_) h
  simp only [spec_L4LineValid.l0]
  rw [if_neg (by omega)]
 | succ d ih =>
  intro i hi
  have hlt : i < gs.length := by omega
  obtain ⟨h1, h2⟩ := ih (i + 1) (by omega)
  by_cases c1 : okGap gs[i].f0 gs[i].f1 gs[i].f2
  ·have hv := valid_ev gs[i].f0 gs[i].f1 gs[i].f2
   rw [decide_eq_true c1] at hv
   have ht := text_is _ _ _ c1
   have hb := br_ev (txt gs[i].f0 gs[i].f1 gs[i].f2) (by have := txt_len _ _ _ c1; omega)
   have step : ∀ r, Ev (fun k => if nl (txt gs[i].f0 gs[i].f1 gs[i].f2) > 0 then (some false) else (spec_L4LineValid.l0 k gs (gs.length : Int) ((i + 1 : Nat) : Int) gs st)) r → Ev (fun k => spec_L4LineValid.l0 k gs (gs.length : Int) (i : Int) gs st) r := fun r h => by
    refine Ev.step (f := fun k => (spec_L3Valid.f k gs[i].f0 gs[i].f1 gs[i].f2).bind fun t156 => (if t156 = true then ((spec_L3Text.f gs[i].f0 gs[i].f1 gs[i].f2).bind fun t157 => ((spec_l1Breaks.f k t157).bind fun t160 => (if t160 > 0 then (some false) else (spec_L4LineValid.l0 k gs (gs.length : Int) ((i + 1 : Nat) : Int) gs st)))) else (some false))) (fun k => ?_) (Ev.bind hv (Ev.congr (fun k => by rw [if_pos rfl, ht, Option.bind_some]) (Ev.bind hb h)))
    simp only [spec_L4LineValid.l0]
    rw [if_pos (by omega), if_pos (by omega), if_pos (by omega), rdG_ gs i hlt, w64 (by omega)]; rfl
   have hnn := nl_le (txt gs[i].f0 gs[i].f1 gs[i].f2)
   by_cases c2 : nl (txt gs[i].f0 gs[i].f1 gs[i].f2) = 0
   ·refine ⟨fun h hr => step _ (Ev.congr (fun k => if_neg (by omega)) (h1 (fun j a b => h j a (by omega)) hr)), fun ⟨j, a, b, n⟩ => step _ (Ev.congr (fun k => if_neg (by omega)) (h2 ⟨j, a, ?_, n⟩))⟩
    rcases Nat.lt_or_ge i j with q | q
    ·omega
    ·obtain rfl : j = i := by omega
     exact absurd ⟨c1, c2⟩ n
   ·exact ⟨fun h _ => absurd (h i hlt (Nat.le_refl _)).2 c2, fun _ => step _ (ev_const fun k => if_pos (by omega))⟩
  ·have hv := valid_ev gs[i].f0 gs[i].f1 gs[i].f2
   rw [decide_eq_false c1] at hv
   refine ⟨fun h _ => absurd (h i hlt (Nat.le_refl _)).1 c1, fun _ => ?_⟩
   refine Ev.step (f := fun k => (spec_L3Valid.f k gs[i].f0 gs[i].f1 gs[i].f2).bind fun t156 => (if t156 = true then ((spec_L3Text.f gs[i].f0 gs[i].f1 gs[i].f2).bind fun t157 => ((spec_l1Breaks.f k t157).bind fun t160 => (if t160 > 0 then (some false) else (spec_L4LineValid.l0 k gs (gs.length : Int) ((i + 1 : Nat) : Int) gs st)))) else (some false))) (fun k => ?_) (Ev.bind hv (ev_const fun k => by simp))
   simp only [spec_L4LineValid.l0]
   rw [if_pos (by omega), if_pos (by omega), if_pos (by omega), rdG_ gs i hlt, w64 (by omega)]; rfl
theorem validLn_ev (gs : List S76) (st : List Int) : (okLn gs st → Ev (fun k => spec_L4LineValid.f k gs st) true) ∧ (¬ okLn gs st → Ev (fun k => spec_L4LineValid.f k gs st) false) := by
 have bad : Ev (fun k => spec_L4LineValid.j0 k true gs st) false := ev_now fun k => by simp only [spec_L4LineValid.j0]; rw [if_pos trivial]
 unfold spec_L4LineValid.f
 by_cases c1 : (gs.length : Int) < 1
 ·exact ⟨fun h => by have := h.1.1; omega, fun _ => Ev.congr (fun k => if_pos c1) bad⟩
 by_cases c2 : (gs.length : Int) > 8193
 ·exact ⟨fun h => by have := h.1.2; omega, fun _ => Ev.congr (fun k => (if_neg c1).trans (if_pos c2)) bad⟩
 by_cases c3 : (st.length : Int) < 1
 ·exact ⟨fun h => by have := h.2.1.1; omega, fun _ => Ev.congr (fun k => ((if_neg c1).trans (if_neg c2)).trans (if_pos c3)) bad⟩
 by_cases c4 : (st.length : Int) > (gs.length : Int)
 ·refine ⟨fun h => by have := h.2.1.2; omega, fun _ => Ev.congr (fun k => ((if_neg c1).trans (if_neg c2)).trans (if_neg c3)) ?_⟩
  rw [decide_eq_true c4]; exact bad
 have go : ∀ r, Ev (fun k => spec_L4LineValid.l0 k gs (gs.length : Int) ((0 : Nat) : Int) gs st) r → Ev (fun k => spec_L4LineValid.j0 k (decide ((st.length : Int) > (gs.length : Int))) gs st) r := fun r h => by
  rw [decide_eq_false c4]
  exact Ev.step (fun k => by simp only [spec_L4LineValid.j0]; rw [if_neg (by simp)]; rfl) h
 have fin : ∀ r, Ev (fun k => spec_L4LineValid.l0 k gs (gs.length : Int) ((0 : Nat) : Int) gs st) r → Ev (fun k => if (gs.length : Int) < 1 then (spec_L4LineValid.j0 k true gs st) else (if (gs.length : Int) > 8193 then (spec_L4LineValid.j0 k true gs st) else (if (st.length : Int) < 1 then (spec_L4LineValid.j0 k true gs st) else (spec_L4LineValid.j0 k (decide ((st.length : Int) > (gs.length : Int))) gs st)))) r := fun r h =>
  Ev.congr (fun k => ((if_neg c1).trans (if_neg c2)).trans (if_neg c3)) (go r h)
 by_cases c5 : ∀ j (h : j < gs.length), okR gs[j]
 ·have F : Fine gs := ⟨by omega, c5⟩
  have hT := textTo_len (gs.map rwOf) gs.length
  have hS := stN_is (gs.map rwOf) gs.length
  by_cases c6 : stAt (gs.map rwOf) gs.length - 1 ≤ 8192
  ·have tail : ∀ r, Ev (fun k => spec_L4LineValid.l1 k (sts (gs.map rwOf) gs.length) st (st.length : Int) ((0 : Nat) : Int)) r → Ev (fun k => (spec_L4LineText.f k gs st).bind fun t161 => (if (t161.length : Int) > 8192 then (some false) else ((spec_l4All.f k gs st).bind fun t164 => (spec_L4LineValid.l1 k t164 st (st.length : Int) 0)))) r := fun r h =>
    Ev.bind (lineText_ev gs st F) (Ev.congr (fun k => if_neg (by rw [hT.1]; omega)) (Ev.bind (all_ev gs st F) h))
   obtain ⟨k1, k2⟩ := cmp_loop (sts (gs.map rwOf) gs.length) st (by rw [sts_length]; omega) (by rw [sts_length]; omega) st.length 0 (by omega)
   by_cases c7 : ∀ j, j < st.length → st.getD j 0 = stAt (gs.map rwOf) j
   ·refine ⟨fun _ => fin _ ((rows_loop gs st (by omega) true gs.length 0 (by omega)).1 (fun j h _ => c5 j h) (tail _ (k1 fun j _ h => ?_))), fun h => absurd ((okLn_iff gs st).2 ⟨⟨⟨by omega, by omega⟩, by omega, by omega⟩, c5, c6, c7⟩) h⟩
    rw [sts_get _ _ j (by omega)]; exact c7 j h
   ·refine ⟨fun h => absurd ((okLn_iff gs st).1 h).2.2.2 c7, fun _ => fin _ ((rows_loop gs st (by omega) false gs.length 0 (by omega)).1 (fun j h _ => c5 j h) (tail _ (k2 ?_)))⟩
    simp only [Classical.not_forall] at c7
    obtain ⟨j, hj, hne⟩ := c7
    exact ⟨j, by omega, hj, by rw [sts_get _ _ j (by omega)]; exact hne⟩
  ·refine ⟨fun h => absurd ((okLn_iff gs st).1 h).2.2.1 c6, fun _ => fin _ ((rows_loop gs st (by omega) false gs.length 0 (by omega)).1 (fun j h _ => c5 j h) (Ev.bind (lineText_ev gs st F) (ev_const fun k => if_pos ?_)))⟩
   rw [hT.1]; omega
 ·refine ⟨fun h => absurd ((okLn_iff gs st).1 h).2.1 c5, fun _ => fin _ ((rows_loop gs st (by omega) false gs.length 0 (by omega)).2 ?_)⟩
  simp only [Classical.not_forall] at c5
  obtain ⟨j, hj, hne⟩ := c5
  exact ⟨j, hj, by omega, hne⟩
theorem lc_loop (Rs : List Rw) (hp : Plain Rs) (hb : stAt Rs Rs.length ≤ 1000000) (off : Nat) (ho : off ≤ (textTo Rs Rs.length).length) (d : Nat) : ∀ i line col : Nat, i + d = off → line < Rs.length → col ≤ rwLen Rs line → stN Rs line + col = i →
  ∃ line' col' : Nat, Ev (fun k => spec_l4LineCol.l0 k (textTo Rs Rs.length) (off : Int) (line : Int) (col : Int) (i : Int)) ((line' : Int), (col' : Int)) ∧ line' < Rs.length ∧ col' ≤ rwLen Rs line' ∧ stN Rs line' + col' = off := by
 induction d with
 | zero =>
  intro i line col hi h1 h2 h3
  obtain rfl : i = off := by omega
  refine ⟨line, col, ev_now fun k => ?_, h1, h2, h3⟩
  simp only [spec_l4LineCol.l0]
  rw [if_neg (by omega)]
 | succ d ih =>
  intro i line col hi h1 h2 h3
  have hT := textTo_len Rs Rs.length
  rw [stN_is] at hb
  have hm := stN_mono Rs (i := line + 1) (j := Rs.length) (by omega)
  have hs : stN Rs (line + 1) = stN Rs line + rwLen Rs line + 1 := rfl
  have hrd : rd (textTo Rs Rs.length) (i : Int) = (textTo Rs Rs.length).getD i 0 := by unfold rd; simp
  by_cases c : col < rwLen Rs line
  ·have e := textTo_get Rs Rs.length line col h1 c
   rw [h3] at e
   have hne : (rwT Rs line).getD col 0 ≠ 10 := by
    have hl : col < (rwT Rs line).length := by rw [rwT_len]; exact c
    rw [List.getD_eq_getElem?_getD, List.getElem?_eq_getElem hl, Option.getD_some]
    exact hp line h1 _ (List.getElem_mem hl)
   obtain ⟨l', c', k1, k2⟩ := ih (i + 1) line (col + 1) (by omega) h1 (by omega) (by omega)
   refine ⟨l', c', Ev.step (fun k => ?_) k1, k2⟩
   simp only [spec_l4LineCol.l0]
   rw [if_pos (by omega), if_pos (by omega), if_pos (by omega), hrd, e, if_neg hne, w64 (by omega), w64 (by omega)]; rfl
  ·have hc : col = rwLen Rs line := by omega
   have hl2 : line + 1 < Rs.length := by
    rcases Nat.lt_or_ge (line + 1) Rs.length with q | q
    ·exact q
    ·obtain q2 : line + 1 = Rs.length := by omega
     rw [← q2] at hT ho
     rw [hT.1] at ho
     omega
   have e := textTo_nl Rs Rs.length line hl2
   rw [← hc, h3] at e
   obtain ⟨l', c', k1, k2⟩ := ih (i + 1) (line + 1) 0 (by omega) hl2 (by omega) (by omega)
   refine ⟨l', c', Ev.step (fun k => ?_) k1, k2⟩
   simp only [spec_l4LineCol.l0]
   rw [if_pos (by omega), if_pos (by omega), if_pos (by omega), hrd, e, if_pos rfl, w64 (by have := stN_mono Rs (i := 0) (j := line) (by omega); omega), w64 (by omega)]; rfl
theorem lc_ev (Rs : List Rw) (hn : 0 < Rs.length) (hp : Plain Rs) (hb : stAt Rs Rs.length ≤ 1000000) (off : Int) (h0 : 0 ≤ off) (h1 : off ≤ stAt Rs Rs.length - 1) (k0 k line : Nat) (hK : Known Rs k0 off k) (hL : LineOf Rs k off line) :
  Ev (fun k => spec_l4LineCol.f k (textTo Rs Rs.length) off) ((line : Int), off - stAt Rs line) := by
 obtain ⟨o, rfl⟩ : ∃ o : Nat, off = o := ⟨off.toNat, by omega⟩
 have hT := textTo_len Rs Rs.length
 obtain ⟨l', c', e1, e2, e3, e4⟩ := lc_loop Rs hp hb o (by rw [hT.1]; rw [stN_is] at h1; omega) o 0 0 0 (by omega) hn (by omega) rfl
 have a1 := stN_is Rs l'
 have a2 : stAt Rs (l' + 1) = stAt Rs l' + (rwLen Rs l' : Int) + 1 := rfl
 have hlt : l' < k := by
  rcases Nat.lt_or_ge l' k with q | q
  ·exact q
  ·rcases hK.stop with e | e
   ·omega
   ·have := stAt_mono Rs (i := k - 1) (j := l') (by omega); omega
 obtain rfl := hL.unique ⟨hlt, by omega, .inr (by omega)⟩
 unfold spec_l4LineCol.f
 rw [show (o : Int) - stAt Rs line = (c' : Int) by omega]
 exact e1
end Go.Proofs.YtamcacahjlaogaaDoor.LP
