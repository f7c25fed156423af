/- The text that pieces of a store are, and its lines, plainly. No condition but a valid text. -/
import Derived.Test.YtciabhncmdpeeaaDoorPs5
namespace Go.Proofs.YtciabhncmdpeeaaDoor
open Go.RowKit Go.Proofs.YtciabhncmdpeeaaDoorW.PrintWords Go.Proofs.YtciabhncmdpeeaaDoorW.PrintLast Go.Proofs.YtciabhncmdpeeaaDoorW.PrintMore Er
theorem nlAt_spec (L : List Int) : ∀ (n i : Int), 1 ≤ n → n ≤ nl L → ∃ k : Nat, nlAt L n i = some (i + k) ∧ 1 ≤ k ∧ k ≤ L.length ∧ nl (L.take k) = n ∧ nl (L.take (k - 1)) = n - 1 ∧ L[k - 1]? = some 10 := by
 induction L with
 | nil => intro n i h0 h1; simp only [nl] at h1; omega
 | cons x L ih =>
  intro n i h0 h1
  simp only [nl] at h1
  simp only [nlAt]
  by_cases c : x = 10
  ·rw [if_pos c] at h1 ⊢
   by_cases c2 : n - 1 = 0
   ·rw [if_pos c2]
    refine ⟨1, rfl, by omega, by simp, ?_, ?_, by simp [c]⟩
    ·simp only [List.take_succ_cons, List.take_zero, nl]; rw [if_pos c]; omega
    ·simp only [Nat.sub_self, List.take_zero, nl]; omega
   ·rw [if_neg c2]
    obtain ⟨k, a, b, d, e, f, g⟩ := ih (n - 1) (i + 1) (by omega) (by omega)
    refine ⟨k + 1, by rw [a]; congr 1; omega, by omega, by simp only [List.length_cons]; omega, ?_, ?_, ?_⟩
    ·simp only [List.take_succ_cons, nl]; rw [if_pos c, e]; omega
    ·obtain ⟨q, rfl⟩ : ∃ q, k = q + 1 := ⟨k - 1, by omega⟩
     simp only [Nat.add_sub_cancel] at f ⊢
     simp only [List.take_succ_cons, nl]; rw [if_pos c, f]; omega
    ·obtain ⟨q, rfl⟩ : ∃ q, k = q + 1 := ⟨k - 1, by omega⟩
     simpa using g
  ·rw [if_neg c] at h1 ⊢
   obtain ⟨k, a, b, d, e, f, g⟩ := ih n (i + 1) h0 (by omega)
   refine ⟨k + 1, by rw [a]; congr 1; omega, by omega, by simp only [List.length_cons]; omega, ?_, ?_, ?_⟩
   ·simp only [List.take_succ_cons, nl]; rw [if_neg c, e]; omega
   ·obtain ⟨q, rfl⟩ : ∃ q, k = q + 1 := ⟨k - 1, by omega⟩
    simp only [Nat.add_sub_cancel] at f ⊢
    simp only [List.take_succ_cons, nl]; rw [if_neg c, f]; omega
   ·obtain ⟨q, rfl⟩ : ∃ q, k = q + 1 := ⟨k - 1, by omega⟩
    simpa using g
theorem nlAt_app (L M : List Int) : ∀ (n i : Int), 1 ≤ n → (n ≤ nl L → nlAt (L ++ M) n i = nlAt L n i) ∧ (nl L < n → nlAt (L ++ M) n i = nlAt M (n - nl L) (i + (L.length : Int))) := by
 induction L with
 | nil => intro n i h; refine ⟨fun k => by simp only [nl] at k; omega, fun _ => ?_⟩; simp [nl]
 | cons x L ih =>
  intro n i h
  have hb := nl_le L
  have hn : nl (x :: L) = (if x = 10 then 1 else 0) + nl L := rfl
  have hl : ((x :: L).length : Int) = (L.length : Int) + 1 := by simp
  rw [hl, List.cons_append]
  by_cases c : x = 10
  ·rw [if_pos c] at hn
   simp only [nlAt]
   rw [if_pos c, if_pos c]
   by_cases c2 : n - 1 = 0
   ·rw [if_pos c2, if_pos c2]
    exact ⟨fun _ => rfl, fun k => by omega⟩
   ·rw [if_neg c2, if_neg c2]
    obtain ⟨p, q⟩ := ih (n - 1) (i + 1) (by omega)
    exact ⟨fun k => p (by omega), fun k => by rw [q (by omega), hn]; congr 1 <;> omega⟩
  ·rw [if_neg c] at hn
   simp only [nlAt]
   rw [if_neg c, if_neg c]
   obtain ⟨p, q⟩ := ih n (i + 1) h
   exact ⟨fun k => p (by omega), fun k => by rw [q (by omega), hn]; congr 1 <;> omega⟩
/-- the text of pieces -/
def txtOf (T : List Int) (ps : List Pc) : List Int := ps.flatMap (ptext T)
theorem txtOf_app (T : List Int) (a b : List Pc) : txtOf T (a ++ b) = txtOf T a ++ txtOf T b := by unfold txtOf; rw [List.flatMap_append]
theorem txtOf_cons (T : List Int) (p : Pc) (b : List Pc) : txtOf T (p :: b) = ptext T p ++ txtOf T b := by unfold txtOf; rw [List.flatMap_cons]
theorem ptext_len {T : List Int} {x : Pc} (h : InStore T x) : ((ptext T x).length : Int) = x.len := by
 obtain ⟨h1, h2, h3, h4⟩ := h
 unfold ptext; rw [List.length_drop, List.length_take]; omega
theorem tree_txt (T : List Int) (t : Tree) (hi : ∀ x ∈ TP.toL t, InStore T x) (hb : ∀ x ∈ TP.toL t, x.brk = nl (ptext T x)) : ((txtOf T (TP.toL t)).length : Int) = rl t ∧ nl (txtOf T (TP.toL t)) = kl t := by
 induction t with
 | nil => exact ⟨rfl, rfl⟩
 | node l v r ihl ihr =>
  obtain ⟨a1, a2⟩ := ihl (fun x hx => hi x (by simp [TP.toL, hx])) (fun x hx => hb x (by simp [TP.toL, hx]))
  obtain ⟨b1, b2⟩ := ihr (fun x hx => hi x (by simp [TP.toL, hx])) (fun x hx => hb x (by simp [TP.toL, hx]))
  have e1 := ptext_len (hi v (by simp [TP.toL]))
  have e2 := hb v (by simp [TP.toL])
  simp only [TP.toL, rl, kl]
  rw [txtOf_app, txtOf_cons, List.length_append, List.length_append, nl_app, nl_app]
  omega
theorem find_txt (T : List Int) (t : Tree) (hi : ∀ x ∈ TP.toL t, InStore T x) (hb : ∀ x ∈ TP.toL t, x.brk = nl (ptext T x)) : ∀ (line rank bf : Int), 1 ≤ line → line ≤ kl t →
  ∃ (k : Nat) (x : Pc) (j : Int), (findBV t line rank bf).1 = rank + k ∧ (TP.toL t)[k]? = some x ∧ nlAt (ptext T x) (findBV t line rank bf).2.1 0 = some j ∧ ∀ i, nlAt (txtOf T (TP.toL t)) line i = some (i + ((findBV t line rank bf).2.2 - bf) + j) := by
 induction t with
 | nil => intro line rank bf h0 h1; simp only [kl] at h1; omega
 | node l v r ihl ihr =>
  intro line rank bf h0 h1
  have hil : ∀ x ∈ TP.toL l, InStore T x := fun x hx => hi x (by simp [TP.toL, hx])
  have hbl : ∀ x ∈ TP.toL l, x.brk = nl (ptext T x) := fun x hx => hb x (by simp [TP.toL, hx])
  have hir : ∀ x ∈ TP.toL r, InStore T x := fun x hx => hi x (by simp [TP.toL, hx])
  have hbr : ∀ x ∈ TP.toL r, x.brk = nl (ptext T x) := fun x hx => hb x (by simp [TP.toL, hx])
  obtain ⟨a1, a2⟩ := tree_txt T l hil hbl
  have e1 := ptext_len (hi v (by simp [TP.toL]))
  have e2 := hb v (by simp [TP.toL])
  have ll := TP.toL_length l
  simp only [kl] at h1
  simp only [findBV, TP.toL]
  by_cases c1 : line ≤ kl l
  ·rw [if_pos c1]
   obtain ⟨k, x, j, p1, p2, p3, p4⟩ := ihl hil hbl line rank bf h0 c1
   refine ⟨k, x, j, p1, ?_, p3, fun i => ?_⟩
   ·rw [List.getElem?_append_left (List.getElem?_eq_some_iff.1 p2).1]; exact p2
   ·rw [txtOf_app, (nlAt_app _ _ line i h0).1 (by omega)]; exact p4 i
  ·rw [if_neg c1]
   have step : ∀ i, nlAt (txtOf T (TP.toL l ++ v :: TP.toL r)) line i = nlAt (ptext T v ++ txtOf T (TP.toL r)) (line - kl l) (i + rl l) := fun i => by
    rw [txtOf_app, txtOf_cons, (nlAt_app _ _ line i h0).2 (by omega), a2, a1]
   by_cases c2 : line ≤ kl l + v.brk
   ·rw [if_pos c2]
    obtain ⟨k, q1, -⟩ := nlAt_spec (ptext T v) (line - kl l) 0 (by omega) (by omega)
    refine ⟨TP.cnt l, v, (0 : Int) + k, rfl, ?_, q1, fun i => ?_⟩
    ·rw [List.getElem?_append_right (by omega), ll, Nat.sub_self]; rfl
    ·rw [step, (nlAt_app _ _ _ _ (by omega)).1 (by omega)]
     obtain ⟨k', q2, -, -, q3, -⟩ := nlAt_spec (ptext T v) (line - kl l) (i + rl l) (by omega) (by omega)
     have sh : ∀ (L : List Int) (n a b : Int) (m : Int), nlAt L n a = some m → nlAt L n b = some (m - a + b) := by
      intro L
      induction L with
      | nil => intro n a b m h; simp [nlAt] at h
      | cons y L ih =>
       intro n a b m h
       simp only [nlAt] at h ⊢
       by_cases d : y = 10
       ·rw [if_pos d] at h ⊢
        by_cases d2 : n - 1 = 0
        ·rw [if_pos d2] at h ⊢
         simp only [Option.some.injEq] at h ⊢; omega
        ·rw [if_neg d2] at h ⊢
         rw [ih _ _ (b + 1) _ h]; congr 1; omega
       ·rw [if_neg d] at h ⊢
        rw [ih _ _ (b + 1) _ h]; congr 1; omega
     rw [sh _ _ _ (i + rl l) _ q1]
     congr 1; simp only; omega
   ·rw [if_neg c2]
    obtain ⟨k, x, j, p1, p2, p3, p4⟩ := ihr hir hbr (line - (kl l + v.brk)) (rank + TP.cnt l + 1) (bf + rl l + v.len) (by omega) (by omega)
    refine ⟨TP.cnt l + 1 + k, x, j, by rw [p1]; omega, ?_, p3, fun i => ?_⟩
    ·rw [List.getElem?_append_right (by omega), ll, show TP.cnt l + 1 + k - TP.cnt l = k + 1 by omega, List.getElem?_cons_succ]; exact p2
    ·rw [step, (nlAt_app _ _ _ _ (by omega)).2 (by omega), ← e2, show line - kl l - v.brk = line - (kl l + v.brk) by omega, p4]
     congr 1; omega
/-- where a line begins: behind its break -/
theorem start_is {T : List Int} {t : Tree} (ok : TxtOk T t) (line : Int) (h0 : 1 ≤ line) (h1 : line ≤ kl t) :
  ∃ k : Nat, startV T t line = k ∧ 1 ≤ k ∧ k ≤ (txtOf T (TP.toL t)).length ∧ nl ((txtOf T (TP.toL t)).take k) = line ∧ nl ((txtOf T (TP.toL t)).take (k - 1)) = line - 1 ∧ (txtOf T (TP.toL t))[k - 1]? = some 10 := by
 obtain ⟨k, x, j, p1, p2, p3, p4⟩ := find_txt T t ok.ins ok.brk line 0 0 h0 h1
 obtain ⟨-, e⟩ := tree_txt T t ok.ins ok.brk
 obtain ⟨m, q1, q2⟩ := nlAt_spec (txtOf T (TP.toL t)) line 0 h0 (by omega)
 refine ⟨m, ?_, q2⟩
 unfold startV
 rw [if_neg (by omega), p1, show ((0 : Int) + (k : Int)).toNat = k by omega, p2]
 simp only
 rw [p3]
 simp only
 have := p4 0
 rw [q1] at this
 simp only [Option.some.injEq] at this
 omega
theorem start_zero (T : List Int) (t : Tree) : startV T t 0 = 0 := by unfold startV; rw [if_pos rfl]
theorem start_bd {T : List Int} {t : Tree} (ok : TxtOk T t) (l : Int) (h0 : 0 ≤ l) (h1 : l ≤ kl t) : 0 ≤ startV T t l ∧ startV T t l ≤ rl t := by
 have e := (tree_txt T t ok.ins ok.brk).1
 have k := allP_key t ok.allp
 by_cases c : l = 0
 ·subst c; rw [start_zero]; omega
 ·obtain ⟨m, q1, q2, q3, -⟩ := start_is ok l (by omega) h1
  omega
theorem nl_take_mono (L : List Int) (a b : Nat) (h : a ≤ b) : nl (L.take a) ≤ nl (L.take b) := by
 have e : L.take b = L.take a ++ (L.take b).drop a := by
  have := List.take_append_drop a (L.take b)
  rw [List.take_take, Nat.min_eq_left h] at this
  exact this.symm
 rw [e, nl_app]
 have := nl_le ((L.take b).drop a)
 omega
/-- line and column, by counting -/
def lcF : List Int → Int → Int → Int × Int
 | [], l, c => (l, c)
 | x :: L, l, c => if x = 10 then lcF L (l + 1) 0 else lcF L l (c + 1)
theorem lcF_app (A B : List Int) : ∀ l c, lcF (A ++ B) l c = lcF B (lcF A l c).1 (lcF A l c).2 := by
 induction A with
 | nil => intro l c; rfl
 | cons x A ih => intro l c; simp only [List.cons_append, lcF]; split <;> exact ih _ _
theorem lcF_line (A : List Int) : ∀ l c, (lcF A l c).1 = l + nl A := by
 induction A with
 | nil => intro l c; simp [lcF, nl]
 | cons x A ih => intro l c; simp only [lcF, nl]; split <;> rw [ih] <;> omega
theorem lcF_none (B : List Int) : ∀ l c, nl B = 0 → lcF B l c = (l, c + (B.length : Int)) := by
 induction B with
 | nil => intro l c _; simp [lcF]
 | cons x B ih =>
  intro l c h
  have hb := nl_le B
  simp only [nl] at h
  have hx : ¬ x = 10 := fun e => by rw [if_pos e] at h; omega
  rw [if_neg hx] at h
  simp only [lcF]
  rw [if_neg hx, ih _ _ (by omega)]
  simp only [List.length_cons]
  congr 1; omega
/-- the line of an offset, and its column -/
theorem lineIs_lc {T : List Int} {t : Tree} (ok : TxtOk T t) (off : Int) (h0 : 0 ≤ off) (h1 : off ≤ rl t) (r : Int) (h : LineIs T t off r) :
  (r, off - startV T t r) = lcF ((txtOf T (TP.toL t)).take off.toNat) 0 0 := by
 obtain ⟨r0, r1, r2, r3⟩ := h
 obtain ⟨e1, e2⟩ := tree_txt T t ok.ins ok.brk
 generalize hX : txtOf T (TP.toL t) = X at e1 e2
 have up : nl (X.take off.toNat) ≤ r := by
  rcases r3 with r3 | r3
  ·have := nl_take_mono X off.toNat X.length (by omega)
   rw [List.take_length] at this; omega
  ·by_cases c : r = kl t
   ·have := nl_take_mono X off.toNat X.length (by omega)
    rw [List.take_length] at this; omega
   ·obtain ⟨k, q1, q2, q3, q4, q5, -⟩ := start_is ok (r + 1) (by omega) (by omega)
    rw [hX] at q4 q5
    have := nl_take_mono X off.toNat (k - 1) (by omega)
    omega
 by_cases c : r = 0
 ·subst c
  have hz : nl (X.take off.toNat) = 0 := by have := nl_le (X.take off.toNat); omega
  rw [lcF_none _ _ _ hz, start_zero, List.length_take]
  congr 1; omega
 ·obtain ⟨k, q1, q2, q3, q4, q5, q6⟩ := start_is ok r (by omega) r1
  rw [hX] at q3 q4 q5 q6
  have hk : startV T t r ≤ off := by rcases r2 with r2 | r2; exact absurd r2 c; exact r2
  have hkl : k - 1 < X.length := by omega
  have a1 := List.take_append_drop k (X.take off.toNat)
  rw [List.take_take, Nat.min_eq_left (by omega)] at a1
  have a2 : X.take k = X.take (k - 1) ++ [10] := by
   obtain ⟨q, rfl⟩ : ∃ q, k = q + 1 := ⟨k - 1, by omega⟩
   simp only [Nat.add_sub_cancel] at q6 hkl ⊢
   rw [List.take_succ_eq_append_getElem hkl]
   congr 2
   rw [List.getElem?_eq_getElem hkl] at q6
   exact Option.some.inj q6
  have hd : nl ((X.take off.toNat).drop k) = 0 := by
   have e := congrArg nl a1
   rw [nl_app, q4] at e
   have := nl_le ((X.take off.toNat).drop k)
   omega
  have hdl : (((X.take off.toNat).drop k).length : Int) = off - k := by rw [List.length_drop, List.length_take]; omega
  rw [← a1, a2, lcF_app, lcF_app, lcF_none _ _ _ hd, hdl]
  simp only [lcF]
  rw [if_pos trivial, lcF_line, q5]
  simp only [Prod.mk.injEq]
  omega
end Go.Proofs.YtciabhncmdpeeaaDoor
