/- A text put into a text of pieces: the store that grows, the tree behind, plainly. No condition. -/
import Derived.Test.YtnomidpnofhjdaaGreatDoorPt2
namespace Go.Proofs.YtnomidpnofhjdaaGreatDoor
open Go.RowKit Go.Proofs.YtnomidpnofhjdaaGreatDoorW.PrintWords Go.Proofs.YtnomidpnofhjdaaGreatDoorW.PrintLast Go.Proofs.YtnomidpnofhjdaaGreatDoorW.PrintMore Er
theorem own_int {w : World} {base : Nat} {v : Value} {T : List Int} (h : Kd.R (Kd.int .i32) 21 w base (fun _ => True) v T) : ∀ k, v.ownBlock = some k → base ≤ k ∧ k < w.heap.size ∧ ∃ cells, w.heap[k]? = some (.cells cells 21 (0, 0)) := by
 intro k hk
 obtain ⟨h0, inner, ho, hr⟩ := h
 exact ⟨own_base ho k hk, own_lt ho k hk, own_typed ho k hk⟩
theorem PS.grow {w w1 : World} {base b : Nat} {T T' : List Int} {t : Tree} {S : List Nat} {p : Option Nat} {u v1 : Value} (h : PS w base b T t S) (hp : w.heap[b]? = some (.cells #[u, ptrV p] 69 (0, 0))) (hg : w.grownBy w1 u.ownBlock) (hR : Kd.R (Kd.int .i32) 21 w1 base (fun _ => True) v1 T') :
  w1.heap[b]? = some (.cells #[u, ptrV p] 69 (0, 0)) ∧ PS (w1.setCell ⟨b, 0, none⟩ v1) base b T' t S ∧ Below base w (w1.setCell ⟨b, 0, none⟩ v1) ∧ (w1.setCell ⟨b, 0, none⟩ v1).heap[b]? = some (.cells #[v1, ptrV p] 69 (0, 0)) := by
 have hbS := h.bS
 have hlo := h.lo
 obtain ⟨A, c, p1, h1, h2, h3⟩ := h.ex
 rw [hp] at h1
 have h4 : u = .slice A T.length c ∧ ptrV p = ptrV p1 := by simpa using h1
 obtain ⟨e0, e2⟩ := h4
 have e : p1 = p := by cases p <;> cases p1 <;> simp_all [ptrV, adr]
 subst e
 rw [← e0] at h2
 have own := own_int h2
 have hbb : some b ≠ u.ownBlock := fun q => by
  obtain ⟨cs, hc⟩ := (own b q.symm).2.2
  rw [hp] at hc; cases hc
 have hSS : ∀ k ∈ S, some k ≠ u.ownBlock := fun k hk q => by
  obtain ⟨cs, hc⟩ := (own k q.symm).2.2
  obtain ⟨cs', hc'⟩ := h3.typed k hk
  rw [hc'] at hc; cases hc
 have hbw : w1.heap[b]? = some (.cells #[u, ptrV p1] 69 (0, 0)) := (hg.block b (blk_lt hp) hbb).trans hp
 have hr1 : Rep w1 t p1 S := h3.move fun k hk => hg.block k (h3.lt k hk) (hSS k hk)
 have hU : UpdS [b] w1 (w1.setCell ⟨b, 0, none⟩ v1) := ((Upd.refl b w1).set _).upds
 have hbn := blk_put hbw 0 v1 rfl
 have hR' := Kd.R_set hR hbw (fun q hq => by simp [Kd.int, Kd.scalar] at hq; subst hq; decide) 0 v1
 obtain ⟨A', c', ev, hc', hC'⟩ := Kd.R_reads hR
 subst ev
 refine ⟨hbw, ⟨⟨A', c', p1, hbn, hR', hr1.upd hU (fun k hk q => by simp only [List.mem_singleton] at q; subst q; exact hbS hk)⟩, h.nd, hlo⟩, ?_, hbn⟩
 exact ⟨hg.os, hg.tape, hg.output, by rw [World.size_setCell]; exact hg.size, fun k hk => by
  rw [Below.heap_setCell w1 ⟨b, 0, none⟩ _ k (by show k ≠ b; omega)]
  rcases Nat.lt_or_ge k w.heap.size with hkl | hkl
  ·exact hg.block k hkl (fun q => by have := (own k q.symm).1; omega)
  ·have := hlo.1; have := blk_lt hp; omega⟩
theorem PS.row {w : World} {base b : Nat} {T : List Int} {t : Tree} {S : List Nat} {u pr : Value} (h : PS w base b T t S) (hp : w.heap[b]? = some (.cells #[u, pr] 69 (0, 0))) : Kd.R (Kd.int .i32) 21 w base (fun _ => True) u T := by
 obtain ⟨A, c, p1, h1, h2, h3⟩ := h.ex
 rw [hp] at h1
 have h4 : u = .slice A T.length c ∧ pr = ptrV p1 := by simpa using h1
 rw [h4.1]; exact h2
theorem ptrV_inj {p q : Option Nat} (h : ptrV p = ptrV q) : p = q := by cases p <;> cases q <;> simp_all [ptrV, adr]
theorem PS.rep {w : World} {base b : Nat} {T : List Int} {t : Tree} {S : List Nat} {u : Value} {p : Option Nat} (h : PS w base b T t S) (hp : w.heap[b]? = some (.cells #[u, ptrV p] 69 (0, 0))) : Rep w t p S := by
 obtain ⟨A, c, p1, h1, h2, h3⟩ := h.ex
 rw [hp] at h1
 have h4 : u = .slice A T.length c ∧ ptrV p = ptrV p1 := by simpa using h1
 rw [ptrV_inj h4.2]; exact h3
theorem TxtOk.longer {T X : List Int} {t : Tree} (h : TxtOk T t) (hl : (T ++ X).length ≤ 1000000) : TxtOk (T ++ X) t := by
 have key : ∀ x ∈ TP.toL t, ptext (T ++ X) x = ptext T x := fun x hx => by
  obtain ⟨a, b, c, d⟩ := h.ins x hx
  unfold ptext
  rw [List.take_append_of_le_length (by omega)]
 refine ⟨h.allp, h.sum, hl, fun x hx => ?_, fun x hx => by rw [key x hx]; exact h.brk x hx⟩
 obtain ⟨a, b, c, d⟩ := h.ins x hx
 unfold InStore
 rw [List.length_append]
 exact ⟨a, b, by omega, by omega⟩
def goesOn (T : List Int) (t : Tree) (off : Int) : Option (Nat × Pc) :=
 if 0 < off then
  match (TP.toL t)[(seek (TP.toL t) (off - 1)).1]? with
  | some x => if (seek (TP.toL t) (off - 1)).2 = x.len - 1 ∧ x.off + x.len = (T.length : Int) then some ((seek (TP.toL t) (off - 1)).1, x) else none
  | none => none
 else none
def pinsT (T X : List Int) (t : Tree) (off : Int) : Tree :=
 match goesOn T t off with
 | some (k, x) => setT (mkP (T ++ X) x.off (x.len + (X.length : Int))) t k
 | none => TP.insert (mkP (T ++ X) (T.length : Int) (X.length : Int)) (cutT (T ++ X) t off).1 (cutT (T ++ X) t off).2
/-! the rank of the first piece that starts at an offset or behind it -/
def rankP : List Pc → Int → Int → Nat
 | [], _, _ => 0
 | p :: L, a, off => if off ≤ a then 0 else rankP L (a + p.len) off + 1
theorem rankP_zero (L : List Pc) (a off : Int) (h : off ≤ a) : rankP L a off = 0 := by cases L <;> simp [rankP, h]
theorem rankP_succ (L : List Pc) (h : ∀ p ∈ L, 1 ≤ p.len) : ∀ (j : Nat) (a off : Int), j < L.length → a + lenP (L.take j) < off → off ≤ a + lenP (L.take (j + 1)) → rankP L a off = j + 1 := by
 induction L with
 | nil => intro j a off hj; simp at hj
 | cons x L ih =>
  intro j a off hj h1 h2
  have hn : ∀ k, 0 ≤ lenP ((x :: L).take k) := fun k => lenP_nn _ (fun p hp => h p (List.mem_of_mem_take hp))
  have := hn j
  simp only [rankP]
  rw [if_neg (by omega)]
  cases j with
  | zero =>
   simp only [Nat.zero_add, List.take_succ_cons, List.take_zero, lenP] at h2
   rw [rankP_zero _ _ _ (by omega)]
  | succ j =>
   simp only [List.take_succ_cons, lenP] at h1 h2
   rw [ih (fun p hp => h p (by simp [hp])) j (a + x.len) off (by simpa using hj) (by omega) (by omega)]
theorem lenP_take_mono (L : List Pc) (h : ∀ p ∈ L, 1 ≤ p.len) (r : Nat) (hr : r < L.length) : lenP (L.take r) + 1 ≤ lenP (L.take (r + 1)) := by
 rw [List.take_succ_eq_append_getElem hr, lenP_app]
 have := h _ (List.getElem_mem hr)
 simp only [lenP]; omega
theorem rankP_edge (L : List Pc) (h : ∀ p ∈ L, 1 ≤ p.len) (r : Nat) (off : Int) (hr : r ≤ L.length) (e : lenP (L.take r) = off) : rankP L 0 off = r := by
 cases r with
 | zero => simp only [List.take_zero, lenP] at e; exact rankP_zero _ _ _ (by omega)
 | succ r =>
  have := lenP_take_mono L h r (by omega)
  exact rankP_succ L h r 0 off (by omega) (by omega) (by omega)
/-! a cut keeps the text valid -/
theorem mkP_ok {T : List Int} {o l : Int} (h0 : 0 ≤ o) (h1 : 1 ≤ l) (h2 : l ≤ 8192) (h3 : o + l ≤ (T.length : Int)) : InStore T (mkP T o l) ∧ (mkP T o l).brk = nl (ptext T (mkP T o l)) := ⟨⟨h0, h1, h2, h3⟩, rfl⟩
theorem TxtOk.of {T : List Int} {t t' : Tree} (h : TxtOk T t) (hm : ∀ y ∈ TP.toL t', y ∈ TP.toL t ∨ (InStore T y ∧ y.brk = nl (ptext T y))) (hs : rl t' ≤ 8192) : TxtOk T t' := by
 have key : ∀ y ∈ TP.toL t', InStore T y ∧ y.brk = nl (ptext T y) := fun y hy => by
  rcases hm y hy with q | q
  ·exact ⟨h.ins y q, h.brk y q⟩
  ·exact q
 refine ⟨fun y hy => ?_, hs, h.len, fun y hy => (key y hy).1, fun y hy => (key y hy).2⟩
 obtain ⟨k1, k2⟩ := key y hy
 have e := ptext_len k1
 have n := nl_le (ptext T y)
 rw [k2]
 exact ⟨k1.2.1, n.1, by omega⟩
theorem TxtOk.pos {T : List Int} {t : Tree} (h : TxtOk T t) : ∀ p ∈ TP.toL t, 1 ≤ p.len := fun p hp => (h.allp p hp).1
structure CutOk (T : List Int) (t : Tree) (off : Int) (t' : Tree) (r : Nat) : Prop where
 ok : TxtOk T t'
 avl : TP.Avl t'
 edge : lenP ((TP.toL t').take r) = off
 rank : r ≤ TP.cnt t'
 cnt : TP.cnt t' ≤ TP.cnt t + 1
 sum : rl t' = rl t
 keep : ∀ a : Nat, lenP ((TP.toL t).take a) ≤ off → a ≤ TP.cnt t → lenP ((TP.toL t').take a) = lenP ((TP.toL t).take a) ∧ a ≤ r
theorem lenP_mono (L : List Pc) (h : ∀ p ∈ L, 1 ≤ p.len) (a b : Nat) (hab : a ≤ b) (_hb : b ≤ L.length) : lenP (L.take a) + ((b - a : Nat) : Int) ≤ lenP (L.take b) := by
 induction b with
 | zero =>
  obtain rfl : a = 0 := by omega
  simp
 | succ b ih =>
  rcases Nat.lt_or_ge a (b + 1) with c | c
  ·have := ih (by omega) (by omega)
   have := lenP_take_mono L h b (by omega)
   omega
  ·obtain rfl : a = b + 1 := by omega
   simp
theorem le_of_lenP (L : List Pc) (h : ∀ p ∈ L, 1 ≤ p.len) (a b : Nat) (ha : a ≤ L.length) (_hb : b ≤ L.length) (he : lenP (L.take a) ≤ lenP (L.take b)) : a ≤ b := by
 rcases Nat.lt_or_ge b a with c | c
 ·have := lenP_mono L h b a (by omega) ha
  omega
 ·exact c
theorem cutT_ok (T : List Int) (t : Tree) (off : Int) (ok : TxtOk T t) (ha : TP.Avl t) (h0 : 0 ≤ off) (h1 : off ≤ rl t) : CutOk T t off (cutT T t off).1 (cutT T t off).2 := by
 have pos := ok.pos
 have hlen : (TP.toL t).length = TP.cnt t := TP.toL_length t
 have keep0 : ∀ r : Nat, r ≤ TP.cnt t → lenP ((TP.toL t).take r) = off → CutOk T t off t r := fun r hr e => by
  refine ⟨ok, ha, e, hr, by omega, rfl, fun a hq haL => ⟨rfl, ?_⟩⟩
  exact le_of_lenP (TP.toL t) pos a r (by omega) (by omega) (by omega)
 by_cases c : off = rl t
 ·rw [cut_end T t off c]
  exact keep0 _ (Nat.le_refl _) (by rw [← hlen, List.take_length, lenP_toL]; exact c.symm)
 obtain ⟨x, hx, k0, k1, hsk⟩ := seek_in (TP.toL t) pos off h0 (by rw [lenP_toL]; omega)
 have hj := (List.getElem?_eq_some_iff.1 hx).1
 by_cases ck : (seek (TP.toL t) off).2 = 0
 ·rw [cut_edge T t off c ck]
  exact keep0 (seek (TP.toL t) off).1 (by omega) (by omega)
 rw [cut_mid_ T t off x c ck hx]
 generalize (seek (TP.toL t) off).1 = j at hx hsk hj
 generalize (seek (TP.toL t) off).2 = k at k0 k1 hsk ck
 obtain ⟨i1, i2, i3, i4⟩ := ok.ins x (List.mem_of_getElem? hx)
 have hTL := setT_toL (mkP T x.off k) t j (by omega)
 have hc1 := setT_cnt (mkP T x.off k) t j
 obtain ⟨-, hav⟩ := setT_shape (mkP T x.off k) t j
 generalize setT (mkP T x.off k) t j = t1 at hTL hc1 hav
 obtain ⟨b1, -, -, b2, b3⟩ := TP.insert_ok (mkP T (x.off + k) (x.len - k)) t1 (j + 1) (hav ha) (by omega)
 have e1 : (TP.toL t1).take (j + 1) = (TP.toL t).take j ++ [mkP T x.off k] := by
  rw [hTL, List.take_append, List.take_of_length_le (by rw [List.length_take]; omega), List.length_take, Nat.min_eq_left (by omega), Nat.add_sub_cancel_left]
  simp
 have e2 : (TP.toL t1).drop (j + 1) = (TP.toL t).drop (j + 1) := by
  rw [hTL, List.drop_append, List.drop_eq_nil_of_le (by rw [List.length_take]; omega), List.length_take, Nat.min_eq_left (by omega), Nat.add_sub_cancel_left]
  simp
 rw [e1, e2] at b2
 generalize TP.insert (mkP T (x.off + k) (x.len - k)) t1 (j + 1) = t' at b1 b2 b3
 have eL : TP.toL t = (TP.toL t).take j ++ x :: (TP.toL t).drop (j + 1) := by
  have := (List.take_append_drop j (TP.toL t)).symm
  rw [List.drop_eq_getElem_cons hj] at this
  rw [(List.getElem?_eq_some_iff.1 hx).2] at this
  exact this
 have s1 : rl t' = rl t := by
  rw [← lenP_toL, ← lenP_toL, b2, eL]
  simp only [lenP_app, lenP]
  rw [← eL]
  simp only [mkP]
  omega
 have tk : (TP.toL t').take (j + 1) = (TP.toL t).take j ++ [mkP T x.off k] := by
  rw [b2, List.take_append, List.take_of_length_le (by rw [List.length_append, List.length_take]; simp; omega), List.length_append, List.length_take, Nat.min_eq_left (by omega)]
  simp
 have tkj : ∀ a, a ≤ j → (TP.toL t').take a = (TP.toL t).take a := fun a haj => by
  have := congrArg (List.take a) tk
  rw [List.take_take, Nat.min_eq_left (by omega), List.take_append, List.take_take, Nat.min_eq_left haj, List.length_take, Nat.min_eq_left (by omega), show a - j = 0 by omega, List.take_zero, List.append_nil] at this
  exact this
 show CutOk T t off t' (j + 1)
 refine ⟨ok.of (fun y hy => ?_) (by rw [s1]; exact ok.sum), b1, ?_, by omega, by omega, s1, fun a hq haL => ?_⟩
 ·rw [b2] at hy
  simp only [List.mem_append, List.mem_cons, List.not_mem_nil, or_false] at hy
  rcases hy with (hy | rfl) | rfl | hy
  ·exact .inl (List.mem_of_mem_take hy)
  ·exact .inr (mkP_ok i1 (by omega) (by omega) (by omega))
  ·exact .inr (mkP_ok (by omega) (by omega) (by omega) (by omega))
  ·exact .inl (List.mem_of_mem_drop hy)
 ·rw [tk, lenP_app]
  simp only [lenP, mkP]
  omega
 ·have haj : a ≤ j := by
   rcases Nat.lt_or_ge j a with q | q
   ·exfalso
    have m1 := lenP_mono (TP.toL t) pos (j + 1) a (by omega) (by omega)
    have m2 : lenP ((TP.toL t).take (j + 1)) = lenP ((TP.toL t).take j) + x.len := by
     rw [List.take_succ_eq_append_getElem hj, lenP_app, (List.getElem?_eq_some_iff.1 hx).2]
     simp [lenP]
    omega
   ·exact q
  exact ⟨by rw [tkj a haj], by omega⟩
end Go.Proofs.YtnomidpnofhjdaaGreatDoor
