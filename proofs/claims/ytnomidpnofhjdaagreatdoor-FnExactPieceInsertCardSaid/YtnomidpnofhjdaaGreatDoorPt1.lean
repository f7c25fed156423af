/- A text of pieces that changes: what it stands as in memory; where an offset lies; the cut of a piece, plainly. No condition. -/
import Derived.Test.YtnomidpnofhjdaaGreatDoorPt0
import Derived.Test.YtnomidpnofhjdaaGreatDoorPs7
namespace Go.Proofs.YtnomidpnofhjdaaGreatDoor
open Go.RowKit Go.Proofs.YtnomidpnofhjdaaGreatDoorW.PrintWords Go.Proofs.YtnomidpnofhjdaaGreatDoorW.PrintLast Go.Proofs.YtnomidpnofhjdaaGreatDoorW.PrintMore Er
structure PS (w : World) (base b : Nat) (T : List Int) (t : Tree) (S : List Nat) : Prop where
 ex : ∃ A c p, w.heap[b]? = some (.cells #[.slice A T.length c, ptrV p] 69 (0, 0)) ∧ Kd.R (Kd.int .i32) 21 w base (fun _ => True) (.slice A T.length c) T ∧ Rep w t p S
 nd : S.Nodup
 lo : base ≤ b ∧ ∀ k ∈ S, base ≤ k
theorem PS.pb {w : World} {base b : Nat} {T : List Int} {t : Tree} {S : List Nat} (h : PS w base b T t S) : PB w b T t S := by
 obtain ⟨A, c, p, h1, h2, h3⟩ := h.ex
 obtain ⟨A', c', e, hc, hC⟩ := Kd.R_reads h2
 cases e
 exact ⟨A, c, p, h1, hC, hc, h3⟩
theorem PS.below {w w' : World} {base b : Nat} {T : List Int} {t : Tree} {S : List Nat} (h : PS w base b T t S) (hb : Below w.heap.size w w') : PS w' base b T t S := by
 obtain ⟨A, c, p, h1, h2, h3⟩ := h.ex
 exact ⟨⟨A, c, p, blk_below h1 hb, Kd.R_below h2 hb, h3.below hb⟩, h.nd, h.lo⟩
theorem Rep.typed {w : World} {t : Tree} : ∀ {p : Option Nat} {S : List Nat}, Rep w t p S → ∀ k ∈ S, ∃ cs, w.heap[k]? = some (.cells cs 138 (0, 0)) := by
 induction t with
 | nil => rintro p S ⟨_, rfl⟩ k hk; simp at hk
 | node l v r ihl ihr =>
  rintro p S ⟨b, pl, pr, Sl, Sr, _, rfl, hb, hl, hr⟩ k hk
  simp only [List.mem_cons, List.mem_append] at hk
  rcases hk with rfl | hk | hk
  ·exact ⟨_, hb⟩
  ·exact ihl hl k hk
  ·exact ihr hr k hk
theorem PS.bS {w : World} {base b : Nat} {T : List Int} {t : Tree} {S : List Nat} (h : PS w base b T t S) : b ∉ S := fun hm => by
 obtain ⟨A, c, p, h1, h2, h3⟩ := h.ex
 obtain ⟨cs, e⟩ := h3.typed b hm
 rw [h1] at e; cases e
theorem R_upds {w w' : World} {base : Nat} {v : Value} {T : List Int} {t : Tree} {p : Option Nat} {S : List Nat} (h : Kd.R (Kd.int .i32) 21 w base (fun _ => True) v T) (hr : Rep w t p S) (hu : UpdS S w w') : Kd.R (Kd.int .i32) 21 w' base (fun _ => True) v T := by
 have h1 := Kd.R_bound (Kd.R_tight rfl h)
 refine Kd.R_mono (Kd.R_step h1 fun k hk hlt => hu.block k hlt fun hm => ?_) (fun _ _ => trivial)
 obtain ⟨-, -, -, q, hq, cells, hc⟩ := hk
 obtain ⟨cs, e⟩ := hr.typed k hm
 rw [hc] at e
 cases e
 simp [Kd.int, Kd.scalar] at hq
theorem PS.root {w w1 : World} {base b : Nat} {T : List Int} {t t' : Tree} {S S' : List Nat} {p' : Option Nat} (h : PS w base b T t S) (hu : UpdS S w w1) (hr : Rep w1 t' p' S') (nd : S'.Nodup) (fr : Fresh S S' w) :
  (∃ A c p, w1.heap[b]? = some (.cells #[.slice A T.length c, ptrV p] 69 (0, 0))) ∧ PS (w1.setCell ⟨b, 1, none⟩ (ptrV p')) base b T t' S' ∧ Below base w (w1.setCell ⟨b, 1, none⟩ (ptrV p')) := by
 have hbS := h.bS
 have hlo := h.lo
 obtain ⟨A, c, p, h1, h2, h3⟩ := h.ex
 have hblt := blk_lt h1
 have h1' : w1.heap[b]? = some (.cells #[.slice A T.length c, ptrV p] 69 (0, 0)) := (hu.block b hblt hbS).trans h1
 have hbS' : b ∉ S' := fun hm => by rcases fr b hm with q | q; exact hbS q; omega
 have hR := R_upds h2 h3 hu
 have hU : UpdS [b] w1 (w1.setCell ⟨b, 1, none⟩ (ptrV p')) := ((Upd.refl b w1).set _).upds
 refine ⟨⟨A, c, p, h1'⟩, ⟨⟨A, c, p', blk_put h1' 1 (ptrV p') rfl, Kd.R_set hR h1' (fun q hq => by simp [Kd.int, Kd.scalar] at hq; subst hq; decide) 1 _, hr.upd hU (fun k hk q => by simp only [List.mem_singleton] at q; subst q; exact hbS' hk)⟩, nd, hlo.1, fun k hk => ?_⟩, ?_⟩
 ·rcases fr k hk with q | q
  ·exact hlo.2 k q
  ·omega
 ·exact ⟨hu.os, hu.tape, hu.output, by rw [World.size_setCell]; exact hu.size, fun k hk => by
   rw [Below.heap_setCell w1 ⟨b, 1, none⟩ _ k (by show k ≠ b; omega)]
   exact hu.block k (by omega) (fun hm => by have := hlo.2 k hm; omega)⟩
theorem PS.put {w w1 : World} {base b : Nat} {T : List Int} {t t' : Tree} {S : List Nat} {p : Option Nat} {u : Value} (h : PS w base b T t S) (hp : w.heap[b]? = some (.cells #[u, ptrV p] 69 (0, 0))) (hu : UpdS S w w1) (hr : Rep w1 t' p S) :
  PS w1 base b T t' S ∧ Below base w w1 := by
 have hbS := h.bS
 have hlo := h.lo
 obtain ⟨A, c, p1, h1, h2, h3⟩ := h.ex
 rw [hp] at h1
 have h4 : u = .slice A T.length c ∧ ptrV p = ptrV p1 := by simpa using h1
 obtain ⟨rfl, e2⟩ := h4
 have e : p1 = p := by cases p <;> cases p1 <;> simp_all [ptrV, adr]
 subst e
 have hblt := blk_lt hp
 refine ⟨⟨⟨A, c, p1, (hu.block b hblt hbS).trans hp, R_upds h2 h3 hu, hr⟩, h.nd, hlo⟩, ⟨hu.os, hu.tape, hu.output, hu.size, fun k hk => hu.block k (by omega) (fun hm => by have := hlo.2 k hm; omega)⟩⟩
/-! where an offset lies -/
def seek : List Pc → Int → Nat × Int
 | [], off => (0, off)
 | p :: L, off => if off < p.len then (0, off) else ((seek L (off - p.len)).1 + 1, (seek L (off - p.len)).2)
def lenP : List Pc → Int | [] => 0 | p :: L => p.len + lenP L
theorem lenP_app (L M : List Pc) : lenP (L ++ M) = lenP L + lenP M := by
 induction L with
 | nil => simp [lenP]
 | cons x L ih => simp only [List.cons_append, lenP, ih]; omega
theorem lenP_toL (t : Tree) : lenP (TP.toL t) = rl t := by
 induction t with
 | nil => rfl
 | node l v r ihl ihr => simp only [TP.toL, lenP_app, lenP, ihl, ihr, rl]; omega
theorem lenP_nn (L : List Pc) (h : ∀ p ∈ L, 1 ≤ p.len) : 0 ≤ lenP L := by
 induction L with
 | nil => exact Int.le_refl _
 | cons y L ih => have := h y (by simp); have := ih (fun p hp => h p (by simp [hp])); simp only [lenP]; omega
theorem seek_app (L M : List Pc) (h : ∀ p ∈ L, 1 ≤ p.len) : ∀ off : Int, 0 ≤ off → (off < lenP L → seek (L ++ M) off = seek L off) ∧ (¬ off < lenP L → seek (L ++ M) off = (L.length + (seek M (off - lenP L)).1, (seek M (off - lenP L)).2)) := by
 induction L with
 | nil => intro off h0; exact ⟨fun h => by simp only [lenP] at h; omega, fun _ => by simp [lenP]⟩
 | cons x L ih =>
  intro off h0
  have hx := h x (by simp)
  have hn := lenP_nn L (fun p hp => h p (by simp [hp]))
  have e : lenP (x :: L) = x.len + lenP L := rfl
  simp only [List.cons_append, seek]
  by_cases c : off < x.len
  ·rw [if_pos c, if_pos c]
   exact ⟨fun _ => rfl, fun q => by omega⟩
  ·rw [if_neg c, if_neg c]
   obtain ⟨i1, i2⟩ := ih (fun p hp => h p (by simp [hp])) (off - x.len) (by omega)
   refine ⟨fun q => by rw [i1 (by omega)], fun q => ?_⟩
   rw [i2 (by omega), e, show off - (x.len + lenP L) = off - x.len - lenP L by omega]
   simp only [List.length_cons]
   congr 1; omega
theorem findV_seek (t : Tree) (hp : AllP t) : ∀ (off rank seen : Int), 0 ≤ off → off < rl t → (findV t off rank seen).1 = rank + (seek (TP.toL t) off).1 ∧ (findV t off rank seen).2.1 = (seek (TP.toL t) off).2 := by
 induction t with
 | nil => intro off rank seen h0 h1; simp only [rl] at h1; omega
 | node l v r ihl ihr =>
  intro off rank seen h0 h1
  have hl : AllP l := fun x hx => hp x (by simp [TP.toL, hx])
  have hr : AllP r := fun x hx => hp x (by simp [TP.toL, hx])
  have hv := hp v (by simp [TP.toL])
  simp only [rl] at h1
  simp only [findV, TP.toL]
  obtain ⟨s1, s2⟩ := seek_app (TP.toL l) (v :: TP.toL r) (fun x hx => (hl x hx).1) off h0
  rw [lenP_toL, TP.toL_length] at s2
  rw [lenP_toL] at s1
  by_cases c1 : off < rl l
  ·rw [if_pos c1, s1 c1]
   exact ihl hl off rank (seen + 1) h0 c1
  ·rw [if_neg c1, s2 c1]
   simp only [seek]
   by_cases c2 : off < rl l + v.len
   ·rw [if_pos c2, if_pos (by omega)]
    exact ⟨rfl, rfl⟩
   ·rw [if_neg c2, if_neg (by omega)]
    obtain ⟨a, b⟩ := ihr hr (off - (rl l + v.len)) (rank + TP.cnt l + 1) (seen + 1) (by omega) (by omega)
    rw [a, b, show off - (rl l + v.len) = off - rl l - v.len by omega]
    exact ⟨by simp only; omega, rfl⟩
theorem seek_in (L : List Pc) (h : ∀ p ∈ L, 1 ≤ p.len) : ∀ off : Int, 0 ≤ off → off < lenP L → ∃ x, L[(seek L off).1]? = some x ∧ 0 ≤ (seek L off).2 ∧ (seek L off).2 < x.len ∧ lenP (L.take (seek L off).1) + (seek L off).2 = off := by
 induction L with
 | nil => intro off h0 h1; simp only [lenP] at h1; omega
 | cons x L ih =>
  intro off h0 h1
  simp only [lenP] at h1
  simp only [seek]
  by_cases c : off < x.len
  ·rw [if_pos c]; exact ⟨x, rfl, h0, c, by simp [lenP]⟩
  ·rw [if_neg c]
   obtain ⟨y, a, b, d, e⟩ := ih (fun p hp => h p (by simp [hp])) (off - x.len) (by omega) (by omega)
   exact ⟨y, by simpa using a, b, d, by simp only [List.take_succ_cons, lenP]; omega⟩
def mkP (T : List Int) (off len : Int) : Pc := ⟨off, len, nl ((T.take (off + len).toNat).drop off.toNat)⟩
def cutT (T : List Int) (t : Tree) (off : Int) : Tree × Nat :=
 if off = rl t then (t, TP.cnt t) else
  if (seek (TP.toL t) off).2 = 0 then (t, (seek (TP.toL t) off).1) else
   match (TP.toL t)[(seek (TP.toL t) off).1]? with
   | none => (t, (seek (TP.toL t) off).1)
   | some x => (TP.insert (mkP T (x.off + (seek (TP.toL t) off).2) (x.len - (seek (TP.toL t) off).2)) (setT (mkP T x.off (seek (TP.toL t) off).2) t (seek (TP.toL t) off).1) ((seek (TP.toL t) off).1 + 1), (seek (TP.toL t) off).1 + 1)
theorem setT_toL (v : Pc) (t : Tree) (k : Nat) (h : k < TP.cnt t) : TP.toL (setT v t k) = (TP.toL t).take k ++ v :: (TP.toL t).drop (k + 1) := by
 obtain ⟨y, -, h2⟩ := setT_flat v t k 0 h
 rw [← TP.flat_toL _ 0, h2, List.map_append, List.map_cons, List.map_take, List.map_drop, TP.flat_toL]
theorem setT_shape (v : Pc) (t : Tree) : ∀ k, TP.hgt (setT v t k) = TP.hgt t ∧ (TP.Avl t → TP.Avl (setT v t k)) := by
 induction t with
 | nil => intro k; exact ⟨rfl, fun h => h⟩
 | node l x r ihl ihr =>
  intro k
  simp only [setT]
  split
  ·simp only [TP.hgt, TP.Avl, (ihl k).1]; exact ⟨trivial, fun h => ⟨(ihl k).2 h.1, h.2⟩⟩
  ·split
   ·simp only [TP.hgt, TP.Avl, (ihr (k - TP.cnt l - 1)).1]; exact ⟨trivial, fun h => ⟨h.1, (ihr _).2 h.2.1, h.2.2⟩⟩
   ·exact ⟨rfl, fun h => h⟩
end Go.Proofs.YtnomidpnofhjdaaGreatDoor
