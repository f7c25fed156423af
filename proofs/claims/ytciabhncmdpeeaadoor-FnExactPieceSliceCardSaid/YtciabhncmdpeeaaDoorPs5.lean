/- Line and column of an offset (lineCol), walked. Condition: the text is a valid one, the offset lies in it. -/
import Derived.Test.YtciabhncmdpeeaaDoorPs4
namespace Go.Proofs.YtciabhncmdpeeaaDoor
open Go.RowKit Go.Proofs.YtciabhncmdpeeaaDoorW.PrintWords Go.Proofs.YtciabhncmdpeeaaDoorW.PrintLast Go.Proofs.YtciabhncmdpeeaaDoorW.PrintMore Er
/-- a store and a tree of pieces that are a valid text -/
structure TxtOk (T : List Int) (t : Tree) : Prop where
 allp : AllP t
 sum : rl t ≤ 8192
 len : T.length ≤ 1000000
 ins : ∀ x ∈ TP.toL t, InStore T x
 brk : ∀ x ∈ TP.toL t, x.brk = nl (ptext T x)
theorem allP_key (t : Tree) : AllP t → (TP.cnt t : Int) ≤ rl t ∧ 0 ≤ kl t ∧ kl t ≤ rl t := by
 induction t with
 | nil => intro _; simp [TP.cnt, rl, kl]
 | node l v r ihl ihr =>
  intro h
  have h1 := ihl (fun x hx => h x (by simp [TP.toL, hx]))
  have h2 := ihr (fun x hx => h x (by simp [TP.toL, hx]))
  have h3 := h v (by simp [TP.toL])
  simp only [TP.cnt, rl, kl]; omega
theorem TxtOk.fine {T : List Int} {t : Tree} (h : TxtOk T t) : Fine t := Fine_of t h.allp h.sum
theorem findBV_bd (t : Tree) (hp : AllP t) : ∀ (line rank bf : Int), 1 ≤ line → line ≤ kl t → 1 ≤ (findBV t line rank bf).2.1 ∧ (findBV t line rank bf).2.1 ≤ kl t ∧ bf ≤ (findBV t line rank bf).2.2 ∧ (findBV t line rank bf).2.2 ≤ bf + rl t := by
 induction t with
 | nil => intro line rank bf h0 h1; simp only [kl] at h1; omega
 | node l v r ihl ihr =>
  intro line rank bf h0 h1
  have hl : AllP l := fun x hx => hp x (by simp [TP.toL, hx])
  have hr : AllP r := fun x hx => hp x (by simp [TP.toL, hx])
  have h3 := hp v (by simp [TP.toL])
  have k1 := allP_key l hl
  have k2 := allP_key r hr
  simp only [kl] at h1
  simp only [findBV, rl, kl]
  by_cases c1 : line ≤ kl l
  ·rw [if_pos c1]
   have := ihl hl line rank bf h0 c1
   omega
  ·rw [if_neg c1]
   by_cases c2 : line ≤ kl l + v.brk
   ·rw [if_pos c2]
    simp only
    omega
   ·rw [if_neg c2]
    have := ihr hr (line - (kl l + v.brk)) (rank + TP.cnt l + 1) (bf + rl l + v.len) (by omega) (by omega)
    omega
theorem startP_any (w : World) (b : Nat) (T : List Int) (t : Tree) (S : List Nat) (line : Int) (h : PB w b T t S) (ok : TxtOk T t) (h0 : 0 ≤ line) (h1 : line ≤ kl t) :
  Calls Tryd.prog 115 #[.pointer (some ⟨b, 0, none⟩), .int .i64 line] w fun e w' => e = .returned (.int .i64 (startV T t line)) ∧ Below w.heap.size w w' := by
 have k := allP_key t ok.allp
 have hs := ok.sum
 refine start_any w b T t S line h ok.fine (by omega) ok.len ok.ins h0 h1 (fun hl => ?_) (fun hl => ?_)
 ·have := findBV_bd t ok.allp line 0 0 hl h1; omega
 ·have := findBV_bd t ok.allp line 0 0 hl h1; omega
/-- where lineCol's closure's two cells lie -/
structure LC (w : World) (g2 g3 b : Nat) (off : Int) (T : List Int) (t : Tree) (S : List Nat) : Prop where
 c2 : w.cell? ⟨g2, 0, none⟩ = some (.pointer (some ⟨b, 0, none⟩))
 c3 : w.cell? ⟨g3, 0, none⟩ = some (.int .i64 off)
 pb : PB w b T t S
theorem LC.keep {w w' : World} {g2 g3 b : Nat} {off : Int} {T : List Int} {t : Tree} {S : List Nat} (h : LC w g2 g3 b off T t S) (hk : TSt w w') : LC w' g2 g3 b off T t S := ⟨hk.keep h.c2, hk.keep h.c3, h.pb.below hk.bel⟩
set_option maxHeartbeats 4000000 in
set_option maxRecDepth 100000 in
theorem closure_any (w : World) (g2 g3 b : Nat) (off : Int) (T : List Int) (t : Tree) (S : List Nat) (h : LC w g2 g3 b off T t S) (ok : TxtOk T t) (i : Int) (h0 : 0 ≤ i) (h1 : i < kl t) :
  Calls Tryd.prog 118 #[.int .i64 i, .pointer (some ⟨g2, 0, none⟩), .pointer (some ⟨g3, 0, none⟩)] w fun e w' => e = .returned (.bool (decide (off < startV T t (i + 1)))) ∧ Below w.heap.size w w' := by
 have k := allP_key t ok.allp
 have hs := ok.sum
 have q2 := h.c2
 have q3 := h.c3
 have ST : Aside0 (∀ W, TSt w W → Calls Tryd.prog 115 #[.pointer (some ⟨b, 0, none⟩), .int .i64 (i + 1)] W fun e w' => e = .returned (.int .i64 (startV T t (i + 1))) ∧ Below W.heap.size W w') := ⟨fun W hW => startP_any W b T t S (i + 1) (h.pb.below hW.bel) ok (by omega) (by omega)⟩
 have s1 : IntKind.i64.wrap (i + 1) = i + 1 := by rw [IntKind.wrap_i64]; omega
 have ts0 : TSt w w := ⟨Below.refl _ _⟩
 generalize startV T t (i + 1) = s at ST ⊢
 clear h ok
 go_enter Tryd.func118, Tryd.ntmps118
 go_wp2
 go_region_held3 (fun w' => w'.cell? ⟨g2, 0, none⟩ = some (.pointer (some ⟨b, 0, none⟩)) ∧ w'.cell? ⟨g3, 0, none⟩ = some (.int .i64 off) ∧ TSt w w')
  (first | (refine (fun (y : TSt w _) => ⟨y.keep q2, y.keep q3, y⟩) ?_; repeat (first | assumption | (with_reducible apply TSt.drew) | (with_reducible apply TSt.alloc))))
  (first | (go_at_call 115; (with_reducible refine (ST.out _ (by first | assumption | exact TSt.drew (by assumption) | exact TSt.alloc (by assumption))).mono ?_); rintro e w' ⟨rfl, hb⟩; have ts9 := TSt.below (w := w) (by first | assumption | exact TSt.drew (by assumption) | exact TSt.alloc (by assumption)) hb))
 go_wp2
 go_ret
 exact ⟨rfl, ts9.bel⟩
set_option maxHeartbeats 2000000 in
set_option maxRecDepth 100000 in
theorem txtBreaks_any (w : World) (b : Nat) (T : List Int) (t : Tree) (S : List Nat) (h : PB w b T t S) (hf : Fine t) :
  Calls Tryd.prog 117 #[.pointer (some ⟨b, 0, none⟩)] w fun e w' => e = .returned (.int .i64 (kl t)) ∧ w' = w := by
 obtain ⟨A, c, p, h1, h2, h3, h4⟩ := h
 have q1 : w.cell? ⟨b, 1, none⟩ = some (ptrV p) := (blk_cell h1 1).trans rfl
 have HP := Aside0.mk h4
 have HF := Aside0.mk hf
 clear h1 h2 h3 h4 hf
 go_enter Tryd.func117, Tryd.ntmps117
 go_wp2_with fail
 refine (breaks_rep w t p S HP.out HF.out).mono ?_
 rintro e w' ⟨rfl, rfl⟩
 go_wp2
 go_ret
 exact ⟨rfl, rfl⟩
/-- r is the line of an offset -/
def LineIs (T : List Int) (t : Tree) (off r : Int) : Prop := 0 ≤ r ∧ r ≤ kl t ∧ (r = 0 ∨ startV T t r ≤ off) ∧ (r = kl t ∨ off < startV T t (r + 1))
set_option maxHeartbeats 8000000 in
set_option maxRecDepth 100000 in
theorem lineCol_any (w : World) (b : Nat) (T : List Int) (t : Tree) (S : List Nat) (off : Int) (h : PB w b T t S) (ok : TxtOk T t) (h0 : 0 ≤ off ∧ off ≤ rl t) (hst : ∀ l, 0 ≤ l → l ≤ kl t → 0 ≤ startV T t l ∧ startV T t l ≤ 1000000) :
  Calls Tryd.prog 94 #[.pointer (some ⟨b, 0, none⟩), .int .i64 off] w fun e w' => ∃ r : Int, e = .returned (.tuple #[.int .i64 r, .int .i64 (off - startV T t r)]) ∧ LineIs T t off r ∧ Below w.heap.size w w' := by
 have hk := allP_key t ok.allp
 have hsum := ok.sum
 obtain ⟨w0, e0⟩ : ∃ y, w.alloc (.cells #[.pointer (some ⟨b, 0, none⟩)] 110) = y := ⟨_, rfl⟩
 have hb0 : Below w.heap.size w w0 := by subst e0; exact (Below.refl _ w).alloc (Nat.le_refl _) _
 have hx0 : w0.heap[w.heap.size]? = some (.cells #[.pointer (some ⟨b, 0, none⟩)] 110 (0, 0)) := by subst e0; exact blk_new w _
 have z0 : w0.heap.size = w.heap.size + 1 := by subst e0; simp
 obtain ⟨w1, e1⟩ : ∃ y, w0.alloc (.cells #[.int .i64 off] 3) = y := ⟨_, rfl⟩
 have hb1 : Below w0.heap.size w0 w1 := by subst e1; exact (Below.refl _ w0).alloc (Nat.le_refl _) _
 have hx1 : w1.heap[w0.heap.size]? = some (.cells #[.int .i64 off] 3 (0, 0)) := by subst e1; exact blk_new w0 _
 rw [z0] at hx1
 have HB1 := Aside0.mk (below_step hb0 hb1)
 have q2 : w1.cell? ⟨w.heap.size, 0, none⟩ = some (.pointer (some ⟨b, 0, none⟩)) := (blk_cell (blk_below hx0 hb1) 0).trans rfl
 have q3 : w1.cell? ⟨w.heap.size + 1, 0, none⟩ = some (.int .i64 off) := (blk_cell hx1 0).trans rfl
 have HL := Aside0.mk (show LC w1 w.heap.size (w.heap.size + 1) b off T t S from ⟨q2, q3, h.below HB1.out⟩)
 have OK := Aside0.mk ok
 have HST := Aside0.mk hst
 clear h ok hb0 hb1 hx0 hx1 hst
 go_enter Tryd.func94, Tryd.ntmps94
 go_wp2_with fail
 refine (txtBreaks_any w1 b T t S HL.out.pb OK.out.fine).mono ?_
 rintro e w' ⟨rfl, hw⟩
 rw [hw]
 clear hw w'
 go_wp2_with fail
 refine (search_any w1 (fun i => decide (off < startV T t (i + 1))) (kl t) (.pointer (some ⟨w.heap.size, 0, none⟩)) (.pointer (some ⟨w.heap.size + 1, 0, none⟩)) (by omega) (fun W hW i a c => closure_any W _ _ b off T t S (HL.out.keep hW) OK.out i a c)).mono ?_
 rintro e w2 ⟨r, rfl, r0, r1, r2, r3, hb2⟩
 have LI : Aside0 (LineIs T t off r) := ⟨⟨r0, r1, by
  rcases r2 with r2 | r2
  ·exact .inl r2
  ·refine .inr ?_
   have := of_decide_eq_false r2
   rw [show r - 1 + 1 = r by omega] at this; omega, by
  rcases r3 with r3 | r3
  ·exact .inl r3
  ·exact .inr (of_decide_eq_true r3)⟩⟩
 have HB2 := Aside0.mk (below_step HB1.out hb2)
 have HL2 := HL.out.keep (TSt.mk hb2)
 have p2 := HL2.c2
 have p3 := HL2.c3
 have ST : Aside0 (∀ W, TSt w2 W → Calls Tryd.prog 115 #[.pointer (some ⟨b, 0, none⟩), .int .i64 r] W fun e w' => e = .returned (.int .i64 (startV T t r)) ∧ Below W.heap.size W w') := ⟨fun W hW => startP_any W b T t S r (HL2.pb.below hW.bel) OK.out r0 r1⟩
 have ts0 : TSt w2 w2 := ⟨Below.refl _ _⟩
 have hsb := HST.out r r0 r1
 obtain ⟨s, hs⟩ : ∃ s, startV T t r = s := ⟨_, rfl⟩
 rw [hs] at ST hsb
 have HS := Aside0.mk hs
 have s1 : IntKind.i64.wrap (off - s) = off - s := by rw [IntKind.wrap_i64]; omega
 clear HL HL2 hs hb2 r2 r3 q2 q3
 go_wp2_with fail
 go_region_held3 (fun w' => w'.cell? ⟨w.heap.size, 0, none⟩ = some (.pointer (some ⟨b, 0, none⟩)) ∧ w'.cell? ⟨w.heap.size + 1, 0, none⟩ = some (.int .i64 off) ∧ TSt w2 w')
  (first | (refine (fun (y : TSt w2 _) => ⟨y.keep p2, y.keep p3, y⟩) ?_; repeat (first | assumption | (with_reducible apply TSt.drew) | (with_reducible apply TSt.alloc))))
  (first | (go_at_call 115; (with_reducible refine (ST.out _ (by first | assumption | exact TSt.drew (by assumption) | exact TSt.alloc (by assumption))).mono ?_); rintro e w' ⟨rfl, hb⟩; have ts9 := TSt.below (w := w2) (by first | assumption | exact TSt.drew (by assumption) | exact TSt.alloc (by assumption)) hb))
 go_wp2
 go_ret2
 exact ⟨r, by rw [HS.out]; rfl, LI.out, below_step HB2.out ts9.bel⟩
end Go.Proofs.YtciabhncmdpeeaaDoor
