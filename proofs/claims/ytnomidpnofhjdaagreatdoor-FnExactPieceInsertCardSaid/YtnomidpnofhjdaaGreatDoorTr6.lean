/- find and findBreak, walked: trees of small numbers, an offset (a line) in them. -/
import Derived.Test.YtnomidpnofhjdaaGreatDoorTr5
import Derived.Deep.LoopGhost
import Derived.Deep.RegionHeld3
namespace Go.Proofs.YtnomidpnofhjdaaGreatDoor
open Go.RowKit Go.Proofs.YtnomidpnofhjdaaGreatDoorW.PrintMore
def rl : Tree → Int | .nil => 0 | .node l v r => rl l + rl r + v.len
def kl : Tree → Int | .nil => 0 | .node l v r => kl l + kl r + v.brk
def Fine : Tree → Prop
 | .nil => True
 | .node l v r => Fine l ∧ Fine r ∧ 0 ≤ v.len ∧ 0 ≤ v.brk ∧ rl (.node l v r) ≤ 1000000000 ∧ kl (.node l v r) ≤ 1000000000 ∧ TP.cnt (.node l v r) ≤ 1000000000
theorem Fine.pos {t : Tree} (h : Fine t) : 0 ≤ rl t ∧ rl t ≤ 1000000000 ∧ 0 ≤ kl t ∧ kl t ≤ 1000000000 ∧ TP.cnt t ≤ 1000000000 := by
 induction t with
 | nil => simp [rl, kl, TP.cnt]
 | node l v r ihl ihr =>
  obtain ⟨h1, h2, h3, h4, h5, h6, h7⟩ := h
  have := ihl h1; have := ihr h2
  simp only [rl, kl] at h5 h6 ⊢
  exact ⟨by omega, h5, by omega, h6, h7⟩
theorem smW_rk (t : Tree) (h : Fine t) : (smW t).r = rl t ∧ (smW t).k = kl t := by
 induction t with
 | nil => exact ⟨rfl, rfl⟩
 | node l v r ihl ihr =>
  have hp := h.pos
  obtain ⟨h1, h2, h3, h4, h5, h6, h7⟩ := h
  obtain ⟨r1, k1⟩ := ihl h1
  obtain ⟨r2, k2⟩ := ihr h2
  have := h1.pos; have := h2.pos
  simp only [smW, rl, kl, r1, r2, k1, k2] at hp ⊢
  unfold wrap64
  omega
theorem runes_rep (w : World) (t : Tree) (p : Option Nat) (S : List Nat) (h : Rep w t p S) (hf : Fine t) :
  Calls Tryz.prog 65 #[ptrV p] w fun e w' => e = .returned (.int .i64 (rl t)) ∧ w' = w := by
 have := runes_any w p (smW t) h.sum
 rw [(smW_rk t hf).1] at this; exact this
def findV : Tree → Int → Int → Int → Int × Int × Int
 | .nil, _, rank, seen => (rank, 0, seen)
 | .node l v r, off, rank, seen => if off < rl l then findV l off rank (seen + 1) else if off < rl l + v.len then (rank + TP.cnt l, off - rl l, seen) else findV r (off - (rl l + v.len)) (rank + TP.cnt l + 1) (seen + 1)
theorem Rep.below {w w' : World} {t : Tree} {p : Option Nat} {S : List Nat} (h : Rep w t p S) (hb : Below w.heap.size w w') : Rep w' t p S := h.move fun k hk => hb.block k (h.lt k hk)
theorem Rep.alloc {w : World} {t : Tree} {p : Option Nat} {S : List Nat} {o : Obj} (h : Rep w t p S) : Rep (w.alloc o) t p S := h.below ((Below.refl _ w).alloc (Nat.le_refl _) _)
theorem Rep.drew {w : World} {t : Tree} {p : Option Nat} {S : List Nat} (h : Rep w t p S) : Rep w.drew t p S := h.move fun _ _ => rfl
structure FS (b : Nat) (pl : Option Nat) (v : Pc) (l : Tree) (Sl : List Nat) (wr w' : World) : Prop where
 c0 : w'.cell? ⟨b, 0, none⟩ = some (ptrV pl)
 c2 : w'.cell? ⟨b, 2, none⟩ = some (.int .i64 v.off)
 c3 : w'.cell? ⟨b, 3, none⟩ = some (.int .i64 v.len)
 c4 : w'.cell? ⟨b, 4, none⟩ = some (.int .i64 v.brk)
 rep : Rep w' l pl Sl
 bel : Below wr.heap.size wr w'
theorem FS.below {b : Nat} {pl : Option Nat} {v : Pc} {l : Tree} {Sl : List Nat} {wr w' w2 : World} (h : FS b pl v l Sl wr w') (hb : Below w'.heap.size w' w2) : FS b pl v l Sl wr w2 := by
 have key : ∀ j u, w'.cell? ⟨b, j, none⟩ = some u → w2.cell? ⟨b, j, none⟩ = some u := fun j u h1 => by
  have hlt : b < w'.heap.size := by
   rcases Nat.lt_or_ge b w'.heap.size with h2 | h2
   ·exact h2
   ·simp [World.cell?, Array.getElem?_eq_none h2] at h1
  rw [World.cell?_of_block (w := w') (a := ⟨b, j, none⟩) (hb.block _ hlt)]; exact h1
 exact ⟨key _ _ h.c0, key _ _ h.c2, key _ _ h.c3, key _ _ h.c4, h.rep.below hb, Go.Proofs.YtnomidpnofhjdaaGreatDoorW.PrintWords.below_step h.bel hb⟩
theorem FS.drew {b : Nat} {pl : Option Nat} {v : Pc} {l : Tree} {Sl : List Nat} {wr w' : World} (h : FS b pl v l Sl wr w') : FS b pl v l Sl wr w'.drew := ⟨h.c0, h.c2, h.c3, h.c4, h.rep.drew, h.bel.drew⟩
theorem FS.alloc {b : Nat} {pl : Option Nat} {v : Pc} {l : Tree} {Sl : List Nat} {wr w' : World} (o : Obj) (h : FS b pl v l Sl wr w') : FS b pl v l Sl wr (w'.alloc o) := h.below ((Below.refl _ w').alloc (Nat.le_refl _) _)
attribute [local go_sem] method_runes method_breaks
structure FindAt (w : World) (R : Int × Int × Int) (k : Nat) (p o r s : Value) (wr : World) : Prop where
 st : ∃ (t : Tree) (q : Option Nat) (S : List Nat) (off rank seen : Int), p = ptrV q ∧ o = .int .i64 off ∧ r = .int .i64 rank ∧ s = .int .i64 seen ∧ Rep wr t q S ∧ Fine t ∧ 0 ≤ off ∧ off < rl t ∧ 0 ≤ rank ∧ rank + TP.cnt t ≤ 1000000000 ∧ 0 ≤ seen ∧ seen + TP.cnt t ≤ 1000000001 ∧ TP.cnt t ≤ k ∧ findV t off rank seen = R
 bel : Below w.heap.size w wr
set_option maxHeartbeats 2000000 in
set_option maxRecDepth 100000 in
theorem find_any (w : World) (t : Tree) (p : Option Nat) (S : List Nat) (off : Int) (hrep : Rep w t p S) (hf : Fine t) (h0 : 0 ≤ off) (h1 : off < rl t) :
  Calls Tryz.prog 67 #[ptrV p, .int .i64 off] w fun e w' => e = .returned (.tuple #[.int .i64 (findV t off 0 1).1, .int .i64 (findV t off 0 1).2.1, .int .i64 (findV t off 0 1).2.2]) ∧ Below w.heap.size w w' := by
 have A : FindAt w (findV t off 0 1) (TP.cnt t) (ptrV p) (.int .i64 off) (.int .i64 0) (.int .i64 1) w := ⟨⟨t, p, S, off, 0, 1, rfl, rfl, rfl, rfl, hrep, hf, h0, h1, by omega, by have := hf.pos; omega, by omega, by have := hf.pos; omega, Nat.le_refl _, rfl⟩, Below.refl _ _⟩
 have HA := Lib.hid A
 generalize findV t off 0 1 = R at HA
 clear A hrep hf h0 h1
 go_enter Tryz.func67, Tryz.ntmps67
 go_wp2
 go_loopg [0, 1, 7, 8] (TP.cnt t) (fun k p o r s wr => FindAt w R k p o r s wr)
 case atStart => exact HA.out
 case round =>
  obtain ⟨⟨t, q, S, off, rank, seen, rfl, rfl, rfl, rfl, hrep, hf, h0, h1, hr0, hr1, hs0, hs1, hk, hR⟩, hB⟩ := hrel
  cases t with
  | nil => simp only [rl] at h1; omega
  | node l v r =>
   obtain ⟨b, pl, pr, Sl, Sr, rfl, rfl, hb, hl, hr⟩ := hrep
   have hfl := hf.1
   have hfr := hf.2.1
   have hp := hf.pos
   have hpl := hfl.pos
   have hpr := hfr.pos
   have hv := hf.2.2.1
   simp only [rl, TP.cnt] at h1 hp hr1 hs1 hk
   have q0 : wr.cell? ⟨b, 0, none⟩ = some (ptrV pl) := (Go.Proofs.YtnomidpnofhjdaaGreatDoorW.PrintWords.blk_cell hb 0).trans rfl
   have q1 : wr.cell? ⟨b, 1, none⟩ = some (ptrV pr) := (Go.Proofs.YtnomidpnofhjdaaGreatDoorW.PrintWords.blk_cell hb 1).trans rfl
   have q2 : wr.cell? ⟨b, 2, none⟩ = some (.int .i64 v.off) := (Go.Proofs.YtnomidpnofhjdaaGreatDoorW.PrintWords.blk_cell hb 2).trans rfl
   have q3 : wr.cell? ⟨b, 3, none⟩ = some (.int .i64 v.len) := (Go.Proofs.YtnomidpnofhjdaaGreatDoorW.PrintWords.blk_cell hb 3).trans rfl
   have q4 : wr.cell? ⟨b, 4, none⟩ = some (.int .i64 v.brk) := (Go.Proofs.YtnomidpnofhjdaaGreatDoorW.PrintWords.blk_cell hb 4).trans rfl
   have HLr := Lib.hid hl
   have HRr := Lib.hid hr
   have HFl := Lib.hid hfl
   have HFr := Lib.hid hfr
   have HBe := Lib.hid hB
   have HRR := Lib.hid hR
   have hblt := hb.lt
   clear hl hr hfl hfr hf hB hR hb
   simp only [ptrV, adr]
   by_cases c1 : off < rl l
   ·simp only [ptrV, adr] at q0
    go_wp2
    have F0 : FS b pl v l Sl wr wr := ⟨q0, q2, q3, q4, HLr.out, Below.refl _ _⟩
    go_region_held3 (fun w' => w'.cell? ⟨b, 0, none⟩ = some (.pointer (adr pl)) ∧ w'.cell? ⟨b, 2, none⟩ = some (.int .i64 v.off) ∧ w'.cell? ⟨b, 3, none⟩ = some (.int .i64 v.len) ∧ w'.cell? ⟨b, 4, none⟩ = some (.int .i64 v.brk) ∧ Rep w' l pl Sl ∧ FS b pl v l Sl wr w')
     (first | (refine (fun (x : FS b pl v l Sl wr _) => ⟨x.c0, x.c2, x.c3, x.c4, x.rep, x⟩) ?_; repeat (first | assumption | (with_reducible apply FS.drew) | (with_reducible apply FS.alloc))))
     (first | (go_at_call 65; refine (runes_rep _ l pl Sl (by first | assumption | exact Rep.drew HLr.out | exact Rep.alloc (Rep.drew HLr.out)) HFl.out).mono ?_; rintro e w' ⟨rfl, rfl⟩) | (go_at_call 142; refine (pruns_any _ _ _ _).mono ?_; rintro e w' ⟨rfl, rfl⟩))
    go_wp2
    go_roundg (TP.cnt l)
    case measure => omega
    case rel => exact ⟨⟨l, pl, Sl, off, rank, seen + 1, rfl, rfl, rfl, rfl, Rep.drew (Rep.alloc HLr.out), HFl.out, h0, c1, hr0, by omega, by omega, by omega, Nat.le_refl _, by rw [← HRR.out]; simp only [findV]; rw [if_pos c1]⟩, (HBe.out.alloc (HBe.out.size) _).drew⟩
   ·simp only [ptrV, adr] at q0 q1
    by_cases c2 : off < rl l + v.len
    ·go_wp2
     have F0 : FS b pl v l Sl wr wr := ⟨q0, q2, q3, q4, HLr.out, Below.refl _ _⟩
     go_region_held3 (fun w' => w'.cell? ⟨b, 0, none⟩ = some (.pointer (adr pl)) ∧ w'.cell? ⟨b, 2, none⟩ = some (.int .i64 v.off) ∧ w'.cell? ⟨b, 3, none⟩ = some (.int .i64 v.len) ∧ w'.cell? ⟨b, 4, none⟩ = some (.int .i64 v.brk) ∧ Rep w' l pl Sl ∧ FS b pl v l Sl wr w')
      (first | (refine (fun (x : FS b pl v l Sl wr _) => ⟨x.c0, x.c2, x.c3, x.c4, x.rep, x⟩) ?_; repeat (first | assumption | (with_reducible apply FS.drew) | (with_reducible apply FS.alloc))))
      (first | (go_at_call 65; refine (runes_rep _ l pl Sl (by first | assumption | exact Rep.drew HLr.out | exact Rep.alloc (Rep.drew HLr.out)) HFl.out).mono ?_; rintro e w' ⟨rfl, rfl⟩) | (go_at_call 142; refine (pruns_any _ _ _ _).mono ?_; rintro e w' ⟨rfl, rfl⟩))
     go_wp2_with fail
     obtain ⟨w1, e1⟩ : ∃ y, (wr.alloc (.cells #[.int .i64 v.off, .int .i64 v.len, .int .i64 v.brk] 84)).drew = y := ⟨_, rfl⟩
     have hb1 : Below w.heap.size w w1 := by subst e1; exact (HBe.out.alloc (HBe.out.size) _).drew
     have hl1 : Rep w1 l pl Sl := by subst e1; exact Rep.drew (Rep.alloc HLr.out)
     rw [e1]
     clear e1
     refine (count_rep w1 l pl Sl hl1 (by omega)).mono ?_
     rintro e w' ⟨rfl, hw⟩
     rw [hw]
     clear hw w' hl1
     go_wp2
     have hq := HRR.out
     simp only [findV] at hq
     rw [if_neg (by omega), if_pos c2] at hq
     subst hq
     go_ret3
     exact ⟨rfl, hb1⟩
    ·go_wp2
     have F0 : FS b pl v l Sl wr wr := ⟨q0, q2, q3, q4, HLr.out, Below.refl _ _⟩
     go_region_held3 (fun w' => w'.cell? ⟨b, 0, none⟩ = some (.pointer (adr pl)) ∧ w'.cell? ⟨b, 2, none⟩ = some (.int .i64 v.off) ∧ w'.cell? ⟨b, 3, none⟩ = some (.int .i64 v.len) ∧ w'.cell? ⟨b, 4, none⟩ = some (.int .i64 v.brk) ∧ Rep w' l pl Sl ∧ FS b pl v l Sl wr w')
      (first | (refine (fun (x : FS b pl v l Sl wr _) => ⟨x.c0, x.c2, x.c3, x.c4, x.rep, x⟩) ?_; repeat (first | assumption | (with_reducible apply FS.drew) | (with_reducible apply FS.alloc))))
      (first | (go_at_call 65; refine (runes_rep _ l pl Sl (by first | assumption | exact Rep.drew HLr.out | exact Rep.alloc (Rep.drew HLr.out)) HFl.out).mono ?_; rintro e w' ⟨rfl, rfl⟩) | (go_at_call 142; refine (pruns_any _ _ _ _).mono ?_; rintro e w' ⟨rfl, rfl⟩))
     go_wp2_with fail
     obtain ⟨w1, e1⟩ : ∃ y, (wr.alloc (.cells #[.int .i64 v.off, .int .i64 v.len, .int .i64 v.brk] 84)).drew = y := ⟨_, rfl⟩
     have hb1 : Below w.heap.size w w1 := by subst e1; exact (HBe.out.alloc (HBe.out.size) _).drew
     have hl1 : Rep w1 l pl Sl := by subst e1; exact Rep.drew (Rep.alloc HLr.out)
     have hr1' : Hid (Rep w1 r pr Sr) := by subst e1; exact Rep.drew (Rep.alloc HRr.out)
     have q5 : w1.cell? ⟨b, 1, none⟩ = some (.pointer (adr pr)) := by
      subst e1
      show (wr.alloc (.cells #[.int .i64 v.off, .int .i64 v.len, .int .i64 v.brk] 84)).cell? ⟨b, 1, none⟩ = some (.pointer (adr pr))
      rw [World.cell?_of_block (w := wr) (a := ⟨b, 1, none⟩) (((Below.refl _ wr).alloc (Nat.le_refl _) (.cells #[.int .i64 v.off, .int .i64 v.len, .int .i64 v.brk] 84)).block b hblt)]; exact q1
     rw [e1]
     clear e1 q0 q1 q2 q3 q4
     refine (count_rep w1 l pl Sl hl1 (by omega)).mono ?_
     rintro e w' ⟨rfl, hw⟩
     rw [hw]
     clear hw w' hl1
     go_wp2
     go_roundg (TP.cnt r)
     case measure => omega
     case rel => exact ⟨⟨r, pr, Sr, _, _, seen + 1, rfl, rfl, rfl, rfl, hr1'.out, HFr.out, by omega, by omega, by omega, by omega, by omega, by omega, Nat.le_refl _, by rw [← HRR.out]; simp only [findV]; rw [if_neg (by omega), if_neg (by omega)]⟩, hb1⟩
def findBV : Tree → Int → Int → Int → Int × Int × Int
 | .nil, _, rank, bf => (rank, 0, bf)
 | .node l v r, line, rank, bf => if line ≤ kl l then findBV l line rank bf else if line ≤ kl l + v.brk then (rank + TP.cnt l, line - kl l, bf + rl l) else findBV r (line - (kl l + v.brk)) (rank + TP.cnt l + 1) (bf + rl l + v.len)
structure FindBAt (w : World) (R : Int × Int × Int) (k : Nat) (p o r s : Value) (wr : World) : Prop where
 st : ∃ (t : Tree) (q : Option Nat) (S : List Nat) (line rank bf : Int), p = ptrV q ∧ o = .int .i64 line ∧ r = .int .i64 rank ∧ s = .int .i64 bf ∧ Rep wr t q S ∧ Fine t ∧ 1 ≤ line ∧ line ≤ kl t ∧ 0 ≤ rank ∧ rank + TP.cnt t ≤ 1000000000 ∧ 0 ≤ bf ∧ bf + rl t ≤ 1000000001 ∧ TP.cnt t ≤ k ∧ findBV t line rank bf = R
 bel : Below w.heap.size w wr
end Go.Proofs.YtnomidpnofhjdaaGreatDoor
