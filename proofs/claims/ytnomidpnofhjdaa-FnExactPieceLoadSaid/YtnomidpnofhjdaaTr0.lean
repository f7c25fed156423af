/- The plain methods of a tree's node (height, count, runes, breaks, sum), walked. -/
import Derived.Test.YtnomidpnofhjdaaProg
import Derived.WalkKit
import Derived.WalkSpells
import Derived.WalkLawsBesides
import Derived.Deep.QuietTactic
import Derived.BigQuiet
import Derived.StillTailTactics
import Derived.Lib.Hide
import Derived.Outline
import Derived.Deep.RegionHeld3
import Derived.Test.YtnomidpnofhjdaaWMore
namespace Go.Proofs.Ytnomidpnofhjdaa
open Go.RowKit Go.Proofs.YtnomidpnofhjdaaW.PrintMore
def adr : Option Nat → Option Addr | none => none | some b => some ⟨b, 0, none⟩
abbrev ptrV (p : Option Nat) : Value := .pointer (adr p)
def mxI (a b : Int) : Int := if a < b then b else a
theorem max2_mx (k k' : IntKind) (x y : Int) : Builtin.max2 (.int k x) (.int k' y) = pure (.int k (mxI x y)) := by simp only [Builtin.max2, gt_iff_lt, mxI]
structure Sm where
  h : Int
  c : Int
  r : Int
  k : Int
def SumAt (w : World) (p : Option Nat) (s : Sm) : Prop :=
  (p = none ∧ s = ⟨0, 0, 0, 0⟩) ∨ ∃ b, p = some b ∧ w.cell? ⟨b, 5, none⟩ = some (.int .i64 s.h) ∧ w.cell? ⟨b, 6, none⟩ = some (.int .i64 s.c) ∧ w.cell? ⟨b, 7, none⟩ = some (.int .i64 s.r) ∧ w.cell? ⟨b, 8, none⟩ = some (.int .i64 s.k)
theorem SumAt.set {w : World} {p : Option Nat} {s : Sm} (H : SumAt w p s) {n i : Nat} (hn : p ≠ some n) (v : Value) : SumAt (w.setCell ⟨n, i, none⟩ v) p s := by
  rcases H with H | ⟨b, rfl, h1, h2, h3, h4⟩
  · exact .inl H
  · have hb : b ≠ n := fun e => hn (by rw [e])
    have key : ∀ j, (w.setCell ⟨n, i, none⟩ v).cell? ⟨b, j, none⟩ = w.cell? ⟨b, j, none⟩ := fun j => World.cell?_of_block (w := w) (Below.heap_setCell w _ v b hb)
    exact .inr ⟨b, rfl, by rw [key]; exact h1, by rw [key]; exact h2, by rw [key]; exact h3, by rw [key]; exact h4⟩
theorem height_any (w : World) (p : Option Nat) (s : Sm) (H : SumAt w p s) : Calls Try.prog 35 #[ptrV p] w fun e w' => e = .returned (.int .i64 s.h) ∧ w' = w := by
  rcases H with ⟨rfl, rfl⟩ | ⟨b, rfl, h1, h2, h3, h4⟩
  · simp only [ptrV, adr]
    go_enter Try.func35, Try.ntmps35
    go_wp2
    go_ret
    exact ⟨rfl, rfl⟩
  · simp only [ptrV, adr]
    go_enter Try.func35, Try.ntmps35
    go_wp2
    go_ret
    exact ⟨rfl, rfl⟩
theorem count_any (w : World) (p : Option Nat) (s : Sm) (H : SumAt w p s) : Calls Try.prog 36 #[ptrV p] w fun e w' => e = .returned (.int .i64 s.c) ∧ w' = w := by
  rcases H with ⟨rfl, rfl⟩ | ⟨b, rfl, h1, h2, h3, h4⟩
  · simp only [ptrV, adr]
    go_enter Try.func36, Try.ntmps36
    go_wp2
    go_ret
    exact ⟨rfl, rfl⟩
  · simp only [ptrV, adr]
    go_enter Try.func36, Try.ntmps36
    go_wp2
    go_ret
    exact ⟨rfl, rfl⟩
theorem runes_any (w : World) (p : Option Nat) (s : Sm) (H : SumAt w p s) : Calls Try.prog 37 #[ptrV p] w fun e w' => e = .returned (.int .i64 s.r) ∧ w' = w := by
  rcases H with ⟨rfl, rfl⟩ | ⟨b, rfl, h1, h2, h3, h4⟩
  · simp only [ptrV, adr]
    go_enter Try.func37, Try.ntmps37
    go_wp2
    go_ret
    exact ⟨rfl, rfl⟩
  · simp only [ptrV, adr]
    go_enter Try.func37, Try.ntmps37
    go_wp2
    go_ret
    exact ⟨rfl, rfl⟩
theorem breaks_any (w : World) (p : Option Nat) (s : Sm) (H : SumAt w p s) : Calls Try.prog 38 #[ptrV p] w fun e w' => e = .returned (.int .i64 s.k) ∧ w' = w := by
  rcases H with ⟨rfl, rfl⟩ | ⟨b, rfl, h1, h2, h3, h4⟩
  · simp only [ptrV, adr]
    go_enter Try.func38, Try.ntmps38
    go_wp2
    go_ret
    exact ⟨rfl, rfl⟩
  · simp only [ptrV, adr]
    go_enter Try.func38, Try.ntmps38
    go_wp2
    go_ret
    exact ⟨rfl, rfl⟩

theorem blk_next {w w1 : World} {n : Nat} {cs : Array Value} {t : TypeId} (h : w.heap[n]? = some (.cells cs t (0, 0))) (i : Nat) (v : Value) (e : (w.setCell ⟨n, i, none⟩ v).drew = w1) : w1.heap[n]? = some (.cells (cs.setIfInBounds i v) t (0, 0)) := by
  subst e; exact Go.Proofs.YtnomidpnofhjdaaW.PrintWords.blk_set h i v
theorem SumAt.next {w w1 : World} {p : Option Nat} {s : Sm} (H : SumAt w p s) {n i : Nat} (hn : p ≠ some n) {v : Value} (e : (w.setCell ⟨n, i, none⟩ v).drew = w1) : SumAt w1 p s := by
  subst e; exact H.set hn v
theorem method_runes (o ln br : Int) (w : World) : (method 184 38 (.agg #[.int .i64 o, .int .i64 ln, .int .i64 br]) "loop.example/s01685/impl.runes").run Try.prog w = .ok (55, .agg #[.int .i64 o, .int .i64 ln, .int .i64 br]) w := by kernel_rfl
theorem method_breaks (o ln br : Int) (w : World) : (method 184 38 (.agg #[.int .i64 o, .int .i64 ln, .int .i64 br]) "loop.example/s01685/impl.breaks").run Try.prog w = .ok (54, .agg #[.int .i64 o, .int .i64 ln, .int .i64 br]) w := by kernel_rfl
theorem pruns_any (w : World) (o ln br : Int) : Calls Try.prog 55 #[.agg #[.int .i64 o, .int .i64 ln, .int .i64 br]] w fun e w' => e = .returned (.int .i64 ln) ∧ w.alloc (.cells #[.int .i64 o, .int .i64 ln, .int .i64 br] 38) = w' := by
  go_enter Try.func55, Try.ntmps55
  go_wp2
  go_ret
  exact ⟨rfl, rfl⟩
theorem pbreaks_any (w : World) (o ln br : Int) : Calls Try.prog 54 #[.agg #[.int .i64 o, .int .i64 ln, .int .i64 br]] w fun e w' => e = .returned (.int .i64 br) ∧ w.alloc (.cells #[.int .i64 o, .int .i64 ln, .int .i64 br] 38) = w' := by
  go_enter Try.func54, Try.ntmps54
  go_wp2
  go_ret
  exact ⟨rfl, rfl⟩
theorem SumAt.alloc {w : World} {p : Option Nat} {s : Sm} (H : SumAt w p s) (o : Obj) : SumAt (w.alloc o) p s := by
  rcases H with H | ⟨b, rfl, h1, h2, h3, h4⟩
  · exact .inl H
  · exact .inr ⟨b, rfl, Go.Proofs.YtnomidpnofhjdaaW.PrintWords.pw_cell_below ((Below.refl _ w).alloc (Nat.le_refl _) o) h1, Go.Proofs.YtnomidpnofhjdaaW.PrintWords.pw_cell_below ((Below.refl _ w).alloc (Nat.le_refl _) o) h2, Go.Proofs.YtnomidpnofhjdaaW.PrintWords.pw_cell_below ((Below.refl _ w).alloc (Nat.le_refl _) o) h3, Go.Proofs.YtnomidpnofhjdaaW.PrintWords.pw_cell_below ((Below.refl _ w).alloc (Nat.le_refl _) o) h4⟩
theorem cell_alloc {w : World} {a : Addr} {v : Value} (h : w.cell? a = some v) (o : Obj) : (w.alloc o).cell? a = some v := Go.Proofs.YtnomidpnofhjdaaW.PrintWords.pw_cell_below ((Below.refl _ w).alloc (Nat.le_refl _) o) h
theorem frozen_alloc {w : World} {a : Addr} {v : Value} (h : w.cell? a = some v) (hf : w.frozen? a = false) (o : Obj) : (w.alloc o).frozen? a = false := by
  rw [((Below.refl _ w).alloc (Nat.le_refl _) o).frozen (World.block_lt_of_cell? w a h)]; exact hf
def cX (a : Addr) (w : World) : Value := (w.cell? a).getD undef
theorem cX_ok {w : World} {a : Addr} {v : Value} (h : w.cell? a = some v) : w.cell? a = some (cX a w) := by unfold cX; rw [h]; rfl
theorem cell_set_same {w : World} {n i : Nat} {x : Value} (h : w.cell? ⟨n, i, none⟩ = some x) (v : Value) : (w.setCell ⟨n, i, none⟩ v).cell? ⟨n, i, none⟩ = some v := by go_simp
theorem cell_set_ne {w : World} {n i j : Nat} {x : Value} (h : w.cell? ⟨n, j, none⟩ = some x) (hij : (i == j) = false) (v : Value) : (w.setCell ⟨n, i, none⟩ v).cell? ⟨n, j, none⟩ = some x := by
  have hij' : i ≠ j := by simpa using hij
  simp only [World.cell?, World.setCell, Array.getElem?_modify] at h ⊢
  cases hb : w.heap[n]? with
  | none => rw [hb] at h; simp at h
  | some o => rw [hb] at h; cases o <;> simp_all
theorem frozen_set {w : World} {a b : Addr} (h : w.frozen? b = false) (v : Value) : (w.setCell a v).frozen? b = false := by
  rw [World.frozen?_setCell]; exact h
/-- only block n may have changed, and new blocks may lie there -/
structure Upd (n : Nat) (w w' : World) : Prop where
  os : w'.os = w.os
  tape : w'.tape = w.tape
  output : w'.output = w.output
  size : w.heap.size ≤ w'.heap.size
  block : ∀ k, k < w.heap.size → k ≠ n → w'.heap[k]? = w.heap[k]?
theorem Upd.refl (n : Nat) (w : World) : Upd n w w := ⟨rfl, rfl, rfl, Nat.le_refl _, fun _ _ _ => rfl⟩
theorem Upd.alloc {n : Nat} {w w1 : World} (h : Upd n w w1) (o : Obj) : Upd n w (w1.alloc o) :=
  ⟨h.os, h.tape, h.output, by have := h.size; simp; omega, fun k hk hn => by rw [← h.block k hk hn]; exact Below.heap_alloc _ _ _ (by have := h.size; omega)⟩
theorem Upd.set {n i : Nat} {w w1 : World} (h : Upd n w w1) (v : Value) : Upd n w (w1.setCell ⟨n, i, none⟩ v) :=
  ⟨h.os, h.tape, h.output, by have := h.size; simp [World.setCell]; omega, fun k hk hn => by rw [← h.block k hk hn]; exact Below.heap_setCell _ _ _ _ hn⟩
theorem Upd.drew {n : Nat} {w w1 : World} (h : Upd n w w1) : Upd n w w1.drew := ⟨h.os, h.tape, h.output, h.size, h.block⟩
def NB (n j : Nat) (cs : Array Value) (w : World) : Prop := ∃ x, w.heap[n]? = some (.cells (cs.setIfInBounds j x) 62 (0, 0))
theorem NB.alloc {n j : Nat} {cs : Array Value} {w : World} (h : NB n j cs w) (o : Obj) : NB n j cs (w.alloc o) := by
  obtain ⟨x, h⟩ := h; exact ⟨x, (Below.heap_alloc w o n (Array.getElem?_eq_some_iff.1 h).1).trans h⟩
theorem NB.drew {n j : Nat} {cs : Array Value} {w : World} (h : NB n j cs w) : NB n j cs w.drew := h
theorem NB.set {n j : Nat} {cs : Array Value} {w : World} (h : NB n j cs w) (v : Value) : NB n j cs (w.setCell ⟨n, j, none⟩ v) := by
  obtain ⟨x, h⟩ := h; exact ⟨v, by rw [Go.Proofs.YtnomidpnofhjdaaW.PrintWords.blk_set h j v, Array.setIfInBounds_setIfInBounds]⟩
theorem Upd.next {n i : Nat} {w w1 w2 : World} {v : Value} (h : Upd n w w1) (e : (w1.setCell ⟨n, i, none⟩ v).drew = w2) : Upd n w w2 := by subst e; exact (h.set v).drew
theorem Upd.trans {n : Nat} {w w1 w2 : World} (h : Upd n w w1) (k : Upd n w1 w2) : Upd n w w2 :=
  ⟨k.os.trans h.os, k.tape.trans h.tape, k.output.trans h.output, Nat.le_trans h.size k.size, fun i hi hn => (k.block i (Nat.lt_of_lt_of_le hi h.size) hn).trans (h.block i hi hn)⟩
theorem NB.of {n j : Nat} {cs : Array Value} {w w1 : World} {v : Value} (h : NB n j cs w) (e : (w.setCell ⟨n, j, none⟩ v).drew = w1) : w1.heap[n]? = some (.cells (cs.setIfInBounds j v) 62 (0, 0)) := by
  subst e; obtain ⟨x, h⟩ := h
  have := Go.Proofs.YtnomidpnofhjdaaW.PrintWords.blk_set h j v
  rw [Array.setIfInBounds_setIfInBounds] at this; exact this
structure ST (n j : Nat) (pl pr : Option Nat) (sl sr : Sm) (o ln br : Int) (cs : Array Value) (w0 w : World) : Prop where
  c0 : w.cell? ⟨n, 0, none⟩ = some (ptrV pl)
  c1 : w.cell? ⟨n, 1, none⟩ = some (ptrV pr)
  c2 : w.cell? ⟨n, 2, none⟩ = some (.int .i64 o)
  c3 : w.cell? ⟨n, 3, none⟩ = some (.int .i64 ln)
  c4 : w.cell? ⟨n, 4, none⟩ = some (.int .i64 br)
  cj : w.cell? ⟨n, j, none⟩ = some (cX ⟨n, j, none⟩ w)
  fj : w.frozen? ⟨n, j, none⟩ = false
  sl : SumAt w pl sl
  sr : SumAt w pr sr
  up : Upd n w0 w
  nb : NB n j cs w
  hj : 5 ≤ j
  nl : pl ≠ some n
  nr : pr ≠ some n
section
variable {n j : Nat} {pl pr : Option Nat} {sl sr : Sm} {o ln br : Int} {cs : Array Value} {w0 w : World}
theorem ST.drew (h : ST n j pl pr sl sr o ln br cs w0 w) : ST n j pl pr sl sr o ln br cs w0 w.drew := ⟨h.c0, h.c1, h.c2, h.c3, h.c4, h.cj, h.fj, h.sl, h.sr, h.up.drew, h.nb.drew, h.hj, h.nl, h.nr⟩
theorem ST.alloc (h : ST n j pl pr sl sr o ln br cs w0 w) (x : Obj) : ST n j pl pr sl sr o ln br cs w0 (w.alloc x) := ⟨cell_alloc h.c0 x, cell_alloc h.c1 x, cell_alloc h.c2 x, cell_alloc h.c3 x, cell_alloc h.c4 x, cX_ok (cell_alloc h.cj x), frozen_alloc h.cj h.fj x, h.sl.alloc x, h.sr.alloc x, h.up.alloc x, h.nb.alloc x, h.hj, h.nl, h.nr⟩
theorem ST.set (h : ST n j pl pr sl sr o ln br cs w0 w) (v : Value) : ST n j pl pr sl sr o ln br cs w0 (w.setCell ⟨n, j, none⟩ v) := by
  have hj := h.hj
  exact ⟨cell_set_ne h.c0 (by simp; omega) v, cell_set_ne h.c1 (by simp; omega) v, cell_set_ne h.c2 (by simp; omega) v, cell_set_ne h.c3 (by simp; omega) v, cell_set_ne h.c4 (by simp; omega) v, cX_ok (cell_set_same h.cj v), frozen_set h.fj v, h.sl.set h.nl v, h.sr.set h.nr v, h.up.set v, h.nb.set v, h.hj, h.nl, h.nr⟩
end
attribute [local go_sem] max2_mx max_two method_runes method_breaks
set_option maxHeartbeats 1000000 in
set_option maxRecDepth 100000 in
theorem sum_any (w : World) (n : Nat) (pl pr : Option Nat) (sl sr : Sm) (o ln br h c r k : Int) (hl : pl ≠ some n) (hr : pr ≠ some n)
   (hb : w.heap[n]? = some (.cells #[ptrV pl, ptrV pr, .int .i64 o, .int .i64 ln, .int .i64 br, .int .i64 h, .int .i64 c, .int .i64 r, .int .i64 k] 62 (0, 0)))
   (HL : SumAt w pl sl) (HR : SumAt w pr sr) :
  Calls Try.prog 31 #[.pointer (some ⟨n, 0, none⟩)] w fun e w' => e = .returned (.pointer (some ⟨n, 0, none⟩)) ∧ Upd n w w' ∧
    w'.heap[n]? = some (.cells #[ptrV pl, ptrV pr, .int .i64 o, .int .i64 ln, .int .i64 br, .int .i64 (wrap64 (mxI sl.h sr.h + 1)), .int .i64 (wrap64 (wrap64 (sl.c + sr.c) + 1)), .int .i64 (wrap64 (wrap64 (sl.r + sr.r) + ln)), .int .i64 (wrap64 (wrap64 (sl.k + sr.k) + br))] 62 (0, 0)) := by
  have HB0 := Lib.hid hb
  have HL0 := Lib.hid HL
  have HR0 := Lib.hid HR
  have HU0 := Lib.hid (Upd.refl n w)
  have XL := Lib.hid hl
  have XR := Lib.hid hr
  clear hl hr HL HR hb
  have q0 := Go.Proofs.YtnomidpnofhjdaaW.PrintWords.blk_cell HB0.out 0
  have q1 := Go.Proofs.YtnomidpnofhjdaaW.PrintWords.blk_cell HB0.out 1
  have q2 := Go.Proofs.YtnomidpnofhjdaaW.PrintWords.blk_cell HB0.out 2
  have q3 := Go.Proofs.YtnomidpnofhjdaaW.PrintWords.blk_cell HB0.out 3
  have q4 := Go.Proofs.YtnomidpnofhjdaaW.PrintWords.blk_cell HB0.out 4
  have q5 := Go.Proofs.YtnomidpnofhjdaaW.PrintWords.blk_cell HB0.out 5
  have q6 := Go.Proofs.YtnomidpnofhjdaaW.PrintWords.blk_cell HB0.out 6
  have q7 := Go.Proofs.YtnomidpnofhjdaaW.PrintWords.blk_cell HB0.out 7
  have q8 := Go.Proofs.YtnomidpnofhjdaaW.PrintWords.blk_cell HB0.out 8
  have f5 := Go.Proofs.YtnomidpnofhjdaaW.PrintWords.blk_frozen HB0.out 5
  have f6 := Go.Proofs.YtnomidpnofhjdaaW.PrintWords.blk_frozen HB0.out 6
  have f7 := Go.Proofs.YtnomidpnofhjdaaW.PrintWords.blk_frozen HB0.out 7
  have f8 := Go.Proofs.YtnomidpnofhjdaaW.PrintWords.blk_frozen HB0.out 8
  simp only [List.getElem?_toArray, List.getElem?_cons_succ, List.getElem?_cons_zero] at q0 q1 q2 q3 q4 q5 q6 q7 q8
  go_enter Try.func31, Try.ntmps31
  go_wp2
  refine wp_region_still_tail 15 (by kernel_rfl) (by kernel_rfl) ?_
  simp only [List.take_succ_cons, List.take_zero, List.drop_succ_cons, List.drop_zero]
  repeat still_step
  refine wpStill_step (fun K hK => ?_)
  go_simp
  refine ⟨_, (height_any _ _ _ HL0.out), hK _ ?_⟩
  clear hK K
  repeat still_step
  refine wpStill_step (fun K hK => ?_)
  go_simp
  refine ⟨_, (height_any _ _ _ HR0.out), hK _ ?_⟩
  clear hK K
  repeat still_step
  refine wpStill_nil ?_
  go_wp2
  obtain ⟨w1, e1⟩ : ∃ x, (w.setCell ⟨n, 5, none⟩ (.int .i64 (wrap64 (mxI sl.h sr.h + 1)))).drew = x := ⟨_, rfl⟩
  rw [e1]
  have HB1 := Lib.hid (blk_next HB0.out 5 (.int .i64 (wrap64 (mxI sl.h sr.h + 1))) e1)
  simp only [List.setIfInBounds_toArray, List.set_cons_succ, List.set_cons_zero] at HB1
  have HL1 := Lib.hid (HL0.out.next XL.out e1)
  have HR1 := Lib.hid (HR0.out.next XR.out e1)
  have HU1 := Lib.hid (HU0.out.next e1)
  clear e1
  clear q0 q1 q2 q3 q4 q5 q6 q7 q8 f5 f6 f7 f8
  have q0 := Go.Proofs.YtnomidpnofhjdaaW.PrintWords.blk_cell HB1.out 0
  have q1 := Go.Proofs.YtnomidpnofhjdaaW.PrintWords.blk_cell HB1.out 1
  have q2 := Go.Proofs.YtnomidpnofhjdaaW.PrintWords.blk_cell HB1.out 2
  have q3 := Go.Proofs.YtnomidpnofhjdaaW.PrintWords.blk_cell HB1.out 3
  have q4 := Go.Proofs.YtnomidpnofhjdaaW.PrintWords.blk_cell HB1.out 4
  have q5 := Go.Proofs.YtnomidpnofhjdaaW.PrintWords.blk_cell HB1.out 5
  have q6 := Go.Proofs.YtnomidpnofhjdaaW.PrintWords.blk_cell HB1.out 6
  have q7 := Go.Proofs.YtnomidpnofhjdaaW.PrintWords.blk_cell HB1.out 7
  have q8 := Go.Proofs.YtnomidpnofhjdaaW.PrintWords.blk_cell HB1.out 8
  have f5 := Go.Proofs.YtnomidpnofhjdaaW.PrintWords.blk_frozen HB1.out 5
  have f6 := Go.Proofs.YtnomidpnofhjdaaW.PrintWords.blk_frozen HB1.out 6
  have f7 := Go.Proofs.YtnomidpnofhjdaaW.PrintWords.blk_frozen HB1.out 7
  have f8 := Go.Proofs.YtnomidpnofhjdaaW.PrintWords.blk_frozen HB1.out 8
  simp only [List.getElem?_toArray, List.getElem?_cons_succ, List.getElem?_cons_zero] at q0 q1 q2 q3 q4 q5 q6 q7 q8
  go_wp2
  refine wp_region_still_tail 15 (by kernel_rfl) (by kernel_rfl) ?_
  simp only [List.take_succ_cons, List.take_zero, List.drop_succ_cons, List.drop_zero]
  repeat still_step
  refine wpStill_step (fun K hK => ?_)
  go_simp
  refine ⟨_, (count_any _ _ _ HL1.out), hK _ ?_⟩
  clear hK K
  repeat still_step
  refine wpStill_step (fun K hK => ?_)
  go_simp
  refine ⟨_, (count_any _ _ _ HR1.out), hK _ ?_⟩
  clear hK K
  repeat still_step
  refine wpStill_nil ?_
  go_wp2
  obtain ⟨w2, e1⟩ : ∃ x, (w1.setCell ⟨n, 6, none⟩ (.int .i64 (wrap64 (wrap64 (sl.c + sr.c) + 1)))).drew = x := ⟨_, rfl⟩
  rw [e1]
  have HB2 := Lib.hid (blk_next HB1.out 6 (.int .i64 (wrap64 (wrap64 (sl.c + sr.c) + 1))) e1)
  simp only [List.setIfInBounds_toArray, List.set_cons_succ, List.set_cons_zero] at HB2
  have HL2 := Lib.hid (HL1.out.next XL.out e1)
  have HR2 := Lib.hid (HR1.out.next XR.out e1)
  have HU2 := Lib.hid (HU1.out.next e1)
  clear e1
  clear q0 q1 q2 q3 q4 q5 q6 q7 q8 f5 f6 f7 f8
  have q0 := Go.Proofs.YtnomidpnofhjdaaW.PrintWords.blk_cell HB2.out 0
  have q1 := Go.Proofs.YtnomidpnofhjdaaW.PrintWords.blk_cell HB2.out 1
  have q2 := Go.Proofs.YtnomidpnofhjdaaW.PrintWords.blk_cell HB2.out 2
  have q3 := Go.Proofs.YtnomidpnofhjdaaW.PrintWords.blk_cell HB2.out 3
  have q4 := Go.Proofs.YtnomidpnofhjdaaW.PrintWords.blk_cell HB2.out 4
  have q5 := Go.Proofs.YtnomidpnofhjdaaW.PrintWords.blk_cell HB2.out 5
  have q6 := Go.Proofs.YtnomidpnofhjdaaW.PrintWords.blk_cell HB2.out 6
  have q7 := Go.Proofs.YtnomidpnofhjdaaW.PrintWords.blk_cell HB2.out 7
  have q8 := Go.Proofs.YtnomidpnofhjdaaW.PrintWords.blk_cell HB2.out 8
  have f5 := Go.Proofs.YtnomidpnofhjdaaW.PrintWords.blk_frozen HB2.out 5
  have f6 := Go.Proofs.YtnomidpnofhjdaaW.PrintWords.blk_frozen HB2.out 6
  have f7 := Go.Proofs.YtnomidpnofhjdaaW.PrintWords.blk_frozen HB2.out 7
  have f8 := Go.Proofs.YtnomidpnofhjdaaW.PrintWords.blk_frozen HB2.out 8
  simp only [List.getElem?_toArray, List.getElem?_cons_succ, List.getElem?_cons_zero] at q0 q1 q2 q3 q4 q5 q6 q7 q8
  go_wp2
  have S0 : ST n 7 pl pr sl sr o ln br #[ptrV pl, ptrV pr, .int .i64 o, .int .i64 ln, .int .i64 br, .int .i64 (wrap64 (mxI sl.h sr.h + 1)), .int .i64 (wrap64 (wrap64 (sl.c + sr.c) + 1)), .int .i64 r, .int .i64 k] w2 w2 := ⟨q0, q1, q2, q3, q4, cX_ok q7, f7, HL2.out, HR2.out, Upd.refl n w2, ⟨.int .i64 r, HB2.out⟩, by omega, XL.out, XR.out⟩
  replace q7 := cX_ok q7
  clear q8 f8 f5 f6 q5 q6
  go_region_held3 (fun w' => w'.cell? ⟨n, 0, none⟩ = some (ptrV pl) ∧ w'.cell? ⟨n, 1, none⟩ = some (ptrV pr) ∧ w'.cell? ⟨n, 2, none⟩ = some (.int .i64 o) ∧ w'.cell? ⟨n, 3, none⟩ = some (.int .i64 ln) ∧ w'.cell? ⟨n, 4, none⟩ = some (.int .i64 br) ∧ w'.cell? ⟨n, 7, none⟩ = some (cX ⟨n, 7, none⟩ w') ∧ w'.frozen? ⟨n, 7, none⟩ = false ∧ SumAt w' pl sl ∧ SumAt w' pr sr ∧ ST n 7 pl pr sl sr o ln br #[ptrV pl, ptrV pr, .int .i64 o, .int .i64 ln, .int .i64 br, .int .i64 (wrap64 (mxI sl.h sr.h + 1)), .int .i64 (wrap64 (wrap64 (sl.c + sr.c) + 1)), .int .i64 r, .int .i64 k] w2 w')
    (first | (refine (fun (x : ST n 7 pl pr sl sr o ln br #[ptrV pl, ptrV pr, .int .i64 o, .int .i64 ln, .int .i64 br, .int .i64 (wrap64 (mxI sl.h sr.h + 1)), .int .i64 (wrap64 (wrap64 (sl.c + sr.c) + 1)), .int .i64 r, .int .i64 k] w2 _) => ⟨x.c0, x.c1, x.c2, x.c3, x.c4, x.cj, x.fj, x.sl, x.sr, x⟩) ?_; repeat (first | assumption | (with_reducible apply ST.drew) | (with_reducible apply ST.alloc) | (with_reducible apply ST.set))))
    (first | (go_at_call_of 37 (ptrV pl); refine (runes_any _ _ sl (by assumption)).mono ?_; rintro e w' ⟨rfl, rfl⟩) | (go_at_call_of 37 (ptrV pr); refine (runes_any _ _ sr (by assumption)).mono ?_; rintro e w' ⟨rfl, rfl⟩) | (go_at_call 55; refine (pruns_any _ _ _ _).mono ?_; rintro e w' ⟨rfl, rfl⟩))
  go_wp2
  have S3 := (S0.alloc (.cells #[.int .i64 o, .int .i64 ln, .int .i64 br] 38))
  obtain ⟨w3, e3⟩ : ∃ x, ((w2.alloc (.cells #[.int .i64 o, .int .i64 ln, .int .i64 br] 38)).setCell ⟨n, 7, none⟩ (.int .i64 (IntKind.i64.wrap (IntKind.i64.wrap (sl.r + sr.r) + ln)))).drew = x := ⟨_, rfl⟩
  rw [e3]
  have HB3 := Lib.hid (NB.of S3.nb e3)
  simp only [List.setIfInBounds_toArray, List.set_cons_succ, List.set_cons_zero] at HB3
  have HL3 := Lib.hid (S3.sl.next XL.out e3)
  have HR3 := Lib.hid (S3.sr.next XR.out e3)
  have HU3 := Lib.hid (HU2.out.trans (S3.up.next e3))
  clear e3 S3 S0 q0 q1 q2 q3 q4 q7 f7
  have q0 := Go.Proofs.YtnomidpnofhjdaaW.PrintWords.blk_cell HB3.out 0
  have q1 := Go.Proofs.YtnomidpnofhjdaaW.PrintWords.blk_cell HB3.out 1
  have q2 := Go.Proofs.YtnomidpnofhjdaaW.PrintWords.blk_cell HB3.out 2
  have q3 := Go.Proofs.YtnomidpnofhjdaaW.PrintWords.blk_cell HB3.out 3
  have q4 := Go.Proofs.YtnomidpnofhjdaaW.PrintWords.blk_cell HB3.out 4
  have q8 := Go.Proofs.YtnomidpnofhjdaaW.PrintWords.blk_cell HB3.out 8
  have f8 := Go.Proofs.YtnomidpnofhjdaaW.PrintWords.blk_frozen HB3.out 8
  simp only [List.getElem?_toArray, List.getElem?_cons_succ, List.getElem?_cons_zero] at q0 q1 q2 q3 q4 q8
  have S0 : ST n 8 pl pr sl sr o ln br #[ptrV pl, ptrV pr, .int .i64 o, .int .i64 ln, .int .i64 br, .int .i64 (wrap64 (mxI sl.h sr.h + 1)), .int .i64 (wrap64 (wrap64 (sl.c + sr.c) + 1)), .int .i64 (IntKind.i64.wrap (IntKind.i64.wrap (sl.r + sr.r) + ln)), .int .i64 k] w3 w3 := ⟨q0, q1, q2, q3, q4, cX_ok q8, f8, HL3.out, HR3.out, Upd.refl n w3, ⟨.int .i64 k, HB3.out⟩, by omega, XL.out, XR.out⟩
  replace q8 := cX_ok q8
  go_region_held3 (fun w' => w'.cell? ⟨n, 0, none⟩ = some (ptrV pl) ∧ w'.cell? ⟨n, 1, none⟩ = some (ptrV pr) ∧ w'.cell? ⟨n, 2, none⟩ = some (.int .i64 o) ∧ w'.cell? ⟨n, 3, none⟩ = some (.int .i64 ln) ∧ w'.cell? ⟨n, 4, none⟩ = some (.int .i64 br) ∧ w'.cell? ⟨n, 8, none⟩ = some (cX ⟨n, 8, none⟩ w') ∧ w'.frozen? ⟨n, 8, none⟩ = false ∧ SumAt w' pl sl ∧ SumAt w' pr sr ∧ ST n 8 pl pr sl sr o ln br #[ptrV pl, ptrV pr, .int .i64 o, .int .i64 ln, .int .i64 br, .int .i64 (wrap64 (mxI sl.h sr.h + 1)), .int .i64 (wrap64 (wrap64 (sl.c + sr.c) + 1)), .int .i64 (IntKind.i64.wrap (IntKind.i64.wrap (sl.r + sr.r) + ln)), .int .i64 k] w3 w')
    (first | (refine (fun (x : ST n 8 pl pr sl sr o ln br #[ptrV pl, ptrV pr, .int .i64 o, .int .i64 ln, .int .i64 br, .int .i64 (wrap64 (mxI sl.h sr.h + 1)), .int .i64 (wrap64 (wrap64 (sl.c + sr.c) + 1)), .int .i64 (IntKind.i64.wrap (IntKind.i64.wrap (sl.r + sr.r) + ln)), .int .i64 k] w3 _) => ⟨x.c0, x.c1, x.c2, x.c3, x.c4, x.cj, x.fj, x.sl, x.sr, x⟩) ?_; repeat (first | assumption | (with_reducible apply ST.drew) | (with_reducible apply ST.alloc) | (with_reducible apply ST.set))))
    (first | (go_at_call_of 38 (ptrV pl); refine (breaks_any _ _ sl (by assumption)).mono ?_; rintro e w' ⟨rfl, rfl⟩) | (go_at_call_of 38 (ptrV pr); refine (breaks_any _ _ sr (by assumption)).mono ?_; rintro e w' ⟨rfl, rfl⟩) | (go_at_call 54; refine (pbreaks_any _ _ _ _).mono ?_; rintro e w' ⟨rfl, rfl⟩))
  go_wp2
  have S3 := (S0.alloc (.cells #[.int .i64 o, .int .i64 ln, .int .i64 br] 38))
  obtain ⟨w4, e4⟩ : ∃ x, ((w3.alloc (.cells #[.int .i64 o, .int .i64 ln, .int .i64 br] 38)).setCell ⟨n, 8, none⟩ (.int .i64 (IntKind.i64.wrap (IntKind.i64.wrap (sl.k + sr.k) + br)))).drew = x := ⟨_, rfl⟩
  rw [e4]
  have HB4 := Lib.hid (NB.of S3.nb e4)
  simp only [List.setIfInBounds_toArray, List.set_cons_succ, List.set_cons_zero] at HB4
  have HU4 := Lib.hid (HU3.out.trans (S3.up.next e4))
  go_ret
  refine ⟨rfl, HU4.out, ?_⟩
  have hb4 := HB4.out
  simp only [IntWalk.i64_left] at hb4
  exact hb4
end Go.Proofs.Ytnomidpnofhjdaa
