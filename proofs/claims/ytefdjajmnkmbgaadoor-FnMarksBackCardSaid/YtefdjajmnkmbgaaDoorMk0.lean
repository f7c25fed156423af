/- Marks: the order of a table, walked; the table sorted. No condition. -/
import Derived.Shelf.SlSortCmp.WholeK
import Derived.Test.YtefdjajmnkmbgaaDoorFo0
import Derived.Test.YtefdjajmnkmbgaaDoorQBasex1
import Derived.Test.YtefdjajmnkmbgaaDoorHk
namespace Go.Proofs.YtefdjajmnkmbgaaDoor
open Go.RowKit Go.Sort Go.Proofs.YtefdjajmnkmbgaaDoorW.PrintWords Go.Proofs.YtefdjajmnkmbgaaDoorW.PrintLast Go.Proofs.YtefdjajmnkmbgaaDoorW.PrintMore Er
abbrev Mk := QBase.S53
instance : Inhabited Mk := ⟨⟨0, 0, 0⟩⟩
def mkL (x : Mk) : List Value := [.int .i64 x.f0, .int .i64 x.f1, .int .i64 x.f2]
def cmpI (x y : Int) : Int := if x < y then -1 else if x > y then 1 else 0
def cfM (x y : Mk) : Int := if cmpI x.f1 y.f1 = 0 then cmpI x.f0 y.f0 else cmpI x.f1 y.f1
theorem cmp_f (x y : Int) : QBase.cmp_Compare_int.f x y = some (cmpI x y) := by
  unfold QBase.cmp_Compare_int.f QBase.cmp_isNaN_int.f cmpI
  simp
  split
  · rfl
  · split <;> rfl
theorem or_f (x y : Int) : QBase.cmp_Or_int.f 3 [x, y] = some (if x = 0 then y else x) := by
  unfold QBase.cmp_Or_int.f
  simp only [QBase.cmp_Or_int.l0, List.length_cons, List.length_nil]
  by_cases h : x = 0
  · subst h
    by_cases h2 : y = 0
    · subst h2; simp [Go.Proofs.YtefdjajmnkmbgaaDoorW.PrintWords.rd, wrap64]
    · simp [Go.Proofs.YtefdjajmnkmbgaaDoorW.PrintWords.rd, wrap64, h2]
  · simp [Go.Proofs.YtefdjajmnkmbgaaDoorW.PrintWords.rd, h]
/-- a world behind another: drawn from, blocks laid behind -/
structure GrW (W W' : World) : Prop where
  ex : ∃ q os, W' = grow (W.drewN q) os
theorem GrW.refl (W : World) : GrW W W := ⟨0, #[], by rw [grow_empty]; rfl⟩
theorem GrW.drew {W W1 : World} (h : GrW W W1) : GrW W W1.drew := by
  obtain ⟨q, os, rfl⟩ := h.ex
  exact ⟨q + 1, os, rfl⟩
theorem GrW.drewN {W W1 : World} (h : GrW W W1) (n : Nat) : GrW W (W1.drewN n) := by
  obtain ⟨q, os, rfl⟩ := h.ex
  exact ⟨q + n, os, by rw [← World.drewN_drewN]; rfl⟩
theorem GrW.alloc {W W1 : World} (h : GrW W W1) (o : Obj) : GrW W (W1.alloc o) := by
  obtain ⟨q, os, rfl⟩ := h.ex
  exact ⟨q, os ++ #[o], by rw [alloc_eq_grow, grow_grow]⟩
theorem GrW.below {W W1 : World} (h : GrW W W1) : Below W.heap.size W W1 := by
  obtain ⟨q, os, rfl⟩ := h.ex
  refine ⟨rfl, rfl, rfl, ?_, fun k hk => ?_⟩
  · show W.heap.size ≤ (W.heap ++ os).size
    simp
  · show (W.heap ++ os)[k]? = _
    rw [Array.getElem?_append_left hk]
theorem two_reads (W : World) (x y : Int) (t : TypeId) : (Kd.int .i64).C (W.alloc (.cells #[.int .i64 x, .int .i64 y] t)) (some ⟨W.heap.size, 0, none⟩) 2 [x, y] := by
  refine ⟨rfl, by simp, fun _ => ⟨_, rfl, fun j p hj => ?_⟩⟩
  have hb := blk_new W (.cells #[.int .i64 x, .int .i64 y] t)
  rcases j with _ | _ | j
  · simp at hj; subst hj
    refine ⟨[.int .i64 x], rfl, rfl, fun i u hu => ?_⟩
    rcases i with _ | i
    · simp only [List.getElem?_cons_zero, Option.some.injEq] at hu
      subst hu
      exact (blk_cell hb 0).trans rfl
    · simp at hu
  · simp at hj; subst hj
    refine ⟨[.int .i64 y], rfl, rfl, fun i u hu => ?_⟩
    rcases i with _ | i
    · simp only [List.getElem?_cons_zero, Option.some.injEq] at hu
      subst hu
      exact (blk_cell hb 1).trans rfl
    · simp at hu
  · simp at hj
theorem or_two (W : World) (x y : Int) (t : TypeId) : Calls Tryd.prog 76 #[.slice (some ⟨W.heap.size, 0, none⟩) 2 2] (W.alloc (.cells #[.int .i64 x, .int .i64 y] t)) fun e w' => e = .returned (.int .i64 (if x = 0 then y else x)) ∧ Drawn0 (W.alloc (.cells #[.int .i64 x, .int .i64 y] t)) w' :=
  QBase.cmp_Or_int.calls 3 _ 2 [x, y] _ _ (two_reads W x y t) (Nat.le_refl _) (or_f x y)
theorem cmp_any (x y : Int) (W : World) : Calls Tryd.prog 77 #[.int .i64 x, .int .i64 y] W fun e w' => e = .returned (.int .i64 (cmpI x y)) ∧ Drawn0 W w' :=
  QBase.cmp_Compare_int.calls x y _ W (cmp_f x y)
/-- the cells of two boxes, beside what is laid behind -/
structure BW (g g2 : Nat) (x y : Mk) (W W' : World) : Prop where
  c1 : W'.cell? ⟨g, 0, none⟩ = some (.int .i64 x.f0) ∧ W'.cell? ⟨g, 1, none⟩ = some (.int .i64 x.f1)
  c2 : W'.cell? ⟨g2, 0, none⟩ = some (.int .i64 y.f0) ∧ W'.cell? ⟨g2, 1, none⟩ = some (.int .i64 y.f1)
  gr : GrW W W'
theorem BW.below {g g2 : Nat} {x y : Mk} {W W1 W2 : World} (h : BW g g2 x y W W1) (hb : Below W1.heap.size W1 W2) (hg : GrW W W2) : BW g g2 x y W W2 :=
  ⟨⟨(hb.cell (World.block_lt_of_cell? W1 _ h.c1.1)).trans h.c1.1, (hb.cell (World.block_lt_of_cell? W1 _ h.c1.2)).trans h.c1.2⟩, ⟨(hb.cell (World.block_lt_of_cell? W1 _ h.c2.1)).trans h.c2.1, (hb.cell (World.block_lt_of_cell? W1 _ h.c2.2)).trans h.c2.2⟩, hg⟩
theorem BW.drew {g g2 : Nat} {x y : Mk} {W W1 : World} (h : BW g g2 x y W W1) : BW g g2 x y W W1.drew := h.below (Below.refl _ W1).drew h.gr.drew
theorem BW.drewN {g g2 : Nat} {x y : Mk} {W W1 : World} (h : BW g g2 x y W W1) (n : Nat) : BW g g2 x y W (W1.drewN n) := h.below (pw_below_drewN (Below.refl _ _) n) (h.gr.drewN n)
theorem BW.alloc {g g2 : Nat} {x y : Mk} {W W1 : World} (h : BW g g2 x y W W1) (o : Obj) : BW g g2 x y W (W1.alloc o) := h.below ((Below.refl _ W1).alloc (Nat.le_refl _) o) (h.gr.alloc o)
theorem BW.drawn {g g2 : Nat} {x y : Mk} {W W1 W2 : World} (h : BW g g2 x y W W1) (hd : Drawn0 W1 W2) : BW g g2 x y W W2 := by
  obtain ⟨n, rfl⟩ := hd
  exact h.drewN n
set_option maxHeartbeats 4000000 in
set_option maxRecDepth 100000 in
/-- before -/
theorem before_any (x y : Mk) (W : World) : Calls Tryd.prog 65 #[.agg (mkL x).toArray, .agg (mkL y).toArray] W fun e w' => e = .returned (.int .i64 (cfM x y)) ∧ GrW W w' := by
  obtain ⟨w0, e0⟩ : ∃ z, W.alloc (.cells #[.int .i64 x.f0, .int .i64 x.f1, .int .i64 x.f2] 53) = z := ⟨_, rfl⟩
  obtain ⟨w1, e1⟩ : ∃ z, w0.alloc (.cells #[.int .i64 y.f0, .int .i64 y.f1, .int .i64 y.f2] 53) = z := ⟨_, rfl⟩
  have hb0 := blk_new W (.cells #[.int .i64 x.f0, .int .i64 x.f1, .int .i64 x.f2] 53)
  rw [e0] at hb0
  have hb1 := blk_new w0 (.cells #[.int .i64 y.f0, .int .i64 y.f1, .int .i64 y.f2] 53)
  rw [e1] at hb1
  have hb01 := blk_below hb0 (by rw [← e1]; exact (Below.refl _ w0).alloc (Nat.le_refl _) _ : Below w0.heap.size w0 w1)
  have BW1 : BW W.heap.size w0.heap.size x y W w1 := ⟨⟨(blk_cell hb01 0).trans rfl, (blk_cell hb01 1).trans rfl⟩, ⟨(blk_cell hb1 0).trans rfl, (blk_cell hb1 1).trans rfl⟩, by rw [← e1, ← e0]; exact ((GrW.refl W).alloc _).alloc _⟩
  generalize hg : W.heap.size = g at *
  generalize hg2 : w0.heap.size = g2 at *
  have q1 := BW1.c1.1
  have q2 := BW1.c1.2
  have q3 := BW1.c2.1
  have q4 := BW1.c2.2
  obtain ⟨c1, hc1⟩ : ∃ c, Aside0 (c = cmpI x.f1 y.f1) := ⟨_, ⟨rfl⟩⟩
  obtain ⟨c2, hc2⟩ : ∃ c, Aside0 (c = cmpI x.f0 y.f0) := ⟨_, ⟨rfl⟩⟩
  have HC1 : ∀ w, Aside0 (Calls Tryd.prog 77 #[.int .i64 x.f1, .int .i64 y.f1] w fun e w' => e = .returned (.int .i64 c1) ∧ Drawn0 w w') := fun w => ⟨by rw [hc1.out]; exact cmp_any _ _ w⟩
  have HC2 : ∀ w, Aside0 (Calls Tryd.prog 77 #[.int .i64 x.f0, .int .i64 y.f0] w fun e w' => e = .returned (.int .i64 c2) ∧ Drawn0 w w') := fun w => ⟨by rw [hc2.out]; exact cmp_any _ _ w⟩
  obtain ⟨c3, hc3⟩ : ∃ c, Aside0 (c = if c1 = 0 then c2 else c1) := ⟨_, ⟨rfl⟩⟩
  have HO : ∀ (w : World) (t : TypeId), Aside0 (Calls Tryd.prog 76 #[.slice (some ⟨w.heap.size, 0, none⟩) 2 2] (w.alloc (.cells #[.int .i64 c1, .int .i64 c2] t)) fun e w' => e = .returned (.int .i64 c3) ∧ Drawn0 (w.alloc (.cells #[.int .i64 c1, .int .i64 c2] t)) w') := fun w t => ⟨by rw [hc3.out]; exact or_two w c1 c2 t⟩
  have FIN : Aside0 (cfM x y = c3) := ⟨by rw [hc3.out, hc1.out, hc2.out]; rfl⟩
  rw [FIN.out]
  clear hb0 hb1 hb01 hc1 hc2 hc3 FIN
  simp only [mkL]
  go_enter Tryd.func65, Tryd.ntmps65
  go_wp2_with fail
  clear e0 e1
  go_region_held3 (fun w' => w'.cell? ⟨g, 0, none⟩ = some (.int .i64 x.f0) ∧ w'.cell? ⟨g, 1, none⟩ = some (.int .i64 x.f1) ∧ w'.cell? ⟨g2, 0, none⟩ = some (.int .i64 y.f0) ∧ w'.cell? ⟨g2, 1, none⟩ = some (.int .i64 y.f1) ∧ BW g g2 x y W w')
    (first | (refine (fun (z : BW g g2 x y W _) => ⟨z.c1.1, z.c1.2, z.c2.1, z.c2.2, z⟩) ?_; repeat (first | assumption | (with_reducible apply BW.drew) | (with_reducible apply BW.alloc))))
    (first
      | (go_at_call 77; first | ((with_reducible refine (HC1 _).out.mono ?_); rintro e w' ⟨rfl, hd⟩; have z2 := BW.drawn (g := g) (g2 := g2) (x := x) (y := y) (W := W) (by first | assumption | exact BW.drew (by assumption) | exact BW.alloc (by assumption) _) hd) | ((with_reducible refine (HC2 _).out.mono ?_); rintro e w' ⟨rfl, hd⟩; have z2 := BW.drawn (g := g) (g2 := g2) (x := x) (y := y) (W := W) (by first | assumption | exact BW.drew (by assumption) | exact BW.alloc (by assumption) _) hd))
      | (go_at_call 76; (with_reducible refine (HO _ _).out.mono ?_); rintro e w' ⟨rfl, hd⟩; have z2 := BW.drawn (g := g) (g2 := g2) (x := x) (y := y) (W := W) (by first | assumption | exact BW.drew (by assumption) | exact BW.alloc (by assumption) _) hd))
  all_goals
    go_wp2
    go_ret
    exact ⟨rfl, BW.gr (g := g) (g2 := g2) (x := x) (y := y) (by first | assumption | exact BW.drew (by assumption))⟩
end Go.Proofs.YtefdjajmnkmbgaaDoor
