/- grown, walked: what the program makes of a tree that came in. Condition: at most 1048576 items. -/
import Derived.Test.YtnomidpnofhjdaaGreatDoorTr8
namespace Go.Proofs.YtnomidpnofhjdaaGreatDoor
open Go.RowKit Go.Proofs.YtnomidpnofhjdaaGreatDoorW.PrintWords Go.Proofs.YtnomidpnofhjdaaGreatDoorW.PrintLast Go.Proofs.YtnomidpnofhjdaaGreatDoorW.PrintMore Er
def sumL : List It → Int | [] => 0 | x :: xs => x.f0.f1 + sumL xs
theorem sumL_app (xs ys : List It) : sumL (xs ++ ys) = sumL xs + sumL ys := by
 induction xs with
 | nil => simp [sumL]
 | cons x xs ih => simp only [List.cons_append, sumL, ih]; omega
def AllGood (xs : List It) : Prop := ∀ x ∈ xs, goodP x
instance (xs : List It) : Decidable (AllGood xs) := by unfold AllGood; infer_instance
theorem sumL_bound (xs : List It) (h : AllGood xs) : (xs.length : Int) ≤ sumL xs ∧ sumL xs ≤ 8192 * (xs.length : Int) := by
 induction xs with
 | nil => simp [sumL]
 | cons x xs ih =>
  have h1 := h x (by simp)
  have h2 := ih (fun y hy => h y (by simp [hy]))
  unfold goodP at h1
  simp only [sumL, List.length_cons]; omega
def grownV (xs : List It) : Option Tree :=
 if xs.length ≤ 8192 ∧ AllGood xs ∧ sumL xs ≤ 8192 then rootedV (xs.length + 1) xs 0 else none
def GrownPost (w : World) (xs : List It) (e : Ending) (w' : World) : Prop :=
 Below w.heap.size w w' ∧
  ((∃ t p S, grownV xs = some t ∧ e = .returned (.tuple #[ptrV p, .nilIface]) ∧ Rep w' t p S ∧ S.Nodup ∧ ∀ k ∈ S, w.heap.size ≤ k) ∨
   (grownV xs = none ∧ ∃ p s v, e = .returned (.tuple #[ptrV p, v]) ∧ SumAt w' p s ∧ ErrIs w' v 1))
theorem SumAt.below {w w' : World} {p : Option Nat} {s : Sm} (h : SumAt w p s) (hb : Below w.heap.size w w') : SumAt w' p s := by
 rcases h with h | ⟨b, rfl, h1, h2, h3, h4⟩
 ·exact .inl h
 ·have hlt : b < w.heap.size := World.block_lt_of_cell? w _ h1
  exact .inr ⟨b, rfl, (hb.cell hlt).trans h1, (hb.cell hlt).trans h2, (hb.cell hlt).trans h3, (hb.cell hlt).trans h4⟩
structure GrownAt (w : World) (xs : List It) (k : Nat) (v4 v17 : Value) (wr : World) : Prop where
 st : ∃ i : Nat, v4 = .int .i64 (sumL (xs.take i)) ∧ v17 = .int .i64 i ∧ i + k = xs.length ∧ AllGood (xs.take i)
 bel : Below w.heap.size w wr
set_option maxHeartbeats 4000000 in
set_option maxRecDepth 100000 in
theorem grown_any (w : World) (xs : List It) (A : Option Addr) (c : Nat) (hm : xs.length ≤ 1048576) (hr : Kd.C QBase.k86 w A xs.length xs) (hc : xs.length ≤ c) :
  Calls Tryz.prog 63 #[.agg #[.slice A xs.length c]] w (GrownPost w xs) := by
 by_cases c0 : (8192 : Int) < (xs.length : Int)
 ·have c0b : decide ((8192 : Int) < (xs.length : Int)) = true := decide_eq_true c0
  have hB : Below w.heap.size w (w.alloc (.cells #[.slice A xs.length c] 31)) := (Below.refl _ w).alloc (Nat.le_refl _) _
  go_enter Tryz.func63, Tryz.ntmps63
  go_wp2
  go_ret2
  exact ⟨hB, .inr ⟨by unfold grownV; rw [if_neg (by omega)], none, ⟨0, 0, 0, 0⟩, _, rfl, .inl ⟨rfl, rfl⟩, .inl rfl⟩⟩
 ·have c0b : decide ((8192 : Int) < (xs.length : Int)) = false := decide_eq_false c0
  have HR := Aside0.mk hr
  have HC := Aside0.mk hc
  have hm : xs.length ≤ 8192 := by omega
  have HM := Aside0.mk hm
  obtain ⟨w0, e0⟩ : ∃ y, w.alloc (.cells #[.slice A xs.length c] 31) = y := ⟨_, rfl⟩
  have HB0 : Aside0 (Below w.heap.size w w0) := ⟨by subst e0; exact (Below.refl _ w).alloc (Nat.le_refl _) _⟩
  have HX : Aside0 (w0.heap[w.heap.size]? = some (.cells #[.slice A xs.length c] 31 (0, 0))) := ⟨by subst e0; exact blk_new w (.cells #[.slice A xs.length c] 31)⟩
  have q0 : w0.cell? ⟨w.heap.size, 0, none⟩ = some (.slice A xs.length c) := (blk_cell HX.out 0).trans rfl
  have AT : Aside0 (GrownAt w0 xs xs.length (.int .i64 0) (.int .i64 0) w0) := ⟨⟨⟨0, rfl, rfl, by omega, by simp [AllGood]⟩, Below.refl _ _⟩⟩
  have HR0 := Aside0.mk (Kd.C_below HR.out HB0.out)
  clear hr hc c0
  go_enter Tryz.func63, Tryz.ntmps63
  go_wp2
  go_loopg [4, 17] xs.length (fun k v4 v17 wr => GrownAt w0 xs k v4 v17 wr)
  case atStart => exact AT.out
  case round =>
   clear AT
   obtain ⟨⟨i, rfl, rfl, hk, hg⟩, hB⟩ := hrel
   have HB := Aside0.mk hB
   have HK := Aside0.mk hk
   have HG := Aside0.mk hg
   have hi : i ≤ xs.length := by omega
   have hm := HM.out
   have hsb := sumL_bound (xs.take i) hg
   have hsl : (xs.take i).length ≤ 8192 := by rw [List.length_take]; omega
   have hs0 : 0 ≤ sumL (xs.take i) ∧ sumL (xs.take i) ≤ 8192 * 8192 := by omega
   clear hB hk hg hsb hsl
   by_cases ci : i < xs.length
   ·obtain ⟨ad, ea, hx0, hx1, hx2, hx3⟩ := QBase.at_T86 HR0.out (i : Int) (by omega) (by omega)
    cases ea
    simp only [Int.toNat_natCast] at hx0 hx1 hx2 hx3
    replace hx0 := (HB.out.cell (World.block_lt_of_cell? w0 _ hx0)).trans hx0
    replace hx1 := (HB.out.cell (World.block_lt_of_cell? w0 _ hx1)).trans hx1
    replace hx2 := (HB.out.cell (World.block_lt_of_cell? w0 _ hx2)).trans hx2
    replace hx3 := (HB.out.cell (World.block_lt_of_cell? w0 _ hx3)).trans hx3
    have ED := Aside0.mk (show xs.take (i + 1) = xs.take i ++ [QBase.rd_T86 xs (i : Int)] by
     rw [List.take_succ_eq_append_getElem ci]; unfold QBase.rd_T86; simp [List.getD, ci])
    have MEM := Aside0.mk (show QBase.rd_T86 xs (i : Int) ∈ xs by
     have e : QBase.rd_T86 xs (i : Int) = xs[i] := by unfold QBase.rd_T86; simp [List.getD, ci]
     rw [e]; exact List.getElem_mem _)
    generalize QBase.rd_T86 xs (i : Int) = x at ED MEM hx0 hx1 hx2 hx3
    go_wp2_with ((with_reducible refine gate_dst (N := 6) rfl ?_); refine box_event ?hg (N := 6) ?hd (cs := #[.int .i64 0, .int .i64 0, .int .i64 0, .int .i64 0]) (t := 86) ?hr ?_; (case hd => rfl); (case hg => rfl); (case hr => first | (go_simp; done) | (go_simp; rfl)); intro gb hg w5 hbox hb; have HB5 := Aside0.mk (below_step HB.out hb); have GE := Aside0.mk (by rw [hg]; exact HB.out.size : w0.heap.size ≤ gb); have hz0 : w5.cell? ⟨gb, 0, none⟩ = some (.int .i64 0) := (blk_cell hbox 0).trans rfl; have hz1 : w5.cell? ⟨gb, 1, none⟩ = some (.int .i64 0) := (blk_cell hbox 1).trans rfl; have hz2 : w5.cell? ⟨gb, 2, none⟩ = some (.int .i64 0) := (blk_cell hbox 2).trans rfl; have hz3 : w5.cell? ⟨gb, 3, none⟩ = some (.int .i64 0) := (blk_cell hbox 3).trans rfl; have hf0 := blk_frozen hbox 0; have hf1 := blk_frozen hbox 1; have hf2 := blk_frozen hbox 2; have hf3 := blk_frozen hbox 3; have BK := Aside0.mk hbox; clear hb hbox hg)
    obtain ⟨w6, e6⟩ : ∃ y, (((w5.setCell ⟨gb, 0, none⟩ (.int .i64 x.f0.f0)).setCell ⟨gb, 1, none⟩ (.int .i64 x.f0.f1)).setCell ⟨gb, 2, none⟩ (.int .i64 x.f0.f2)).setCell ⟨gb, 3, none⟩ (.int .i64 x.f1) = y := ⟨_, rfl⟩
    have HB6 : Aside0 (Below w0.heap.size w0 w6) := ⟨by subst e6; exact (below_set (below_set (below_set (below_set HB5.out GE.out) GE.out) GE.out) GE.out)⟩
    have BK6 : Aside0 (w6.heap[gb]? = some (.cells #[.int .i64 x.f0.f0, .int .i64 x.f0.f1, .int .i64 x.f0.f2, .int .i64 x.f1] 86 (0, 0))) := ⟨by subst e6; exact blk_put (blk_put (blk_put (blk_put BK.out 0 _ rfl) 1 _ rfl) 2 _ rfl) 3 _ rfl⟩
    rw [e6]
    clear e6 hz0 hz1 hz2 hz3 hf0 hf1 hf2 hf3
    by_cases gd : goodP x
    ·refine (QBase.impl_goodPiece.calls _ _ _ true _ (by rw [goodPiece_is x]; simp [gd])).mono ?_
     rintro e w7 ⟨rfl, hb7⟩
     have HB7 := Aside0.mk (below_step HB6.out hb7)
     have BK7 := blk_below BK6.out hb7
     have p1 : w7.cell? ⟨gb, 1, none⟩ = some (.int .i64 x.f0.f1) := (blk_cell BK7 1).trans rfl
     have gd' := gd
     unfold goodP at gd'
     have hl1 : 1 ≤ x.f0.f1 ∧ x.f0.f1 ≤ 8192 := ⟨gd'.2.2.1, gd'.2.2.2.1⟩
     have GD := Aside0.mk gd
     clear gd gd' BK7 hb7
     go_wp2
     go_roundg (xs.length - (i + 1))
     case measure => have := HK.out; omega
     case rel =>
      refine ⟨⟨i + 1, ?_, by go_num, by have := HK.out; omega, ?_⟩, HB7.out⟩
      ·rw [ED.out, sumL_app]; simp only [sumL]; simp
      ·rw [ED.out]; intro y hy
       rcases List.mem_append.1 hy with hy | hy
       ·exact HG.out y hy
       ·rw [List.mem_singleton.1 hy]; exact GD.out
    ·refine (QBase.impl_goodPiece.calls _ _ _ false _ (by rw [goodPiece_is x]; simp [gd])).mono ?_
     rintro e w7 ⟨rfl, hb7⟩
     have HB7 := Aside0.mk (below_step HB6.out hb7)
     have GD := Aside0.mk gd
     clear gd hb7
     go_wp2
     go_ret2
     exact ⟨below_step HB0.out HB7.out, .inr ⟨by unfold grownV; rw [if_neg (fun h => GD.out (h.2.1 x MEM.out))], none, ⟨0, 0, 0, 0⟩, _, rfl, .inl ⟨rfl, rfl⟩, .inl rfl⟩⟩
   ·have hil : i = xs.length := by have := HK.out; omega
    have q1 := (HB.out.cell (World.block_lt_of_cell? w0 _ q0)).trans q0
    have hsum : xs.take i = xs := by rw [hil, List.take_length]
    have hg := HG.out
    rw [hsum] at hg hs0
    have GA := Aside0.mk hg
    rw [hsum]
    have HILL := Aside0.mk hil
    clear q0 hsum hg hil
    go_wp2_with fail
    refine (rooted_any (xs.length + 1) xs A c 0 wr (by omega) (by omega) (Kd.C_below HR0.out HB.out) HC.out (by omega) (by omega)).mono ?_
    intro e w2 hp
    obtain ⟨hb2, hp⟩ := hp
    have HB2 := Aside0.mk (below_step HB0.out (below_step HB.out hb2))
    cases hV : rootedV (xs.length + 1) xs 0 with
    | none =>
     rw [hV] at hp
     have hp : e = .returned (.tuple #[ptrV none, .bool false]) := hp
     subst hp
     have HV := Aside0.mk hV
     clear hV hb2
     go_wp2_with fail
     refine (unless_any w2 false 1).mono ?_
     rintro e w' ⟨rfl, hw⟩
     rw [hw]
     clear hw w'
     simp only [ev, Bool.false_eq_true, if_false]
     go_wp2_with fail
     refine (in_fault _ 1 w2).mono ?_
     rintro e w3 ⟨v, rfl, hE, hb3⟩
     go_wp2
     go_ret2
     exact ⟨below_step HB2.out hb3, .inr ⟨by unfold grownV; rw [HV.out]; simp, none, ⟨0, 0, 0, 0⟩, v, rfl, .inl ⟨rfl, rfl⟩, hE⟩⟩
    | some t =>
     rw [hV] at hp
     obtain ⟨p, S, rfl, hrep, hnd, hS⟩ := hp
     have HV := Aside0.mk hV
     have HP := Aside0.mk hrep
     have HND := Aside0.mk hnd
     have HS := Aside0.mk hS
     have hsz := HB0.out.size
     have hsz2 := HB.out.size
     clear hV hb2 hrep hnd hS
     by_cases cs : sumL xs ≤ 8192
     ·have csb : decide (sumL xs ≤ 8192) = true := decide_eq_true cs
      go_wp2_with fail
      refine (unless_any w2 true 1).mono ?_
      rintro e w' ⟨rfl, hw⟩
      rw [hw]
      clear hw w'
      simp only [ev, if_true]
      go_wp2_with fail
      refine (in_nil _ w2).mono ?_
      rintro e w' ⟨rfl, hw⟩
      rw [hw]
      clear hw w'
      go_wp2
      go_ret2
      exact ⟨HB2.out, .inl ⟨t, p, S, by unfold grownV; rw [if_pos ⟨HM.out, GA.out, cs⟩]; exact HV.out, rfl, HP.out, HND.out, fun k hk => by have := HS.out k hk; omega⟩⟩
     ·have csb : decide (sumL xs ≤ 8192) = false := decide_eq_false cs
      go_wp2_with fail
      refine (unless_any w2 false 1).mono ?_
      rintro e w' ⟨rfl, hw⟩
      rw [hw]
      clear hw w'
      simp only [ev, Bool.false_eq_true, if_false]
      go_wp2_with fail
      refine (in_fault _ 1 w2).mono ?_
      rintro e w3 ⟨v, rfl, hE, hb3⟩
      go_wp2
      go_ret2
      exact ⟨below_step HB2.out hb3, .inr ⟨by unfold grownV; rw [if_neg (fun h => by have := h.2.2; omega)], p, smW t, v, rfl, SumAt.below HP.out.sum hb3, hE⟩⟩
end Go.Proofs.YtnomidpnofhjdaaGreatDoor
