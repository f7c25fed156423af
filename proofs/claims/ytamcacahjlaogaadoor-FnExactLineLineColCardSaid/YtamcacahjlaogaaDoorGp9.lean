/- Gap buffers of runes: insert, walked. Conditions: the bounds; what is put in reads the same while only newer blocks change. -/
import Derived.Test.YtamcacahjlaogaaDoorGp8
namespace Go.Proofs.YtamcacahjlaogaaDoor
open Go.RowKit Go.Proofs.YtamcacahjlaogaaDoorW.PrintWords Go.Proofs.YtamcacahjlaogaaDoorW.PrintLast Go.Proofs.YtamcacahjlaogaaDoorW.PrintMore Er
def dbl : Nat → Nat → Nat → Nat
 | 0, c, _ => c
 | f + 1, c, m => if c < m then dbl f (2 * c) m else c
theorem dbl_done (f c m : Nat) (h : ¬ c < m) : dbl f c m = c := by cases f <;> simp [dbl, h]
theorem dbl_le (f : Nat) : ∀ c m, dbl f c m ≤ max c (2 * m) := by
 induction f with
 | zero => intro c m; simp only [dbl]; omega
 | succ f ih => intro c m; simp only [dbl]; split; have := ih (2 * c) m; omega; omega
theorem dbl_ge (f : Nat) : ∀ c m, m ≤ 2 ^ f * c → m ≤ dbl f c m := by
 induction f with
 | zero => intro c m h; simp only [dbl]; omega
 | succ f ih =>
  intro c m h
  simp only [dbl]
  split
  ·exact ih (2 * c) m (by rw [← Nat.mul_assoc, ← Nat.pow_succ]; exact h)
  ·omega
def cellsFor (k n m : Nat) : Nat := dbl 40 (max k 16) (n + m)
theorem cellsFor_ge (k n m : Nat) (h : n + m ≤ 1000000) : n + m ≤ cellsFor k n m ∧ cellsFor k n m ≤ max (max k 16) (2 * (n + m)) :=
 ⟨dbl_ge 40 _ _ (by omega), dbl_le 40 _ _⟩
def gapAfter (n g m : Nat) : Nat := if m ≤ g then g - m else cellsFor (n + g) n m - n - m
def withIn (T es : List Int) (a : Nat) : List Int := T.take a ++ (es ++ T.drop a)
theorem withIn_length (T es : List Int) (a : Nat) (h : a ≤ T.length) : (withIn T es a).length = T.length + es.length := by
 unfold withIn; simp only [List.length_append, List.length_take, List.length_drop]; omega
structure IS (base b : Nat) (v : Value) (lo hi : Int) (w w' : World) : Prop where
 blk : w'.heap[b]? = some (.cells #[v, .int .i64 lo, .int .i64 hi] 94 (0, 0))
 bel : Below base w w'
theorem IS.drew {base b : Nat} {v : Value} {lo hi : Int} {w w1 : World} (h : IS base b v lo hi w w1) : IS base b v lo hi w w1.drew := ⟨h.blk, h.bel.drew⟩
theorem IS.grown {base b : Nat} {v : Value} {lo hi : Int} {w w1 w2 : World} (h : IS base b v lo hi w w1) (hg : w1.grownBy w2 v.ownBlock) (hr : ∀ k, v.ownBlock = some k → k ≠ b) (hb : ∀ k, v.ownBlock = some k → base ≤ k) (hbb : base ≤ b) : IS base b v lo hi w w2 :=
 ⟨blk_grown h.blk hg (fun e => hr b e.symm rfl), h.bel.grown hg (Nat.le_trans hbb (Nat.le_of_lt (blk_lt h.blk))) hb⟩
theorem IS.c0 {base b : Nat} {v : Value} {lo hi : Int} {w w1 : World} (h : IS base b v lo hi w w1) : w1.cell? ⟨b, 0, none⟩ = some v := (blk_cell h.blk 0).trans rfl
theorem IS.c1 {base b : Nat} {v : Value} {lo hi : Int} {w w1 : World} (h : IS base b v lo hi w w1) : w1.cell? ⟨b, 1, none⟩ = some (.int .i64 lo) := (blk_cell h.blk 1).trans rfl
theorem IS.f1 {base b : Nat} {v : Value} {lo hi : Int} {w w1 : World} (h : IS base b v lo hi w w1) : w1.frozen? ⟨b, 1, none⟩ = false := blk_frozen h.blk 1
structure PR (base b : Nat) (v : Value) (xs : List Int) (A : Option Addr) (es : List Int) (w' : World) : Prop where
 rd : Kd.R (Kd.int .i32) 21 w' base (fun k => k ≠ b) v xs
 src : (Kd.int .i32).C w' A es.length es
theorem PR.drew {base b : Nat} {v : Value} {xs : List Int} {A : Option Addr} {es : List Int} {w1 : World} (h : PR base b v xs A es w1) : PR base b v xs A es w1.drew := ⟨Kd.R_drew h.rd, Kd.C_below h.src (Below.refl _ w1).drew⟩
structure DblAt (m R : Nat) (w1 : World) (k : Nat) (v8 : Value) (wr : World) : Prop where
 st : ∃ c : Nat, v8 = .int .i64 c ∧ dbl k c m = R ∧ m ≤ 2 ^ k * c ∧ c ≤ 4000000
 same : wr = w1
structure FillAt (W0 : World) (b : Nat) (T : List Int) (R : Nat) (vr : Value) (k : Nat) (_ v42 : Value) (wr : World) : Prop where
 st : ∃ i : Nat, v42 = .int .i64 i ∧ i + k = T.length ∧ Kd.R (Kd.int .i32) 21 wr W0.heap.size (fun k => k ≠ b) vr (T.take i ++ List.replicate (R - i) 0)
 bel : Below W0.heap.size W0 wr
theorem fill_step (T : List Int) (R i : Nat) (hi : i < T.length) (hR : T.length ≤ R) : (T.take i ++ List.replicate (R - i) 0).set i (T.getD i 0) = T.take (i + 1) ++ List.replicate (R - (i + 1)) 0 := by
 have e : (T.take i).length = i := by rw [List.length_take]; omega
 rw [List.set_append_right _ _ (by omega), e, Nat.sub_self, show R - i = (R - (i + 1)) + 1 by omega, List.replicate_succ, List.set_cons_zero, List.take_succ_eq_append_getElem hi, List.append_assoc, List.getD_eq_getElem?_getD, List.getElem?_eq_getElem hi]
 rfl
attribute [local go_sem] max2_int max_two
set_option maxHeartbeats 8000000 in
set_option maxRecDepth 100000 in
theorem insert_any (w : World) (base b : Nat) (T : List Int) (l0 g a : Nat) (es : List Int) (A : Option Addr) (ce : Nat) (hG : GapIs w base b T l0 g) (ha : a ≤ T.length) (hn : T.length + es.length ≤ 200000) (hc : T.length + g ≤ 900000)
  (hes : ∀ W, Below base w W → (Kd.int .i32).C W A es.length es) :
  Calls Tryd.prog 73 #[gpt b, .int .i64 a, .slice A es.length ce] w fun e w' => e = .returned (.tuple #[]) ∧ GapIs w' base b (withIn T es a) (a + es.length) (gapAfter T.length g es.length) ∧ Below base w w' := by
 have HA := Aside0.mk ha
 have HN := Aside0.mk hn
 have HC := Aside0.mk hc
 have HG := Aside0.mk hG
 have HES := Aside0.mk hes
 have b1 : l0 ≤ 2000000 := by have := hG.2.1; omega
 have b2 : g ≤ 2000000 := by omega
 have b3 : es.length ≤ 2000000 := by omega
 have b4 : a ≤ 2000000 := by omega
 obtain ⟨g1, g2, g3, v, hblk, hR⟩ := hG
 obtain ⟨A0, c0, rfl⟩ := Kd.R_slice hR
 have q0 : w.cell? ⟨b, 0, none⟩ = some (.slice A0 (lay T l0 g).length c0) := (blk_cell hblk 0).trans rfl
 have q1 : w.cell? ⟨b, 1, none⟩ = some (.int .i64 l0) := (blk_cell hblk 1).trans rfl
 have q2 : w.cell? ⟨b, 2, none⟩ = some (.int .i64 (l0 + g : Nat)) := (blk_cell hblk 2).trans rfl
 obtain ⟨h0, HH0⟩ : ∃ h0, Aside0 (h0 = l0 + g) := ⟨_, ⟨rfl⟩⟩
 rw [← HH0.out] at q2
 clear hR hblk ha hn hc hes g1 g2 g3
 simp only [gpt]
 by_cases cg : es.length ≤ g
 ·have GA : Aside0 (gapAfter T.length g es.length = g - es.length) := ⟨if_pos cg⟩
  have d1 : IntKind.i64.wrap ((h0 : Int) - (l0 : Int)) = (g : Int) := by rw [IntKind.wrap_i64]; have := HH0.out; omega
  have d2 : decide ((g : Int) < (es.length : Int)) = false := decide_eq_false (by omega)
  go_enter Tryd.func73, Tryd.ntmps73
  go_wp2
  go_quiet (fail)
  have HB0 : Aside0 (Below base w (w.drewN nq)) := ⟨pw_below_drewN (Below.refl _ _) _⟩
  have HG0 : Aside0 (GapIs (w.drewN nq) base b T l0 g) := ⟨HG.out.below (pw_below_drewN (Below.refl _ _) _)⟩
  go_wp2_with fail
  refine (move_any (w.drewN nq) base b T _ g a HG0.out HA.out).mono ?_
  rintro e w1 ⟨rfl, hG1, hB1⟩
  have HB1 : Aside0 (Below base w w1) := ⟨HB0.out.trans hB1⟩
  obtain ⟨g1, g2, g3, v, hblk, hR⟩ := hG1
  have hlen := lay_length T a g g2
  have hput := lay_put T es a g g2 cg
  obtain ⟨A1, c1, rfl⟩ := Kd.R_slice hR
  obtain ⟨-, hcl, -⟩ := Kd.R_reads' hR
  obtain ⟨h1, HH1⟩ : ∃ h1, Aside0 (h1 = a + g) := ⟨_, ⟨rfl⟩⟩
  obtain ⟨xs, HXS⟩ : ∃ xs, Aside0 (xs = lay T a g) := ⟨_, ⟨rfl⟩⟩
  rw [← HXS.out] at hblk hR hlen hput hcl
  rw [← HH1.out] at hblk
  have hrb : ∀ k, (Value.slice A1 xs.length c1).ownBlock = some k → k ≠ b := hR.1
  have hbs : ∀ k, (Value.slice A1 xs.length c1).ownBlock = some k → base ≤ k := fun k hk => own_base (Kd.R_own hR).choose_spec k hk
  have hA1 : ∀ g, 0 < es.length → A1 = some g → ∃ r, g = ⟨r, 0, none⟩ := fun g h0 e => by
   obtain ⟨r, cp, e2, -⟩ := Kd.R_form hR (by have := cg; omega)
   rw [e] at e2; injection e2 with e3; injection e3 with e4; exact ⟨r, e4⟩
  have HRB := Aside0.mk hrb
  have HBS := Aside0.mk hbs
  have HA1 := Aside0.mk hA1
  have HPUT := Aside0.mk hput
  have HLEN := Aside0.mk hlen
  have is1 : IS base b (.slice A1 xs.length c1) a h1 w w1 := ⟨hblk, HB1.out⟩
  have pr1 : PR base b (.slice A1 xs.length c1) xs A es w1 := ⟨hR, HES.out w1 HB1.out⟩
  have hbb := Aside0.mk g1
  have G3 := Aside0.mk g3
  have b5 : xs.length ≤ 2000000 := by omega
  have b6 : a ≤ xs.length := by omega
  have b7 : a + es.length ≤ xs.length := by have := cg; omega
  have b8 : a ≤ c1 := by omega
  have b9 : xs.length ≤ c1 := hcl
  clear hrb hbs hA1 hput hlen hblk hR hB1 g1 g2 g3 hcl
  have q0 : w1.cell? ⟨b, 0, none⟩ = some (.slice A1 xs.length c1) := is1.c0
  have q1 : w1.cell? ⟨b, 1, none⟩ = some (.int .i64 a) := is1.c1
  have f1 : w1.frozen? ⟨b, 1, none⟩ = false := is1.f1
  go_wp2_with fail
  go_region_law ((refine step_copy_in (by rfl) (.tmp 79) (.tmp 80) 44 44 (by rfl) 21 Tryd.underlying44 (by kernel_rfl) (if c1 = a then A1 else A1.map (fun x => x.add a)) A (xs.length - a) (c1 - a) es.length ce (by simp [Act.eval, Act.put]) (by simp [Act.eval, Act.put]) (Value.int .i32) (h1 := fun _ => rfl) (base := base) (ok := fun k => k ≠ b) (A0 := A1) (n := xs.length) (cap := c1) (xs := xs) (PR.rd (A := A) (es := es) (by first | assumption | exact PR.drew (by assumption))) a es rfl b7 (by omega) (fun h0_ g_ e_ => by rw [if_neg (by omega), e_]; simp only [Option.map_some, Option.some.injEq, Addr.add]; split <;> simp_all) (PR.src (base := base) (b := b) (v := .slice A1 xs.length c1) (xs := xs) (by first | assumption | exact PR.drew (by assumption))) ?_); (intro w2 ho hg; have is2 := IS.grown (base := base) (b := b) (v := .slice A1 xs.length c1) (lo := a) (hi := h1) (w := w) (by first | assumption | exact IS.drew (by assumption)) hg HRB.out HBS.out hbb.out; have y0 := is2.c0; have y1 := is2.c1; have yf := is2.f1))
  all_goals
   have d3 : IntKind.i64.wrap ((a : Int) + (es.length : Int)) = ((a + es.length : Nat) : Int) := by rw [IntKind.wrap_i64]; omega
   rw [d3]
   have hF : GapIs (w2.setCell ⟨b, 1, none⟩ (.int .i64 (a + es.length : Nat))) base b (withIn T es a) (a + es.length) (gapAfter T.length g es.length) := by
    refine ⟨hbb.out, by rw [withIn_length T es a HA.out]; have := HA.out; omega, ?_, .slice A1 xs.length c1, ?_, ?_⟩
    ·rw [withIn_length T es a HA.out, GA.out]; have := HN.out; have := HC.out; have := G3.out; omega
    ·have hb8 := blk_put is2.blk 1 (.int .i64 (a + es.length : Nat)) rfl
     rw [GA.out, show ((a + es.length + (g - es.length) : Nat) : Int) = (h1 : Int) by have := HH1.out; have := cg; omega]
     exact hb8
    ·have hr8 := Kd.R_far (p := ⟨b, 1, none⟩) ho (fun _ h => h) (.int .i64 (a + es.length : Nat))
     rw [GA.out, show withIn T es a = T.take a ++ (es ++ T.drop a) from rfl, ← HPUT.out]
     exact hr8
   go_end0
   exact ⟨rfl, hF, is2.bel.setCell (p := ⟨b, 1, none⟩) hbb.out _⟩
 ·have GR : Aside0 (gapAfter T.length g es.length = cellsFor (T.length + g) T.length es.length - T.length - es.length) := ⟨if_neg cg⟩
  have d1 : IntKind.i64.wrap ((h0 : Int) - (l0 : Int)) = (g : Int) := by rw [IntKind.wrap_i64]; have := HH0.out; omega
  have d2 : decide ((g : Int) < (es.length : Int)) = true := decide_eq_true (by omega)
  have d3 : decide (g < es.length) = true := decide_eq_true (by omega)
  have d4 : g < es.length := by omega
  go_enter Tryd.func73, Tryd.ntmps73
  go_wp2
  go_quiet (fail)
  have HB0 : Aside0 (Below base w (w.drewN nq)) := ⟨pw_below_drewN (Below.refl _ _) _⟩
  have HG0 : Aside0 (GapIs (w.drewN nq) base b T l0 g) := ⟨HG.out.below (pw_below_drewN (Below.refl _ _) _)⟩
  go_wp2_with fail
  refine (gsize_any (w.drewN nq) base b T l0 g HG0.out).mono ?_
  rintro e w1 ⟨rfl, hb1⟩
  have HG1 := Aside0.mk (HG0.out.below hb1)
  have HB1 : Aside0 (Below base w w1) := ⟨HB0.out.trans (hb1.mono (by have h1 := HG0.out.1; obtain ⟨_, _, _, v, h2, _⟩ := HG0.out; have := blk_lt h2; omega))⟩
  clear hb1 q0 q1 q2
  obtain ⟨g1, g2, g3, v, hblk, hR⟩ := HG1.out
  have hlen := lay_length T l0 g g2
  obtain ⟨A2, c2, rfl⟩ := Kd.R_slice hR
  have q0 : w1.cell? ⟨b, 0, none⟩ = some (.slice A2 (lay T l0 g).length c2) := (blk_cell hblk 0).trans rfl
  rw [hlen] at q0
  clear hblk hR hlen g1 g2 g3
  have b5 : T.length ≤ 2000000 := by have := HN.out; omega
  have b6 : T.length + es.length ≤ 1000000 := by have := HN.out; omega
  have CF := Aside0.mk (cellsFor_ge (T.length + g) T.length es.length b6)
  have ST : ∀ c : Nat, c = max (T.length + g) 16 → Aside0 (DblAt (T.length + es.length) (cellsFor (T.length + g) T.length es.length) w1 40 (.int .i64 c) w1) := fun c hc => ⟨⟨⟨c, rfl, by unfold cellsFor; rw [hc], by omega, by have := HC.out; omega⟩, rfl⟩⟩
  obtain ⟨R, HRR⟩ : ∃ R, Aside0 (R = cellsFor (T.length + g) T.length es.length) := ⟨_, ⟨rfl⟩⟩
  rw [← HRR.out] at ST GR CF
  have GA : Aside0 (gapAfter T.length g es.length = R - T.length - es.length) := GR
  clear GR
  have hR1 := CF.out.1
  have hR2 : R ≤ 900000 := by have := CF.out.2; have := HN.out; have := HC.out; omega
  clear CF HRR b6
  have ST2 := Aside0.mk ST
  have HR2 := Aside0.mk hR2
  have HR1 := Aside0.mk hR1
  clear ST hR1 hR2
  go_wp2
  all_goals
   go_loopg [8] 40 (fun k v8 wr => DblAt (T.length + es.length) R w1 k v8 wr)
   case atStart => first | exact (ST2.out 16 (by omega)).out | (have h := (ST2.out (T.length + g) (by omega)).out; rw [Int.natCast_add] at h; exact h)
   case round =>
    clear ST2
    obtain ⟨⟨c, rfl, hR, hp, hcb⟩, hw⟩ := hrel
    have hw2 := hw.symm
    clear hw
    subst hw2
    have HRc := Aside0.mk hR
    have HP := Aside0.mk hp
    clear hR hp
    by_cases cc : (c : Int) - (T.length : Int) < (es.length : Int)
    ·have CC := Aside0.mk cc
     cases gk with
     | zero => exact absurd HP.out (by have := CC.out; simp only [Nat.pow_zero, Nat.one_mul]; omega)
     | succ k1 =>
      have hc2 : c ≤ 1000000 := by have := HN.out; omega
      go_wp2
      go_roundg k1
      case measure => omega
      case rel =>
       have h := HRc.out
       simp only [dbl] at h
       rw [if_pos (by have := CC.out; omega)] at h
       exact ⟨⟨2 * c, by go_num, h, by have := HP.out; rw [Nat.pow_succ, Nat.mul_assoc] at this; exact this, by omega⟩, rfl⟩
    ·have hcR : c = R := by
      rw [← HRc.out]; exact (dbl_done gk c _ (by omega)).symm
     subst hcR
     clear HRc HP
     have hbase : base ≤ w1.heap.size := by have h1 := HG1.out.1; obtain ⟨_, _, _, v, h2, _⟩ := HG1.out; have := blk_lt h2; omega
     have hblt : b < w1.heap.size := by obtain ⟨_, _, _, v, h2, _⟩ := HG1.out; exact blk_lt h2
     have HBS := Aside0.mk hbase
     have HBL := Aside0.mk hblt
     have CC := Aside0.mk cc
     clear hbase hblt q0
     go_wp2_with ((with_reducible refine gate_dst (N := 40) rfl ?_); refine Kd.R_make (Kd.int .i32) (w0 := w1) w1.heap.size 21 rfl (N := 40) rfl 44 (.tmp 39) (.tmp 39) rfl (c : Int) rfl rfl Tryd.underlying44 (.int .i32 0) 4 QBase.info21 rfl Nat.one_pos (by decide) (0 : Int) (ok := fun k => k ≠ b) (okp := fun _ => False) rfl (fun _ h => h.elim) (by have := HBL.out; omega) (by omega) (by have := HR2.out; simp only [Int.toNat_natCast]; omega) (Below.refl _ _) (Nat.le_refl _) ?_; intro vr w2 hr2 hb2 hg2 hat2; clear hg2 hat2; rw [Int.toNat_natCast] at hr2; have hlr : (List.replicate c (0 : Int)).length = c := List.length_replicate; obtain ⟨r, cp, hvr, hrb, hrl, -⟩ := Kd.R_form hr2 (by rw [hlr]; have := HR1.out; omega); rw [hlr] at hvr; subst hvr; have AT : Aside0 (FillAt w1 b T c (.slice (some ⟨r, 0, none⟩) c cp) T.length undef (.int .i64 0) w2) := ⟨⟨⟨0, rfl, by omega, by simpa using hr2⟩, hb2⟩⟩; have HRB := Aside0.mk hrb; have hcp := Aside0.mk (Kd.R_reads' hr2).2.1; clear hrb hrl hr2 hb2 hlr)
     go_loopg [10, 42] T.length (fun k v10 v42 w' => FillAt w1 b T c (.slice (some ⟨r, 0, none⟩) c cp) k v10 v42 w')
     case atStart => exact ⟨AT.out.st, AT.out.bel⟩
     case round =>
      clear AT
      obtain ⟨⟨i, rfl, hk, hR⟩, hB⟩ := hrel
      have HK := Aside0.mk hk
      have HR := Aside0.mk hR
      have HB := Aside0.mk hB
      have HGr := Aside0.mk (HG1.out.below hB)
      clear hk hR hB
      by_cases ci : i < T.length
      ·have CI := Aside0.mk ci
       have hget := gget_any _ base b T l0 g i HGr.out ci
       have HGET := Aside0.mk hget
       have hi2 : i < 2000000 := by omega
       clear hget
       obtain ⟨x, HX⟩ : ∃ x, Aside0 (x = T.getD i 0) := ⟨_, ⟨rfl⟩⟩
       rw [← HX.out] at HGET
       go_wp2_with fail
       refine HGET.out.mono ?_
       rintro e w3 ⟨rfl, hb3⟩
       have HB3 := Aside0.mk (below_step HB.out hb3)
       have HR3 := Aside0.mk (Kd.R_below HR.out hb3)
       clear hb3 HB HR HGr HGET
       have hil : (i : Int) < (c : Int) := by have := HR1.out; omega
       obtain ⟨y1, y3⟩ := Kd.R_celln (enc := Value.int .i32) (h1 := fun _ => rfl) 0 HR3.out (i : Int) (by omega) hil
       simp only [Int.toNat_natCast] at y1 y3
       have HP := Kd.R_putg (enc := Value.int .i32) (h1 := fun _ => rfl) HR3.out (i : Int) x
       simp only [Int.toNat_natCast] at HP
       have HB7 : Aside0 (Below w1.heap.size w1 (w3.setCell ⟨r, i, none⟩ (.int .i32 x))) := ⟨HB3.out.setCell (p := ⟨r, i, none⟩) HRB.out _⟩
       have HR7 := Aside0.mk HP.1
       clear HP
       go_wp2
       go_roundg (T.length - (i + 1))
       case measure => have := HK.out; have := CI.out; omega
       case rel =>
        have h := HR7.out
        rw [HX.out, fill_step T c i CI.out (by have := HR1.out; omega), ← HX.out] at h
        exact ⟨⟨i + 1, by go_num, by have := HK.out; have := CI.out; omega, h⟩, HB7.out⟩
      ·have hil : i = T.length := by have := HK.out; omega
       subst hil
       obtain ⟨g1, g2, g3, v, hblk, hRold⟩ := HGr.out
       obtain ⟨A3, c3, rfl⟩ := Kd.R_slice hRold
       have q0 := (blk_cell hblk 0).trans rfl
       have q1 := (blk_cell hblk 1).trans rfl
       have q2 := (blk_cell hblk 2).trans rfl
       have f0 := blk_frozen hblk 0
       have f1 := blk_frozen hblk 1
       have f2 := blk_frozen hblk 2
       have LE5 : Aside0 (es.length ≤ c - T.length) := ⟨by have := HR1.out; omega⟩
       have hb5 := blk_put (blk_put (blk_put hblk 0 (.slice (some ⟨r, 0, none⟩) c cp) rfl) 1 (.int .i64 (T.length : Nat)) rfl) 2 (.int .i64 (c : Nat)) rfl
       have hr5 := Kd.R_far (p := ⟨b, 2, none⟩) (Kd.R_far (p := ⟨b, 1, none⟩) (Kd.R_far (p := ⟨b, 0, none⟩) HR.out (fun _ h => h) (.slice (some ⟨r, 0, none⟩) c cp)) (fun _ h => h) (.int .i64 (T.length : Nat))) (fun _ h => h) (.int .i64 (c : Nat))
       have HB5 := Aside0.mk (((((HB1.out.trans (HB.out.mono HBS.out)).setCell (p := ⟨b, 0, none⟩) g1 (.slice (some ⟨r, 0, none⟩) c cp)).setCell (p := ⟨b, 1, none⟩) g1 (.int .i64 (T.length : Nat))).setCell (p := ⟨b, 2, none⟩) g1 (.int .i64 (c : Nat))))
       have hlay : lay T T.length (c - T.length) = T.take T.length ++ List.replicate (c - T.length) 0 := by unfold lay; rw [List.drop_length, List.append_nil]
       have HG5 : Aside0 (GapIs (((wr.setCell ⟨b, 0, none⟩ (.slice (some ⟨r, 0, none⟩) c cp)).setCell ⟨b, 1, none⟩ (.int .i64 (T.length : Nat))).setCell ⟨b, 2, none⟩ (.int .i64 (c : Nat))) base b T T.length (c - T.length)) := ⟨g1, Nat.le_refl _, by have := HR2.out; have := HR1.out; omega, _, by
        rw [show ((T.length + (c - T.length) : Nat) : Int) = (c : Int) by have := HR1.out; omega]; exact hb5, by rw [hlay]; exact Kd.R_lower hr5 HBS.out⟩
       clear hb5 hr5 hlay hblk hRold g1 g2 g3
       go_wp2_with fail
       obtain ⟨w5, e5⟩ : ∃ y, (((wr.setCell ⟨b, 0, none⟩ (.slice (some ⟨r, 0, none⟩) c cp)).setCell ⟨b, 1, none⟩ (.int .i64 (T.length : Nat))).setCell ⟨b, 2, none⟩ (.int .i64 (c : Nat))) = y := ⟨_, rfl⟩
       rw [e5] at HB5 HG5 ⊢
       clear e5 q0 q1 q2 f0 f1 f2
       refine (move_any w5 base b T _ (c - T.length) a HG5.out HA.out).mono ?_
       rintro e w1 ⟨rfl, hG1, hB1⟩
       have HB1 : Aside0 (Below base w w1) := ⟨HB5.out.trans hB1⟩
       obtain ⟨g1, g2, g3, v, hblk, hR⟩ := hG1
       have hlen := lay_length T a (c - T.length) g2
       have hput := lay_put T es a (c - T.length) g2 LE5.out
       obtain ⟨A1, c1, rfl⟩ := Kd.R_slice hR
       obtain ⟨-, hcl, -⟩ := Kd.R_reads' hR
       obtain ⟨h1, HH1⟩ : ∃ h1, Aside0 (h1 = a + (c - T.length)) := ⟨_, ⟨rfl⟩⟩
       obtain ⟨xs, HXS⟩ : ∃ xs, Aside0 (xs = lay T a (c - T.length)) := ⟨_, ⟨rfl⟩⟩
       rw [← HXS.out] at hblk hR hlen hput hcl
       rw [← HH1.out] at hblk
       have hrb : ∀ k, (Value.slice A1 xs.length c1).ownBlock = some k → k ≠ b := hR.1
       have hbs : ∀ k, (Value.slice A1 xs.length c1).ownBlock = some k → base ≤ k := fun k hk => own_base (Kd.R_own hR).choose_spec k hk
       have hA1 : ∀ g, 0 < es.length → A1 = some g → ∃ r, g = ⟨r, 0, none⟩ := fun g h0 e => by
        obtain ⟨r, cp, e2, -⟩ := Kd.R_form hR (by have := LE5.out; omega)
        rw [e] at e2; injection e2 with e3; injection e3 with e4; exact ⟨r, e4⟩
       have HRB := Aside0.mk hrb
       have HBS := Aside0.mk hbs
       have HA1 := Aside0.mk hA1
       have HPUT := Aside0.mk hput
       have HLEN := Aside0.mk hlen
       have is1 : IS base b (.slice A1 xs.length c1) a h1 w w1 := ⟨hblk, HB1.out⟩
       have pr1 : PR base b (.slice A1 xs.length c1) xs A es w1 := ⟨hR, HES.out w1 HB1.out⟩
       have hbb := Aside0.mk g1
       have G3 := Aside0.mk g3
       have b5 : xs.length ≤ 2000000 := by omega
       have b6 : a ≤ xs.length := by omega
       have b7 : a + es.length ≤ xs.length := by have := LE5.out; omega
       have b8 : a ≤ c1 := by omega
       have b9 : xs.length ≤ c1 := hcl
       clear hrb hbs hA1 hput hlen hblk hR hB1 g1 g2 g3 hcl
       have q0 : w1.cell? ⟨b, 0, none⟩ = some (.slice A1 xs.length c1) := is1.c0
       have q1 : w1.cell? ⟨b, 1, none⟩ = some (.int .i64 a) := is1.c1
       have f1 : w1.frozen? ⟨b, 1, none⟩ = false := is1.f1
       go_wp2_with fail
       go_region_law ((refine step_copy_in (by rfl) (.tmp 79) (.tmp 80) 44 44 (by rfl) 21 Tryd.underlying44 (by kernel_rfl) (if c1 = a then A1 else A1.map (fun x => x.add a)) A (xs.length - a) (c1 - a) es.length ce (by simp [Act.eval, Act.put]) (by simp [Act.eval, Act.put]) (Value.int .i32) (h1 := fun _ => rfl) (base := base) (ok := fun k => k ≠ b) (A0 := A1) (n := xs.length) (cap := c1) (xs := xs) (PR.rd (A := A) (es := es) (by first | assumption | exact PR.drew (by assumption))) a es rfl b7 (by omega) (fun h0_ g_ e_ => by rw [if_neg (by omega), e_]; simp only [Option.map_some, Option.some.injEq, Addr.add]; split <;> simp_all) (PR.src (base := base) (b := b) (v := .slice A1 xs.length c1) (xs := xs) (by first | assumption | exact PR.drew (by assumption))) ?_); (intro w2 ho hg; have is2 := IS.grown (base := base) (b := b) (v := .slice A1 xs.length c1) (lo := a) (hi := h1) (w := w) (by first | assumption | exact IS.drew (by assumption)) hg HRB.out HBS.out hbb.out; have y0 := is2.c0; have y1 := is2.c1; have yf := is2.f1))
       all_goals
        have d3 : IntKind.i64.wrap ((a : Int) + (es.length : Int)) = ((a + es.length : Nat) : Int) := by rw [IntKind.wrap_i64]; omega
        rw [d3]
        have hF : GapIs (w2.setCell ⟨b, 1, none⟩ (.int .i64 (a + es.length : Nat))) base b (withIn T es a) (a + es.length) (gapAfter T.length g es.length) := by
         refine ⟨hbb.out, by rw [withIn_length T es a HA.out]; have := HA.out; omega, ?_, .slice A1 xs.length c1, ?_, ?_⟩
         ·rw [withIn_length T es a HA.out, GA.out]; have := HN.out; have := HC.out; have := G3.out; omega
         ·have hb8 := blk_put is2.blk 1 (.int .i64 (a + es.length : Nat)) rfl
          rw [GA.out, show ((a + es.length + ((c - T.length) - es.length) : Nat) : Int) = (h1 : Int) by have := HH1.out; have := LE5.out; omega]
          exact hb8
         ·have hr8 := Kd.R_far (p := ⟨b, 1, none⟩) ho (fun _ h => h) (.int .i64 (a + es.length : Nat))
          rw [GA.out, show withIn T es a = T.take a ++ (es ++ T.drop a) from rfl, ← HPUT.out]
          exact hr8
        go_end0
        exact ⟨rfl, hF, is2.bel.setCell (p := ⟨b, 1, none⟩) hbb.out _⟩
end Go.Proofs.YtamcacahjlaogaaDoor
