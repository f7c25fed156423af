/- A piece made to begin at an offset (cut), walked. Condition: the text is a valid one, the offset lies in it. -/
import Derived.Test.YtnomidpnofhjdaaGreatDoorPt1
import Derived.Deep.RegionWith
namespace Go.Proofs.YtnomidpnofhjdaaGreatDoor
open Go.RowKit Go.Proofs.YtnomidpnofhjdaaGreatDoorW.PrintWords Go.Proofs.YtnomidpnofhjdaaGreatDoorW.PrintLast Go.Proofs.YtnomidpnofhjdaaGreatDoorW.PrintMore Er
def PostN (A : Act → World → Prop) : Exit → Act → World → Prop
 | .normal, a, w => A a w
 | _, _, _ => False
theorem PostN.mk {A : Act → World → Prop} {a : Act} {w : World} (h : A a w) : PostN A .normal a w := h
theorem PostN.out {A : Act → World → Prop} {e : Exit} {a : Act} {w : World} (h : PostN A e a w) : e = .normal ∧ A a w := by
 cases e <;> first | exact ⟨rfl, h⟩ | exact h.elim
def PostA (act : Act) (A : World → Prop) : Exit → Act → World → Prop := PostN fun a w => a = act ∧ A w
theorem PostA.mk {act : Act} {A : World → Prop} {w : World} (h : A w) : PostA act A .normal act w := ⟨rfl, h⟩
theorem PostA.out {act : Act} {A : World → Prop} {e : Exit} {a : Act} {w : World} (h : PostA act A e a w) : e = .normal ∧ a = act ∧ A w := PostN.out h
def PostF (act : Option Nat → Act) (A : World → Prop) : Exit → Act → World → Prop := PostN fun a w => (∃ p, a = act p) ∧ A w
theorem PostF.mk {act : Option Nat → Act} {A : World → Prop} {w : World} (p : Option Nat) (h : A w) : PostF act A .normal (act p) w := ⟨⟨p, rfl⟩, h⟩
theorem PostF.out {act : Option Nat → Act} {A : World → Prop} {e : Exit} {a : Act} {w : World} (h : PostF act A e a w) : e = .normal ∧ (∃ p, a = act p) ∧ A w := PostN.out h
theorem piece_at (w : World) (base b : Nat) (A : Option Addr) (c : Nat) (T : List Int) (pr : Value) (o l : Int) (hb : w.heap[b]? = some (.cells #[.slice A T.length c, pr] 69 (0, 0))) (hR : Kd.R (Kd.int .i32) 21 w base (fun _ => True) (.slice A T.length c) T) (h0 : 0 ≤ o) (h1 : 0 ≤ l) (h2 : o + l ≤ (T.length : Int)) (hT : T.length ≤ 1000000) :
  Calls Tryz.prog 64 #[.pointer (some ⟨b, 0, none⟩), .int .i64 o, .int .i64 l] w fun e w' => e = .returned (pcV (mkP T o l)) ∧ Below w.heap.size w w' := by
 obtain ⟨A', c', e, hc, hC⟩ := Kd.R_reads hR
 cases e
 have h := piece_any w b A c T pr o.toNat l.toNat hb hC hc (by omega) hT
 rw [show ((o.toNat : Nat) : Int) = o by omega, show ((l.toNat : Nat) : Int) = l by omega, show o.toNat + l.toNat = (o + l).toNat by omega] at h
 exact h
theorem cut_end (T : List Int) (t : Tree) (off : Int) (h : off = rl t) : cutT T t off = (t, TP.cnt t) := by unfold cutT; rw [if_pos h]
theorem cut_edge (T : List Int) (t : Tree) (off : Int) (h : off ≠ rl t) (h2 : (seek (TP.toL t) off).2 = 0) : cutT T t off = (t, (seek (TP.toL t) off).1) := by unfold cutT; rw [if_neg h, if_pos h2]
theorem cut_mid_ (T : List Int) (t : Tree) (off : Int) (x : Pc) (h : off ≠ rl t) (h2 : (seek (TP.toL t) off).2 ≠ 0) (hx : (TP.toL t)[(seek (TP.toL t) off).1]? = some x) :
  cutT T t off = (TP.insert (mkP T (x.off + (seek (TP.toL t) off).2) (x.len - (seek (TP.toL t) off).2)) (setT (mkP T x.off (seek (TP.toL t) off).2) t (seek (TP.toL t) off).1) ((seek (TP.toL t) off).1 + 1), (seek (TP.toL t) off).1 + 1) := by unfold cutT; rw [if_neg h, if_neg h2, hx]
set_option maxHeartbeats 8000000 in
set_option maxRecDepth 100000 in
theorem cut_any (w : World) (base b : Nat) (T : List Int) (t : Tree) (S : List Nat) (off : Int) (h : PS w base b T t S) (ok : TxtOk T t) (h0 : 0 ≤ off) (h1 : off ≤ rl t) (hbs : base ≤ w.heap.size) :
  Calls Tryz.prog 70 #[.pointer (some ⟨b, 0, none⟩), .int .i64 off] w fun e w' => e = .returned (.int .i64 ((cutT T t off).2 : Nat)) ∧ (∃ S', PS w' base b T (cutT T t off).1 S') ∧ Below base w w' := by
 have key := allP_key t ok.allp
 have hsum := ok.sum
 have HP := Aside0.mk h
 have OK := Aside0.mk ok
 have PZ := Aside0.mk (psize_any w b T t S h.pb ok.fine)
 obtain ⟨A, c, p, g1, g2, g3⟩ := h.ex
 have q1 : w.cell? ⟨b, 1, none⟩ = some (ptrV p) := (blk_cell g1 1).trans rfl
 have G1 := Aside0.mk g1
 have G2 := Aside0.mk g2
 have G3 := Aside0.mk g3
 clear h ok g1 g2 g3
 by_cases ce : off = rl t
 ·have ced : decide (off = rl t) = true := decide_eq_true ce
  have CT := Aside0.mk (cut_end T t off ce)
  have CR := Aside0.mk (count_rep w t p S G3.out (by omega))
  clear key hsum
  go_enter Tryz.func70, Tryz.ntmps70
  go_wp2_with fail
  refine PZ.out.mono ?_
  rintro e w' ⟨rfl, hw⟩
  rw [hw]
  clear hw w'
  go_wp2_with fail
  refine CR.out.mono ?_
  rintro e w' ⟨rfl, hw⟩
  rw [hw]
  clear hw w'
  go_wp2
  go_ret
  rw [CT.out]
  exact ⟨rfl, ⟨S, HP.out⟩, (Below.refl _ _).mono hbs⟩
 ·have ced : decide (off = rl t) = false := decide_eq_false ce
  have hlt : off < rl t := by omega
  have hpos : ∀ x ∈ TP.toL t, 1 ≤ x.len := fun x hx => (OK.out.allp x hx).1
  obtain ⟨x, hx, k0, k1, hsk⟩ := seek_in (TP.toL t) hpos off h0 (by rw [lenP_toL]; exact hlt)
  obtain ⟨fv1, fv2⟩ := findV_seek t OK.out.allp off 0 1 h0 hlt
  have FA := Aside0.mk (find_any w t p S off G3.out OK.out.fine h0 hlt)
  rw [fv1, fv2, Int.zero_add] at FA
  have CEDGE := Aside0.mk (cut_edge T t off ce)
  have CMID := Aside0.mk (fun y h2 hy => cut_mid_ T t off y ce h2 hy)
  have hjl : (seek (TP.toL t) off).1 < TP.cnt t := by rw [← TP.toL_length]; exact (List.getElem?_eq_some_iff.1 hx).1
  obtain ⟨j, hj⟩ : ∃ j, j = (seek (TP.toL t) off).1 := ⟨_, rfl⟩
  obtain ⟨k, hk⟩ : ∃ k, k = (seek (TP.toL t) off).2 := ⟨_, rfl⟩
  rw [← hj, ← hk] at FA CMID
  rw [← hj, ← hk] at CEDGE
  rw [← hj] at hx hjl
  rw [← hk] at k0 k1
  have hin := OK.out.ins x (List.mem_of_getElem? hx)
  have HX := Aside0.mk hx
  clear fv1 fv2 hsk hpos hj hk hx
  generalize (findV t off 0 1).2.2 = sn at FA
  by_cases ck : k = 0
  ·have ckd : decide (k = 0) = true := decide_eq_true ck
   have CE := CEDGE.out ck
   have CE' := Aside0.mk CE
   clear CE CEDGE CMID key hsum
   go_enter Tryz.func70, Tryz.ntmps70
   go_wp2_with fail
   refine PZ.out.mono ?_
   rintro e w' ⟨rfl, hw⟩
   rw [hw]
   clear hw w'
   go_wp2_with fail
   refine FA.out.mono ?_
   rintro e w1 ⟨rfl, hb1⟩
   have HB1 := Aside0.mk hb1
   clear hb1
   go_wp2
   go_ret
   rw [CE'.out]
   exact ⟨rfl, ⟨S, HP.out.below HB1.out⟩, HB1.out.mono hbs⟩
  ·have ckd : decide (k = 0) = false := decide_eq_false ck
   have CM := Aside0.mk (CMID.out x ck HX.out)
   clear CEDGE CMID
   have hT := OK.out.len
   obtain ⟨i1, i2, i3, i4⟩ := hin
   go_enter Tryz.func70, Tryz.ntmps70
   go_wp2_with fail
   refine PZ.out.mono ?_
   rintro e w' ⟨rfl, hw⟩
   rw [hw]
   clear hw w'
   go_wp2_with fail
   refine FA.out.mono ?_
   rintro e w1 ⟨rfl, hb1⟩
   have HB1 := Aside0.mk hb1
   have q2 : w1.cell? ⟨b, 1, none⟩ = some (ptrV p) := (blk_cell (blk_below G1.out hb1) 1).trans rfl
   have GT := Aside0.mk (get_any w1 t p S j x (G3.out.below hb1) HX.out (by omega))
   clear hb1 q1
   go_wp2_with fail
   refine GT.out.mono ?_
   rintro e w2 ⟨rfl, hb2⟩
   have HB2 := Aside0.mk (HB1.out.trans (hb2.mono HB1.out.size))
   clear hb2 q2 HB1
   go_wp2
   obtain ⟨w3, e3⟩ : ∃ y, w2.alloc (.cells #[.int .i64 x.off, .int .i64 x.len, .int .i64 x.brk] 84) = y := ⟨_, rfl⟩
   have hb23 : Below w2.heap.size w2 w3 := by subst e3; exact (Below.refl _ w2).alloc (Nat.le_refl _) _
   have BX3 : w3.heap[w2.heap.size]? = some (.cells #[.int .i64 x.off, .int .i64 x.len, .int .i64 x.brk] 84 (0, 0)) := by subst e3; exact blk_new w2 (.cells #[.int .i64 x.off, .int .i64 x.len, .int .i64 x.brk] 84)
   rw [e3]
   clear e3
   obtain ⟨g, hg⟩ : ∃ g, w2.heap.size = g := ⟨_, rfl⟩
   rw [hg] at BX3 hb23
   rw [hg]
   have HGE := Aside0.mk hg
   have HB3 : Below w.heap.size w w3.drew := (HB2.out.trans (hb23.mono (by rw [← hg]; exact HB2.out.size))).drew
   have hgw : w.heap.size ≤ g := by rw [← hg]; exact HB2.out.size
   clear hb23 hg
   have G3d := blk_below G1.out HB3
   have R3d := Kd.R_below G2.out HB3
   have Rp3 := Aside0.mk (G3.out.below HB3)
   have BX3d : w3.drew.heap[g]? = some (.cells #[.int .i64 x.off, .int .i64 x.len, .int .i64 x.brk] 84 (0, 0)) := BX3
   have q1 : w3.cell? ⟨b, 1, none⟩ = some (ptrV p) := (blk_cell G3d 1).trans rfl
   have x0 : w3.cell? ⟨g, 0, none⟩ = some (.int .i64 x.off) := (blk_cell BX3 0).trans rfl
   have PC1 := Aside0.mk (piece_at w3.drew base b A c T (ptrV p) x.off k G3d R3d i1 k0 (by omega) hT)
   have P3 := HP.out.below HB3
   have ST1 : Aside0 (∀ w4, Below w3.drew.heap.size w3.drew w4 → Calls Tryz.prog 69 #[ptrV p, .int .i64 (j : Int), pcV (mkP T x.off k)] w4 fun e w5 => e = .returned (.tuple #[]) ∧ w5.heap[b]? = some (.cells #[.slice A T.length c, ptrV p] 69 (0, 0)) ∧ Kd.R (Kd.int .i32) 21 w5 base (fun _ => True) (.slice A T.length c) T ∧ Rep w5 (setT (mkP T x.off k) t j) p S ∧ PS w5 base b T (setT (mkP T x.off k) t j) S ∧ Below base w w5 ∧ w5.heap[g]? = some (.cells #[.int .i64 x.off, .int .i64 x.len, .int .i64 x.brk] 84 (0, 0))) := ⟨fun w4 hb4 => by
    have G4 := blk_below G3d hb4
    refine (set_any (mkP T x.off k) t w4 p S j j rfl (Rp3.out.below hb4) HP.out.nd (by omega) hjl).mono ?_
    rintro e w5 ⟨rfl, hu, hrep⟩
    have hP := (P3.below hb4).put G4 hu hrep
    have hbw : Below base w w5 := ((HB3.mono hbs).trans (hb4.mono (Nat.le_trans hbs HB3.size))).trans hP.2
    refine ⟨rfl, (hu.block b (blk_lt G4) (P3.below hb4).bS).trans G4, R_upds (Kd.R_below R3d hb4) (Rp3.out.below hb4) hu, hrep, hP.1, hbw, ?_⟩
    have BX4 := blk_below BX3d hb4
    exact (hu.block g (blk_lt BX4) (fun hm => by have := G3.out.lt g hm; omega)).trans BX4⟩
   have NDS := Aside0.mk HP.out.nd
   clear P3
   have hcell : ∀ w4, Below w3.drew.heap.size w3.drew w4 → w4.cell? ⟨b, 1, none⟩ = some (ptrV p) := fun w4 hb4 => (blk_cell (blk_below G3d hb4) 1).trans rfl
   have HCELL := Aside0.mk hcell
   clear hcell G3d R3d BX3 BX3d
   refine Code.wp_mono (Q := PostA ?act7 fun w5 => (w5.heap[b]? = some (.cells #[.slice A T.length c, ptrV p] 69 (0, 0)) ∧ Kd.R (Kd.int .i32) 21 w5 base (fun _ => True) (.slice A T.length c) T ∧ Rep w5 (setT (mkP T x.off k) t j) p S ∧ PS w5 base b T (setT (mkP T x.off k) t j) S ∧ Below base w w5 ∧ w5.heap[g]? = some (.cells #[.int .i64 x.off, .int .i64 x.len, .int .i64 x.brk] 84 (0, 0)))) ?imp7 ?reg7
   case reg7 =>
    go_region_with (first | (go_at_call 64; refine PC1.out.mono ?_; rintro e w4 ⟨rfl, hb4⟩; have c4 := HCELL.out w4 hb4) | (go_at_call 69; refine (ST1.out w4 hb4).mono ?_; rintro e w5 ⟨rfl, G5, R5, Rp5, P5, HB5, BX5⟩))
    all_goals (refine PostA.mk ?_; exact ⟨G5, R5, Rp5, P5, HB5, BX5⟩)
   intro e a' w5 hpost; obtain ⟨rfl, rfl, G5, R5, Rp5, P5, HB5, BX5⟩ := PostA.out hpost; clear hpost
   clear PC1 ST1 HCELL q1 x0
   have q5 : w5.cell? ⟨b, 1, none⟩ = some (ptrV p) := (blk_cell G5 1).trans rfl
   have y0 : w5.cell? ⟨g, 0, none⟩ = some (.int .i64 x.off) := (blk_cell BX5 0).trans rfl
   have y1 : w5.cell? ⟨g, 1, none⟩ = some (.int .i64 x.len) := (blk_cell BX5 1).trans rfl
   go_wp2
   have sw1 : IntKind.i64.wrap (x.off + k) = x.off + k := by rw [IntKind.wrap_i64]; omega
   have sw2 : IntKind.i64.wrap (x.len - k) = x.len - k := by rw [IntKind.wrap_i64]; omega
   have sw3 : IntKind.i64.wrap ((j : Int) + 1) = ((j + 1 : Nat) : Int) := by rw [IntKind.wrap_i64]; omega
   have PC2 := Aside0.mk (piece_at w5.drew base b A c T (ptrV p) (x.off + k) (x.len - k) G5 (Kd.R_below R5 (Below.refl _ _).drew) (by omega) (by omega) (by omega) hT)
   have IN2 : Aside0 (∀ w6, Below w5.drew.heap.size w5.drew w6 → Calls Tryz.prog 71 #[ptrV p, .int .i64 ((j + 1 : Nat) : Int), pcV (mkP T (x.off + k) (x.len - k))] w6 fun e w7 => ∃ p' S', e = .returned (ptrV p') ∧ (w7.cell? ⟨b, 1, none⟩ = some (ptrV p)) ∧ w7.frozen? ⟨b, 1, none⟩ = false ∧ PS (w7.setCell ⟨b, 1, none⟩ (ptrV p')) base b T (TP.insert (mkP T (x.off + k) (x.len - k)) (setT (mkP T x.off k) t j) (j + 1)) S' ∧ Below base w (w7.setCell ⟨b, 1, none⟩ (ptrV p'))) := ⟨fun w6 hb6 => by
    have hb6' : Below w5.heap.size w5 w6 := ((Below.refl w5.heap.size w5).drew).trans hb6
    have P6 := P5.below hb6'
    refine (insert_any (mkP T (x.off + k) (x.len - k)) (setT (mkP T x.off k) t j) w6 p S _ (j + 1) rfl (Rp5.below hb6') NDS.out (by rw [setT_cnt]; omega) (by rw [setT_cnt]; omega)).mono ?_
    rintro e w7 ⟨p', S', rfl, hu, hrep, nd', fr⟩
    have RT := P6.root hu hrep nd' fr
    have G7 := (hu.block b (blk_lt (blk_below G5 hb6')) P6.bS).trans (blk_below G5 hb6')
    exact ⟨p', S', rfl, (blk_cell G7 1).trans rfl, blk_frozen G7 1, RT.2.1, (HB5.trans (hb6'.mono (Nat.le_trans hbs HB5.size))).trans RT.2.2⟩⟩
   have G5' := Aside0.mk G5
   clear G5 R5 Rp5 P5 HB5 BX5
   refine Code.wp_mono (Q := PostF ?act8 fun w8 => ((∃ S', PS w8 base b T (TP.insert (mkP T (x.off + k) (x.len - k)) (setT (mkP T x.off k) t j) (j + 1)) S') ∧ Below base w w8)) ?imp8 ?reg8
   case reg8 =>
    go_region_with (first | (go_at_call 64; refine PC2.out.mono ?_; rintro e w6 ⟨rfl, hb6⟩; have c6 : w6.cell? ⟨b, 1, none⟩ = some (ptrV p) := (blk_cell (blk_below (w := w5.drew) G5'.out hb6) 1).trans rfl) | (go_at_call 71; refine (IN2.out w6 hb6).mono ?_; rintro e w7 ⟨p', S', rfl, c7, f7, P7, HB7⟩))
    all_goals (refine PostF.mk p' ?_; exact ⟨⟨S', P7⟩, HB7⟩)
   intro e a' w8 hpost; obtain ⟨rfl, ⟨p', rfl⟩, P8, HB8⟩ := PostF.out hpost; clear hpost
   have sw9 : wrap64 ((j : Int) + 1) = ((j + 1 : Nat) : Int) := by unfold wrap64; omega
   go_wp2
   go_ret
   rw [CM.out]
   exact ⟨by first | rfl | (simp only [sw9]), P8, HB8⟩
end Go.Proofs.YtnomidpnofhjdaaGreatDoor
