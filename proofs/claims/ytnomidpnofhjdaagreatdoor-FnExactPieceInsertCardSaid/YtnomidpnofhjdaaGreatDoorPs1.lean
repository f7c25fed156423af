/- openPieces, walked: what the program makes of a text of pieces that came in. Condition: at most 1048576 items and runes. -/
import Derived.Test.YtnomidpnofhjdaaGreatDoorPs0
import Derived.Test.YtnomidpnofhjdaaGreatDoorHk
import Derived.BigQuiet
import Derived.Deep.QuietTactic
namespace Go.Proofs.YtnomidpnofhjdaaGreatDoor
open Go.RowKit Go.Proofs.YtnomidpnofhjdaaGreatDoorW.PrintWords Go.Proofs.YtnomidpnofhjdaaGreatDoorW.PrintLast Go.Proofs.YtnomidpnofhjdaaGreatDoorW.PrintMore Er
def okPc (T : List Int) (x : It) : Prop := x.f0.f0 + x.f0.f1 ≤ (T.length : Int) ∧ x.f0.f2 = nl ((T.take (x.f0.f0 + x.f0.f1).toNat).drop x.f0.f0.toNat)
instance (T : List Int) (x : It) : Decidable (okPc T x) := by unfold okPc; infer_instance
def OkPcs (T : List Int) (xs : List It) : Prop := ∀ x ∈ xs, okPc T x
instance (T : List Int) (xs : List It) : Decidable (OkPcs T xs) := by unfold OkPcs; infer_instance
def openV (T : List Int) (xs : List It) : Option Tree := if T.length ≤ 220000 ∧ OkPcs T xs then grownV xs else none
def OpenPost (w : World) (T : List Int) (xs : List It) (e : Ending) (w' : World) : Prop :=
 Below w.heap.size w w' ∧
  ((∃ t b S, openV T xs = some t ∧ e = .returned (.tuple #[.pointer (some ⟨b, 0, none⟩), .nilIface]) ∧ PB w' b T t S ∧ S.Nodup ∧ w.heap.size ≤ b ∧ (∀ k ∈ S, w.heap.size ≤ k ∧ k ≠ b) ∧ ∃ v p, w'.heap[b]? = some (.cells #[v, ptrV p] 69 (0, 0)) ∧ Kd.R (Kd.int .i32) 21 w' w.heap.size (fun _ => True) v T ∧ Rep w' t p S) ∨
   (openV T xs = none ∧ ∃ b v, e = .returned (.tuple #[.pointer (some ⟨b, 0, none⟩), v]) ∧ w'.heap[b]? = some (.cells #[.slice none 0 0, .pointer none] 69 (0, 0)) ∧ ErrIs w' v 1))
theorem OpenPost.bad {w w1 : World} {T : List Int} {xs : List It} {v : Value} (hb : Below w.heap.size w w1) (hv : openV T xs = none) (he : ErrIs w1 v 1) :
  OpenPost w T xs (.returned (.tuple #[.pointer (some ⟨w1.heap.size, 0, none⟩), v])) (w1.alloc (.cells #[.slice none 0 0, .pointer none] 69)) :=
 ⟨hb.alloc hb.size _, .inr ⟨hv, w1.heap.size, v, rfl, blk_new w1 _, he.below ((Below.refl _ w1).alloc (Nat.le_refl _) _)⟩⟩
structure OpenAt (w3 : World) (T : List Int) (xs : List It) (k : Nat) (v36 : Value) (wr : World) : Prop where
 st : ∃ i : Nat, v36 = .int .i64 i ∧ i + k = xs.length ∧ OkPcs T (xs.take i)
 bel : TSt w3 wr
attribute [local go_sem high] pcEq
set_option maxHeartbeats 8000000 in
set_option maxRecDepth 100000 in
theorem openPieces_any (w : World) (T : List Int) (A : Option Addr) (c : Nat) (xs : List It) (B : Option Addr) (c2 : Nat) (hm : xs.length ≤ 1048576) (hT : T.length ≤ 1048576) (hr : Kd.C (Kd.int .i32) w A T.length T) (hc : T.length ≤ c) (hr2 : Kd.C QBase.k86 w B xs.length xs) (hc2 : xs.length ≤ c2) :
  Calls Tryz.prog 31 #[.agg #[.slice A T.length c, .slice B xs.length c2]] w (OpenPost w T xs) := by
 obtain ⟨w0, e0⟩ : ∃ y, w.alloc (.cells #[.slice A T.length c, .slice B xs.length c2] 33) = y := ⟨_, rfl⟩
 have HB0 : Aside0 (Below w.heap.size w w0) := ⟨by subst e0; exact (Below.refl _ w).alloc (Nat.le_refl _) _⟩
 have HX : Aside0 (w0.heap[w.heap.size]? = some (.cells #[.slice A T.length c, .slice B xs.length c2] 33 (0, 0))) := ⟨by subst e0; exact blk_new w (.cells #[.slice A T.length c, .slice B xs.length c2] 33)⟩
 have q0 : w0.cell? ⟨w.heap.size, 0, none⟩ = some (.slice A T.length c) := (blk_cell HX.out 0).trans rfl
 have q1 : w0.cell? ⟨w.heap.size, 1, none⟩ = some (.slice B xs.length c2) := (blk_cell HX.out 1).trans rfl
 have HR := Aside0.mk (Kd.C_below hr HB0.out)
 have HR2 := Aside0.mk (Kd.C_below hr2 HB0.out)
 have HC := Aside0.mk hc
 have HC2 := Aside0.mk hc2
 have HM := Aside0.mk hm
 have HT := Aside0.mk hT
 clear hr hr2 hc hc2 hm hT
 go_enter Tryz.func31, Tryz.ntmps31
 go_wp2_with fail
 refine (grown_any w0 xs B c2 HM.out HR2.out HC2.out).mono ?_
 intro e w1 hp
 obtain ⟨hb1, hp⟩ := hp
 have HB1 := Aside0.mk (below_step HB0.out hb1)
 have HR1 := Aside0.mk (Kd.C_below HR.out hb1)
 have HR21 := Aside0.mk (Kd.C_below HR2.out hb1)
 have HX1 := Aside0.mk (blk_below HX.out hb1)
 have HSZ := Aside0.mk HB0.out.size
 clear hb1 q0 q1 e0 HR HR2 HX HB0
 have q0 : w1.cell? ⟨w.heap.size, 0, none⟩ = some (.slice A T.length c) := (blk_cell HX1.out 0).trans rfl
 have q1 : w1.cell? ⟨w.heap.size, 1, none⟩ = some (.slice B xs.length c2) := (blk_cell HX1.out 1).trans rfl
 rcases hp with ⟨t, p, S, hV, rfl, hrep, hnd, hS⟩ | ⟨hV, p, s, v, rfl, hsum, hE⟩
 ·have HP := Aside0.mk hrep
  have HV := Aside0.mk hV
  have HND := Aside0.mk hnd
  have HS := Aside0.mk hS
  have HLT := Aside0.mk (fun k (hk : k ∈ S) => hrep.lt k hk)
  clear hV hrep hS hnd
  by_cases ct : (220000 : Int) < (T.length : Int)
  ·have CT := Aside0.mk ct
   have ctb : decide ((220000 : Int) < (T.length : Int)) = true := decide_eq_true ct
   go_wp2
   go_ret2
   exact OpenPost.bad HB1.out (by unfold openV; rw [if_neg (fun h => by have := h.1; have := CT.out; omega)]) (.inl rfl)
  ·have CT := Aside0.mk ct
   have ctb : decide ((220000 : Int) < (T.length : Int)) = false := decide_eq_false ct
   go_wp2_with (first
    | ((with_reducible refine gate_builtin (b := .append) (xs := #[.const (.slice none 0 0), .tmp 27]) rfl ?_); at_builtin; refine app_nil .i32 (fun _ => True) rfl (.const (.slice none 0 0)) (.tmp 27) 22 21 (.int .i32 0) 4 rfl Tryz.underlying22 info32 rfl (by decide) rfl T A T.length c rfl rfl HR1.out (fun _ _ => trivial) (by have := HT.out; omega) ?_; intro v1 w2 ho hb2; obtain ⟨A2, c2', eo⟩ := Kd.R_slice ho; subst eo; have HO2 := Aside0.mk ho; have HB2 := Aside0.mk (below_step HB1.out hb2); have HX2 := Aside0.mk (blk_below HX1.out hb2); have HR22 := Aside0.mk (Kd.C_below HR21.out hb2); have HP2 := Aside0.mk (HP.out.below hb2); have hle2 := Aside0.mk hb2.size; clear hb2 ho q0 q1 HX1 HR21 HP HR1)
    | ((with_reducible refine gate_dst (N := 31) rfl ?_); refine box_event ?hg (N := 31) ?hd (cs := #[.slice A2 T.length c2', ptrV p]) (t := 69) ?hr ?_; (case hd => rfl); (case hg => rfl); (case hr => first | (go_simp; done) | (go_simp; rfl)); intro gbp hgp w3 hbox hb; have HB3 := Aside0.mk (below_step HB2.out hb); have BX := Aside0.mk hbox; have HX3 := Aside0.mk (blk_below HX2.out hb); have HR3 := Aside0.mk (Kd.C_below HR22.out hb); have HP3 := Aside0.mk (HP2.out.below hb); have HO3 := Aside0.mk (Kd.C_below (Kd.R_reads' HO2.out).2.2 hb); have HOR3 := Aside0.mk (Kd.R_below HO2.out hb); have HC3 := Aside0.mk (Kd.R_reads' HO2.out).2.1; have HG3 := Aside0.mk hgp; have hle3 := Aside0.mk hb.size; clear hb hbox hgp HX2 HR22 HP2; have q0 : w3.cell? ⟨w.heap.size, 0, none⟩ = some (.slice A T.length c) := (blk_cell HX3.out 0).trans rfl; have q1 : w3.cell? ⟨w.heap.size, 1, none⟩ = some (.slice B xs.length c2) := (blk_cell HX3.out 1).trans rfl))
   have AT : Aside0 (OpenAt w3 T xs xs.length (.int .i64 0) w3) := ⟨⟨⟨0, rfl, by omega, by simp [OkPcs]⟩, ⟨Below.refl _ _⟩⟩⟩
   have AG := Aside0.mk (grownV_toL HV.out)
   go_loopg [36] xs.length (fun k v36 wr => OpenAt w3 T xs k v36 wr)
   case atStart => exact AT.out
   case round =>
    clear AT
    obtain ⟨⟨i, rfl, hk, hg⟩, hB⟩ := hrel
    have HBR := Aside0.mk hB
    have HK := Aside0.mk hk
    have HG := Aside0.mk hg
    have q2 := hB.keep q0
    clear hB hk hg
    by_cases ci : i < xs.length
    ·obtain ⟨ad, ea, hx0, hx1, hx2, hx3⟩ := QBase.at_T86 HR3.out (i : Int) (by omega) (by omega)
     cases ea
     simp only [Int.toNat_natCast] at hx0 hx1 hx2 hx3
     replace hx0 := HBR.out.keep hx0
     replace hx1 := HBR.out.keep hx1
     replace hx2 := HBR.out.keep hx2
     replace hx3 := HBR.out.keep hx3
     have ED := Aside0.mk (show xs.take (i + 1) = xs.take i ++ [QBase.rd_T86 xs (i : Int)] by
      rw [List.take_succ_eq_append_getElem ci]; unfold QBase.rd_T86; simp [List.getD, ci])
     have MEM := Aside0.mk (show QBase.rd_T86 xs (i : Int) ∈ xs by
      have e : QBase.rd_T86 xs (i : Int) = xs[i] := by unfold QBase.rd_T86; simp [List.getD, ci]
      rw [e]; exact List.getElem_mem _)
     generalize QBase.rd_T86 xs (i : Int) = x at ED MEM hx0 hx1 hx2 hx3
     have GD := Aside0.mk (AG.out.2.2.2.2.1 x MEM.out)
     go_wp2_with (first
      | ((with_reducible refine gate_dst (N := 8) rfl ?_); refine box_event ?hg (N := 8) ?hd (cs := #[.int .i64 0, .int .i64 0, .int .i64 0, .int .i64 0]) (t := 86) ?hr ?_; (case hd => rfl); (case hg => rfl); (case hr => first | (go_simp; done) | (go_simp; rfl)); intro gb hgb w5 hbox hb; have TS5 := Aside0.mk (HBR.out.below hb); have GE := Aside0.mk (by rw [hgb]; exact HBR.out.bel.size : w3.heap.size ≤ gb); have hz0 : w5.cell? ⟨gb, 0, none⟩ = some (.int .i64 0) := (blk_cell hbox 0).trans rfl; have hz1 : w5.cell? ⟨gb, 1, none⟩ = some (.int .i64 0) := (blk_cell hbox 1).trans rfl; have hz2 : w5.cell? ⟨gb, 2, none⟩ = some (.int .i64 0) := (blk_cell hbox 2).trans rfl; have hz3 : w5.cell? ⟨gb, 3, none⟩ = some (.int .i64 0) := (blk_cell hbox 3).trans rfl; have hf0 := blk_frozen hbox 0; have hf1 := blk_frozen hbox 1; have hf2 := blk_frozen hbox 2; have hf3 := blk_frozen hbox 3; have BK := Aside0.mk hbox; clear hb hbox hgb)
      | ((with_reducible refine gate_dst (N := 9) rfl ?_); refine box_event ?hg (N := 9) ?hd (cs := #[.int .i64 0, .int .i64 0, .int .i64 0]) (t := 84) ?hr ?_; (case hd => rfl); (case hg => rfl); (case hr => first | (go_simp; done) | (go_simp; rfl)); intro gb9 hgb9 w7 hbox9 hb9; have TS7 : Aside0 (TSt w3 w7) := ⟨⟨below_step (below_set (below_set (below_set (below_set TS5.out.bel GE.out) GE.out) GE.out) GE.out) hb9⟩⟩; have GE9 := Aside0.mk (by rw [hgb9]; exact (below_set (below_set (below_set (below_set TS5.out.bel GE.out) GE.out) GE.out) GE.out).size : w3.heap.size ≤ gb9); have hy0 : w7.cell? ⟨gb9, 0, none⟩ = some (.int .i64 0) := (blk_cell hbox9 0).trans rfl; have hy1 : w7.cell? ⟨gb9, 1, none⟩ = some (.int .i64 0) := (blk_cell hbox9 1).trans rfl; have hy2 : w7.cell? ⟨gb9, 2, none⟩ = some (.int .i64 0) := (blk_cell hbox9 2).trans rfl; have hh0 := blk_frozen hbox9 0; have hh1 := blk_frozen hbox9 1; have hh2 := blk_frozen hbox9 2; have BK9 := Aside0.mk hbox9; clear hb9 hbox9 hgb9))
     obtain ⟨w8, e8⟩ : ∃ y, ((w7.setCell ⟨gb9, 0, none⟩ (.int .i64 x.f0.f0)).setCell ⟨gb9, 1, none⟩ (.int .i64 x.f0.f1)).setCell ⟨gb9, 2, none⟩ (.int .i64 x.f0.f2) = y := ⟨_, rfl⟩
     have TS8 : Aside0 (TSt w3 w8) := ⟨⟨by subst e8; exact below_set (below_set (below_set TS7.out.bel GE9.out) GE9.out) GE9.out⟩⟩
     have BK8 : Aside0 (w8.heap[gb9]? = some (.cells #[.int .i64 x.f0.f0, .int .i64 x.f0.f1, .int .i64 x.f0.f2] 84 (0, 0))) := ⟨by subst e8; exact blk_put (blk_put (blk_put BK9.out 0 _ rfl) 1 _ rfl) 2 _ rfl⟩
     rw [e8]
     clear e8 hy0 hy1 hy2 hh0 hh1 hh2 BK9 hz0 hz1 hz2 hz3 hf0 hf1 hf2 hf3 BK TS5 TS7 hx0 hx1 hx2 hx3 q2
     have p0 : w8.cell? ⟨gb9, 0, none⟩ = some (.int .i64 x.f0.f0) := (blk_cell BK8.out 0).trans rfl
     have p1 : w8.cell? ⟨gb9, 1, none⟩ = some (.int .i64 x.f0.f1) := (blk_cell BK8.out 1).trans rfl
     have p2 : w8.cell? ⟨gb9, 2, none⟩ = some (.int .i64 x.f0.f2) := (blk_cell BK8.out 2).trans rfl
     have p3 := TS8.out.keep q0
     have ts8 : TSt w8 w8 := ⟨Below.refl _ _⟩
     obtain ⟨sm, HSM⟩ : ∃ sm : Int, Aside0 (IntKind.i64.wrap (x.f0.f0 + x.f0.f1) = sm) := ⟨_, ⟨rfl⟩⟩
     have hsm := HSM.out
     by_cases cl : (T.length : Int) < sm
     ·have clb : decide ((T.length : Int) < sm) = true := decide_eq_true cl
      have CL := Aside0.mk cl
      clear cl
      go_quiet (fail)
      go_wp2
      go_ret2
      refine OpenPost.bad (w1 := w8.drewN _) (pw_below_drewN (below_step HB3.out TS8.out.bel) _) ?_ (.inl rfl)
      unfold openV
      rw [if_neg]
      intro h
      have h1 := h.2 x MEM.out
      have hgd := GD.out
      unfold goodP at hgd
      unfold okPc at h1
      have esm : sm = x.f0.f0 + x.f0.f1 := by rw [← HSM.out, IntKind.wrap_i64]; omega
      have := CL.out
      omega
     ·have clb : decide ((T.length : Int) < sm) = false := decide_eq_false cl
      have CL := Aside0.mk cl
      clear cl
      have hgd := GD.out
      unfold goodP at hgd
      have esm : sm = x.f0.f0 + x.f0.f1 := by rw [← HSM.out, IntKind.wrap_i64]; omega
      have hct : x.f0.f0 + x.f0.f1 ≤ (T.length : Int) := by have := CL.out; omega
      have PA : Aside0 (∀ W : World, TSt w8 W → Calls Tryz.prog 64 #[.pointer (some ⟨gbp, 0, none⟩), .int .i64 x.f0.f0, .int .i64 x.f0.f1] W fun e w' => e = .returned (.agg #[.int .i64 x.f0.f0, .int .i64 x.f0.f1, .int .i64 (nl ((T.take (x.f0.f0 + x.f0.f1).toNat).drop x.f0.f0.toNat))]) ∧ Below W.heap.size W w') := ⟨fun W hW => by
       have hb := below_step TS8.out.bel hW.bel
       have h := piece_any W gbp A2 c2' T (ptrV p) x.f0.f0.toNat x.f0.f1.toNat (blk_below BX.out hb) (Kd.C_below HO3.out hb) HC3.out (by omega) (by have := HT.out; omega)
       rw [show ((x.f0.f0.toNat : Nat) : Int) = x.f0.f0 by omega, show ((x.f0.f1.toNat : Nat) : Int) = x.f0.f1 by omega, show x.f0.f0.toNat + x.f0.f1.toNat = (x.f0.f0 + x.f0.f1).toNat by omega] at h
       exact h⟩
      have HCT := Aside0.mk hct
      obtain ⟨bb, HBB⟩ : ∃ bb : Int, Aside0 (nl ((T.take (x.f0.f0 + x.f0.f1).toNat).drop x.f0.f0.toNat) = bb) := ⟨_, ⟨rfl⟩⟩
      rw [HBB.out] at PA
      clear hgd esm hct
      by_cases cb : x.f0.f2 = bb
      ·have cbb : (x.f0.f2 == bb) = true := by simp [cb]
       have CB := Aside0.mk cb
       clear cb
       go_region_held3 (fun w' => w'.cell? ⟨gb9, 0, none⟩ = some (.int .i64 x.f0.f0) ∧ w'.cell? ⟨gb9, 1, none⟩ = some (.int .i64 x.f0.f1) ∧ w'.cell? ⟨gb9, 2, none⟩ = some (.int .i64 x.f0.f2) ∧ w'.cell? ⟨w.heap.size, 0, none⟩ = some (.slice A T.length c) ∧ TSt w8 w')
        (first | (refine (fun (y : TSt w8 _) => ⟨y.keep p0, y.keep p1, y.keep p2, y.keep p3, y⟩) ?_; repeat (first | assumption | (with_reducible apply TSt.drew) | (with_reducible apply TSt.alloc))))
        (first
         | (go_at_call 64; (with_reducible refine (PA.out _ (by first | assumption | exact TSt.drew (by assumption) | exact TSt.alloc (by assumption))).mono ?_); rintro e w' ⟨rfl, hb⟩; have ts9 := TSt.below (w := w8) (by first | assumption | exact TSt.drew (by assumption) | exact TSt.alloc (by assumption)) hb))
       go_wp2
       go_roundg (xs.length - (i + 1))
       case measure => have := HK.out; omega
       case rel =>
        have hmm := HM.out
        refine ⟨⟨i + 1, by rw [show wrap64 ((i : Int) + 1) = ((i + 1 : Nat) : Int) by unfold wrap64; omega], by have := HK.out; omega, ?_⟩, ⟨below_step TS8.out.bel ts9.bel⟩⟩
        rw [ED.out]
        intro y hy
        rcases List.mem_append.1 hy with hy | hy
        ·exact HG.out y hy
        ·rw [List.mem_singleton.1 hy]
         exact ⟨HCT.out, by rw [HBB.out]; exact CB.out⟩
      ·have cbb : (x.f0.f2 == bb) = false := by simp [cb]
       have CB := Aside0.mk cb
       clear cb
       go_region_held3 (fun w' => w'.cell? ⟨gb9, 0, none⟩ = some (.int .i64 x.f0.f0) ∧ w'.cell? ⟨gb9, 1, none⟩ = some (.int .i64 x.f0.f1) ∧ w'.cell? ⟨gb9, 2, none⟩ = some (.int .i64 x.f0.f2) ∧ w'.cell? ⟨w.heap.size, 0, none⟩ = some (.slice A T.length c) ∧ TSt w8 w')
        (first | (refine (fun (y : TSt w8 _) => ⟨y.keep p0, y.keep p1, y.keep p2, y.keep p3, y⟩) ?_; repeat (first | assumption | (with_reducible apply TSt.drew) | (with_reducible apply TSt.alloc))))
        (first
         | (go_at_call 64; (with_reducible refine (PA.out _ (by first | assumption | exact TSt.drew (by assumption) | exact TSt.alloc (by assumption))).mono ?_); rintro e w' ⟨rfl, hb⟩; have ts9 := TSt.below (w := w8) (by first | assumption | exact TSt.drew (by assumption) | exact TSt.alloc (by assumption)) hb))
       go_wp2
       go_ret2
       refine OpenPost.bad (below_step HB3.out (below_step TS8.out.bel ts9.bel)) ?_ (.inl rfl)
       unfold openV
       rw [if_neg]
       intro h
       have h1 := h.2 x MEM.out
       unfold okPc at h1
       rw [HBB.out] at h1
       exact CB.out h1.2
    ·have hil : i = xs.length := by have := HK.out; omega
     go_wp2
     go_ret2
     have hgx := HG.out
     rw [hil, List.take_length] at hgx
     refine ⟨below_step HB3.out HBR.out.bel, .inl ⟨t, gbp, S, ?_, rfl, ⟨A2, c2', p, blk_below BX.out HBR.out.bel, Kd.C_below HO3.out HBR.out.bel, HC3.out, HP3.out.below HBR.out.bel⟩, HND.out, ?_, fun k hk => ⟨?_, ?_⟩, .slice A2 T.length c2', p, blk_below BX.out HBR.out.bel, Kd.R_lower (Kd.R_below HOR3.out HBR.out.bel) HB1.out.size, HP3.out.below HBR.out.bel⟩⟩
     ·unfold openV
      rw [if_pos ⟨by have := CT.out; omega, hgx⟩]
      exact HV.out
     ·rw [HG3.out]; exact HB2.out.size
     ·have := HS.out k hk; have := HSZ.out; omega
     ·have := HLT.out k hk; have := hle2.out; have := HG3.out; omega
 ·obtain ⟨TT, x, rfl⟩ := errIs_ev hE
  have HE := Aside0.mk hE
  have HV := Aside0.mk hV
  clear hE hV hsum
  simp only [ev]
  have hno : openV T xs = none := by unfold openV; split <;> first | exact HV.out | rfl
  have HN := Aside0.mk hno
  clear hno
  by_cases ct : (220000 : Int) < (T.length : Int)
  ·have ctb : decide ((220000 : Int) < (T.length : Int)) = true := decide_eq_true ct
   clear ct
   go_wp2
   go_ret2
   exact OpenPost.bad HB1.out HN.out (.inl rfl)
  ·have ctb : decide ((220000 : Int) < (T.length : Int)) = false := decide_eq_false ct
   clear ct
   go_wp2
   go_ret2
   exact OpenPost.bad HB1.out HN.out HE.out
end Go.Proofs.YtnomidpnofhjdaaGreatDoor
