/- PieceOffset, walked. Conditions: at most 1048576 items and runes; errors.errorType reads as laid. -/
import Derived.Test.YtciabhncmdpeeaaDoorPs8
namespace Go.Proofs.YtciabhncmdpeeaaDoor
open Go.RowKit Go.Proofs.YtciabhncmdpeeaaDoorW.PrintWords Go.Proofs.YtciabhncmdpeeaaDoorW.PrintLast Go.Proofs.YtciabhncmdpeeaaDoorW.PrintMore Er
/-- what PieceOffset answers -/
def pieceOffsetV (T : List Int) (xs : List It) (line col : Int) : Int × Int :=
 match openV T xs with
 | none => (0, 1)
 | some t => if (0 ≤ line ∧ line ≤ kl t) ∧ (0 ≤ col ∧ col ≤ lenV T t line) then (startV T t line + col, 0) else (0, 3)
def Out2 (w : World) (r : Int × Int) (e : Ending) (w' : World) : Prop := e = .returned (.tuple #[.int .i64 r.1, .int .i64 r.2]) ∧ Below w.heap.size w w'
set_option maxHeartbeats 8000000 in
set_option maxRecDepth 100000 in
theorem pieceOffset_any (w : World) (T : List Int) (A : Option Addr) (c : Nat) (xs : List It) (B : Option Addr) (c2 : Nat) (line col : Int) (hm : xs.length ≤ 1048576) (hT : T.length ≤ 1048576) (hr : Kd.C (Kd.int .i32) w A T.length T) (hc : T.length ≤ c) (hr2 : Kd.C QBase.k54 w B xs.length xs) (hc2 : xs.length ≤ c2) (hg : HG w) :
  Calls Tryd.prog 45 #[.agg #[.slice A T.length c, .slice B xs.length c2], .int .i64 line, .int .i64 col] w (Out2 w (pieceOffsetV T xs line col)) := by
 obtain ⟨w0, e0⟩ : ∃ y, w.alloc (.cells #[.slice A T.length c, .slice B xs.length c2] 64) = y := ⟨_, rfl⟩
 have HB0 : Aside0 (Below w.heap.size w w0) := ⟨by subst e0; exact (Below.refl _ w).alloc (Nat.le_refl _) _⟩
 have HX : Aside0 (w0.heap[w.heap.size]? = some (.cells #[.slice A T.length c, .slice B xs.length c2] 64 (0, 0))) := ⟨by subst e0; exact blk_new w (.cells #[.slice A T.length c, .slice B xs.length c2] 64)⟩
 have q0 : w0.cell? ⟨w.heap.size, 0, none⟩ = some (.slice A T.length c) := (blk_cell HX.out 0).trans rfl
 have q1 : w0.cell? ⟨w.heap.size, 1, none⟩ = some (.slice B xs.length c2) := (blk_cell HX.out 1).trans rfl
 have HR := Aside0.mk (Kd.C_below hr HB0.out)
 have HR2 := Aside0.mk (Kd.C_below hr2 HB0.out)
 have HG0 := Aside0.mk hg
 clear hr hr2 hg
 go_enter Tryd.func45, Tryd.ntmps45
 go_wp2_with fail
 refine (openPieces_any w0 T A c xs B c2 hm hT HR.out hc HR2.out hc2).mono ?_
 intro e w1 hp
 obtain ⟨hb1, hp⟩ := hp
 have HB1 := Aside0.mk (below_step HB0.out hb1)
 clear hb1 q0 q1 e0
 rcases hp with ⟨t, b, S, hV, rfl, hpb, -, -, -⟩ | ⟨hV, b, v, rfl, hz, hE⟩
 ·obtain ⟨ok, -⟩ := openV_ok hV
  have HP := Aside0.mk hpb
  have OK := Aside0.mk ok
  have HV := Aside0.mk hV
  clear hV hpb ok
  have PL := placeIn_any w1 b T t S line col HP.out OK.out
  by_cases cin : (0 ≤ line ∧ line ≤ kl t) ∧ (0 ≤ col ∧ col ≤ lenV T t line)
  ·rw [if_pos cin] at PL
   have P1 := Aside0.mk PL
   have CIN := Aside0.mk cin
   clear PL cin
   go_wp2_with fail
   refine P1.out.mono ?_
   rintro e w2 ⟨rfl, hb2⟩
   have HP2 := Aside0.mk (HP.out.below hb2)
   have HB2 := Aside0.mk (below_step HB1.out hb2)
   clear hb2
   have hlen : col ≤ 1000000 := by
    have h1 := CIN.out.2.2
    have hs := OK.out.sum
    have k := allP_key t OK.out.allp
    unfold lenV at h1
    split at h1
    ·have := start_bd OK.out line CIN.out.1.1 CIN.out.1.2; omega
    ·have := start_bd OK.out line CIN.out.1.1 CIN.out.1.2
     have := start_bd OK.out (line + 1) (by have := CIN.out.1.1; omega) (by have := CIN.out.1.2; omega)
     omega
   have OF := Aside0.mk (poffset_any w2 b T t S line col HP2.out OK.out CIN.out.1.1 CIN.out.1.2 ⟨CIN.out.2.1, hlen⟩)
   clear hlen
   go_wp2_with fail
   refine OF.out.mono ?_
   rintro e w3 ⟨rfl, hb3⟩
   go_wp2
   go_ret2
   refine ⟨?_, below_step HB2.out hb3⟩
   unfold pieceOffsetV
   rw [HV.out]
   simp only
   rw [if_pos CIN.out]
   rfl
  ·rw [if_neg cin] at PL
   have P1 := Aside0.mk PL
   have CIN := Aside0.mk cin
   clear PL cin
   go_wp2_with fail
   refine P1.out.mono ?_
   rintro e w2 ⟨rfl, hb2⟩
   have HB2 := Aside0.mk (below_step HB1.out hb2)
   clear hb2
   go_wp2_with fail
   refine (codeOf_any _ 3 w2 (HG0.out.below HB2.out) (.inl rfl)).mono ?_
   rintro e w3 ⟨rfl, hb3⟩
   go_wp2
   go_ret2
   refine ⟨?_, below_step HB2.out hb3⟩
   unfold pieceOffsetV
   rw [HV.out]
   simp only
   rw [if_neg CIN.out]
   rfl
 ·obtain ⟨TT, x, rfl⟩ := errIs_ev hE
  have HE := Aside0.mk hE
  have HV := Aside0.mk hV
  clear hE hV hz
  simp only [ev]
  go_wp2_with fail
  refine (codeOf_any _ 1 w1 (HG0.out.below HB1.out) HE.out).mono ?_
  rintro e w3 ⟨rfl, hb3⟩
  go_wp2
  go_ret2
  refine ⟨?_, below_step HB1.out hb3⟩
  unfold pieceOffsetV
  rw [HV.out]
  rfl
end Go.Proofs.YtciabhncmdpeeaaDoor
