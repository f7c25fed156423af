/- A line's length, and whether a place lies in a text (lineLen, placeIn), walked. Condition: the text is a valid one. -/
import Derived.Test.YtciabhncmdpeeaaDoorPs7
namespace Go.Proofs.YtciabhncmdpeeaaDoor
open Go.RowKit Go.Proofs.YtciabhncmdpeeaaDoorW.PrintWords Go.Proofs.YtciabhncmdpeeaaDoorW.PrintLast Go.Proofs.YtciabhncmdpeeaaDoorW.PrintMore Er
/-- how long a line is -/
def lenV (T : List Int) (t : Tree) (line : Int) : Int := if line = kl t then rl t - startV T t line else startV T t (line + 1) - 1 - startV T t line
set_option maxHeartbeats 8000000 in
set_option maxRecDepth 100000 in
theorem lineLen_any (w : World) (b : Nat) (T : List Int) (t : Tree) (S : List Nat) (line : Int) (h : PB w b T t S) (ok : TxtOk T t) (h0 : 0 ≤ line) (h1 : line ≤ kl t) :
  Calls Tryd.prog 163 #[.pointer (some ⟨b, 0, none⟩), .int .i64 line] w fun e w' => e = .returned (.int .i64 (lenV T t line)) ∧ Below w.heap.size w w' := by
 have hk := allP_key t ok.allp
 have hs := ok.sum
 have b1 := start_bd ok line h0 h1
 have HP := Aside0.mk h
 have OK := Aside0.mk ok
 clear h ok
 by_cases c : line = kl t
 ·subst c
  have EV : Aside0 (lenV T t (kl t) = rl t - startV T t (kl t)) := ⟨if_pos rfl⟩
  obtain ⟨s, hs0⟩ : ∃ s, startV T t (kl t) = s := ⟨_, rfl⟩
  have ST := Aside0.mk (startP_any w b T t S (kl t) HP.out OK.out h0 h1)
  rw [hs0] at EV b1 ST
  clear hs0
  go_enter Tryd.func163, Tryd.ntmps163
  go_wp2_with fail
  refine (txtBreaks_any w b T t S HP.out OK.out.fine).mono ?_
  rintro e w' ⟨rfl, hw⟩
  rw [hw]
  clear hw w'
  go_wp2_with fail
  refine (psize_any w b T t S HP.out OK.out.fine).mono ?_
  rintro e w' ⟨rfl, hw⟩
  rw [hw]
  clear hw w'
  go_wp2_with fail
  refine ST.out.mono ?_
  rintro e w1 ⟨rfl, hb1⟩
  have HB1 := Aside0.mk hb1
  clear hb1
  go_wp2
  go_ret
  exact ⟨by rw [EV.out]; rfl, HB1.out⟩
 ·have cb : decide (line = kl t) = false := decide_eq_false c
  have b2 := start_bd OK.out (line + 1) (by omega) (by omega)
  have EV : Aside0 (lenV T t line = startV T t (line + 1) - 1 - startV T t line) := ⟨if_neg c⟩
  have S1 := Aside0.mk (startP_any w b T t S (line + 1) HP.out OK.out (by omega) (by omega))
  obtain ⟨s1, hs1⟩ : ∃ s, startV T t (line + 1) = s := ⟨_, rfl⟩
  obtain ⟨s2, hs2⟩ : ∃ s, startV T t line = s := ⟨_, rfl⟩
  rw [hs1] at EV b2 S1
  rw [hs2] at EV b1
  have HS2 := Aside0.mk hs2
  have hlt : line + 1 ≤ kl t := by omega
  clear hs1 hs2 c
  go_enter Tryd.func163, Tryd.ntmps163
  go_wp2_with fail
  refine (txtBreaks_any w b T t S HP.out OK.out.fine).mono ?_
  rintro e w' ⟨rfl, hw⟩
  rw [hw]
  clear hw w'
  go_wp2_with fail
  refine S1.out.mono ?_
  rintro e w1 ⟨rfl, hb1⟩
  have HB1 := Aside0.mk hb1
  have HP1 := Aside0.mk (HP.out.below hb1)
  clear hb1
  go_wp2_with fail
  have S2 := startP_any w1 b T t S line HP1.out OK.out h0 h1
  rw [HS2.out] at S2
  refine S2.mono ?_
  rintro e w2 ⟨rfl, hb2⟩
  have HB2 := Aside0.mk (below_step HB1.out hb2)
  clear hb2
  go_wp2
  go_ret
  exact ⟨by rw [EV.out]; rfl, HB2.out⟩
theorem meth_breaks (b : Nat) (w : World) : (method 328 110 (.pointer (some ⟨b, 0, none⟩)) "loop.example/s01685/impl.breaks").run Tryd.prog w = .ok (117, .pointer (some ⟨b, 0, none⟩)) w := by kernel_rfl
theorem meth_lineLen (b : Nat) (w : World) : (method 328 110 (.pointer (some ⟨b, 0, none⟩)) "loop.example/s01685/impl.lineLen").run Tryd.prog w = .ok (163, .pointer (some ⟨b, 0, none⟩)) w := by kernel_rfl
attribute [local go_sem] meth_breaks meth_lineLen
set_option maxHeartbeats 8000000 in
set_option maxRecDepth 100000 in
theorem placeIn_any (w : World) (b : Nat) (T : List Int) (t : Tree) (S : List Nat) (line col : Int) (h : PB w b T t S) (ok : TxtOk T t) :
  Calls Tryd.prog 91 #[.iface 110 (.pointer (some ⟨b, 0, none⟩)), .int .i64 line, .int .i64 col] w fun e w' => e = .returned (if (0 ≤ line ∧ line ≤ kl t) ∧ (0 ≤ col ∧ col ≤ lenV T t line) then .nilIface else .iface 129 (.int .i64 3)) ∧ Below w.heap.size w w' := by
 have HP := Aside0.mk h
 have OK := Aside0.mk ok
 clear h ok
 by_cases c : 0 ≤ line ∧ line ≤ kl t
 ·have LL := Aside0.mk (lineLen_any w b T t S line HP.out OK.out c.1 c.2)
  obtain ⟨ln, hln⟩ : ∃ ln, lenV T t line = ln := ⟨_, rfl⟩
  rw [hln] at LL ⊢
  obtain ⟨V, hV⟩ : ∃ V : Value, (if (0 ≤ line ∧ line ≤ kl t) ∧ (0 ≤ col ∧ col ≤ ln) then Value.nilIface else .iface 129 (.int .i64 3)) = V := ⟨_, rfl⟩
  rw [hV]
  have HV := Aside0.mk hV
  clear hV
  have hw := within_any w line 0 (kl t)
  rw [decide_eq_true c] at hw
  have WI := Aside0.mk hw
  have C := Aside0.mk c
  clear hw hln c
  go_enter Tryd.func91, Tryd.ntmps91
  go_wp2_with fail
  refine (txtBreaks_any w b T t S HP.out OK.out.fine).mono ?_
  rintro e w' ⟨rfl, hw⟩
  rw [hw]
  clear hw w'
  go_wp2_with fail
  refine WI.out.mono ?_
  rintro e w' ⟨rfl, hw⟩
  rw [hw]
  clear hw w'
  go_wp2_with fail
  refine LL.out.mono ?_
  rintro e w1 ⟨rfl, hb1⟩
  have HB1 := Aside0.mk hb1
  clear hb1
  go_wp2_with fail
  by_cases cc : 0 ≤ col ∧ col ≤ ln
  ·have hw := within_any w1 col 0 ln
   rw [decide_eq_true cc] at hw
   refine hw.mono ?_
   clear hw
   rintro e w' ⟨rfl, hw⟩
   rw [hw]
   clear hw w'
   have CC := Aside0.mk cc
   clear cc
   go_wp2_with fail
   refine (unless_t w1 3).mono ?_
   rintro e w' ⟨rfl, hw⟩
   rw [hw]
   clear hw w'
   go_wp2
   go_ret
   exact ⟨by rw [← HV.out, if_pos ⟨C.out, CC.out⟩]; rfl, HB1.out⟩
  ·have hw := within_any w1 col 0 ln
   rw [decide_eq_false cc] at hw
   refine hw.mono ?_
   clear hw
   rintro e w' ⟨rfl, hw⟩
   rw [hw]
   clear hw w'
   have CC := Aside0.mk cc
   clear cc
   go_wp2_with fail
   refine (unless_f w1 3).mono ?_
   rintro e w' ⟨rfl, hw⟩
   rw [hw]
   clear hw w'
   go_wp2
   go_ret
   exact ⟨by rw [← HV.out, if_neg (fun h => CC.out h.2)]; rfl, HB1.out⟩
 ·have hw := within_any w line 0 (kl t)
  rw [decide_eq_false c] at hw
  have WI := Aside0.mk hw
  rw [if_neg (fun h => c h.1)]
  clear hw c
  go_enter Tryd.func91, Tryd.ntmps91
  go_wp2_with fail
  refine (txtBreaks_any w b T t S HP.out OK.out.fine).mono ?_
  rintro e w' ⟨rfl, hw⟩
  rw [hw]
  clear hw w'
  go_wp2_with fail
  refine WI.out.mono ?_
  rintro e w' ⟨rfl, hw⟩
  rw [hw]
  clear hw w'
  go_wp2_with fail
  refine (unless_f w 3).mono ?_
  rintro e w' ⟨rfl, hw⟩
  rw [hw]
  clear hw w'
  go_wp2
  go_ret
  exact ⟨rfl, Below.refl _ _⟩
set_option maxHeartbeats 4000000 in
set_option maxRecDepth 100000 in
theorem poffset_any (w : World) (b : Nat) (T : List Int) (t : Tree) (S : List Nat) (line col : Int) (h : PB w b T t S) (ok : TxtOk T t) (h0 : 0 ≤ line) (h1 : line ≤ kl t) (hc : 0 ≤ col ∧ col ≤ 1000000) :
  Calls Tryd.prog 92 #[.pointer (some ⟨b, 0, none⟩), .int .i64 line, .int .i64 col] w fun e w' => e = .returned (.int .i64 (startV T t line + col)) ∧ Below w.heap.size w w' := by
 have b1 := start_bd ok line h0 h1
 have hs := ok.sum
 have ST := startP_any w b T t S line h ok h0 h1
 obtain ⟨s, hs0⟩ : ∃ s, startV T t line = s := ⟨_, rfl⟩
 rw [hs0] at ST b1 ⊢
 have S1 := Aside0.mk ST
 clear ST hs0 h ok
 go_enter Tryd.func92, Tryd.ntmps92
 go_wp2_with fail
 refine S1.out.mono ?_
 rintro e w1 ⟨rfl, hb1⟩
 have HB1 := Aside0.mk hb1
 clear hb1
 go_wp2
 go_ret
 exact ⟨rfl, HB1.out⟩
end Go.Proofs.YtciabhncmdpeeaaDoor
