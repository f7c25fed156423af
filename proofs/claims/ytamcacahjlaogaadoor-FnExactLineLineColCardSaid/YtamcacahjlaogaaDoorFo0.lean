/- firstOf, unless, within: walked. No condition. -/
import Derived.WalkSpells
import Derived.WalkLawsBesides
import Derived.Deep.QuietTactic
import Derived.BigQuiet
import Derived.StillTailTactics
import Derived.Lib.Hide
import Derived.Outline
import Derived.Deep.RegionHeld3
import Derived.Test.YtamcacahjlaogaaDoorWMore
import Derived.Test.YtamcacahjlaogaaDoorEr0
namespace Go.Proofs.YtamcacahjlaogaaDoor
open Go.RowKit Go.Proofs.YtamcacahjlaogaaDoorW.PrintWords Go.Proofs.YtamcacahjlaogaaDoorW.PrintLast Go.Proofs.YtamcacahjlaogaaDoorW.PrintMore Er
abbrev EV := Option (TypeId × Value)
def ev : EV → Value | none => .nilIface | some (t, x) => .iface t x
def firstE : List EV → EV | [] => none | none :: r => firstE r | some x :: _ => some x
structure FirstAt (w : World) (vs : List EV) (R : EV) (k : Nat) (v7 : Value) (wr : World) : Prop where
 st : ∃ i : Nat, v7 = .int .i64 i ∧ i + k = vs.length ∧ firstE (vs.drop i) = R
 same : wr = w
set_option maxHeartbeats 1000000 in
set_option maxRecDepth 100000 in
theorem firstOf_any (w : World) (g : Nat) (vs : List EV) (hl : vs.length ≤ 1000) (hc : ∀ i v, vs[i]? = some v → w.cell? ⟨g, i, none⟩ = some (ev v)) :
  Calls Tryd.prog 26 #[.slice (some ⟨g, 0, none⟩) vs.length vs.length] w fun e w' => e = .returned (ev (firstE vs)) ∧ w' = w := by
 have HC := Aside0.mk hc
 have AT : Aside0 (FirstAt w vs (firstE vs) vs.length (.int .i64 0) w) := ⟨⟨⟨0, rfl, by omega, rfl⟩, rfl⟩⟩
 generalize firstE vs = R at AT
 clear hc
 go_enter Tryd.func26, Tryd.ntmps26
 go_wp2
 go_loopg [7] vs.length (fun k v7 wr => FirstAt w vs R k v7 wr)
 case atStart => exact AT.out
 case round =>
  clear AT
  obtain ⟨⟨i, rfl, hk, hR⟩, hw⟩ := hrel
  subst hw
  have HRR := Aside0.mk hR
  have HK := Aside0.mk hk
  clear hR
  by_cases ci : i < vs.length
  ·have hci := HC.out i vs[i] (by simp [ci])
   have ed : Aside0 (vs.drop i = vs[i] :: vs.drop (i + 1)) := ⟨List.drop_eq_getElem_cons ci⟩
   generalize vs[i] = v at hci ed
   cases v with
   | none =>
    simp only [ev] at hci
    go_wp2
    go_roundg (vs.length - (i + 1))
    case measure => have := HK.out; omega
    case rel =>
     refine ⟨⟨i + 1, by go_num, by have := HK.out; omega, ?_⟩, rfl⟩
     have h := HRR.out
     rw [ed.out] at h
     exact h
   | some x =>
    obtain ⟨t, x⟩ := x
    simp only [ev] at hci
    go_wp2
    go_ret
    have h := HRR.out
    rw [ed.out] at h
    subst h
    exact ⟨rfl, rfl⟩
  ·have hil : i = vs.length := by omega
   have h := HRR.out
   rw [hil, List.drop_length] at h
   subst h
   go_wp2
   go_ret
   exact ⟨rfl, rfl⟩
theorem unless_any (w : World) (b : Bool) (c : Int) : Calls Tryd.prog 27 #[.bool b, .int .i64 c] w fun e w' => e = .returned (ev (if b then none else some (84, .int .i64 c))) ∧ w' = w := by
 cases b with
 | true =>
  go_enter Tryd.func27, Tryd.ntmps27
  go_wp2
  go_ret
  exact ⟨rfl, rfl⟩
 | false =>
  go_enter Tryd.func27, Tryd.ntmps27
  go_wp2
  go_ret
  exact ⟨rfl, rfl⟩
theorem within_any (w : World) (x lo hi : Int) : Calls Tryd.prog 28 #[.int .i64 x, .int .i64 lo, .int .i64 hi] w fun e w' => e = .returned (.bool (decide (lo ≤ x ∧ x ≤ hi))) ∧ w' = w := by
 by_cases c : lo ≤ x
 ·go_enter Tryd.func28, Tryd.ntmps28
  go_wp2
  go_ret
  exact ⟨by simp [c], rfl⟩
 ·go_enter Tryd.func28, Tryd.ntmps28
  go_wp2
  go_ret
  exact ⟨by rw [decide_eq_false (by omega : ¬ lo ≤ x)]; rfl, rfl⟩
theorem errIs_ev {w : World} {v : Value} {c : Int} (h : ErrIs w v c) : ∃ T x, v = ev (some (T, x)) := by
 rcases h with rfl | ⟨pb, rfl, _⟩
 ·exact ⟨_, _, rfl⟩
 ·exact ⟨_, _, rfl⟩
theorem firstOf2 (w : World) (g : Nat) (a b : EV) (h0 : w.cell? ⟨g, 0, none⟩ = some (ev a)) (h1 : w.cell? ⟨g, 1, none⟩ = some (ev b)) :
  Calls Tryd.prog 26 #[.slice (some ⟨g, 0, none⟩) 2 2] w fun e w' => e = .returned (ev (firstE [a, b])) ∧ w' = w :=
 firstOf_any w g [a, b] (by simp) (fun i v h => by
  rcases i with _ | _ | i
  ·cases h; exact h0
  ·cases h; exact h1
  ·simp at h)
end Go.Proofs.YtamcacahjlaogaaDoor
