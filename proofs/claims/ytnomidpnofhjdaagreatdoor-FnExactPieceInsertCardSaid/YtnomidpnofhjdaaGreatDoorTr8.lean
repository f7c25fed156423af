/- firstOf, unless, within, goodPiece: walked, or told plainly. No condition. -/
import Derived.Test.YtnomidpnofhjdaaGreatDoorTr7
namespace Go.Proofs.YtnomidpnofhjdaaGreatDoor
open Go.RowKit Go.Proofs.YtnomidpnofhjdaaGreatDoorW.PrintWords Go.Proofs.YtnomidpnofhjdaaGreatDoorW.PrintLast Go.Proofs.YtnomidpnofhjdaaGreatDoorW.PrintMore
abbrev EV := Option (TypeId × Value)
def ev : EV → Value | none => .nilIface | some (t, x) => .iface t x
def firstE : List EV → EV | [] => none | none :: r => firstE r | some x :: _ => some x
structure FirstAt (w : World) (vs : List EV) (R : EV) (k : Nat) (v7 : Value) (wr : World) : Prop where
 st : ∃ i : Nat, v7 = .int .i64 i ∧ i + k = vs.length ∧ firstE (vs.drop i) = R
 same : wr = w
set_option maxHeartbeats 1000000 in
set_option maxRecDepth 100000 in
theorem firstOf_any (w : World) (g : Nat) (vs : List EV) (hl : vs.length ≤ 1000) (hc : ∀ i v, vs[i]? = some v → w.cell? ⟨g, i, none⟩ = some (ev v)) :
  Calls Tryz.prog 32 #[.slice (some ⟨g, 0, none⟩) vs.length vs.length] w fun e w' => e = .returned (ev (firstE vs)) ∧ w' = w := by
 have HC := Aside0.mk hc
 have AT : Aside0 (FirstAt w vs (firstE vs) vs.length (.int .i64 0) w) := ⟨⟨⟨0, rfl, by omega, rfl⟩, rfl⟩⟩
 generalize firstE vs = R at AT
 clear hc
 go_enter Tryz.func32, Tryz.ntmps32
 go_wp2
 go_loopg [7] vs.length (fun k v7 wr => FirstAt w vs R k v7 wr)
 case atStart => exact AT.out
 case round =>
  clear AT
  obtain ⟨⟨i, rfl, hk, hR⟩, hw⟩ := hrel
  subst hw
  have HRR := Aside0.mk hR
  have HK := Aside0.mk hk
  clear hR
  by_cases ci : i < vs.length
  ·have hci := HC.out i vs[i] (by simp [ci])
   have ed : Aside0 (vs.drop i = vs[i] :: vs.drop (i + 1)) := ⟨List.drop_eq_getElem_cons ci⟩
   generalize vs[i] = v at hci ed
   cases v with
   | none =>
    simp only [ev] at hci
    go_wp2
    go_roundg (vs.length - (i + 1))
    case measure => have := HK.out; omega
    case rel =>
     refine ⟨⟨i + 1, by go_num, by have := HK.out; omega, ?_⟩, rfl⟩
     have h := HRR.out
     rw [ed.out] at h
     exact h
   | some x =>
    obtain ⟨t, x⟩ := x
    simp only [ev] at hci
    go_wp2
    go_ret
    have h := HRR.out
    rw [ed.out] at h
    subst h
    exact ⟨rfl, rfl⟩
  ·have hil : i = vs.length := by omega
   have h := HRR.out
   rw [hil, List.drop_length] at h
   subst h
   go_wp2
   go_ret
   exact ⟨rfl, rfl⟩
theorem unless_any (w : World) (b : Bool) (c : Int) : Calls Tryz.prog 33 #[.bool b, .int .i64 c] w fun e w' => e = .returned (ev (if b then none else some (98, .int .i64 c))) ∧ w' = w := by
 cases b with
 | true =>
  go_enter Tryz.func33, Tryz.ntmps33
  go_wp2
  go_ret
  exact ⟨rfl, rfl⟩
 | false =>
  go_enter Tryz.func33, Tryz.ntmps33
  go_wp2
  go_ret
  exact ⟨rfl, rfl⟩
theorem within_any (w : World) (x lo hi : Int) : Calls Tryz.prog 34 #[.int .i64 x, .int .i64 lo, .int .i64 hi] w fun e w' => e = .returned (.bool (decide (lo ≤ x ∧ x ≤ hi))) ∧ w' = w := by
 by_cases c : lo ≤ x
 ·go_enter Tryz.func34, Tryz.ntmps34
  go_wp2
  go_ret
  exact ⟨by simp [c], rfl⟩
 ·go_enter Tryz.func34, Tryz.ntmps34
  go_wp2
  go_ret
  exact ⟨by rw [decide_eq_false (by omega : ¬ lo ≤ x)]; rfl, rfl⟩
def goodP (x : It) : Prop := 0 ≤ x.f0.f0 ∧ x.f0.f0 ≤ 220000 ∧ 1 ≤ x.f0.f1 ∧ x.f0.f1 ≤ 8192 ∧ x.f0.f0 + x.f0.f1 ≤ 220000 ∧ 0 ≤ x.f0.f2 ∧ x.f0.f2 ≤ x.f0.f1
instance (x : It) : Decidable (goodP x) := by unfold goodP; infer_instance
theorem goodPiece_is (x : It) : QBase.impl_goodPiece.f x.f0.f0 x.f0.f1 x.f0.f2 = some (decide (goodP x)) := by
 have hw : ∀ a b c : Int, QBase.impl_within_int.f a b c = some (decide (b ≤ a ∧ a ≤ c)) := by
  intro a b c; unfold QBase.impl_within_int.f
  by_cases h : b ≤ a
  ·rw [if_pos h]; exact congrArg some (decide_eq_decide.2 (by omega))
  ·rw [if_neg h]; exact congrArg some (decide_eq_false (fun k => h k.1)).symm
 unfold QBase.impl_goodPiece.f
 simp only [hw, Option.bind_some]
 have no : ¬ goodP x → some false = some (decide (goodP x)) := fun h => congrArg some (decide_eq_false h).symm
 by_cases c1 : x.f0.f0 = 0 ∧ x.f0.f1 = 0 ∧ x.f0.f2 = 0
 ·rw [if_neg (by simp [c1])]
  exact no (fun h => by unfold goodP at h; omega)
 ·rw [if_pos (by simp; omega)]
  by_cases c2 : 0 ≤ x.f0.f0 ∧ x.f0.f0 ≤ 220000
  ·rw [if_pos (by simpa using c2)]
   by_cases c3 : 1 ≤ x.f0.f1 ∧ x.f0.f1 ≤ 8192
   ·rw [if_pos (by simpa using c3)]
    have e : wrap64 (x.f0.f0 + x.f0.f1) = x.f0.f0 + x.f0.f1 := by unfold wrap64; omega
    rw [e]
    by_cases c4 : x.f0.f0 + x.f0.f1 ≤ 220000
    ·rw [if_pos c4]
     exact congrArg some (decide_eq_decide.2 (by unfold goodP; omega))
    ·rw [if_neg c4]
     exact no (fun h => by unfold goodP at h; omega)
   ·rw [if_neg (by simpa using c3)]
    exact no (fun h => by unfold goodP at h; omega)
  ·rw [if_neg (by simpa using c2)]
   exact no (fun h => by unfold goodP at h; omega)
end Go.Proofs.YtnomidpnofhjdaaGreatDoor
