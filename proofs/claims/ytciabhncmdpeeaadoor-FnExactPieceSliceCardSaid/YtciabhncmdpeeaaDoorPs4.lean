/- sort.Search over a closure of two cells, walked. Condition: the closure answers at every place asked. -/
import Derived.Test.YtciabhncmdpeeaaDoorPs3
namespace Go.Proofs.YtciabhncmdpeeaaDoor
open Go.RowKit Go.Proofs.YtciabhncmdpeeaaDoorW.PrintWords Go.Proofs.YtciabhncmdpeeaaDoorW.PrintLast Go.Proofs.YtciabhncmdpeeaaDoorW.PrintMore Er
/-- where the search stands -/
structure SrchAt (w : World) (F : Int → Bool) (n : Int) (k : Nat) (v5 v6 : Value) (wr : World) : Prop where
 st : ∃ i j : Int, v5 = .int .i64 i ∧ v6 = .int .i64 j ∧ 0 ≤ i ∧ i ≤ j ∧ j ≤ n ∧ j - i ≤ (k : Int) ∧ (i = 0 ∨ F (i - 1) = false) ∧ (j = n ∨ F j = true)
 bel : TSt w wr
set_option maxHeartbeats 8000000 in
set_option maxRecDepth 100000 in
theorem search_any (w : World) (F : Int → Bool) (n : Int) (p1 p2 : Value) (hn : 0 ≤ n ∧ n ≤ 1000000)
  (hF : ∀ W, TSt w W → ∀ i : Int, 0 ≤ i → i < n → Calls Tryd.prog 118 #[.int .i64 i, p1, p2] W fun e w' => e = .returned (.bool (F i)) ∧ Below W.heap.size W w') :
  Calls Tryd.prog 116 #[.int .i64 n, .func (.func 118) #[] #[p1, p2]] w fun e w' => ∃ r : Int, e = .returned (.int .i64 r) ∧ 0 ≤ r ∧ r ≤ n ∧ (r = 0 ∨ F (r - 1) = false) ∧ (r = n ∨ F r = true) ∧ Below w.heap.size w w' := by
 have HF := Aside0.mk hF
 have AT : Aside0 (SrchAt w F n n.toNat (.int .i64 0) (.int .i64 n) w) := ⟨⟨⟨0, n, rfl, rfl, by omega, by omega, by omega, by omega, .inl rfl, .inl rfl⟩, ⟨Below.refl _ _⟩⟩⟩
 clear hF
 go_enter Tryd.func116, Tryd.ntmps116
 go_wp2
 go_loopg [5, 6] n.toNat (fun k v5 v6 wr => SrchAt w F n k v5 v6 wr)
 case atStart => exact AT.out
 case round =>
  clear AT
  obtain ⟨⟨i, j, rfl, rfl, h0, h1, h2, hk, hi, hj⟩, hB⟩ := hrel
  have HB := Aside0.mk hB
  have HI := Aside0.mk hi
  have HJ := Aside0.mk hj
  have HK := Aside0.mk hk
  clear hB hi hj hk
  by_cases c : i < j
  ·have cb : decide (i < j) = true := decide_eq_true c
   go_wp2_with fail
   refine (HF.out wr HB.out ((i + j) / 2) (by omega) (by omega)).mono ?_
   rintro e w' ⟨rfl, hb⟩
   have HB2 := Aside0.mk (HB.out.below hb)
   clear hb
   obtain ⟨h, hh⟩ : ∃ h : Int, (i + j) / 2 = h := ⟨_, rfl⟩
   have g1 : i ≤ h ∧ h < j := by omega
   rw [hh]
   clear hh
   cases hv : F h with
   | true =>
    have HV := Aside0.mk hv
    clear hv
    go_wp2
    go_roundg (h - i).toNat
    case measure => have := HK.out; omega
    case rel => exact ⟨⟨i, h, rfl, rfl, h0, g1.1, by omega, by omega, HI.out, .inr HV.out⟩, HB2.out⟩
   | false =>
    have HV := Aside0.mk hv
    clear hv
    go_wp2
    go_roundg (j - (h + 1)).toNat
    case measure => have := HK.out; omega
    case rel => exact ⟨⟨h + 1, j, rfl, rfl, by omega, by omega, h2, by omega, .inr (by rw [show h + 1 - 1 = h by omega]; exact HV.out), HJ.out⟩, HB2.out⟩
  ·have cb : decide (i < j) = false := decide_eq_false c
   obtain rfl : i = j := by omega
   go_wp2
   go_ret
   exact ⟨i, rfl, h0, h2, HI.out, HJ.out, HB.out.bel⟩
end Go.Proofs.YtciabhncmdpeeaaDoor
