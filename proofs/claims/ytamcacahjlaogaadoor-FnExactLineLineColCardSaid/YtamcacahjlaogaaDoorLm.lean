/- Lines: the law's helpers as contracts; markGapS and markLineBuf, walked. Conditions: the bounds. -/
import Derived.Test.YtamcacahjlaogaaDoorLp
namespace Go.Proofs.YtamcacahjlaogaaDoor.LP
open Go Go.RowKit Go.Proofs.YtamcacahjlaogaaDoor.QBaseL Go.Proofs.YtamcacahjlaogaaDoorW.PrintWords Go.Proofs.YtamcacahjlaogaaDoorW.PrintLast Go.Proofs.YtamcacahjlaogaaDoorW.PrintMore
set_option linter.unusedSimpArgs false
set_option linter.unusedVariables false
theorem sz3 : (k76).sz = 3 := rfl
structure MkAt (w0 w : World) (P : Nat → Prop) (v : Value) (xs : List S76) (s : Int) (k : Nat) (v1 v5 : Value) (wr : World) : Prop where
 st : ∃ i : Nat, v1 = .int .i64 (s + szS (xs.take i)) ∧ v5 = .int .i64 i ∧ i + k = xs.length ∧ Kd.S k76 76 wr w0.heap.size (fun k => P k ∨ w.heap.size ≤ k) v (mkG (xs.take i) s ++ xs.drop i)
 bel : Below w0.heap.size w0 wr
 kp : Kept w wr P
set_option maxHeartbeats 8000000 in
set_option maxRecDepth 100000 in
theorem markGapS_any (w0 w : World) (P : Nat → Prop) (v : Value) (xs : List S76) (s : Int) (hs : 0 ≤ s) (hn : s + szS xs ≤ 8000000) (hl : xs.length ≤ 1048576) (hB : Below w0.heap.size w0 w) (ho : Kd.S k76 76 w w0.heap.size P v xs) :
  Calls Tryd.prog 35 #[v, .int .i64 s] w fun e w' => e = .returned (.int .i64 (s + szS xs)) ∧ Kd.S k76 76 w' w0.heap.size (fun k => P k ∨ w.heap.size ≤ k) v (mkG xs s) ∧ Below w0.heap.size w0 w' ∧ Kept w w' P := by
 obtain ⟨A, c, rfl⟩ := Kd.S_slice ho
 have HW := Aside0.mk hB.size
 have AT : Aside0 (MkAt w0 w P (.slice A xs.length c) xs s xs.length (.int .i64 s) (.int .i64 0) w) := ⟨⟨⟨0, by simp [szS], rfl, by omega, by simpa [mkG] using Kd.S_mono ho (fun k hk => .inl hk)⟩, hB, Kept.refl _ _⟩⟩
 clear ho hB
 go_enter Tryd.func35, Tryd.ntmps35
 go_wp2
 go_loopg [1, 5] xs.length (fun k v1 v5 wr => MkAt w0 w P (.slice A xs.length c) xs s k v1 v5 wr)
 case atStart => exact AT.out
 case round =>
  clear AT
  obtain ⟨⟨i, rfl, rfl, hk, hS⟩, hB, hK⟩ := hrel
  have HK := Aside0.mk hk
  have HB := Aside0.mk hB
  have HKP := Aside0.mk hK
  clear hk hB hK
  have hdl : (mkG (xs.take i) s ++ xs.drop i).length = xs.length := by rw [List.length_append, mkG_length, List.length_take, List.length_drop]; have := HK.out; omega
  by_cases ci : i < xs.length
  ·have hx0 : (mkG (xs.take i) s ++ xs.drop i).getD i z76 = xs[i] := by
    rw [List.getD_eq_getElem?_getD, List.getElem?_append_right (by rw [mkG_length, List.length_take]; omega), mkG_length, List.length_take, Nat.min_eq_left (Nat.le_of_lt ci), Nat.sub_self, List.getElem?_drop, Nat.add_zero, List.getElem?_eq_getElem ci]; rfl
   have h1 := szS_nn (xs.take i)
   have h2 := szS_take_le xs (i + 1)
   have h3 := szS_take xs i ci
   obtain ⟨t, HT⟩ : ∃ t, Aside0 (s + szS (xs.take i) = t) := ⟨_, ⟨rfl⟩⟩
   obtain ⟨x, HX⟩ : ∃ x, Aside0 (xs[i] = x) := ⟨_, ⟨rfl⟩⟩
   have HSET := Aside0.mk (mkG_set xs s i ci)
   rw [HX.out] at hx0 h3
   rw [HX.out, HT.out] at HSET
   have hxl : 0 ≤ t ∧ t + (x.f0.length : Int) + 2 ≤ 8000000 := by rw [← HT.out]; omega
   have HNX := Aside0.mk (show s + szS (xs.take (i + 1)) = t + (x.f0.length : Int) + 2 by rw [h3, ← HT.out]; omega)
   rw [HT.out]
   clear h1 h2 h3
   obtain ⟨ys, HYS⟩ : ∃ ys, Aside0 (mkG (xs.take i) s ++ xs.drop i = ys) := ⟨_, ⟨rfl⟩⟩
   rw [HYS.out] at hS hx0 hdl
   rw [HYS.out] at HSET
   rw [← hdl] at hS
   obtain ⟨g, cp, eo, gb, gl, cl, -⟩ := Kd.S_form hS (by omega)
   injection eo with ea _ ec
   subst ea; subst ec
   have GB := Aside0.mk gb
   obtain ⟨oki, cs, hcl, hM, hcc, hfr, hoki, hH⟩ := Kd.S_elem hS z76 (i : Int) (by omega) (by omega)
   rw [Int.toNat_natCast] at hM hcc hfr
   rw [hx0] at hM
   obtain ⟨v0, rfl, hR0⟩ := k76_openM hM
   have hc0 := hcc 0 _ rfl
   simp only [sz3, Nat.add_zero] at hc0
   have HS := Aside0.mk hS
   have HH := Aside0.mk (Kd.H_widen hH)
   have HOK := Aside0.mk hoki
   have HR0 := Aside0.mk hR0
   obtain ⟨K, hK⟩ := Ev.rounds (markInt32S_from t (by omega) x.f0 (by omega))
   have HKK := Aside0.mk hK
   have HGK := Aside0.mk (show P g ∨ w.heap.size ≤ g from (Kd.S_R hS).1 g rfl)
   have d1 : decide ((i : Int) < (ys.length : Int)) = true := decide_eq_true (by omega)
   have d2 : decide (i < ys.length) = true := decide_eq_true (by omega)
   have d3 : decide ((i : Int) < (xs.length : Int)) = true := decide_eq_true (by omega)
   have d4 : decide (i < xs.length) = true := decide_eq_true (by omega)
   have dl := hdl
   clear hM hcc hfr hS hH hoki hR0 hK gb gl cl hx0 hcl
   go_wp2_with fail
   refine (laws_markInt32S.calls K oki v0 x.f0 t _ _ w0 wr HB.out HR0.out HKK.out).mono ?_
   rintro e w5 ⟨rfl, hR5, hb5, hk5⟩
   have H5 := Aside0.mk (Kd.H_kept HH.out hk5 (fun k _ hn ho => hn (.inl ho)))
   have KP5 := Aside0.mk (HKP.out.then_ hk5 (fun k hk => (HOK.out k hk).1))
   have HR5 := Aside0.mk hR5
   have HB5 := Aside0.mk hb5
   obtain ⟨hc5, hf5⟩ := Kd.H_at H5.out (by omega) (by omega)
   rw [Int.toNat_natCast] at hc5 hf5
   have hx1 := hc5 1 _ rfl
   have hx2 := hc5 2 _ rfl
   have hf1 := hf5 1
   have hf2 := hf5 2
   simp only [sz3] at hx1 hx2 hf1 hf2
   obtain ⟨u, HU⟩ : ∃ u, Aside0 (t + (x.f0.length : Int) = u) := ⟨_, ⟨rfl⟩⟩
   have ub : 0 ≤ u ∧ u ≤ 8000000 := by rw [← HU.out]; omega
   rw [HU.out]
   clear hR5 hb5 hk5 hc5 hf5 hc0
   go_wp2
   obtain ⟨w6, e6⟩ : ∃ z, w5.setCell ⟨g, i * 3 + 1, none⟩ (.int .i64 u) = z := ⟨_, rfl⟩
   obtain ⟨w7, e7⟩ : ∃ z, w6.setCell ⟨g, i * 3 + 2, none⟩ (.int .i64 (u + 1)) = z := ⟨_, rfl⟩
   have P6 := Kd.S_seg0 H5.out (by omega) (by omega) (seg := [.int .i64 u]) (j := 1) (show 2 ≤ 3 by decide) (x' := (⟨mk (fun x => wrap32 (x)) t x.f0.length, u, x.f2⟩ : S76)) (k76_mkM _ _ _ (⟨mk (fun x => wrap32 (x)) t x.f0.length, u, x.f2⟩ : S76) HR5.out) (fun k hk => hk.elim .inl (fun h => .inr ⟨.inr (Nat.le_trans HKP.out.1 h), h⟩))
   rw [Int.toNat_natCast] at P6
   have P6' : Kd.S k76 76 w6 w0.heap.size (fun k => P k ∨ w.heap.size ≤ k) (.slice (some ⟨g, 0, none⟩) ys.length c) (ys.set i ⟨mk (fun x => wrap32 (x)) t x.f0.length, u, x.f2⟩) := by rw [← e6]; exact P6.1
   obtain ⟨oki2, cs2, hcl2, hM2, hcc2, hfr2, hoki2, hH2⟩ := Kd.S_elem P6' z76 (i : Int) (by omega) (by omega)
   rw [Int.toNat_natCast, List.getD_eq_getElem?_getD, List.getElem?_set_self (by omega), Option.getD_some] at hM2
   obtain ⟨v2, rfl, hR2⟩ := k76_openM hM2
   have P7 := Kd.S_seg0 hH2 (by omega) (by omega) (seg := [.int .i64 (u + 1)]) (j := 2) (show 3 ≤ 3 by decide) (x' := (⟨mk (fun x => wrap32 (x)) t x.f0.length, u, u + 1⟩ : S76)) (k76_mkM _ _ _ (⟨mk (fun x => wrap32 (x)) t x.f0.length, u, u + 1⟩ : S76) hR2) (fun k hk => hk)
   rw [Int.toNat_natCast, List.set_set] at P7
   have P7' : Kd.S k76 76 w7 w0.heap.size (fun k => P k ∨ w.heap.size ≤ k) (.slice (some ⟨g, 0, none⟩) ys.length c) (ys.set i ⟨mk (fun x => wrap32 (x)) t x.f0.length, u, u + 1⟩) := by rw [← e7]; exact P7.1
   rw [show (⟨mk (fun x => wrap32 (x)) t x.f0.length, u, u + 1⟩ : S76) = mkE x t by unfold mkE; rw [HU.out], HSET.out, dl] at P7'
   have HP7 := Aside0.mk P7'
   have HB7 := Aside0.mk (show Below w0.heap.size w0 w7 by rw [← e7, ← e6]; exact (HB5.out.setCell (p := ⟨g, i * 3 + 1, none⟩) GB.out _).setCell (p := ⟨g, i * 3 + 2, none⟩) GB.out _)
   have HK7 := Aside0.mk (show Kept w w7 P by rw [← e7, ← e6]; exact (KP5.out.setCell (p := ⟨g, i * 3 + 1, none⟩) HGK.out _).setCell (p := ⟨g, i * 3 + 2, none⟩) HGK.out _)
   rw [e6, e7]
   clear P6 P6' P7 P7' hM2 hcc2 hfr2 hoki2 hH2 hR2 hcl2 e6 e7
   go_roundg (xs.length - (i + 1))
   case measure => have := HK.out; omega
   case rel =>
    refine ⟨⟨i + 1, ?_, by go_num, by have := HK.out; omega, HP7.out⟩, HB7.out, HK7.out⟩
    rw [HNX.out, HU.out]
    congr 1; omega
  ·have hil : i = xs.length := by have := HK.out; omega
   subst hil
   have d3 : decide ((xs.length : Int) < (xs.length : Int)) = false := decide_eq_false (by omega)
   go_wp2
   go_ret
   rw [List.take_length, List.drop_length, List.append_nil] at hS
   exact ⟨by rw [List.take_length]; rfl, hS, HB.out, HKP.out⟩
end Go.Proofs.YtamcacahjlaogaaDoor.LP
