/- TreeDelete, walked. Conditions: at most 1048576 items; errors.errorType reads as laid. -/
import Derived.Test.YtciabhncmdpeeaaDoorTr15a
import Derived.Test.YtciabhncmdpeeaaDoorTr13
namespace Go.Proofs.YtciabhncmdpeeaaDoor
open Go.RowKit Go.Proofs.YtciabhncmdpeeaaDoorW.PrintWords Go.Proofs.YtciabhncmdpeeaaDoorW.PrintLast Go.Proofs.YtciabhncmdpeeaaDoorW.PrintMore Er
def treeDeleteV (xs : List It) (rk : Int) : List It × Int :=
 match grownV xs with
 | none => ([], 1)
 | some t => if 0 ≤ rk ∧ rk ≤ (xs.length : Int) - 1 then ((TP.flat (TP.remove t rk.toNat) 0).map toIt, 0) else ([], 2)
set_option maxHeartbeats 16000000 in
set_option maxRecDepth 100000 in
theorem treeDelete_yy (w : World) (xs : List It) (A : Option Addr) (c : Nat) (rk : Int) (hm : xs.length ≤ 1048576) (hr : Kd.C QBase.k54 w A xs.length xs) (hc : xs.length ≤ c) (hg : HG w) (cin : 0 ≤ rk ∧ rk ≤ (xs.length : Int) - 1) (t : Tree) (hV : grownV xs = some t) :
  Calls Tryd.prog 33 #[.agg #[.slice A xs.length c], .int .i64 rk] w (TreeOut w (treeDeleteV xs rk)) := by
 obtain ⟨w0, e0⟩ : ∃ y, w.alloc (.cells #[.slice A xs.length c] 30) = y := ⟨_, rfl⟩
 have hb0 : Below w.heap.size w w0 := by subst e0; exact (Below.refl _ w).alloc (Nat.le_refl _) _
 have hx0 : w0.heap[w.heap.size]? = some (.cells #[.slice A xs.length c] 30 (0, 0)) := by subst e0; exact blk_new w (.cells #[.slice A xs.length c] 30)
 have z0 : w0.heap.size = w.heap.size + 1 := by subst e0; simp
 obtain ⟨w2, e2⟩ : ∃ y, w0.alloc (.cells #[.slice none 0 0] 30) = y := ⟨_, rfl⟩
 have hb2 : Below w0.heap.size w0 w2 := by subst e2; exact (Below.refl _ w0).alloc (Nat.le_refl _) _
 have HY2 : Aside0 (w2.heap[w.heap.size + 1]? = some (.cells #[.slice none 0 0] 30 (0, 0))) := ⟨by rw [← z0]; subst e2; exact blk_new w0 (.cells #[.slice none 0 0] 30)⟩
 have HB2 : Aside0 (Below w.heap.size w w2) := ⟨below_step hb0 hb2⟩
 have HX2 : Aside0 (w2.heap[w.heap.size]? = some (.cells #[.slice A xs.length c] 30 (0, 0))) := ⟨blk_below hx0 hb2⟩
 have hlt2 : Aside0 (w.heap.size + 1 < w2.heap.size) := ⟨blk_lt HY2.out⟩
 have q0 : w2.cell? ⟨w.heap.size, 0, none⟩ = some (.slice A xs.length c) := (blk_cell HX2.out 0).trans rfl
 have HR := Aside0.mk (Kd.C_below hr HB2.out)
 have HG0 := Aside0.mk hg
 clear hr hg hb0 hb2 hx0
 go_enter Tryd.func33, Tryd.ntmps33
 go_wp2_with fail
 refine (grown_any w2 xs A c hm HR.out hc).mono ?_
 intro e w3 hp
 obtain ⟨hb3, hp⟩ := hp
 have HB3 := Aside0.mk (below_step HB2.out hb3)
 have HX3 := Aside0.mk (blk_below HX2.out hb3)
 have HY3 := Aside0.mk (blk_below HY2.out hb3)
 clear hb3 q0 e0 e2 z0
 have q0 : w3.cell? ⟨w.heap.size, 0, none⟩ = some (.slice A xs.length c) := (blk_cell HX3.out 0).trans rfl
 rcases hp with ⟨t2, pt, S, hV', rfl, hrep, hnd, hS⟩ | ⟨hV', pt, s, v, rfl, hsum, hE⟩
 case inr => rw [hV] at hV'; cases hV'
 have ht : t = t2 := by rw [hV] at hV'; exact Option.some.inj hV'
 subst ht
 obtain ⟨hf, hrl, hrb, hcn⟩ := grownV_fine hV
 have hx8 : xs.length ≤ 8192 := (grownV_toL hV).2.2.2.1
 have HPt := Aside0.mk hrep
 have HF := Aside0.mk hf
 have HV := Aside0.mk hV
 have HND := Aside0.mk hnd
 have HS := Aside0.mk hS
 have HCN := Aside0.mk hcn
 clear hV hV' hrep hf hrl hcn hS hnd
 have CD : Aside0 (∀ m : Int, m = (xs.length : Int) - 1 → decide (0 ≤ rk ∧ rk ≤ m) = true) := ⟨fun m hm => decide_eq_true (by subst hm; exact cin)⟩
 go_wp2_with fail
 refine (within_any w3 rk 0 _).mono ?_
 rintro e w' ⟨rfl, hw⟩
 rw [hw]
 clear hw w'
 first | rw [CD.out _ rfl] | rw [CD.out _ (by unfold wrap64; omega)]
 go_wp2_with fail
 refine (unless_t w3 2).mono ?_
 rintro e w' ⟨rfl, hw⟩
 rw [hw]
 clear hw w'
 go_wp2_with fail
 refine (firstOf2 _ w3.heap.size none none (by simp [ev]) (by simp [ev])).mono ?_
 rintro e w' ⟨rfl, hw⟩
 rw [hw]
 clear hw w'
 simp only [ev, firstE]
 obtain ⟨w5, e5⟩ : ∃ y, w3.alloc (.cells #[.nilIface, .nilIface] 85) = y := ⟨_, rfl⟩
 have hb5 : Below w3.heap.size w3 w5 := by subst e5; exact (Below.refl _ w3).alloc (Nat.le_refl _) _
 rw [e5]
 clear e5
 obtain ⟨k, rfl⟩ : ∃ n : Nat, rk = n := ⟨rk.toNat, by omega⟩
 have HK : Aside0 (k < TP.cnt t) := ⟨by have := HCN.out; omega⟩
 clear q0
 go_wp2_with fail
 refine (removeT_any t _ _ S _ k rfl (HPt.out.below hb5) HND.out (by have := HCN.out; omega) HK.out).mono ?_
 intro e w6 hq
 obtain ⟨pn, S', rfl, hu, hrep6, nd6, fr6⟩ := hq
 have HB6 : Aside0 (Below w.heap.size w w6) := ⟨upds_below (below_step HB3.out hb5) hu (below_step HB3.out hb5).size (fun k hk => Nat.le_trans HB2.out.size (HS.out k hk))⟩
 have HY6 : Aside0 (w6.heap[w.heap.size + 1]? = _) := ⟨(hu.block _ (blk_lt (blk_below HY3.out hb5)) (fun hk => by have := HS.out _ hk; have := hlt2.out; omega)).trans (blk_below HY3.out hb5)⟩
 have HRp := Aside0.mk hrep6
 clear hu hrep6 fr6
 go_wp2_with fail
 refine (told_any pn S' _ w6 HRp.out (by have := removeIn_cnt t k HK.out; have := HCN.out; omega)).mono ?_
 rintro e w7 ⟨v, rfl, hR7, hb7⟩
 obtain ⟨A7, c7, rfl⟩ := Kd.R_slice hR7
 have HR7 := Aside0.mk hR7
 have HB7 := Aside0.mk (below_step HB6.out hb7)
 have HY7 := Aside0.mk (blk_below HY6.out hb7)
 have hsz := Aside0.mk HB6.out.size
 have hlt6 := Aside0.mk (blk_lt HY6.out)
 have y0 : w7.cell? ⟨w.heap.size + 1, 0, none⟩ = some (.slice none 0 0) := (blk_cell HY7.out 0).trans rfl
 have f0 := blk_frozen HY7.out 0
 obtain ⟨ys, HYS⟩ : ∃ ys, Aside0 (ys = (TP.flat (TP.remove t k) 0).map toIt) := ⟨_, ⟨rfl⟩⟩
 rw [← HYS.out] at HR7 ⊢
 have BX : Aside0 _ := ⟨blk_put HY7.out 0 (.slice A7 ys.length c7) rfl⟩
 have CIN := Aside0.mk cin
 clear hR7 hb7 cin
 go_wp2
 refine bodyPost_ret (results_list (rs := [.cell 4 30, .tmp 5]) rfl (by simp) (.cell (w.heap.size + 1) 30 _ (0, 0) _ rfl BX.out Tryd.underlying30 rfl (by kernel_rfl) (.tmp .nil))) rfl ?_
 have e : treeDeleteV xs (k : Int) = (ys, 0) := by
  unfold treeDeleteV; rw [HV.out]; simp only; rw [if_pos CIN.out, Int.toNat_natCast, HYS.out]
 rw [e]
 exact ⟨_, rfl, R_box HR7.out hlt6.out hsz.out _, HB7.out.setCell (p := ⟨w.heap.size + 1, 0, none⟩) (by show w.heap.size ≤ w.heap.size + 1; omega) _⟩
set_option maxHeartbeats 16000000 in
set_option maxRecDepth 100000 in
theorem treeDelete_yn (w : World) (xs : List It) (A : Option Addr) (c : Nat) (rk : Int) (hm : xs.length ≤ 1048576) (hr : Kd.C QBase.k54 w A xs.length xs) (hc : xs.length ≤ c) (hg : HG w) (cin : ¬ (0 ≤ rk ∧ rk ≤ (xs.length : Int) - 1)) (t : Tree) (hV : grownV xs = some t) :
  Calls Tryd.prog 33 #[.agg #[.slice A xs.length c], .int .i64 rk] w (TreeOut w (treeDeleteV xs rk)) := by
 obtain ⟨w0, e0⟩ : ∃ y, w.alloc (.cells #[.slice A xs.length c] 30) = y := ⟨_, rfl⟩
 have hb0 : Below w.heap.size w w0 := by subst e0; exact (Below.refl _ w).alloc (Nat.le_refl _) _
 have hx0 : w0.heap[w.heap.size]? = some (.cells #[.slice A xs.length c] 30 (0, 0)) := by subst e0; exact blk_new w (.cells #[.slice A xs.length c] 30)
 have z0 : w0.heap.size = w.heap.size + 1 := by subst e0; simp
 obtain ⟨w2, e2⟩ : ∃ y, w0.alloc (.cells #[.slice none 0 0] 30) = y := ⟨_, rfl⟩
 have hb2 : Below w0.heap.size w0 w2 := by subst e2; exact (Below.refl _ w0).alloc (Nat.le_refl _) _
 have HY2 : Aside0 (w2.heap[w.heap.size + 1]? = some (.cells #[.slice none 0 0] 30 (0, 0))) := ⟨by rw [← z0]; subst e2; exact blk_new w0 (.cells #[.slice none 0 0] 30)⟩
 have HB2 : Aside0 (Below w.heap.size w w2) := ⟨below_step hb0 hb2⟩
 have HX2 : Aside0 (w2.heap[w.heap.size]? = some (.cells #[.slice A xs.length c] 30 (0, 0))) := ⟨blk_below hx0 hb2⟩
 have hlt2 : Aside0 (w.heap.size + 1 < w2.heap.size) := ⟨blk_lt HY2.out⟩
 have q0 : w2.cell? ⟨w.heap.size, 0, none⟩ = some (.slice A xs.length c) := (blk_cell HX2.out 0).trans rfl
 have HR := Aside0.mk (Kd.C_below hr HB2.out)
 have HG0 := Aside0.mk hg
 clear hr hg hb0 hb2 hx0
 go_enter Tryd.func33, Tryd.ntmps33
 go_wp2_with fail
 refine (grown_any w2 xs A c hm HR.out hc).mono ?_
 intro e w3 hp
 obtain ⟨hb3, hp⟩ := hp
 have HB3 := Aside0.mk (below_step HB2.out hb3)
 have HX3 := Aside0.mk (blk_below HX2.out hb3)
 have HY3 := Aside0.mk (blk_below HY2.out hb3)
 clear hb3 q0 e0 e2 z0
 have q0 : w3.cell? ⟨w.heap.size, 0, none⟩ = some (.slice A xs.length c) := (blk_cell HX3.out 0).trans rfl
 rcases hp with ⟨t2, pt, S, hV', rfl, hrep, hnd, hS⟩ | ⟨hV', pt, s, v, rfl, hsum, hE⟩
 case inr => rw [hV] at hV'; cases hV'
 have ht : t = t2 := by rw [hV] at hV'; exact Option.some.inj hV'
 subst ht
 obtain ⟨hf, hrl, hrb, hcn⟩ := grownV_fine hV
 have hx8 : xs.length ≤ 8192 := (grownV_toL hV).2.2.2.1
 have HPt := Aside0.mk hrep
 have HF := Aside0.mk hf
 have HV := Aside0.mk hV
 have HND := Aside0.mk hnd
 have HS := Aside0.mk hS
 have HCN := Aside0.mk hcn
 clear hV hV' hrep hf hrl hcn hS hnd
 have CD : Aside0 (∀ m : Int, m = (xs.length : Int) - 1 → decide (0 ≤ rk ∧ rk ≤ m) = false) := ⟨fun m hm => decide_eq_false (by subst hm; exact cin)⟩
 go_wp2_with fail
 refine (within_any w3 rk 0 _).mono ?_
 rintro e w' ⟨rfl, hw⟩
 rw [hw]
 clear hw w'
 first | rw [CD.out _ rfl] | rw [CD.out _ (by unfold wrap64; omega)]
 go_wp2_with fail
 refine (unless_f w3 2).mono ?_
 rintro e w' ⟨rfl, hw⟩
 rw [hw]
 clear hw w'
 go_wp2_with fail
 refine (firstOf2 _ w3.heap.size none (some (129, .int .i64 2)) (by simp [ev]) (by simp [ev])).mono ?_
 rintro e w' ⟨rfl, hw⟩
 rw [hw]
 clear hw w'
 simp only [ev, firstE]
 obtain ⟨w5, e5⟩ : ∃ y, w3.alloc (.cells #[.nilIface, .iface 129 (.int .i64 2)] 85) = y := ⟨_, rfl⟩
 have hb5 : Below w3.heap.size w3 w5 := by subst e5; exact (Below.refl _ w3).alloc (Nat.le_refl _) _
 rw [e5]
 clear e5
 have CIN := Aside0.mk cin
 clear cin
 go_wp2_with fail
 refine (codeOf_any _ 2 _ (HG0.out.below (below_step HB3.out hb5)) (.inl rfl)).mono ?_
 rintro e w6 ⟨rfl, hb6⟩
 have HB6 := Aside0.mk (below_step (below_step HB3.out hb5) hb6)
 have HY6 := Aside0.mk (blk_below (blk_below HY3.out hb5) hb6)
 have y0 : w6.cell? ⟨w.heap.size + 1, 0, none⟩ = some (.slice none 0 0) := (blk_cell HY6.out 0).trans rfl
 have f0 := blk_frozen HY6.out 0
 have BX : Aside0 _ := ⟨blk_put HY6.out 0 (.slice none 0 0) rfl⟩
 clear hb5 hb6 q0
 go_wp2
 refine bodyPost_ret (results_list (rs := [.cell 4 30, .tmp 5]) rfl (by simp) (.cell (w.heap.size + 1) 30 _ (0, 0) _ rfl BX.out Tryd.underlying30 rfl (by kernel_rfl) (.tmp .nil))) rfl ?_
 have e : treeDeleteV xs rk = ([], 2) := by
  unfold treeDeleteV; rw [HV.out]; simp only; rw [if_neg CIN.out]
 rw [e]
 exact TreeOut.none _ (HB6.out.setCell (p := ⟨w.heap.size + 1, 0, none⟩) (by show w.heap.size ≤ w.heap.size + 1; omega) _)
set_option maxHeartbeats 16000000 in
set_option maxRecDepth 100000 in
theorem treeDelete_ny (w : World) (xs : List It) (A : Option Addr) (c : Nat) (rk : Int) (hm : xs.length ≤ 1048576) (hr : Kd.C QBase.k54 w A xs.length xs) (hc : xs.length ≤ c) (hg : HG w) (cin : 0 ≤ rk ∧ rk ≤ (xs.length : Int) - 1) (hV : grownV xs = none) :
  Calls Tryd.prog 33 #[.agg #[.slice A xs.length c], .int .i64 rk] w (TreeOut w (treeDeleteV xs rk)) := by
 obtain ⟨w0, e0⟩ : ∃ y, w.alloc (.cells #[.slice A xs.length c] 30) = y := ⟨_, rfl⟩
 have hb0 : Below w.heap.size w w0 := by subst e0; exact (Below.refl _ w).alloc (Nat.le_refl _) _
 have hx0 : w0.heap[w.heap.size]? = some (.cells #[.slice A xs.length c] 30 (0, 0)) := by subst e0; exact blk_new w (.cells #[.slice A xs.length c] 30)
 have z0 : w0.heap.size = w.heap.size + 1 := by subst e0; simp
 obtain ⟨w2, e2⟩ : ∃ y, w0.alloc (.cells #[.slice none 0 0] 30) = y := ⟨_, rfl⟩
 have hb2 : Below w0.heap.size w0 w2 := by subst e2; exact (Below.refl _ w0).alloc (Nat.le_refl _) _
 have HY2 : Aside0 (w2.heap[w.heap.size + 1]? = some (.cells #[.slice none 0 0] 30 (0, 0))) := ⟨by rw [← z0]; subst e2; exact blk_new w0 (.cells #[.slice none 0 0] 30)⟩
 have HB2 : Aside0 (Below w.heap.size w w2) := ⟨below_step hb0 hb2⟩
 have HX2 : Aside0 (w2.heap[w.heap.size]? = some (.cells #[.slice A xs.length c] 30 (0, 0))) := ⟨blk_below hx0 hb2⟩
 have hlt2 : Aside0 (w.heap.size + 1 < w2.heap.size) := ⟨blk_lt HY2.out⟩
 have q0 : w2.cell? ⟨w.heap.size, 0, none⟩ = some (.slice A xs.length c) := (blk_cell HX2.out 0).trans rfl
 have HR := Aside0.mk (Kd.C_below hr HB2.out)
 have HG0 := Aside0.mk hg
 clear hr hg hb0 hb2 hx0
 go_enter Tryd.func33, Tryd.ntmps33
 go_wp2_with fail
 refine (grown_any w2 xs A c hm HR.out hc).mono ?_
 intro e w3 hp
 obtain ⟨hb3, hp⟩ := hp
 have HB3 := Aside0.mk (below_step HB2.out hb3)
 have HX3 := Aside0.mk (blk_below HX2.out hb3)
 have HY3 := Aside0.mk (blk_below HY2.out hb3)
 clear hb3 q0 e0 e2 z0
 have q0 : w3.cell? ⟨w.heap.size, 0, none⟩ = some (.slice A xs.length c) := (blk_cell HX3.out 0).trans rfl
 rcases hp with ⟨t2, pt, S, hV2, rfl, hrep, hnd, hS⟩ | ⟨hV2, pt, sm4, v, rfl, hsum, hE⟩
 case inl => rw [hV] at hV2; cases hV2
 obtain ⟨TT, xx, rfl⟩ := errIs_ev hE
 simp only [ev] at hE ⊢
 have HE := Aside0.mk hE
 have HVV := Aside0.mk hV
 clear hV hV2 hE hsum
 have CD : Aside0 (∀ m : Int, m = (xs.length : Int) - 1 → decide (0 ≤ rk ∧ rk ≤ m) = true) := ⟨fun m hm => decide_eq_true (by subst hm; exact cin)⟩
 go_wp2_with fail
 refine (within_any w3 rk 0 _).mono ?_
 rintro e w' ⟨rfl, hw⟩
 rw [hw]
 clear hw w'
 first | rw [CD.out _ rfl] | rw [CD.out _ (by unfold wrap64; omega)]
 go_wp2_with fail
 refine (unless_t w3 2).mono ?_
 rintro e w' ⟨rfl, hw⟩
 rw [hw]
 clear hw w'
 go_wp2_with fail
 refine (firstOf2 _ w3.heap.size (some (TT, xx)) none (by simp [ev]) (by simp [ev])).mono ?_
 rintro e w' ⟨rfl, hw⟩
 rw [hw]
 clear hw w'
 simp only [ev, firstE]
 obtain ⟨w5, e5⟩ : ∃ y, w3.alloc (.cells #[.iface TT xx, .nilIface] 85) = y := ⟨_, rfl⟩
 have hb5 : Below w3.heap.size w3 w5 := by subst e5; exact (Below.refl _ w3).alloc (Nat.le_refl _) _
 rw [e5]
 clear e5
 clear cin
 go_wp2_with fail
 refine (codeOf_any _ 1 _ (HG0.out.below (below_step HB3.out hb5)) (HE.out.below hb5)).mono ?_
 rintro e w6 ⟨rfl, hb6⟩
 have HB6 := Aside0.mk (below_step (below_step HB3.out hb5) hb6)
 have HY6 := Aside0.mk (blk_below (blk_below HY3.out hb5) hb6)
 have y0 : w6.cell? ⟨w.heap.size + 1, 0, none⟩ = some (.slice none 0 0) := (blk_cell HY6.out 0).trans rfl
 have f0 := blk_frozen HY6.out 0
 have BX : Aside0 _ := ⟨blk_put HY6.out 0 (.slice none 0 0) rfl⟩
 clear hb5 hb6 q0
 go_wp2
 refine bodyPost_ret (results_list (rs := [.cell 4 30, .tmp 5]) rfl (by simp) (.cell (w.heap.size + 1) 30 _ (0, 0) _ rfl BX.out Tryd.underlying30 rfl (by kernel_rfl) (.tmp .nil))) rfl ?_
 have e : treeDeleteV xs rk = ([], 1) := by
  unfold treeDeleteV; rw [HVV.out]
 rw [e]
 exact TreeOut.none _ (HB6.out.setCell (p := ⟨w.heap.size + 1, 0, none⟩) (by show w.heap.size ≤ w.heap.size + 1; omega) _)
set_option maxHeartbeats 16000000 in
set_option maxRecDepth 100000 in
theorem treeDelete_nn (w : World) (xs : List It) (A : Option Addr) (c : Nat) (rk : Int) (hm : xs.length ≤ 1048576) (hr : Kd.C QBase.k54 w A xs.length xs) (hc : xs.length ≤ c) (hg : HG w) (cin : ¬ (0 ≤ rk ∧ rk ≤ (xs.length : Int) - 1)) (hV : grownV xs = none) :
  Calls Tryd.prog 33 #[.agg #[.slice A xs.length c], .int .i64 rk] w (TreeOut w (treeDeleteV xs rk)) := by
 obtain ⟨w0, e0⟩ : ∃ y, w.alloc (.cells #[.slice A xs.length c] 30) = y := ⟨_, rfl⟩
 have hb0 : Below w.heap.size w w0 := by subst e0; exact (Below.refl _ w).alloc (Nat.le_refl _) _
 have hx0 : w0.heap[w.heap.size]? = some (.cells #[.slice A xs.length c] 30 (0, 0)) := by subst e0; exact blk_new w (.cells #[.slice A xs.length c] 30)
 have z0 : w0.heap.size = w.heap.size + 1 := by subst e0; simp
 obtain ⟨w2, e2⟩ : ∃ y, w0.alloc (.cells #[.slice none 0 0] 30) = y := ⟨_, rfl⟩
 have hb2 : Below w0.heap.size w0 w2 := by subst e2; exact (Below.refl _ w0).alloc (Nat.le_refl _) _
 have HY2 : Aside0 (w2.heap[w.heap.size + 1]? = some (.cells #[.slice none 0 0] 30 (0, 0))) := ⟨by rw [← z0]; subst e2; exact blk_new w0 (.cells #[.slice none 0 0] 30)⟩
 have HB2 : Aside0 (Below w.heap.size w w2) := ⟨below_step hb0 hb2⟩
 have HX2 : Aside0 (w2.heap[w.heap.size]? = some (.cells #[.slice A xs.length c] 30 (0, 0))) := ⟨blk_below hx0 hb2⟩
 have hlt2 : Aside0 (w.heap.size + 1 < w2.heap.size) := ⟨blk_lt HY2.out⟩
 have q0 : w2.cell? ⟨w.heap.size, 0, none⟩ = some (.slice A xs.length c) := (blk_cell HX2.out 0).trans rfl
 have HR := Aside0.mk (Kd.C_below hr HB2.out)
 have HG0 := Aside0.mk hg
 clear hr hg hb0 hb2 hx0
 go_enter Tryd.func33, Tryd.ntmps33
 go_wp2_with fail
 refine (grown_any w2 xs A c hm HR.out hc).mono ?_
 intro e w3 hp
 obtain ⟨hb3, hp⟩ := hp
 have HB3 := Aside0.mk (below_step HB2.out hb3)
 have HX3 := Aside0.mk (blk_below HX2.out hb3)
 have HY3 := Aside0.mk (blk_below HY2.out hb3)
 clear hb3 q0 e0 e2 z0
 have q0 : w3.cell? ⟨w.heap.size, 0, none⟩ = some (.slice A xs.length c) := (blk_cell HX3.out 0).trans rfl
 rcases hp with ⟨t2, pt, S, hV2, rfl, hrep, hnd, hS⟩ | ⟨hV2, pt, sm4, v, rfl, hsum, hE⟩
 case inl => rw [hV] at hV2; cases hV2
 obtain ⟨TT, xx, rfl⟩ := errIs_ev hE
 simp only [ev] at hE ⊢
 have HE := Aside0.mk hE
 have HVV := Aside0.mk hV
 clear hV hV2 hE hsum
 have CD : Aside0 (∀ m : Int, m = (xs.length : Int) - 1 → decide (0 ≤ rk ∧ rk ≤ m) = false) := ⟨fun m hm => decide_eq_false (by subst hm; exact cin)⟩
 go_wp2_with fail
 refine (within_any w3 rk 0 _).mono ?_
 rintro e w' ⟨rfl, hw⟩
 rw [hw]
 clear hw w'
 first | rw [CD.out _ rfl] | rw [CD.out _ (by unfold wrap64; omega)]
 go_wp2_with fail
 refine (unless_f w3 2).mono ?_
 rintro e w' ⟨rfl, hw⟩
 rw [hw]
 clear hw w'
 go_wp2_with fail
 refine (firstOf2 _ w3.heap.size (some (TT, xx)) (some (129, .int .i64 2)) (by simp [ev]) (by simp [ev])).mono ?_
 rintro e w' ⟨rfl, hw⟩
 rw [hw]
 clear hw w'
 simp only [ev, firstE]
 obtain ⟨w5, e5⟩ : ∃ y, w3.alloc (.cells #[.iface TT xx, .iface 129 (.int .i64 2)] 85) = y := ⟨_, rfl⟩
 have hb5 : Below w3.heap.size w3 w5 := by subst e5; exact (Below.refl _ w3).alloc (Nat.le_refl _) _
 rw [e5]
 clear e5
 clear cin
 go_wp2_with fail
 refine (codeOf_any _ 1 _ (HG0.out.below (below_step HB3.out hb5)) (HE.out.below hb5)).mono ?_
 rintro e w6 ⟨rfl, hb6⟩
 have HB6 := Aside0.mk (below_step (below_step HB3.out hb5) hb6)
 have HY6 := Aside0.mk (blk_below (blk_below HY3.out hb5) hb6)
 have y0 : w6.cell? ⟨w.heap.size + 1, 0, none⟩ = some (.slice none 0 0) := (blk_cell HY6.out 0).trans rfl
 have f0 := blk_frozen HY6.out 0
 have BX : Aside0 _ := ⟨blk_put HY6.out 0 (.slice none 0 0) rfl⟩
 clear hb5 hb6 q0
 go_wp2
 refine bodyPost_ret (results_list (rs := [.cell 4 30, .tmp 5]) rfl (by simp) (.cell (w.heap.size + 1) 30 _ (0, 0) _ rfl BX.out Tryd.underlying30 rfl (by kernel_rfl) (.tmp .nil))) rfl ?_
 have e : treeDeleteV xs rk = ([], 1) := by
  unfold treeDeleteV; rw [HVV.out]
 rw [e]
 exact TreeOut.none _ (HB6.out.setCell (p := ⟨w.heap.size + 1, 0, none⟩) (by show w.heap.size ≤ w.heap.size + 1; omega) _)
theorem treeDelete_any (w : World) (xs : List It) (A : Option Addr) (c : Nat) (rk : Int) (hm : xs.length ≤ 1048576) (hr : Kd.C QBase.k54 w A xs.length xs) (hc : xs.length ≤ c) (hg : HG w) :
  Calls Tryd.prog 33 #[.agg #[.slice A xs.length c], .int .i64 rk] w (TreeOut w (treeDeleteV xs rk)) := by
 by_cases cin : 0 ≤ rk ∧ rk ≤ (xs.length : Int) - 1
 all_goals rcases hV : grownV xs with _ | t
 ·exact treeDelete_ny w xs A c rk hm hr hc hg cin hV
 ·exact treeDelete_yy w xs A c rk hm hr hc hg cin t hV
 ·exact treeDelete_nn w xs A c rk hm hr hc hg cin hV
 ·exact treeDelete_yn w xs A c rk hm hr hc hg cin t hV
end Go.Proofs.YtciabhncmdpeeaaDoor
