/- TreeSplit, walked. Conditions: at most 1048576 items; errors.errorType reads as laid. -/
import Derived.Test.YtciabhncmdpeeaaDoorTr15a
import Derived.Test.YtciabhncmdpeeaaDoorTr18
namespace Go.Proofs.YtciabhncmdpeeaaDoor
open Go.RowKit Go.Proofs.YtciabhncmdpeeaaDoorW.PrintWords Go.Proofs.YtciabhncmdpeeaaDoorW.PrintLast Go.Proofs.YtciabhncmdpeeaaDoorW.PrintMore Er
def treeSplitV (xs : List It) (rk : Int) : List It × List It × Int :=
 match grownV xs with
 | none => ([], [], 1)
 | some t => if 0 ≤ rk ∧ rk ≤ (xs.length : Int) then ((TP.flat (TP.split t rk.toNat).1 0).map toIt, (TP.flat (TP.split t rk.toNat).2 0).map toIt, 0) else ([], [], 2)
def TreeOut2 (w : World) (r : List It × List It × Int) (e : Ending) (w' : World) : Prop := ∃ v0_ v1_ : Value, e = .returned (.tuple #[.agg #[v0_], .agg #[v1_], .int .i64 r.2.2]) ∧ Kd.R QBase.k54 54 w' w.heap.size (fun _ => True) v0_ r.1 ∧ Kd.R QBase.k54 54 w' w.heap.size (fun _ => True) v1_ r.2.1 ∧ Below w.heap.size w w' ∧ ∀ k, v0_.ownBlock = some k → v1_.ownBlock ≠ some k
set_option maxHeartbeats 16000000 in
set_option maxRecDepth 100000 in
theorem treeSplit_yy (w : World) (xs : List It) (A : Option Addr) (c : Nat) (rk : Int) (hm : xs.length ≤ 1048576) (hr : Kd.C QBase.k54 w A xs.length xs) (hc : xs.length ≤ c) (hg : HG w) (cin : 0 ≤ rk ∧ rk ≤ (xs.length : Int)) (t : Tree) (hV : grownV xs = some t) :
  Calls Tryd.prog 25 #[.agg #[.slice A xs.length c], .int .i64 rk] w (TreeOut2 w (treeSplitV xs rk)) := by
 obtain ⟨w0, e0⟩ : ∃ y, w.alloc (.cells #[.slice A xs.length c] 30) = y := ⟨_, rfl⟩
 have hb0 : Below w.heap.size w w0 := by subst e0; exact (Below.refl _ w).alloc (Nat.le_refl _) _
 have hx0 : w0.heap[w.heap.size]? = some (.cells #[.slice A xs.length c] 30 (0, 0)) := by subst e0; exact blk_new w (.cells #[.slice A xs.length c] 30)
 have z0 : w0.heap.size = w.heap.size + 1 := by subst e0; simp
 obtain ⟨w1, e1⟩ : ∃ y, w0.alloc (.cells #[.slice none 0 0] 30) = y := ⟨_, rfl⟩
 have hb1 : Below w0.heap.size w0 w1 := by subst e1; exact (Below.refl _ w0).alloc (Nat.le_refl _) _
 have hy1 : w1.heap[w.heap.size + 1]? = some (.cells #[.slice none 0 0] 30 (0, 0)) := by rw [← z0]; subst e1; exact blk_new w0 (.cells #[.slice none 0 0] 30)
 have z1 : w1.heap.size = w.heap.size + 1 + 1 := by rw [← z0]; subst e1; simp
 obtain ⟨w2, e2⟩ : ∃ y, w1.alloc (.cells #[.slice none 0 0] 30) = y := ⟨_, rfl⟩
 have hb2 : Below w1.heap.size w1 w2 := by subst e2; exact (Below.refl _ w1).alloc (Nat.le_refl _) _
 have HZ2 : Aside0 (w2.heap[w.heap.size + 1 + 1]? = some (.cells #[.slice none 0 0] 30 (0, 0))) := ⟨by rw [← z1]; subst e2; exact blk_new w1 (.cells #[.slice none 0 0] 30)⟩
 have HY2 : Aside0 (w2.heap[w.heap.size + 1]? = some (.cells #[.slice none 0 0] 30 (0, 0))) := ⟨blk_below hy1 hb2⟩
 have HB2 : Aside0 (Below w.heap.size w w2) := ⟨below_step (below_step hb0 hb1) hb2⟩
 have HX2 : Aside0 (w2.heap[w.heap.size]? = some (.cells #[.slice A xs.length c] 30 (0, 0))) := ⟨blk_below (blk_below hx0 hb1) hb2⟩
 have hlt2 : Aside0 (w.heap.size + 1 < w2.heap.size) := ⟨blk_lt HY2.out⟩
 have hlz2 : Aside0 (w.heap.size + 1 + 1 < w2.heap.size) := ⟨blk_lt HZ2.out⟩
 have q0 : w2.cell? ⟨w.heap.size, 0, none⟩ = some (.slice A xs.length c) := (blk_cell HX2.out 0).trans rfl
 have HR := Aside0.mk (Kd.C_below hr HB2.out)
 have HG0 := Aside0.mk hg
 clear hr hg hb0 hb1 hb2 hx0 hy1
 go_enter Tryd.func25, Tryd.ntmps25
 go_wp2_with fail
 refine (grown_any w2 xs A c hm HR.out hc).mono ?_
 intro e w3 hp
 obtain ⟨hb3, hp⟩ := hp
 have HB3 := Aside0.mk (below_step HB2.out hb3)
 have HX3 := Aside0.mk (blk_below HX2.out hb3)
 have HY3 := Aside0.mk (blk_below HY2.out hb3)
 have HZ3 := Aside0.mk (blk_below HZ2.out hb3)
 clear hb3 q0 e0 e1 e2 z0 z1
 have q0 : w3.cell? ⟨w.heap.size, 0, none⟩ = some (.slice A xs.length c) := (blk_cell HX3.out 0).trans rfl
 rcases hp with ⟨t2, pt, S, hV', rfl, hrep, hnd, hS⟩ | ⟨hV', pt, s, v, rfl, hsum, hE⟩
 case inr => rw [hV] at hV'; cases hV'
 have ht : t = t2 := by rw [hV] at hV'; exact Option.some.inj hV'
 subst ht
 obtain ⟨hf, hrl, hrb, hcn⟩ := grownV_fine hV
 have hx8 : xs.length ≤ 8192 := (grownV_toL hV).2.2.2.1
 have HPt := Aside0.mk hrep
 have HF := Aside0.mk hf
 have HV := Aside0.mk hV
 have HND := Aside0.mk hnd
 have HS := Aside0.mk hS
 have HCN := Aside0.mk hcn
 clear hV hV' hrep hf hrl hcn hS hnd
 have CD : Aside0 (∀ m : Int, m = (xs.length : Int) → decide (0 ≤ rk ∧ rk ≤ m) = true) := ⟨fun m hm => decide_eq_true (by subst hm; exact cin)⟩
 go_wp2_with fail
 refine (within_any w3 rk 0 _).mono ?_
 rintro e w' ⟨rfl, hw⟩
 rw [hw]
 clear hw w'
 first | rw [CD.out _ rfl] | rw [CD.out _ (by unfold wrap64; omega)]
 go_wp2_with fail
 refine (unless_t w3 2).mono ?_
 rintro e w' ⟨rfl, hw⟩
 rw [hw]
 clear hw w'
 go_wp2_with fail
 refine (firstOf2 _ w3.heap.size none none (by simp [ev]) (by simp [ev])).mono ?_
 rintro e w' ⟨rfl, hw⟩
 rw [hw]
 clear hw w'
 simp only [ev, firstE]
 obtain ⟨w5, e5⟩ : ∃ y, w3.alloc (.cells #[.nilIface, .nilIface] 85) = y := ⟨_, rfl⟩
 have hb5 : Below w3.heap.size w3 w5 := by subst e5; exact (Below.refl _ w3).alloc (Nat.le_refl _) _
 rw [e5]
 clear e5
 obtain ⟨k, rfl⟩ : ∃ n : Nat, rk = n := ⟨rk.toNat, by omega⟩
 have HK : Aside0 (k ≤ TP.cnt t) := ⟨by have := HCN.out; omega⟩
 clear q0
 go_wp2_with fail
 refine (split_any t _ _ S _ k rfl (HPt.out.below hb5) HND.out (by have := HCN.out; omega) HK.out).mono ?_
 intro e w6 hq
 obtain ⟨p1, S1, p2, S2, rfl, hu, hr1, hr2, n12, fr6⟩ := hq
 have HB6 : Aside0 (Below w.heap.size w w6) := ⟨upds_below (below_step HB3.out hb5) hu (below_step HB3.out hb5).size (fun k hk => Nat.le_trans HB2.out.size (HS.out k hk))⟩
 have HY6 : Aside0 (w6.heap[w.heap.size + 1]? = _) := ⟨(hu.block _ (blk_lt (blk_below HY3.out hb5)) (fun hk => by have := HS.out _ hk; have := hlt2.out; omega)).trans (blk_below HY3.out hb5)⟩
 have HZ6 : Aside0 (w6.heap[w.heap.size + 1 + 1]? = _) := ⟨(hu.block _ (blk_lt (blk_below HZ3.out hb5)) (fun hk => by have := HS.out _ hk; have := hlz2.out; omega)).trans (blk_below HZ3.out hb5)⟩
 have HR1 := Aside0.mk hr1
 have HR2 := Aside0.mk hr2
 have HSC := Aside0.mk (split_cnt t k)
 clear hu hr1 hr2 n12 fr6
 go_wp2_with fail
 refine (told_any p1 S1 _ w6 HR1.out (by have := HSC.out; have := HCN.out; omega)).mono ?_
 rintro e w7 ⟨v, rfl, hR7, hb7⟩
 obtain ⟨A7, c7, rfl⟩ := Kd.R_slice hR7
 have HR7 := Aside0.mk hR7
 have Hb7 := Aside0.mk hb7
 obtain ⟨ys, HYS⟩ : ∃ ys, Aside0 (ys = (TP.flat (TP.split t k).1 0).map toIt) := ⟨_, ⟨rfl⟩⟩
 rw [← HYS.out] at HR7 ⊢
 clear hR7 hb7
 go_wp2_with fail
 refine (told_any p2 S2 _ w7 (HR2.out.below Hb7.out) (by have := HSC.out; have := HCN.out; omega)).mono ?_
 rintro e w8 ⟨v, rfl, hR8, hb8⟩
 obtain ⟨A8, c8, rfl⟩ := Kd.R_slice hR8
 have HR8 := Aside0.mk hR8
 have HB8 := Aside0.mk (below_step (below_step HB6.out Hb7.out) hb8)
 have HY8 := Aside0.mk (blk_below (blk_below HY6.out Hb7.out) hb8)
 have HZ8 := Aside0.mk (blk_below (blk_below HZ6.out Hb7.out) hb8)
 have HR7b := Aside0.mk (Kd.R_below HR7.out hb8)
 have hsz6 := Aside0.mk HB6.out.size
 have hsz7 := Aside0.mk Hb7.out.size
 have hlt6 := Aside0.mk (blk_lt HY6.out)
 have hlz6 := Aside0.mk (blk_lt HZ6.out)
 have y0 : w8.cell? ⟨w.heap.size + 1, 0, none⟩ = some (.slice none 0 0) := (blk_cell HY8.out 0).trans rfl
 have f0 := blk_frozen HY8.out 0
 have z0 : w8.cell? ⟨w.heap.size + 1 + 1, 0, none⟩ = some (.slice none 0 0) := (blk_cell HZ8.out 0).trans rfl
 have g0 := blk_frozen HZ8.out 0
 obtain ⟨zs, HZS⟩ : ∃ zs, Aside0 (zs = (TP.flat (TP.split t k).2 0).map toIt) := ⟨_, ⟨rfl⟩⟩
 rw [← HZS.out] at HR8 ⊢
 have BX : Aside0 (((w8.setCell ⟨w.heap.size + 1, 0, none⟩ (.slice A7 ys.length c7)).setCell ⟨w.heap.size + 1 + 1, 0, none⟩ (.slice A8 zs.length c8)).heap[w.heap.size + 1]? = some (.cells #[.slice A7 ys.length c7] 30 (0, 0))) := ⟨(Below.heap_setCell _ _ _ _ (show w.heap.size + 1 ≠ w.heap.size + 1 + 1 by omega)).trans (blk_put HY8.out 0 (.slice A7 ys.length c7) rfl)⟩
 have BZ : Aside0 (((w8.setCell ⟨w.heap.size + 1, 0, none⟩ (.slice A7 ys.length c7)).setCell ⟨w.heap.size + 1 + 1, 0, none⟩ (.slice A8 zs.length c8)).heap[w.heap.size + 1 + 1]? = some (.cells #[.slice A8 zs.length c8] 30 (0, 0))) := ⟨blk_put ((Below.heap_setCell _ _ _ _ (show w.heap.size + 1 + 1 ≠ w.heap.size + 1 by omega)).trans HZ8.out) 0 (.slice A8 zs.length c8) rfl⟩
 have CIN := Aside0.mk cin
 clear hR8 hb8 cin
 go_wp2
 refine bodyPost_ret (results_list (rs := [.cell 4 30, .cell 5 30, .tmp 6]) rfl (by simp) (.cell (w.heap.size + 1) 30 _ (0, 0) _ rfl BX.out Tryd.underlying30 rfl (by kernel_rfl) (.cell (w.heap.size + 1 + 1) 30 _ (0, 0) _ rfl BZ.out Tryd.underlying30 rfl (by kernel_rfl) (.tmp .nil)))) rfl ?_
 have e : treeSplitV xs (k : Int) = (ys, zs, 0) := by
  unfold treeSplitV; rw [HV.out]; simp only; rw [if_pos CIN.out, Int.toNat_natCast, HYS.out, HZS.out]
 rw [e]
 refine ⟨_, _, rfl, R_box (R_box HR7b.out hlt6.out (Nat.le_refl _) _) hlz6.out hsz6.out _, R_box (R_box HR8.out (Nat.lt_of_lt_of_le hlt6.out hsz7.out) (Nat.le_refl _) _) (Nat.lt_of_lt_of_le hlz6.out hsz7.out) (Nat.le_trans hsz6.out hsz7.out) _, (HB8.out.setCell (p := ⟨w.heap.size + 1, 0, none⟩) (by show w.heap.size ≤ w.heap.size + 1; omega) _).setCell (p := ⟨w.heap.size + 1 + 1, 0, none⟩) (by show w.heap.size ≤ w.heap.size + 1 + 1; omega) _, fun q h1 h2 => ?_⟩
 have k1 := (Kd.R_bound HR7.out).1 q h1
 have k2 := (Kd.R_bound HR8.out).1 q h2
 omega
set_option maxHeartbeats 16000000 in
set_option maxRecDepth 100000 in
theorem treeSplit_yn (w : World) (xs : List It) (A : Option Addr) (c : Nat) (rk : Int) (hm : xs.length ≤ 1048576) (hr : Kd.C QBase.k54 w A xs.length xs) (hc : xs.length ≤ c) (hg : HG w) (cin : ¬ (0 ≤ rk ∧ rk ≤ (xs.length : Int))) (t : Tree) (hV : grownV xs = some t) :
  Calls Tryd.prog 25 #[.agg #[.slice A xs.length c], .int .i64 rk] w (TreeOut2 w (treeSplitV xs rk)) := by
 obtain ⟨w0, e0⟩ : ∃ y, w.alloc (.cells #[.slice A xs.length c] 30) = y := ⟨_, rfl⟩
 have hb0 : Below w.heap.size w w0 := by subst e0; exact (Below.refl _ w).alloc (Nat.le_refl _) _
 have hx0 : w0.heap[w.heap.size]? = some (.cells #[.slice A xs.length c] 30 (0, 0)) := by subst e0; exact blk_new w (.cells #[.slice A xs.length c] 30)
 have z0 : w0.heap.size = w.heap.size + 1 := by subst e0; simp
 obtain ⟨w1, e1⟩ : ∃ y, w0.alloc (.cells #[.slice none 0 0] 30) = y := ⟨_, rfl⟩
 have hb1 : Below w0.heap.size w0 w1 := by subst e1; exact (Below.refl _ w0).alloc (Nat.le_refl _) _
 have hy1 : w1.heap[w.heap.size + 1]? = some (.cells #[.slice none 0 0] 30 (0, 0)) := by rw [← z0]; subst e1; exact blk_new w0 (.cells #[.slice none 0 0] 30)
 have z1 : w1.heap.size = w.heap.size + 1 + 1 := by rw [← z0]; subst e1; simp
 obtain ⟨w2, e2⟩ : ∃ y, w1.alloc (.cells #[.slice none 0 0] 30) = y := ⟨_, rfl⟩
 have hb2 : Below w1.heap.size w1 w2 := by subst e2; exact (Below.refl _ w1).alloc (Nat.le_refl _) _
 have HZ2 : Aside0 (w2.heap[w.heap.size + 1 + 1]? = some (.cells #[.slice none 0 0] 30 (0, 0))) := ⟨by rw [← z1]; subst e2; exact blk_new w1 (.cells #[.slice none 0 0] 30)⟩
 have HY2 : Aside0 (w2.heap[w.heap.size + 1]? = some (.cells #[.slice none 0 0] 30 (0, 0))) := ⟨blk_below hy1 hb2⟩
 have HB2 : Aside0 (Below w.heap.size w w2) := ⟨below_step (below_step hb0 hb1) hb2⟩
 have HX2 : Aside0 (w2.heap[w.heap.size]? = some (.cells #[.slice A xs.length c] 30 (0, 0))) := ⟨blk_below (blk_below hx0 hb1) hb2⟩
 have hlt2 : Aside0 (w.heap.size + 1 < w2.heap.size) := ⟨blk_lt HY2.out⟩
 have hlz2 : Aside0 (w.heap.size + 1 + 1 < w2.heap.size) := ⟨blk_lt HZ2.out⟩
 have q0 : w2.cell? ⟨w.heap.size, 0, none⟩ = some (.slice A xs.length c) := (blk_cell HX2.out 0).trans rfl
 have HR := Aside0.mk (Kd.C_below hr HB2.out)
 have HG0 := Aside0.mk hg
 clear hr hg hb0 hb1 hb2 hx0 hy1
 go_enter Tryd.func25, Tryd.ntmps25
 go_wp2_with fail
 refine (grown_any w2 xs A c hm HR.out hc).mono ?_
 intro e w3 hp
 obtain ⟨hb3, hp⟩ := hp
 have HB3 := Aside0.mk (below_step HB2.out hb3)
 have HX3 := Aside0.mk (blk_below HX2.out hb3)
 have HY3 := Aside0.mk (blk_below HY2.out hb3)
 have HZ3 := Aside0.mk (blk_below HZ2.out hb3)
 clear hb3 q0 e0 e1 e2 z0 z1
 have q0 : w3.cell? ⟨w.heap.size, 0, none⟩ = some (.slice A xs.length c) := (blk_cell HX3.out 0).trans rfl
 rcases hp with ⟨t2, pt, S, hV', rfl, hrep, hnd, hS⟩ | ⟨hV', pt, s, v, rfl, hsum, hE⟩
 case inr => rw [hV] at hV'; cases hV'
 have ht : t = t2 := by rw [hV] at hV'; exact Option.some.inj hV'
 subst ht
 obtain ⟨hf, hrl, hrb, hcn⟩ := grownV_fine hV
 have hx8 : xs.length ≤ 8192 := (grownV_toL hV).2.2.2.1
 have HPt := Aside0.mk hrep
 have HF := Aside0.mk hf
 have HV := Aside0.mk hV
 have HND := Aside0.mk hnd
 have HS := Aside0.mk hS
 have HCN := Aside0.mk hcn
 clear hV hV' hrep hf hrl hcn hS hnd
 have CD : Aside0 (∀ m : Int, m = (xs.length : Int) → decide (0 ≤ rk ∧ rk ≤ m) = false) := ⟨fun m hm => decide_eq_false (by subst hm; exact cin)⟩
 go_wp2_with fail
 refine (within_any w3 rk 0 _).mono ?_
 rintro e w' ⟨rfl, hw⟩
 rw [hw]
 clear hw w'
 first | rw [CD.out _ rfl] | rw [CD.out _ (by unfold wrap64; omega)]
 go_wp2_with fail
 refine (unless_f w3 2).mono ?_
 rintro e w' ⟨rfl, hw⟩
 rw [hw]
 clear hw w'
 go_wp2_with fail
 refine (firstOf2 _ w3.heap.size none (some (129, .int .i64 2)) (by simp [ev]) (by simp [ev])).mono ?_
 rintro e w' ⟨rfl, hw⟩
 rw [hw]
 clear hw w'
 simp only [ev, firstE]
 obtain ⟨w5, e5⟩ : ∃ y, w3.alloc (.cells #[.nilIface, .iface 129 (.int .i64 2)] 85) = y := ⟨_, rfl⟩
 have hb5 : Below w3.heap.size w3 w5 := by subst e5; exact (Below.refl _ w3).alloc (Nat.le_refl _) _
 rw [e5]
 clear e5
 have CIN := Aside0.mk cin
 clear cin
 go_wp2_with fail
 refine (codeOf_any _ 2 _ (HG0.out.below (below_step HB3.out hb5)) (.inl rfl)).mono ?_
 rintro e w6 ⟨rfl, hb6⟩
 have HB6 := Aside0.mk (below_step (below_step HB3.out hb5) hb6)
 have HY6 := Aside0.mk (blk_below (blk_below HY3.out hb5) hb6)
 have y0 : w6.cell? ⟨w.heap.size + 1, 0, none⟩ = some (.slice none 0 0) := (blk_cell HY6.out 0).trans rfl
 have f0 := blk_frozen HY6.out 0
 have HZ6 := Aside0.mk (blk_below (blk_below HZ3.out hb5) hb6)
 have z0 : w6.cell? ⟨w.heap.size + 1 + 1, 0, none⟩ = some (.slice none 0 0) := (blk_cell HZ6.out 0).trans rfl
 have g0 := blk_frozen HZ6.out 0
 have BX : Aside0 (((w6.setCell ⟨w.heap.size + 1, 0, none⟩ (.slice none 0 0)).setCell ⟨w.heap.size + 1 + 1, 0, none⟩ (.slice none 0 0)).heap[w.heap.size + 1]? = some (.cells #[.slice none 0 0] 30 (0, 0))) := ⟨(Below.heap_setCell _ _ _ _ (show w.heap.size + 1 ≠ w.heap.size + 1 + 1 by omega)).trans (blk_put HY6.out 0 (.slice none 0 0) rfl)⟩
 have BZ : Aside0 (((w6.setCell ⟨w.heap.size + 1, 0, none⟩ (.slice none 0 0)).setCell ⟨w.heap.size + 1 + 1, 0, none⟩ (.slice none 0 0)).heap[w.heap.size + 1 + 1]? = some (.cells #[.slice none 0 0] 30 (0, 0))) := ⟨blk_put ((Below.heap_setCell _ _ _ _ (show w.heap.size + 1 + 1 ≠ w.heap.size + 1 by omega)).trans HZ6.out) 0 (.slice none 0 0) rfl⟩
 clear hb5 hb6 q0
 go_wp2
 refine bodyPost_ret (results_list (rs := [.cell 4 30, .cell 5 30, .tmp 6]) rfl (by simp) (.cell (w.heap.size + 1) 30 _ (0, 0) _ rfl BX.out Tryd.underlying30 rfl (by kernel_rfl) (.cell (w.heap.size + 1 + 1) 30 _ (0, 0) _ rfl BZ.out Tryd.underlying30 rfl (by kernel_rfl) (.tmp .nil)))) rfl ?_
 have e : treeSplitV xs rk = ([], [], 2) := by
  unfold treeSplitV; rw [HV.out]; simp only; rw [if_neg CIN.out]
 rw [e]
 exact ⟨_, _, rfl, Kd.R_nil _ _ _ _ _, Kd.R_nil _ _ _ _ _, (HB6.out.setCell (p := ⟨w.heap.size + 1, 0, none⟩) (by show w.heap.size ≤ w.heap.size + 1; omega) _).setCell (p := ⟨w.heap.size + 1 + 1, 0, none⟩) (by show w.heap.size ≤ w.heap.size + 1 + 1; omega) _, fun q h1 h2 => by cases h1⟩
set_option maxHeartbeats 16000000 in
set_option maxRecDepth 100000 in
theorem treeSplit_ny (w : World) (xs : List It) (A : Option Addr) (c : Nat) (rk : Int) (hm : xs.length ≤ 1048576) (hr : Kd.C QBase.k54 w A xs.length xs) (hc : xs.length ≤ c) (hg : HG w) (cin : 0 ≤ rk ∧ rk ≤ (xs.length : Int)) (hV : grownV xs = none) :
  Calls Tryd.prog 25 #[.agg #[.slice A xs.length c], .int .i64 rk] w (TreeOut2 w (treeSplitV xs rk)) := by
 obtain ⟨w0, e0⟩ : ∃ y, w.alloc (.cells #[.slice A xs.length c] 30) = y := ⟨_, rfl⟩
 have hb0 : Below w.heap.size w w0 := by subst e0; exact (Below.refl _ w).alloc (Nat.le_refl _) _
 have hx0 : w0.heap[w.heap.size]? = some (.cells #[.slice A xs.length c] 30 (0, 0)) := by subst e0; exact blk_new w (.cells #[.slice A xs.length c] 30)
 have z0 : w0.heap.size = w.heap.size + 1 := by subst e0; simp
 obtain ⟨w1, e1⟩ : ∃ y, w0.alloc (.cells #[.slice none 0 0] 30) = y := ⟨_, rfl⟩
 have hb1 : Below w0.heap.size w0 w1 := by subst e1; exact (Below.refl _ w0).alloc (Nat.le_refl _) _
 have hy1 : w1.heap[w.heap.size + 1]? = some (.cells #[.slice none 0 0] 30 (0, 0)) := by rw [← z0]; subst e1; exact blk_new w0 (.cells #[.slice none 0 0] 30)
 have z1 : w1.heap.size = w.heap.size + 1 + 1 := by rw [← z0]; subst e1; simp
 obtain ⟨w2, e2⟩ : ∃ y, w1.alloc (.cells #[.slice none 0 0] 30) = y := ⟨_, rfl⟩
 have hb2 : Below w1.heap.size w1 w2 := by subst e2; exact (Below.refl _ w1).alloc (Nat.le_refl _) _
 have HZ2 : Aside0 (w2.heap[w.heap.size + 1 + 1]? = some (.cells #[.slice none 0 0] 30 (0, 0))) := ⟨by rw [← z1]; subst e2; exact blk_new w1 (.cells #[.slice none 0 0] 30)⟩
 have HY2 : Aside0 (w2.heap[w.heap.size + 1]? = some (.cells #[.slice none 0 0] 30 (0, 0))) := ⟨blk_below hy1 hb2⟩
 have HB2 : Aside0 (Below w.heap.size w w2) := ⟨below_step (below_step hb0 hb1) hb2⟩
 have HX2 : Aside0 (w2.heap[w.heap.size]? = some (.cells #[.slice A xs.length c] 30 (0, 0))) := ⟨blk_below (blk_below hx0 hb1) hb2⟩
 have hlt2 : Aside0 (w.heap.size + 1 < w2.heap.size) := ⟨blk_lt HY2.out⟩
 have hlz2 : Aside0 (w.heap.size + 1 + 1 < w2.heap.size) := ⟨blk_lt HZ2.out⟩
 have q0 : w2.cell? ⟨w.heap.size, 0, none⟩ = some (.slice A xs.length c) := (blk_cell HX2.out 0).trans rfl
 have HR := Aside0.mk (Kd.C_below hr HB2.out)
 have HG0 := Aside0.mk hg
 clear hr hg hb0 hb1 hb2 hx0 hy1
 go_enter Tryd.func25, Tryd.ntmps25
 go_wp2_with fail
 refine (grown_any w2 xs A c hm HR.out hc).mono ?_
 intro e w3 hp
 obtain ⟨hb3, hp⟩ := hp
 have HB3 := Aside0.mk (below_step HB2.out hb3)
 have HX3 := Aside0.mk (blk_below HX2.out hb3)
 have HY3 := Aside0.mk (blk_below HY2.out hb3)
 have HZ3 := Aside0.mk (blk_below HZ2.out hb3)
 clear hb3 q0 e0 e1 e2 z0 z1
 have q0 : w3.cell? ⟨w.heap.size, 0, none⟩ = some (.slice A xs.length c) := (blk_cell HX3.out 0).trans rfl
 rcases hp with ⟨t2, pt, S, hV2, rfl, hrep, hnd, hS⟩ | ⟨hV2, pt, sm4, v, rfl, hsum, hE⟩
 case inl => rw [hV] at hV2; cases hV2
 obtain ⟨TT, xx, rfl⟩ := errIs_ev hE
 simp only [ev] at hE ⊢
 have HE := Aside0.mk hE
 have HVV := Aside0.mk hV
 clear hV hV2 hE hsum
 have CD : Aside0 (∀ m : Int, m = (xs.length : Int) → decide (0 ≤ rk ∧ rk ≤ m) = true) := ⟨fun m hm => decide_eq_true (by subst hm; exact cin)⟩
 go_wp2_with fail
 refine (within_any w3 rk 0 _).mono ?_
 rintro e w' ⟨rfl, hw⟩
 rw [hw]
 clear hw w'
 first | rw [CD.out _ rfl] | rw [CD.out _ (by unfold wrap64; omega)]
 go_wp2_with fail
 refine (unless_t w3 2).mono ?_
 rintro e w' ⟨rfl, hw⟩
 rw [hw]
 clear hw w'
 go_wp2_with fail
 refine (firstOf2 _ w3.heap.size (some (TT, xx)) none (by simp [ev]) (by simp [ev])).mono ?_
 rintro e w' ⟨rfl, hw⟩
 rw [hw]
 clear hw w'
 simp only [ev, firstE]
 obtain ⟨w5, e5⟩ : ∃ y, w3.alloc (.cells #[.iface TT xx, .nilIface] 85) = y := ⟨_, rfl⟩
 have hb5 : Below w3.heap.size w3 w5 := by subst e5; exact (Below.refl _ w3).alloc (Nat.le_refl _) _
 rw [e5]
 clear e5
 clear cin
 go_wp2_with fail
 refine (codeOf_any _ 1 _ (HG0.out.below (below_step HB3.out hb5)) (HE.out.below hb5)).mono ?_
 rintro e w6 ⟨rfl, hb6⟩
 have HB6 := Aside0.mk (below_step (below_step HB3.out hb5) hb6)
 have HY6 := Aside0.mk (blk_below (blk_below HY3.out hb5) hb6)
 have y0 : w6.cell? ⟨w.heap.size + 1, 0, none⟩ = some (.slice none 0 0) := (blk_cell HY6.out 0).trans rfl
 have f0 := blk_frozen HY6.out 0
 have HZ6 := Aside0.mk (blk_below (blk_below HZ3.out hb5) hb6)
 have z0 : w6.cell? ⟨w.heap.size + 1 + 1, 0, none⟩ = some (.slice none 0 0) := (blk_cell HZ6.out 0).trans rfl
 have g0 := blk_frozen HZ6.out 0
 have BX : Aside0 (((w6.setCell ⟨w.heap.size + 1, 0, none⟩ (.slice none 0 0)).setCell ⟨w.heap.size + 1 + 1, 0, none⟩ (.slice none 0 0)).heap[w.heap.size + 1]? = some (.cells #[.slice none 0 0] 30 (0, 0))) := ⟨(Below.heap_setCell _ _ _ _ (show w.heap.size + 1 ≠ w.heap.size + 1 + 1 by omega)).trans (blk_put HY6.out 0 (.slice none 0 0) rfl)⟩
 have BZ : Aside0 (((w6.setCell ⟨w.heap.size + 1, 0, none⟩ (.slice none 0 0)).setCell ⟨w.heap.size + 1 + 1, 0, none⟩ (.slice none 0 0)).heap[w.heap.size + 1 + 1]? = some (.cells #[.slice none 0 0] 30 (0, 0))) := ⟨blk_put ((Below.heap_setCell _ _ _ _ (show w.heap.size + 1 + 1 ≠ w.heap.size + 1 by omega)).trans HZ6.out) 0 (.slice none 0 0) rfl⟩
 clear hb5 hb6 q0
 go_wp2
 refine bodyPost_ret (results_list (rs := [.cell 4 30, .cell 5 30, .tmp 6]) rfl (by simp) (.cell (w.heap.size + 1) 30 _ (0, 0) _ rfl BX.out Tryd.underlying30 rfl (by kernel_rfl) (.cell (w.heap.size + 1 + 1) 30 _ (0, 0) _ rfl BZ.out Tryd.underlying30 rfl (by kernel_rfl) (.tmp .nil)))) rfl ?_
 have e : treeSplitV xs rk = ([], [], 1) := by
  unfold treeSplitV; rw [HVV.out]
 rw [e]
 exact ⟨_, _, rfl, Kd.R_nil _ _ _ _ _, Kd.R_nil _ _ _ _ _, (HB6.out.setCell (p := ⟨w.heap.size + 1, 0, none⟩) (by show w.heap.size ≤ w.heap.size + 1; omega) _).setCell (p := ⟨w.heap.size + 1 + 1, 0, none⟩) (by show w.heap.size ≤ w.heap.size + 1 + 1; omega) _, fun q h1 h2 => by cases h1⟩
set_option maxHeartbeats 16000000 in
set_option maxRecDepth 100000 in
theorem treeSplit_nn (w : World) (xs : List It) (A : Option Addr) (c : Nat) (rk : Int) (hm : xs.length ≤ 1048576) (hr : Kd.C QBase.k54 w A xs.length xs) (hc : xs.length ≤ c) (hg : HG w) (cin : ¬ (0 ≤ rk ∧ rk ≤ (xs.length : Int))) (hV : grownV xs = none) :
  Calls Tryd.prog 25 #[.agg #[.slice A xs.length c], .int .i64 rk] w (TreeOut2 w (treeSplitV xs rk)) := by
 obtain ⟨w0, e0⟩ : ∃ y, w.alloc (.cells #[.slice A xs.length c] 30) = y := ⟨_, rfl⟩
 have hb0 : Below w.heap.size w w0 := by subst e0; exact (Below.refl _ w).alloc (Nat.le_refl _) _
 have hx0 : w0.heap[w.heap.size]? = some (.cells #[.slice A xs.length c] 30 (0, 0)) := by subst e0; exact blk_new w (.cells #[.slice A xs.length c] 30)
 have z0 : w0.heap.size = w.heap.size + 1 := by subst e0; simp
 obtain ⟨w1, e1⟩ : ∃ y, w0.alloc (.cells #[.slice none 0 0] 30) = y := ⟨_, rfl⟩
 have hb1 : Below w0.heap.size w0 w1 := by subst e1; exact (Below.refl _ w0).alloc (Nat.le_refl _) _
 have hy1 : w1.heap[w.heap.size + 1]? = some (.cells #[.slice none 0 0] 30 (0, 0)) := by rw [← z0]; subst e1; exact blk_new w0 (.cells #[.slice none 0 0] 30)
 have z1 : w1.heap.size = w.heap.size + 1 + 1 := by rw [← z0]; subst e1; simp
 obtain ⟨w2, e2⟩ : ∃ y, w1.alloc (.cells #[.slice none 0 0] 30) = y := ⟨_, rfl⟩
 have hb2 : Below w1.heap.size w1 w2 := by subst e2; exact (Below.refl _ w1).alloc (Nat.le_refl _) _
 have HZ2 : Aside0 (w2.heap[w.heap.size + 1 + 1]? = some (.cells #[.slice none 0 0] 30 (0, 0))) := ⟨by rw [← z1]; subst e2; exact blk_new w1 (.cells #[.slice none 0 0] 30)⟩
 have HY2 : Aside0 (w2.heap[w.heap.size + 1]? = some (.cells #[.slice none 0 0] 30 (0, 0))) := ⟨blk_below hy1 hb2⟩
 have HB2 : Aside0 (Below w.heap.size w w2) := ⟨below_step (below_step hb0 hb1) hb2⟩
 have HX2 : Aside0 (w2.heap[w.heap.size]? = some (.cells #[.slice A xs.length c] 30 (0, 0))) := ⟨blk_below (blk_below hx0 hb1) hb2⟩
 have hlt2 : Aside0 (w.heap.size + 1 < w2.heap.size) := ⟨blk_lt HY2.out⟩
 have hlz2 : Aside0 (w.heap.size + 1 + 1 < w2.heap.size) := ⟨blk_lt HZ2.out⟩
 have q0 : w2.cell? ⟨w.heap.size, 0, none⟩ = some (.slice A xs.length c) := (blk_cell HX2.out 0).trans rfl
 have HR := Aside0.mk (Kd.C_below hr HB2.out)
 have HG0 := Aside0.mk hg
 clear hr hg hb0 hb1 hb2 hx0 hy1
 go_enter Tryd.func25, Tryd.ntmps25
 go_wp2_with fail
 refine (grown_any w2 xs A c hm HR.out hc).mono ?_
 intro e w3 hp
 obtain ⟨hb3, hp⟩ := hp
 have HB3 := Aside0.mk (below_step HB2.out hb3)
 have HX3 := Aside0.mk (blk_below HX2.out hb3)
 have HY3 := Aside0.mk (blk_below HY2.out hb3)
 have HZ3 := Aside0.mk (blk_below HZ2.out hb3)
 clear hb3 q0 e0 e1 e2 z0 z1
 have q0 : w3.cell? ⟨w.heap.size, 0, none⟩ = some (.slice A xs.length c) := (blk_cell HX3.out 0).trans rfl
 rcases hp with ⟨t2, pt, S, hV2, rfl, hrep, hnd, hS⟩ | ⟨hV2, pt, sm4, v, rfl, hsum, hE⟩
 case inl => rw [hV] at hV2; cases hV2
 obtain ⟨TT, xx, rfl⟩ := errIs_ev hE
 simp only [ev] at hE ⊢
 have HE := Aside0.mk hE
 have HVV := Aside0.mk hV
 clear hV hV2 hE hsum
 have CD : Aside0 (∀ m : Int, m = (xs.length : Int) → decide (0 ≤ rk ∧ rk ≤ m) = false) := ⟨fun m hm => decide_eq_false (by subst hm; exact cin)⟩
 go_wp2_with fail
 refine (within_any w3 rk 0 _).mono ?_
 rintro e w' ⟨rfl, hw⟩
 rw [hw]
 clear hw w'
 first | rw [CD.out _ rfl] | rw [CD.out _ (by unfold wrap64; omega)]
 go_wp2_with fail
 refine (unless_f w3 2).mono ?_
 rintro e w' ⟨rfl, hw⟩
 rw [hw]
 clear hw w'
 go_wp2_with fail
 refine (firstOf2 _ w3.heap.size (some (TT, xx)) (some (129, .int .i64 2)) (by simp [ev]) (by simp [ev])).mono ?_
 rintro e w' ⟨rfl, hw⟩
 rw [hw]
 clear hw w'
 simp only [ev, firstE]
 obtain ⟨w5, e5⟩ : ∃ y, w3.alloc (.cells #[.iface TT xx, .iface 129 (.int .i64 2)] 85) = y := ⟨_, rfl⟩
 have hb5 : Below w3.heap.size w3 w5 := by subst e5; exact (Below.refl _ w3).alloc (Nat.le_refl _) _
 rw [e5]
 clear e5
 clear cin
 go_wp2_with fail
 refine (codeOf_any _ 1 _ (HG0.out.below (below_step HB3.out hb5)) (HE.out.below hb5)).mono ?_
 rintro e w6 ⟨rfl, hb6⟩
 have HB6 := Aside0.mk (below_step (below_step HB3.out hb5) hb6)
 have HY6 := Aside0.mk (blk_below (blk_below HY3.out hb5) hb6)
 have y0 : w6.cell? ⟨w.heap.size + 1, 0, none⟩ = some (.slice none 0 0) := (blk_cell HY6.out 0).trans rfl
 have f0 := blk_frozen HY6.out 0
 have HZ6 := Aside0.mk (blk_below (blk_below HZ3.out hb5) hb6)
 have z0 : w6.cell? ⟨w.heap.size + 1 + 1, 0, none⟩ = some (.slice none 0 0) := (blk_cell HZ6.out 0).trans rfl
 have g0 := blk_frozen HZ6.out 0
 have BX : Aside0 (((w6.setCell ⟨w.heap.size + 1, 0, none⟩ (.slice none 0 0)).setCell ⟨w.heap.size + 1 + 1, 0, none⟩ (.slice none 0 0)).heap[w.heap.size + 1]? = some (.cells #[.slice none 0 0] 30 (0, 0))) := ⟨(Below.heap_setCell _ _ _ _ (show w.heap.size + 1 ≠ w.heap.size + 1 + 1 by omega)).trans (blk_put HY6.out 0 (.slice none 0 0) rfl)⟩
 have BZ : Aside0 (((w6.setCell ⟨w.heap.size + 1, 0, none⟩ (.slice none 0 0)).setCell ⟨w.heap.size + 1 + 1, 0, none⟩ (.slice none 0 0)).heap[w.heap.size + 1 + 1]? = some (.cells #[.slice none 0 0] 30 (0, 0))) := ⟨blk_put ((Below.heap_setCell _ _ _ _ (show w.heap.size + 1 + 1 ≠ w.heap.size + 1 by omega)).trans HZ6.out) 0 (.slice none 0 0) rfl⟩
 clear hb5 hb6 q0
 go_wp2
 refine bodyPost_ret (results_list (rs := [.cell 4 30, .cell 5 30, .tmp 6]) rfl (by simp) (.cell (w.heap.size + 1) 30 _ (0, 0) _ rfl BX.out Tryd.underlying30 rfl (by kernel_rfl) (.cell (w.heap.size + 1 + 1) 30 _ (0, 0) _ rfl BZ.out Tryd.underlying30 rfl (by kernel_rfl) (.tmp .nil)))) rfl ?_
 have e : treeSplitV xs rk = ([], [], 1) := by
  unfold treeSplitV; rw [HVV.out]
 rw [e]
 exact ⟨_, _, rfl, Kd.R_nil _ _ _ _ _, Kd.R_nil _ _ _ _ _, (HB6.out.setCell (p := ⟨w.heap.size + 1, 0, none⟩) (by show w.heap.size ≤ w.heap.size + 1; omega) _).setCell (p := ⟨w.heap.size + 1 + 1, 0, none⟩) (by show w.heap.size ≤ w.heap.size + 1 + 1; omega) _, fun q h1 h2 => by cases h1⟩
theorem treeSplit_any (w : World) (xs : List It) (A : Option Addr) (c : Nat) (rk : Int) (hm : xs.length ≤ 1048576) (hr : Kd.C QBase.k54 w A xs.length xs) (hc : xs.length ≤ c) (hg : HG w) :
  Calls Tryd.prog 25 #[.agg #[.slice A xs.length c], .int .i64 rk] w (TreeOut2 w (treeSplitV xs rk)) := by
 by_cases cin : 0 ≤ rk ∧ rk ≤ (xs.length : Int)
 all_goals rcases hV : grownV xs with _ | t
 ·exact treeSplit_ny w xs A c rk hm hr hc hg cin hV
 ·exact treeSplit_yy w xs A c rk hm hr hc hg cin t hV
 ·exact treeSplit_nn w xs A c rk hm hr hc hg cin hV
 ·exact treeSplit_yn w xs A c rk hm hr hc hg cin t hV
end Go.Proofs.YtciabhncmdpeeaaDoor
