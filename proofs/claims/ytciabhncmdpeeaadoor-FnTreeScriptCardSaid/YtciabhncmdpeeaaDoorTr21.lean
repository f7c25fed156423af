/- TreeJoin, walked. Conditions: at most 1048576 items each; errors.errorType reads as laid. -/
import Derived.Test.YtciabhncmdpeeaaDoorTr15a
import Derived.Test.YtciabhncmdpeeaaDoorTr19
namespace Go.Proofs.YtciabhncmdpeeaaDoor
open Go.RowKit Go.Proofs.YtciabhncmdpeeaaDoorW.PrintWords Go.Proofs.YtciabhncmdpeeaaDoorW.PrintLast Go.Proofs.YtciabhncmdpeeaaDoorW.PrintMore Er
def treeJoinV (xs ys : List It) : List It × Int :=
 match grownV xs, grownV ys with
 | some t, some u => if rl t + rl u ≤ 8192 then ((TP.flat (TP.together t u) 0).map toIt, 0) else ([], 10)
 | _, _ => ([], 1)
theorem firstOf3 (w : World) (g : Nat) (a b c : EV) (h0 : w.cell? ⟨g, 0, none⟩ = some (ev a)) (h1 : w.cell? ⟨g, 1, none⟩ = some (ev b)) (h2 : w.cell? ⟨g, 2, none⟩ = some (ev c)) :
  Calls Tryd.prog 58 #[.slice (some ⟨g, 0, none⟩) 3 3] w fun e w' => e = .returned (ev (firstE [a, b, c])) ∧ w' = w :=
 firstOf_any w g [a, b, c] (by simp) (fun i v h => by
  rcases i with _ | _ | _ | i
  ·simp at h; subst h; exact h0
  ·simp at h; subst h; exact h1
  ·simp at h; subst h; exact h2
  ·simp at h)
theorem together_cnt (a b : Tree) : TP.cnt (TP.together a b) = TP.cnt a + TP.cnt b := by
 cases a with
 | nil => simp [TP.together, TP.pick, TP.cnt]
 | node l x r =>
  cases b with
  | nil => simp [TP.together, TP.pick, TP.cnt]
  | node d z e =>
   obtain ⟨f, ys, hf, -⟩ := TP.first_cons d z e
   have := removeIn_cnt (.node d z e) 0 (TP.cnt_pos_of _ _ _)
   simp only [TP.together, TP.pick, hf, Option.elim_some]
   rw [joined_cnt _ _ _ _ (Nat.le_refl _)]
   simp only [TP.cnt] at this ⊢
   omega
set_option maxHeartbeats 100000000 in
set_option maxRecDepth 100000 in
theorem treeJoin_any (w : World) (xs ys : List It) (A B : Option Addr) (c c2 : Nat) (hm : xs.length ≤ 1048576) (hm2 : ys.length ≤ 1048576) (hr : Kd.C QBase.k54 w A xs.length xs) (hr2 : Kd.C QBase.k54 w B ys.length ys) (hc : xs.length ≤ c) (hc2 : ys.length ≤ c2) (hg : HG w) :
  Calls Tryd.prog 29 #[.agg #[.slice A xs.length c], .agg #[.slice B ys.length c2]] w (TreeOut w (treeJoinV xs ys)) := by
 obtain ⟨w0, e0⟩ : ∃ y, w.alloc (.cells #[.slice A xs.length c] 30) = y := ⟨_, rfl⟩
 have hb0 : Below w.heap.size w w0 := by subst e0; exact (Below.refl _ w).alloc (Nat.le_refl _) _
 have hx0 : w0.heap[w.heap.size]? = some (.cells #[.slice A xs.length c] 30 (0, 0)) := by subst e0; exact blk_new w (.cells #[.slice A xs.length c] 30)
 have z0 : w0.heap.size = w.heap.size + 1 := by subst e0; simp
 obtain ⟨w1, e1⟩ : ∃ y, w0.alloc (.cells #[.slice B ys.length c2] 30) = y := ⟨_, rfl⟩
 have hb1 : Below w0.heap.size w0 w1 := by subst e1; exact (Below.refl _ w0).alloc (Nat.le_refl _) _
 have hy1 : w1.heap[w.heap.size + 1]? = some (.cells #[.slice B ys.length c2] 30 (0, 0)) := by rw [← z0]; subst e1; exact blk_new w0 (.cells #[.slice B ys.length c2] 30)
 have z1 : w1.heap.size = w.heap.size + 1 + 1 := by rw [← z0]; subst e1; simp
 obtain ⟨w2, e2⟩ : ∃ y, w1.alloc (.cells #[.slice none 0 0] 30) = y := ⟨_, rfl⟩
 have hb2 : Below w1.heap.size w1 w2 := by subst e2; exact (Below.refl _ w1).alloc (Nat.le_refl _) _
 have HZ2 : Aside0 (w2.heap[w.heap.size + 1 + 1]? = some (.cells #[.slice none 0 0] 30 (0, 0))) := ⟨by rw [← z1]; subst e2; exact blk_new w1 (.cells #[.slice none 0 0] 30)⟩
 have HB2 : Aside0 (Below w.heap.size w w2) := ⟨below_step (below_step hb0 hb1) hb2⟩
 have HX2 : Aside0 (w2.heap[w.heap.size]? = some (.cells #[.slice A xs.length c] 30 (0, 0))) := ⟨blk_below (blk_below hx0 hb1) hb2⟩
 have HY2 : Aside0 (w2.heap[w.heap.size + 1]? = some (.cells #[.slice B ys.length c2] 30 (0, 0))) := ⟨blk_below hy1 hb2⟩
 have hlz2 : Aside0 (w.heap.size + 1 + 1 < w2.heap.size) := ⟨blk_lt HZ2.out⟩
 have q0 : w2.cell? ⟨w.heap.size, 0, none⟩ = some (.slice A xs.length c) := (blk_cell HX2.out 0).trans rfl
 have HR := Aside0.mk (Kd.C_below hr HB2.out)
 have HR2 := Aside0.mk hr2
 have HG0 := Aside0.mk hg
 clear hr hr2 hg hb0 hb1 hb2 hx0 hy1
 go_enter Tryd.func29, Tryd.ntmps29
 go_wp2_with fail
 refine (grown_any w2 xs A c hm HR.out hc).mono ?_
 intro e w3 hp
 obtain ⟨hb3, hp⟩ := hp
 have H23 : Aside0 (w2.heap.size ≤ w3.heap.size) := ⟨hb3.size⟩
 have HB3 := Aside0.mk (below_step HB2.out hb3)
 have HY3 := Aside0.mk (blk_below HY2.out hb3)
 have HZ3 := Aside0.mk (blk_below HZ2.out hb3)
 have HR3 := Aside0.mk (Kd.C_below HR2.out HB3.out)
 clear hb3 q0 e0 e1 e2 z0 z1
 have q0 : w3.cell? ⟨w.heap.size + 1, 0, none⟩ = some (.slice B ys.length c2) := (blk_cell HY3.out 0).trans rfl
 have LE23 : w2.heap.size ≤ w3.heap.size := H23.out
 rcases hp with ⟨t, p1, S, hV, rfl, hrep, hnd, hS⟩ | ⟨hV, p1, s1, v, rfl, hsum, hE⟩
 ·
  obtain ⟨hf, hrl, hrb, hcn⟩ := grownV_fine hV
  have hx8 : xs.length ≤ 8192 := (grownV_toL hV).2.2.2.1
  have hpos := hf.pos
  have HPt := Aside0.mk hrep
  have HF := Aside0.mk hf
  have HV := Aside0.mk hV
  have HND := Aside0.mk hnd
  have HS := Aside0.mk hS
  have HCN := Aside0.mk hcn
  have W23 : Aside0 (w2.heap.size ≤ w3.heap.size) := ⟨LE23⟩
  clear hV hrep hf hrl hcn hS hnd
  go_wp2_with fail
  refine (grown_any w3 ys B c2 hm2 HR3.out hc2).mono ?_
  intro e w4 hp
  obtain ⟨hb4, hp⟩ := hp
  have Hb4 := Aside0.mk hb4
  have HB4 := Aside0.mk (below_step HB3.out hb4)
  have HZ4 := Aside0.mk (blk_below HZ3.out hb4)
  clear hb4 q0
  rcases hp with ⟨u, p2, S2, hV2, rfl, hrep2, hnd2, hS2⟩ | ⟨hV2, p2, s2, v2, rfl, hsum2, hE2⟩
  ·
   obtain ⟨hf2, hrl2, hrb2, hcn2⟩ := grownV_fine hV2
   have hx82 : ys.length ≤ 8192 := (grownV_toL hV2).2.2.2.1
   have hpos2 := hf2.pos
   have HPu := Aside0.mk hrep2
   have HF2 := Aside0.mk hf2
   have HV2 := Aside0.mk hV2
   have HND2 := Aside0.mk hnd2
   have HS2 := Aside0.mk hS2
   have HCN2 := Aside0.mk hcn2
   clear hV2 hrep2 hf2 hrl2 hcn2 hS2 hnd2
   by_cases cft : rl t + rl u ≤ 8192
   ·
    have CFT := Aside0.mk cft
    have CFD : Aside0 (decide (rl t + rl u ≤ 8192) = true) := ⟨decide_eq_true (by first | exact cft | omega)⟩
    go_wp2_with fail
    refine (runes_rep w4 t p1 S (HPt.out.below Hb4.out) HF.out).mono ?_
    rintro e w' ⟨rfl, hw⟩
    rw [hw]
    clear hw w'
    go_wp2_with fail
    refine (runes_rep w4 u p2 S2 HPu.out HF2.out).mono ?_
    rintro e w' ⟨rfl, hw⟩
    rw [hw]
    clear hw w'
    go_wp2_with fail
    try rw [CFD.out]
    clear cft
    refine (unless_t w4 10).mono ?_
    rintro e w' ⟨rfl, hw⟩
    rw [hw]
    clear hw w'
    go_wp2_with fail
    refine (firstOf3 _ w4.heap.size none none none (by simp [ev]) (by simp [ev]) (by simp [ev])).mono ?_
    rintro e w' ⟨rfl, hw⟩
    rw [hw]
    clear hw w'
    simp only [ev, firstE]
    obtain ⟨w5, e5⟩ : ∃ y, w4.alloc (.cells #[.nilIface, .nilIface, .nilIface] 85) = y := ⟨_, rfl⟩
    have hb5 : Below w4.heap.size w4 w5 := by subst e5; exact (Below.refl _ w4).alloc (Nat.le_refl _) _
    rw [e5]
    clear e5
    have ND : Aside0 (S ++ S2).Nodup := ⟨List.nodup_append.2 ⟨HND.out, HND2.out, fun a ha b hb e => by subst e; have := HPt.out.lt a ha; have := HS2.out a hb; omega⟩⟩
    have SLE : Aside0 (∀ k ∈ S ++ S2, w2.heap.size ≤ k) := ⟨fun k hk => by
     rcases List.mem_append.1 hk with h | h
     ·exact HS.out k h
     ·exact Nat.le_trans W23.out (HS2.out k h)⟩
    go_wp2_with fail
    refine (together_any t u w5 _ _ S S2 (by have := HCN.out; have := HCN2.out; omega) ((HPt.out.below Hb4.out).below hb5) (HPu.out.below hb5) ND.out).mono ?_
    intro e w6 hq
    obtain ⟨pn, S', rfl, hu, hrep6, nd6, fr6⟩ := hq
    have HB6 : Aside0 (Below w.heap.size w w6) := ⟨upds_below (below_step HB4.out hb5) hu (below_step HB4.out hb5).size (fun k hk => Nat.le_trans HB2.out.size (SLE.out k hk))⟩
    have HY6 : Aside0 (w6.heap[w.heap.size + 1 + 1]? = _) := ⟨(hu.block _ (blk_lt (blk_below HZ4.out hb5)) (fun hk => by have := SLE.out _ hk; have := hlz2.out; omega)).trans (blk_below HZ4.out hb5)⟩
    have HRp := Aside0.mk hrep6
    clear hu hrep6 fr6
    go_wp2_with fail
    refine (told_any pn S' _ w6 HRp.out (by rw [together_cnt]; have := HCN.out; have := HCN2.out; omega)).mono ?_
    rintro e w7 ⟨v, rfl, hR7, hb7⟩
    obtain ⟨A7, c7, rfl⟩ := Kd.R_slice hR7
    have HR7 := Aside0.mk hR7
    have HB7 := Aside0.mk (below_step HB6.out hb7)
    have HY7 := Aside0.mk (blk_below HY6.out hb7)
    have hsz := Aside0.mk HB6.out.size
    have hlt6 := Aside0.mk (blk_lt HY6.out)
    have y0 : w7.cell? ⟨w.heap.size + 1 + 1, 0, none⟩ = some (.slice none 0 0) := (blk_cell HY7.out 0).trans rfl
    have f0 := blk_frozen HY7.out 0
    obtain ⟨zs, HYS⟩ : ∃ zs, Aside0 (zs = (TP.flat (TP.together t u) 0).map toIt) := ⟨_, ⟨rfl⟩⟩
    rw [← HYS.out] at HR7 ⊢
    have BX : Aside0 _ := ⟨blk_put HY7.out 0 (.slice A7 zs.length c7) rfl⟩
    clear hR7 hb7
    go_wp2
    refine bodyPost_ret (results_list (rs := [.cell 4 30, .tmp 5]) rfl (by simp) (.cell (w.heap.size + 1 + 1) 30 _ (0, 0) _ rfl BX.out Tryd.underlying30 rfl (by kernel_rfl) (.tmp .nil))) rfl ?_
    have e : treeJoinV xs ys = (zs, 0) := by
     unfold treeJoinV; rw [HV.out, HV2.out]; simp only; rw [if_pos CFT.out, HYS.out]
    rw [e]
    exact ⟨_, rfl, R_box HR7.out hlt6.out hsz.out _, HB7.out.setCell (p := ⟨w.heap.size + 1 + 1, 0, none⟩) (by show w.heap.size ≤ w.heap.size + 1 + 1; omega) _⟩
   ·
    have CFT := Aside0.mk cft
    have CFD : Aside0 (decide (rl t + rl u ≤ 8192) = false) := ⟨decide_eq_false (by first | exact cft | omega)⟩
    go_wp2_with fail
    refine (runes_rep w4 t p1 S (HPt.out.below Hb4.out) HF.out).mono ?_
    rintro e w' ⟨rfl, hw⟩
    rw [hw]
    clear hw w'
    go_wp2_with fail
    refine (runes_rep w4 u p2 S2 HPu.out HF2.out).mono ?_
    rintro e w' ⟨rfl, hw⟩
    rw [hw]
    clear hw w'
    go_wp2_with fail
    try rw [CFD.out]
    clear cft
    refine (unless_f w4 10).mono ?_
    rintro e w' ⟨rfl, hw⟩
    rw [hw]
    clear hw w'
    go_wp2_with fail
    refine (firstOf3 _ w4.heap.size none none (some (129, .int .i64 10)) (by simp [ev]) (by simp [ev]) (by simp [ev])).mono ?_
    rintro e w' ⟨rfl, hw⟩
    rw [hw]
    clear hw w'
    simp only [ev, firstE]
    obtain ⟨w5, e5⟩ : ∃ y, w4.alloc (.cells #[.nilIface, .nilIface, .iface 129 (.int .i64 10)] 85) = y := ⟨_, rfl⟩
    have hb5 : Below w4.heap.size w4 w5 := by subst e5; exact (Below.refl _ w4).alloc (Nat.le_refl _) _
    rw [e5]
    clear e5
    go_wp2_with fail
    refine (codeOf_any _ 10 _ (HG0.out.below (below_step HB4.out hb5)) (.inl rfl)).mono ?_
    rintro e w6 ⟨rfl, hb6⟩
    have HB6 := Aside0.mk (below_step (below_step HB4.out hb5) hb6)
    have HY6 := Aside0.mk (blk_below (blk_below HZ4.out hb5) hb6)
    have y0 : w6.cell? ⟨w.heap.size + 1 + 1, 0, none⟩ = some (.slice none 0 0) := (blk_cell HY6.out 0).trans rfl
    have f0 := blk_frozen HY6.out 0
    have BX : Aside0 _ := ⟨blk_put HY6.out 0 (.slice none 0 0) rfl⟩
    clear hb5 hb6
    go_wp2
    refine bodyPost_ret (results_list (rs := [.cell 4 30, .tmp 5]) rfl (by simp) (.cell (w.heap.size + 1 + 1) 30 _ (0, 0) _ rfl BX.out Tryd.underlying30 rfl (by kernel_rfl) (.tmp .nil))) rfl ?_
    have e : treeJoinV xs ys = ([], 10) := by
     unfold treeJoinV; rw [HV.out, HV2.out]; simp only; rw [if_neg (by have := CFT.out; omega)]
    rw [e]
    exact TreeOut.none _ (HB6.out.setCell (p := ⟨w.heap.size + 1 + 1, 0, none⟩) (by show w.heap.size ≤ w.heap.size + 1 + 1; omega) _)
  ·
   obtain ⟨TT2, xx2, rfl⟩ := errIs_ev hE2
   simp only [ev] at hE2 ⊢
   have HE2 := Aside0.mk hE2
   have HV2 := Aside0.mk hV2
   have HS2 := Aside0.mk hsum2
   clear hV2 hE2 hsum2
   by_cases cft : wrap64 (rl t + s2.r) ≤ 8192
   ·
    have CFT := Aside0.mk cft
    have CFD : Aside0 (decide (wrap64 (rl t + s2.r) ≤ 8192) = true) := ⟨decide_eq_true (by first | exact cft | omega)⟩
    go_wp2_with fail
    refine (runes_rep w4 t p1 S (HPt.out.below Hb4.out) HF.out).mono ?_
    rintro e w' ⟨rfl, hw⟩
    rw [hw]
    clear hw w'
    go_wp2_with fail
    refine (runes_any w4 p2 s2 HS2.out).mono ?_
    rintro e w' ⟨rfl, hw⟩
    rw [hw]
    clear hw w'
    go_wp2_with fail
    try rw [CFD.out]
    clear cft
    refine (unless_t w4 10).mono ?_
    rintro e w' ⟨rfl, hw⟩
    rw [hw]
    clear hw w'
    go_wp2_with fail
    refine (firstOf3 _ w4.heap.size none (some (TT2, xx2)) none (by simp [ev]) (by simp [ev]) (by simp [ev])).mono ?_
    rintro e w' ⟨rfl, hw⟩
    rw [hw]
    clear hw w'
    simp only [ev, firstE]
    obtain ⟨w5, e5⟩ : ∃ y, w4.alloc (.cells #[.nilIface, .iface TT2 xx2, .nilIface] 85) = y := ⟨_, rfl⟩
    have hb5 : Below w4.heap.size w4 w5 := by subst e5; exact (Below.refl _ w4).alloc (Nat.le_refl _) _
    rw [e5]
    clear e5
    go_wp2_with fail
    refine (codeOf_any _ 1 _ (HG0.out.below (below_step HB4.out hb5)) (HE2.out.below hb5)).mono ?_
    rintro e w6 ⟨rfl, hb6⟩
    have HB6 := Aside0.mk (below_step (below_step HB4.out hb5) hb6)
    have HY6 := Aside0.mk (blk_below (blk_below HZ4.out hb5) hb6)
    have y0 : w6.cell? ⟨w.heap.size + 1 + 1, 0, none⟩ = some (.slice none 0 0) := (blk_cell HY6.out 0).trans rfl
    have f0 := blk_frozen HY6.out 0
    have BX : Aside0 _ := ⟨blk_put HY6.out 0 (.slice none 0 0) rfl⟩
    clear hb5 hb6
    go_wp2
    refine bodyPost_ret (results_list (rs := [.cell 4 30, .tmp 5]) rfl (by simp) (.cell (w.heap.size + 1 + 1) 30 _ (0, 0) _ rfl BX.out Tryd.underlying30 rfl (by kernel_rfl) (.tmp .nil))) rfl ?_
    have e : treeJoinV xs ys = ([], 1) := by
     unfold treeJoinV; rw [HV.out, HV2.out]
    rw [e]
    exact TreeOut.none _ (HB6.out.setCell (p := ⟨w.heap.size + 1 + 1, 0, none⟩) (by show w.heap.size ≤ w.heap.size + 1 + 1; omega) _)
   ·
    have CFT := Aside0.mk cft
    have CFD : Aside0 (decide (wrap64 (rl t + s2.r) ≤ 8192) = false) := ⟨decide_eq_false (by first | exact cft | omega)⟩
    go_wp2_with fail
    refine (runes_rep w4 t p1 S (HPt.out.below Hb4.out) HF.out).mono ?_
    rintro e w' ⟨rfl, hw⟩
    rw [hw]
    clear hw w'
    go_wp2_with fail
    refine (runes_any w4 p2 s2 HS2.out).mono ?_
    rintro e w' ⟨rfl, hw⟩
    rw [hw]
    clear hw w'
    go_wp2_with fail
    try rw [CFD.out]
    clear cft
    refine (unless_f w4 10).mono ?_
    rintro e w' ⟨rfl, hw⟩
    rw [hw]
    clear hw w'
    go_wp2_with fail
    refine (firstOf3 _ w4.heap.size none (some (TT2, xx2)) (some (129, .int .i64 10)) (by simp [ev]) (by simp [ev]) (by simp [ev])).mono ?_
    rintro e w' ⟨rfl, hw⟩
    rw [hw]
    clear hw w'
    simp only [ev, firstE]
    obtain ⟨w5, e5⟩ : ∃ y, w4.alloc (.cells #[.nilIface, .iface TT2 xx2, .iface 129 (.int .i64 10)] 85) = y := ⟨_, rfl⟩
    have hb5 : Below w4.heap.size w4 w5 := by subst e5; exact (Below.refl _ w4).alloc (Nat.le_refl _) _
    rw [e5]
    clear e5
    go_wp2_with fail
    refine (codeOf_any _ 1 _ (HG0.out.below (below_step HB4.out hb5)) (HE2.out.below hb5)).mono ?_
    rintro e w6 ⟨rfl, hb6⟩
    have HB6 := Aside0.mk (below_step (below_step HB4.out hb5) hb6)
    have HY6 := Aside0.mk (blk_below (blk_below HZ4.out hb5) hb6)
    have y0 : w6.cell? ⟨w.heap.size + 1 + 1, 0, none⟩ = some (.slice none 0 0) := (blk_cell HY6.out 0).trans rfl
    have f0 := blk_frozen HY6.out 0
    have BX : Aside0 _ := ⟨blk_put HY6.out 0 (.slice none 0 0) rfl⟩
    clear hb5 hb6
    go_wp2
    refine bodyPost_ret (results_list (rs := [.cell 4 30, .tmp 5]) rfl (by simp) (.cell (w.heap.size + 1 + 1) 30 _ (0, 0) _ rfl BX.out Tryd.underlying30 rfl (by kernel_rfl) (.tmp .nil))) rfl ?_
    have e : treeJoinV xs ys = ([], 1) := by
     unfold treeJoinV; rw [HV.out, HV2.out]
    rw [e]
    exact TreeOut.none _ (HB6.out.setCell (p := ⟨w.heap.size + 1 + 1, 0, none⟩) (by show w.heap.size ≤ w.heap.size + 1 + 1; omega) _)
 ·
  obtain ⟨TT, xx, rfl⟩ := errIs_ev hE
  simp only [ev] at hE ⊢
  have HE := Aside0.mk hE
  have HV := Aside0.mk hV
  have HS := Aside0.mk hsum
  clear hV hE hsum
  go_wp2_with fail
  refine (grown_any w3 ys B c2 hm2 HR3.out hc2).mono ?_
  intro e w4 hp
  obtain ⟨hb4, hp⟩ := hp
  have Hb4 := Aside0.mk hb4
  have HB4 := Aside0.mk (below_step HB3.out hb4)
  have HZ4 := Aside0.mk (blk_below HZ3.out hb4)
  clear hb4 q0
  rcases hp with ⟨u, p2, S2, hV2, rfl, hrep2, hnd2, hS2⟩ | ⟨hV2, p2, s2, v2, rfl, hsum2, hE2⟩
  ·
   obtain ⟨hf2, hrl2, hrb2, hcn2⟩ := grownV_fine hV2
   have hx82 : ys.length ≤ 8192 := (grownV_toL hV2).2.2.2.1
   have hpos2 := hf2.pos
   have HPu := Aside0.mk hrep2
   have HF2 := Aside0.mk hf2
   have HV2 := Aside0.mk hV2
   have HND2 := Aside0.mk hnd2
   have HS2 := Aside0.mk hS2
   have HCN2 := Aside0.mk hcn2
   clear hV2 hrep2 hf2 hrl2 hcn2 hS2 hnd2
   by_cases cft : wrap64 (s1.r + rl u) ≤ 8192
   ·
    have CFT := Aside0.mk cft
    have CFD : Aside0 (decide (wrap64 (s1.r + rl u) ≤ 8192) = true) := ⟨decide_eq_true (by first | exact cft | omega)⟩
    go_wp2_with fail
    refine (runes_any w4 p1 s1 (HS.out.below Hb4.out)).mono ?_
    rintro e w' ⟨rfl, hw⟩
    rw [hw]
    clear hw w'
    go_wp2_with fail
    refine (runes_rep w4 u p2 S2 HPu.out HF2.out).mono ?_
    rintro e w' ⟨rfl, hw⟩
    rw [hw]
    clear hw w'
    go_wp2_with fail
    try rw [CFD.out]
    clear cft
    refine (unless_t w4 10).mono ?_
    rintro e w' ⟨rfl, hw⟩
    rw [hw]
    clear hw w'
    go_wp2_with fail
    refine (firstOf3 _ w4.heap.size (some (TT, xx)) none none (by simp [ev]) (by simp [ev]) (by simp [ev])).mono ?_
    rintro e w' ⟨rfl, hw⟩
    rw [hw]
    clear hw w'
    simp only [ev, firstE]
    obtain ⟨w5, e5⟩ : ∃ y, w4.alloc (.cells #[.iface TT xx, .nilIface, .nilIface] 85) = y := ⟨_, rfl⟩
    have hb5 : Below w4.heap.size w4 w5 := by subst e5; exact (Below.refl _ w4).alloc (Nat.le_refl _) _
    rw [e5]
    clear e5
    go_wp2_with fail
    refine (codeOf_any _ 1 _ (HG0.out.below (below_step HB4.out hb5)) ((HE.out.below Hb4.out).below hb5)).mono ?_
    rintro e w6 ⟨rfl, hb6⟩
    have HB6 := Aside0.mk (below_step (below_step HB4.out hb5) hb6)
    have HY6 := Aside0.mk (blk_below (blk_below HZ4.out hb5) hb6)
    have y0 : w6.cell? ⟨w.heap.size + 1 + 1, 0, none⟩ = some (.slice none 0 0) := (blk_cell HY6.out 0).trans rfl
    have f0 := blk_frozen HY6.out 0
    have BX : Aside0 _ := ⟨blk_put HY6.out 0 (.slice none 0 0) rfl⟩
    clear hb5 hb6
    go_wp2
    refine bodyPost_ret (results_list (rs := [.cell 4 30, .tmp 5]) rfl (by simp) (.cell (w.heap.size + 1 + 1) 30 _ (0, 0) _ rfl BX.out Tryd.underlying30 rfl (by kernel_rfl) (.tmp .nil))) rfl ?_
    have e : treeJoinV xs ys = ([], 1) := by
     unfold treeJoinV; rw [HV.out]
    rw [e]
    exact TreeOut.none _ (HB6.out.setCell (p := ⟨w.heap.size + 1 + 1, 0, none⟩) (by show w.heap.size ≤ w.heap.size + 1 + 1; omega) _)
   ·
    have CFT := Aside0.mk cft
    have CFD : Aside0 (decide (wrap64 (s1.r + rl u) ≤ 8192) = false) := ⟨decide_eq_false (by first | exact cft | omega)⟩
    go_wp2_with fail
    refine (runes_any w4 p1 s1 (HS.out.below Hb4.out)).mono ?_
    rintro e w' ⟨rfl, hw⟩
    rw [hw]
    clear hw w'
    go_wp2_with fail
    refine (runes_rep w4 u p2 S2 HPu.out HF2.out).mono ?_
    rintro e w' ⟨rfl, hw⟩
    rw [hw]
    clear hw w'
    go_wp2_with fail
    try rw [CFD.out]
    clear cft
    refine (unless_f w4 10).mono ?_
    rintro e w' ⟨rfl, hw⟩
    rw [hw]
    clear hw w'
    go_wp2_with fail
    refine (firstOf3 _ w4.heap.size (some (TT, xx)) none (some (129, .int .i64 10)) (by simp [ev]) (by simp [ev]) (by simp [ev])).mono ?_
    rintro e w' ⟨rfl, hw⟩
    rw [hw]
    clear hw w'
    simp only [ev, firstE]
    obtain ⟨w5, e5⟩ : ∃ y, w4.alloc (.cells #[.iface TT xx, .nilIface, .iface 129 (.int .i64 10)] 85) = y := ⟨_, rfl⟩
    have hb5 : Below w4.heap.size w4 w5 := by subst e5; exact (Below.refl _ w4).alloc (Nat.le_refl _) _
    rw [e5]
    clear e5
    go_wp2_with fail
    refine (codeOf_any _ 1 _ (HG0.out.below (below_step HB4.out hb5)) ((HE.out.below Hb4.out).below hb5)).mono ?_
    rintro e w6 ⟨rfl, hb6⟩
    have HB6 := Aside0.mk (below_step (below_step HB4.out hb5) hb6)
    have HY6 := Aside0.mk (blk_below (blk_below HZ4.out hb5) hb6)
    have y0 : w6.cell? ⟨w.heap.size + 1 + 1, 0, none⟩ = some (.slice none 0 0) := (blk_cell HY6.out 0).trans rfl
    have f0 := blk_frozen HY6.out 0
    have BX : Aside0 _ := ⟨blk_put HY6.out 0 (.slice none 0 0) rfl⟩
    clear hb5 hb6
    go_wp2
    refine bodyPost_ret (results_list (rs := [.cell 4 30, .tmp 5]) rfl (by simp) (.cell (w.heap.size + 1 + 1) 30 _ (0, 0) _ rfl BX.out Tryd.underlying30 rfl (by kernel_rfl) (.tmp .nil))) rfl ?_
    have e : treeJoinV xs ys = ([], 1) := by
     unfold treeJoinV; rw [HV.out]
    rw [e]
    exact TreeOut.none _ (HB6.out.setCell (p := ⟨w.heap.size + 1 + 1, 0, none⟩) (by show w.heap.size ≤ w.heap.size + 1 + 1; omega) _)
  ·
   obtain ⟨TT2, xx2, rfl⟩ := errIs_ev hE2
   simp only [ev] at hE2 ⊢
   have HE2 := Aside0.mk hE2
   have HV2 := Aside0.mk hV2
   have HS2 := Aside0.mk hsum2
   clear hV2 hE2 hsum2
   by_cases cft : wrap64 (s1.r + s2.r) ≤ 8192
   ·
    have CFT := Aside0.mk cft
    have CFD : Aside0 (decide (wrap64 (s1.r + s2.r) ≤ 8192) = true) := ⟨decide_eq_true (by first | exact cft | omega)⟩
    go_wp2_with fail
    refine (runes_any w4 p1 s1 (HS.out.below Hb4.out)).mono ?_
    rintro e w' ⟨rfl, hw⟩
    rw [hw]
    clear hw w'
    go_wp2_with fail
    refine (runes_any w4 p2 s2 HS2.out).mono ?_
    rintro e w' ⟨rfl, hw⟩
    rw [hw]
    clear hw w'
    go_wp2_with fail
    try rw [CFD.out]
    clear cft
    refine (unless_t w4 10).mono ?_
    rintro e w' ⟨rfl, hw⟩
    rw [hw]
    clear hw w'
    go_wp2_with fail
    refine (firstOf3 _ w4.heap.size (some (TT, xx)) (some (TT2, xx2)) none (by simp [ev]) (by simp [ev]) (by simp [ev])).mono ?_
    rintro e w' ⟨rfl, hw⟩
    rw [hw]
    clear hw w'
    simp only [ev, firstE]
    obtain ⟨w5, e5⟩ : ∃ y, w4.alloc (.cells #[.iface TT xx, .iface TT2 xx2, .nilIface] 85) = y := ⟨_, rfl⟩
    have hb5 : Below w4.heap.size w4 w5 := by subst e5; exact (Below.refl _ w4).alloc (Nat.le_refl _) _
    rw [e5]
    clear e5
    go_wp2_with fail
    refine (codeOf_any _ 1 _ (HG0.out.below (below_step HB4.out hb5)) ((HE.out.below Hb4.out).below hb5)).mono ?_
    rintro e w6 ⟨rfl, hb6⟩
    have HB6 := Aside0.mk (below_step (below_step HB4.out hb5) hb6)
    have HY6 := Aside0.mk (blk_below (blk_below HZ4.out hb5) hb6)
    have y0 : w6.cell? ⟨w.heap.size + 1 + 1, 0, none⟩ = some (.slice none 0 0) := (blk_cell HY6.out 0).trans rfl
    have f0 := blk_frozen HY6.out 0
    have BX : Aside0 _ := ⟨blk_put HY6.out 0 (.slice none 0 0) rfl⟩
    clear hb5 hb6
    go_wp2
    refine bodyPost_ret (results_list (rs := [.cell 4 30, .tmp 5]) rfl (by simp) (.cell (w.heap.size + 1 + 1) 30 _ (0, 0) _ rfl BX.out Tryd.underlying30 rfl (by kernel_rfl) (.tmp .nil))) rfl ?_
    have e : treeJoinV xs ys = ([], 1) := by
     unfold treeJoinV; rw [HV.out]
    rw [e]
    exact TreeOut.none _ (HB6.out.setCell (p := ⟨w.heap.size + 1 + 1, 0, none⟩) (by show w.heap.size ≤ w.heap.size + 1 + 1; omega) _)
   ·
    have CFT := Aside0.mk cft
    have CFD : Aside0 (decide (wrap64 (s1.r + s2.r) ≤ 8192) = false) := ⟨decide_eq_false (by first | exact cft | omega)⟩
    go_wp2_with fail
    refine (runes_any w4 p1 s1 (HS.out.below Hb4.out)).mono ?_
    rintro e w' ⟨rfl, hw⟩
    rw [hw]
    clear hw w'
    go_wp2_with fail
    refine (runes_any w4 p2 s2 HS2.out).mono ?_
    rintro e w' ⟨rfl, hw⟩
    rw [hw]
    clear hw w'
    go_wp2_with fail
    try rw [CFD.out]
    clear cft
    refine (unless_f w4 10).mono ?_
    rintro e w' ⟨rfl, hw⟩
    rw [hw]
    clear hw w'
    go_wp2_with fail
    refine (firstOf3 _ w4.heap.size (some (TT, xx)) (some (TT2, xx2)) (some (129, .int .i64 10)) (by simp [ev]) (by simp [ev]) (by simp [ev])).mono ?_
    rintro e w' ⟨rfl, hw⟩
    rw [hw]
    clear hw w'
    simp only [ev, firstE]
    obtain ⟨w5, e5⟩ : ∃ y, w4.alloc (.cells #[.iface TT xx, .iface TT2 xx2, .iface 129 (.int .i64 10)] 85) = y := ⟨_, rfl⟩
    have hb5 : Below w4.heap.size w4 w5 := by subst e5; exact (Below.refl _ w4).alloc (Nat.le_refl _) _
    rw [e5]
    clear e5
    go_wp2_with fail
    refine (codeOf_any _ 1 _ (HG0.out.below (below_step HB4.out hb5)) ((HE.out.below Hb4.out).below hb5)).mono ?_
    rintro e w6 ⟨rfl, hb6⟩
    have HB6 := Aside0.mk (below_step (below_step HB4.out hb5) hb6)
    have HY6 := Aside0.mk (blk_below (blk_below HZ4.out hb5) hb6)
    have y0 : w6.cell? ⟨w.heap.size + 1 + 1, 0, none⟩ = some (.slice none 0 0) := (blk_cell HY6.out 0).trans rfl
    have f0 := blk_frozen HY6.out 0
    have BX : Aside0 _ := ⟨blk_put HY6.out 0 (.slice none 0 0) rfl⟩
    clear hb5 hb6
    go_wp2
    refine bodyPost_ret (results_list (rs := [.cell 4 30, .tmp 5]) rfl (by simp) (.cell (w.heap.size + 1 + 1) 30 _ (0, 0) _ rfl BX.out Tryd.underlying30 rfl (by kernel_rfl) (.tmp .nil))) rfl ?_
    have e : treeJoinV xs ys = ([], 1) := by
     unfold treeJoinV; rw [HV.out]
    rw [e]
    exact TreeOut.none _ (HB6.out.setCell (p := ⟨w.heap.size + 1 + 1, 0, none⟩) (by show w.heap.size ≤ w.heap.size + 1 + 1; omega) _)
end Go.Proofs.YtciabhncmdpeeaaDoor
