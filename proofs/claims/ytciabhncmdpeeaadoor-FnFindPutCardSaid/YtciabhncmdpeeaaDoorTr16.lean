/- TreeInsert, walked. Conditions: at most 1048576 items; errors.errorType reads as laid. -/
import Derived.Test.YtciabhncmdpeeaaDoorTr15a
namespace Go.Proofs.YtciabhncmdpeeaaDoor
open Go.RowKit Go.Proofs.YtciabhncmdpeeaaDoorW.PrintWords Go.Proofs.YtciabhncmdpeeaaDoorW.PrintLast Go.Proofs.YtciabhncmdpeeaaDoorW.PrintMore Er
def treeInsertV (xs : List It) (rk : Int) (p : Pc) : List It × Int :=
  match grownV xs with
  | none => ([], 1)
  | some t => if goodP ⟨⟨p.off, p.len, p.brk⟩, 0⟩ then (if 0 ≤ rk ∧ rk ≤ (xs.length : Int) then (if rl t + p.len ≤ 8192 then ((TP.flat (TP.insert p t rk.toNat) 0).map toIt, 0) else ([], 10)) else ([], 2)) else ([], 1)
set_option maxHeartbeats 200000000 in
set_option maxRecDepth 100000 in
theorem treeInsert_any (w : World) (xs : List It) (A : Option Addr) (c : Nat) (rk : Int) (p : Pc) (hm : xs.length ≤ 1048576) (hr : Kd.C QBase.k54 w A xs.length xs) (hc : xs.length ≤ c) (hg : HG w)  :
    Calls Tryd.prog 32 #[.agg #[.slice A xs.length c], .int .i64 rk, pcV p] w (TreeOut w (treeInsertV xs rk p)) := by
  obtain ⟨w0, e0⟩ : ∃ y, w.alloc (.cells #[.slice A xs.length c] 30) = y := ⟨_, rfl⟩
  have hb0 : Below w.heap.size w w0 := by subst e0; exact (Below.refl _ w).alloc (Nat.le_refl _) _
  have hx0 : w0.heap[w.heap.size]? = some (.cells #[.slice A xs.length c] 30 (0, 0)) := by subst e0; exact blk_new w (.cells #[.slice A xs.length c] 30)
  have z0 : w0.heap.size = w.heap.size + 1 := by subst e0; simp
  obtain ⟨w1, e1⟩ : ∃ y, w0.alloc (.cells #[.int .i64 p.off, .int .i64 p.len, .int .i64 p.brk] 50) = y := ⟨_, rfl⟩
  have hb1 : Below w0.heap.size w0 w1 := by subst e1; exact (Below.refl _ w0).alloc (Nat.le_refl _) _
  have hp1 : w1.heap[w.heap.size + 1]? = some (.cells #[.int .i64 p.off, .int .i64 p.len, .int .i64 p.brk] 50 (0, 0)) := by rw [← z0]; subst e1; exact blk_new w0 (.cells #[.int .i64 p.off, .int .i64 p.len, .int .i64 p.brk] 50)
  have z1 : w1.heap.size = w.heap.size + 1 + 1 := by rw [← z0]; subst e1; simp
  obtain ⟨w2, e2⟩ : ∃ y, w1.alloc (.cells #[.slice none 0 0] 30) = y := ⟨_, rfl⟩
  have hb2 : Below w1.heap.size w1 w2 := by subst e2; exact (Below.refl _ w1).alloc (Nat.le_refl _) _
  have HY2 : Aside0 (w2.heap[w.heap.size + 1 + 1]? = some (.cells #[.slice none 0 0] 30 (0, 0))) := ⟨by rw [← z1]; subst e2; exact blk_new w1 (.cells #[.slice none 0 0] 30)⟩
  have HB2 : Aside0 (Below w.heap.size w w2) := ⟨below_step (below_step hb0 hb1) hb2⟩
  have HX2 : Aside0 (w2.heap[w.heap.size]? = some (.cells #[.slice A xs.length c] 30 (0, 0))) := ⟨blk_below (blk_below hx0 hb1) hb2⟩
  have HP2 : Aside0 (w2.heap[w.heap.size + 1]? = some (.cells #[.int .i64 p.off, .int .i64 p.len, .int .i64 p.brk] 50 (0, 0))) := ⟨blk_below hp1 hb2⟩
  have hlt2 : Aside0 (w.heap.size + 1 + 1 < w2.heap.size) := ⟨blk_lt HY2.out⟩
  have q0 : w2.cell? ⟨w.heap.size, 0, none⟩ = some (.slice A xs.length c) := (blk_cell HX2.out 0).trans rfl
  have HR := Aside0.mk (Kd.C_below hr HB2.out)
  have HG0 := Aside0.mk hg
  clear hr hg hb0 hb1 hb2 hx0 hp1
  go_enter Tryd.func32, Tryd.ntmps32
  go_wp2_with fail
  refine (grown_any w2 xs A c hm HR.out hc).mono ?_
  intro e w3 hp
  obtain ⟨hb3, hp⟩ := hp
  have HB3 := Aside0.mk (below_step HB2.out hb3)
  have HX3 := Aside0.mk (blk_below HX2.out hb3)
  have HP3 := Aside0.mk (blk_below HP2.out hb3)
  have HY3 := Aside0.mk (blk_below HY2.out hb3)
  have hb23 := Aside0.mk hb3
  clear hb3 q0 e0 e1 e2 z0 z1
  have q0 : w3.cell? ⟨w.heap.size, 0, none⟩ = some (.slice A xs.length c) := (blk_cell HX3.out 0).trans rfl
  have p0 : w3.cell? ⟨w.heap.size + 1, 0, none⟩ = some (.int .i64 p.off) := (blk_cell HP3.out 0).trans rfl
  have p1 : w3.cell? ⟨w.heap.size + 1, 1, none⟩ = some (.int .i64 p.len) := (blk_cell HP3.out 1).trans rfl
  have p2 : w3.cell? ⟨w.heap.size + 1, 2, none⟩ = some (.int .i64 p.brk) := (blk_cell HP3.out 2).trans rfl
  rcases hp with ⟨t, pt, S, hV, rfl, hrep, hnd, hS⟩ | ⟨hV, pt, sm4, v, rfl, hsum, hE⟩
  · obtain ⟨hf, hrl, hrb, hcn⟩ := grownV_fine hV
    have hpos := hf.pos
    have HPt := Aside0.mk hrep
    have HF := Aside0.mk hf
    have HV := Aside0.mk hV
    have HND := Aside0.mk hnd
    have HS := Aside0.mk hS
    have HCN := Aside0.mk hcn
    have hx8 : xs.length ≤ 8192 := (grownV_toL hV).2.2.2.1
    have RU : Aside0 (∀ W : World, Below w3.heap.size w3 W → Calls Tryd.prog 61 #[ptrV pt] W fun e w' => e = .returned (.int .i64 (rl t)) ∧ w' = W) := ⟨fun W hW => runes_rep W t pt S (HPt.out.below hW) HF.out⟩
    clear hV hrep hf hnd hS hcn
    obtain ⟨sm, HSM⟩ : ∃ sm : Int, Aside0 (IntKind.i64.wrap (rl t + p.len) = sm) := ⟨_, ⟨rfl⟩⟩
    by_cases cgd : goodP ⟨⟨p.off, p.len, p.brk⟩, 0⟩
    ·
     by_cases cin : 0 ≤ rk ∧ rk ≤ (xs.length : Int)
     ·
      by_cases cft : rl t + p.len ≤ 8192
      ·
       have GD : Aside0 (∀ W : World, Calls Tryd.prog 78 #[.agg #[.int .i64 p.off, .int .i64 p.len, .int .i64 p.brk]] W fun e w' => e = .returned (.bool true) ∧ Below W.heap.size W w') := ⟨fun W => QBase.impl_goodPiece.calls p.off p.len p.brk true W (by rw [goodPiece_is ⟨⟨p.off, p.len, p.brk⟩, 0⟩, decide_eq_true cgd])⟩
       have CGD := Aside0.mk cgd
       clear cgd
       have WI : Aside0 (∀ W : World, Calls Tryd.prog 60 #[.int .i64 rk, .int .i64 0, .int .i64 (xs.length : Nat)] W fun e w' => e = .returned (.bool true) ∧ w' = W) := ⟨fun W => by have h := within_any W rk 0 (xs.length : Nat); rw [decide_eq_true cin] at h; exact h⟩
       have hsm := HSM.out
       have cfd : decide (sm ≤ 8192) = true := decide_eq_true (by rw [← HSM.out, IntKind.wrap_i64]; have hgp := CGD.out; unfold goodP at hgp; simp only at hgp; omega)
       clear hrl
       have ts3 : TSt w3 w3 := ⟨Below.refl _ _⟩
       go_wp2_with fail
       go_region_held3 (fun w' => w'.cell? ⟨w.heap.size, 0, none⟩ = some (.slice A xs.length c) ∧ w'.cell? ⟨w.heap.size + 1, 0, none⟩ = some (.int .i64 p.off) ∧ w'.cell? ⟨w.heap.size + 1, 1, none⟩ = some (.int .i64 p.len) ∧ w'.cell? ⟨w.heap.size + 1, 2, none⟩ = some (.int .i64 p.brk) ∧ TSt w3 w')
         (first | (refine (fun (x : TSt w3 _) => ⟨x.keep q0, x.keep p0, x.keep p1, x.keep p2, x⟩) ?_; repeat (first | assumption | (with_reducible apply TSt.drew) | (with_reducible apply TSt.alloc))))
         (first
           | (go_at_call 78; (with_reducible refine (GD.out _).mono ?_); rintro e w' ⟨rfl, hb⟩; have ts4 := TSt.below (w := w3) (by first | assumption | exact TSt.drew (by assumption) | exact TSt.alloc (by assumption)) hb)
           | (go_at_call 60; (with_reducible refine (WI.out _).mono ?_); rintro e w' ⟨rfl, hw⟩; subst hw)
           | (go_at_call 61; (with_reducible refine (RU.out _ (TSt.bel (w := w3) (by first | assumption | exact TSt.drew (by assumption) | exact TSt.alloc (by assumption)))).mono ?_); rintro e w' ⟨rfl, hw⟩; subst hw)
           | (go_at_call 59; (with_reducible refine (unless_t _ _).mono ?_); rintro e w' ⟨rfl, hw⟩; subst hw)
           | (go_at_call 59; (with_reducible refine (unless_f _ _).mono ?_); rintro e w' ⟨rfl, hw⟩; subst hw)
           | (go_at_call 58; refine (firstOf4 _ _ none none none none (by simp [ev]) (by simp [ev]) (by simp [ev]) (by simp [ev])).mono ?_; rintro e w' ⟨rfl, hw⟩; subst hw; simp only [ev, firstE]))
       obtain ⟨w5, e5⟩ : ∃ y, w'.alloc (.cells #[.nilIface, .nilIface, .nilIface, .nilIface] 85) = y := ⟨_, rfl⟩
       have hb5 : Below w3.heap.size w3 w5 := by subst e5; exact (TSt.alloc ts4).bel
       rw [e5]
       clear e5 ts4 ts3
       obtain ⟨k, rfl⟩ : ∃ n : Nat, rk = n := ⟨rk.toNat, by omega⟩
       have p5 := (TSt.mk hb5).keep p0
       have p6 := (TSt.mk hb5).keep p1
       have p7 := (TSt.mk hb5).keep p2
       clear q0 p0 p1 p2
       go_wp2_with fail
       refine (insert_any p t _ _ S _ k rfl (HPt.out.below hb5) HND.out (by have := HCN.out; omega) (by have := HCN.out; omega)).mono ?_
       intro e w6 hq
       obtain ⟨pn, S', rfl, hu, hrep6, nd6, fr6⟩ := hq
       have HB6 : Aside0 (Below w.heap.size w w6) := ⟨upds_below (below_step HB3.out hb5) hu (below_step HB3.out hb5).size (fun k hk => Nat.le_trans HB2.out.size (HS.out k hk))⟩
       have HY6 : Aside0 (w6.heap[w.heap.size + 1 + 1]? = _) := ⟨(hu.block _ (blk_lt (blk_below HY3.out hb5)) (fun hk => by have := HS.out _ hk; have := hlt2.out; omega)).trans (blk_below HY3.out hb5)⟩
       have HRp := Aside0.mk hrep6
       clear hu hrep6 fr6 p5 p6 p7
       go_wp2_with fail
       refine (told_any pn S' _ w6 HRp.out (by rw [insert_cnt]; have := HCN.out; omega)).mono ?_
       rintro e w7 ⟨v, rfl, hR7, hb7⟩
       obtain ⟨A7, c7, rfl⟩ := Kd.R_slice hR7
       have HR7 := Aside0.mk hR7
       have HB7 := Aside0.mk (below_step HB6.out hb7)
       have HY7 := Aside0.mk (blk_below HY6.out hb7)
       have hsz := Aside0.mk HB6.out.size
       have hlt6 := Aside0.mk (blk_lt HY6.out)
       have y0 : w7.cell? ⟨w.heap.size + 1 + 1, 0, none⟩ = some (.slice none 0 0) := (blk_cell HY7.out 0).trans rfl
       have f0 := blk_frozen HY7.out 0
       obtain ⟨ys, HYS⟩ : ∃ ys, Aside0 (ys = (TP.flat (TP.insert p t k) 0).map toIt) := ⟨_, ⟨rfl⟩⟩
       rw [← HYS.out] at HR7 ⊢
       have BX : Aside0 _ := ⟨blk_put HY7.out 0 (.slice A7 ys.length c7) rfl⟩
       have CIN := Aside0.mk cin
       have CFT := Aside0.mk cft
       clear hR7 hb7 cin cft
       go_wp2
       refine bodyPost_ret (results_list (rs := [.cell 6 30, .tmp 7]) rfl (by simp) (.cell (w.heap.size + 1 + 1) 30 _ (0, 0) _ rfl BX.out Tryd.underlying30 rfl (by kernel_rfl) (.tmp .nil))) rfl ?_
       have e : treeInsertV xs (k : Int) p = (ys, 0) := by
         unfold treeInsertV; rw [HV.out]; simp only; rw [if_pos CGD.out, if_pos CIN.out, if_pos CFT.out, Int.toNat_natCast, HYS.out]
       rw [e]
       exact ⟨_, rfl, R_box HR7.out hlt6.out hsz.out _, HB7.out.setCell (p := ⟨w.heap.size + 1 + 1, 0, none⟩) (by show w.heap.size ≤ w.heap.size + 1 + 1; omega) _⟩
      ·
       have GD : Aside0 (∀ W : World, Calls Tryd.prog 78 #[.agg #[.int .i64 p.off, .int .i64 p.len, .int .i64 p.brk]] W fun e w' => e = .returned (.bool true) ∧ Below W.heap.size W w') := ⟨fun W => QBase.impl_goodPiece.calls p.off p.len p.brk true W (by rw [goodPiece_is ⟨⟨p.off, p.len, p.brk⟩, 0⟩, decide_eq_true cgd])⟩
       have CGD := Aside0.mk cgd
       clear cgd
       have WI : Aside0 (∀ W : World, Calls Tryd.prog 60 #[.int .i64 rk, .int .i64 0, .int .i64 (xs.length : Nat)] W fun e w' => e = .returned (.bool true) ∧ w' = W) := ⟨fun W => by have h := within_any W rk 0 (xs.length : Nat); rw [decide_eq_true cin] at h; exact h⟩
       have hsm := HSM.out
       have cfd : decide (sm ≤ 8192) = false := decide_eq_false (by rw [← HSM.out, IntKind.wrap_i64]; have hgp := CGD.out; unfold goodP at hgp; simp only at hgp; omega)
       clear hrl
       have ts3 : TSt w3 w3 := ⟨Below.refl _ _⟩
       go_wp2_with fail
       go_region_held3 (fun w' => w'.cell? ⟨w.heap.size, 0, none⟩ = some (.slice A xs.length c) ∧ w'.cell? ⟨w.heap.size + 1, 0, none⟩ = some (.int .i64 p.off) ∧ w'.cell? ⟨w.heap.size + 1, 1, none⟩ = some (.int .i64 p.len) ∧ w'.cell? ⟨w.heap.size + 1, 2, none⟩ = some (.int .i64 p.brk) ∧ TSt w3 w')
         (first | (refine (fun (x : TSt w3 _) => ⟨x.keep q0, x.keep p0, x.keep p1, x.keep p2, x⟩) ?_; repeat (first | assumption | (with_reducible apply TSt.drew) | (with_reducible apply TSt.alloc))))
         (first
           | (go_at_call 78; (with_reducible refine (GD.out _).mono ?_); rintro e w' ⟨rfl, hb⟩; have ts4 := TSt.below (w := w3) (by first | assumption | exact TSt.drew (by assumption) | exact TSt.alloc (by assumption)) hb)
           | (go_at_call 60; (with_reducible refine (WI.out _).mono ?_); rintro e w' ⟨rfl, hw⟩; subst hw)
           | (go_at_call 61; (with_reducible refine (RU.out _ (TSt.bel (w := w3) (by first | assumption | exact TSt.drew (by assumption) | exact TSt.alloc (by assumption)))).mono ?_); rintro e w' ⟨rfl, hw⟩; subst hw)
           | (go_at_call 59; (with_reducible refine (unless_t _ _).mono ?_); rintro e w' ⟨rfl, hw⟩; subst hw)
           | (go_at_call 59; (with_reducible refine (unless_f _ _).mono ?_); rintro e w' ⟨rfl, hw⟩; subst hw)
           | (go_at_call 58; refine (firstOf4 _ _ none none none (some (129, .int .i64 10)) (by simp [ev]) (by simp [ev]) (by simp [ev]) (by simp [ev])).mono ?_; rintro e w' ⟨rfl, hw⟩; subst hw; simp only [ev, firstE]))
       have CIN := Aside0.mk cin
       have CFT := Aside0.mk cft
       clear cin cft
       obtain ⟨w5, e5⟩ : ∃ y, w'.alloc (.cells #[.nilIface, .nilIface, .nilIface, .iface 129 (.int .i64 10)] 85) = y := ⟨_, rfl⟩
       have hb5 : Below w3.heap.size w3 w5 := by subst e5; exact (TSt.alloc ts4).bel
       rw [e5]
       clear e5 ts4 ts3
       go_wp2_with fail
       refine (codeOf_any _ 10 _ (HG0.out.below (below_step HB3.out hb5)) (.inl rfl)).mono ?_
       rintro e w6 ⟨rfl, hb6⟩
       have HB6 := Aside0.mk (below_step (below_step HB3.out hb5) hb6)
       have HY6 := Aside0.mk (blk_below (blk_below HY3.out hb5) hb6)
       have y0 : w6.cell? ⟨w.heap.size + 1 + 1, 0, none⟩ = some (.slice none 0 0) := (blk_cell HY6.out 0).trans rfl
       have f0 := blk_frozen HY6.out 0
       have BX : Aside0 _ := ⟨blk_put HY6.out 0 (.slice none 0 0) rfl⟩
       clear hb5 hb6 q0 p0 p1 p2
       go_wp2
       refine bodyPost_ret (results_list (rs := [.cell 6 30, .tmp 7]) rfl (by simp) (.cell (w.heap.size + 1 + 1) 30 _ (0, 0) _ rfl BX.out Tryd.underlying30 rfl (by kernel_rfl) (.tmp .nil))) rfl ?_
       have e : treeInsertV xs rk p = ([], 10) := by
         unfold treeInsertV; rw [HV.out]; simp only; rw [if_pos CGD.out, if_pos CIN.out, if_neg (by have := CFT.out; omega)]
       rw [e]
       exact TreeOut.none _ (HB6.out.setCell (p := ⟨w.heap.size + 1 + 1, 0, none⟩) (by show w.heap.size ≤ w.heap.size + 1 + 1; omega) _)
     ·
      by_cases cft : rl t + p.len ≤ 8192
      ·
       have GD : Aside0 (∀ W : World, Calls Tryd.prog 78 #[.agg #[.int .i64 p.off, .int .i64 p.len, .int .i64 p.brk]] W fun e w' => e = .returned (.bool true) ∧ Below W.heap.size W w') := ⟨fun W => QBase.impl_goodPiece.calls p.off p.len p.brk true W (by rw [goodPiece_is ⟨⟨p.off, p.len, p.brk⟩, 0⟩, decide_eq_true cgd])⟩
       have CGD := Aside0.mk cgd
       clear cgd
       have WI : Aside0 (∀ W : World, Calls Tryd.prog 60 #[.int .i64 rk, .int .i64 0, .int .i64 (xs.length : Nat)] W fun e w' => e = .returned (.bool false) ∧ w' = W) := ⟨fun W => by have h := within_any W rk 0 (xs.length : Nat); rw [decide_eq_false cin] at h; exact h⟩
       have hsm := HSM.out
       have cfd : decide (sm ≤ 8192) = true := decide_eq_true (by rw [← HSM.out, IntKind.wrap_i64]; have hgp := CGD.out; unfold goodP at hgp; simp only at hgp; omega)
       clear hrl
       have ts3 : TSt w3 w3 := ⟨Below.refl _ _⟩
       go_wp2_with fail
       go_region_held3 (fun w' => w'.cell? ⟨w.heap.size, 0, none⟩ = some (.slice A xs.length c) ∧ w'.cell? ⟨w.heap.size + 1, 0, none⟩ = some (.int .i64 p.off) ∧ w'.cell? ⟨w.heap.size + 1, 1, none⟩ = some (.int .i64 p.len) ∧ w'.cell? ⟨w.heap.size + 1, 2, none⟩ = some (.int .i64 p.brk) ∧ TSt w3 w')
         (first | (refine (fun (x : TSt w3 _) => ⟨x.keep q0, x.keep p0, x.keep p1, x.keep p2, x⟩) ?_; repeat (first | assumption | (with_reducible apply TSt.drew) | (with_reducible apply TSt.alloc))))
         (first
           | (go_at_call 78; (with_reducible refine (GD.out _).mono ?_); rintro e w' ⟨rfl, hb⟩; have ts4 := TSt.below (w := w3) (by first | assumption | exact TSt.drew (by assumption) | exact TSt.alloc (by assumption)) hb)
           | (go_at_call 60; (with_reducible refine (WI.out _).mono ?_); rintro e w' ⟨rfl, hw⟩; subst hw)
           | (go_at_call 61; (with_reducible refine (RU.out _ (TSt.bel (w := w3) (by first | assumption | exact TSt.drew (by assumption) | exact TSt.alloc (by assumption)))).mono ?_); rintro e w' ⟨rfl, hw⟩; subst hw)
           | (go_at_call 59; (with_reducible refine (unless_t _ _).mono ?_); rintro e w' ⟨rfl, hw⟩; subst hw)
           | (go_at_call 59; (with_reducible refine (unless_f _ _).mono ?_); rintro e w' ⟨rfl, hw⟩; subst hw)
           | (go_at_call 58; refine (firstOf4 _ _ none none (some (129, .int .i64 2)) none (by simp [ev]) (by simp [ev]) (by simp [ev]) (by simp [ev])).mono ?_; rintro e w' ⟨rfl, hw⟩; subst hw; simp only [ev, firstE]))
       have CIN := Aside0.mk cin
       have CFT := Aside0.mk cft
       clear cin cft
       obtain ⟨w5, e5⟩ : ∃ y, w'.alloc (.cells #[.nilIface, .nilIface, .iface 129 (.int .i64 2), .nilIface] 85) = y := ⟨_, rfl⟩
       have hb5 : Below w3.heap.size w3 w5 := by subst e5; exact (TSt.alloc ts4).bel
       rw [e5]
       clear e5 ts4 ts3
       go_wp2_with fail
       refine (codeOf_any _ 2 _ (HG0.out.below (below_step HB3.out hb5)) (.inl rfl)).mono ?_
       rintro e w6 ⟨rfl, hb6⟩
       have HB6 := Aside0.mk (below_step (below_step HB3.out hb5) hb6)
       have HY6 := Aside0.mk (blk_below (blk_below HY3.out hb5) hb6)
       have y0 : w6.cell? ⟨w.heap.size + 1 + 1, 0, none⟩ = some (.slice none 0 0) := (blk_cell HY6.out 0).trans rfl
       have f0 := blk_frozen HY6.out 0
       have BX : Aside0 _ := ⟨blk_put HY6.out 0 (.slice none 0 0) rfl⟩
       clear hb5 hb6 q0 p0 p1 p2
       go_wp2
       refine bodyPost_ret (results_list (rs := [.cell 6 30, .tmp 7]) rfl (by simp) (.cell (w.heap.size + 1 + 1) 30 _ (0, 0) _ rfl BX.out Tryd.underlying30 rfl (by kernel_rfl) (.tmp .nil))) rfl ?_
       have e : treeInsertV xs rk p = ([], 2) := by
         unfold treeInsertV; rw [HV.out]; simp only; rw [if_pos CGD.out, if_neg CIN.out]
       rw [e]
       exact TreeOut.none _ (HB6.out.setCell (p := ⟨w.heap.size + 1 + 1, 0, none⟩) (by show w.heap.size ≤ w.heap.size + 1 + 1; omega) _)
      ·
       have GD : Aside0 (∀ W : World, Calls Tryd.prog 78 #[.agg #[.int .i64 p.off, .int .i64 p.len, .int .i64 p.brk]] W fun e w' => e = .returned (.bool true) ∧ Below W.heap.size W w') := ⟨fun W => QBase.impl_goodPiece.calls p.off p.len p.brk true W (by rw [goodPiece_is ⟨⟨p.off, p.len, p.brk⟩, 0⟩, decide_eq_true cgd])⟩
       have CGD := Aside0.mk cgd
       clear cgd
       have WI : Aside0 (∀ W : World, Calls Tryd.prog 60 #[.int .i64 rk, .int .i64 0, .int .i64 (xs.length : Nat)] W fun e w' => e = .returned (.bool false) ∧ w' = W) := ⟨fun W => by have h := within_any W rk 0 (xs.length : Nat); rw [decide_eq_false cin] at h; exact h⟩
       have hsm := HSM.out
       have cfd : decide (sm ≤ 8192) = false := decide_eq_false (by rw [← HSM.out, IntKind.wrap_i64]; have hgp := CGD.out; unfold goodP at hgp; simp only at hgp; omega)
       clear hrl
       have ts3 : TSt w3 w3 := ⟨Below.refl _ _⟩
       go_wp2_with fail
       go_region_held3 (fun w' => w'.cell? ⟨w.heap.size, 0, none⟩ = some (.slice A xs.length c) ∧ w'.cell? ⟨w.heap.size + 1, 0, none⟩ = some (.int .i64 p.off) ∧ w'.cell? ⟨w.heap.size + 1, 1, none⟩ = some (.int .i64 p.len) ∧ w'.cell? ⟨w.heap.size + 1, 2, none⟩ = some (.int .i64 p.brk) ∧ TSt w3 w')
         (first | (refine (fun (x : TSt w3 _) => ⟨x.keep q0, x.keep p0, x.keep p1, x.keep p2, x⟩) ?_; repeat (first | assumption | (with_reducible apply TSt.drew) | (with_reducible apply TSt.alloc))))
         (first
           | (go_at_call 78; (with_reducible refine (GD.out _).mono ?_); rintro e w' ⟨rfl, hb⟩; have ts4 := TSt.below (w := w3) (by first | assumption | exact TSt.drew (by assumption) | exact TSt.alloc (by assumption)) hb)
           | (go_at_call 60; (with_reducible refine (WI.out _).mono ?_); rintro e w' ⟨rfl, hw⟩; subst hw)
           | (go_at_call 61; (with_reducible refine (RU.out _ (TSt.bel (w := w3) (by first | assumption | exact TSt.drew (by assumption) | exact TSt.alloc (by assumption)))).mono ?_); rintro e w' ⟨rfl, hw⟩; subst hw)
           | (go_at_call 59; (with_reducible refine (unless_t _ _).mono ?_); rintro e w' ⟨rfl, hw⟩; subst hw)
           | (go_at_call 59; (with_reducible refine (unless_f _ _).mono ?_); rintro e w' ⟨rfl, hw⟩; subst hw)
           | (go_at_call 58; refine (firstOf4 _ _ none none (some (129, .int .i64 2)) (some (129, .int .i64 10)) (by simp [ev]) (by simp [ev]) (by simp [ev]) (by simp [ev])).mono ?_; rintro e w' ⟨rfl, hw⟩; subst hw; simp only [ev, firstE]))
       have CIN := Aside0.mk cin
       have CFT := Aside0.mk cft
       clear cin cft
       obtain ⟨w5, e5⟩ : ∃ y, w'.alloc (.cells #[.nilIface, .nilIface, .iface 129 (.int .i64 2), .iface 129 (.int .i64 10)] 85) = y := ⟨_, rfl⟩
       have hb5 : Below w3.heap.size w3 w5 := by subst e5; exact (TSt.alloc ts4).bel
       rw [e5]
       clear e5 ts4 ts3
       go_wp2_with fail
       refine (codeOf_any _ 2 _ (HG0.out.below (below_step HB3.out hb5)) (.inl rfl)).mono ?_
       rintro e w6 ⟨rfl, hb6⟩
       have HB6 := Aside0.mk (below_step (below_step HB3.out hb5) hb6)
       have HY6 := Aside0.mk (blk_below (blk_below HY3.out hb5) hb6)
       have y0 : w6.cell? ⟨w.heap.size + 1 + 1, 0, none⟩ = some (.slice none 0 0) := (blk_cell HY6.out 0).trans rfl
       have f0 := blk_frozen HY6.out 0
       have BX : Aside0 _ := ⟨blk_put HY6.out 0 (.slice none 0 0) rfl⟩
       clear hb5 hb6 q0 p0 p1 p2
       go_wp2
       refine bodyPost_ret (results_list (rs := [.cell 6 30, .tmp 7]) rfl (by simp) (.cell (w.heap.size + 1 + 1) 30 _ (0, 0) _ rfl BX.out Tryd.underlying30 rfl (by kernel_rfl) (.tmp .nil))) rfl ?_
       have e : treeInsertV xs rk p = ([], 2) := by
         unfold treeInsertV; rw [HV.out]; simp only; rw [if_pos CGD.out, if_neg CIN.out]
       rw [e]
       exact TreeOut.none _ (HB6.out.setCell (p := ⟨w.heap.size + 1 + 1, 0, none⟩) (by show w.heap.size ≤ w.heap.size + 1 + 1; omega) _)
    ·
     by_cases cin : 0 ≤ rk ∧ rk ≤ (xs.length : Int)
     ·
      by_cases cft : IntKind.i64.wrap (rl t + p.len) ≤ 8192
      ·
       have GD : Aside0 (∀ W : World, Calls Tryd.prog 78 #[.agg #[.int .i64 p.off, .int .i64 p.len, .int .i64 p.brk]] W fun e w' => e = .returned (.bool false) ∧ Below W.heap.size W w') := ⟨fun W => QBase.impl_goodPiece.calls p.off p.len p.brk false W (by rw [goodPiece_is ⟨⟨p.off, p.len, p.brk⟩, 0⟩, decide_eq_false cgd])⟩
       have CGD := Aside0.mk cgd
       clear cgd
       have WI : Aside0 (∀ W : World, Calls Tryd.prog 60 #[.int .i64 rk, .int .i64 0, .int .i64 (xs.length : Nat)] W fun e w' => e = .returned (.bool true) ∧ w' = W) := ⟨fun W => by have h := within_any W rk 0 (xs.length : Nat); rw [decide_eq_true cin] at h; exact h⟩
       have hsm := HSM.out
       have cfd : decide (sm ≤ 8192) = true := decide_eq_true (by rw [← HSM.out]; have := cft; omega)
       clear hrl
       have ts3 : TSt w3 w3 := ⟨Below.refl _ _⟩
       go_wp2_with fail
       go_region_held3 (fun w' => w'.cell? ⟨w.heap.size, 0, none⟩ = some (.slice A xs.length c) ∧ w'.cell? ⟨w.heap.size + 1, 0, none⟩ = some (.int .i64 p.off) ∧ w'.cell? ⟨w.heap.size + 1, 1, none⟩ = some (.int .i64 p.len) ∧ w'.cell? ⟨w.heap.size + 1, 2, none⟩ = some (.int .i64 p.brk) ∧ TSt w3 w')
         (first | (refine (fun (x : TSt w3 _) => ⟨x.keep q0, x.keep p0, x.keep p1, x.keep p2, x⟩) ?_; repeat (first | assumption | (with_reducible apply TSt.drew) | (with_reducible apply TSt.alloc))))
         (first
           | (go_at_call 78; (with_reducible refine (GD.out _).mono ?_); rintro e w' ⟨rfl, hb⟩; have ts4 := TSt.below (w := w3) (by first | assumption | exact TSt.drew (by assumption) | exact TSt.alloc (by assumption)) hb)
           | (go_at_call 60; (with_reducible refine (WI.out _).mono ?_); rintro e w' ⟨rfl, hw⟩; subst hw)
           | (go_at_call 61; (with_reducible refine (RU.out _ (TSt.bel (w := w3) (by first | assumption | exact TSt.drew (by assumption) | exact TSt.alloc (by assumption)))).mono ?_); rintro e w' ⟨rfl, hw⟩; subst hw)
           | (go_at_call 59; (with_reducible refine (unless_t _ _).mono ?_); rintro e w' ⟨rfl, hw⟩; subst hw)
           | (go_at_call 59; (with_reducible refine (unless_f _ _).mono ?_); rintro e w' ⟨rfl, hw⟩; subst hw)
           | (go_at_call 58; refine (firstOf4 _ _ none (some (129, .int .i64 1)) none none (by simp [ev]) (by simp [ev]) (by simp [ev]) (by simp [ev])).mono ?_; rintro e w' ⟨rfl, hw⟩; subst hw; simp only [ev, firstE]))
       have CIN := Aside0.mk cin
       have CFT := Aside0.mk cft
       clear cin cft
       obtain ⟨w5, e5⟩ : ∃ y, w'.alloc (.cells #[.nilIface, .iface 129 (.int .i64 1), .nilIface, .nilIface] 85) = y := ⟨_, rfl⟩
       have hb5 : Below w3.heap.size w3 w5 := by subst e5; exact (TSt.alloc ts4).bel
       rw [e5]
       clear e5 ts4 ts3
       go_wp2_with fail
       refine (codeOf_any _ 1 _ (HG0.out.below (below_step HB3.out hb5)) (.inl rfl)).mono ?_
       rintro e w6 ⟨rfl, hb6⟩
       have HB6 := Aside0.mk (below_step (below_step HB3.out hb5) hb6)
       have HY6 := Aside0.mk (blk_below (blk_below HY3.out hb5) hb6)
       have y0 : w6.cell? ⟨w.heap.size + 1 + 1, 0, none⟩ = some (.slice none 0 0) := (blk_cell HY6.out 0).trans rfl
       have f0 := blk_frozen HY6.out 0
       have BX : Aside0 _ := ⟨blk_put HY6.out 0 (.slice none 0 0) rfl⟩
       clear hb5 hb6 q0 p0 p1 p2
       go_wp2
       refine bodyPost_ret (results_list (rs := [.cell 6 30, .tmp 7]) rfl (by simp) (.cell (w.heap.size + 1 + 1) 30 _ (0, 0) _ rfl BX.out Tryd.underlying30 rfl (by kernel_rfl) (.tmp .nil))) rfl ?_
       have e : treeInsertV xs rk p = ([], 1) := by
         unfold treeInsertV; rw [HV.out]; simp only; rw [if_neg CGD.out]
       rw [e]
       exact TreeOut.none _ (HB6.out.setCell (p := ⟨w.heap.size + 1 + 1, 0, none⟩) (by show w.heap.size ≤ w.heap.size + 1 + 1; omega) _)
      ·
       have GD : Aside0 (∀ W : World, Calls Tryd.prog 78 #[.agg #[.int .i64 p.off, .int .i64 p.len, .int .i64 p.brk]] W fun e w' => e = .returned (.bool false) ∧ Below W.heap.size W w') := ⟨fun W => QBase.impl_goodPiece.calls p.off p.len p.brk false W (by rw [goodPiece_is ⟨⟨p.off, p.len, p.brk⟩, 0⟩, decide_eq_false cgd])⟩
       have CGD := Aside0.mk cgd
       clear cgd
       have WI : Aside0 (∀ W : World, Calls Tryd.prog 60 #[.int .i64 rk, .int .i64 0, .int .i64 (xs.length : Nat)] W fun e w' => e = .returned (.bool true) ∧ w' = W) := ⟨fun W => by have h := within_any W rk 0 (xs.length : Nat); rw [decide_eq_true cin] at h; exact h⟩
       have hsm := HSM.out
       have cfd : decide (sm ≤ 8192) = false := decide_eq_false (by rw [← HSM.out]; have := cft; omega)
       clear hrl
       have ts3 : TSt w3 w3 := ⟨Below.refl _ _⟩
       go_wp2_with fail
       go_region_held3 (fun w' => w'.cell? ⟨w.heap.size, 0, none⟩ = some (.slice A xs.length c) ∧ w'.cell? ⟨w.heap.size + 1, 0, none⟩ = some (.int .i64 p.off) ∧ w'.cell? ⟨w.heap.size + 1, 1, none⟩ = some (.int .i64 p.len) ∧ w'.cell? ⟨w.heap.size + 1, 2, none⟩ = some (.int .i64 p.brk) ∧ TSt w3 w')
         (first | (refine (fun (x : TSt w3 _) => ⟨x.keep q0, x.keep p0, x.keep p1, x.keep p2, x⟩) ?_; repeat (first | assumption | (with_reducible apply TSt.drew) | (with_reducible apply TSt.alloc))))
         (first
           | (go_at_call 78; (with_reducible refine (GD.out _).mono ?_); rintro e w' ⟨rfl, hb⟩; have ts4 := TSt.below (w := w3) (by first | assumption | exact TSt.drew (by assumption) | exact TSt.alloc (by assumption)) hb)
           | (go_at_call 60; (with_reducible refine (WI.out _).mono ?_); rintro e w' ⟨rfl, hw⟩; subst hw)
           | (go_at_call 61; (with_reducible refine (RU.out _ (TSt.bel (w := w3) (by first | assumption | exact TSt.drew (by assumption) | exact TSt.alloc (by assumption)))).mono ?_); rintro e w' ⟨rfl, hw⟩; subst hw)
           | (go_at_call 59; (with_reducible refine (unless_t _ _).mono ?_); rintro e w' ⟨rfl, hw⟩; subst hw)
           | (go_at_call 59; (with_reducible refine (unless_f _ _).mono ?_); rintro e w' ⟨rfl, hw⟩; subst hw)
           | (go_at_call 58; refine (firstOf4 _ _ none (some (129, .int .i64 1)) none (some (129, .int .i64 10)) (by simp [ev]) (by simp [ev]) (by simp [ev]) (by simp [ev])).mono ?_; rintro e w' ⟨rfl, hw⟩; subst hw; simp only [ev, firstE]))
       have CIN := Aside0.mk cin
       have CFT := Aside0.mk cft
       clear cin cft
       obtain ⟨w5, e5⟩ : ∃ y, w'.alloc (.cells #[.nilIface, .iface 129 (.int .i64 1), .nilIface, .iface 129 (.int .i64 10)] 85) = y := ⟨_, rfl⟩
       have hb5 : Below w3.heap.size w3 w5 := by subst e5; exact (TSt.alloc ts4).bel
       rw [e5]
       clear e5 ts4 ts3
       go_wp2_with fail
       refine (codeOf_any _ 1 _ (HG0.out.below (below_step HB3.out hb5)) (.inl rfl)).mono ?_
       rintro e w6 ⟨rfl, hb6⟩
       have HB6 := Aside0.mk (below_step (below_step HB3.out hb5) hb6)
       have HY6 := Aside0.mk (blk_below (blk_below HY3.out hb5) hb6)
       have y0 : w6.cell? ⟨w.heap.size + 1 + 1, 0, none⟩ = some (.slice none 0 0) := (blk_cell HY6.out 0).trans rfl
       have f0 := blk_frozen HY6.out 0
       have BX : Aside0 _ := ⟨blk_put HY6.out 0 (.slice none 0 0) rfl⟩
       clear hb5 hb6 q0 p0 p1 p2
       go_wp2
       refine bodyPost_ret (results_list (rs := [.cell 6 30, .tmp 7]) rfl (by simp) (.cell (w.heap.size + 1 + 1) 30 _ (0, 0) _ rfl BX.out Tryd.underlying30 rfl (by kernel_rfl) (.tmp .nil))) rfl ?_
       have e : treeInsertV xs rk p = ([], 1) := by
         unfold treeInsertV; rw [HV.out]; simp only; rw [if_neg CGD.out]
       rw [e]
       exact TreeOut.none _ (HB6.out.setCell (p := ⟨w.heap.size + 1 + 1, 0, none⟩) (by show w.heap.size ≤ w.heap.size + 1 + 1; omega) _)
     ·
      by_cases cft : IntKind.i64.wrap (rl t + p.len) ≤ 8192
      ·
       have GD : Aside0 (∀ W : World, Calls Tryd.prog 78 #[.agg #[.int .i64 p.off, .int .i64 p.len, .int .i64 p.brk]] W fun e w' => e = .returned (.bool false) ∧ Below W.heap.size W w') := ⟨fun W => QBase.impl_goodPiece.calls p.off p.len p.brk false W (by rw [goodPiece_is ⟨⟨p.off, p.len, p.brk⟩, 0⟩, decide_eq_false cgd])⟩
       have CGD := Aside0.mk cgd
       clear cgd
       have WI : Aside0 (∀ W : World, Calls Tryd.prog 60 #[.int .i64 rk, .int .i64 0, .int .i64 (xs.length : Nat)] W fun e w' => e = .returned (.bool false) ∧ w' = W) := ⟨fun W => by have h := within_any W rk 0 (xs.length : Nat); rw [decide_eq_false cin] at h; exact h⟩
       have hsm := HSM.out
       have cfd : decide (sm ≤ 8192) = true := decide_eq_true (by rw [← HSM.out]; have := cft; omega)
       clear hrl
       have ts3 : TSt w3 w3 := ⟨Below.refl _ _⟩
       go_wp2_with fail
       go_region_held3 (fun w' => w'.cell? ⟨w.heap.size, 0, none⟩ = some (.slice A xs.length c) ∧ w'.cell? ⟨w.heap.size + 1, 0, none⟩ = some (.int .i64 p.off) ∧ w'.cell? ⟨w.heap.size + 1, 1, none⟩ = some (.int .i64 p.len) ∧ w'.cell? ⟨w.heap.size + 1, 2, none⟩ = some (.int .i64 p.brk) ∧ TSt w3 w')
         (first | (refine (fun (x : TSt w3 _) => ⟨x.keep q0, x.keep p0, x.keep p1, x.keep p2, x⟩) ?_; repeat (first | assumption | (with_reducible apply TSt.drew) | (with_reducible apply TSt.alloc))))
         (first
           | (go_at_call 78; (with_reducible refine (GD.out _).mono ?_); rintro e w' ⟨rfl, hb⟩; have ts4 := TSt.below (w := w3) (by first | assumption | exact TSt.drew (by assumption) | exact TSt.alloc (by assumption)) hb)
           | (go_at_call 60; (with_reducible refine (WI.out _).mono ?_); rintro e w' ⟨rfl, hw⟩; subst hw)
           | (go_at_call 61; (with_reducible refine (RU.out _ (TSt.bel (w := w3) (by first | assumption | exact TSt.drew (by assumption) | exact TSt.alloc (by assumption)))).mono ?_); rintro e w' ⟨rfl, hw⟩; subst hw)
           | (go_at_call 59; (with_reducible refine (unless_t _ _).mono ?_); rintro e w' ⟨rfl, hw⟩; subst hw)
           | (go_at_call 59; (with_reducible refine (unless_f _ _).mono ?_); rintro e w' ⟨rfl, hw⟩; subst hw)
           | (go_at_call 58; refine (firstOf4 _ _ none (some (129, .int .i64 1)) (some (129, .int .i64 2)) none (by simp [ev]) (by simp [ev]) (by simp [ev]) (by simp [ev])).mono ?_; rintro e w' ⟨rfl, hw⟩; subst hw; simp only [ev, firstE]))
       have CIN := Aside0.mk cin
       have CFT := Aside0.mk cft
       clear cin cft
       obtain ⟨w5, e5⟩ : ∃ y, w'.alloc (.cells #[.nilIface, .iface 129 (.int .i64 1), .iface 129 (.int .i64 2), .nilIface] 85) = y := ⟨_, rfl⟩
       have hb5 : Below w3.heap.size w3 w5 := by subst e5; exact (TSt.alloc ts4).bel
       rw [e5]
       clear e5 ts4 ts3
       go_wp2_with fail
       refine (codeOf_any _ 1 _ (HG0.out.below (below_step HB3.out hb5)) (.inl rfl)).mono ?_
       rintro e w6 ⟨rfl, hb6⟩
       have HB6 := Aside0.mk (below_step (below_step HB3.out hb5) hb6)
       have HY6 := Aside0.mk (blk_below (blk_below HY3.out hb5) hb6)
       have y0 : w6.cell? ⟨w.heap.size + 1 + 1, 0, none⟩ = some (.slice none 0 0) := (blk_cell HY6.out 0).trans rfl
       have f0 := blk_frozen HY6.out 0
       have BX : Aside0 _ := ⟨blk_put HY6.out 0 (.slice none 0 0) rfl⟩
       clear hb5 hb6 q0 p0 p1 p2
       go_wp2
       refine bodyPost_ret (results_list (rs := [.cell 6 30, .tmp 7]) rfl (by simp) (.cell (w.heap.size + 1 + 1) 30 _ (0, 0) _ rfl BX.out Tryd.underlying30 rfl (by kernel_rfl) (.tmp .nil))) rfl ?_
       have e : treeInsertV xs rk p = ([], 1) := by
         unfold treeInsertV; rw [HV.out]; simp only; rw [if_neg CGD.out]
       rw [e]
       exact TreeOut.none _ (HB6.out.setCell (p := ⟨w.heap.size + 1 + 1, 0, none⟩) (by show w.heap.size ≤ w.heap.size + 1 + 1; omega) _)
      ·
       have GD : Aside0 (∀ W : World, Calls Tryd.prog 78 #[.agg #[.int .i64 p.off, .int .i64 p.len, .int .i64 p.brk]] W fun e w' => e = .returned (.bool false) ∧ Below W.heap.size W w') := ⟨fun W => QBase.impl_goodPiece.calls p.off p.len p.brk false W (by rw [goodPiece_is ⟨⟨p.off, p.len, p.brk⟩, 0⟩, decide_eq_false cgd])⟩
       have CGD := Aside0.mk cgd
       clear cgd
       have WI : Aside0 (∀ W : World, Calls Tryd.prog 60 #[.int .i64 rk, .int .i64 0, .int .i64 (xs.length : Nat)] W fun e w' => e = .returned (.bool false) ∧ w' = W) := ⟨fun W => by have h := within_any W rk 0 (xs.length : Nat); rw [decide_eq_false cin] at h; exact h⟩
       have hsm := HSM.out
       have cfd : decide (sm ≤ 8192) = false := decide_eq_false (by rw [← HSM.out]; have := cft; omega)
       clear hrl
       have ts3 : TSt w3 w3 := ⟨Below.refl _ _⟩
       go_wp2_with fail
       go_region_held3 (fun w' => w'.cell? ⟨w.heap.size, 0, none⟩ = some (.slice A xs.length c) ∧ w'.cell? ⟨w.heap.size + 1, 0, none⟩ = some (.int .i64 p.off) ∧ w'.cell? ⟨w.heap.size + 1, 1, none⟩ = some (.int .i64 p.len) ∧ w'.cell? ⟨w.heap.size + 1, 2, none⟩ = some (.int .i64 p.brk) ∧ TSt w3 w')
         (first | (refine (fun (x : TSt w3 _) => ⟨x.keep q0, x.keep p0, x.keep p1, x.keep p2, x⟩) ?_; repeat (first | assumption | (with_reducible apply TSt.drew) | (with_reducible apply TSt.alloc))))
         (first
           | (go_at_call 78; (with_reducible refine (GD.out _).mono ?_); rintro e w' ⟨rfl, hb⟩; have ts4 := TSt.below (w := w3) (by first | assumption | exact TSt.drew (by assumption) | exact TSt.alloc (by assumption)) hb)
           | (go_at_call 60; (with_reducible refine (WI.out _).mono ?_); rintro e w' ⟨rfl, hw⟩; subst hw)
           | (go_at_call 61; (with_reducible refine (RU.out _ (TSt.bel (w := w3) (by first | assumption | exact TSt.drew (by assumption) | exact TSt.alloc (by assumption)))).mono ?_); rintro e w' ⟨rfl, hw⟩; subst hw)
           | (go_at_call 59; (with_reducible refine (unless_t _ _).mono ?_); rintro e w' ⟨rfl, hw⟩; subst hw)
           | (go_at_call 59; (with_reducible refine (unless_f _ _).mono ?_); rintro e w' ⟨rfl, hw⟩; subst hw)
           | (go_at_call 58; refine (firstOf4 _ _ none (some (129, .int .i64 1)) (some (129, .int .i64 2)) (some (129, .int .i64 10)) (by simp [ev]) (by simp [ev]) (by simp [ev]) (by simp [ev])).mono ?_; rintro e w' ⟨rfl, hw⟩; subst hw; simp only [ev, firstE]))
       have CIN := Aside0.mk cin
       have CFT := Aside0.mk cft
       clear cin cft
       obtain ⟨w5, e5⟩ : ∃ y, w'.alloc (.cells #[.nilIface, .iface 129 (.int .i64 1), .iface 129 (.int .i64 2), .iface 129 (.int .i64 10)] 85) = y := ⟨_, rfl⟩
       have hb5 : Below w3.heap.size w3 w5 := by subst e5; exact (TSt.alloc ts4).bel
       rw [e5]
       clear e5 ts4 ts3
       go_wp2_with fail
       refine (codeOf_any _ 1 _ (HG0.out.below (below_step HB3.out hb5)) (.inl rfl)).mono ?_
       rintro e w6 ⟨rfl, hb6⟩
       have HB6 := Aside0.mk (below_step (below_step HB3.out hb5) hb6)
       have HY6 := Aside0.mk (blk_below (blk_below HY3.out hb5) hb6)
       have y0 : w6.cell? ⟨w.heap.size + 1 + 1, 0, none⟩ = some (.slice none 0 0) := (blk_cell HY6.out 0).trans rfl
       have f0 := blk_frozen HY6.out 0
       have BX : Aside0 _ := ⟨blk_put HY6.out 0 (.slice none 0 0) rfl⟩
       clear hb5 hb6 q0 p0 p1 p2
       go_wp2
       refine bodyPost_ret (results_list (rs := [.cell 6 30, .tmp 7]) rfl (by simp) (.cell (w.heap.size + 1 + 1) 30 _ (0, 0) _ rfl BX.out Tryd.underlying30 rfl (by kernel_rfl) (.tmp .nil))) rfl ?_
       have e : treeInsertV xs rk p = ([], 1) := by
         unfold treeInsertV; rw [HV.out]; simp only; rw [if_neg CGD.out]
       rw [e]
       exact TreeOut.none _ (HB6.out.setCell (p := ⟨w.heap.size + 1 + 1, 0, none⟩) (by show w.heap.size ≤ w.heap.size + 1 + 1; omega) _)
  · obtain ⟨TT, xx, rfl⟩ := errIs_ev hE
    simp only [ev] at hE ⊢
    have HE := Aside0.mk hE
    have HS := Aside0.mk hsum
    have RU : Aside0 (∀ W : World, Below w3.heap.size w3 W → Calls Tryd.prog 61 #[ptrV pt] W fun e w' => e = .returned (.int .i64 sm4.r) ∧ w' = W) := ⟨fun W hW => runes_any W pt sm4 (HS.out.below hW)⟩
    have HVV := Aside0.mk hV
    clear hV hE hsum
    obtain ⟨sm, HSM⟩ : ∃ sm : Int, Aside0 (IntKind.i64.wrap (sm4.r + p.len) = sm) := ⟨_, ⟨rfl⟩⟩
    by_cases cgd : goodP ⟨⟨p.off, p.len, p.brk⟩, 0⟩
    ·
     by_cases cin : 0 ≤ rk ∧ rk ≤ (xs.length : Int)
     ·
      by_cases cft : sm ≤ 8192
      ·
       have GD : Aside0 (∀ W : World, Calls Tryd.prog 78 #[.agg #[.int .i64 p.off, .int .i64 p.len, .int .i64 p.brk]] W fun e w' => e = .returned (.bool true) ∧ Below W.heap.size W w') := ⟨fun W => QBase.impl_goodPiece.calls p.off p.len p.brk true W (by rw [goodPiece_is ⟨⟨p.off, p.len, p.brk⟩, 0⟩, decide_eq_true cgd])⟩
       have CGD := Aside0.mk cgd
       clear cgd
       have WI : Aside0 (∀ W : World, Calls Tryd.prog 60 #[.int .i64 rk, .int .i64 0, .int .i64 (xs.length : Nat)] W fun e w' => e = .returned (.bool true) ∧ w' = W) := ⟨fun W => by have h := within_any W rk 0 (xs.length : Nat); rw [decide_eq_true cin] at h; exact h⟩
       clear cin
       have hsm := HSM.out
       have cfd : decide (sm ≤ 8192) = true := decide_eq_true cft
       clear cft
       have ts3 : TSt w3 w3 := ⟨Below.refl _ _⟩
       go_wp2_with fail
       go_region_held3 (fun w' => w'.cell? ⟨w.heap.size, 0, none⟩ = some (.slice A xs.length c) ∧ w'.cell? ⟨w.heap.size + 1, 0, none⟩ = some (.int .i64 p.off) ∧ w'.cell? ⟨w.heap.size + 1, 1, none⟩ = some (.int .i64 p.len) ∧ w'.cell? ⟨w.heap.size + 1, 2, none⟩ = some (.int .i64 p.brk) ∧ TSt w3 w')
         (first | (refine (fun (x : TSt w3 _) => ⟨x.keep q0, x.keep p0, x.keep p1, x.keep p2, x⟩) ?_; repeat (first | assumption | (with_reducible apply TSt.drew) | (with_reducible apply TSt.alloc))))
         (first
           | (go_at_call 78; (with_reducible refine (GD.out _).mono ?_); rintro e w' ⟨rfl, hb⟩; have ts4 := TSt.below (w := w3) (by first | assumption | exact TSt.drew (by assumption) | exact TSt.alloc (by assumption)) hb)
           | (go_at_call 60; (with_reducible refine (WI.out _).mono ?_); rintro e w' ⟨rfl, hw⟩; subst hw)
           | (go_at_call 61; (with_reducible refine (RU.out _ (TSt.bel (w := w3) (by first | assumption | exact TSt.drew (by assumption) | exact TSt.alloc (by assumption)))).mono ?_); rintro e w' ⟨rfl, hw⟩; subst hw)
           | (go_at_call 59; (with_reducible refine (unless_t _ _).mono ?_); rintro e w' ⟨rfl, hw⟩; subst hw)
           | (go_at_call 59; (with_reducible refine (unless_f _ _).mono ?_); rintro e w' ⟨rfl, hw⟩; subst hw)
           | (go_at_call 58; refine (firstOf4 _ _ (some (TT, xx)) none none none (by simp [ev]) (by simp [ev]) (by simp [ev]) (by simp [ev])).mono ?_; rintro e w' ⟨rfl, hw⟩; subst hw; simp only [ev, firstE]))
       obtain ⟨w5, e5⟩ : ∃ y, w'.alloc (.cells #[.iface TT xx, .nilIface, .nilIface, .nilIface] 85) = y := ⟨_, rfl⟩
       have hb5 : Below w3.heap.size w3 w5 := by subst e5; exact (TSt.alloc ts4).bel
       rw [e5]
       clear e5 ts4 ts3
       go_wp2_with fail
       refine (codeOf_any _ 1 _ (HG0.out.below (below_step HB3.out hb5)) (HE.out.below hb5)).mono ?_
       rintro e w6 ⟨rfl, hb6⟩
       have HB6 := Aside0.mk (below_step (below_step HB3.out hb5) hb6)
       have HY6 := Aside0.mk (blk_below (blk_below HY3.out hb5) hb6)
       have y0 : w6.cell? ⟨w.heap.size + 1 + 1, 0, none⟩ = some (.slice none 0 0) := (blk_cell HY6.out 0).trans rfl
       have f0 := blk_frozen HY6.out 0
       have BX : Aside0 _ := ⟨blk_put HY6.out 0 (.slice none 0 0) rfl⟩
       clear hb5 hb6 q0 p0 p1 p2
       go_wp2
       refine bodyPost_ret (results_list (rs := [.cell 6 30, .tmp 7]) rfl (by simp) (.cell (w.heap.size + 1 + 1) 30 _ (0, 0) _ rfl BX.out Tryd.underlying30 rfl (by kernel_rfl) (.tmp .nil))) rfl ?_
       have e : treeInsertV xs rk p = ([], 1) := by
         unfold treeInsertV; rw [HVV.out]
       rw [e]
       exact TreeOut.none _ (HB6.out.setCell (p := ⟨w.heap.size + 1 + 1, 0, none⟩) (by show w.heap.size ≤ w.heap.size + 1 + 1; omega) _)
      ·
       have GD : Aside0 (∀ W : World, Calls Tryd.prog 78 #[.agg #[.int .i64 p.off, .int .i64 p.len, .int .i64 p.brk]] W fun e w' => e = .returned (.bool true) ∧ Below W.heap.size W w') := ⟨fun W => QBase.impl_goodPiece.calls p.off p.len p.brk true W (by rw [goodPiece_is ⟨⟨p.off, p.len, p.brk⟩, 0⟩, decide_eq_true cgd])⟩
       have CGD := Aside0.mk cgd
       clear cgd
       have WI : Aside0 (∀ W : World, Calls Tryd.prog 60 #[.int .i64 rk, .int .i64 0, .int .i64 (xs.length : Nat)] W fun e w' => e = .returned (.bool true) ∧ w' = W) := ⟨fun W => by have h := within_any W rk 0 (xs.length : Nat); rw [decide_eq_true cin] at h; exact h⟩
       clear cin
       have hsm := HSM.out
       have cfd : decide (sm ≤ 8192) = false := decide_eq_false cft
       clear cft
       have ts3 : TSt w3 w3 := ⟨Below.refl _ _⟩
       go_wp2_with fail
       go_region_held3 (fun w' => w'.cell? ⟨w.heap.size, 0, none⟩ = some (.slice A xs.length c) ∧ w'.cell? ⟨w.heap.size + 1, 0, none⟩ = some (.int .i64 p.off) ∧ w'.cell? ⟨w.heap.size + 1, 1, none⟩ = some (.int .i64 p.len) ∧ w'.cell? ⟨w.heap.size + 1, 2, none⟩ = some (.int .i64 p.brk) ∧ TSt w3 w')
         (first | (refine (fun (x : TSt w3 _) => ⟨x.keep q0, x.keep p0, x.keep p1, x.keep p2, x⟩) ?_; repeat (first | assumption | (with_reducible apply TSt.drew) | (with_reducible apply TSt.alloc))))
         (first
           | (go_at_call 78; (with_reducible refine (GD.out _).mono ?_); rintro e w' ⟨rfl, hb⟩; have ts4 := TSt.below (w := w3) (by first | assumption | exact TSt.drew (by assumption) | exact TSt.alloc (by assumption)) hb)
           | (go_at_call 60; (with_reducible refine (WI.out _).mono ?_); rintro e w' ⟨rfl, hw⟩; subst hw)
           | (go_at_call 61; (with_reducible refine (RU.out _ (TSt.bel (w := w3) (by first | assumption | exact TSt.drew (by assumption) | exact TSt.alloc (by assumption)))).mono ?_); rintro e w' ⟨rfl, hw⟩; subst hw)
           | (go_at_call 59; (with_reducible refine (unless_t _ _).mono ?_); rintro e w' ⟨rfl, hw⟩; subst hw)
           | (go_at_call 59; (with_reducible refine (unless_f _ _).mono ?_); rintro e w' ⟨rfl, hw⟩; subst hw)
           | (go_at_call 58; refine (firstOf4 _ _ (some (TT, xx)) none none (some (129, .int .i64 10)) (by simp [ev]) (by simp [ev]) (by simp [ev]) (by simp [ev])).mono ?_; rintro e w' ⟨rfl, hw⟩; subst hw; simp only [ev, firstE]))
       obtain ⟨w5, e5⟩ : ∃ y, w'.alloc (.cells #[.iface TT xx, .nilIface, .nilIface, .iface 129 (.int .i64 10)] 85) = y := ⟨_, rfl⟩
       have hb5 : Below w3.heap.size w3 w5 := by subst e5; exact (TSt.alloc ts4).bel
       rw [e5]
       clear e5 ts4 ts3
       go_wp2_with fail
       refine (codeOf_any _ 1 _ (HG0.out.below (below_step HB3.out hb5)) (HE.out.below hb5)).mono ?_
       rintro e w6 ⟨rfl, hb6⟩
       have HB6 := Aside0.mk (below_step (below_step HB3.out hb5) hb6)
       have HY6 := Aside0.mk (blk_below (blk_below HY3.out hb5) hb6)
       have y0 : w6.cell? ⟨w.heap.size + 1 + 1, 0, none⟩ = some (.slice none 0 0) := (blk_cell HY6.out 0).trans rfl
       have f0 := blk_frozen HY6.out 0
       have BX : Aside0 _ := ⟨blk_put HY6.out 0 (.slice none 0 0) rfl⟩
       clear hb5 hb6 q0 p0 p1 p2
       go_wp2
       refine bodyPost_ret (results_list (rs := [.cell 6 30, .tmp 7]) rfl (by simp) (.cell (w.heap.size + 1 + 1) 30 _ (0, 0) _ rfl BX.out Tryd.underlying30 rfl (by kernel_rfl) (.tmp .nil))) rfl ?_
       have e : treeInsertV xs rk p = ([], 1) := by
         unfold treeInsertV; rw [HVV.out]
       rw [e]
       exact TreeOut.none _ (HB6.out.setCell (p := ⟨w.heap.size + 1 + 1, 0, none⟩) (by show w.heap.size ≤ w.heap.size + 1 + 1; omega) _)
     ·
      by_cases cft : sm ≤ 8192
      ·
       have GD : Aside0 (∀ W : World, Calls Tryd.prog 78 #[.agg #[.int .i64 p.off, .int .i64 p.len, .int .i64 p.brk]] W fun e w' => e = .returned (.bool true) ∧ Below W.heap.size W w') := ⟨fun W => QBase.impl_goodPiece.calls p.off p.len p.brk true W (by rw [goodPiece_is ⟨⟨p.off, p.len, p.brk⟩, 0⟩, decide_eq_true cgd])⟩
       have CGD := Aside0.mk cgd
       clear cgd
       have WI : Aside0 (∀ W : World, Calls Tryd.prog 60 #[.int .i64 rk, .int .i64 0, .int .i64 (xs.length : Nat)] W fun e w' => e = .returned (.bool false) ∧ w' = W) := ⟨fun W => by have h := within_any W rk 0 (xs.length : Nat); rw [decide_eq_false cin] at h; exact h⟩
       clear cin
       have hsm := HSM.out
       have cfd : decide (sm ≤ 8192) = true := decide_eq_true cft
       clear cft
       have ts3 : TSt w3 w3 := ⟨Below.refl _ _⟩
       go_wp2_with fail
       go_region_held3 (fun w' => w'.cell? ⟨w.heap.size, 0, none⟩ = some (.slice A xs.length c) ∧ w'.cell? ⟨w.heap.size + 1, 0, none⟩ = some (.int .i64 p.off) ∧ w'.cell? ⟨w.heap.size + 1, 1, none⟩ = some (.int .i64 p.len) ∧ w'.cell? ⟨w.heap.size + 1, 2, none⟩ = some (.int .i64 p.brk) ∧ TSt w3 w')
         (first | (refine (fun (x : TSt w3 _) => ⟨x.keep q0, x.keep p0, x.keep p1, x.keep p2, x⟩) ?_; repeat (first | assumption | (with_reducible apply TSt.drew) | (with_reducible apply TSt.alloc))))
         (first
           | (go_at_call 78; (with_reducible refine (GD.out _).mono ?_); rintro e w' ⟨rfl, hb⟩; have ts4 := TSt.below (w := w3) (by first | assumption | exact TSt.drew (by assumption) | exact TSt.alloc (by assumption)) hb)
           | (go_at_call 60; (with_reducible refine (WI.out _).mono ?_); rintro e w' ⟨rfl, hw⟩; subst hw)
           | (go_at_call 61; (with_reducible refine (RU.out _ (TSt.bel (w := w3) (by first | assumption | exact TSt.drew (by assumption) | exact TSt.alloc (by assumption)))).mono ?_); rintro e w' ⟨rfl, hw⟩; subst hw)
           | (go_at_call 59; (with_reducible refine (unless_t _ _).mono ?_); rintro e w' ⟨rfl, hw⟩; subst hw)
           | (go_at_call 59; (with_reducible refine (unless_f _ _).mono ?_); rintro e w' ⟨rfl, hw⟩; subst hw)
           | (go_at_call 58; refine (firstOf4 _ _ (some (TT, xx)) none (some (129, .int .i64 2)) none (by simp [ev]) (by simp [ev]) (by simp [ev]) (by simp [ev])).mono ?_; rintro e w' ⟨rfl, hw⟩; subst hw; simp only [ev, firstE]))
       obtain ⟨w5, e5⟩ : ∃ y, w'.alloc (.cells #[.iface TT xx, .nilIface, .iface 129 (.int .i64 2), .nilIface] 85) = y := ⟨_, rfl⟩
       have hb5 : Below w3.heap.size w3 w5 := by subst e5; exact (TSt.alloc ts4).bel
       rw [e5]
       clear e5 ts4 ts3
       go_wp2_with fail
       refine (codeOf_any _ 1 _ (HG0.out.below (below_step HB3.out hb5)) (HE.out.below hb5)).mono ?_
       rintro e w6 ⟨rfl, hb6⟩
       have HB6 := Aside0.mk (below_step (below_step HB3.out hb5) hb6)
       have HY6 := Aside0.mk (blk_below (blk_below HY3.out hb5) hb6)
       have y0 : w6.cell? ⟨w.heap.size + 1 + 1, 0, none⟩ = some (.slice none 0 0) := (blk_cell HY6.out 0).trans rfl
       have f0 := blk_frozen HY6.out 0
       have BX : Aside0 _ := ⟨blk_put HY6.out 0 (.slice none 0 0) rfl⟩
       clear hb5 hb6 q0 p0 p1 p2
       go_wp2
       refine bodyPost_ret (results_list (rs := [.cell 6 30, .tmp 7]) rfl (by simp) (.cell (w.heap.size + 1 + 1) 30 _ (0, 0) _ rfl BX.out Tryd.underlying30 rfl (by kernel_rfl) (.tmp .nil))) rfl ?_
       have e : treeInsertV xs rk p = ([], 1) := by
         unfold treeInsertV; rw [HVV.out]
       rw [e]
       exact TreeOut.none _ (HB6.out.setCell (p := ⟨w.heap.size + 1 + 1, 0, none⟩) (by show w.heap.size ≤ w.heap.size + 1 + 1; omega) _)
      ·
       have GD : Aside0 (∀ W : World, Calls Tryd.prog 78 #[.agg #[.int .i64 p.off, .int .i64 p.len, .int .i64 p.brk]] W fun e w' => e = .returned (.bool true) ∧ Below W.heap.size W w') := ⟨fun W => QBase.impl_goodPiece.calls p.off p.len p.brk true W (by rw [goodPiece_is ⟨⟨p.off, p.len, p.brk⟩, 0⟩, decide_eq_true cgd])⟩
       have CGD := Aside0.mk cgd
       clear cgd
       have WI : Aside0 (∀ W : World, Calls Tryd.prog 60 #[.int .i64 rk, .int .i64 0, .int .i64 (xs.length : Nat)] W fun e w' => e = .returned (.bool false) ∧ w' = W) := ⟨fun W => by have h := within_any W rk 0 (xs.length : Nat); rw [decide_eq_false cin] at h; exact h⟩
       clear cin
       have hsm := HSM.out
       have cfd : decide (sm ≤ 8192) = false := decide_eq_false cft
       clear cft
       have ts3 : TSt w3 w3 := ⟨Below.refl _ _⟩
       go_wp2_with fail
       go_region_held3 (fun w' => w'.cell? ⟨w.heap.size, 0, none⟩ = some (.slice A xs.length c) ∧ w'.cell? ⟨w.heap.size + 1, 0, none⟩ = some (.int .i64 p.off) ∧ w'.cell? ⟨w.heap.size + 1, 1, none⟩ = some (.int .i64 p.len) ∧ w'.cell? ⟨w.heap.size + 1, 2, none⟩ = some (.int .i64 p.brk) ∧ TSt w3 w')
         (first | (refine (fun (x : TSt w3 _) => ⟨x.keep q0, x.keep p0, x.keep p1, x.keep p2, x⟩) ?_; repeat (first | assumption | (with_reducible apply TSt.drew) | (with_reducible apply TSt.alloc))))
         (first
           | (go_at_call 78; (with_reducible refine (GD.out _).mono ?_); rintro e w' ⟨rfl, hb⟩; have ts4 := TSt.below (w := w3) (by first | assumption | exact TSt.drew (by assumption) | exact TSt.alloc (by assumption)) hb)
           | (go_at_call 60; (with_reducible refine (WI.out _).mono ?_); rintro e w' ⟨rfl, hw⟩; subst hw)
           | (go_at_call 61; (with_reducible refine (RU.out _ (TSt.bel (w := w3) (by first | assumption | exact TSt.drew (by assumption) | exact TSt.alloc (by assumption)))).mono ?_); rintro e w' ⟨rfl, hw⟩; subst hw)
           | (go_at_call 59; (with_reducible refine (unless_t _ _).mono ?_); rintro e w' ⟨rfl, hw⟩; subst hw)
           | (go_at_call 59; (with_reducible refine (unless_f _ _).mono ?_); rintro e w' ⟨rfl, hw⟩; subst hw)
           | (go_at_call 58; refine (firstOf4 _ _ (some (TT, xx)) none (some (129, .int .i64 2)) (some (129, .int .i64 10)) (by simp [ev]) (by simp [ev]) (by simp [ev]) (by simp [ev])).mono ?_; rintro e w' ⟨rfl, hw⟩; subst hw; simp only [ev, firstE]))
       obtain ⟨w5, e5⟩ : ∃ y, w'.alloc (.cells #[.iface TT xx, .nilIface, .iface 129 (.int .i64 2), .iface 129 (.int .i64 10)] 85) = y := ⟨_, rfl⟩
       have hb5 : Below w3.heap.size w3 w5 := by subst e5; exact (TSt.alloc ts4).bel
       rw [e5]
       clear e5 ts4 ts3
       go_wp2_with fail
       refine (codeOf_any _ 1 _ (HG0.out.below (below_step HB3.out hb5)) (HE.out.below hb5)).mono ?_
       rintro e w6 ⟨rfl, hb6⟩
       have HB6 := Aside0.mk (below_step (below_step HB3.out hb5) hb6)
       have HY6 := Aside0.mk (blk_below (blk_below HY3.out hb5) hb6)
       have y0 : w6.cell? ⟨w.heap.size + 1 + 1, 0, none⟩ = some (.slice none 0 0) := (blk_cell HY6.out 0).trans rfl
       have f0 := blk_frozen HY6.out 0
       have BX : Aside0 _ := ⟨blk_put HY6.out 0 (.slice none 0 0) rfl⟩
       clear hb5 hb6 q0 p0 p1 p2
       go_wp2
       refine bodyPost_ret (results_list (rs := [.cell 6 30, .tmp 7]) rfl (by simp) (.cell (w.heap.size + 1 + 1) 30 _ (0, 0) _ rfl BX.out Tryd.underlying30 rfl (by kernel_rfl) (.tmp .nil))) rfl ?_
       have e : treeInsertV xs rk p = ([], 1) := by
         unfold treeInsertV; rw [HVV.out]
       rw [e]
       exact TreeOut.none _ (HB6.out.setCell (p := ⟨w.heap.size + 1 + 1, 0, none⟩) (by show w.heap.size ≤ w.heap.size + 1 + 1; omega) _)
    ·
     by_cases cin : 0 ≤ rk ∧ rk ≤ (xs.length : Int)
     ·
      by_cases cft : sm ≤ 8192
      ·
       have GD : Aside0 (∀ W : World, Calls Tryd.prog 78 #[.agg #[.int .i64 p.off, .int .i64 p.len, .int .i64 p.brk]] W fun e w' => e = .returned (.bool false) ∧ Below W.heap.size W w') := ⟨fun W => QBase.impl_goodPiece.calls p.off p.len p.brk false W (by rw [goodPiece_is ⟨⟨p.off, p.len, p.brk⟩, 0⟩, decide_eq_false cgd])⟩
       have CGD := Aside0.mk cgd
       clear cgd
       have WI : Aside0 (∀ W : World, Calls Tryd.prog 60 #[.int .i64 rk, .int .i64 0, .int .i64 (xs.length : Nat)] W fun e w' => e = .returned (.bool true) ∧ w' = W) := ⟨fun W => by have h := within_any W rk 0 (xs.length : Nat); rw [decide_eq_true cin] at h; exact h⟩
       clear cin
       have hsm := HSM.out
       have cfd : decide (sm ≤ 8192) = true := decide_eq_true cft
       clear cft
       have ts3 : TSt w3 w3 := ⟨Below.refl _ _⟩
       go_wp2_with fail
       go_region_held3 (fun w' => w'.cell? ⟨w.heap.size, 0, none⟩ = some (.slice A xs.length c) ∧ w'.cell? ⟨w.heap.size + 1, 0, none⟩ = some (.int .i64 p.off) ∧ w'.cell? ⟨w.heap.size + 1, 1, none⟩ = some (.int .i64 p.len) ∧ w'.cell? ⟨w.heap.size + 1, 2, none⟩ = some (.int .i64 p.brk) ∧ TSt w3 w')
         (first | (refine (fun (x : TSt w3 _) => ⟨x.keep q0, x.keep p0, x.keep p1, x.keep p2, x⟩) ?_; repeat (first | assumption | (with_reducible apply TSt.drew) | (with_reducible apply TSt.alloc))))
         (first
           | (go_at_call 78; (with_reducible refine (GD.out _).mono ?_); rintro e w' ⟨rfl, hb⟩; have ts4 := TSt.below (w := w3) (by first | assumption | exact TSt.drew (by assumption) | exact TSt.alloc (by assumption)) hb)
           | (go_at_call 60; (with_reducible refine (WI.out _).mono ?_); rintro e w' ⟨rfl, hw⟩; subst hw)
           | (go_at_call 61; (with_reducible refine (RU.out _ (TSt.bel (w := w3) (by first | assumption | exact TSt.drew (by assumption) | exact TSt.alloc (by assumption)))).mono ?_); rintro e w' ⟨rfl, hw⟩; subst hw)
           | (go_at_call 59; (with_reducible refine (unless_t _ _).mono ?_); rintro e w' ⟨rfl, hw⟩; subst hw)
           | (go_at_call 59; (with_reducible refine (unless_f _ _).mono ?_); rintro e w' ⟨rfl, hw⟩; subst hw)
           | (go_at_call 58; refine (firstOf4 _ _ (some (TT, xx)) (some (129, .int .i64 1)) none none (by simp [ev]) (by simp [ev]) (by simp [ev]) (by simp [ev])).mono ?_; rintro e w' ⟨rfl, hw⟩; subst hw; simp only [ev, firstE]))
       obtain ⟨w5, e5⟩ : ∃ y, w'.alloc (.cells #[.iface TT xx, .iface 129 (.int .i64 1), .nilIface, .nilIface] 85) = y := ⟨_, rfl⟩
       have hb5 : Below w3.heap.size w3 w5 := by subst e5; exact (TSt.alloc ts4).bel
       rw [e5]
       clear e5 ts4 ts3
       go_wp2_with fail
       refine (codeOf_any _ 1 _ (HG0.out.below (below_step HB3.out hb5)) (HE.out.below hb5)).mono ?_
       rintro e w6 ⟨rfl, hb6⟩
       have HB6 := Aside0.mk (below_step (below_step HB3.out hb5) hb6)
       have HY6 := Aside0.mk (blk_below (blk_below HY3.out hb5) hb6)
       have y0 : w6.cell? ⟨w.heap.size + 1 + 1, 0, none⟩ = some (.slice none 0 0) := (blk_cell HY6.out 0).trans rfl
       have f0 := blk_frozen HY6.out 0
       have BX : Aside0 _ := ⟨blk_put HY6.out 0 (.slice none 0 0) rfl⟩
       clear hb5 hb6 q0 p0 p1 p2
       go_wp2
       refine bodyPost_ret (results_list (rs := [.cell 6 30, .tmp 7]) rfl (by simp) (.cell (w.heap.size + 1 + 1) 30 _ (0, 0) _ rfl BX.out Tryd.underlying30 rfl (by kernel_rfl) (.tmp .nil))) rfl ?_
       have e : treeInsertV xs rk p = ([], 1) := by
         unfold treeInsertV; rw [HVV.out]
       rw [e]
       exact TreeOut.none _ (HB6.out.setCell (p := ⟨w.heap.size + 1 + 1, 0, none⟩) (by show w.heap.size ≤ w.heap.size + 1 + 1; omega) _)
      ·
       have GD : Aside0 (∀ W : World, Calls Tryd.prog 78 #[.agg #[.int .i64 p.off, .int .i64 p.len, .int .i64 p.brk]] W fun e w' => e = .returned (.bool false) ∧ Below W.heap.size W w') := ⟨fun W => QBase.impl_goodPiece.calls p.off p.len p.brk false W (by rw [goodPiece_is ⟨⟨p.off, p.len, p.brk⟩, 0⟩, decide_eq_false cgd])⟩
       have CGD := Aside0.mk cgd
       clear cgd
       have WI : Aside0 (∀ W : World, Calls Tryd.prog 60 #[.int .i64 rk, .int .i64 0, .int .i64 (xs.length : Nat)] W fun e w' => e = .returned (.bool true) ∧ w' = W) := ⟨fun W => by have h := within_any W rk 0 (xs.length : Nat); rw [decide_eq_true cin] at h; exact h⟩
       clear cin
       have hsm := HSM.out
       have cfd : decide (sm ≤ 8192) = false := decide_eq_false cft
       clear cft
       have ts3 : TSt w3 w3 := ⟨Below.refl _ _⟩
       go_wp2_with fail
       go_region_held3 (fun w' => w'.cell? ⟨w.heap.size, 0, none⟩ = some (.slice A xs.length c) ∧ w'.cell? ⟨w.heap.size + 1, 0, none⟩ = some (.int .i64 p.off) ∧ w'.cell? ⟨w.heap.size + 1, 1, none⟩ = some (.int .i64 p.len) ∧ w'.cell? ⟨w.heap.size + 1, 2, none⟩ = some (.int .i64 p.brk) ∧ TSt w3 w')
         (first | (refine (fun (x : TSt w3 _) => ⟨x.keep q0, x.keep p0, x.keep p1, x.keep p2, x⟩) ?_; repeat (first | assumption | (with_reducible apply TSt.drew) | (with_reducible apply TSt.alloc))))
         (first
           | (go_at_call 78; (with_reducible refine (GD.out _).mono ?_); rintro e w' ⟨rfl, hb⟩; have ts4 := TSt.below (w := w3) (by first | assumption | exact TSt.drew (by assumption) | exact TSt.alloc (by assumption)) hb)
           | (go_at_call 60; (with_reducible refine (WI.out _).mono ?_); rintro e w' ⟨rfl, hw⟩; subst hw)
           | (go_at_call 61; (with_reducible refine (RU.out _ (TSt.bel (w := w3) (by first | assumption | exact TSt.drew (by assumption) | exact TSt.alloc (by assumption)))).mono ?_); rintro e w' ⟨rfl, hw⟩; subst hw)
           | (go_at_call 59; (with_reducible refine (unless_t _ _).mono ?_); rintro e w' ⟨rfl, hw⟩; subst hw)
           | (go_at_call 59; (with_reducible refine (unless_f _ _).mono ?_); rintro e w' ⟨rfl, hw⟩; subst hw)
           | (go_at_call 58; refine (firstOf4 _ _ (some (TT, xx)) (some (129, .int .i64 1)) none (some (129, .int .i64 10)) (by simp [ev]) (by simp [ev]) (by simp [ev]) (by simp [ev])).mono ?_; rintro e w' ⟨rfl, hw⟩; subst hw; simp only [ev, firstE]))
       obtain ⟨w5, e5⟩ : ∃ y, w'.alloc (.cells #[.iface TT xx, .iface 129 (.int .i64 1), .nilIface, .iface 129 (.int .i64 10)] 85) = y := ⟨_, rfl⟩
       have hb5 : Below w3.heap.size w3 w5 := by subst e5; exact (TSt.alloc ts4).bel
       rw [e5]
       clear e5 ts4 ts3
       go_wp2_with fail
       refine (codeOf_any _ 1 _ (HG0.out.below (below_step HB3.out hb5)) (HE.out.below hb5)).mono ?_
       rintro e w6 ⟨rfl, hb6⟩
       have HB6 := Aside0.mk (below_step (below_step HB3.out hb5) hb6)
       have HY6 := Aside0.mk (blk_below (blk_below HY3.out hb5) hb6)
       have y0 : w6.cell? ⟨w.heap.size + 1 + 1, 0, none⟩ = some (.slice none 0 0) := (blk_cell HY6.out 0).trans rfl
       have f0 := blk_frozen HY6.out 0
       have BX : Aside0 _ := ⟨blk_put HY6.out 0 (.slice none 0 0) rfl⟩
       clear hb5 hb6 q0 p0 p1 p2
       go_wp2
       refine bodyPost_ret (results_list (rs := [.cell 6 30, .tmp 7]) rfl (by simp) (.cell (w.heap.size + 1 + 1) 30 _ (0, 0) _ rfl BX.out Tryd.underlying30 rfl (by kernel_rfl) (.tmp .nil))) rfl ?_
       have e : treeInsertV xs rk p = ([], 1) := by
         unfold treeInsertV; rw [HVV.out]
       rw [e]
       exact TreeOut.none _ (HB6.out.setCell (p := ⟨w.heap.size + 1 + 1, 0, none⟩) (by show w.heap.size ≤ w.heap.size + 1 + 1; omega) _)
     ·
      by_cases cft : sm ≤ 8192
      ·
       have GD : Aside0 (∀ W : World, Calls Tryd.prog 78 #[.agg #[.int .i64 p.off, .int .i64 p.len, .int .i64 p.brk]] W fun e w' => e = .returned (.bool false) ∧ Below W.heap.size W w') := ⟨fun W => QBase.impl_goodPiece.calls p.off p.len p.brk false W (by rw [goodPiece_is ⟨⟨p.off, p.len, p.brk⟩, 0⟩, decide_eq_false cgd])⟩
       have CGD := Aside0.mk cgd
       clear cgd
       have WI : Aside0 (∀ W : World, Calls Tryd.prog 60 #[.int .i64 rk, .int .i64 0, .int .i64 (xs.length : Nat)] W fun e w' => e = .returned (.bool false) ∧ w' = W) := ⟨fun W => by have h := within_any W rk 0 (xs.length : Nat); rw [decide_eq_false cin] at h; exact h⟩
       clear cin
       have hsm := HSM.out
       have cfd : decide (sm ≤ 8192) = true := decide_eq_true cft
       clear cft
       have ts3 : TSt w3 w3 := ⟨Below.refl _ _⟩
       go_wp2_with fail
       go_region_held3 (fun w' => w'.cell? ⟨w.heap.size, 0, none⟩ = some (.slice A xs.length c) ∧ w'.cell? ⟨w.heap.size + 1, 0, none⟩ = some (.int .i64 p.off) ∧ w'.cell? ⟨w.heap.size + 1, 1, none⟩ = some (.int .i64 p.len) ∧ w'.cell? ⟨w.heap.size + 1, 2, none⟩ = some (.int .i64 p.brk) ∧ TSt w3 w')
         (first | (refine (fun (x : TSt w3 _) => ⟨x.keep q0, x.keep p0, x.keep p1, x.keep p2, x⟩) ?_; repeat (first | assumption | (with_reducible apply TSt.drew) | (with_reducible apply TSt.alloc))))
         (first
           | (go_at_call 78; (with_reducible refine (GD.out _).mono ?_); rintro e w' ⟨rfl, hb⟩; have ts4 := TSt.below (w := w3) (by first | assumption | exact TSt.drew (by assumption) | exact TSt.alloc (by assumption)) hb)
           | (go_at_call 60; (with_reducible refine (WI.out _).mono ?_); rintro e w' ⟨rfl, hw⟩; subst hw)
           | (go_at_call 61; (with_reducible refine (RU.out _ (TSt.bel (w := w3) (by first | assumption | exact TSt.drew (by assumption) | exact TSt.alloc (by assumption)))).mono ?_); rintro e w' ⟨rfl, hw⟩; subst hw)
           | (go_at_call 59; (with_reducible refine (unless_t _ _).mono ?_); rintro e w' ⟨rfl, hw⟩; subst hw)
           | (go_at_call 59; (with_reducible refine (unless_f _ _).mono ?_); rintro e w' ⟨rfl, hw⟩; subst hw)
           | (go_at_call 58; refine (firstOf4 _ _ (some (TT, xx)) (some (129, .int .i64 1)) (some (129, .int .i64 2)) none (by simp [ev]) (by simp [ev]) (by simp [ev]) (by simp [ev])).mono ?_; rintro e w' ⟨rfl, hw⟩; subst hw; simp only [ev, firstE]))
       obtain ⟨w5, e5⟩ : ∃ y, w'.alloc (.cells #[.iface TT xx, .iface 129 (.int .i64 1), .iface 129 (.int .i64 2), .nilIface] 85) = y := ⟨_, rfl⟩
       have hb5 : Below w3.heap.size w3 w5 := by subst e5; exact (TSt.alloc ts4).bel
       rw [e5]
       clear e5 ts4 ts3
       go_wp2_with fail
       refine (codeOf_any _ 1 _ (HG0.out.below (below_step HB3.out hb5)) (HE.out.below hb5)).mono ?_
       rintro e w6 ⟨rfl, hb6⟩
       have HB6 := Aside0.mk (below_step (below_step HB3.out hb5) hb6)
       have HY6 := Aside0.mk (blk_below (blk_below HY3.out hb5) hb6)
       have y0 : w6.cell? ⟨w.heap.size + 1 + 1, 0, none⟩ = some (.slice none 0 0) := (blk_cell HY6.out 0).trans rfl
       have f0 := blk_frozen HY6.out 0
       have BX : Aside0 _ := ⟨blk_put HY6.out 0 (.slice none 0 0) rfl⟩
       clear hb5 hb6 q0 p0 p1 p2
       go_wp2
       refine bodyPost_ret (results_list (rs := [.cell 6 30, .tmp 7]) rfl (by simp) (.cell (w.heap.size + 1 + 1) 30 _ (0, 0) _ rfl BX.out Tryd.underlying30 rfl (by kernel_rfl) (.tmp .nil))) rfl ?_
       have e : treeInsertV xs rk p = ([], 1) := by
         unfold treeInsertV; rw [HVV.out]
       rw [e]
       exact TreeOut.none _ (HB6.out.setCell (p := ⟨w.heap.size + 1 + 1, 0, none⟩) (by show w.heap.size ≤ w.heap.size + 1 + 1; omega) _)
      ·
       have GD : Aside0 (∀ W : World, Calls Tryd.prog 78 #[.agg #[.int .i64 p.off, .int .i64 p.len, .int .i64 p.brk]] W fun e w' => e = .returned (.bool false) ∧ Below W.heap.size W w') := ⟨fun W => QBase.impl_goodPiece.calls p.off p.len p.brk false W (by rw [goodPiece_is ⟨⟨p.off, p.len, p.brk⟩, 0⟩, decide_eq_false cgd])⟩
       have CGD := Aside0.mk cgd
       clear cgd
       have WI : Aside0 (∀ W : World, Calls Tryd.prog 60 #[.int .i64 rk, .int .i64 0, .int .i64 (xs.length : Nat)] W fun e w' => e = .returned (.bool false) ∧ w' = W) := ⟨fun W => by have h := within_any W rk 0 (xs.length : Nat); rw [decide_eq_false cin] at h; exact h⟩
       clear cin
       have hsm := HSM.out
       have cfd : decide (sm ≤ 8192) = false := decide_eq_false cft
       clear cft
       have ts3 : TSt w3 w3 := ⟨Below.refl _ _⟩
       go_wp2_with fail
       go_region_held3 (fun w' => w'.cell? ⟨w.heap.size, 0, none⟩ = some (.slice A xs.length c) ∧ w'.cell? ⟨w.heap.size + 1, 0, none⟩ = some (.int .i64 p.off) ∧ w'.cell? ⟨w.heap.size + 1, 1, none⟩ = some (.int .i64 p.len) ∧ w'.cell? ⟨w.heap.size + 1, 2, none⟩ = some (.int .i64 p.brk) ∧ TSt w3 w')
         (first | (refine (fun (x : TSt w3 _) => ⟨x.keep q0, x.keep p0, x.keep p1, x.keep p2, x⟩) ?_; repeat (first | assumption | (with_reducible apply TSt.drew) | (with_reducible apply TSt.alloc))))
         (first
           | (go_at_call 78; (with_reducible refine (GD.out _).mono ?_); rintro e w' ⟨rfl, hb⟩; have ts4 := TSt.below (w := w3) (by first | assumption | exact TSt.drew (by assumption) | exact TSt.alloc (by assumption)) hb)
           | (go_at_call 60; (with_reducible refine (WI.out _).mono ?_); rintro e w' ⟨rfl, hw⟩; subst hw)
           | (go_at_call 61; (with_reducible refine (RU.out _ (TSt.bel (w := w3) (by first | assumption | exact TSt.drew (by assumption) | exact TSt.alloc (by assumption)))).mono ?_); rintro e w' ⟨rfl, hw⟩; subst hw)
           | (go_at_call 59; (with_reducible refine (unless_t _ _).mono ?_); rintro e w' ⟨rfl, hw⟩; subst hw)
           | (go_at_call 59; (with_reducible refine (unless_f _ _).mono ?_); rintro e w' ⟨rfl, hw⟩; subst hw)
           | (go_at_call 58; refine (firstOf4 _ _ (some (TT, xx)) (some (129, .int .i64 1)) (some (129, .int .i64 2)) (some (129, .int .i64 10)) (by simp [ev]) (by simp [ev]) (by simp [ev]) (by simp [ev])).mono ?_; rintro e w' ⟨rfl, hw⟩; subst hw; simp only [ev, firstE]))
       obtain ⟨w5, e5⟩ : ∃ y, w'.alloc (.cells #[.iface TT xx, .iface 129 (.int .i64 1), .iface 129 (.int .i64 2), .iface 129 (.int .i64 10)] 85) = y := ⟨_, rfl⟩
       have hb5 : Below w3.heap.size w3 w5 := by subst e5; exact (TSt.alloc ts4).bel
       rw [e5]
       clear e5 ts4 ts3
       go_wp2_with fail
       refine (codeOf_any _ 1 _ (HG0.out.below (below_step HB3.out hb5)) (HE.out.below hb5)).mono ?_
       rintro e w6 ⟨rfl, hb6⟩
       have HB6 := Aside0.mk (below_step (below_step HB3.out hb5) hb6)
       have HY6 := Aside0.mk (blk_below (blk_below HY3.out hb5) hb6)
       have y0 : w6.cell? ⟨w.heap.size + 1 + 1, 0, none⟩ = some (.slice none 0 0) := (blk_cell HY6.out 0).trans rfl
       have f0 := blk_frozen HY6.out 0
       have BX : Aside0 _ := ⟨blk_put HY6.out 0 (.slice none 0 0) rfl⟩
       clear hb5 hb6 q0 p0 p1 p2
       go_wp2
       refine bodyPost_ret (results_list (rs := [.cell 6 30, .tmp 7]) rfl (by simp) (.cell (w.heap.size + 1 + 1) 30 _ (0, 0) _ rfl BX.out Tryd.underlying30 rfl (by kernel_rfl) (.tmp .nil))) rfl ?_
       have e : treeInsertV xs rk p = ([], 1) := by
         unfold treeInsertV; rw [HVV.out]
       rw [e]
       exact TreeOut.none _ (HB6.out.setCell (p := ⟨w.heap.size + 1 + 1, 0, none⟩) (by show w.heap.size ≤ w.heap.size + 1 + 1; omega) _)
end Go.Proofs.YtciabhncmdpeeaaDoor
