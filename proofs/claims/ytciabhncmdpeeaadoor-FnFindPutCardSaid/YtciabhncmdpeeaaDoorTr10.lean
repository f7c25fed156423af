/- TreeFind and TreeFindLine, walked, and what a tree that came in reads as. Conditions: at most 1048576 items; errors.errorType reads as laid. -/
import Derived.Test.YtciabhncmdpeeaaDoorTr9
namespace Go.Proofs.YtciabhncmdpeeaaDoor
open Go.RowKit Go.Proofs.YtciabhncmdpeeaaDoorW.PrintWords Go.Proofs.YtciabhncmdpeeaaDoorW.PrintLast Go.Proofs.YtciabhncmdpeeaaDoorW.PrintMore Er
def itv (x : It) : Pc × Int := (pcOf x, x.f1)
theorem scanL_at (level : Int) (xs : List It) : ∀ (i : Nat) (root : Int) (r : Int), scanL level xs i root = some r → r = root ∨ ∃ j : Nat, j < xs.length ∧ r = (i + j : Nat) ∧ (QBase.rd_T54 xs (j : Int)).f1 = level := by
 induction xs with
 | nil => intro i root r h; simp only [scanL, Option.some.injEq] at h; exact .inl h.symm
 | cons x xs ih =>
  intro i root r h
  simp only [scanL] at h
  split at h
  ·cases h
  ·rcases ih (i + 1) _ r h with h1 | ⟨j, hj, h1, h2⟩
   ·by_cases c : x.f1 = level
    ·rw [if_pos c] at h1
     exact .inr ⟨0, by simp, by rw [h1]; simp, by simpa [QBase.rd_T54] using c⟩
    ·rw [if_neg c] at h1; exact .inl h1
   ·refine .inr ⟨j + 1, by simp; omega, by rw [h1]; congr 1; omega, ?_⟩
    have e : QBase.rd_T54 (x :: xs) ((j + 1 : Nat) : Int) = QBase.rd_T54 xs (j : Int) := by
     unfold QBase.rd_T54; simp only [Int.toNat_natCast, List.getD_cons_succ]
    rw [e]; exact h2
theorem rootedV_flat (n : Nat) : ∀ (xs : List It) (level : Int) (t : Tree), rootedV n xs level = some t → TP.flat t level = xs.map itv ∧ TP.Avl t := by
 induction n with
 | zero => intro xs level t h; cases h
 | succ n ih =>
  intro xs level t h
  simp only [rootedV] at h
  split at h
  ·rename_i h0
   obtain rfl : xs = [] := by simpa using h0
   cases h; exact ⟨rfl, trivial⟩
  ·split at h
   ·cases h
   ·cases hs : scanL level xs 0 (-1) with
    | none => rw [hs] at h; cases h
    | some root =>
     rw [hs] at h
     simp only at h
     split at h
     ·cases h
     ·rename_i hneg
      rcases scanL_at level xs 0 (-1) root hs with h1 | ⟨j, hj, h1, h2⟩
      ·omega
      ·obtain rfl : root = (j : Int) := by rw [h1]; simp
       simp only [Int.toNat_natCast] at h
       split at h
       ·rename_i l r hl hr
        split at h
        ·rename_i hb
         cases h
         obtain ⟨f1, a1⟩ := ih _ _ _ hl
         obtain ⟨f2, a2⟩ := ih _ _ _ hr
         refine ⟨?_, a1, a2, hb.1, hb.2⟩
         simp only [TP.flat, f1, f2]
         have e : xs = xs.take j ++ QBase.rd_T54 xs (j : Int) :: xs.drop (j + 1) := by
          rw [← rd_drop xs j hj, List.take_append_drop]
         conv => rhs; rw [e]
         rw [List.map_append, List.map_cons]
         congr 2
         unfold itv; rw [h2]
        ·cases h
       ·cases h
theorem rl_toL (t : Tree) : rl t = ((TP.toL t).map Pc.len).sum ∧ kl t = ((TP.toL t).map Pc.brk).sum := by
 induction t with
 | nil => exact ⟨rfl, rfl⟩
 | node l v r ihl ihr =>
  simp only [rl, kl, TP.toL, List.map_append, List.map_cons, List.sum_append, List.sum_cons, ihl.1, ihl.2, ihr.1, ihr.2]
  omega
theorem sumL_map (xs : List It) : sumL xs = ((xs.map pcOf).map Pc.len).sum := by
 induction xs with
 | nil => rfl
 | cons x xs ih => simp only [sumL, List.map_cons, List.sum_cons, ih]; rfl
theorem grownV_toL {xs : List It} {t : Tree} (h : grownV xs = some t) : TP.toL t = xs.map pcOf ∧ TP.Avl t ∧ TP.flat t 0 = xs.map itv ∧ xs.length ≤ 8192 ∧ AllGood xs ∧ sumL xs ≤ 8192 := by
 unfold grownV at h
 split at h
 ·rename_i hh
  obtain ⟨f, a⟩ := rootedV_flat _ _ _ _ h
  refine ⟨?_, a, f, hh⟩
  rw [← TP.flat_toL t 0, f, List.map_map]; rfl
 ·cases h
def AllP (t : Tree) : Prop := ∀ v ∈ TP.toL t, 1 ≤ v.len ∧ 0 ≤ v.brk ∧ v.brk ≤ v.len
theorem Fine_of (t : Tree) (h : AllP t) (hb : rl t ≤ 8192) : Fine t := by
 have key : ∀ t : Tree, AllP t → (TP.cnt t : Int) ≤ rl t ∧ 0 ≤ kl t ∧ kl t ≤ rl t := by
  intro t
  induction t with
  | nil => intro _; simp [TP.cnt, rl, kl]
  | node l v r ihl ihr =>
   intro h
   have h1 := ihl (fun x hx => h x (by simp [TP.toL, hx]))
   have h2 := ihr (fun x hx => h x (by simp [TP.toL, hx]))
   have h3 := h v (by simp [TP.toL])
   simp only [TP.cnt, rl, kl]; omega
 induction t with
 | nil => trivial
 | node l v r ihl ihr =>
  have hl : AllP l := fun x hx => h x (by simp [TP.toL, hx])
  have hr : AllP r := fun x hx => h x (by simp [TP.toL, hx])
  have h3 := h v (by simp [TP.toL])
  have k1 := key l hl; have k2 := key r hr; have k3 := key _ h
  simp only [rl] at hb
  refine ⟨ihl hl (by omega), ihr hr (by omega), by omega, by omega, ?_, ?_, ?_⟩
  ·simp only [rl] at k3 ⊢; omega
  ·simp only [kl, rl] at k3 ⊢; omega
  ·simp only [rl] at k3; omega
theorem grownV_fine {xs : List It} {t : Tree} (h : grownV xs = some t) : Fine t ∧ rl t = sumL xs ∧ rl t ≤ 8192 ∧ TP.cnt t = xs.length := by
 obtain ⟨h1, h2, h3, h4, h5, h6⟩ := grownV_toL h
 have e : rl t = sumL xs := by rw [(rl_toL t).1, h1, sumL_map]
 refine ⟨Fine_of t (fun v hv => ?_) (by omega), e, by omega, ?_⟩
 ·rw [h1] at hv
  obtain ⟨x, hx, rfl⟩ := List.mem_map.1 hv
  have := h5 x hx
  unfold goodP at this
  simp only [pcOf]; omega
 ·have := congrArg List.length h3
  rw [TP.flat_length, List.length_map] at this; exact this
theorem errIs_ev {w : World} {v : Value} {c : Int} (h : ErrIs w v c) : ∃ T x, v = ev (some (T, x)) := by
 rcases h with rfl | ⟨pb, rfl, _⟩
 ·exact ⟨_, _, rfl⟩
 ·exact ⟨_, _, rfl⟩
theorem firstOf2 (w : World) (g : Nat) (a b : EV) (h0 : w.cell? ⟨g, 0, none⟩ = some (ev a)) (h1 : w.cell? ⟨g, 1, none⟩ = some (ev b)) :
  Calls Tryd.prog 58 #[.slice (some ⟨g, 0, none⟩) 2 2] w fun e w' => e = .returned (ev (firstE [a, b])) ∧ w' = w :=
 firstOf_any w g [a, b] (by simp) (fun i v h => by
  rcases i with _ | _ | i
  ·cases h; exact h0
  ·cases h; exact h1
  ·simp at h)
def treeFindV (xs : List It) (off : Int) : Int × Int × Int × Int :=
 match grownV xs with
 | none => (0, 0, 0, 1)
 | some t => if 0 ≤ off ∧ off ≤ rl t - 1 then ((findV t off 0 1).1, (findV t off 0 1).2.1, (findV t off 0 1).2.2, 0) else (0, 0, 0, 2)
def FindPost (w : World) (r : Int × Int × Int × Int) (e : Ending) (w' : World) : Prop := e = .returned (.tuple #[.int .i64 r.1, .int .i64 r.2.1, .int .i64 r.2.2.1, .int .i64 r.2.2.2]) ∧ Below w.heap.size w w'
set_option maxHeartbeats 4000000 in
set_option maxRecDepth 100000 in
theorem treeFind_any (w : World) (xs : List It) (A : Option Addr) (c : Nat) (off : Int) (hm : xs.length ≤ 1048576) (hr : Kd.C QBase.k54 w A xs.length xs) (hc : xs.length ≤ c) (hg : HG w) :
  Calls Tryd.prog 18 #[.agg #[.slice A xs.length c], .int .i64 off] w (FindPost w (treeFindV xs off)) := by
 obtain ⟨w0, e0⟩ : ∃ y, w.alloc (.cells #[.slice A xs.length c] 30) = y := ⟨_, rfl⟩
 have HB0 : Aside0 (Below w.heap.size w w0) := ⟨by subst e0; exact (Below.refl _ w).alloc (Nat.le_refl _) _⟩
 have HX : Aside0 (w0.heap[w.heap.size]? = some (.cells #[.slice A xs.length c] 30 (0, 0))) := ⟨by subst e0; exact blk_new w (.cells #[.slice A xs.length c] 30)⟩
 have q0 : w0.cell? ⟨w.heap.size, 0, none⟩ = some (.slice A xs.length c) := (blk_cell HX.out 0).trans rfl
 have HR := Aside0.mk (Kd.C_below hr HB0.out)
 have HG0 := Aside0.mk hg
 clear hr hg
 go_enter Tryd.func18, Tryd.ntmps18
 go_wp2_with fail
 refine (grown_any w0 xs A c hm HR.out hc).mono ?_
 intro e w1 hp
 obtain ⟨hb1, hp⟩ := hp
 have HB1 := Aside0.mk (below_step HB0.out hb1)
 clear hb1 q0 e0
 rcases hp with ⟨t, p, S, hV, rfl, hrep, hnd, hS⟩ | ⟨hV, p, s, v, rfl, hsum, hE⟩
 ·obtain ⟨hf, hrl, hrb, hcn⟩ := grownV_fine hV
  have hpos := hf.pos
  have HP := Aside0.mk hrep
  have HF := Aside0.mk hf
  have HV := Aside0.mk hV
  clear hV hrep hf hrl hcn hS hnd
  go_wp2_with fail
  refine (runes_rep w1 t p S HP.out HF.out).mono ?_
  rintro e w' ⟨rfl, hw⟩
  rw [hw]
  clear hw w'
  go_wp2_with fail
  by_cases cin : 0 ≤ off ∧ off ≤ rl t - 1
  ·have hw := within_any w1 off 0 (rl t - 1)
   rw [decide_eq_true cin] at hw
   have WI := Aside0.mk hw
   clear hw
   refine WI.out.mono ?_
   rintro e w' ⟨rfl, hw⟩
   rw [hw]
   clear hw w'
   go_wp2_with fail
   refine (unless_any w1 true 2).mono ?_
   rintro e w' ⟨rfl, hw⟩
   rw [hw]
   clear hw w'
   simp only [ev, if_true]
   go_wp2_with fail
   refine (firstOf2 _ w1.heap.size none none (by simp [ev]) (by simp [ev])).mono ?_
   rintro e w' ⟨rfl, hw⟩
   rw [hw]
   clear hw w'
   simp only [ev, firstE]
   obtain ⟨w2, e2⟩ : ∃ y, w1.alloc (.cells #[.nilIface, .nilIface] 85) = y := ⟨_, rfl⟩
   have hb2 : Below w1.heap.size w1 w2 := by subst e2; exact (Below.refl _ w1).alloc (Nat.le_refl _) _
   have HP2 := Aside0.mk (HP.out.below hb2)
   have HB2 := Aside0.mk (below_step HB1.out hb2)
   rw [e2]
   clear e2 hb2
   go_wp2_with fail
   refine (find_any w2 t p S off HP2.out HF.out cin.1 (by omega)).mono ?_
   rintro e w3 ⟨rfl, hb3⟩
   go_wp2
   refine bodyPost_ret (results_list (rs := [.tmp 4, .tmp 5, .tmp 6, .tmp 7]) rfl (by simp) (.tmp (.tmp (.tmp (.tmp .nil))))) rfl ?_
   refine ⟨?_, below_step HB2.out hb3⟩
   unfold treeFindV
   rw [HV.out]
   simp only
   rw [if_pos cin]
   rfl
  ·have hw := within_any w1 off 0 (rl t - 1)
   rw [decide_eq_false cin] at hw
   have WI := Aside0.mk hw
   have CIN := Aside0.mk cin
   clear hw cin
   refine WI.out.mono ?_
   rintro e w' ⟨rfl, hw⟩
   rw [hw]
   clear hw w'
   go_wp2_with fail
   refine (unless_any w1 false 2).mono ?_
   rintro e w' ⟨rfl, hw⟩
   rw [hw]
   clear hw w'
   simp only [ev, Bool.false_eq_true, if_false]
   go_wp2_with fail
   refine (firstOf2 _ w1.heap.size none (some (129, .int .i64 2)) (by simp [ev]) (by simp [ev])).mono ?_
   rintro e w' ⟨rfl, hw⟩
   rw [hw]
   clear hw w'
   simp only [ev, firstE]
   obtain ⟨w2, e2⟩ : ∃ y, w1.alloc (.cells #[.nilIface, .iface 129 (.int .i64 2)] 85) = y := ⟨_, rfl⟩
   have HB2 : Aside0 (Below w.heap.size w w2) := ⟨by subst e2; exact HB1.out.alloc HB1.out.size _⟩
   rw [e2]
   clear e2
   go_wp2_with fail
   refine (codeOf_any _ 2 w2 (HG0.out.below HB2.out) (.inl rfl)).mono ?_
   rintro e w3 ⟨rfl, hb3⟩
   go_wp2
   refine bodyPost_ret (results_list (rs := [.tmp 4, .tmp 5, .tmp 6, .tmp 7]) rfl (by simp) (.tmp (.tmp (.tmp (.tmp .nil))))) rfl ?_
   refine ⟨?_, below_step HB2.out hb3⟩
   unfold treeFindV
   rw [HV.out]
   simp only
   rw [if_neg CIN.out]
   rfl
 ·obtain ⟨T, x, rfl⟩ := errIs_ev hE
  have HE := Aside0.mk hE
  have HV := Aside0.mk hV
  have HS := Aside0.mk hsum
  clear hE hV hsum
  simp only [ev]
  go_wp2_with fail
  refine (runes_any w1 p s HS.out).mono ?_
  rintro e w' ⟨rfl, hw⟩
  rw [hw]
  clear hw w'
  go_wp2_with fail
  refine (within_any w1 off 0 _).mono ?_
  rintro e w' ⟨rfl, hw⟩
  rw [hw]
  clear hw w'
  generalize decide (0 ≤ off ∧ off ≤ wrap64 (s.r - 1)) = b
  cases b with
  | true =>
   go_wp2_with fail
   refine (unless_any w1 true 2).mono ?_
   rintro e w' ⟨rfl, hw⟩
   rw [hw]
   clear hw w'
   simp only [ev, if_true]
   go_wp2_with fail
   refine (firstOf2 _ w1.heap.size (some (T, x)) none (by simp [ev]) (by simp [ev])).mono ?_
   rintro e w' ⟨rfl, hw⟩
   rw [hw]
   clear hw w'
   simp only [ev, firstE]
   obtain ⟨w2, e2⟩ : ∃ y, w1.alloc (.cells #[.iface T x, .nilIface] 85) = y := ⟨_, rfl⟩
   have hb2 : Below w1.heap.size w1 w2 := by subst e2; exact (Below.refl _ w1).alloc (Nat.le_refl _) _
   have HB2 := Aside0.mk (below_step HB1.out hb2)
   have HE2 := Aside0.mk (HE.out.below hb2)
   rw [e2]
   clear e2 hb2
   go_wp2_with fail
   refine (codeOf_any _ 1 w2 (HG0.out.below HB2.out) HE2.out).mono ?_
   rintro e w3 ⟨rfl, hb3⟩
   go_wp2
   refine bodyPost_ret (results_list (rs := [.tmp 4, .tmp 5, .tmp 6, .tmp 7]) rfl (by simp) (.tmp (.tmp (.tmp (.tmp .nil))))) rfl ?_
   refine ⟨?_, below_step HB2.out hb3⟩
   unfold treeFindV
   rw [HV.out]
   rfl
  | false =>
   go_wp2_with fail
   refine (unless_any w1 false 2).mono ?_
   rintro e w' ⟨rfl, hw⟩
   rw [hw]
   clear hw w'
   simp only [ev, Bool.false_eq_true, if_false]
   go_wp2_with fail
   refine (firstOf2 _ w1.heap.size (some (T, x)) (some (129, .int .i64 2)) (by simp [ev]) (by simp [ev])).mono ?_
   rintro e w' ⟨rfl, hw⟩
   rw [hw]
   clear hw w'
   simp only [ev, firstE]
   obtain ⟨w2, e2⟩ : ∃ y, w1.alloc (.cells #[.iface T x, .iface 129 (.int .i64 2)] 85) = y := ⟨_, rfl⟩
   have hb2 : Below w1.heap.size w1 w2 := by subst e2; exact (Below.refl _ w1).alloc (Nat.le_refl _) _
   have HB2 := Aside0.mk (below_step HB1.out hb2)
   have HE2 := Aside0.mk (HE.out.below hb2)
   rw [e2]
   clear e2 hb2
   go_wp2_with fail
   refine (codeOf_any _ 1 w2 (HG0.out.below HB2.out) HE2.out).mono ?_
   rintro e w3 ⟨rfl, hb3⟩
   go_wp2
   refine bodyPost_ret (results_list (rs := [.tmp 4, .tmp 5, .tmp 6, .tmp 7]) rfl (by simp) (.tmp (.tmp (.tmp (.tmp .nil))))) rfl ?_
   refine ⟨?_, below_step HB2.out hb3⟩
   unfold treeFindV
   rw [HV.out]
   rfl
def treeFindLineV (xs : List It) (line : Int) : Int × Int × Int × Int :=
 match grownV xs with
 | none => (0, 0, 0, 1)
 | some t => if 1 ≤ line ∧ line ≤ kl t then ((findBV t line 0 0).1, (findBV t line 0 0).2.1, (findBV t line 0 0).2.2, 0) else (0, 0, 0, 3)
set_option maxHeartbeats 4000000 in
set_option maxRecDepth 100000 in
theorem treeFindLine_any (w : World) (xs : List It) (A : Option Addr) (c : Nat) (line : Int) (hm : xs.length ≤ 1048576) (hr : Kd.C QBase.k54 w A xs.length xs) (hc : xs.length ≤ c) (hg : HG w) :
  Calls Tryd.prog 21 #[.agg #[.slice A xs.length c], .int .i64 line] w (FindPost w (treeFindLineV xs line)) := by
 obtain ⟨w0, e0⟩ : ∃ y, w.alloc (.cells #[.slice A xs.length c] 30) = y := ⟨_, rfl⟩
 have HB0 : Aside0 (Below w.heap.size w w0) := ⟨by subst e0; exact (Below.refl _ w).alloc (Nat.le_refl _) _⟩
 have HX : Aside0 (w0.heap[w.heap.size]? = some (.cells #[.slice A xs.length c] 30 (0, 0))) := ⟨by subst e0; exact blk_new w (.cells #[.slice A xs.length c] 30)⟩
 have q0 : w0.cell? ⟨w.heap.size, 0, none⟩ = some (.slice A xs.length c) := (blk_cell HX.out 0).trans rfl
 have HR := Aside0.mk (Kd.C_below hr HB0.out)
 have HG0 := Aside0.mk hg
 clear hr hg
 go_enter Tryd.func21, Tryd.ntmps21
 go_wp2_with fail
 refine (grown_any w0 xs A c hm HR.out hc).mono ?_
 intro e w1 hp
 obtain ⟨hb1, hp⟩ := hp
 have HB1 := Aside0.mk (below_step HB0.out hb1)
 clear hb1 q0 e0
 rcases hp with ⟨t, p, S, hV, rfl, hrep, hnd, hS⟩ | ⟨hV, p, s, v, rfl, hsum, hE⟩
 ·obtain ⟨hf, hrl, hrb, hcn⟩ := grownV_fine hV
  have hpos := hf.pos
  have HP := Aside0.mk hrep
  have HF := Aside0.mk hf
  have HV := Aside0.mk hV
  clear hV hrep hf hrl hcn hS hnd
  go_wp2_with fail
  refine (breaks_rep w1 t p S HP.out HF.out).mono ?_
  rintro e w' ⟨rfl, hw⟩
  rw [hw]
  clear hw w'
  go_wp2_with fail
  by_cases cin : 1 ≤ line ∧ line ≤ kl t
  ·have hw := within_any w1 line 1 (kl t)
   rw [decide_eq_true cin] at hw
   have WI := Aside0.mk hw
   clear hw
   refine WI.out.mono ?_
   rintro e w' ⟨rfl, hw⟩
   rw [hw]
   clear hw w'
   go_wp2_with fail
   refine (unless_any w1 true 3).mono ?_
   rintro e w' ⟨rfl, hw⟩
   rw [hw]
   clear hw w'
   simp only [ev, if_true]
   go_wp2_with fail
   refine (firstOf2 _ w1.heap.size none none (by simp [ev]) (by simp [ev])).mono ?_
   rintro e w' ⟨rfl, hw⟩
   rw [hw]
   clear hw w'
   simp only [ev, firstE]
   obtain ⟨w2, e2⟩ : ∃ y, w1.alloc (.cells #[.nilIface, .nilIface] 85) = y := ⟨_, rfl⟩
   have hb2 : Below w1.heap.size w1 w2 := by subst e2; exact (Below.refl _ w1).alloc (Nat.le_refl _) _
   have HP2 := Aside0.mk (HP.out.below hb2)
   have HB2 := Aside0.mk (below_step HB1.out hb2)
   rw [e2]
   clear e2 hb2
   go_wp2_with fail
   refine (findBreak_any w2 t p S line HP2.out HF.out cin.1 cin.2).mono ?_
   rintro e w3 ⟨rfl, hb3⟩
   go_wp2
   refine bodyPost_ret (results_list (rs := [.tmp 4, .tmp 5, .tmp 6, .tmp 7]) rfl (by simp) (.tmp (.tmp (.tmp (.tmp .nil))))) rfl ?_
   refine ⟨?_, below_step HB2.out hb3⟩
   unfold treeFindLineV
   rw [HV.out]
   simp only
   rw [if_pos cin]
   rfl
  ·have hw := within_any w1 line 1 (kl t)
   rw [decide_eq_false cin] at hw
   have WI := Aside0.mk hw
   have CIN := Aside0.mk cin
   clear hw cin
   refine WI.out.mono ?_
   rintro e w' ⟨rfl, hw⟩
   rw [hw]
   clear hw w'
   go_wp2_with fail
   refine (unless_any w1 false 3).mono ?_
   rintro e w' ⟨rfl, hw⟩
   rw [hw]
   clear hw w'
   simp only [ev, Bool.false_eq_true, if_false]
   go_wp2_with fail
   refine (firstOf2 _ w1.heap.size none (some (129, .int .i64 3)) (by simp [ev]) (by simp [ev])).mono ?_
   rintro e w' ⟨rfl, hw⟩
   rw [hw]
   clear hw w'
   simp only [ev, firstE]
   obtain ⟨w2, e2⟩ : ∃ y, w1.alloc (.cells #[.nilIface, .iface 129 (.int .i64 3)] 85) = y := ⟨_, rfl⟩
   have HB2 : Aside0 (Below w.heap.size w w2) := ⟨by subst e2; exact HB1.out.alloc HB1.out.size _⟩
   rw [e2]
   clear e2
   go_wp2_with fail
   refine (codeOf_any _ 3 w2 (HG0.out.below HB2.out) (.inl rfl)).mono ?_
   rintro e w3 ⟨rfl, hb3⟩
   go_wp2
   refine bodyPost_ret (results_list (rs := [.tmp 4, .tmp 5, .tmp 6, .tmp 7]) rfl (by simp) (.tmp (.tmp (.tmp (.tmp .nil))))) rfl ?_
   refine ⟨?_, below_step HB2.out hb3⟩
   unfold treeFindLineV
   rw [HV.out]
   simp only
   rw [if_neg CIN.out]
   rfl
 ·obtain ⟨T, x, rfl⟩ := errIs_ev hE
  have HE := Aside0.mk hE
  have HV := Aside0.mk hV
  have HS := Aside0.mk hsum
  clear hE hV hsum
  simp only [ev]
  go_wp2_with fail
  refine (breaks_any w1 p s HS.out).mono ?_
  rintro e w' ⟨rfl, hw⟩
  rw [hw]
  clear hw w'
  go_wp2_with fail
  refine (within_any w1 line 1 _).mono ?_
  rintro e w' ⟨rfl, hw⟩
  rw [hw]
  clear hw w'
  generalize decide (1 ≤ line ∧ line ≤ s.k) = b
  cases b with
  | true =>
   go_wp2_with fail
   refine (unless_any w1 true 3).mono ?_
   rintro e w' ⟨rfl, hw⟩
   rw [hw]
   clear hw w'
   simp only [ev, if_true]
   go_wp2_with fail
   refine (firstOf2 _ w1.heap.size (some (T, x)) none (by simp [ev]) (by simp [ev])).mono ?_
   rintro e w' ⟨rfl, hw⟩
   rw [hw]
   clear hw w'
   simp only [ev, firstE]
   obtain ⟨w2, e2⟩ : ∃ y, w1.alloc (.cells #[.iface T x, .nilIface] 85) = y := ⟨_, rfl⟩
   have hb2 : Below w1.heap.size w1 w2 := by subst e2; exact (Below.refl _ w1).alloc (Nat.le_refl _) _
   have HB2 := Aside0.mk (below_step HB1.out hb2)
   have HE2 := Aside0.mk (HE.out.below hb2)
   rw [e2]
   clear e2 hb2
   go_wp2_with fail
   refine (codeOf_any _ 1 w2 (HG0.out.below HB2.out) HE2.out).mono ?_
   rintro e w3 ⟨rfl, hb3⟩
   go_wp2
   refine bodyPost_ret (results_list (rs := [.tmp 4, .tmp 5, .tmp 6, .tmp 7]) rfl (by simp) (.tmp (.tmp (.tmp (.tmp .nil))))) rfl ?_
   refine ⟨?_, below_step HB2.out hb3⟩
   unfold treeFindLineV
   rw [HV.out]
   rfl
  | false =>
   go_wp2_with fail
   refine (unless_any w1 false 3).mono ?_
   rintro e w' ⟨rfl, hw⟩
   rw [hw]
   clear hw w'
   simp only [ev, Bool.false_eq_true, if_false]
   go_wp2_with fail
   refine (firstOf2 _ w1.heap.size (some (T, x)) (some (129, .int .i64 3)) (by simp [ev]) (by simp [ev])).mono ?_
   rintro e w' ⟨rfl, hw⟩
   rw [hw]
   clear hw w'
   simp only [ev, firstE]
   obtain ⟨w2, e2⟩ : ∃ y, w1.alloc (.cells #[.iface T x, .iface 129 (.int .i64 3)] 85) = y := ⟨_, rfl⟩
   have hb2 : Below w1.heap.size w1 w2 := by subst e2; exact (Below.refl _ w1).alloc (Nat.le_refl _) _
   have HB2 := Aside0.mk (below_step HB1.out hb2)
   have HE2 := Aside0.mk (HE.out.below hb2)
   rw [e2]
   clear e2 hb2
   go_wp2_with fail
   refine (codeOf_any _ 1 w2 (HG0.out.below HB2.out) HE2.out).mono ?_
   rintro e w3 ⟨rfl, hb3⟩
   go_wp2
   refine bodyPost_ret (results_list (rs := [.tmp 4, .tmp 5, .tmp 6, .tmp 7]) rfl (by simp) (.tmp (.tmp (.tmp (.tmp .nil))))) rfl ?_
   refine ⟨?_, below_step HB2.out hb3⟩
   unfold treeFindLineV
   rw [HV.out]
   rfl
end Go.Proofs.YtciabhncmdpeeaaDoor
