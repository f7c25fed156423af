/- MarksInsert and MarksDelete, walked. Conditions: at most 1048576 marks, their ids are numbers of 64 bits; errors.errorType reads as laid. -/
import Derived.Test.YtefdjajmnkmbgaaDoorMk4
namespace Go.Proofs.YtefdjajmnkmbgaaDoor
open Go.RowKit Go.Sort Go.Proofs.YtefdjajmnkmbgaaDoorW.PrintWords Go.Proofs.YtefdjajmnkmbgaaDoorW.PrintLast Go.Proofs.YtefdjajmnkmbgaaDoorW.PrintMore Er
set_option linter.unusedSimpArgs false
set_option linter.unusedVariables false
theorem rangeOf_any (w : World) (lo hi n : Int) : Calls Tryd.prog 59 #[.int .i64 lo, .int .i64 hi, .int .i64 n] w fun e w' => e = .returned (ev (if 0 ≤ lo ∧ lo ≤ hi ∧ hi ≤ n then none else some (73, .int .i64 2))) ∧ w' = w := by
  by_cases c1 : 0 ≤ lo
  · by_cases c2 : lo ≤ hi
    · by_cases c3 : hi ≤ n
      · rw [if_pos ⟨c1, c2, c3⟩]
        go_enter Tryd.func59, Tryd.ntmps59
        go_wp2_with (go_at_call 56; refine (unless_any w true 2).mono ?_; rintro e w' ⟨rfl, hw⟩; rw [hw]; clear hw w')
        go_ret
        exact ⟨rfl, rfl⟩
      · rw [if_neg (fun h => c3 h.2.2)]
        go_enter Tryd.func59, Tryd.ntmps59
        go_wp2_with (go_at_call 56; refine (unless_any w false 2).mono ?_; rintro e w' ⟨rfl, hw⟩; rw [hw]; clear hw w')
        go_ret
        exact ⟨rfl, rfl⟩
    · rw [if_neg (fun h => c2 h.2.1)]
      go_enter Tryd.func59, Tryd.ntmps59
      go_wp2_with (go_at_call 56; refine (unless_any w false 2).mono ?_; rintro e w' ⟨rfl, hw⟩; rw [hw]; clear hw w')
      go_ret
      exact ⟨rfl, rfl⟩
  · rw [if_neg (fun h => c1 h.1)]
    go_enter Tryd.func59, Tryd.ntmps59
    go_wp2_with (go_at_call 56; refine (unless_any w false 2).mono ?_; rintro e w' ⟨rfl, hw⟩; rw [hw]; clear hw w')
    go_ret
    exact ⟨rfl, rfl⟩
/-- a mark put where it belongs -/
def ltB (x y : Mk) : Bool := decide (x.f1 < y.f1 ∨ x.f1 = y.f1 ∧ x.f0 < y.f0)
def insM (x : Mk) : List Mk → List Mk | [] => [x] | y :: l => if ltB y x then y :: insM x l else x :: y :: l
def sortM : List Mk → List Mk | [] => [] | x :: l => insM x (sortM l)
theorem insM_perm (x : Mk) (l : List Mk) : (insM x l).Perm (x :: l) := by
  induction l with
  | nil => exact List.Perm.refl _
  | cons y l ih =>
    simp only [insM]
    split
    · exact (List.Perm.cons y ih).trans (List.Perm.swap _ _ _)
    · exact List.Perm.refl _
theorem sortM_perm (l : List Mk) : (sortM l).Perm l := by
  induction l with
  | nil => exact List.Perm.refl _
  | cons x l ih => exact (insM_perm x _).trans (List.Perm.cons x ih)
def PW (l : List Mk) : Prop := l.Pairwise (fun a b => ltB b a = false)
theorem insM_pw (x : Mk) (l : List Mk) (h : PW l) : PW (insM x l) := by
  induction l with
  | nil => simp [insM, PW]
  | cons y l ih =>
    have h2 := List.pairwise_cons.1 h
    simp only [insM]
    by_cases c : ltB y x = true
    · rw [if_pos c]
      refine List.pairwise_cons.2 ⟨fun z hz => ?_, ih h2.2⟩
      rcases List.mem_cons.1 ((insM_perm x l).mem_iff.1 hz) with rfl | hz
      · unfold ltB at c ⊢; simp at c ⊢; omega
      · exact h2.1 z hz
    · rw [if_neg c]
      refine List.pairwise_cons.2 ⟨fun z hz => ?_, h⟩
      rcases List.mem_cons.1 hz with rfl | hz
      · simpa using c
      · have := h2.1 z hz
        unfold ltB at c this ⊢; simp at c this ⊢; omega
theorem sortM_pw (l : List Mk) : PW (sortM l) := by
  induction l with
  | nil => simp [sortM, PW]
  | cons x l ih => exact insM_pw x _ ih
theorem pw_unique (ys : List Mk) : ∀ zs : List Mk, ys.Perm zs → PW ys → PW zs → (ys.map (·.f0)).Nodup → ys = zs := by
  induction ys with
  | nil => intro zs hp _ _ _; exact (List.Perm.nil_eq hp)
  | cons a l ih =>
    intro zs hp hy hz hd
    cases zs with
    | nil => exact absurd hp.length_eq (by simp)
    | cons b m =>
      have hy2 := List.pairwise_cons.1 hy
      have hz2 := List.pairwise_cons.1 hz
      by_cases e : a = b
      · subst e
        rw [ih m (List.perm_cons a |>.1 hp) hy2.2 hz2.2 (List.nodup_cons.1 hd).2]
      · have ha : a ∈ m := by
          rcases List.mem_cons.1 (hp.mem_iff.1 (List.mem_cons_self (a := a) (l := l))) with h | h
          · exact absurd h e
          · exact h
        have hb : b ∈ l := by
          rcases List.mem_cons.1 (hp.mem_iff.2 (List.mem_cons_self (a := b) (l := m))) with h | h
          · exact absurd h.symm e
          · exact h
        have h1 := hz2.1 a ha
        have h2 := hy2.1 b hb
        have hne : a.f0 ≠ b.f0 := fun h => (List.nodup_cons.1 hd).1 (List.mem_map.2 ⟨b, hb, h.symm⟩)
        unfold ltB at h1 h2; simp at h1 h2; omega
theorem sortedM_pw {ys : List Mk} (h : SortedM ys) : PW ys := by
  refine List.pairwise_iff_getElem.2 fun i j hi hj hij => ?_
  have := h i j hij hj
  rw [ltM] at this
  have e1 : ys.getD i default = ys[i] := by rw [List.getD_eq_getElem?_getD, List.getElem?_eq_getElem hi]; rfl
  have e2 : ys.getD j default = ys[j] := by rw [List.getD_eq_getElem?_getD, List.getElem?_eq_getElem hj]; rfl
  rw [e1, e2] at this
  exact this
theorem sorted_is {ys xs : List Mk} (hp : ys.Perm xs) (hs : SortedM ys) (hd : (xs.map (·.f0)).Nodup) : ys = sortM xs :=
  pw_unique ys _ (hp.trans (sortM_perm xs).symm) (sortedM_pw hs) (sortM_pw xs) ((hp.map _).nodup_iff.2 hd)
theorem okTab_good {xs : List Mk} (h : okTab xs = true) : ∀ m ∈ xs, goodM m = true := by
  unfold okTab at h
  simp only [Bool.and_eq_true, List.all_eq_true, List.mem_range] at h
  intro m hm
  obtain ⟨i, hi, rfl⟩ := List.mem_iff_getElem.1 hm
  have := h.2 i hi
  unfold okAt at this
  have e : xs.getD i default = xs[i] := by rw [List.getD_eq_getElem?_getD, List.getElem?_eq_getElem hi]; rfl
  rw [e] at this
  simp only [Bool.and_eq_true] at this
  exact this.1
theorem okTab_nd {xs : List Mk} (h : okTab xs = true) : (xs.map (·.f0)).Nodup := by
  unfold okTab at h
  simp only [Bool.and_eq_true, List.all_eq_true, List.mem_range] at h
  refine List.pairwise_iff_getElem.2 fun i j hi hj hij => ?_
  simp only [List.length_map] at hi hj
  have := h.2 j hj
  unfold okAt at this
  have e : xs.getD j default = xs[j] := by rw [List.getD_eq_getElem?_getD, List.getElem?_eq_getElem hj]; rfl
  rw [e] at this
  simp only [Bool.and_eq_true, decide_eq_true_eq] at this
  have h0 := List.count_eq_zero.1 this.2.1
  simp only [List.getElem_map]
  intro e2
  refine h0 (List.mem_map.2 ⟨xs[i], ?_, e2⟩)
  exact List.mem_iff_getElem.2 ⟨i, by simp; omega, by simp⟩
theorem good_off {xs : List Mk} (h : okTab xs = true) : ∀ m ∈ xs, 0 ≤ m.f1 ∧ m.f1 ≤ 8192 := fun m hm => by
  have := okTab_good h m hm
  unfold goodM at this
  simp only [Bool.and_eq_true, decide_eq_true_eq] at this
  exact this.2.1
theorem mvI_f0 (off n : Int) (xs : List Mk) : (xs.map (mvI off n)).map (·.f0) = xs.map (·.f0) := by
  rw [List.map_map]; refine List.map_congr_left fun m _ => ?_
  show (mvI off n m).f0 = m.f0
  unfold mvI; split <;> rfl
theorem mvD_f0 (lo hi : Int) (xs : List Mk) : (xs.map (mvD lo hi)).map (·.f0) = xs.map (·.f0) := by
  rw [List.map_map]; refine List.map_congr_left fun m _ => ?_
  show (mvD lo hi m).f0 = m.f0
  unfold mvD; split; rfl; split <;> rfl
/-- what MarksInsert, MarksDelete answer -/
def marksInsertV (xs : List Mk) (off n : Int) : List Mk × Int :=
  if okTab xs = true then (if (0 ≤ off ∧ off ≤ 8192) ∧ 0 ≤ n ∧ n ≤ 8192 then (if (xs.map (mvI off n)).all (fun m => decide (m.f1 ≤ 8192)) = true then (sortM (xs.map (mvI off n)), 0) else ([], 10)) else ([], 2)) else ([], 1)
def marksDeleteV (xs : List Mk) (lo hi : Int) : List Mk × Int :=
  if okTab xs = true then (if 0 ≤ lo ∧ lo ≤ hi ∧ hi ≤ 8192 then (sortM (xs.map (mvD lo hi)), 0) else ([], 2)) else ([], 1)
def MarksPost (w : World) (r : List Mk × Int) (e : Ending) (w' : World) : Prop := ∃ v0_ : Value, e = .returned (.tuple #[v0_, .int .i64 r.2]) ∧ Kd.R kM 53 w' w.heap.size (fun _ => True) v0_ r.1 ∧ Below w.heap.size w w'
theorem MarksPost.none {w w' : World} (c : Int) (hb : Below w.heap.size w w') : MarksPost w ([], c) (.returned (.tuple #[.slice none 0 0, .int .i64 c])) w' := ⟨_, rfl, Kd.R_nil _ _ _ _ _, hb⟩
set_option maxHeartbeats 8000000 in
set_option maxRecDepth 100000 in
theorem marksInsert_any (w : World) (xs : List Mk) (A : Option Addr) (c : Nat) (off n : Int) (hm : xs.length ≤ 1048576) (hr : kM.C w A xs.length xs) (hc : xs.length ≤ c) (hwf : ∀ m ∈ xs, (Lit.int .i64 m.f0).wf = true) (hg : HG w) :
    Calls Tryd.prog 28 #[.slice A xs.length c, .int .i64 off, .int .i64 n] w (MarksPost w (marksInsertV xs off n)) := by
  have HG0 := Aside0.mk hg
  have OT := Aside0.mk (opensTable_any w xs A c hr hc hm hwf)
  clear hg hr hwf
  go_enter Tryd.func28, Tryd.ntmps28
  go_wp2_with fail
  refine OT.out.mono ?_
  rintro e w2 ⟨hb2, tb, v, E, rfl, hT, hE⟩
  have HB2 := Aside0.mk hb2
  have HT := Aside0.mk hT
  clear hb2 hT OT
  rcases hE with ⟨ok, rfl⟩ | ⟨nok, hE⟩
  · have OK := Aside0.mk ok
    clear ok
    by_cases co : 0 ≤ off ∧ off ≤ 8192
    · by_cases cn : 0 ≤ n ∧ n ≤ 8192
      · go_wp2_with fail
        have hwi := within_any w2 off 0 8192
        rw [decide_eq_true co] at hwi
        refine hwi.mono ?_
        clear hwi
        rintro e w' ⟨rfl, hw⟩
        rw [hw]
        clear hw w'
        go_wp2_with fail
        have hwi := within_any w2 n 0 8192
        rw [decide_eq_true cn] at hwi
        refine hwi.mono ?_
        clear hwi
        rintro e w' ⟨rfl, hw⟩
        rw [hw]
        clear hw w'
        go_wp2_with fail
        refine (unless_any w2 true 2).mono ?_
        rintro e w' ⟨rfl, hw⟩
        rw [hw]
        clear hw w'
        simp only [ev]
        go_wp2_with fail
        refine (firstOf2 _ w2.heap.size none none (by simp [ev]) (by simp [ev])).mono ?_
        rintro e w' ⟨rfl, hw⟩
        rw [hw]
        clear hw w'
        simp only [ev, firstE]
        obtain ⟨w4, e4⟩ : ∃ y, w2.alloc (.cells #[.nilIface, .nilIface] 64) = y := ⟨_, rfl⟩
        have hb4 : Below w2.heap.size w2 w4 := by subst e4; exact (Below.refl _ w2).alloc (Nat.le_refl _) _
        have HB4 := Aside0.mk (below_step HB2.out hb4)
        have HT4 := Aside0.mk (HT.out.below hb4)
        rw [e4]
        clear e4 hb4
        go_wp2_with fail
        refine (pushed_any w4 _ tb v xs off n HT4.out hm (good_off OK.out) cn).mono ?_
        rintro e w5 ⟨hb5, h5⟩
        have HB5 := Aside0.mk (HB4.out.trans hb5)
        rcases h5 with ⟨hall, rfl, ys, hT5, hp, hs, -⟩ | ⟨hex, rfl⟩
        · have ey := sorted_is hp hs (by rw [mvI_f0]; exact okTab_nd OK.out)
          subst ey
          have q0 : w5.cell? ⟨tb, 0, none⟩ = some v := (blk_cell hT5.blk 0).trans rfl
          have HT5 := Aside0.mk hT5
          have CO := Aside0.mk (show (0 ≤ off ∧ off ≤ 8192) ∧ 0 ≤ n ∧ n ≤ 8192 from ⟨co, cn⟩)
          have ALL := Aside0.mk (show (xs.map (mvI off n)).all (fun m => decide (m.f1 ≤ 8192)) = true from List.all_eq_true.2 fun m hm => decide_eq_true (hall m hm))
          obtain ⟨A5, c5, ev5⟩ := Kd.R_slice hT5.row
          subst ev5
          clear hT5 hp hs hall co cn hb5
          go_wp2
          refine bodyPost_ret (results_list (rs := [.tmp 6, .tmp 7]) rfl (by simp) (.tmp (.tmp .nil))) rfl ?_
          have e : marksInsertV xs off n = (sortM (xs.map (mvI off n)), 0) := by
            unfold marksInsertV; rw [if_pos OK.out, if_pos CO.out, if_pos ALL.out]
          rw [e]
          exact ⟨_, rfl, Kd.R_mono HT5.out.row (fun _ _ => trivial), HB5.out⟩
        · have CO := Aside0.mk (show (0 ≤ off ∧ off ≤ 8192) ∧ 0 ≤ n ∧ n ≤ 8192 from ⟨co, cn⟩)
          have ALL := Aside0.mk (show ¬ (xs.map (mvI off n)).all (fun m => decide (m.f1 ≤ 8192)) = true from fun h => by
            obtain ⟨m, hm, h8⟩ := hex
            have := of_decide_eq_true (List.all_eq_true.1 h m hm)
            omega)
          clear hex co cn hb5
          go_wp2_with fail
          refine (codeOf_any _ 10 w5 (HG0.out.below HB5.out) (.inl rfl)).mono ?_
          rintro e w6 ⟨rfl, hb6⟩
          go_wp2
          refine bodyPost_ret (results_list (rs := [.tmp 6, .tmp 7]) rfl (by simp) (.tmp (.tmp .nil))) rfl ?_
          have e : marksInsertV xs off n = ([], 10) := by
            unfold marksInsertV; rw [if_pos OK.out, if_pos CO.out, if_neg ALL.out]
          rw [e]
          exact MarksPost.none _ (below_step HB5.out hb6)
      · have CN := Aside0.mk cn
        clear cn
        go_wp2_with fail
        have hwi := within_any w2 off 0 8192
        rw [decide_eq_true co] at hwi
        refine hwi.mono ?_
        clear hwi
        rintro e w' ⟨rfl, hw⟩
        rw [hw]
        clear hw w'
        go_wp2_with fail
        have hwi := within_any w2 n 0 8192
        rw [decide_eq_false CN.out] at hwi
        refine hwi.mono ?_
        clear hwi
        rintro e w' ⟨rfl, hw⟩
        rw [hw]
        clear hw w'
        go_wp2_with fail
        refine (unless_any w2 false 2).mono ?_
        rintro e w' ⟨rfl, hw⟩
        rw [hw]
        clear hw w'
        simp only [ev]
        go_wp2_with fail
        refine (firstOf2 _ w2.heap.size none (some (73, .int .i64 2)) (by simp [ev]) (by simp [ev])).mono ?_
        rintro e w' ⟨rfl, hw⟩
        rw [hw]
        clear hw w'
        simp only [ev, firstE]
        obtain ⟨w4, e4⟩ : ∃ y, w2.alloc (.cells #[.nilIface, .iface 73 (.int .i64 2)] 64) = y := ⟨_, rfl⟩
        have hb4 : Below w2.heap.size w2 w4 := by subst e4; exact (Below.refl _ w2).alloc (Nat.le_refl _) _
        have HB4 := Aside0.mk (below_step HB2.out hb4)
        skip
        rw [e4]
        clear e4 hb4
        go_wp2_with fail
        refine (codeOf_any _ 2 w4 (HG0.out.below HB4.out) (.inl rfl)).mono ?_
        rintro e w5 ⟨rfl, hb5⟩
        go_wp2
        refine bodyPost_ret (results_list (rs := [.tmp 6, .tmp 7]) rfl (by simp) (.tmp (.tmp .nil))) rfl ?_
        have e : marksInsertV xs off n = ([], 2) := by
          unfold marksInsertV; rw [if_pos OK.out, if_neg (fun h => CN.out h.2)]
        rw [e]
        exact MarksPost.none _ (below_step HB4.out hb5)
    · have CN := Aside0.mk co
      clear co
      go_wp2_with fail
      have hwi := within_any w2 off 0 8192
      rw [decide_eq_false CN.out] at hwi
      refine hwi.mono ?_
      clear hwi
      rintro e w' ⟨rfl, hw⟩
      rw [hw]
      clear hw w'
      go_wp2_with fail
      refine (unless_any w2 false 2).mono ?_
      rintro e w' ⟨rfl, hw⟩
      rw [hw]
      clear hw w'
      simp only [ev]
      go_wp2_with fail
      refine (firstOf2 _ w2.heap.size none (some (73, .int .i64 2)) (by simp [ev]) (by simp [ev])).mono ?_
      rintro e w' ⟨rfl, hw⟩
      rw [hw]
      clear hw w'
      simp only [ev, firstE]
      obtain ⟨w4, e4⟩ : ∃ y, w2.alloc (.cells #[.nilIface, .iface 73 (.int .i64 2)] 64) = y := ⟨_, rfl⟩
      have hb4 : Below w2.heap.size w2 w4 := by subst e4; exact (Below.refl _ w2).alloc (Nat.le_refl _) _
      have HB4 := Aside0.mk (below_step HB2.out hb4)
      skip
      rw [e4]
      clear e4 hb4
      go_wp2_with fail
      refine (codeOf_any _ 2 w4 (HG0.out.below HB4.out) (.inl rfl)).mono ?_
      rintro e w5 ⟨rfl, hb5⟩
      go_wp2
      refine bodyPost_ret (results_list (rs := [.tmp 6, .tmp 7]) rfl (by simp) (.tmp (.tmp .nil))) rfl ?_
      have e : marksInsertV xs off n = ([], 2) := by
        unfold marksInsertV; rw [if_pos OK.out, if_neg (fun h => CN.out h.1)]
      rw [e]
      exact MarksPost.none _ (below_step HB4.out hb5)
  · obtain ⟨T, x, rfl⟩ := errIs_ev hE
    have HE := Aside0.mk hE
    have NOK := Aside0.mk nok
    clear hE nok
    simp only [ev]

    by_cases co : 0 ≤ off ∧ off ≤ 8192
    · by_cases cn : 0 ≤ n ∧ n ≤ 8192
      · go_wp2_with fail
        have hwi := within_any w2 off 0 8192
        rw [decide_eq_true co] at hwi
        refine hwi.mono ?_
        clear hwi
        rintro e w' ⟨rfl, hw⟩
        rw [hw]
        clear hw w'
        go_wp2_with fail
        have hwi := within_any w2 n 0 8192
        rw [decide_eq_true cn] at hwi
        refine hwi.mono ?_
        clear hwi
        rintro e w' ⟨rfl, hw⟩
        rw [hw]
        clear hw w'
        go_wp2_with fail
        refine (unless_any w2 true 2).mono ?_
        rintro e w' ⟨rfl, hw⟩
        rw [hw]
        clear hw w'
        simp only [ev]
        go_wp2_with fail
        refine (firstOf2 _ w2.heap.size (some (T, x)) none (by simp [ev]) (by simp [ev])).mono ?_
        rintro e w' ⟨rfl, hw⟩
        rw [hw]
        clear hw w'
        simp only [ev, firstE]
        obtain ⟨w4, e4⟩ : ∃ y, w2.alloc (.cells #[.iface T x, .nilIface] 64) = y := ⟨_, rfl⟩
        have hb4 : Below w2.heap.size w2 w4 := by subst e4; exact (Below.refl _ w2).alloc (Nat.le_refl _) _
        have HB4 := Aside0.mk (below_step HB2.out hb4)
        have HE4 := Aside0.mk (HE.out.below hb4)
        rw [e4]
        clear e4 hb4
        go_wp2_with fail
        refine (codeOf_any _ 1 w4 (HG0.out.below HB4.out) HE4.out).mono ?_
        rintro e w5 ⟨rfl, hb5⟩
        go_wp2
        refine bodyPost_ret (results_list (rs := [.tmp 6, .tmp 7]) rfl (by simp) (.tmp (.tmp .nil))) rfl ?_
        have e : marksInsertV xs off n = ([], 1) := by
          unfold marksInsertV; rw [if_neg (by rw [NOK.out]; decide)]
        rw [e]
        exact MarksPost.none _ (below_step HB4.out hb5)
      · go_wp2_with fail
        have hwi := within_any w2 off 0 8192
        rw [decide_eq_true co] at hwi
        refine hwi.mono ?_
        clear hwi
        rintro e w' ⟨rfl, hw⟩
        rw [hw]
        clear hw w'
        go_wp2_with fail
        have hwi := within_any w2 n 0 8192
        rw [decide_eq_false cn] at hwi
        refine hwi.mono ?_
        clear hwi
        rintro e w' ⟨rfl, hw⟩
        rw [hw]
        clear hw w'
        go_wp2_with fail
        refine (unless_any w2 false 2).mono ?_
        rintro e w' ⟨rfl, hw⟩
        rw [hw]
        clear hw w'
        simp only [ev]
        go_wp2_with fail
        refine (firstOf2 _ w2.heap.size (some (T, x)) (some (73, .int .i64 2)) (by simp [ev]) (by simp [ev])).mono ?_
        rintro e w' ⟨rfl, hw⟩
        rw [hw]
        clear hw w'
        simp only [ev, firstE]
        obtain ⟨w4, e4⟩ : ∃ y, w2.alloc (.cells #[.iface T x, .iface 73 (.int .i64 2)] 64) = y := ⟨_, rfl⟩
        have hb4 : Below w2.heap.size w2 w4 := by subst e4; exact (Below.refl _ w2).alloc (Nat.le_refl _) _
        have HB4 := Aside0.mk (below_step HB2.out hb4)
        have HE4 := Aside0.mk (HE.out.below hb4)
        rw [e4]
        clear e4 hb4
        go_wp2_with fail
        refine (codeOf_any _ 1 w4 (HG0.out.below HB4.out) HE4.out).mono ?_
        rintro e w5 ⟨rfl, hb5⟩
        go_wp2
        refine bodyPost_ret (results_list (rs := [.tmp 6, .tmp 7]) rfl (by simp) (.tmp (.tmp .nil))) rfl ?_
        have e : marksInsertV xs off n = ([], 1) := by
          unfold marksInsertV; rw [if_neg (by rw [NOK.out]; decide)]
        rw [e]
        exact MarksPost.none _ (below_step HB4.out hb5)
    · go_wp2_with fail
      have hwi := within_any w2 off 0 8192
      rw [decide_eq_false co] at hwi
      refine hwi.mono ?_
      clear hwi
      rintro e w' ⟨rfl, hw⟩
      rw [hw]
      clear hw w'
      go_wp2_with fail
      refine (unless_any w2 false 2).mono ?_
      rintro e w' ⟨rfl, hw⟩
      rw [hw]
      clear hw w'
      simp only [ev]
      go_wp2_with fail
      refine (firstOf2 _ w2.heap.size (some (T, x)) (some (73, .int .i64 2)) (by simp [ev]) (by simp [ev])).mono ?_
      rintro e w' ⟨rfl, hw⟩
      rw [hw]
      clear hw w'
      simp only [ev, firstE]
      obtain ⟨w4, e4⟩ : ∃ y, w2.alloc (.cells #[.iface T x, .iface 73 (.int .i64 2)] 64) = y := ⟨_, rfl⟩
      have hb4 : Below w2.heap.size w2 w4 := by subst e4; exact (Below.refl _ w2).alloc (Nat.le_refl _) _
      have HB4 := Aside0.mk (below_step HB2.out hb4)
      have HE4 := Aside0.mk (HE.out.below hb4)
      rw [e4]
      clear e4 hb4
      go_wp2_with fail
      refine (codeOf_any _ 1 w4 (HG0.out.below HB4.out) HE4.out).mono ?_
      rintro e w5 ⟨rfl, hb5⟩
      go_wp2
      refine bodyPost_ret (results_list (rs := [.tmp 6, .tmp 7]) rfl (by simp) (.tmp (.tmp .nil))) rfl ?_
      have e : marksInsertV xs off n = ([], 1) := by
        unfold marksInsertV; rw [if_neg (by rw [NOK.out]; decide)]
      rw [e]
      exact MarksPost.none _ (below_step HB4.out hb5)
set_option maxHeartbeats 8000000 in
set_option maxRecDepth 100000 in
theorem marksDelete_any (w : World) (xs : List Mk) (A : Option Addr) (c : Nat) (lo hi : Int) (hm : xs.length ≤ 1048576) (hr : kM.C w A xs.length xs) (hc : xs.length ≤ c) (hwf : ∀ m ∈ xs, (Lit.int .i64 m.f0).wf = true) (hg : HG w) :
    Calls Tryd.prog 30 #[.slice A xs.length c, .int .i64 lo, .int .i64 hi] w (MarksPost w (marksDeleteV xs lo hi)) := by
  have HG0 := Aside0.mk hg
  have OT := Aside0.mk (opensTable_any w xs A c hr hc hm hwf)
  clear hg hr hwf
  go_enter Tryd.func30, Tryd.ntmps30
  go_wp2_with fail
  refine OT.out.mono ?_
  rintro e w2 ⟨hb2, tb, v, E, rfl, hT, hE⟩
  have HB2 := Aside0.mk hb2
  have HT := Aside0.mk hT
  clear hb2 hT OT
  rcases hE with ⟨ok, rfl⟩ | ⟨nok, hE⟩
  · have OK := Aside0.mk ok
    clear ok
    by_cases ci : 0 ≤ lo ∧ lo ≤ hi ∧ hi ≤ 8192
    · go_wp2_with fail
      have hro := rangeOf_any w2 lo hi 8192
      rw [if_pos ci] at hro
      refine hro.mono ?_
      clear hro
      rintro e w' ⟨rfl, hw⟩
      rw [hw]
      clear hw w'
      simp only [ev]
      go_wp2_with fail
      refine (firstOf2 _ w2.heap.size none none (by simp [ev]) (by simp [ev])).mono ?_
      rintro e w' ⟨rfl, hw⟩
      rw [hw]
      clear hw w'
      simp only [ev, firstE]
      obtain ⟨w4, e4⟩ : ∃ y, w2.alloc (.cells #[.nilIface, .nilIface] 64) = y := ⟨_, rfl⟩
      have hb4 : Below w2.heap.size w2 w4 := by subst e4; exact (Below.refl _ w2).alloc (Nat.le_refl _) _
      have HB4 := Aside0.mk (below_step HB2.out hb4)
      have HT4 := Aside0.mk (HT.out.below hb4)
      rw [e4]
      clear e4 hb4
      go_wp2_with fail
      refine (pulled_any w4 _ tb v xs lo hi HT4.out hm (good_off OK.out) ci).mono ?_
      rintro e w5 ⟨rfl, ys, hT5, hp, hs, hb5⟩
      have HB5 := Aside0.mk (HB4.out.trans hb5)
      have ey := sorted_is hp hs (by rw [mvD_f0]; exact okTab_nd OK.out)
      subst ey
      have q0 : w5.cell? ⟨tb, 0, none⟩ = some v := (blk_cell hT5.blk 0).trans rfl
      have HT5 := Aside0.mk hT5
      have CI := Aside0.mk ci
      obtain ⟨A5, c5, ev5⟩ := Kd.R_slice hT5.row
      subst ev5
      clear hT5 hp hs ci hb5
      go_wp2
      refine bodyPost_ret (results_list (rs := [.tmp 6, .tmp 7]) rfl (by simp) (.tmp (.tmp .nil))) rfl ?_
      have e : marksDeleteV xs lo hi = (sortM (xs.map (mvD lo hi)), 0) := by
        unfold marksDeleteV; rw [if_pos OK.out, if_pos CI.out]
      rw [e]
      exact ⟨_, rfl, Kd.R_mono HT5.out.row (fun _ _ => trivial), HB5.out⟩
    · have CI := Aside0.mk ci
      clear ci
      go_wp2_with fail
      have hro := rangeOf_any w2 lo hi 8192
      rw [if_neg CI.out] at hro
      refine hro.mono ?_
      clear hro
      rintro e w' ⟨rfl, hw⟩
      rw [hw]
      clear hw w'
      simp only [ev]
      go_wp2_with fail
      refine (firstOf2 _ w2.heap.size none (some (73, .int .i64 2)) (by simp [ev]) (by simp [ev])).mono ?_
      rintro e w' ⟨rfl, hw⟩
      rw [hw]
      clear hw w'
      simp only [ev, firstE]
      obtain ⟨w4, e4⟩ : ∃ y, w2.alloc (.cells #[.nilIface, .iface 73 (.int .i64 2)] 64) = y := ⟨_, rfl⟩
      have hb4 : Below w2.heap.size w2 w4 := by subst e4; exact (Below.refl _ w2).alloc (Nat.le_refl _) _
      have HB4 := Aside0.mk (below_step HB2.out hb4)
      skip
      rw [e4]
      clear e4 hb4
      go_wp2_with fail
      refine (codeOf_any _ 2 w4 (HG0.out.below HB4.out) (.inl rfl)).mono ?_
      rintro e w5 ⟨rfl, hb5⟩
      go_wp2
      refine bodyPost_ret (results_list (rs := [.tmp 6, .tmp 7]) rfl (by simp) (.tmp (.tmp .nil))) rfl ?_
      have e : marksDeleteV xs lo hi = ([], 2) := by
        unfold marksDeleteV; rw [if_pos OK.out, if_neg CI.out]
      rw [e]
      exact MarksPost.none _ (below_step HB4.out hb5)
  · obtain ⟨T, x, rfl⟩ := errIs_ev hE
    have HE := Aside0.mk hE
    have NOK := Aside0.mk nok
    clear hE nok
    simp only [ev]

    by_cases ci : 0 ≤ lo ∧ lo ≤ hi ∧ hi ≤ 8192
    · go_wp2_with fail
      have hro := rangeOf_any w2 lo hi 8192
      rw [if_pos ci] at hro
      refine hro.mono ?_
      clear hro
      rintro e w' ⟨rfl, hw⟩
      rw [hw]
      clear hw w'
      simp only [ev]
      go_wp2_with fail
      refine (firstOf2 _ w2.heap.size (some (T, x)) none (by simp [ev]) (by simp [ev])).mono ?_
      rintro e w' ⟨rfl, hw⟩
      rw [hw]
      clear hw w'
      simp only [ev, firstE]
      obtain ⟨w4, e4⟩ : ∃ y, w2.alloc (.cells #[.iface T x, .nilIface] 64) = y := ⟨_, rfl⟩
      have hb4 : Below w2.heap.size w2 w4 := by subst e4; exact (Below.refl _ w2).alloc (Nat.le_refl _) _
      have HB4 := Aside0.mk (below_step HB2.out hb4)
      have HE4 := Aside0.mk (HE.out.below hb4)
      rw [e4]
      clear e4 hb4
      go_wp2_with fail
      refine (codeOf_any _ 1 w4 (HG0.out.below HB4.out) HE4.out).mono ?_
      rintro e w5 ⟨rfl, hb5⟩
      go_wp2
      refine bodyPost_ret (results_list (rs := [.tmp 6, .tmp 7]) rfl (by simp) (.tmp (.tmp .nil))) rfl ?_
      have e : marksDeleteV xs lo hi = ([], 1) := by
        unfold marksDeleteV; rw [if_neg (by rw [NOK.out]; decide)]
      rw [e]
      exact MarksPost.none _ (below_step HB4.out hb5)
    · go_wp2_with fail
      have hro := rangeOf_any w2 lo hi 8192
      rw [if_neg ci] at hro
      refine hro.mono ?_
      clear hro
      rintro e w' ⟨rfl, hw⟩
      rw [hw]
      clear hw w'
      simp only [ev]
      go_wp2_with fail
      refine (firstOf2 _ w2.heap.size (some (T, x)) (some (73, .int .i64 2)) (by simp [ev]) (by simp [ev])).mono ?_
      rintro e w' ⟨rfl, hw⟩
      rw [hw]
      clear hw w'
      simp only [ev, firstE]
      obtain ⟨w4, e4⟩ : ∃ y, w2.alloc (.cells #[.iface T x, .iface 73 (.int .i64 2)] 64) = y := ⟨_, rfl⟩
      have hb4 : Below w2.heap.size w2 w4 := by subst e4; exact (Below.refl _ w2).alloc (Nat.le_refl _) _
      have HB4 := Aside0.mk (below_step HB2.out hb4)
      have HE4 := Aside0.mk (HE.out.below hb4)
      rw [e4]
      clear e4 hb4
      go_wp2_with fail
      refine (codeOf_any _ 1 w4 (HG0.out.below HB4.out) HE4.out).mono ?_
      rintro e w5 ⟨rfl, hb5⟩
      go_wp2
      refine bodyPost_ret (results_list (rs := [.tmp 6, .tmp 7]) rfl (by simp) (.tmp (.tmp .nil))) rfl ?_
      have e : marksDeleteV xs lo hi = ([], 1) := by
        unfold marksDeleteV; rw [if_neg (by rw [NOK.out]; decide)]
      rw [e]
      exact MarksPost.none _ (below_step HB4.out hb5)
end Go.Proofs.YtefdjajmnkmbgaaDoor
