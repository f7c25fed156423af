/- Lines: where rows start; one more row is made known (know), walked. Conditions: the bounds. -/
import Derived.Test.YtamcacahjlaogaaDoorLc
namespace Go.Proofs.YtamcacahjlaogaaDoor.Ln
open Go.RowKit Go.Proofs.YtamcacahjlaogaaDoorW.PrintWords Go.Proofs.YtamcacahjlaogaaDoorW.PrintLast Go.Proofs.YtamcacahjlaogaaDoorW.PrintMore Er
open F (UpdS Fresh R_upd)
set_option linter.unusedSimpArgs false
set_option linter.unusedVariables false
def rwLen (Rs : List Rw) (i : Nat) : Nat := (Rs.getD i ([], 0, 0)).1.length
theorem rwLen_at (Rs : List Rw) (i : Nat) (h : i < Rs.length) : rwLen Rs i = Rs[i].1.length := by
 unfold rwLen; rw [List.getD_eq_getElem?_getD, List.getElem?_eq_getElem h]; rfl
def stAt (Rs : List Rw) : Nat → Int | 0 => 0 | i + 1 => stAt Rs i + (rwLen Rs i : Int) + 1
def sts (Rs : List Rw) (k : Nat) : List Int := (List.range k).map (stAt Rs)
theorem sts_length (Rs : List Rw) (k : Nat) : (sts Rs k).length = k := by simp [sts]
theorem sts_get (Rs : List Rw) (k i : Nat) (h : i < k) : (sts Rs k).getD i 0 = stAt Rs i := by
 unfold sts
 rw [List.getD_eq_getElem?_getD, List.getElem?_map, List.getElem?_range h]; rfl
theorem sts_succ (Rs : List Rw) (k : Nat) : sts Rs (k + 1) = sts Rs k ++ [stAt Rs k] := by
 unfold sts; rw [List.range_succ, List.map_append]; rfl
theorem stAt_lt (Rs : List Rw) (i : Nat) : stAt Rs i < stAt Rs (i + 1) := by simp only [stAt]; omega
theorem stAt_mono (Rs : List Rw) {i j : Nat} (h : i ≤ j) : stAt Rs i + ((j - i : Nat) : Int) ≤ stAt Rs j := by
 induction j with
 | zero => (obtain rfl : i = 0 := (by omega)); simp [stAt]
 | succ j ih =>
  by_cases e : i = j + 1
  ·subst e; simp
  ·have := ih (by omega); have := stAt_lt Rs j; omega
theorem stAt_nn (Rs : List Rw) (i : Nat) : (i : Int) ≤ stAt Rs i := by have := stAt_mono Rs (Nat.zero_le i); simp only [stAt] at this; omega
theorem LF.get_any {w : World} {base L : Nat} {ps : List Nat} {Rs : List Rw} {l g : Nat} {st : List Int} {tot : Int} {sv : Value} {S0 : List Nat} {Ss : List (List Nat)} (h : LF w base L ps Rs l g st tot sv S0 Ss) (m p : Nat) (hm : m < Rs.length) (hp : ps.getD m 0 = p) :
  Calls Tryd.prog 70 #[.pointer (some ⟨L, 0, none⟩), .int .i64 m] w fun e w' => e = .returned (.pointer (some ⟨p, 0, none⟩)) ∧ Below w.heap.size w w' := by
 have := V.gget_any sv (.int .i64 tot) w base L (pvs ps) l g m S0 h.rows (by rw [pvs_length, h.lp]; exact hm)
 rw [pvs_get ps m (by rw [h.lp]; exact hm), hp] at this
 exact this
theorem LF.size_any {w : World} {base L : Nat} {ps : List Nat} {Rs : List Rw} {l g : Nat} {st : List Int} {tot : Int} {sv : Value} {S0 : List Nat} {Ss : List (List Nat)} (h : LF w base L ps Rs l g st tot sv S0 Ss) (m p n : Nat) (hm : m < Rs.length) (hp : ps.getD m 0 = p) (hn : rwLen Rs m = n) :
  Calls Tryd.prog 56 #[.pointer (some ⟨p, 0, none⟩)] w fun e w' => e = .returned (.int .i64 (n : Nat)) ∧ Below w.heap.size w w' := by
 have := gsize_any w base (ps.getD m 0) Rs[m].1 Rs[m].2.1 Rs[m].2.2 (h.row m hm).is
 rw [hp, ← rwLen_at Rs m hm, hn] at this
 exact this
theorem LF.rows_any {w : World} {base L : Nat} {ps : List Nat} {Rs : List Rw} {l g : Nat} {st : List Int} {tot : Int} {sv : Value} {S0 : List Nat} {Ss : List (List Nat)} (h : LF w base L ps Rs l g st tot sv S0 Ss) :
  Calls Tryd.prog 59 #[.pointer (some ⟨L, 0, none⟩)] w fun e w' => e = .returned (.int .i64 (Rs.length : Nat)) ∧ Below w.heap.size w w' := by
 have := V.gsize_any sv (.int .i64 tot) w base L (pvs ps) l g S0 h.rows
 rw [pvs_length, h.lp] at this
 exact this
structure RdN (w : World) (base L : Nat) (ps : List Nat) (Rs : List Rw) (l g : Nat) (st : List Int) (tot : Int) (sv : Value) (S0 : List Nat) (Ss : List (List Nat)) (w' : World) : Prop where
 lf : LF w' base L ps Rs l g st tot sv S0 Ss
 bel : Below w.heap.size w w'
theorem RdN.below {w : World} {base L : Nat} {ps : List Nat} {Rs : List Rw} {l g : Nat} {st : List Int} {tot : Int} {sv : Value} {S0 : List Nat} {Ss : List (List Nat)} {w1 w2 : World} (h : RdN w base L ps Rs l g st tot sv S0 Ss w1) (hb : Below w1.heap.size w1 w2) : RdN w base L ps Rs l g st tot sv S0 Ss w2 :=
 ⟨h.lf.below hb, below_step h.bel hb⟩
theorem RdN.drew {w : World} {base L : Nat} {ps : List Nat} {Rs : List Rw} {l g : Nat} {st : List Int} {tot : Int} {sv : Value} {S0 : List Nat} {Ss : List (List Nat)} {w1 : World} (h : RdN w base L ps Rs l g st tot sv S0 Ss w1) : RdN w base L ps Rs l g st tot sv S0 Ss w1.drew := h.below (Below.refl _ w1).drew
theorem RdN.c3 {w : World} {base L : Nat} {ps : List Nat} {Rs : List Rw} {l g : Nat} {st : List Int} {tot : Int} {sv : Value} {S0 : List Nat} {Ss : List (List Nat)} {w1 : World} (h : RdN w base L ps Rs l g st tot sv S0 Ss w1) : w1.cell? ⟨L, 3, none⟩ = some sv := by
 obtain ⟨v, hv, -⟩ := h.lf.blk
 exact (blk_cell hv 3).trans rfl
theorem RdN.cx {w : World} {base L : Nat} {ps : List Nat} {Rs : List Rw} {l g : Nat} {st : List Int} {tot : Int} {sv : Value} {S0 : List Nat} {Ss : List (List Nat)} {w1 : World} (h : RdN w base L ps Rs l g st tot sv S0 Ss w1) {a : Addr} {v : Value} (hc : w.cell? a = some v) : w1.cell? a = some v :=
 (h.bel.cell (World.block_lt_of_cell? w _ hc)).trans hc
theorem LF.L3 {base L : Nat} {ps : List Nat} {Rs : List Rw} {l g : Nat} {st : List Int} {tot : Int} {sv : Value} {S0 : List Nat} {Ss : List (List Nat)} {w1 w6 : World} (h : LF w1 base L ps Rs l g st tot sv S0 Ss) (hg : w1.grownBy w6 sv.ownBlock) : w6.cell? ⟨L, 3, none⟩ = some sv ∧ w6.frozen? ⟨L, 3, none⟩ = false := by
 obtain ⟨v, hv, -⟩ := h.blk
 have hb := (hg.block L (Array.getElem?_eq_some_iff.1 hv).1 (fun e => h.starts.1 L e.symm rfl)).trans hv
 exact ⟨(blk_cell hb 3).trans rfl, blk_frozen hb 3⟩
theorem LF.at3 {w : World} {base L : Nat} {ps : List Nat} {Rs : List Rw} {l g : Nat} {st : List Int} {tot : Int} {sv : Value} {S0 : List Nat} {Ss : List (List Nat)} (h : LF w base L ps Rs l g st tot sv S0 Ss) (i : Nat) (hi : i < st.length) : ∃ ad c, sv = .slice (some ad) st.length c ∧ st.length ≤ c ∧ w.cell? ⟨L, 3, none⟩ = some (.slice (some ad) st.length c) ∧ w.cell? (ad.add i) = some (.int .i64 (st.getD i 0)) := by
 obtain ⟨v, hv, -⟩ := h.blk
 obtain ⟨A1, c1, rfl⟩ := Kd.R_slice h.starts
 obtain ⟨ad, ea, hx⟩ := Kd.at_int (Kd.R_reads' h.starts).2.2 (i : Int) (by omega) (by omega)
 cases ea
 refine ⟨ad, c1, rfl, (Kd.R_reads' h.starts).2.1, (blk_cell hv 3).trans rfl, ?_⟩
 rw [Int.toNat_natCast] at hx
 refine hx.trans ?_
 simp [rdOf, rd]
set_option maxHeartbeats 8000000 in
set_option maxRecDepth 100000 in
theorem know0_any (w : World) (base L m : Nat) (ps : List Nat) (Rs : List Rw) (l g : Nat) (st : List Int) (tot : Int) (sv : Value) (S0 : List Nat) (Ss : List (List Nat)) (h : LF w base L ps Rs l g st tot sv S0 Ss) (hB : base ≤ w.heap.size) (hm : st.length = m + 1) (hmn : m < Rs.length)
  (z : Int) (hz : st.getD m 0 = z) (hzb : 0 ≤ z ∧ z ≤ 100000000) (hml : m ≤ 1000000) (n : Nat) (hn : rwLen Rs m = n) (hnb : n ≤ 1000000) :
  Calls Tryd.prog 60 #[.pointer (some ⟨L, 0, none⟩)] w fun e w' => e = .returned (.tuple #[]) ∧ (∃ sv', LF w' base L ps Rs l g (st ++ [z + n + 1]) tot sv' S0 Ss) ∧ Below base w w' := by
 obtain ⟨ad, c1, rfl, hc1, q3, X⟩ := h.at3 m (by omega)
 rw [hz] at X
 have z9 : RdN w base L ps Rs l g st tot (.slice (some ad) st.length c1) S0 Ss w := ⟨h, Below.refl _ _⟩
 obtain ⟨p, HP⟩ : ∃ p, Aside0 (ps.getD m 0 = p) := ⟨_, ⟨rfl⟩⟩
 have HX := Aside0.mk X
 have HMN := Aside0.mk hmn
 have HN := Aside0.mk hn
 have BLo := Aside0.mk h.rows.1
 have HBa := Aside0.mk hB
 have s1 : IntKind.i64.wrap ((st.length : Int) - 1) = (m : Int) := by rw [IntKind.wrap_i64]; omega
 have s2 : IntKind.i64.wrap (z + (n : Int)) = z + (n : Int) := by rw [IntKind.wrap_i64]; omega
 have s3 : IntKind.i64.wrap (z + (n : Int) + 1) = z + (n : Int) + 1 := by rw [IntKind.wrap_i64]; omega
 have d1 : decide ((m : Int) < (st.length : Int)) = true := decide_eq_true (by omega)
 have d2 : decide (m < st.length) = true := decide_eq_true (by omega)
 have d0 : m < st.length := by omega
 have HLN := Aside0.mk (show st.length ≤ 1000001 by omega)
 clear h hmn hn hB X hz hm
 go_enter Tryd.func60, Tryd.ntmps60
 go_wp2
 refine start_ (n := 25) (S := fun w' => w'.cell? ⟨L, 3, none⟩ = some (.slice (some ad) st.length c1) ∧ w'.cell? (ad.add m) = some (.int .i64 z) ∧ RdN w base L ps Rs l g st tot (.slice (some ad) st.length c1) S0 Ss w') (ds := [21, 24]) #[false, false, false, false, false, false, false, false, false, false, false, false, false, false, false, false, false, false, false, false, false, false, false, false, false] (by kernel_rfl) rfl rfl ⟨z9.drew.c3, z9.drew.cx HX.out, z9.drew⟩ (fun hHeld => ?_)
 refine pure_ (i := 0) (N := some 9) (v := ?_) (a' := ?_) #[true, false, false, false, false, false, false, false, false, false, false, false, false, false, false, false, false, false, false, false, false, false, false, false, false] rfl rfl (by kernel_rfl) (fun _ _ _ h => h) (Or.inl ⟨by rfl, ?_⟩) ?_ ?_
 rotate_left
 ·intro w'
  go_simp
  with_reducible rfl
 rotate_left
 ·simp only [Act.put, List.setIfInBounds_toArray, List.set_cons_zero, List.set_cons_succ, i64_w, i32_w]
  rfl
 refine pure_ (i := 1) (N := some 10) (v := ?_) (a' := ?_) #[true, true, false, false, false, false, false, false, false, false, false, false, false, false, false, false, false, false, false, false, false, false, false, false, false] rfl rfl (by kernel_rfl) (fun _ _ _ h => h) (Or.inl ⟨by rfl, ?_⟩) ?_ ?_
 rotate_left
 ·intro w'
  go_simp
  with_reducible rfl
 rotate_left
 ·simp only [Act.put, List.setIfInBounds_toArray, List.set_cons_zero, List.set_cons_succ, i64_w, i32_w]
  rfl
 refine pure_ (i := 2) (N := some 11) (v := ?_) (a' := ?_) #[true, true, true, false, false, false, false, false, false, false, false, false, false, false, false, false, false, false, false, false, false, false, false, false, false] rfl rfl (by kernel_rfl) (fun _ _ _ h => h) (Or.inl ⟨by rfl, ?_⟩) ?_ ?_
 rotate_left
 ·intro w'
  go_simp
  with_reducible rfl
 rotate_left
 ·simp only [Act.put, List.setIfInBounds_toArray, List.set_cons_zero, List.set_cons_succ, i64_w, i32_w]
  rfl
 refine pure_ (i := 3) (N := some 12) (v := ?_) (a' := ?_) #[true, true, true, true, false, false, false, false, false, false, false, false, false, false, false, false, false, false, false, false, false, false, false, false, false] rfl rfl (by kernel_rfl) (fun _ _ _ h => h) (Or.inl ⟨by rfl, ?_⟩) ?_ ?_
 rotate_left
 ·intro w'
  go_simp
  with_reducible rfl
 rotate_left
 ·simp only [Act.put, List.setIfInBounds_toArray, List.set_cons_zero, List.set_cons_succ, i64_w, i32_w]
  rfl
 refine pure_ (i := 5) (N := some 14) (v := ?_) (a' := ?_) #[true, true, true, true, false, true, false, false, false, false, false, false, false, false, false, false, false, false, false, false, false, false, false, false, false] rfl rfl (by kernel_rfl) (fun _ _ _ h => h) (Or.inl ⟨by rfl, ?_⟩) ?_ ?_
 rotate_left
 ·intro w'
  go_simp
  with_reducible rfl
 rotate_left
 ·simp only [Act.put, List.setIfInBounds_toArray, List.set_cons_zero, List.set_cons_succ, i64_w, i32_w]
  rfl
 refine pure_ (i := 6) (N := some 15) (v := ?_) (a' := ?_) #[true, true, true, true, false, true, true, false, false, false, false, false, false, false, false, false, false, false, false, false, false, false, false, false, false] rfl rfl (by kernel_rfl) (fun _ _ _ h => h) (Or.inl ⟨by rfl, ?_⟩) ?_ ?_
 rotate_left
 ·intro w'
  go_simp
  with_reducible rfl
 rotate_left
 ·simp only [Act.put, List.setIfInBounds_toArray, List.set_cons_zero, List.set_cons_succ, i64_w, i32_w]
  rfl
 refine pure_ (i := 7) (N := some 16) (v := ?_) (a' := ?_) #[true, true, true, true, false, true, true, true, false, false, false, false, false, false, false, false, false, false, false, false, false, false, false, false, false] rfl rfl (by kernel_rfl) (fun _ _ _ h => h) (Or.inl ⟨by rfl, ?_⟩) ?_ ?_
 rotate_left
 ·intro w'
  go_simp
  with_reducible rfl
 rotate_left
 ·simp only [Act.put, List.setIfInBounds_toArray, List.set_cons_zero, List.set_cons_succ, i64_w, i32_w]
  rfl
 refine pure_ (i := 9) (N := some 18) (v := ?_) (a' := ?_) #[true, true, true, true, false, true, true, true, false, true, false, false, false, false, false, false, false, false, false, false, false, false, false, false, false] rfl rfl (by kernel_rfl) (fun _ _ _ h => h) (Or.inl ⟨by rfl, ?_⟩) ?_ ?_
 rotate_left
 ·intro w'
  go_simp
  with_reducible rfl
 rotate_left
 ·simp only [Act.put, List.setIfInBounds_toArray, List.set_cons_zero, List.set_cons_succ, i64_w, i32_w]
  rfl
 refine pure_ (i := 12) (N := some 21) (v := ?_) (a' := ?_) #[true, true, true, true, false, true, true, true, false, true, false, false, true, false, false, false, false, false, false, false, false, false, false, false, false] rfl rfl (by kernel_rfl) (fun _ _ _ h => h) (Or.inl ⟨by rfl, ?_⟩) ?_ ?_
 rotate_left
 ·intro w'
  go_simp
  with_reducible rfl
 rotate_left
 ·simp only [Act.put, List.setIfInBounds_toArray, List.set_cons_zero, List.set_cons_succ, i64_w, i32_w]
  rfl
 refine pure_ (i := 13) (N := some 22) (v := ?_) (a' := ?_) #[true, true, true, true, false, true, true, true, false, true, false, false, true, true, false, false, false, false, false, false, false, false, false, false, false] rfl rfl (by kernel_rfl) (fun _ _ _ h => h) (Or.inl ⟨by rfl, ?_⟩) ?_ ?_
 rotate_left
 ·intro w'
  go_simp
  with_reducible rfl
 rotate_left
 ·simp only [Act.put, List.setIfInBounds_toArray, List.set_cons_zero, List.set_cons_succ, i64_w, i32_w]
  rfl
 refine pure_ (i := 14) (N := some 23) (v := ?_) (a' := ?_) #[true, true, true, true, false, true, true, true, false, true, false, false, true, true, true, false, false, false, false, false, false, false, false, false, false] rfl rfl (by kernel_rfl) (fun _ _ _ h => h) (Or.inl ⟨by rfl, ?_⟩) ?_ ?_
 rotate_left
 ·intro w'
  go_simp
  with_reducible rfl
 rotate_left
 ·simp only [Act.put, List.setIfInBounds_toArray, List.set_cons_zero, List.set_cons_succ, i64_w, i32_w]
  rfl
 refine pure_ (i := 15) (N := some 24) (v := ?_) (a' := ?_) #[true, true, true, true, false, true, true, true, false, true, false, false, true, true, true, true, false, false, false, false, false, false, false, false, false] rfl rfl (by kernel_rfl) (fun _ _ _ h => h) (Or.inl ⟨by rfl, ?_⟩) ?_ ?_
 rotate_left
 ·intro w'
  go_simp
  with_reducible rfl
 rotate_left
 ·simp only [Act.put, List.setIfInBounds_toArray, List.set_cons_zero, List.set_cons_succ, i64_w, i32_w]
  rfl
 refine take_ (i := 4) (N := some 13) (v := ?_) (a' := ?_) #[true, true, true, true, true, true, true, true, false, true, false, false, true, true, true, true, false, false, false, false, false, false, false, false, false] rfl rfl (by kernel_rfl) (fun _ _ _ h => h) (Or.inl ⟨by rfl, ?_⟩) hHeld ?_ ?_
 rotate_left
 ·rintro w' ⟨s0, s1, s2⟩
  go_simp
  with_reducible rfl
 rotate_left
 ·simp only [Act.put, List.setIfInBounds_toArray, List.set_cons_zero, List.set_cons_succ, i64_w, i32_w]
  rfl
 refine take_ (i := 8) (N := some 17) (v := ?_) (a' := ?_) #[true, true, true, true, true, true, true, true, true, true, false, false, true, true, true, true, false, false, false, false, false, false, false, false, false] rfl rfl (by kernel_rfl) (fun _ _ _ h => h) (Or.inl ⟨by rfl, ?_⟩) hHeld ?_ ?_
 rotate_left
 ·rintro w' ⟨s0, s1, s2⟩
  go_simp
  with_reducible rfl
 rotate_left
 ·simp only [Act.put, List.setIfInBounds_toArray, List.set_cons_zero, List.set_cons_succ, i64_w, i32_w]
  rfl
 refine pure_ (i := 10) (N := some 19) (v := ?_) (a' := ?_) #[true, true, true, true, true, true, true, true, true, true, true, false, true, true, true, true, false, false, false, false, false, false, false, false, false] rfl rfl (by kernel_rfl) (fun _ _ _ h => h) (Or.inl ⟨by rfl, ?_⟩) ?_ ?_
 rotate_left
 ·intro w'
  go_simp
  with_reducible rfl
 rotate_left
 ·simp only [Act.put, List.setIfInBounds_toArray, List.set_cons_zero, List.set_cons_succ, i64_w, i32_w]
  rfl
 refine take_ (i := 11) (N := some 20) (v := ?_) (a' := ?_) #[true, true, true, true, true, true, true, true, true, true, true, true, true, true, true, true, false, false, false, false, false, false, false, false, false] rfl rfl (by kernel_rfl) (fun _ _ _ h => h) (Or.inl ⟨by rfl, ?_⟩) hHeld ?_ ?_
 rotate_left
 ·rintro w' ⟨s0, s1, s2⟩
  go_simp
  with_reducible rfl
 rotate_left
 ·simp only [Act.put, List.setIfInBounds_toArray, List.set_cons_zero, List.set_cons_succ, i64_w, i32_w]
  rfl
 refine one_ (i := 16) (N := some 25) #[true, true, true, true, true, true, true, true, true, true, true, true, true, true, true, true, true, false, false, false, false, false, false, false, false] rfl rfl (by kernel_rfl) (by decide) (fun K hK => ?_)
 refine goes_ Tryd.func70 (by kernel_rfl) rfl #[.pointer (some ⟨L, 0, none⟩), .int .i64 (m : Nat)] (by rfl) rfl rfl (by simp only [List.map_toArray, List.map_cons, List.map_nil]; rfl) ?_
 with_reducible refine (hHeld.2.2.lf.get_any m p HMN.out HP.out).mono ?_
 rintro e w3 ⟨rfl, hb⟩
 refine ⟨_, rfl, ?_⟩
 have z10 := RdN.below hHeld.2.2 hb
 clear hb
 refine hK.out _ _ ⟨z10.c3, z10.cx HX.out, z10⟩ (fun hHeld => ?_)
 clear hK K
 refine norm_ (a' := ?_) ?_ ?_
 rotate_left
 ·show Act.put _ (some 25) _ = _
  simp only [Act.put, List.setIfInBounds_toArray, List.set_cons_zero, List.set_cons_succ, i64_w, i32_w]
  rfl
 refine one_ (i := 17) (N := some 26) #[true, true, true, true, true, true, true, true, true, true, true, true, true, true, true, true, true, true, false, false, false, false, false, false, false] rfl rfl (by kernel_rfl) (by decide) (fun K hK => ?_)
 refine goes_ Tryd.func56 (by kernel_rfl) rfl #[.pointer (some ⟨p, 0, none⟩)] (by rfl) rfl rfl (by simp only [List.map_toArray, List.map_cons, List.map_nil]; rfl) ?_
 with_reducible refine (hHeld.2.2.lf.size_any m p n HMN.out HP.out HN.out).mono ?_
 rintro e w4 ⟨rfl, hb⟩
 refine ⟨_, rfl, ?_⟩
 have z11 := RdN.below hHeld.2.2 hb
 clear hb
 refine hK.out _ _ ⟨z11.c3, z11.cx HX.out, z11⟩ (fun hHeld => ?_)
 clear hK K
 refine norm_ (a' := ?_) ?_ ?_
 rotate_left
 ·show Act.put _ (some 26) _ = _
  simp only [Act.put, List.setIfInBounds_toArray, List.set_cons_zero, List.set_cons_succ, i64_w, i32_w]
  rfl
 refine pure_ (i := 18) (N := some 27) (v := ?_) (a' := ?_) #[true, true, true, true, true, true, true, true, true, true, true, true, true, true, true, true, true, true, true, false, false, false, false, false, false] rfl rfl (by kernel_rfl) (fun _ _ _ h => h) (Or.inl ⟨by rfl, ?_⟩) ?_ ?_
 rotate_left
 ·intro w'
  go_simp
  with_reducible rfl
 rotate_left
 ·simp only [Act.put, List.setIfInBounds_toArray, List.set_cons_zero, List.set_cons_succ, i64_w, i32_w]
  rfl
 refine pure_ (i := 19) (N := some 28) (v := ?_) (a' := ?_) #[true, true, true, true, true, true, true, true, true, true, true, true, true, true, true, true, true, true, true, true, false, false, false, false, false] rfl rfl (by kernel_rfl) (fun _ _ _ h => h) (Or.inl ⟨by rfl, ?_⟩) ?_ ?_
 rotate_left
 ·intro w'
  go_simp
  with_reducible rfl
 rotate_left
 ·simp only [Act.put, List.setIfInBounds_toArray, List.set_cons_zero, List.set_cons_succ, i64_w, i32_w]
  rfl
 refine one_ (i := 20) (N := some 29) #[true, true, true, true, true, true, true, true, true, true, true, true, true, true, true, true, true, true, true, true, true, false, false, false, false] rfl rfl (by kernel_rfl) (by decide) (fun K hK => ?_)
 refine value_ (w1 := ?_) (v := ?_) (by rfl) rfl ?_ ?_
 rotate_left 2
 ·go_simp
  constructor
  ·rfl
  ·rfl
 have Z4 := Aside0.mk hHeld.2.2
 have z12 := RdN.below hHeld.2.2 ((Below.refl _ w4).alloc (Nat.le_refl _) (.cells #[.int .i64 (z + (n : Int) + 1)] 3))
 refine hK.out _ _ ⟨z12.c3, z12.cx HX.out, z12⟩ (fun hHeld => ?_)
 clear hK K
 refine norm_ (a' := ?_) ?_ ?_
 rotate_left
 ·show Act.put _ (some 29) _ = _
  simp only [Act.put, List.setIfInBounds_toArray, List.set_cons_zero, List.set_cons_succ, i64_w, i32_w]
  rfl
 refine last_ (i := 21) (N := some 30) #[true, true, true, true, true, true, true, true, true, true, true, true, true, true, true, true, true, true, true, true, true, true, false, false, false] rfl rfl (by kernel_rfl) (by decide) (fun K hK => ?_)
 refine Kd.R_append_step (Kd.int .i64) (w0 := w4) base (by rfl) (.tmp 13) (.tmp 29) 23 3 (.int .i64 0) 8 rfl Tryd.underlying23 info3 rfl (by decide) (by decide) (.slice (some ad) st.length c1) st (z + (n : Int) + 1) [.int .i64 (z + (n : Int) + 1)] (fun k => k ≠ L) (fun _ => False) ?sE ?xE ?mE (fun _ h => h.elim) ?fr ?hO (Below.refl _ _) ?hB ?hL ?_
 case sE => rfl
 case xE => rfl
 case mE => rfl
 case fr => exact fun k hk e => by have := Z4.out.lf.rows.lt _ Z4.out.lf.rows.mem; omega
 case hO => exact Z4.out.lf.starts
 case hB => exact Nat.le_trans HBa.out Z4.out.bel.size
 case hL => have := HLN.out; omega
 intro v6 w6 hR6 hb6 hg6 ho6
 obtain ⟨A60, c60, e60⟩ := Kd.R_slice hR6
 subst e60
 obtain ⟨y6, f6⟩ := Z4.out.lf.L3 hg6
 have HR6 := Aside0.mk hR6
 have HB6 := Aside0.mk hb6
 have HG6 := Aside0.mk hg6
 have HO6 := Aside0.mk ho6
 clear hR6 hb6 hg6 ho6
 refine hK.out _ _ ?_
 clear hK K
 refine norm_ (a' := ?_) ?_ ?_
 rotate_left
 ·show Act.put _ (some 30) _ = _
  simp only [Act.put, List.setIfInBounds_toArray, List.set_cons_zero, List.set_cons_succ, i64_w, i32_w]
  rfl
 refine pure_ (i := 22) (N := some 31) (v := ?_) (a' := ?_) #[true, true, true, true, true, true, true, true, true, true, true, true, true, true, true, true, true, true, true, true, true, true, true, false, false] rfl rfl (by kernel_rfl) (fun _ _ _ h => h) (Or.inl ⟨by rfl, ?_⟩) ?_ ?_
 rotate_left
 ·intro w'
  go_simp
  with_reducible rfl
 rotate_left
 ·simp only [Act.put, List.setIfInBounds_toArray, List.set_cons_zero, List.set_cons_succ, i64_w, i32_w]
  rfl
 refine pure_ (i := 23) (N := some 32) (v := ?_) (a' := ?_) #[true, true, true, true, true, true, true, true, true, true, true, true, true, true, true, true, true, true, true, true, true, true, true, true, false] rfl rfl (by kernel_rfl) (fun _ _ _ h => h) (Or.inl ⟨by rfl, ?_⟩) ?_ ?_
 rotate_left
 ·intro w'
  go_simp
  with_reducible rfl
 rotate_left
 ·simp only [Act.put, List.setIfInBounds_toArray, List.set_cons_zero, List.set_cons_succ, i64_w, i32_w]
  rfl
 refine last_ (i := 24) (N := none) #[true, true, true, true, true, true, true, true, true, true, true, true, true, true, true, true, true, true, true, true, true, true, true, true, true] rfl rfl (by kernel_rfl) (by decide) (fun K hK => ?_)
 refine skip_ (w1 := ?_) (by rfl) rfl ?_ ?_
 rotate_left
 ·go_simp
  rfl
 refine hK.out _ _ ?_
 clear hK K
 refine done_ (by kernel_rfl) ?_
 have HLF := Z4.out.lf.put ((UpdS.refl _ _).grown HG6.out (fun k hk => .inl (Option.mem_toList.2 hk))) HR6.out HO6.out
 have HBF := ((Below.mono Z4.out.bel HBa.out).trans HB6.out).setCell (p := ⟨L, 3, none⟩) BLo.out (.slice A60 (st ++ [z + (n : Int) + 1]).length c60)
 rw [show (st ++ [z + (n : Int) + 1]).length = st.length + 1 by simp] at HLF HBF
 clear hHeld
 go_end0
 exact ⟨rfl, ⟨_, HLF⟩, HBF⟩
theorem know_any (w : World) (base L m : Nat) (ps : List Nat) (Rs : List Rw) (l g : Nat) (tot : Int) (sv : Value) (S0 : List Nat) (Ss : List (List Nat)) (h : LF w base L ps Rs l g (sts Rs (m + 1)) tot sv S0 Ss) (hB : base ≤ w.heap.size) (hmn : m < Rs.length) (hml : m ≤ 1000000) (hb : stAt Rs (m + 1) ≤ 1000000) :
  Calls Tryd.prog 60 #[.pointer (some ⟨L, 0, none⟩)] w fun e w' => e = .returned (.tuple #[]) ∧ (∃ sv', LF w' base L ps Rs l g (sts Rs (m + 2)) tot sv' S0 Ss) ∧ Below base w w' := by
 have h1 := stAt_nn Rs m
 have h2 : stAt Rs (m + 1) = stAt Rs m + (rwLen Rs m : Int) + 1 := rfl
 have := know0_any w base L m ps Rs l g _ tot sv S0 Ss h hB (sts_length _ _) hmn (stAt Rs m) (sts_get Rs _ m (by omega)) (by omega) hml (rwLen Rs m) rfl (by omega)
 rw [← h2, ← sts_succ] at this
 exact this
end Go.Proofs.YtamcacahjlaogaaDoor.Ln
