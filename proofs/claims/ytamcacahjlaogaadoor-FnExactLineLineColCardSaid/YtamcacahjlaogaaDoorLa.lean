/- Lines: the words; told, walked. No condition but the bounds. -/
import Derived.Test.YtamcacahjlaogaaDoorVe
import Derived.Test.YtamcacahjlaogaaDoorGp4
import Derived.Test.YtamcacahjlaogaaDoorQBaseLx
namespace Go.Proofs.YtamcacahjlaogaaDoor.Ln
open Go.RowKit Go.Proofs.YtamcacahjlaogaaDoorW.PrintWords Go.Proofs.YtamcacahjlaogaaDoorW.PrintLast Go.Proofs.YtamcacahjlaogaaDoorW.PrintMore Er
open F (UpdS Fresh R_upd)
set_option linter.unusedSimpArgs false
set_option linter.unusedVariables false
abbrev SG := QBaseL.S76
abbrev kG : Kd SG := QBaseL.k76
abbrev Rw := List Int × Nat × Nat
def toG (r : Rw) : SG := ⟨lay r.1 r.2.1 r.2.2, (r.2.1 : Int), ((r.2.1 + r.2.2 : Nat) : Int)⟩
def pvs (ps : List Nat) : List V.PV := ps.map some
theorem pvs_length (ps : List Nat) : (pvs ps).length = ps.length := List.length_map _
theorem pvs_get (ps : List Nat) (i : Nat) (h : i < ps.length) : (pvs ps).getD i none = some (ps.getD i 0) := by
 simp [pvs, List.getD, h]
structure LF (w : World) (base L : Nat) (ps : List Nat) (Rs : List Rw) (l g : Nat) (st : List Int) (tot : Int) (sv : Value) (S0 : List Nat) (Ss : List (List Nat)) : Prop where
 rows : V.GapF sv (.int .i64 tot) w base L (pvs ps) l g S0
 starts : Kd.R (Kd.int .i64) 3 w base (fun k => k ≠ L) sv st
 lp : ps.length = Rs.length
 ls : Ss.length = Rs.length
 row : ∀ i (h : i < Rs.length), F.GapF w base (ps.getD i 0) Rs[i].1 Rs[i].2.1 Rs[i].2.2 (Ss.getD i [])
 nd : (S0 ++ sv.ownBlock.toList ++ Ss.flatten).Nodup
theorem LF.below {w w1 : World} {base L : Nat} {ps : List Nat} {Rs : List Rw} {l g : Nat} {st : List Int} {tot : Int} {sv : Value} {S0 : List Nat} {Ss : List (List Nat)} (h : LF w base L ps Rs l g st tot sv S0 Ss) (hb : Below w.heap.size w w1) : LF w1 base L ps Rs l g st tot sv S0 Ss :=
 ⟨h.rows.below hb, Kd.R_below h.starts hb, h.lp, h.ls, fun i hi => (h.row i hi).below hb, h.nd⟩
theorem LF.blk {w : World} {base L : Nat} {ps : List Nat} {Rs : List Rw} {l g : Nat} {st : List Int} {tot : Int} {sv : Value} {S0 : List Nat} {Ss : List (List Nat)} (h : LF w base L ps Rs l g st tot sv S0 Ss) : ∃ v : Value, w.heap[L]? = some (.cells #[v, .int .i64 (l : Int), .int .i64 ((l + g : Nat) : Int), sv, .int .i64 tot] 89 (0, 0)) ∧ Kd.R V.KV 90 w base (fun k => k ≠ L) v (V.lay (pvs ps) l g) := by
 obtain ⟨-, -, -, v, hv, hR, -⟩ := h.rows
 exact ⟨v, hv, hR⟩
theorem LF.ptrs {w : World} {base L : Nat} {ps : List Nat} {Rs : List Rw} {l g : Nat} {st : List Int} {tot : Int} {sv : Value} {S0 : List Nat} {Ss : List (List Nat)} (h : LF w base L ps Rs l g st tot sv S0 Ss) : Calls Tryd.prog 62 #[.pointer (some ⟨L, 0, none⟩), .int .i64 0, .int .i64 ((pvs ps).length : Nat)] w fun e w' => ∃ A c, e = .returned (.slice A ps.length c) ∧ Kd.R V.KV 90 w' w.heap.size (fun _ => True) (.slice A ps.length c) (pvs ps) ∧ Below w.heap.size w w' := by
 refine (V.read_any sv (.int .i64 tot) w base L (pvs ps) l g S0 0 (pvs ps).length h.rows (Nat.zero_le _) (Nat.le_refl _)).mono ?_
 rintro e w' ⟨v, rfl, hR, hb⟩
 rw [List.take_length, List.drop_zero] at hR
 obtain ⟨A, c, rfl⟩ := Kd.R_slice hR
 rw [pvs_length] at hR ⊢
 exact ⟨A, c, rfl, hR, hb⟩
structure RdA (w : World) (base L : Nat) (ps : List Nat) (Rs : List Rw) (l g : Nat) (st : List Int) (tot : Int) (sv : Value) (S0 : List Nat) (Ss : List (List Nat)) (ob : Nat) (sv1 : Value) (w' : World) : Prop where
 lf : LF w' base L ps Rs l g st tot sv S0 Ss
 ob : w'.heap[ob]? = some (.cells #[.slice none 0 0, sv1] 29 (0, 0))
 sts : Kd.R (Kd.int .i64) 3 w' w.heap.size (fun _ => True) sv1 st
 rs : w'.heap[w.heap.size]? = some (.cells #[.slice none 0 0, .slice none 0 0] 29 (0, 0))
 bel : Below w.heap.size w w'
theorem RdA.below {w : World} {base L : Nat} {ps : List Nat} {Rs : List Rw} {l g : Nat} {st : List Int} {tot : Int} {sv : Value} {S0 : List Nat} {Ss : List (List Nat)} {ob : Nat} {sv1 : Value} {w1 w2 : World} (h : RdA w base L ps Rs l g st tot sv S0 Ss ob sv1 w1) (hb : Below w1.heap.size w1 w2) : RdA w base L ps Rs l g st tot sv S0 Ss ob sv1 w2 :=
 ⟨h.lf.below hb, blk_below h.ob hb, Kd.R_below h.sts hb, blk_below h.rs hb, below_step h.bel hb⟩
theorem RdA.drew {w : World} {base L : Nat} {ps : List Nat} {Rs : List Rw} {l g : Nat} {st : List Int} {tot : Int} {sv : Value} {S0 : List Nat} {Ss : List (List Nat)} {ob : Nat} {sv1 : Value} {w1 : World} (h : RdA w base L ps Rs l g st tot sv S0 Ss ob sv1 w1) : RdA w base L ps Rs l g st tot sv S0 Ss ob sv1 w1.drew := h.below (Below.refl _ w1).drew
structure RdB (N4 : Nat) (base p : Nat) (r : Rw) (ob N : Nat) (v0 sv1 : Value) (xs : List SG) (wr w' : World) : Prop where
 gp : GapIs w' base p r.1 r.2.1 r.2.2
 ob : w'.heap[ob]? = some (.cells #[v0, sv1] 29 (0, 0))
 out : Kd.S kG 76 w' N4 (fun k => k < N) v0 xs
 bel : Below wr.heap.size wr w'
theorem RdB.below {N4 : Nat} {base p : Nat} {r : Rw} {ob N : Nat} {v0 sv1 : Value} {xs : List SG} {wr w1 w2 : World} (h : RdB N4 base p r ob N v0 sv1 xs wr w1) (hb : Below w1.heap.size w1 w2) : RdB N4 base p r ob N v0 sv1 xs wr w2 :=
 ⟨h.gp.below hb, blk_below h.ob hb, Kd.S_below h.out hb, below_step h.bel hb⟩
theorem RdB.drew {N4 : Nat} {base p : Nat} {r : Rw} {ob N : Nat} {v0 sv1 : Value} {xs : List SG} {wr w1 : World} (h : RdB N4 base p r ob N v0 sv1 xs wr w1) : RdB N4 base p r ob N v0 sv1 xs wr w1.drew := h.below (Below.refl _ w1).drew
theorem RdB.c0 {N4 : Nat} {base p : Nat} {r : Rw} {ob N : Nat} {v0 sv1 : Value} {xs : List SG} {wr w1 : World} (h : RdB N4 base p r ob N v0 sv1 xs wr w1) : w1.cell? ⟨ob, 0, none⟩ = some v0 := (blk_cell h.ob 0).trans rfl
structure ToAt (w4 : World) (ob : Nat) (Rs : List Rw) (sv1 : Value) (k : Nat) (v21 : Value) (wr : World) : Prop where
 st : ∃ i : Nat, v21 = .int .i64 i ∧ i + k = Rs.length ∧ ∃ v0 : Value, wr.heap[ob]? = some (.cells #[v0, sv1] 29 (0, 0)) ∧ Kd.S kG 76 wr w4.heap.size (fun _ => True) v0 ((Rs.take i).map toG)
 bel : UpdS [ob] w4 wr
theorem apart_el {α : Type} {d : Kd α} {e N4 N B : Nat} {ok : Nat → Prop} {w5 : World} {vc v0 : Value} {ys : List α} {xs : List SG} (hR : d.R e w5 B ok vc ys) (hw : N ≤ B) (hS : Kd.S kG 76 w5 N4 (fun k => k < N) v0 xs) : ∀ k, some k = vc.ownBlock → True ∧ some k ≠ v0.ownBlock :=
 fun k hk => ⟨trivial, fun h => by have h1 := Kd.R_base hR k hk.symm; have h2 := (Kd.S_R hS).1 k h.symm; omega⟩
theorem out_el {α : Type} {d : Kd α} {e N4 N B : Nat} {ok : Nat → Prop} {w5 : World} {vc v0 : Value} {ys : List α} {xs : List SG} (hR : d.R e w5 B ok vc ys) (hw : N ≤ B) (hS : Kd.S kG 76 w5 N4 (fun k => k < N) v0 xs) : Kd.S kG 76 w5 N4 (fun k => True ∧ ¬ some k = vc.ownBlock) v0 xs :=
 Kd.S_mono hS fun k hk => ⟨trivial, fun h => by have := Kd.R_base hR k h.symm; omega⟩
theorem ob_el {N4 N ob : Nat} {w5 w6 : World} {v0 sv1 : Value} {xs : List SG} (hb : w5.heap[ob]? = some (.cells #[v0, sv1] 29 (0, 0))) (hS : Kd.S kG 76 w5 N4 (fun k => k < N) v0 xs) (hg : w5.grownBy w6 v0.ownBlock) : w6.heap[ob]? = some (.cells #[v0, sv1] 29 (0, 0)) :=
 (hg.block ob (Array.getElem?_eq_some_iff.1 hb).1 (Kd.S_ne hS hb (by decide))).trans hb
def ToldPost (w : World) (Rs : List Rw) (st : List Int) (e : Ending) (w' : World) : Prop := ∃ v0 v1 : Value, e = .returned (.agg #[v0, v1]) ∧ Kd.S kG 76 w' w.heap.size (fun _ => True) v0 (Rs.map toG) ∧ Kd.R (Kd.int .i64) 3 w' w.heap.size (fun _ => True) v1 st ∧ Below w.heap.size w w'
theorem info3 : (Tryd.prog.info? 3).map (fun i => (i.zero, i.size, i.bytes)) = some (some (.int .i64 0), 1, 8) := by kernel_rfl
set_option maxHeartbeats 8000000 in
set_option maxRecDepth 100000 in
theorem told_any (w : World) (base L : Nat) (ps : List Nat) (Rs : List Rw) (l g : Nat) (st : List Int) (tot : Int) (sv : Value) (S0 : List Nat) (Ss : List (List Nat)) (h : LF w base L ps Rs l g st tot sv S0 Ss) (hst : st.length ≤ 1000000) (hRs : Rs.length ≤ 1000000) :
  Calls Tryd.prog 32 #[.pointer (some ⟨L, 0, none⟩)] w (ToldPost w Rs st) := by
 have H0 := Aside0.mk h
 obtain ⟨A1, c1, rfl⟩ := Kd.R_slice h.starts
 obtain ⟨v, hv, -⟩ := h.blk
 obtain ⟨w1, e1⟩ : ∃ y, w.alloc (.cells #[.slice none 0 0, .slice none 0 0] 29) = y := ⟨_, rfl⟩
 have hb1 : Below w.heap.size w w1 := by subst e1; exact (Below.refl _ w).alloc (Nat.le_refl _) _
 have q3 : w1.cell? ⟨L, 3, none⟩ = some (.slice A1 st.length c1) := (blk_cell (blk_below hv hb1) 3).trans rfl
 have HST := Aside0.mk (Kd.C_below (Kd.R_reads' h.starts).2.2 hb1)
 have HB1 := Aside0.mk hb1
 have RB1 : Aside0 (w1.heap[w.heap.size]? = some (.cells #[.slice none 0 0, .slice none 0 0] 29 (0, 0))) := ⟨by subst e1; exact Array.getElem?_push_size⟩
 clear h hv hb1
 go_enter Tryd.func32, Tryd.ntmps32
 go_wp2_with (first
  | ((with_reducible refine gate_builtin (b := .append) (xs := #[.const (.slice none 0 0), .tmp 9]) rfl ?_); at_builtin; refine app_nil .i64 (fun _ => True) rfl (.const (.slice none 0 0)) (.tmp 9) 23 3 (.int .i64 0) 8 rfl Tryd.underlying23 info3 rfl (by decide) rfl st A1 st.length c1 rfl rfl HST.out (fun _ _ => trivial) (by omega) ?_; intro v1 w2 ho hb2; obtain ⟨A2, c2, eo⟩ := Kd.R_slice ho; subst eo; have HO2 := Aside0.mk ho; have HB2 := Aside0.mk (below_step HB1.out hb2); have RB2 := Aside0.mk (blk_below RB1.out hb2); clear ho hb2))
 obtain ⟨ob, hob⟩ : ∃ z, w2.heap.size = z := ⟨_, rfl⟩
 obtain ⟨w3, e3⟩ : ∃ z, w2.alloc (.cells #[.slice none 0 0, .slice A2 st.length c2] 29) = z := ⟨_, rfl⟩
 have hb3 : Below w2.heap.size w2 w3 := by subst e3; exact (Below.refl _ w2).alloc (Nat.le_refl _) _
 have z9 : RdA w base L ps Rs l g st tot (.slice A1 st.length c1) S0 Ss ob (.slice A2 st.length c2) w3 :=
  ⟨(H0.out.below HB2.out).below hb3, by subst e3 hob; exact Array.getElem?_push_size, Kd.R_lower (Kd.R_below HO2.out hb3) HB1.out.size, blk_below RB2.out hb3, below_step HB2.out hb3⟩
 have LO := Aside0.mk (show w.heap.size ≤ ob by rw [← hob]; exact HB2.out.size)
 have NE := Aside0.mk (show w.heap.size ≠ ob by rw [← hob]; exact Nat.ne_of_lt (Array.getElem?_eq_some_iff.1 RB2.out).1)
 rw [e3, hob]
 clear e3 hob hb3 q3 e1 HO2 HB2 RB2 RB1 HB1 HST
 refine start_ (n := 10) (S := fun w' => RdA w base L ps Rs l g st tot (.slice A1 st.length c1) S0 Ss ob (.slice A2 st.length c2) w') (ds := []) #[false, false, false, false, false, false, false, false, false, false] (by kernel_rfl) rfl rfl (z9.drew) (fun hHeld => ?_)
 refine pure_ (i := 0) (N := some 12) (v := ?_) (a' := ?_) #[true, false, false, false, false, false, false, false, false, false] rfl rfl (by kernel_rfl) (fun _ _ _ h => h) (Or.inl ⟨by rfl, ?_⟩) ?_ ?_
 rotate_left
 ·intro w'
  go_simp
  with_reducible rfl
 rotate_left
 ·simp only [Act.put, List.setIfInBounds_toArray, List.set_cons_zero, List.set_cons_succ, i64_w, i32_w]
  rfl
 refine pure_ (i := 1) (N := some 13) (v := ?_) (a' := ?_) #[true, true, false, false, false, false, false, false, false, false] rfl rfl (by kernel_rfl) (fun _ _ _ h => h) (Or.inl ⟨by rfl, ?_⟩) ?_ ?_
 rotate_left
 ·intro w'
  go_simp
  with_reducible rfl
 rotate_left
 ·simp only [Act.put, List.setIfInBounds_toArray, List.set_cons_zero, List.set_cons_succ, i64_w, i32_w]
  rfl
 refine pure_ (i := 2) (N := some 14) (v := ?_) (a' := ?_) #[true, true, true, false, false, false, false, false, false, false] rfl rfl (by kernel_rfl) (fun _ _ _ h => h) (Or.inl ⟨by rfl, ?_⟩) ?_ ?_
 rotate_left
 ·intro w'
  go_simp
  with_reducible rfl
 rotate_left
 ·simp only [Act.put, List.setIfInBounds_toArray, List.set_cons_zero, List.set_cons_succ, i64_w, i32_w]
  rfl
 refine pure_ (i := 3) (N := some 15) (v := ?_) (a' := ?_) #[true, true, true, true, false, false, false, false, false, false] rfl rfl (by kernel_rfl) (fun _ _ _ h => h) (Or.inl ⟨by rfl, ?_⟩) ?_ ?_
 rotate_left
 ·intro w'
  go_simp
  with_reducible rfl
 rotate_left
 ·simp only [Act.put, List.setIfInBounds_toArray, List.set_cons_zero, List.set_cons_succ, i64_w, i32_w]
  rfl
 refine pure_ (i := 4) (N := some 16) (v := ?_) (a' := ?_) #[true, true, true, true, true, false, false, false, false, false] rfl rfl (by kernel_rfl) (fun _ _ _ h => h) (Or.inl ⟨by rfl, ?_⟩) ?_ ?_
 rotate_left
 ·intro w'
  go_simp
  with_reducible rfl
 rotate_left
 ·simp only [Act.put, List.setIfInBounds_toArray, List.set_cons_zero, List.set_cons_succ, i64_w, i32_w]
  rfl
 refine pure_ (i := 5) (N := some 17) (v := ?_) (a' := ?_) #[true, true, true, true, true, true, false, false, false, false] rfl rfl (by kernel_rfl) (fun _ _ _ h => h) (Or.inl ⟨by rfl, ?_⟩) ?_ ?_
 rotate_left
 ·intro w'
  go_simp
  with_reducible rfl
 rotate_left
 ·simp only [Act.put, List.setIfInBounds_toArray, List.set_cons_zero, List.set_cons_succ, i64_w, i32_w]
  rfl
 refine pure_ (i := 9) (N := some 21) (v := ?_) (a' := ?_) #[true, true, true, true, true, true, false, false, false, true] rfl rfl (by kernel_rfl) (fun _ _ _ h => h) (Or.inl ⟨by rfl, ?_⟩) ?_ ?_
 rotate_left
 ·intro w'
  go_simp
  with_reducible rfl
 rotate_left
 ·simp only [Act.put, List.setIfInBounds_toArray, List.set_cons_zero, List.set_cons_succ, i64_w, i32_w]
  rfl
 refine one_ (i := 6) (N := some 18) #[true, true, true, true, true, true, true, false, false, true] rfl rfl (by kernel_rfl) (by decide) (fun K hK => ?_)
 refine goes_ Tryd.func59 (by kernel_rfl) rfl #[.pointer (some ⟨L, 0, none⟩)] (by rfl) rfl rfl (by simp only [List.map_toArray, List.map_cons, List.map_nil]; rfl) ?_
 with_reducible refine (V.gsize_any _ _ _ base L (pvs ps) l g S0 hHeld.lf.rows).mono ?_
 rintro e w4 ⟨rfl, hb⟩
 refine ⟨_, rfl, ?_⟩
 have z10 := RdA.below hHeld hb
 clear hb
 refine hK.out _ _ (z10) (fun hHeld => ?_)
 clear hK K
 refine norm_ (a' := ?_) ?_ ?_
 rotate_left
 ·show Act.put _ (some 18) _ = _
  simp only [Act.put, List.setIfInBounds_toArray, List.set_cons_zero, List.set_cons_succ, i64_w, i32_w]
  rfl
 refine one_ (i := 7) (N := some 19) #[true, true, true, true, true, true, true, true, false, true] rfl rfl (by kernel_rfl) (by decide) (fun K hK => ?_)
 refine goes_ Tryd.func62 (by kernel_rfl) rfl #[.pointer (some ⟨L, 0, none⟩), .int .i64 0, .int .i64 ((pvs ps).length : Nat)] (by rfl) rfl rfl (by simp only [List.map_toArray, List.map_cons, List.map_nil]; rfl) ?_
 with_reducible refine (LF.ptrs hHeld.lf).mono ?_
 rintro e w4 ⟨A4, c4, rfl, hR4, hb⟩
 refine ⟨_, rfl, ?_⟩
 have z10 := RdA.below hHeld hb
 have HR4 := Aside0.mk hR4
 clear hb hR4
 refine hK.out _ _ (z10) (fun hHeld => ?_)
 clear hK K
 refine norm_ (a' := ?_) ?_ ?_
 rotate_left
 ·show Act.put _ (some 19) _ = _
  simp only [Act.put, List.setIfInBounds_toArray, List.set_cons_zero, List.set_cons_succ, i64_w, i32_w]
  rfl
 refine pure_ (i := 8) (N := some 20) (v := ?_) (a' := ?_) #[true, true, true, true, true, true, true, true, true, true] rfl rfl (by kernel_rfl) (fun _ _ _ h => h) (Or.inl ⟨by rfl, ?_⟩) ?_ ?_
 rotate_left
 ·intro w'
  go_simp
  with_reducible rfl
 rotate_left
 ·simp only [Act.put, List.setIfInBounds_toArray, List.set_cons_zero, List.set_cons_succ, i64_w, i32_w]
  rfl
 refine done_ (by kernel_rfl) ?_
 have Z4 := Aside0.mk z10
 clear hHeld
 have AT : Aside0 (ToAt w4 ob Rs (.slice A2 st.length c2) Rs.length (.int .i64 0) w4) := ⟨⟨⟨0, rfl, by omega, .slice none 0 0, Z4.out.ob, by simpa using Kd.S_nil kG _ _ _ _⟩, UpdS.refl _ _⟩⟩
 have lp := H0.out.lp
 clear z10
 go_wp2
 go_loopg [21] Rs.length (fun k v21 wr => ToAt w4 ob Rs (.slice A2 st.length c2) k v21 wr)
 case atStart => exact AT.out
 case round =>
  clear AT
  obtain ⟨⟨i, rfl, hk, v0, hob, hS⟩, hU⟩ := hrel
  obtain ⟨xs, HXS⟩ : ∃ xs, Aside0 ((Rs.take i).map toG = xs) := ⟨_, ⟨rfl⟩⟩
  rw [HXS.out] at hS
  have HXL := Aside0.mk (show xs.length ≤ 1000000 by rw [← HXS.out, List.length_map, List.length_take]; omega)
  obtain ⟨A0, c0, rfl⟩ := Kd.S_slice hS
  have HK := Aside0.mk hk
  have HOB := Aside0.mk hob
  have HS := Aside0.mk hS
  have HU := Aside0.mk hU
  have HN4 := Aside0.mk hU.size
  have HBW := Aside0.mk (Z4.out.bel.trans (UpdS.bel hU (fun k hk => by simp only [List.mem_singleton] at hk; rw [hk]; exact LO.out) Z4.out.bel.size))
  clear hk hob hS hU
  by_cases ci : i < Rs.length
  ·have hRw := R_upd rfl HR4.out HU.out (fun k hk hm => by
    simp only [List.mem_singleton] at hm
    subst hm
    obtain ⟨cells, hc⟩ := Kd.R_typed HR4.out k hk
    rw [Z4.out.ob] at hc
    simp at hc)
   obtain ⟨adp, ep, hcp⟩ := V.Kd.at_ptr (Kd.R_reads' hRw).2.2 (i : Int) (by omega) (by rw [pvs_length]; omega)
   cases ep
   rw [V.rdOf_nat, pvs_get ps i (by omega), Int.toNat_natCast] at hcp
   have gp := (H0.out.below HBW.out).row i ci
   obtain ⟨p, HP⟩ : ∃ p, Aside0 (ps.getD i 0 = p) := ⟨_, ⟨rfl⟩⟩
   obtain ⟨r, HI⟩ : ∃ r, Aside0 (Rs[i] = r) := ⟨_, ⟨rfl⟩⟩
   rw [HP.out] at hcp gp
   rw [HI.out] at gp
   simp only [V.pv, V.pa] at hcp
   have z9 : RdB w4.heap.size base p r ob wr.heap.size (.slice A0 xs.length c0) (.slice A2 st.length c2) xs wr wr :=
    ⟨gp.is, HOB.out, Kd.S_mono (Kd.S_bound HS.out) (fun k hk => hk.2.2.1), Below.refl _ _⟩
   clear hRw gp
   go_wp2
   refine start_ (n := 8) (S := fun w' => w'.cell? ⟨ob, 0, none⟩ = some (.slice A0 xs.length c0) ∧ RdB w4.heap.size base p r ob wr.heap.size (.slice A0 xs.length c0) (.slice A2 st.length c2) xs wr w') (ds := [5, 7]) #[false, false, false, false, false, false, false, false] (by kernel_rfl) rfl rfl ⟨z9.drew.c0, z9.drew⟩ (fun hHeld => ?_)
   refine pure_ (i := 0) (N := some 25) (v := ?_) (a' := ?_) #[true, false, false, false, false, false, false, false] rfl rfl (by kernel_rfl) (fun _ _ _ h => h) (Or.inl ⟨by rfl, ?_⟩) ?_ ?_
   rotate_left
   ·intro w'
    go_simp
    with_reducible rfl
   rotate_left
   ·simp only [Act.put, List.setIfInBounds_toArray, List.set_cons_zero, List.set_cons_succ, i64_w, i32_w]
    rfl
   refine pure_ (i := 2) (N := some 27) (v := ?_) (a' := ?_) #[true, false, true, false, false, false, false, false] rfl rfl (by kernel_rfl) (fun _ _ _ h => h) (Or.inl ⟨by rfl, ?_⟩) ?_ ?_
   rotate_left
   ·intro w'
    go_simp
    with_reducible rfl
   rotate_left
   ·simp only [Act.put, List.setIfInBounds_toArray, List.set_cons_zero, List.set_cons_succ, i64_w, i32_w]
    rfl
   refine take_ (i := 1) (N := some 26) (v := ?_) (a' := ?_) #[true, true, true, false, false, false, false, false] rfl rfl (by kernel_rfl) (fun _ _ _ h => h) (Or.inl ⟨by rfl, ?_⟩) hHeld ?_ ?_
   rotate_left
   ·rintro w' ⟨s0, s1⟩
    go_simp
    with_reducible rfl
   rotate_left
   ·simp only [Act.put, List.setIfInBounds_toArray, List.set_cons_zero, List.set_cons_succ, i64_w, i32_w]
    rfl
   refine one_ (i := 3) (N := some 28) #[true, true, true, true, false, false, false, false] rfl rfl (by kernel_rfl) (by decide) (fun K hK => ?_)
   refine goes_ Tryd.func63 (by kernel_rfl) rfl #[.pointer (some ⟨p, 0, none⟩)] (by rfl) rfl rfl (by simp only [List.map_toArray, List.map_cons, List.map_nil]; rfl) ?_
   with_reducible refine (closed_any _ base p r.1 r.2.1 r.2.2 hHeld.2.gp).mono ?_
   rintro e w5 ⟨vc, rfl, hR5, hb⟩
   refine ⟨_, rfl, ?_⟩
   obtain ⟨Ac, cc, rfl⟩ := Kd.R_slice hR5
   have HR5 := Aside0.mk hR5
   have HW5 := Aside0.mk hHeld.2.bel.size
   have z10 := RdB.below hHeld.2 hb
   clear hb hR5
   refine hK.out _ _ ⟨z10.c0, z10⟩ (fun hHeld => ?_)
   clear hK K
   refine norm_ (a' := ?_) ?_ ?_
   rotate_left
   ·show Act.put _ (some 28) _ = _
    simp only [Act.put, List.setIfInBounds_toArray, List.set_cons_zero, List.set_cons_succ, i64_w, i32_w]
    rfl
   refine one_ (i := 4) (N := some 29) #[true, true, true, true, true, false, false, false] rfl rfl (by kernel_rfl) (by decide) (fun K hK => ?_)
   refine value_ (w1 := ?_) (v := ?_) (by rfl) rfl ?_ ?_
   rotate_left 2
   ·go_simp
    constructor
    ·rfl
    ·rfl
   have Z5 := Aside0.mk hHeld.2
   have z11 := RdB.below hHeld.2 ((Below.refl _ w5).alloc (Nat.le_refl _) (.cells #[.slice Ac (lay r.1 r.2.1 r.2.2).length cc, .int .i64 (r.2.1 : Int), .int .i64 ((r.2.1 + r.2.2 : Nat) : Int)] 76))
   refine hK.out _ _ ⟨z11.c0, z11⟩ (fun hHeld => ?_)
   clear hK K
   refine norm_ (a' := ?_) ?_ ?_
   rotate_left
   ·show Act.put _ (some 29) _ = _
    simp only [Act.put, List.setIfInBounds_toArray, List.set_cons_zero, List.set_cons_succ, i64_w, i32_w]
    rfl
   refine last_ (i := 5) (N := some 30) #[true, true, true, true, true, true, false, false] rfl rfl (by kernel_rfl) (by decide) (fun K hK => ?_)
   refine Kd.S_append_step kG (w0 := w5) w4.heap.size (by rfl) (.tmp 26) (.tmp 29) 27 76 (.agg #[.slice none 0 0, .int .i64 0, .int .i64 0]) 40 rfl Tryd.underlying27 QBaseL.info76 rfl (by decide) (by decide) (.slice A0 xs.length c0) xs (toG r) [.slice Ac (lay r.1 r.2.1 r.2.2).length cc, .int .i64 (r.2.1 : Int), .int .i64 ((r.2.1 + r.2.2 : Nat) : Int)] (fun _ => True) (fun k => some k = (Value.slice Ac (lay r.1 r.2.1 r.2.2).length cc).ownBlock) ?sE ?xE ?mE ?oE (fun _ _ => trivial) ?hO (Below.refl _ _) ?hB ?hL ?_
   case sE => rfl
   case xE => rfl
   case mE => exact QBaseL.k76_mkM _ _ _ (toG r) (Kd.R_tight2 rfl (Kd.R_lower HR5.out (Nat.le_trans HN4.out HW5.out)) |> fun h => Kd.R_mono h fun _ hk => hk.1)
   case oE => exact apart_el HR5.out HW5.out Z5.out.out
   case hO => exact out_el HR5.out HW5.out Z5.out.out
   case hB => exact Nat.le_trans HN4.out Z5.out.bel.size
   case hL => have := HXL.out; omega
   intro v6 w6 hS6 hb6 hg6 _
   obtain ⟨A6, c6, rfl⟩ := Kd.S_slice hS6
   have OB6 := ob_el Z5.out.ob Z5.out.out hg6
   have HS6 := Aside0.mk hS6
   have UG6 := Aside0.mk hg6
   have q6 : w6.cell? ⟨ob, 0, none⟩ = some (.slice A0 xs.length c0) := (blk_cell OB6 0).trans rfl
   have f6 : w6.frozen? ⟨ob, 0, none⟩ = false := blk_frozen OB6 0
   have HOB6 := Aside0.mk OB6
   clear hS6 hb6 hg6 OB6
   refine hK.out _ _ ?_
   clear hK K
   refine norm_ (a' := ?_) ?_ ?_
   rotate_left
   ·show Act.put _ (some 30) _ = _
    simp only [Act.put, List.setIfInBounds_toArray, List.set_cons_zero, List.set_cons_succ, i64_w, i32_w]
    rfl
   refine pure_ (i := 6) (N := some 31) (v := ?_) (a' := ?_) #[true, true, true, true, true, true, true, false] rfl rfl (by kernel_rfl) (fun _ _ _ h => h) (Or.inl ⟨by rfl, ?_⟩) ?_ ?_
   rotate_left
   ·intro w'
    go_simp
    with_reducible rfl
   rotate_left
   ·simp only [Act.put, List.setIfInBounds_toArray, List.set_cons_zero, List.set_cons_succ, i64_w, i32_w]
    rfl
   refine last_ (i := 7) (N := none) #[true, true, true, true, true, true, true, true] rfl rfl (by kernel_rfl) (by decide) (fun K hK => ?_)
   refine skip_ (w1 := ?_) (by rfl) rfl ?_ ?_
   rotate_left
   ·go_simp
    rfl
   refine hK.out _ _ ?_
   clear hK K
   refine done_ (by kernel_rfl) ?_
   go_wp2
   go_roundg (Rs.length - (i + 1))
   case measure => have := HK.out; omega
   case rel =>
    have e1 : (Rs.take (i + 1)).map toG = xs ++ [toG r] := by rw [List.take_succ_eq_append_getElem ci, List.map_append, HXS.out, HI.out]; rfl
    have hS9 := Kd.S_set HS6.out HOB6.out (by decide) 0 (.slice A6 (xs ++ [toG r]).length c6)
    rw [show (xs ++ [toG r]).length = xs.length + 1 by simp] at hS9
    refine ⟨⟨i + 1, by go_num, by have := HK.out; omega, .slice A6 (xs.length + 1) c6, blk_put HOB6.out 0 _ rfl, by rw [e1]; exact hS9⟩, ?_⟩
    exact ((HU.out.tr (UpdS.of_below Z5.out.bel)).grown UG6.out (fun k hk => .inr (Kd.S_base Z5.out.out k hk))).setCell (p := ⟨ob, 0, none⟩) (.inl (by simp)) _
  ·have hil : i = Rs.length := by have := HK.out; omega
   subst hil
   have q0 : wr.cell? ⟨ob, 0, none⟩ = some (.slice A0 xs.length c0) := (blk_cell HOB.out 0).trans rfl
   have q1 : wr.cell? ⟨ob, 1, none⟩ = some (.slice A2 st.length c2) := (blk_cell HOB.out 1).trans rfl
   have RS := (HU.out.block w.heap.size (Array.getElem?_eq_some_iff.1 Z4.out.rs).1 (by simpa using NE.out)).trans Z4.out.rs
   have r0 : wr.cell? ⟨w.heap.size, 0, none⟩ = some (.slice none 0 0) := (blk_cell RS 0).trans rfl
   have r1 : wr.cell? ⟨w.heap.size, 1, none⟩ = some (.slice none 0 0) := (blk_cell RS 1).trans rfl
   have g0 := blk_frozen RS 0
   have g1 := blk_frozen RS 1
   go_wp2
   have BX := Aside0.mk (blk_put (blk_put RS 0 (.slice A0 xs.length c0) rfl) 1 (.slice A2 st.length c2) rfl)
   refine bodyPost_ret (results_single rfl (.cell w.heap.size 29 _ (0, 0) _ rfl BX.out Tryd.underlying29 rfl (by kernel_rfl) .nil)) rfl ?_
   have e1 : Rs.map toG = xs := by rw [← HXS.out, List.take_length]
   have sts := R_upd rfl Z4.out.sts HU.out (fun k hk hm => by
    simp only [List.mem_singleton] at hm
    subst hm
    obtain ⟨cells, hc⟩ := Kd.R_typed Z4.out.sts k hk
    rw [Z4.out.ob] at hc
    simp at hc)
   refine ⟨_, _, rfl, ?_, Kd.R_set (Kd.R_set sts RS (by decide) 0 _) (blk_put RS 0 (.slice A0 xs.length c0) rfl) (by decide) 1 _, (HBW.out.setCell (p := ⟨w.heap.size, 0, none⟩) (Nat.le_refl _) _).setCell (p := ⟨w.heap.size, 1, none⟩) (Nat.le_refl _) _⟩
   rw [e1]
   exact Kd.S_set (Kd.S_set (Kd.S_lower HS.out Z4.out.bel.size) RS (by decide) 0 _) (blk_put RS 0 (.slice A0 xs.length c0) rfl) (by decide) 1 _
end Go.Proofs.YtamcacahjlaogaaDoor.Ln
