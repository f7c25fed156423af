/- Lines: sort.SearchInts; where an offset lies (lineCol), walked. Conditions: the bounds. -/
import Derived.Test.YtamcacahjlaogaaDoorLd
namespace Go.Proofs.YtamcacahjlaogaaDoor.Ln
open Go.RowKit Go.Proofs.YtamcacahjlaogaaDoorW.PrintWords Go.Proofs.YtamcacahjlaogaaDoorW.PrintLast Go.Proofs.YtamcacahjlaogaaDoorW.PrintMore Er
open F (UpdS Fresh R_upd)
set_option linter.unusedSimpArgs false
set_option linter.unusedVariables false
structure SrchAt (w : World) (F : Int → Bool) (n : Int) (k : Nat) (v5 v6 : Value) (wr : World) : Prop where
 st : ∃ i j : Int, v5 = .int .i64 i ∧ v6 = .int .i64 j ∧ 0 ≤ i ∧ i ≤ j ∧ j ≤ n ∧ j - i ≤ (k : Int) ∧ (i = 0 ∨ F (i - 1) = false) ∧ (j = n ∨ F j = true)
 bel : Below w.heap.size w wr
set_option maxHeartbeats 8000000 in
set_option maxRecDepth 100000 in
theorem search_any (w : World) (F : Int → Bool) (n : Int) (p1 p2 : Value) (hn : 0 ≤ n ∧ n ≤ 1000000)
  (hF : ∀ W, Below w.heap.size w W → ∀ i : Int, 0 ≤ i → i < n → Calls Tryd.prog 85 #[.int .i64 i, p1, p2] W fun e w' => e = .returned (.bool (F i)) ∧ Below W.heap.size W w') :
  Calls Tryd.prog 84 #[.int .i64 n, .func (.func 85) #[] #[p1, p2]] w fun e w' => ∃ r : Int, e = .returned (.int .i64 r) ∧ 0 ≤ r ∧ r ≤ n ∧ (r = 0 ∨ F (r - 1) = false) ∧ (r = n ∨ F r = true) ∧ Below w.heap.size w w' := by
 have HF := Aside0.mk hF
 have AT : Aside0 (SrchAt w F n n.toNat (.int .i64 0) (.int .i64 n) w) := ⟨⟨⟨0, n, rfl, rfl, by omega, by omega, by omega, by omega, .inl rfl, .inl rfl⟩, Below.refl _ _⟩⟩
 clear hF
 go_enter Tryd.func84, Tryd.ntmps84
 go_wp2
 go_loopg [5, 6] n.toNat (fun k v5 v6 wr => SrchAt w F n k v5 v6 wr)
 case atStart => exact AT.out
 case round =>
  clear AT
  obtain ⟨⟨i, j, rfl, rfl, h0, h1, h2, hk, hi, hj⟩, hB⟩ := hrel
  have HB := Aside0.mk hB
  have HI := Aside0.mk hi
  have HJ := Aside0.mk hj
  have HK := Aside0.mk hk
  clear hB hi hj hk
  by_cases c : i < j
  ·have cb : decide (i < j) = true := decide_eq_true c
   go_wp2_with fail
   refine (HF.out wr HB.out ((i + j) / 2) (by omega) (by omega)).mono ?_
   rintro e w' ⟨rfl, hb⟩
   have HB2 := Aside0.mk (below_step HB.out hb)
   clear hb
   obtain ⟨h, hh⟩ : ∃ h : Int, (i + j) / 2 = h := ⟨_, rfl⟩
   have g1 : i ≤ h ∧ h < j := by omega
   rw [hh]
   clear hh
   cases hv : F h with
   | true =>
    have HV := Aside0.mk hv
    clear hv
    go_wp2
    go_roundg (h - i).toNat
    case measure => have := HK.out; omega
    case rel => exact ⟨⟨i, h, rfl, rfl, h0, g1.1, by omega, by omega, HI.out, .inr HV.out⟩, HB2.out⟩
   | false =>
    have HV := Aside0.mk hv
    clear hv
    go_wp2
    go_roundg (j - (h + 1)).toNat
    case measure => have := HK.out; omega
    case rel => exact ⟨⟨h + 1, j, rfl, rfl, by omega, by omega, h2, by omega, .inr (by rw [show h + 1 - 1 = h by omega]; exact HV.out), HJ.out⟩, HB2.out⟩
  ·have cb : decide (i < j) = false := decide_eq_false c
   obtain rfl : i = j := by omega
   go_wp2
   go_ret
   exact ⟨i, rfl, h0, h2, HI.out, HJ.out, HB.out⟩
set_option maxHeartbeats 8000000 in
set_option maxRecDepth 100000 in
theorem at_any (w : World) (ga gx : Nat) (A : Option Addr) (c : Nat) (xs : List Int) (x i : Int) (ha : w.cell? ⟨ga, 0, none⟩ = some (.slice A xs.length c)) (hx : w.cell? ⟨gx, 0, none⟩ = some (.int .i64 x)) (hC : Kd.C (Kd.int .i64) w A xs.length xs) (hn : xs.length ≤ 1000000) (h0 : 0 ≤ i) (h1 : i < xs.length) :
  Calls Tryd.prog 85 #[.int .i64 i, .pointer (some ⟨ga, 0, none⟩), .pointer (some ⟨gx, 0, none⟩)] w fun e w' => e = .returned (.bool (decide (x ≤ xs.getD i.toNat 0))) ∧ Below w.heap.size w w' := by
 obtain ⟨ad, ea, hx0⟩ := Kd.at_int hC i h0 h1
 cases ea
 obtain ⟨z, hz⟩ : ∃ z, xs.getD i.toNat 0 = z := ⟨_, rfl⟩
 have hx2 : w.cell? (ad.add i.toNat) = some (.int .i64 z) := by rw [← hz]; exact hx0.trans (by simp [rdOf, rd])
 rw [hz]
 clear hx0 hz hC
 have d1 : decide (i < (xs.length : Int)) = true := decide_eq_true h1
 have d2 : decide (0 ≤ i) = true := decide_eq_true h0
 have d3 : i.toNat < xs.length := by omega
 go_enter Tryd.func85, Tryd.ntmps85
 go_wp2
 have HBW : Below w.heap.size w w.drew := (Below.refl _ w).drew
 refine start_ (n := 7) (S := fun w' => w'.cell? ⟨ga, 0, none⟩ = some (.slice (some ad) xs.length c) ∧ w'.cell? (ad.add i.toNat) = some (.int .i64 z) ∧ w'.cell? ⟨gx, 0, none⟩ = some (.int .i64 x)) (ds := []) #[false, false, false, false, false, false, false] (by kernel_rfl) rfl rfl ⟨ha, hx2, hx⟩ (fun hHeld => ?_)
 refine pure_ (i := 1) (N := some 6) (v := ?_) (a' := ?_) #[false, true, false, false, false, false, false] rfl rfl (by kernel_rfl) (fun _ _ _ h => h) (Or.inl ⟨by rfl, ?_⟩) ?_ ?_
 rotate_left
 ·intro w'
  go_simp
  with_reducible rfl
 rotate_left
 ·simp only [Act.put, List.setIfInBounds_toArray, List.set_cons_zero, List.set_cons_succ, i64_w, i32_w]
  rfl
 refine take_ (i := 0) (N := some 5) (v := ?_) (a' := ?_) #[true, true, false, false, false, false, false] rfl rfl (by kernel_rfl) (fun _ _ _ h => h) (Or.inl ⟨by rfl, ?_⟩) hHeld ?_ ?_
 rotate_left
 ·rintro w' ⟨s0, s1, s2⟩
  go_simp
  with_reducible rfl
 rotate_left
 ·simp only [Act.put, List.setIfInBounds_toArray, List.set_cons_zero, List.set_cons_succ, i64_w, i32_w]
  rfl
 refine pure_ (i := 2) (N := some 7) (v := ?_) (a' := ?_) #[true, true, true, false, false, false, false] rfl rfl (by kernel_rfl) (fun _ _ _ h => h) (Or.inl ⟨by rfl, ?_⟩) ?_ ?_
 rotate_left
 ·intro w'
  go_simp
  with_reducible rfl
 rotate_left
 ·simp only [Act.put, List.setIfInBounds_toArray, List.set_cons_zero, List.set_cons_succ, i64_w, i32_w]
  rfl
 refine take_ (i := 3) (N := some 8) (v := ?_) (a' := ?_) #[true, true, true, true, false, false, false] rfl rfl (by kernel_rfl) (fun _ _ _ h => h) (Or.inl ⟨by rfl, ?_⟩) hHeld ?_ ?_
 rotate_left
 ·rintro w' ⟨s0, s1, s2⟩
  go_simp
  with_reducible rfl
 rotate_left
 ·simp only [Act.put, List.setIfInBounds_toArray, List.set_cons_zero, List.set_cons_succ, i64_w, i32_w]
  rfl
 refine take_ (i := 4) (N := some 9) (v := ?_) (a' := ?_) #[true, true, true, true, true, false, false] rfl rfl (by kernel_rfl) (fun _ _ _ h => h) (Or.inl ⟨by rfl, ?_⟩) hHeld ?_ ?_
 rotate_left
 ·rintro w' ⟨s0, s1, s2⟩
  go_simp
  with_reducible rfl
 rotate_left
 ·simp only [Act.put, List.setIfInBounds_toArray, List.set_cons_zero, List.set_cons_succ, i64_w, i32_w]
  rfl
 refine pure_ (i := 5) (N := some 10) (v := ?_) (a' := ?_) #[true, true, true, true, true, true, false] rfl rfl (by kernel_rfl) (fun _ _ _ h => h) (Or.inl ⟨by rfl, ?_⟩) ?_ ?_
 rotate_left
 ·intro w'
  go_simp
  with_reducible rfl
 rotate_left
 ·simp only [Act.put, List.setIfInBounds_toArray, List.set_cons_zero, List.set_cons_succ, i64_w, i32_w]
  rfl
 refine pure_ (i := 6) (N := some 4) (v := ?_) (a' := ?_) #[true, true, true, true, true, true, true] rfl rfl (by kernel_rfl) (fun _ _ _ h => h) (Or.inl ⟨by rfl, ?_⟩) ?_ ?_
 rotate_left
 ·intro w'
  go_simp
  with_reducible rfl
 rotate_left
 ·simp only [Act.put, List.setIfInBounds_toArray, List.set_cons_zero, List.set_cons_succ, i64_w, i32_w]
  rfl
 refine done_ (by kernel_rfl) ?_
 go_wp2
 go_ret
 exact ⟨rfl, HBW⟩
set_option maxHeartbeats 8000000 in
set_option maxRecDepth 100000 in
theorem searchInts_any (w : World) (A : Option Addr) (c : Nat) (xs : List Int) (x : Int) (hC : Kd.C (Kd.int .i64) w A xs.length xs) (hn : xs.length ≤ 1000000) :
  Calls Tryd.prog 61 #[.slice A xs.length c, .int .i64 x] w fun e w' => ∃ r : Nat, e = .returned (.int .i64 (r : Int)) ∧ r ≤ xs.length ∧ (r = 0 ∨ xs.getD (r - 1) 0 < x) ∧ (r = xs.length ∨ x ≤ xs.getD r 0) ∧ Below w.heap.size w w' := by
 obtain ⟨w1, e1⟩ : ∃ y, w.alloc (.cells #[.slice A xs.length c] 23) = y := ⟨_, rfl⟩
 have hb1 : Below w.heap.size w w1 := by subst e1; exact (Below.refl _ w).alloc (Nat.le_refl _) _
 have k1 : w1.heap[w.heap.size]? = some (.cells #[.slice A xs.length c] 23 (0, 0)) := by subst e1; exact blk_new w (.cells #[.slice A xs.length c] 23)
 obtain ⟨w2, e2⟩ : ∃ y, w1.alloc (.cells #[.int .i64 x] 3) = y := ⟨_, rfl⟩
 have hb2 : Below w1.heap.size w1 w2 := by subst e2; exact (Below.refl _ w1).alloc (Nat.le_refl _) _
 have k2 : w2.heap[w1.heap.size]? = some (.cells #[.int .i64 x] 3 (0, 0)) := by subst e2; exact blk_new w1 (.cells #[.int .i64 x] 3)
 have HB := Aside0.mk (below_step hb1 hb2)
 have K1 := Aside0.mk (blk_below k1 hb2)
 have K2 := Aside0.mk k2
 have HC := Aside0.mk (Kd.C_below hC (below_step hb1 hb2))
 have q1 : w2.cell? ⟨w.heap.size, 0, none⟩ = some (.slice A xs.length c) := (blk_cell K1.out 0).trans rfl
 clear hb1 hb2 k1 k2 hC
 go_enter Tryd.func61, Tryd.ntmps61
 go_wp2_with fail
 refine (search_any w2 (fun i => decide (x ≤ xs.getD i.toNat 0)) (xs.length : Int) _ _ (by omega) (fun W hW i h0 h1 => at_any W w.heap.size w1.heap.size A c xs x i ((blk_cell (blk_below K1.out hW) 0).trans rfl) ((blk_cell (blk_below K2.out hW) 0).trans rfl) (Kd.C_below HC.out hW) hn h0 h1)).mono ?_
 rintro e w3 ⟨r, rfl, r0, r1, r2, r3, hb⟩
 have HR := Aside0.mk (And.intro r2 r3)
 have HB3 := Aside0.mk (below_step HB.out hb)
 clear hb r2 r3 q1 e1 e2
 go_wp2
 go_ret
 obtain ⟨r2, r3⟩ := HR.out
 refine ⟨r.toNat, by rw [Int.toNat_of_nonneg r0]; rfl, by omega, ?_, ?_, HB3.out⟩
 ·rcases r2 with rfl | h
  ·exact .inl rfl
  ·refine .inr ?_
   have := of_decide_eq_false h
   rw [show (r - 1).toNat = r.toNat - 1 by omega] at this
   omega
 ·rcases r3 with h | h
  ·exact .inl (by omega)
  ·exact .inr (of_decide_eq_true h)
structure LcAt (w : World) (base L : Nat) (ps : List Nat) (Rs : List Rw) (l g k0 : Nat) (tot off : Int) (S0 : List Nat) (Ss : List (List Nat)) (k : Nat) (_ : Value) (wr : World) : Prop where
 st : ∃ (m : Nat) (sv : Value), m + 1 + k = Rs.length ∧ k0 ≤ m + 1 ∧ LF wr base L ps Rs l g (sts Rs (m + 1)) tot sv S0 Ss ∧ ∀ j, k0 ≤ j → j < m + 1 → stAt Rs (j - 1) ≤ off
 bel : Below base w wr
structure Known (Rs : List Rw) (k0 : Nat) (off : Int) (k : Nat) : Prop where
 lo : k0 ≤ k
 hi : k ≤ Rs.length
 all : ∀ j, k0 ≤ j → j < k → stAt Rs (j - 1) ≤ off
 stop : k = Rs.length ∨ off < stAt Rs (k - 1)
structure LineOf (Rs : List Rw) (k : Nat) (off : Int) (line : Nat) : Prop where
 lt : line < k
 le : stAt Rs line ≤ off
 next : line + 1 = k ∨ off < stAt Rs (line + 1)
set_option maxHeartbeats 8000000 in
set_option maxRecDepth 100000 in
theorem lineCol_any (w : World) (base L k0 : Nat) (ps : List Nat) (Rs : List Rw) (l g : Nat) (tot off : Int) (sv : Value) (S0 : List Nat) (Ss : List (List Nat)) (h : LF w base L ps Rs l g (sts Rs k0) tot sv S0 Ss) (hB : base ≤ w.heap.size) (hk0 : 0 < k0) (hk : k0 ≤ Rs.length) (hn : Rs.length ≤ 100000) (hb : stAt Rs Rs.length ≤ 1000000) (ho : 0 ≤ off ∧ off ≤ 1000000) :
  Calls Tryd.prog 31 #[.pointer (some ⟨L, 0, none⟩), .int .i64 off] w fun e w' => ∃ (k line : Nat) (sv' : Value), e = .returned (.tuple #[.int .i64 (line : Int), .int .i64 (off - stAt Rs line)]) ∧ Known Rs k0 off k ∧ LineOf Rs k off line ∧ LF w' base L ps Rs l g (sts Rs k) tot sv' S0 Ss ∧ Below base w w' := by
 obtain ⟨m0, rfl⟩ : ∃ m, k0 = m + 1 := ⟨k0 - 1, by omega⟩
 have AT : Aside0 (LcAt w base L ps Rs l g (m0 + 1) tot off S0 Ss (Rs.length - (m0 + 1)) undef w) := ⟨⟨⟨m0, sv, by omega, Nat.le_refl _, h, fun j h1 h2 => by omega⟩, Below.refl _ _⟩⟩
 have HBa := Aside0.mk hB
 have HMB := Aside0.mk (And.intro hn hb)
 clear h hk hB hb
 go_enter Tryd.func31, Tryd.ntmps31
 go_wp2
 go_loopg [32] (Rs.length - (m0 + 1)) (fun k v32 wr => LcAt w base L ps Rs l g (m0 + 1) tot off S0 Ss k v32 wr)
 case atStart => exact AT.out
 case round =>
  clear AT
  obtain ⟨⟨m, sv, hk, hm0, hlf, hall⟩, hB⟩ := hrel
  obtain ⟨st, HST⟩ : ∃ z, Aside0 (sts Rs (m + 1) = z) := ⟨_, ⟨rfl⟩⟩
  rw [HST.out] at hlf
  have hsl : st.length = m + 1 := by rw [← HST.out, sts_length]
  obtain ⟨ad, c1, rfl, hc1, q3, X⟩ := hlf.at3 m (by omega)
  obtain ⟨z, HZ⟩ : ∃ z, Aside0 (stAt Rs m = z) := ⟨_, ⟨rfl⟩⟩
  rw [← HST.out, sts_get Rs _ m (by omega), HZ.out] at X
  have z9 : RdN wr base L ps Rs l g st tot (.slice (some ad) st.length c1) S0 Ss wr := ⟨hlf, Below.refl _ _⟩
  have HX := Aside0.mk X
  have HK := Aside0.mk hk
  have HALL := Aside0.mk hall
  have HB := Aside0.mk hB
  have HSB := Aside0.mk (Nat.le_trans HBa.out hB.size)
  have s1 : IntKind.i64.wrap ((st.length : Int) - 1) = (m : Int) := by rw [IntKind.wrap_i64]; omega
  have d1 : decide ((m : Int) < (st.length : Int)) = true := decide_eq_true (by omega)
  have d2 : decide (m < st.length) = true := decide_eq_true (by omega)
  have d0 : m < st.length := by omega
  have zb : 0 ≤ z ∧ z ≤ 1000000 := by
   have h1 := stAt_nn Rs m
   have h2 := stAt_mono Rs (i := m) (j := Rs.length) (by omega)
   have := HMB.out.2
   rw [HZ.out] at h1 h2
   omega
  have HSL := Aside0.mk hsl
  clear hlf X hk hall hB hsl
  by_cases cm : m + 1 < Rs.length
  ·have d3 : decide ((st.length : Int) < (Rs.length : Int)) = true := decide_eq_true (by have := HSL.out; omega)
   have d4 : decide (st.length < Rs.length) = true := decide_eq_true (by have := HSL.out; omega)
   have d6 : st.length < Rs.length := by have := HSL.out; omega
   go_wp2
   refine start_ (n := 26) (S := fun w' => w'.cell? ⟨L, 3, none⟩ = some (.slice (some ad) st.length c1) ∧ w'.cell? (ad.add m) = some (.int .i64 z) ∧ RdN wr base L ps Rs l g st tot (.slice (some ad) st.length c1) S0 Ss w') (ds := []) #[false, false, false, false, false, false, false, false, false, false, false, false, false, false, false, false, false, false, false, false, false, false, false, false, false, false] (by kernel_rfl) rfl rfl ⟨z9.drew.c3, z9.drew.cx HX.out, z9.drew⟩ (fun hHeld => ?_)
   refine pure_ (i := 0) (N := some 7) (v := ?_) (a' := ?_) #[true, false, false, false, false, false, false, false, false, false, false, false, false, false, false, false, false, false, false, false, false, false, false, false, false, false] rfl rfl (by kernel_rfl) (fun _ _ _ h => h) (Or.inl ⟨by rfl, ?_⟩) ?_ ?_
   rotate_left
   ·intro w'
    go_simp
    with_reducible rfl
   rotate_left
   ·simp only [Act.put, List.setIfInBounds_toArray, List.set_cons_zero, List.set_cons_succ, i64_w, i32_w]
    rfl
   refine pure_ (i := 1) (N := some 8) (v := ?_) (a' := ?_) #[true, true, false, false, false, false, false, false, false, false, false, false, false, false, false, false, false, false, false, false, false, false, false, false, false, false] rfl rfl (by kernel_rfl) (fun _ _ _ h => h) (Or.inl ⟨by rfl, ?_⟩) ?_ ?_
   rotate_left
   ·intro w'
    go_simp
    with_reducible rfl
   rotate_left
   ·simp only [Act.put, List.setIfInBounds_toArray, List.set_cons_zero, List.set_cons_succ, i64_w, i32_w]
    rfl
   refine pure_ (i := 2) (N := some 9) (v := ?_) (a' := ?_) #[true, true, true, false, false, false, false, false, false, false, false, false, false, false, false, false, false, false, false, false, false, false, false, false, false, false] rfl rfl (by kernel_rfl) (fun _ _ _ h => h) (Or.inl ⟨by rfl, ?_⟩) ?_ ?_
   rotate_left
   ·intro w'
    go_simp
    with_reducible rfl
   rotate_left
   ·simp only [Act.put, List.setIfInBounds_toArray, List.set_cons_zero, List.set_cons_succ, i64_w, i32_w]
    rfl
   refine pure_ (i := 5) (N := some 12) (v := ?_) (a' := ?_) #[true, true, true, false, false, true, false, false, false, false, false, false, false, false, false, false, false, false, false, false, false, false, false, false, false, false] rfl rfl (by kernel_rfl) (fun _ _ _ h => h) (Or.inl ⟨by rfl, ?_⟩) ?_ ?_
   rotate_left
   ·intro w'
    go_simp
    with_reducible rfl
   rotate_left
   ·simp only [Act.put, List.setIfInBounds_toArray, List.set_cons_zero, List.set_cons_succ, i64_w, i32_w]
    rfl
   refine pure_ (i := 6) (N := some 13) (v := ?_) (a' := ?_) #[true, true, true, false, false, true, true, false, false, false, false, false, false, false, false, false, false, false, false, false, false, false, false, false, false, false] rfl rfl (by kernel_rfl) (fun _ _ _ h => h) (Or.inl ⟨by rfl, ?_⟩) ?_ ?_
   rotate_left
   ·intro w'
    go_simp
    with_reducible rfl
   rotate_left
   ·simp only [Act.put, List.setIfInBounds_toArray, List.set_cons_zero, List.set_cons_succ, i64_w, i32_w]
    rfl
   refine pure_ (i := 7) (N := some 14) (v := ?_) (a' := ?_) #[true, true, true, false, false, true, true, true, false, false, false, false, false, false, false, false, false, false, false, false, false, false, false, false, false, false] rfl rfl (by kernel_rfl) (fun _ _ _ h => h) (Or.inl ⟨by rfl, ?_⟩) ?_ ?_
   rotate_left
   ·intro w'
    go_simp
    with_reducible rfl
   rotate_left
   ·simp only [Act.put, List.setIfInBounds_toArray, List.set_cons_zero, List.set_cons_succ, i64_w, i32_w]
    rfl
   refine take_ (i := 3) (N := some 10) (v := ?_) (a' := ?_) #[true, true, true, true, false, true, true, true, false, false, false, false, false, false, false, false, false, false, false, false, false, false, false, false, false, false] rfl rfl (by kernel_rfl) (fun _ _ _ h => h) (Or.inl ⟨by rfl, ?_⟩) hHeld ?_ ?_
   rotate_left
   ·rintro w' ⟨s0, s1, s2⟩
    go_simp
    with_reducible rfl
   rotate_left
   ·simp only [Act.put, List.setIfInBounds_toArray, List.set_cons_zero, List.set_cons_succ, i64_w, i32_w]
    rfl
   refine pure_ (i := 4) (N := some 11) (v := ?_) (a' := ?_) #[true, true, true, true, true, true, true, true, false, false, false, false, false, false, false, false, false, false, false, false, false, false, false, false, false, false] rfl rfl (by kernel_rfl) (fun _ _ _ h => h) (Or.inl ⟨by rfl, ?_⟩) ?_ ?_
   rotate_left
   ·intro w'
    go_simp
    with_reducible rfl
   rotate_left
   ·simp only [Act.put, List.setIfInBounds_toArray, List.set_cons_zero, List.set_cons_succ, i64_w, i32_w]
    rfl
   refine one_ (i := 8) (N := some 15) #[true, true, true, true, true, true, true, true, true, false, false, false, false, false, false, false, false, false, false, false, false, false, false, false, false, false] rfl rfl (by kernel_rfl) (by decide) (fun K hK => ?_)
   refine goes_ Tryd.func59 (by kernel_rfl) rfl #[.pointer (some ⟨L, 0, none⟩)] (by rfl) rfl rfl (by simp only [List.map_toArray, List.map_cons, List.map_nil]; rfl) ?_
   with_reducible refine (hHeld.2.2.lf.rows_any).mono ?_
   rintro e w3 ⟨rfl, hb⟩
   refine ⟨_, rfl, ?_⟩
   have z10 := RdN.below hHeld.2.2 hb
   clear hb
   refine hK.out _ _ ⟨z10.c3, z10.cx HX.out, z10⟩ (fun hHeld => ?_)
   clear hK K
   refine norm_ (a' := ?_) ?_ ?_
   rotate_left
   ·show Act.put _ (some 15) _ = _
    simp only [Act.put, List.setIfInBounds_toArray, List.set_cons_zero, List.set_cons_succ, i64_w, i32_w]
    rfl
   refine pure_ (i := 9) (N := some 16) (v := ?_) (a' := ?_) #[true, true, true, true, true, true, true, true, true, true, false, false, false, false, false, false, false, false, false, false, false, false, false, false, false, false] rfl rfl (by kernel_rfl) (fun _ _ _ h => h) (Or.inl ⟨by rfl, ?_⟩) ?_ ?_
   rotate_left
   ·intro w'
    go_simp
    with_reducible rfl
   rotate_left
   ·simp only [Act.put, List.setIfInBounds_toArray, List.set_cons_zero, List.set_cons_succ, i64_w, i32_w]
    rfl
   refine pure_ (i := 10) (N := some 17) (v := ?_) (a' := ?_) #[true, true, true, true, true, true, true, true, true, true, true, false, false, false, false, false, false, false, false, false, false, false, false, false, false, false] rfl rfl (by kernel_rfl) (fun _ _ _ h => h) (Or.inl ⟨by rfl, ?_⟩) ?_ ?_
   rotate_left
   ·intro w'
    go_simp
    with_reducible rfl
   rotate_left
   ·simp only [Act.put, List.setIfInBounds_toArray, List.set_cons_zero, List.set_cons_succ, i64_w, i32_w]
    rfl
   refine pure_ (i := 11) (N := some 18) (v := ?_) (a' := ?_) #[true, true, true, true, true, true, true, true, true, true, true, true, false, false, false, false, false, false, false, false, false, false, false, false, false, false] rfl rfl (by kernel_rfl) (fun _ _ _ h => h) (Or.inl ⟨by rfl, ?_⟩) ?_ ?_
   rotate_left
   ·intro w'
    go_simp
    with_reducible rfl
   rotate_left
   ·simp only [Act.put, List.setIfInBounds_toArray, List.set_cons_zero, List.set_cons_succ, i64_w, i32_w]
    rfl
   refine pure_ (i := 12) (N := some 19) (v := ?_) (a' := ?_) #[true, true, true, true, true, true, true, true, true, true, true, true, true, false, false, false, false, false, false, false, false, false, false, false, false, false] rfl rfl (by kernel_rfl) (fun _ _ _ h => h) (Or.inl ⟨by rfl, ?_⟩) ?_ ?_
   rotate_left
   ·intro w'
    go_simp
    with_reducible rfl
   rotate_left
   ·simp only [Act.put, List.setIfInBounds_toArray, List.set_cons_zero, List.set_cons_succ, i64_w, i32_w]
    rfl
   refine pure_ (i := 13) (N := some 20) (v := ?_) (a' := ?_) #[true, true, true, true, true, true, true, true, true, true, true, true, true, true, false, false, false, false, false, false, false, false, false, false, false, false] rfl rfl (by kernel_rfl) (fun _ _ _ h => h) (Or.inl ⟨by rfl, ?_⟩) ?_ ?_
   rotate_left
   ·intro w'
    go_simp
    with_reducible rfl
   rotate_left
   ·simp only [Act.put, List.setIfInBounds_toArray, List.set_cons_zero, List.set_cons_succ, i64_w, i32_w]
    rfl
   refine pure_ (i := 15) (N := some 22) (v := ?_) (a' := ?_) #[true, true, true, true, true, true, true, true, true, true, true, true, true, true, false, true, false, false, false, false, false, false, false, false, false, false] rfl rfl (by kernel_rfl) (fun _ _ _ h => h) (Or.inl ⟨by rfl, ?_⟩) ?_ ?_
   rotate_left
   ·intro w'
    go_simp
    with_reducible rfl
   rotate_left
   ·simp only [Act.put, List.setIfInBounds_toArray, List.set_cons_zero, List.set_cons_succ, i64_w, i32_w]
    rfl
   refine pure_ (i := 16) (N := some 23) (v := ?_) (a' := ?_) #[true, true, true, true, true, true, true, true, true, true, true, true, true, true, false, true, true, false, false, false, false, false, false, false, false, false] rfl rfl (by kernel_rfl) (fun _ _ _ h => h) (Or.inl ⟨by rfl, ?_⟩) ?_ ?_
   rotate_left
   ·intro w'
    go_simp
    with_reducible rfl
   rotate_left
   ·simp only [Act.put, List.setIfInBounds_toArray, List.set_cons_zero, List.set_cons_succ, i64_w, i32_w]
    rfl
   refine pure_ (i := 17) (N := some 24) (v := ?_) (a' := ?_) #[true, true, true, true, true, true, true, true, true, true, true, true, true, true, false, true, true, true, false, false, false, false, false, false, false, false] rfl rfl (by kernel_rfl) (fun _ _ _ h => h) (Or.inl ⟨by rfl, ?_⟩) ?_ ?_
   rotate_left
   ·intro w'
    go_simp
    with_reducible rfl
   rotate_left
   ·simp only [Act.put, List.setIfInBounds_toArray, List.set_cons_zero, List.set_cons_succ, i64_w, i32_w]
    rfl
   refine pure_ (i := 23) (N := some 30) (v := ?_) (a' := ?_) #[true, true, true, true, true, true, true, true, true, true, true, true, true, true, false, true, true, true, false, false, false, false, false, true, false, false] rfl rfl (by kernel_rfl) (fun _ _ _ h => h) (Or.inl ⟨by rfl, ?_⟩) ?_ ?_
   rotate_left
   ·intro w'
    go_simp
    with_reducible rfl
   rotate_left
   ·simp only [Act.put, List.setIfInBounds_toArray, List.set_cons_zero, List.set_cons_succ, i64_w, i32_w]
    rfl
   refine take_ (i := 14) (N := some 21) (v := ?_) (a' := ?_) #[true, true, true, true, true, true, true, true, true, true, true, true, true, true, true, true, true, true, false, false, false, false, false, true, false, false] rfl rfl (by kernel_rfl) (fun _ _ _ h => h) (Or.inl ⟨by rfl, ?_⟩) hHeld ?_ ?_
   rotate_left
   ·rintro w' ⟨s0, s1, s2⟩
    go_simp
    with_reducible rfl
   rotate_left
   ·simp only [Act.put, List.setIfInBounds_toArray, List.set_cons_zero, List.set_cons_succ, i64_w, i32_w]
    rfl
   refine take_ (i := 18) (N := some 25) (v := ?_) (a' := ?_) #[true, true, true, true, true, true, true, true, true, true, true, true, true, true, true, true, true, true, true, false, false, false, false, true, false, false] rfl rfl (by kernel_rfl) (fun _ _ _ h => h) (Or.inl ⟨by rfl, ?_⟩) hHeld ?_ ?_
   rotate_left
   ·rintro w' ⟨s0, s1, s2⟩
    go_simp
    with_reducible rfl
   rotate_left
   ·simp only [Act.put, List.setIfInBounds_toArray, List.set_cons_zero, List.set_cons_succ, i64_w, i32_w]
    rfl
   refine pure_ (i := 19) (N := some 26) (v := ?_) (a' := ?_) #[true, true, true, true, true, true, true, true, true, true, true, true, true, true, true, true, true, true, true, true, false, false, false, true, false, false] rfl rfl (by kernel_rfl) (fun _ _ _ h => h) (Or.inl ⟨by rfl, ?_⟩) ?_ ?_
   rotate_left
   ·intro w'
    go_simp
    with_reducible rfl
   rotate_left
   ·simp only [Act.put, List.setIfInBounds_toArray, List.set_cons_zero, List.set_cons_succ, i64_w, i32_w]
    rfl
   refine pure_ (i := 20) (N := some 27) (v := ?_) (a' := ?_) #[true, true, true, true, true, true, true, true, true, true, true, true, true, true, true, true, true, true, true, true, true, false, false, true, false, false] rfl rfl (by kernel_rfl) (fun _ _ _ h => h) (Or.inl ⟨by rfl, ?_⟩) ?_ ?_
   rotate_left
   ·intro w'
    go_simp
    with_reducible rfl
   rotate_left
   ·simp only [Act.put, List.setIfInBounds_toArray, List.set_cons_zero, List.set_cons_succ, i64_w, i32_w]
    rfl
   refine pure_ (i := 21) (N := some 28) (v := ?_) (a' := ?_) #[true, true, true, true, true, true, true, true, true, true, true, true, true, true, true, true, true, true, true, true, true, true, false, true, false, false] rfl rfl (by kernel_rfl) (fun _ _ _ h => h) (Or.inl ⟨by rfl, ?_⟩) ?_ ?_
   rotate_left
   ·intro w'
    go_simp
    with_reducible rfl
   rotate_left
   ·simp only [Act.put, List.setIfInBounds_toArray, List.set_cons_zero, List.set_cons_succ, i64_w, i32_w]
    rfl
   refine take_ (i := 22) (N := some 29) (v := ?_) (a' := ?_) #[true, true, true, true, true, true, true, true, true, true, true, true, true, true, true, true, true, true, true, true, true, true, true, true, false, false] rfl rfl (by kernel_rfl) (fun _ _ _ h => h) (Or.inl ⟨by rfl, ?_⟩) hHeld ?_ ?_
   rotate_left
   ·rintro w' ⟨s0, s1, s2⟩
    go_simp
    with_reducible rfl
   rotate_left
   ·simp only [Act.put, List.setIfInBounds_toArray, List.set_cons_zero, List.set_cons_succ, i64_w, i32_w]
    rfl
   refine pure_ (i := 24) (N := some 31) (v := ?_) (a' := ?_) #[true, true, true, true, true, true, true, true, true, true, true, true, true, true, true, true, true, true, true, true, true, true, true, true, true, false] rfl rfl (by kernel_rfl) (fun _ _ _ h => h) (Or.inl ⟨by rfl, ?_⟩) ?_ ?_
   rotate_left
   ·intro w'
    go_simp
    with_reducible rfl
   rotate_left
   ·simp only [Act.put, List.setIfInBounds_toArray, List.set_cons_zero, List.set_cons_succ, i64_w, i32_w]
    rfl
   refine pure_ (i := 25) (N := some 32) (v := ?_) (a' := ?_) #[true, true, true, true, true, true, true, true, true, true, true, true, true, true, true, true, true, true, true, true, true, true, true, true, true, true] rfl rfl (by kernel_rfl) (fun _ _ _ h => h) (Or.inl ⟨by rfl, ?_⟩) ?_ ?_
   rotate_left
   ·intro w'
    go_simp
    with_reducible rfl
   rotate_left
   ·simp only [Act.put, List.setIfInBounds_toArray, List.set_cons_zero, List.set_cons_succ, i64_w, i32_w]
    rfl
   refine done_ (by kernel_rfl) ?_
   by_cases cz : z ≤ off
   ·have d5 : decide (z ≤ off) = true := decide_eq_true cz
    have HZO := Aside0.mk cz
    have ZF := Aside0.mk hHeld.2.2
    clear hHeld
    go_wp2_with fail
    refine (know_any _ base L m ps Rs l g tot _ S0 Ss (HST.out ▸ ZF.out.lf) (Nat.le_trans HSB.out ZF.out.bel.size) (by omega) (by omega) (by have h2 := stAt_mono Rs (i := m + 1) (j := Rs.length) (by omega); have := HMB.out.2; omega)).mono ?_
    rintro e w8 ⟨rfl, ⟨sv8, hl8⟩, hb8⟩
    have HL8 := Aside0.mk hl8
    have HB8 := Aside0.mk ((HB.out.trans (Below.mono ZF.out.bel HSB.out)).trans hb8)
    clear hl8 hb8
    go_wp2
    go_roundg (Rs.length - (m + 2))
    case measure => have := HK.out; omega
    case rel =>
     refine ⟨⟨m + 1, sv8, by omega, by omega, HL8.out, fun j h1 h2 => ?_⟩, HB8.out⟩
     by_cases e : j < m + 1
     ·exact HALL.out j h1 e
     ·obtain rfl : j = m + 1 := by omega
      rw [Nat.add_sub_cancel, HZ.out]; exact HZO.out
   ·have d5 : decide (z ≤ off) = false := decide_eq_false cz
    have HKN := Aside0.mk (show Known Rs (m0 + 1) off (m + 1) from ⟨hm0, by omega, HALL.out, .inr (by rw [Nat.add_sub_cancel, HZ.out]; omega)⟩)
    have d7 : off < z := by omega
    have ZF := Aside0.mk hHeld.2.2
    clear hHeld
    have so : IntKind.i64.wrap (off + 1) = off + 1 := by rw [IntKind.wrap_i64]; omega
    have q7 := ZF.out.c3
    have STN := Aside0.mk (show st.length ≤ 1000000 by have := HMB.out.1; have := HK.out; have := HSL.out; omega)
    go_wp2_with fail
    refine (searchInts_any _ (some ad) c1 st (off + 1) (Kd.R_reads' ZF.out.lf.starts).2.2 STN.out).mono ?_
    rintro e w8 ⟨r, rfl, r1, r2, r3, hb8⟩
    have hr0 : r ≠ 0 := by
     intro e
     subst e
     rcases r3 with h | h
     ·have := HSL.out; omega
     ·rw [← HST.out, sts_get Rs _ 0 (by omega)] at h
      simp only [stAt] at h
      omega
    obtain ⟨line, rfl⟩ : ∃ l, r = l + 1 := ⟨r - 1, by omega⟩
    have HLN := Aside0.mk (show LineOf Rs (m + 1) off line from ⟨by have := HSL.out; omega, by
      rcases r2 with h | h
      ·omega
      ·rw [Nat.add_sub_cancel, ← HST.out, sts_get Rs _ line (by have := HSL.out; omega)] at h; omega, by
      rcases r3 with h | h
      ·exact .inl (by have := HSL.out; omega)
      ·by_cases e : line + 1 = m + 1
       ·exact .inl e
       ·rw [← HST.out, sts_get Rs _ (line + 1) (by have := HSL.out; omega)] at h
        exact .inr (by omega)⟩)
    have ZG := Aside0.mk (ZF.out.below hb8)
    clear hb8 r2 r3 q7
    have hl := HLN.out.lt
    obtain ⟨ad', c1', ee, -, q7, X⟩ := ZG.out.lf.at3 line (by have := HSL.out; omega)
    injection ee with ee1 ee2 ee3
    injection ee1 with ee1
    subst ee1
    obtain ⟨y, HY⟩ : ∃ z, Aside0 (stAt Rs line = z) := ⟨_, ⟨rfl⟩⟩
    rw [← HST.out, sts_get Rs _ line (by omega), HY.out] at X
    have yb : 0 ≤ y ∧ y ≤ off := by
     rw [← HY.out]
     have := stAt_nn Rs line
     exact ⟨by omega, HLN.out.le⟩
    have lb : line ≤ 1000000 := by have := HMB.out.1; have := HK.out; have := HLN.out.lt; omega
    have t1 : IntKind.i64.wrap (((line + 1 : Nat) : Int) - 1) = (line : Int) := by have := HMB.out.1; have := HK.out; rw [IntKind.wrap_i64]; omega
    have t2 : IntKind.i64.wrap (off - y) = off - y := by rw [IntKind.wrap_i64]; omega
    have e1 : decide ((line : Int) < (st.length : Int)) = true := decide_eq_true (by have := HSL.out; omega)
    have e2 : decide (line < st.length) = true := decide_eq_true (by have := HSL.out; omega)
    have e0 : line < st.length := by have := HSL.out; omega
    have HX2 := Aside0.mk X
    have z9 : RdN w8 base L ps Rs l g st tot (.slice (some ad) st.length c1) S0 Ss w8 := ⟨ZG.out.lf, Below.refl _ _⟩
    clear X q7 ee2 ee3
    go_wp2
    refine start_ (n := 12) (S := fun w' => w'.cell? ⟨L, 3, none⟩ = some (.slice (some ad) st.length c1) ∧ w'.cell? (ad.add line) = some (.int .i64 y) ∧ RdN w8 base L ps Rs l g st tot (.slice (some ad) st.length c1) S0 Ss w') (ds := []) #[false, false, false, false, false, false, false, false, false, false, false, false] (by kernel_rfl) rfl rfl ⟨z9.drew.c3, z9.drew.cx HX2.out, z9.drew⟩ (fun hHeld => ?_)
    refine pure_ (i := 0) (N := some 43) (v := ?_) (a' := ?_) #[true, false, false, false, false, false, false, false, false, false, false, false] rfl rfl (by kernel_rfl) (fun _ _ _ h => h) (Or.inl ⟨by rfl, ?_⟩) ?_ ?_
    rotate_left
    ·intro w'
     go_simp
     with_reducible rfl
    rotate_left
    ·simp only [Act.put, List.setIfInBounds_toArray, List.set_cons_zero, List.set_cons_succ, i64_w, i32_w]
     rfl
    refine pure_ (i := 1) (N := some 44) (v := ?_) (a' := ?_) #[true, true, false, false, false, false, false, false, false, false, false, false] rfl rfl (by kernel_rfl) (fun _ _ _ h => h) (Or.inl ⟨by rfl, ?_⟩) ?_ ?_
    rotate_left
    ·intro w'
     go_simp
     with_reducible rfl
    rotate_left
    ·simp only [Act.put, List.setIfInBounds_toArray, List.set_cons_zero, List.set_cons_succ, i64_w, i32_w]
     rfl
    refine pure_ (i := 2) (N := some 45) (v := ?_) (a' := ?_) #[true, true, true, false, false, false, false, false, false, false, false, false] rfl rfl (by kernel_rfl) (fun _ _ _ h => h) (Or.inl ⟨by rfl, ?_⟩) ?_ ?_
    rotate_left
    ·intro w'
     go_simp
     with_reducible rfl
    rotate_left
    ·simp only [Act.put, List.setIfInBounds_toArray, List.set_cons_zero, List.set_cons_succ, i64_w, i32_w]
     rfl
    refine pure_ (i := 3) (N := some 46) (v := ?_) (a' := ?_) #[true, true, true, true, false, false, false, false, false, false, false, false] rfl rfl (by kernel_rfl) (fun _ _ _ h => h) (Or.inl ⟨by rfl, ?_⟩) ?_ ?_
    rotate_left
    ·intro w'
     go_simp
     with_reducible rfl
    rotate_left
    ·simp only [Act.put, List.setIfInBounds_toArray, List.set_cons_zero, List.set_cons_succ, i64_w, i32_w]
     rfl
    refine pure_ (i := 4) (N := some 47) (v := ?_) (a' := ?_) #[true, true, true, true, true, false, false, false, false, false, false, false] rfl rfl (by kernel_rfl) (fun _ _ _ h => h) (Or.inl ⟨by rfl, ?_⟩) ?_ ?_
    rotate_left
    ·intro w'
     go_simp
     with_reducible rfl
    rotate_left
    ·simp only [Act.put, List.setIfInBounds_toArray, List.set_cons_zero, List.set_cons_succ, i64_w, i32_w]
     rfl
    refine pure_ (i := 6) (N := some 49) (v := ?_) (a' := ?_) #[true, true, true, true, true, false, true, false, false, false, false, false] rfl rfl (by kernel_rfl) (fun _ _ _ h => h) (Or.inl ⟨by rfl, ?_⟩) ?_ ?_
    rotate_left
    ·intro w'
     go_simp
     with_reducible rfl
    rotate_left
    ·simp only [Act.put, List.setIfInBounds_toArray, List.set_cons_zero, List.set_cons_succ, i64_w, i32_w]
     rfl
    refine pure_ (i := 10) (N := some 4) (v := ?_) (a' := ?_) #[true, true, true, true, true, false, true, false, false, false, true, false] rfl rfl (by kernel_rfl) (fun _ _ _ h => h) (Or.inl ⟨by rfl, ?_⟩) ?_ ?_
    rotate_left
    ·intro w'
     go_simp
     with_reducible rfl
    rotate_left
    ·simp only [Act.put, List.setIfInBounds_toArray, List.set_cons_zero, List.set_cons_succ, i64_w, i32_w]
     rfl
    refine take_ (i := 5) (N := some 48) (v := ?_) (a' := ?_) #[true, true, true, true, true, true, true, false, false, false, true, false] rfl rfl (by kernel_rfl) (fun _ _ _ h => h) (Or.inl ⟨by rfl, ?_⟩) hHeld ?_ ?_
    rotate_left
    ·rintro w' ⟨s0, s1, s2⟩
     go_simp
     with_reducible rfl
    rotate_left
    ·simp only [Act.put, List.setIfInBounds_toArray, List.set_cons_zero, List.set_cons_succ, i64_w, i32_w]
     rfl
    refine pure_ (i := 7) (N := some 50) (v := ?_) (a' := ?_) #[true, true, true, true, true, true, true, true, false, false, true, false] rfl rfl (by kernel_rfl) (fun _ _ _ h => h) (Or.inl ⟨by rfl, ?_⟩) ?_ ?_
    rotate_left
    ·intro w'
     go_simp
     with_reducible rfl
    rotate_left
    ·simp only [Act.put, List.setIfInBounds_toArray, List.set_cons_zero, List.set_cons_succ, i64_w, i32_w]
     rfl
    refine take_ (i := 8) (N := some 51) (v := ?_) (a' := ?_) #[true, true, true, true, true, true, true, true, true, false, true, false] rfl rfl (by kernel_rfl) (fun _ _ _ h => h) (Or.inl ⟨by rfl, ?_⟩) hHeld ?_ ?_
    rotate_left
    ·rintro w' ⟨s0, s1, s2⟩
     go_simp
     with_reducible rfl
    rotate_left
    ·simp only [Act.put, List.setIfInBounds_toArray, List.set_cons_zero, List.set_cons_succ, i64_w, i32_w]
     rfl
    refine pure_ (i := 9) (N := some 52) (v := ?_) (a' := ?_) #[true, true, true, true, true, true, true, true, true, true, true, false] rfl rfl (by kernel_rfl) (fun _ _ _ h => h) (Or.inl ⟨by rfl, ?_⟩) ?_ ?_
    rotate_left
    ·intro w'
     go_simp
     with_reducible rfl
    rotate_left
    ·simp only [Act.put, List.setIfInBounds_toArray, List.set_cons_zero, List.set_cons_succ, i64_w, i32_w]
     rfl
    refine pure_ (i := 11) (N := some 5) (v := ?_) (a' := ?_) #[true, true, true, true, true, true, true, true, true, true, true, true] rfl rfl (by kernel_rfl) (fun _ _ _ h => h) (Or.inl ⟨by rfl, ?_⟩) ?_ ?_
    rotate_left
    ·intro w'
     go_simp
     with_reducible rfl
    rotate_left
    ·simp only [Act.put, List.setIfInBounds_toArray, List.set_cons_zero, List.set_cons_succ, i64_w, i32_w]
     rfl
    refine done_ (by kernel_rfl) ?_
    have ZH := Aside0.mk hHeld.2.2
    clear hHeld
    go_wp2
    refine bodyPost_ret (results_list (rs := [.tmp 4, .tmp 5]) rfl (by simp) (.tmp (.tmp .nil))) rfl ?_
    refine ⟨m + 1, line, _, by rw [HY.out]; rfl, HKN.out, HLN.out, by rw [HST.out]; exact ZH.out.lf, (HB.out.trans (Below.mono ZG.out.bel HSB.out)).trans (Below.mono ZH.out.bel (Nat.le_trans HSB.out ZG.out.bel.size))⟩
  ·have d3 : decide ((st.length : Int) < (Rs.length : Int)) = false := decide_eq_false (by have := HSL.out; omega)
   have d4 : decide (st.length < Rs.length) = false := decide_eq_false (by have := HSL.out; omega)
   have d6 : ¬ st.length < Rs.length := by have := HSL.out; omega
   have HKN := Aside0.mk (show Known Rs (m0 + 1) off (m + 1) from ⟨hm0, by have := HK.out; omega, HALL.out, .inl (by have := HK.out; omega)⟩)
   go_wp2
   refine start_ (n := 26) (S := fun w' => w'.cell? ⟨L, 3, none⟩ = some (.slice (some ad) st.length c1) ∧ w'.cell? (ad.add m) = some (.int .i64 z) ∧ RdN wr base L ps Rs l g st tot (.slice (some ad) st.length c1) S0 Ss w') (ds := []) #[false, false, false, false, false, false, false, false, false, false, false, false, false, false, false, false, false, false, false, false, false, false, false, false, false, false] (by kernel_rfl) rfl rfl ⟨z9.drew.c3, z9.drew.cx HX.out, z9.drew⟩ (fun hHeld => ?_)
   refine pure_ (i := 0) (N := some 7) (v := ?_) (a' := ?_) #[true, false, false, false, false, false, false, false, false, false, false, false, false, false, false, false, false, false, false, false, false, false, false, false, false, false] rfl rfl (by kernel_rfl) (fun _ _ _ h => h) (Or.inl ⟨by rfl, ?_⟩) ?_ ?_
   rotate_left
   ·intro w'
    go_simp
    with_reducible rfl
   rotate_left
   ·simp only [Act.put, List.setIfInBounds_toArray, List.set_cons_zero, List.set_cons_succ, i64_w, i32_w]
    rfl
   refine pure_ (i := 1) (N := some 8) (v := ?_) (a' := ?_) #[true, true, false, false, false, false, false, false, false, false, false, false, false, false, false, false, false, false, false, false, false, false, false, false, false, false] rfl rfl (by kernel_rfl) (fun _ _ _ h => h) (Or.inl ⟨by rfl, ?_⟩) ?_ ?_
   rotate_left
   ·intro w'
    go_simp
    with_reducible rfl
   rotate_left
   ·simp only [Act.put, List.setIfInBounds_toArray, List.set_cons_zero, List.set_cons_succ, i64_w, i32_w]
    rfl
   refine pure_ (i := 2) (N := some 9) (v := ?_) (a' := ?_) #[true, true, true, false, false, false, false, false, false, false, false, false, false, false, false, false, false, false, false, false, false, false, false, false, false, false] rfl rfl (by kernel_rfl) (fun _ _ _ h => h) (Or.inl ⟨by rfl, ?_⟩) ?_ ?_
   rotate_left
   ·intro w'
    go_simp
    with_reducible rfl
   rotate_left
   ·simp only [Act.put, List.setIfInBounds_toArray, List.set_cons_zero, List.set_cons_succ, i64_w, i32_w]
    rfl
   refine pure_ (i := 5) (N := some 12) (v := ?_) (a' := ?_) #[true, true, true, false, false, true, false, false, false, false, false, false, false, false, false, false, false, false, false, false, false, false, false, false, false, false] rfl rfl (by kernel_rfl) (fun _ _ _ h => h) (Or.inl ⟨by rfl, ?_⟩) ?_ ?_
   rotate_left
   ·intro w'
    go_simp
    with_reducible rfl
   rotate_left
   ·simp only [Act.put, List.setIfInBounds_toArray, List.set_cons_zero, List.set_cons_succ, i64_w, i32_w]
    rfl
   refine pure_ (i := 6) (N := some 13) (v := ?_) (a' := ?_) #[true, true, true, false, false, true, true, false, false, false, false, false, false, false, false, false, false, false, false, false, false, false, false, false, false, false] rfl rfl (by kernel_rfl) (fun _ _ _ h => h) (Or.inl ⟨by rfl, ?_⟩) ?_ ?_
   rotate_left
   ·intro w'
    go_simp
    with_reducible rfl
   rotate_left
   ·simp only [Act.put, List.setIfInBounds_toArray, List.set_cons_zero, List.set_cons_succ, i64_w, i32_w]
    rfl
   refine pure_ (i := 7) (N := some 14) (v := ?_) (a' := ?_) #[true, true, true, false, false, true, true, true, false, false, false, false, false, false, false, false, false, false, false, false, false, false, false, false, false, false] rfl rfl (by kernel_rfl) (fun _ _ _ h => h) (Or.inl ⟨by rfl, ?_⟩) ?_ ?_
   rotate_left
   ·intro w'
    go_simp
    with_reducible rfl
   rotate_left
   ·simp only [Act.put, List.setIfInBounds_toArray, List.set_cons_zero, List.set_cons_succ, i64_w, i32_w]
    rfl
   refine take_ (i := 3) (N := some 10) (v := ?_) (a' := ?_) #[true, true, true, true, false, true, true, true, false, false, false, false, false, false, false, false, false, false, false, false, false, false, false, false, false, false] rfl rfl (by kernel_rfl) (fun _ _ _ h => h) (Or.inl ⟨by rfl, ?_⟩) hHeld ?_ ?_
   rotate_left
   ·rintro w' ⟨s0, s1, s2⟩
    go_simp
    with_reducible rfl
   rotate_left
   ·simp only [Act.put, List.setIfInBounds_toArray, List.set_cons_zero, List.set_cons_succ, i64_w, i32_w]
    rfl
   refine pure_ (i := 4) (N := some 11) (v := ?_) (a' := ?_) #[true, true, true, true, true, true, true, true, false, false, false, false, false, false, false, false, false, false, false, false, false, false, false, false, false, false] rfl rfl (by kernel_rfl) (fun _ _ _ h => h) (Or.inl ⟨by rfl, ?_⟩) ?_ ?_
   rotate_left
   ·intro w'
    go_simp
    with_reducible rfl
   rotate_left
   ·simp only [Act.put, List.setIfInBounds_toArray, List.set_cons_zero, List.set_cons_succ, i64_w, i32_w]
    rfl
   refine one_ (i := 8) (N := some 15) #[true, true, true, true, true, true, true, true, true, false, false, false, false, false, false, false, false, false, false, false, false, false, false, false, false, false] rfl rfl (by kernel_rfl) (by decide) (fun K hK => ?_)
   refine goes_ Tryd.func59 (by kernel_rfl) rfl #[.pointer (some ⟨L, 0, none⟩)] (by rfl) rfl rfl (by simp only [List.map_toArray, List.map_cons, List.map_nil]; rfl) ?_
   with_reducible refine (hHeld.2.2.lf.rows_any).mono ?_
   rintro e w3 ⟨rfl, hb⟩
   refine ⟨_, rfl, ?_⟩
   have z10 := RdN.below hHeld.2.2 hb
   clear hb
   refine hK.out _ _ ⟨z10.c3, z10.cx HX.out, z10⟩ (fun hHeld => ?_)
   clear hK K
   refine norm_ (a' := ?_) ?_ ?_
   rotate_left
   ·show Act.put _ (some 15) _ = _
    simp only [Act.put, List.setIfInBounds_toArray, List.set_cons_zero, List.set_cons_succ, i64_w, i32_w]
    rfl
   refine pure_ (i := 9) (N := some 16) (v := ?_) (a' := ?_) #[true, true, true, true, true, true, true, true, true, true, false, false, false, false, false, false, false, false, false, false, false, false, false, false, false, false] rfl rfl (by kernel_rfl) (fun _ _ _ h => h) (Or.inl ⟨by rfl, ?_⟩) ?_ ?_
   rotate_left
   ·intro w'
    go_simp
    with_reducible rfl
   rotate_left
   ·simp only [Act.put, List.setIfInBounds_toArray, List.set_cons_zero, List.set_cons_succ, i64_w, i32_w]
    rfl
   refine pure_ (i := 10) (N := some 17) (v := ?_) (a' := ?_) #[true, true, true, true, true, true, true, true, true, true, true, false, false, false, false, false, false, false, false, false, false, false, false, false, false, false] rfl rfl (by kernel_rfl) (fun _ _ _ h => h) (Or.inl ⟨by rfl, ?_⟩) ?_ ?_
   rotate_left
   ·intro w'
    go_simp
    with_reducible rfl
   rotate_left
   ·simp only [Act.put, List.setIfInBounds_toArray, List.set_cons_zero, List.set_cons_succ, i64_w, i32_w]
    rfl
   refine pure_ (i := 11) (N := some 18) (v := undef) (a' := ?_) #[true, true, true, true, true, true, true, true, true, true, true, true, false, false, false, false, false, false, false, false, false, false, false, false, false, false] rfl rfl (by kernel_rfl) (fun _ _ _ h => h) (Or.inr ⟨by rfl, rfl⟩) ?_ ?_
   rotate_left
   ·simp only [Act.put, List.setIfInBounds_toArray, List.set_cons_zero, List.set_cons_succ, i64_w, i32_w]
    rfl
   refine pure_ (i := 12) (N := some 19) (v := undef) (a' := ?_) #[true, true, true, true, true, true, true, true, true, true, true, true, true, false, false, false, false, false, false, false, false, false, false, false, false, false] rfl rfl (by kernel_rfl) (fun _ _ _ h => h) (Or.inr ⟨by rfl, rfl⟩) ?_ ?_
   rotate_left
   ·simp only [Act.put, List.setIfInBounds_toArray, List.set_cons_zero, List.set_cons_succ, i64_w, i32_w]
    rfl
   refine pure_ (i := 13) (N := some 20) (v := undef) (a' := ?_) #[true, true, true, true, true, true, true, true, true, true, true, true, true, true, false, false, false, false, false, false, false, false, false, false, false, false] rfl rfl (by kernel_rfl) (fun _ _ _ h => h) (Or.inr ⟨by rfl, rfl⟩) ?_ ?_
   rotate_left
   ·simp only [Act.put, List.setIfInBounds_toArray, List.set_cons_zero, List.set_cons_succ, i64_w, i32_w]
    rfl
   refine pure_ (i := 14) (N := some 21) (v := undef) (a' := ?_) #[true, true, true, true, true, true, true, true, true, true, true, true, true, true, true, false, false, false, false, false, false, false, false, false, false, false] rfl rfl (by kernel_rfl) (fun _ _ _ h => h) (Or.inr ⟨by rfl, rfl⟩) ?_ ?_
   rotate_left
   ·simp only [Act.put, List.setIfInBounds_toArray, List.set_cons_zero, List.set_cons_succ, i64_w, i32_w]
    rfl
   refine pure_ (i := 15) (N := some 22) (v := undef) (a' := ?_) #[true, true, true, true, true, true, true, true, true, true, true, true, true, true, true, true, false, false, false, false, false, false, false, false, false, false] rfl rfl (by kernel_rfl) (fun _ _ _ h => h) (Or.inr ⟨by rfl, rfl⟩) ?_ ?_
   rotate_left
   ·simp only [Act.put, List.setIfInBounds_toArray, List.set_cons_zero, List.set_cons_succ, i64_w, i32_w]
    rfl
   refine pure_ (i := 16) (N := some 23) (v := undef) (a' := ?_) #[true, true, true, true, true, true, true, true, true, true, true, true, true, true, true, true, true, false, false, false, false, false, false, false, false, false] rfl rfl (by kernel_rfl) (fun _ _ _ h => h) (Or.inr ⟨by rfl, rfl⟩) ?_ ?_
   rotate_left
   ·simp only [Act.put, List.setIfInBounds_toArray, List.set_cons_zero, List.set_cons_succ, i64_w, i32_w]
    rfl
   refine pure_ (i := 17) (N := some 24) (v := undef) (a' := ?_) #[true, true, true, true, true, true, true, true, true, true, true, true, true, true, true, true, true, true, false, false, false, false, false, false, false, false] rfl rfl (by kernel_rfl) (fun _ _ _ h => h) (Or.inr ⟨by rfl, rfl⟩) ?_ ?_
   rotate_left
   ·simp only [Act.put, List.setIfInBounds_toArray, List.set_cons_zero, List.set_cons_succ, i64_w, i32_w]
    rfl
   refine pure_ (i := 18) (N := some 25) (v := undef) (a' := ?_) #[true, true, true, true, true, true, true, true, true, true, true, true, true, true, true, true, true, true, true, false, false, false, false, false, false, false] rfl rfl (by kernel_rfl) (fun _ _ _ h => h) (Or.inr ⟨by rfl, rfl⟩) ?_ ?_
   rotate_left
   ·simp only [Act.put, List.setIfInBounds_toArray, List.set_cons_zero, List.set_cons_succ, i64_w, i32_w]
    rfl
   refine pure_ (i := 19) (N := some 26) (v := undef) (a' := ?_) #[true, true, true, true, true, true, true, true, true, true, true, true, true, true, true, true, true, true, true, true, false, false, false, false, false, false] rfl rfl (by kernel_rfl) (fun _ _ _ h => h) (Or.inr ⟨by rfl, rfl⟩) ?_ ?_
   rotate_left
   ·simp only [Act.put, List.setIfInBounds_toArray, List.set_cons_zero, List.set_cons_succ, i64_w, i32_w]
    rfl
   refine pure_ (i := 20) (N := some 27) (v := undef) (a' := ?_) #[true, true, true, true, true, true, true, true, true, true, true, true, true, true, true, true, true, true, true, true, true, false, false, false, false, false] rfl rfl (by kernel_rfl) (fun _ _ _ h => h) (Or.inr ⟨by rfl, rfl⟩) ?_ ?_
   rotate_left
   ·simp only [Act.put, List.setIfInBounds_toArray, List.set_cons_zero, List.set_cons_succ, i64_w, i32_w]
    rfl
   refine pure_ (i := 21) (N := some 28) (v := undef) (a' := ?_) #[true, true, true, true, true, true, true, true, true, true, true, true, true, true, true, true, true, true, true, true, true, true, false, false, false, false] rfl rfl (by kernel_rfl) (fun _ _ _ h => h) (Or.inr ⟨by rfl, rfl⟩) ?_ ?_
   rotate_left
   ·simp only [Act.put, List.setIfInBounds_toArray, List.set_cons_zero, List.set_cons_succ, i64_w, i32_w]
    rfl
   refine pure_ (i := 22) (N := some 29) (v := undef) (a' := ?_) #[true, true, true, true, true, true, true, true, true, true, true, true, true, true, true, true, true, true, true, true, true, true, true, false, false, false] rfl rfl (by kernel_rfl) (fun _ _ _ h => h) (Or.inr ⟨by rfl, rfl⟩) ?_ ?_
   rotate_left
   ·simp only [Act.put, List.setIfInBounds_toArray, List.set_cons_zero, List.set_cons_succ, i64_w, i32_w]
    rfl
   refine pure_ (i := 23) (N := some 30) (v := undef) (a' := ?_) #[true, true, true, true, true, true, true, true, true, true, true, true, true, true, true, true, true, true, true, true, true, true, true, true, false, false] rfl rfl (by kernel_rfl) (fun _ _ _ h => h) (Or.inr ⟨by rfl, rfl⟩) ?_ ?_
   rotate_left
   ·simp only [Act.put, List.setIfInBounds_toArray, List.set_cons_zero, List.set_cons_succ, i64_w, i32_w]
    rfl
   refine pure_ (i := 24) (N := some 31) (v := undef) (a' := ?_) #[true, true, true, true, true, true, true, true, true, true, true, true, true, true, true, true, true, true, true, true, true, true, true, true, true, false] rfl rfl (by kernel_rfl) (fun _ _ _ h => h) (Or.inr ⟨by rfl, rfl⟩) ?_ ?_
   rotate_left
   ·simp only [Act.put, List.setIfInBounds_toArray, List.set_cons_zero, List.set_cons_succ, i64_w, i32_w]
    rfl
   refine pure_ (i := 25) (N := some 32) (v := ?_) (a' := ?_) #[true, true, true, true, true, true, true, true, true, true, true, true, true, true, true, true, true, true, true, true, true, true, true, true, true, true] rfl rfl (by kernel_rfl) (fun _ _ _ h => h) (Or.inl ⟨by rfl, ?_⟩) ?_ ?_
   rotate_left
   ·intro w'
    go_simp
    with_reducible rfl
   rotate_left
   ·simp only [Act.put, List.setIfInBounds_toArray, List.set_cons_zero, List.set_cons_succ, i64_w, i32_w]
    rfl
   refine done_ (by kernel_rfl) ?_
   have ZF := Aside0.mk hHeld.2.2
   clear hHeld
   have so : IntKind.i64.wrap (off + 1) = off + 1 := by rw [IntKind.wrap_i64]; omega
   have q7 := ZF.out.c3
   have STN := Aside0.mk (show st.length ≤ 1000000 by have := HMB.out.1; have := HK.out; have := HSL.out; omega)
   go_wp2_with fail
   refine (searchInts_any _ (some ad) c1 st (off + 1) (Kd.R_reads' ZF.out.lf.starts).2.2 STN.out).mono ?_
   rintro e w8 ⟨r, rfl, r1, r2, r3, hb8⟩
   have hr0 : r ≠ 0 := by
    intro e
    subst e
    rcases r3 with h | h
    ·have := HSL.out; omega
    ·rw [← HST.out, sts_get Rs _ 0 (by omega)] at h
     simp only [stAt] at h
     omega
   obtain ⟨line, rfl⟩ : ∃ l, r = l + 1 := ⟨r - 1, by omega⟩
   have HLN := Aside0.mk (show LineOf Rs (m + 1) off line from ⟨by have := HSL.out; omega, by
     rcases r2 with h | h
     ·omega
     ·rw [Nat.add_sub_cancel, ← HST.out, sts_get Rs _ line (by have := HSL.out; omega)] at h; omega, by
     rcases r3 with h | h
     ·exact .inl (by have := HSL.out; omega)
     ·by_cases e : line + 1 = m + 1
      ·exact .inl e
      ·rw [← HST.out, sts_get Rs _ (line + 1) (by have := HSL.out; omega)] at h
       exact .inr (by omega)⟩)
   have ZG := Aside0.mk (ZF.out.below hb8)
   clear hb8 r2 r3 q7
   have hl := HLN.out.lt
   obtain ⟨ad', c1', ee, -, q7, X⟩ := ZG.out.lf.at3 line (by have := HSL.out; omega)
   injection ee with ee1 ee2 ee3
   injection ee1 with ee1
   subst ee1
   obtain ⟨y, HY⟩ : ∃ z, Aside0 (stAt Rs line = z) := ⟨_, ⟨rfl⟩⟩
   rw [← HST.out, sts_get Rs _ line (by omega), HY.out] at X
   have yb : 0 ≤ y ∧ y ≤ off := by
    rw [← HY.out]
    have := stAt_nn Rs line
    exact ⟨by omega, HLN.out.le⟩
   have lb : line ≤ 1000000 := by have := HMB.out.1; have := HK.out; have := HLN.out.lt; omega
   have t1 : IntKind.i64.wrap (((line + 1 : Nat) : Int) - 1) = (line : Int) := by have := HMB.out.1; have := HK.out; rw [IntKind.wrap_i64]; omega
   have t2 : IntKind.i64.wrap (off - y) = off - y := by rw [IntKind.wrap_i64]; omega
   have e1 : decide ((line : Int) < (st.length : Int)) = true := decide_eq_true (by have := HSL.out; omega)
   have e2 : decide (line < st.length) = true := decide_eq_true (by have := HSL.out; omega)
   have e0 : line < st.length := by have := HSL.out; omega
   have HX2 := Aside0.mk X
   have z9 : RdN w8 base L ps Rs l g st tot (.slice (some ad) st.length c1) S0 Ss w8 := ⟨ZG.out.lf, Below.refl _ _⟩
   clear X q7 ee2 ee3
   go_wp2
   refine start_ (n := 12) (S := fun w' => w'.cell? ⟨L, 3, none⟩ = some (.slice (some ad) st.length c1) ∧ w'.cell? (ad.add line) = some (.int .i64 y) ∧ RdN w8 base L ps Rs l g st tot (.slice (some ad) st.length c1) S0 Ss w') (ds := []) #[false, false, false, false, false, false, false, false, false, false, false, false] (by kernel_rfl) rfl rfl ⟨z9.drew.c3, z9.drew.cx HX2.out, z9.drew⟩ (fun hHeld => ?_)
   refine pure_ (i := 0) (N := some 43) (v := ?_) (a' := ?_) #[true, false, false, false, false, false, false, false, false, false, false, false] rfl rfl (by kernel_rfl) (fun _ _ _ h => h) (Or.inl ⟨by rfl, ?_⟩) ?_ ?_
   rotate_left
   ·intro w'
    go_simp
    with_reducible rfl
   rotate_left
   ·simp only [Act.put, List.setIfInBounds_toArray, List.set_cons_zero, List.set_cons_succ, i64_w, i32_w]
    rfl
   refine pure_ (i := 1) (N := some 44) (v := ?_) (a' := ?_) #[true, true, false, false, false, false, false, false, false, false, false, false] rfl rfl (by kernel_rfl) (fun _ _ _ h => h) (Or.inl ⟨by rfl, ?_⟩) ?_ ?_
   rotate_left
   ·intro w'
    go_simp
    with_reducible rfl
   rotate_left
   ·simp only [Act.put, List.setIfInBounds_toArray, List.set_cons_zero, List.set_cons_succ, i64_w, i32_w]
    rfl
   refine pure_ (i := 2) (N := some 45) (v := ?_) (a' := ?_) #[true, true, true, false, false, false, false, false, false, false, false, false] rfl rfl (by kernel_rfl) (fun _ _ _ h => h) (Or.inl ⟨by rfl, ?_⟩) ?_ ?_
   rotate_left
   ·intro w'
    go_simp
    with_reducible rfl
   rotate_left
   ·simp only [Act.put, List.setIfInBounds_toArray, List.set_cons_zero, List.set_cons_succ, i64_w, i32_w]
    rfl
   refine pure_ (i := 3) (N := some 46) (v := ?_) (a' := ?_) #[true, true, true, true, false, false, false, false, false, false, false, false] rfl rfl (by kernel_rfl) (fun _ _ _ h => h) (Or.inl ⟨by rfl, ?_⟩) ?_ ?_
   rotate_left
   ·intro w'
    go_simp
    with_reducible rfl
   rotate_left
   ·simp only [Act.put, List.setIfInBounds_toArray, List.set_cons_zero, List.set_cons_succ, i64_w, i32_w]
    rfl
   refine pure_ (i := 4) (N := some 47) (v := ?_) (a' := ?_) #[true, true, true, true, true, false, false, false, false, false, false, false] rfl rfl (by kernel_rfl) (fun _ _ _ h => h) (Or.inl ⟨by rfl, ?_⟩) ?_ ?_
   rotate_left
   ·intro w'
    go_simp
    with_reducible rfl
   rotate_left
   ·simp only [Act.put, List.setIfInBounds_toArray, List.set_cons_zero, List.set_cons_succ, i64_w, i32_w]
    rfl
   refine pure_ (i := 6) (N := some 49) (v := ?_) (a' := ?_) #[true, true, true, true, true, false, true, false, false, false, false, false] rfl rfl (by kernel_rfl) (fun _ _ _ h => h) (Or.inl ⟨by rfl, ?_⟩) ?_ ?_
   rotate_left
   ·intro w'
    go_simp
    with_reducible rfl
   rotate_left
   ·simp only [Act.put, List.setIfInBounds_toArray, List.set_cons_zero, List.set_cons_succ, i64_w, i32_w]
    rfl
   refine pure_ (i := 10) (N := some 4) (v := ?_) (a' := ?_) #[true, true, true, true, true, false, true, false, false, false, true, false] rfl rfl (by kernel_rfl) (fun _ _ _ h => h) (Or.inl ⟨by rfl, ?_⟩) ?_ ?_
   rotate_left
   ·intro w'
    go_simp
    with_reducible rfl
   rotate_left
   ·simp only [Act.put, List.setIfInBounds_toArray, List.set_cons_zero, List.set_cons_succ, i64_w, i32_w]
    rfl
   refine take_ (i := 5) (N := some 48) (v := ?_) (a' := ?_) #[true, true, true, true, true, true, true, false, false, false, true, false] rfl rfl (by kernel_rfl) (fun _ _ _ h => h) (Or.inl ⟨by rfl, ?_⟩) hHeld ?_ ?_
   rotate_left
   ·rintro w' ⟨s0, s1, s2⟩
    go_simp
    with_reducible rfl
   rotate_left
   ·simp only [Act.put, List.setIfInBounds_toArray, List.set_cons_zero, List.set_cons_succ, i64_w, i32_w]
    rfl
   refine pure_ (i := 7) (N := some 50) (v := ?_) (a' := ?_) #[true, true, true, true, true, true, true, true, false, false, true, false] rfl rfl (by kernel_rfl) (fun _ _ _ h => h) (Or.inl ⟨by rfl, ?_⟩) ?_ ?_
   rotate_left
   ·intro w'
    go_simp
    with_reducible rfl
   rotate_left
   ·simp only [Act.put, List.setIfInBounds_toArray, List.set_cons_zero, List.set_cons_succ, i64_w, i32_w]
    rfl
   refine take_ (i := 8) (N := some 51) (v := ?_) (a' := ?_) #[true, true, true, true, true, true, true, true, true, false, true, false] rfl rfl (by kernel_rfl) (fun _ _ _ h => h) (Or.inl ⟨by rfl, ?_⟩) hHeld ?_ ?_
   rotate_left
   ·rintro w' ⟨s0, s1, s2⟩
    go_simp
    with_reducible rfl
   rotate_left
   ·simp only [Act.put, List.setIfInBounds_toArray, List.set_cons_zero, List.set_cons_succ, i64_w, i32_w]
    rfl
   refine pure_ (i := 9) (N := some 52) (v := ?_) (a' := ?_) #[true, true, true, true, true, true, true, true, true, true, true, false] rfl rfl (by kernel_rfl) (fun _ _ _ h => h) (Or.inl ⟨by rfl, ?_⟩) ?_ ?_
   rotate_left
   ·intro w'
    go_simp
    with_reducible rfl
   rotate_left
   ·simp only [Act.put, List.setIfInBounds_toArray, List.set_cons_zero, List.set_cons_succ, i64_w, i32_w]
    rfl
   refine pure_ (i := 11) (N := some 5) (v := ?_) (a' := ?_) #[true, true, true, true, true, true, true, true, true, true, true, true] rfl rfl (by kernel_rfl) (fun _ _ _ h => h) (Or.inl ⟨by rfl, ?_⟩) ?_ ?_
   rotate_left
   ·intro w'
    go_simp
    with_reducible rfl
   rotate_left
   ·simp only [Act.put, List.setIfInBounds_toArray, List.set_cons_zero, List.set_cons_succ, i64_w, i32_w]
    rfl
   refine done_ (by kernel_rfl) ?_
   have ZH := Aside0.mk hHeld.2.2
   clear hHeld
   go_wp2
   refine bodyPost_ret (results_list (rs := [.tmp 4, .tmp 5]) rfl (by simp) (.tmp (.tmp .nil))) rfl ?_
   refine ⟨m + 1, line, _, by rw [HY.out]; rfl, HKN.out, HLN.out, by rw [HST.out]; exact ZH.out.lf, (HB.out.trans (Below.mono ZG.out.bel HSB.out)).trans (Below.mono ZH.out.bel (Nat.le_trans HSB.out ZG.out.bel.size))⟩
end Go.Proofs.YtamcacahjlaogaaDoor.Ln
