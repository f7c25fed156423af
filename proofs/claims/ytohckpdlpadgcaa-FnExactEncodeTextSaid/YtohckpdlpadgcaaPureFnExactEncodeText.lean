/- For every list of 32-bit numbers the law FnExactEncodeText tells true. No condition. -/
import Derived.Test.YtohckpdlpadgcaaPFnExactEncodeTextx3
import Derived.OpenShut
namespace Go.Proofs.Ytohckpdlpadgcaa.Pure
open Go Go.RowKit Go.Proofs.Ytohckpdlpadgcaa.PFnExactEncodeText Go.Proofs.YtohckpdlpadgcaaW.PrintWords Go.Proofs.YtohckpdlpadgcaaW.PrintLast

theorem w64 {x : Int} (h : -9223372036854775808 ≤ x ∧ x ≤ 9223372036854775807) : wrap64 x = x := by unfold wrap64; omega
theorem ev_now {α : Type} {g : Nat → Option α} {r : α} (h : ∀ k, g (k + 1) = some r) : Ev g r :=
  ⟨1, fun k hk => by obtain ⟨m, rfl⟩ : ∃ m, k = m + 1 := ⟨k - 1, by omega⟩; exact h m⟩
theorem ev_const {α : Type} {g : Nat → Option α} {r : α} (h : ∀ k, g k = some r) : Ev g r := ⟨0, fun k _ => h k⟩
theorem rd_at (xs : List Int) (i : Nat) (h : i < xs.length) : rd xs (i : Int) = xs[i] := by
  unfold rd; simp [List.getD, h]
def mk (f : Int → Int) (k : Int) (n : Nat) : List Int := (List.range n).map fun j => f (k + (j : Nat))
theorem mk_length (f : Int → Int) (k : Int) (n : Nat) : (mk f k n).length = n := by simp [mk]
theorem mk_get (f : Int → Int) (k : Int) (n i : Nat) (h : i < n) : rd (mk f k n) (i : Int) = f (k + i) := by
  rw [rd_at _ _ (by simpa [mk] using h)]; simp [mk]

theorem toInt32S_loop (xs : List Int) (hn : xs.length ≤ 1048576) (d : Nat) : ∀ i : Nat, i + d = xs.length →
    Ev (fun k => laws_toInt32S.l0 k xs (xs.take i ++ List.replicate d 0) (i : Int)) xs := by
  induction d with
  | zero =>
    intro i hi
    obtain rfl : i = xs.length := by omega
    refine ev_now fun k => ?_
    simp only [laws_toInt32S.l0]
    rw [if_neg (by omega)]
    simp
  | succ d ih =>
    intro i hi
    have hlt : i < xs.length := by omega
    refine Ev.step (f := fun k => laws_toInt32S.l0 k xs (xs.take (i + 1) ++ List.replicate d 0) ((i + 1 : Nat) : Int)) (fun k => ?_) (ih (i + 1) (by omega))
    simp only [laws_toInt32S.l0]
    rw [if_pos (by omega), if_pos (by omega), if_pos (by simp; omega), w64 (by omega)]
    congr 1
    · rw [rd_at xs i hlt, Int.toNat_natCast, List.set_append_right _ _ (by simp; omega)]
      rw [show i - (xs.take i).length = 0 by simp; omega, List.replicate_succ, List.set_cons_zero, List.take_succ_eq_append_getElem hlt, List.append_assoc]; rfl
theorem toInt32S_ev (xs : List Int) (hn : xs.length ≤ 1048576) : Ev (fun k => laws_toInt32S.f k xs) xs := by
  unfold laws_toInt32S.f
  have h := toInt32S_loop xs hn xs.length 0 (by omega)
  simp only [List.take_zero, List.nil_append] at h
  refine Ev.congr (f := fun k => laws_toInt32S.l0 k xs (List.replicate xs.length 0) ((0 : Nat) : Int)) (fun k => ?_) h
  rw [if_pos (by omega), if_pos (by omega)]; rfl

theorem eqByteS_loop (xs : List Int) (hn : xs.length ≤ 9000000) (d : Nat) : ∀ i : Nat, i + d = xs.length →
    Ev (fun k => laws_eqByteS.l0 k xs xs (i : Int)) true := by
  induction d with
  | zero => intro i hi; refine ev_now fun k => ?_; simp only [laws_eqByteS.l0]; rw [if_neg (by omega)]
  | succ d ih =>
    intro i hi
    refine Ev.step (f := fun k => laws_eqByteS.l0 k xs xs ((i + 1 : Nat) : Int)) (fun k => ?_) (ih (i + 1) (by omega))
    simp only [laws_eqByteS.l0]
    rw [if_pos (by omega), if_pos (by omega), if_pos (by omega), w64 (by omega), if_pos (by first | rfl | trivial)]; rfl
theorem eqByteS_ev (xs : List Int) (hn : xs.length ≤ 9000000) : Ev (fun k => laws_eqByteS.f k xs xs) true := by
  unfold laws_eqByteS.f
  refine Ev.congr (f := fun k => laws_eqByteS.l0 k xs xs ((0 : Nat) : Int)) (fun k => ?_) (eqByteS_loop xs hn xs.length 0 (by omega))
  rw [if_pos rfl]; rfl

theorem eqInt32S_loop (xs : List Int) (hn : xs.length ≤ 9000000) (d : Nat) : ∀ i : Nat, i + d = xs.length →
    Ev (fun k => laws_eqInt32S.l0 k xs xs (i : Int)) true := by
  induction d with
  | zero => intro i hi; refine ev_now fun k => ?_; simp only [laws_eqInt32S.l0]; rw [if_neg (by omega)]
  | succ d ih =>
    intro i hi
    refine Ev.step (f := fun k => laws_eqInt32S.l0 k xs xs ((i + 1 : Nat) : Int)) (fun k => ?_) (ih (i + 1) (by omega))
    simp only [laws_eqInt32S.l0]
    rw [if_pos (by omega), if_pos (by omega), if_pos (by omega), w64 (by omega), if_pos (by first | rfl | trivial)]; rfl
theorem eqInt32S_ev (xs : List Int) (hn : xs.length ≤ 9000000) : Ev (fun k => laws_eqInt32S.f k xs xs) true := by
  unfold laws_eqInt32S.f
  refine Ev.congr (f := fun k => laws_eqInt32S.l0 k xs xs ((0 : Nat) : Int)) (fun k => ?_) (eqInt32S_loop xs hn xs.length 0 (by omega))
  rw [if_pos rfl]; rfl

theorem markInt32S_loop (xs : List Int) (hn : xs.length ≤ 9000000) (d : Nat) : ∀ i : Nat, i + d = xs.length →
    Ev (fun k => laws_markInt32S.l0 k (mk (fun x => wrap32 (x)) 1 i ++ xs.drop i) (1 + i) (i : Int)) (1 + (xs.length : Int), mk (fun x => wrap32 (x)) 1 xs.length) := by
  induction d with
  | zero =>
    intro i hi
    obtain rfl : i = xs.length := by omega
    refine ev_now fun k => ?_
    simp only [laws_markInt32S.l0]
    rw [if_neg (by simp [mk_length])]
    simp
  | succ d ih =>
    intro i hi
    have hlt : i < xs.length := by omega
    refine Ev.step (f := fun k => laws_markInt32S.l0 k (mk (fun x => wrap32 (x)) 1 (i + 1) ++ xs.drop (i + 1)) (1 + ((i + 1 : Nat) : Int)) ((i + 1 : Nat) : Int)) (fun k => ?_) (ih (i + 1) (by omega))
    simp only [laws_markInt32S.l0]
    rw [if_pos (by simp [mk_length]; omega), if_pos (by omega), w64 (by omega), w64 (by omega)]
    congr 1
    · rw [Int.toNat_natCast, List.set_append_right _ _ (by simp [mk_length]), mk_length, Nat.sub_self, List.drop_eq_getElem_cons hlt, List.set_cons_zero]
      simp [mk, List.range_succ]
theorem markInt32S_ev (xs : List Int) (hn : xs.length ≤ 9000000) : Ev (fun k => laws_markInt32S.f k xs 1) (1 + (xs.length : Int), mk (fun x => wrap32 (x)) 1 xs.length) := by
  unfold laws_markInt32S.f
  have h := markInt32S_loop xs hn xs.length 0 (by omega)
  exact Ev.congr (fun k => by simp [mk]) h

theorem markByteS_loop (xs : List Int) (hn : xs.length ≤ 9000000) (d : Nat) : ∀ i : Nat, i + d = xs.length →
    Ev (fun k => laws_markByteS.l0 k (mk (fun x => (x) % 256) 1 i ++ xs.drop i) (1 + i) (i : Int)) (1 + (xs.length : Int), mk (fun x => (x) % 256) 1 xs.length) := by
  induction d with
  | zero =>
    intro i hi
    obtain rfl : i = xs.length := by omega
    refine ev_now fun k => ?_
    simp only [laws_markByteS.l0]
    rw [if_neg (by simp [mk_length])]
    simp
  | succ d ih =>
    intro i hi
    have hlt : i < xs.length := by omega
    refine Ev.step (f := fun k => laws_markByteS.l0 k (mk (fun x => (x) % 256) 1 (i + 1) ++ xs.drop (i + 1)) (1 + ((i + 1 : Nat) : Int)) ((i + 1 : Nat) : Int)) (fun k => ?_) (ih (i + 1) (by omega))
    simp only [laws_markByteS.l0]
    rw [if_pos (by simp [mk_length]; omega), if_pos (by omega), w64 (by omega), w64 (by omega)]
    congr 1
    · rw [Int.toNat_natCast, List.set_append_right _ _ (by simp [mk_length]), mk_length, Nat.sub_self, List.drop_eq_getElem_cons hlt, List.set_cons_zero]
      simp [mk, List.range_succ]
theorem markByteS_ev (xs : List Int) (hn : xs.length ≤ 9000000) : Ev (fun k => laws_markByteS.f k xs 1) (1 + (xs.length : Int), mk (fun x => (x) % 256) 1 xs.length) := by
  unfold laws_markByteS.f
  have h := markByteS_loop xs hn xs.length 0 (by omega)
  exact Ev.congr (fun k => by simp [mk]) h

theorem heldByteS_loop (n : Nat) (hn : n ≤ 9000000) (d : Nat) : ∀ i : Nat, i + d = n →
    Ev (fun k => laws_heldByteS.l0 k (mk (fun x => (x) % 256) 1 n) (1 + i) (i : Int)) (1 + (n : Int)) := by
  induction d with
  | zero => intro i hi; refine ev_now fun k => ?_; simp only [laws_heldByteS.l0]; rw [if_neg (by rw [mk_length]; omega)]; simp; omega
  | succ d ih =>
    intro i hi
    refine Ev.step (f := fun k => laws_heldByteS.l0 k (mk (fun x => (x) % 256) 1 n) (1 + ((i + 1 : Nat) : Int)) ((i + 1 : Nat) : Int)) (fun k => ?_) (ih (i + 1) (by omega))
    simp only [laws_heldByteS.l0]
    rw [if_pos (by rw [mk_length]; omega), if_pos (by omega), w64 (by omega), w64 (by omega), if_pos (by rw [mk_get _ _ _ _ (by omega)])]
    congr 1
theorem heldByteS_ev (n : Nat) (hn : n ≤ 9000000) : Ev (fun k => laws_heldByteS.f k (mk (fun x => (x) % 256) 1 n) 1) (1 + (n : Int)) := by
  unfold laws_heldByteS.f
  exact Ev.congr (fun k => by simp) (heldByteS_loop n hn n 0 (by omega))
open Go (IntKind.wrap_u8)
/-- what one rune is written as -/
def badR (r : Int) : Prop := r < 0 ∨ 1114111 < r ∨ (55296 ≤ r ∧ r ≤ 57343)
instance (r : Int) : Decidable (badR r) := by unfold badR; exact inferInstance
def encB (r : Int) : List Int :=
  if badR r then [239, 191, 189] else if r < 128 then [r] else if r < 2048 then [192 + r / 64, 128 + r % 64]
  else if r < 65536 then [224 + r / 4096, 128 + r / 64 % 64, 128 + r % 64]
  else [240 + r / 262144, 128 + r / 4096 % 64, 128 + r / 64 % 64, 128 + r % 64]
theorem encB_length (r : Int) : (encB r).length ≤ 4 := by
  unfold encB; repeat' split
  all_goals simp
theorem l1Bytes_j (k : Nat) (r : Int) (b : Bool) (hb : b = decide (badR r)) : spec_l1Bytes.j0 (k + 1) r b = some (encB r) := by
  simp only [spec_l1Bytes.j0]
  subst hb
  unfold encB
  by_cases h : badR r
  · rw [if_pos (by simpa using h), if_pos h]
  · rw [if_neg (by simpa using h), if_neg h]
    unfold badR at h
    have h0 : 0 ≤ r := by omega
    have t1 : ∀ n : Int, 0 < n → Int.tdiv r n = r / n := fun n _ => Int.tdiv_eq_ediv_of_nonneg h0
    have t2 : ∀ n : Int, 0 < n → Int.tmod r n = r % n := fun n _ => Int.tmod_eq_emod_of_nonneg h0
    by_cases h1 : r < 128
    · rw [if_pos h1, if_pos h1]; simp; omega
    · rw [if_neg h1, if_neg h1]
      by_cases h2 : r < 2048
      · rw [if_pos h2, if_pos h2, t1 _ (by omega), t2 _ (by omega), w64 (x := r / 64) (by omega), w64 (by omega), w64 (by omega)]
        simp; omega
      · rw [if_neg h2, if_neg h2]
        by_cases h3 : r < 65536
        · rw [if_pos h3, if_pos h3, t1 _ (by omega), t1 _ (by omega), t2 _ (by omega), w64 (x := r / 4096) (by omega), w64 (x := r / 64) (by omega), Int.tmod_eq_emod_of_nonneg (by omega), w64 (by omega), w64 (by omega), w64 (by omega)]
          simp; omega
        · rw [if_neg h3, if_neg h3, t1 _ (by omega), t1 _ (by omega), t1 _ (by omega), t2 _ (by omega), w64 (x := r / 262144) (by omega), w64 (x := r / 4096) (by omega), w64 (x := r / 64) (by omega), Int.tmod_eq_emod_of_nonneg (by omega), Int.tmod_eq_emod_of_nonneg (by omega), w64 (by omega), w64 (by omega), w64 (by omega), w64 (by omega)]
          simp; omega
theorem l1Bytes_at (k : Nat) (r : Int) : spec_l1Bytes.f (k + 1) r = some (encB r) := by
  unfold spec_l1Bytes.f
  by_cases h0 : r < 0
  · rw [if_pos h0]; exact l1Bytes_j k r true (decide_eq_true (by unfold badR; omega)).symm
  · rw [if_neg h0]
    by_cases h1 : r > 1114111
    · rw [if_pos h1]; exact l1Bytes_j k r true (decide_eq_true (by unfold badR; omega)).symm
    · rw [if_neg h1]
      by_cases h2 : r ≥ 55296
      · rw [if_pos h2]; exact l1Bytes_j k r _ (decide_eq_decide.2 (by unfold badR; omega))
      · rw [if_neg h2]; exact l1Bytes_j k r false (decide_eq_false (by unfold badR; omega)).symm
theorem i32_and63 (x : Int) (h₀ : 0 ≤ x) (h₁ : x < 2147483648) : bits .and .i32 x 63 = x % 64 := bits_mask .i32 31 (by decide) wraps_i32 6 (by decide) x h₀ h₁
theorem encs_length (xs : List Int) : (xs.flatMap encB).length ≤ 4 * xs.length := by
  induction xs with
  | nil => simp
  | cons a t ih => have := encB_length a; simp only [List.flatMap_cons, List.length_append, List.length_cons]; omega
def i32s (xs : List Int) : Prop := ∀ x ∈ xs, -2147483648 ≤ x ∧ x ≤ 2147483647
theorem spec_enc_loop (xs : List Int) (hn : xs.length ≤ 1048576) (hw : i32s xs) (d : Nat) : ∀ (i : Nat) (acc : List Int), i + d = xs.length → acc.length ≤ 4 * i →
    Ev (fun k => spec_EncodeText.l0 k acc xs (xs.length : Int) (i : Int)) (acc ++ (xs.drop i).flatMap encB) := by
  induction d with
  | zero => intro i acc hi ha; refine ev_now fun k => ?_; simp only [spec_EncodeText.l0]; rw [if_neg (by omega), List.drop_of_length_le (by omega)]; simp
  | succ d ih =>
    intro i acc hi ha
    have hlt : i < xs.length := by omega
    have hx := hw xs[i] (List.getElem_mem hlt)
    have hl := encB_length xs[i]
    rw [List.drop_eq_getElem_cons hlt, List.flatMap_cons, ← List.append_assoc]
    refine Ev.step (f := fun k => (spec_l1Bytes.f k xs[i]).bind fun t => if acc.length + t.length < 140737488355328 then spec_EncodeText.l0 k (acc ++ t) xs xs.length ((i + 1 : Nat) : Int) else none) (fun k => ?_) ?_
    · simp only [spec_EncodeText.l0]
      rw [if_pos (by omega), if_pos (by omega), if_pos (by omega), rd_at xs i hlt, w64 (by omega), w64 (by omega)]; rfl
    · refine Ev.bind (g := fun k => spec_l1Bytes.f k xs[i]) (f := fun k t => if acc.length + t.length < 140737488355328 then spec_EncodeText.l0 k (acc ++ t) xs xs.length ((i + 1 : Nat) : Int) else none) (ev_now fun k => l1Bytes_at k _) ?_
      refine Ev.congr (fun k => by rw [if_pos (by omega)]) (ih (i + 1) (acc ++ encB xs[i]) (by omega) (by simp only [List.length_append]; omega))
theorem within_i32 (a lo hi : Int) : impl_within_int32.f a lo hi = some (decide (lo ≤ a ∧ a ≤ hi)) := by
  unfold impl_within_int32.f; split
  · simp_all
  · simp; omega
theorem impl_j2 (acc xs : List Int) (r n i : Int) (R : List Int) (h0 : 0 ≤ r) (h1 : r ≤ 1114111) (hb : ¬ badR r) (ha : acc.length ≤ 5000000)
    (h : Ev (fun k => impl_EncodeText.l0 k (acc ++ encB r) xs n (wrap64 (i + 1))) R) : Ev (fun k => impl_EncodeText.j2 k acc r xs n i) R := by
  unfold encB at h
  rw [if_neg hb] at h
  by_cases c1 : r < 128
  · rw [if_pos c1] at h
    refine Ev.step (fun k => ?_) h
    simp only [impl_EncodeText.j2]
    rw [if_pos c1, if_pos (by omega), show r % 256 = r by omega]
  · rw [if_neg c1] at h
    by_cases c2 : r < 2048
    · rw [if_pos c2] at h
      refine Ev.step (fun k => ?_) h
      simp only [impl_EncodeText.j2]
      rw [if_neg c1, if_pos c2, i32_and63 _ h0 (by omega), show (r / 64) % 256 = r / 64 by omega, show r % 64 % 256 = r % 64 by omega, u8_or192 _ (by omega) (by omega), u8_or128 _ (by omega) (by omega)]
      simp only [Option.bind_some]
      rw [if_pos (by simp; omega)]
    · rw [if_neg c2] at h
      by_cases c3 : r < 65536
      · rw [if_pos c3] at h
        refine Ev.step (fun k => ?_) h
        simp only [impl_EncodeText.j2]
        rw [if_neg c1, if_neg c2, if_pos c3, i32_and63 _ h0 (by omega), i32_and63 (x := r / 64) (by omega) (by omega), show (r / 4096) % 256 = r / 4096 by omega, show r % 64 % 256 = r % 64 by omega, show r / 64 % 64 % 256 = r / 64 % 64 by omega, u8_or224 _ (by omega) (by omega), u8_or128 _ (by omega) (by omega), u8_or128 _ (by omega) (by omega)]
        simp only [Option.bind_some]
        rw [if_pos (by simp; omega)]
      · rw [if_neg c3] at h
        refine Ev.step (fun k => ?_) h
        simp only [impl_EncodeText.j2]
        rw [if_neg c1, if_neg c2, if_neg c3, i32_and63 _ h0 (by omega), i32_and63 (x := r / 64) (by omega) (by omega), i32_and63 (x := r / 4096) (by omega) (by omega), show (r / 262144) % 256 = r / 262144 by omega, show r % 64 % 256 = r % 64 by omega, show r / 64 % 64 % 256 = r / 64 % 64 by omega, show r / 4096 % 64 % 256 = r / 4096 % 64 by omega, u8_or240 _ (by omega) (by omega), u8_or128 _ (by omega) (by omega), u8_or128 _ (by omega) (by omega), u8_or128 _ (by omega) (by omega)]
        simp only [Option.bind_some]
        rw [if_pos (by simp; omega)]
theorem encB_bad (r : Int) (h : badR r) : encB r = encB 65533 := by
  unfold encB; rw [if_pos h]; decide
theorem impl_enc_loop (xs : List Int) (hn : xs.length ≤ 1048576) (hw : i32s xs) (d : Nat) : ∀ (i : Nat) (acc : List Int), i + d = xs.length → acc.length ≤ 4 * i →
    Ev (fun k => impl_EncodeText.l0 k acc xs (xs.length : Int) (i : Int)) (acc ++ (xs.drop i).flatMap encB) := by
  induction d with
  | zero => intro i acc hi ha; refine ev_now fun k => ?_; simp only [impl_EncodeText.l0]; rw [if_neg (by omega), List.drop_of_length_le (by omega)]; simp
  | succ d ih =>
    intro i acc hi ha
    have hlt : i < xs.length := by omega
    have hx := hw xs[i] (List.getElem_mem hlt)
    have hl := encB_length xs[i]
    rw [List.drop_eq_getElem_cons hlt, List.flatMap_cons, ← List.append_assoc]
    have ih' := ih (i + 1) (acc ++ encB xs[i]) (by omega) (by simp only [List.length_append]; omega)
    have e1 : wrap64 ((i : Int) + 1) = ((i + 1 : Nat) : Int) := by rw [w64 (by omega)]; rfl
    refine Ev.step (f := fun k => impl_EncodeText.j1 k acc xs[i] xs xs.length (i : Int) (decide (badR xs[i]))) (fun k => ?_) ?_
    · simp only [impl_EncodeText.l0]
      rw [if_pos (by omega), if_pos (by omega), if_pos (by omega), rd_at xs i hlt, within_i32, within_i32]
      simp only [Option.bind_some]
      by_cases c : 0 ≤ xs[i] ∧ xs[i] ≤ 1114111
      · rw [if_pos (by simpa using c)]; congr 1; simp only [decide_eq_decide]; unfold badR; omega
      · rw [if_neg (by simpa using c)]; congr 1; symm; simp only [decide_eq_true_eq]; unfold badR; omega
    · by_cases hb : badR xs[i]
      · refine Ev.step (f := fun k => impl_EncodeText.j2 k acc 65533 xs xs.length (i : Int)) (fun k => ?_) (impl_j2 _ _ _ _ _ _ (by omega) (by omega) (by decide) (by omega) (by rw [← encB_bad _ hb, e1]; exact ih'))
        simp only [impl_EncodeText.j1]; rw [if_pos (by simpa using hb)]
      · refine Ev.step (f := fun k => impl_EncodeText.j2 k acc xs[i] xs xs.length (i : Int)) (fun k => ?_) (impl_j2 _ _ _ _ _ _ (by unfold badR at hb; omega) (by unfold badR at hb; omega) hb (by omega) (by rw [e1]; exact ih'))
        simp only [impl_EncodeText.j1]; rw [if_neg (by simpa using hb)]
theorem spec_enc (xs : List Int) (hn : xs.length ≤ 1048576) (hw : i32s xs) : Ev (fun k => spec_EncodeText.f k xs) (xs.flatMap encB) := by
  have h := spec_enc_loop xs hn hw xs.length 0 [] (by omega) (by simp)
  simpa [spec_EncodeText.f] using h
theorem impl_enc (xs : List Int) (hn : xs.length ≤ 1048576) (hw : i32s xs) : Ev (fun k => impl_EncodeText.f k xs) (xs.flatMap encB) := by
  have h := impl_enc_loop xs hn hw xs.length 0 [] (by omega) (by simp)
  simpa [impl_EncodeText.f] using h
theorem i32s_of {xs : List Int} (h : ∀ x ∈ xs, (Lit.int .i32 x).wf = true) : i32s xs := fun x hx => bounds_i32 (h x hx)
theorem FnExactEncodeText : laws_FnExactEncodeText.Pure := by
  intro xs _ _ hwf
  refine Ev.rounds (g := fun k => laws_FnExactEncodeText.f k xs) ?_
  unfold laws_FnExactEncodeText.f
  by_cases hn : (xs.length : Int) > 1048576
  · exact ev_const fun k => by rw [if_pos hn]
  have hn' : xs.length ≤ 1048576 := by omega
  have hw := i32s_of hwf
  have hl := encs_length xs
  generalize he : xs.flatMap encB = ys at hl
  refine Ev.congr (fun k => if_neg hn) ?_
  refine Ev.bind (toInt32S_ev xs hn') ?_
  refine Ev.bind (he ▸ spec_enc xs hn' hw) ?_
  refine Ev.bind (toInt32S_ev xs hn') ?_
  refine Ev.bind (he ▸ impl_enc xs hn' hw) ?_
  refine Ev.bind (eqByteS_ev ys (by omega)) ?_
  refine Ev.congr (fun k => if_pos rfl) ?_
  refine Ev.bind (toInt32S_ev xs hn') ?_
  refine Ev.bind (eqInt32S_ev xs (by omega)) ?_
  refine Ev.congr (fun k => if_pos rfl) ?_
  refine Ev.bind (markInt32S_ev xs (by omega)) ?_
  refine Ev.congr (fun k => if_neg (by dsimp only; omega)) ?_
  refine Ev.bind (eqByteS_ev ys (by omega)) ?_
  refine Ev.step (fun k => by simp only [laws_FnExactEncodeText.j0]; rw [if_neg (by simp)]) ?_
  refine Ev.bind (markByteS_ev ys (by omega)) ?_
  refine Ev.bind (heldByteS_ev ys.length (by omega)) ?_
  refine Ev.congr (fun k => if_neg (by omega)) ?_
  refine Ev.congr (fun k => if_pos rfl) ?_
  refine Ev.bind (toInt32S_ev xs hn') ?_
  refine Ev.bind (he ▸ impl_enc xs hn' hw) ?_
  refine Ev.bind (eqByteS_ev ys (by omega)) ?_
  refine Ev.congr (fun k => if_pos rfl) ?_
  refine Ev.bind (heldByteS_ev ys.length (by omega)) ?_
  refine Ev.congr (fun k => if_neg (by omega)) ?_
  exact ev_const fun k => if_pos rfl

end Go.Proofs.Ytohckpdlpadgcaa.Pure
