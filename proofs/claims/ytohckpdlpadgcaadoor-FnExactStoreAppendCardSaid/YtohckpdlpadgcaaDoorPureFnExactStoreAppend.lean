/- For every list of 32-bit numbers and every list of bytes the law FnExactStoreAppend tells true. No condition. -/
import Derived.Test.YtohckpdlpadgcaaDoorQFnExactStoreAppendx5
import Derived.OpenShut
import Derived.Lib.Strings
namespace Go.Proofs.YtohckpdlpadgcaaDoor.PureFnExactStoreAppend
open Go Go.RowKit Go.Proofs.YtohckpdlpadgcaaDoor.Dec Go.Proofs.YtohckpdlpadgcaaDoor.QFnExactStoreAppend Go.Proofs.YtohckpdlpadgcaaDoorW.PrintWords Go.Proofs.YtohckpdlpadgcaaDoorW.PrintLast
abbrev bytes := Dec.bytes

theorem w64 {x : Int} (h : -9223372036854775808 ≤ x ∧ x ≤ 9223372036854775807) : wrap64 x = x := by unfold wrap64; omega
theorem ev_now {α : Type} {g : Nat → Option α} {r : α} (h : ∀ k, g (k + 1) = some r) : Ev g r :=
  ⟨1, fun k hk => by obtain ⟨m, rfl⟩ : ∃ m, k = m + 1 := ⟨k - 1, by omega⟩; exact h m⟩
theorem ev_const {α : Type} {g : Nat → Option α} {r : α} (h : ∀ k, g k = some r) : Ev g r := ⟨0, fun k _ => h k⟩
theorem rd_at (xs : List Int) (i : Nat) (h : i < xs.length) : rd xs (i : Int) = xs[i] := by
  unfold rd; simp [List.getD, h]
def mk (f : Int → Int) (k : Int) (n : Nat) : List Int := (List.range n).map fun j => f (k + (j : Nat))
theorem mk_length (f : Int → Int) (k : Int) (n : Nat) : (mk f k n).length = n := by simp [mk]
theorem mk_get (f : Int → Int) (k : Int) (n i : Nat) (h : i < n) : rd (mk f k n) (i : Int) = f (k + i) := by
  rw [rd_at _ _ (by simpa [mk] using h)]; simp [mk]

theorem toInt32S_loop (xs : List Int) (hn : xs.length ≤ 1048576) (d : Nat) : ∀ i : Nat, i + d = xs.length →
    Ev (fun k => laws_toInt32S.l0 k xs (xs.take i ++ List.replicate d 0) (i : Int)) xs := by
  induction d with
  | zero =>
    intro i hi
    obtain rfl : i = xs.length := by omega
    refine ev_now fun k => ?_
    simp only [laws_toInt32S.l0]
    rw [if_neg (by omega)]
    simp
  | succ d ih =>
    intro i hi
    have hlt : i < xs.length := by omega
    refine Ev.step (f := fun k => laws_toInt32S.l0 k xs (xs.take (i + 1) ++ List.replicate d 0) ((i + 1 : Nat) : Int)) (fun k => ?_) (ih (i + 1) (by omega))
    simp only [laws_toInt32S.l0]
    rw [if_pos (by omega), if_pos (by omega), if_pos (by simp; omega), w64 (by omega)]
    congr 1
    · rw [rd_at xs i hlt, Int.toNat_natCast, List.set_append_right _ _ (by simp; omega)]
      rw [show i - (xs.take i).length = 0 by simp; omega, List.replicate_succ, List.set_cons_zero, List.take_succ_eq_append_getElem hlt, List.append_assoc]; rfl
theorem toInt32S_ev (xs : List Int) (hn : xs.length ≤ 1048576) : Ev (fun k => laws_toInt32S.f k xs) xs := by
  unfold laws_toInt32S.f
  have h := toInt32S_loop xs hn xs.length 0 (by omega)
  simp only [List.take_zero, List.nil_append] at h
  refine Ev.congr (f := fun k => laws_toInt32S.l0 k xs (List.replicate xs.length 0) ((0 : Nat) : Int)) (fun k => ?_) h
  rw [if_pos (by omega), if_pos (by omega)]; rfl

theorem toByteS_loop (xs : List Int) (hn : xs.length ≤ 1048576) (d : Nat) : ∀ i : Nat, i + d = xs.length →
    Ev (fun k => laws_toByteS.l0 k xs (xs.take i ++ List.replicate d 0) (i : Int)) xs := by
  induction d with
  | zero =>
    intro i hi
    obtain rfl : i = xs.length := by omega
    refine ev_now fun k => ?_
    simp only [laws_toByteS.l0]
    rw [if_neg (by omega)]
    simp
  | succ d ih =>
    intro i hi
    have hlt : i < xs.length := by omega
    refine Ev.step (f := fun k => laws_toByteS.l0 k xs (xs.take (i + 1) ++ List.replicate d 0) ((i + 1 : Nat) : Int)) (fun k => ?_) (ih (i + 1) (by omega))
    simp only [laws_toByteS.l0]
    rw [if_pos (by omega), if_pos (by omega), if_pos (by simp; omega), w64 (by omega)]
    congr 1
    · rw [rd_at xs i hlt, Int.toNat_natCast, List.set_append_right _ _ (by simp; omega)]
      rw [show i - (xs.take i).length = 0 by simp; omega, List.replicate_succ, List.set_cons_zero, List.take_succ_eq_append_getElem hlt, List.append_assoc]; rfl
theorem toByteS_ev (xs : List Int) (hn : xs.length ≤ 1048576) : Ev (fun k => laws_toByteS.f k xs) xs := by
  unfold laws_toByteS.f
  have h := toByteS_loop xs hn xs.length 0 (by omega)
  simp only [List.take_zero, List.nil_append] at h
  refine Ev.congr (f := fun k => laws_toByteS.l0 k xs (List.replicate xs.length 0) ((0 : Nat) : Int)) (fun k => ?_) h
  rw [if_pos (by omega), if_pos (by omega)]; rfl

theorem eqInt32S_loop (xs : List Int) (hn : xs.length ≤ 9000000) (d : Nat) : ∀ i : Nat, i + d = xs.length →
    Ev (fun k => laws_eqInt32S.l0 k xs xs (i : Int)) true := by
  induction d with
  | zero => intro i hi; refine ev_now fun k => ?_; simp only [laws_eqInt32S.l0]; rw [if_neg (by omega)]
  | succ d ih =>
    intro i hi
    refine Ev.step (f := fun k => laws_eqInt32S.l0 k xs xs ((i + 1 : Nat) : Int)) (fun k => ?_) (ih (i + 1) (by omega))
    simp only [laws_eqInt32S.l0]
    rw [if_pos (by omega), if_pos (by omega), if_pos (by omega), w64 (by omega), if_pos (by first | rfl | trivial)]; rfl
theorem eqInt32S_ev (xs : List Int) (hn : xs.length ≤ 9000000) : Ev (fun k => laws_eqInt32S.f k xs xs) true := by
  unfold laws_eqInt32S.f
  refine Ev.congr (f := fun k => laws_eqInt32S.l0 k xs xs ((0 : Nat) : Int)) (fun k => ?_) (eqInt32S_loop xs hn xs.length 0 (by omega))
  rw [if_pos rfl]; rfl

theorem eqByteS_loop (xs : List Int) (hn : xs.length ≤ 9000000) (d : Nat) : ∀ i : Nat, i + d = xs.length →
    Ev (fun k => laws_eqByteS.l0 k xs xs (i : Int)) true := by
  induction d with
  | zero => intro i hi; refine ev_now fun k => ?_; simp only [laws_eqByteS.l0]; rw [if_neg (by omega)]
  | succ d ih =>
    intro i hi
    refine Ev.step (f := fun k => laws_eqByteS.l0 k xs xs ((i + 1 : Nat) : Int)) (fun k => ?_) (ih (i + 1) (by omega))
    simp only [laws_eqByteS.l0]
    rw [if_pos (by omega), if_pos (by omega), if_pos (by omega), w64 (by omega), if_pos (by first | rfl | trivial)]; rfl
theorem eqByteS_ev (xs : List Int) (hn : xs.length ≤ 9000000) : Ev (fun k => laws_eqByteS.f k xs xs) true := by
  unfold laws_eqByteS.f
  refine Ev.congr (f := fun k => laws_eqByteS.l0 k xs xs ((0 : Nat) : Int)) (fun k => ?_) (eqByteS_loop xs hn xs.length 0 (by omega))
  rw [if_pos rfl]; rfl

theorem markInt32S_loop (s : Int) (hs : 0 ≤ s ∧ s ≤ 9000000) (xs : List Int) (hn : xs.length ≤ 9000000) (d : Nat) : ∀ i : Nat, i + d = xs.length →
    Ev (fun k => laws_markInt32S.l0 k (mk (fun x => wrap32 (x)) s i ++ xs.drop i) (s + i) (i : Int)) (s + (xs.length : Int), mk (fun x => wrap32 (x)) s xs.length) := by
  induction d with
  | zero =>
    intro i hi
    obtain rfl : i = xs.length := by omega
    refine ev_now fun k => ?_
    simp only [laws_markInt32S.l0]
    rw [if_neg (by simp [mk_length])]
    simp
  | succ d ih =>
    intro i hi
    have hlt : i < xs.length := by omega
    refine Ev.step (f := fun k => laws_markInt32S.l0 k (mk (fun x => wrap32 (x)) s (i + 1) ++ xs.drop (i + 1)) (s + ((i + 1 : Nat) : Int)) ((i + 1 : Nat) : Int)) (fun k => ?_) (ih (i + 1) (by omega))
    simp only [laws_markInt32S.l0]
    rw [if_pos (by simp [mk_length]; omega), if_pos (by omega), w64 (by omega), w64 (by omega)]
    congr 1
    · rw [Int.toNat_natCast, List.set_append_right _ _ (by simp [mk_length]), mk_length, Nat.sub_self, List.drop_eq_getElem_cons hlt, List.set_cons_zero]
      simp [mk, List.range_succ]
    · omega
theorem markInt32S_from (s : Int) (hs : 0 ≤ s ∧ s ≤ 9000000) (xs : List Int) (hn : xs.length ≤ 9000000) : Ev (fun k => laws_markInt32S.f k xs s) (s + (xs.length : Int), mk (fun x => wrap32 (x)) s xs.length) := by
  unfold laws_markInt32S.f
  have h := markInt32S_loop s hs xs hn xs.length 0 (by omega)
  exact Ev.congr (fun k => by simp [mk]) h
theorem markInt32S_ev (xs : List Int) (hn : xs.length ≤ 9000000) : Ev (fun k => laws_markInt32S.f k xs 1) (1 + (xs.length : Int), mk (fun x => wrap32 (x)) 1 xs.length) := markInt32S_from 1 (by omega) xs hn

theorem markByteS_loop (s : Int) (hs : 0 ≤ s ∧ s ≤ 9000000) (xs : List Int) (hn : xs.length ≤ 9000000) (d : Nat) : ∀ i : Nat, i + d = xs.length →
    Ev (fun k => laws_markByteS.l0 k (mk (fun x => (x) % 256) s i ++ xs.drop i) (s + i) (i : Int)) (s + (xs.length : Int), mk (fun x => (x) % 256) s xs.length) := by
  induction d with
  | zero =>
    intro i hi
    obtain rfl : i = xs.length := by omega
    refine ev_now fun k => ?_
    simp only [laws_markByteS.l0]
    rw [if_neg (by simp [mk_length])]
    simp
  | succ d ih =>
    intro i hi
    have hlt : i < xs.length := by omega
    refine Ev.step (f := fun k => laws_markByteS.l0 k (mk (fun x => (x) % 256) s (i + 1) ++ xs.drop (i + 1)) (s + ((i + 1 : Nat) : Int)) ((i + 1 : Nat) : Int)) (fun k => ?_) (ih (i + 1) (by omega))
    simp only [laws_markByteS.l0]
    rw [if_pos (by simp [mk_length]; omega), if_pos (by omega), w64 (by omega), w64 (by omega)]
    congr 1
    · rw [Int.toNat_natCast, List.set_append_right _ _ (by simp [mk_length]), mk_length, Nat.sub_self, List.drop_eq_getElem_cons hlt, List.set_cons_zero]
      simp [mk, List.range_succ]
    · omega
theorem markByteS_from (s : Int) (hs : 0 ≤ s ∧ s ≤ 9000000) (xs : List Int) (hn : xs.length ≤ 9000000) : Ev (fun k => laws_markByteS.f k xs s) (s + (xs.length : Int), mk (fun x => (x) % 256) s xs.length) := by
  unfold laws_markByteS.f
  have h := markByteS_loop s hs xs hn xs.length 0 (by omega)
  exact Ev.congr (fun k => by simp [mk]) h
theorem markByteS_ev (xs : List Int) (hn : xs.length ≤ 9000000) : Ev (fun k => laws_markByteS.f k xs 1) (1 + (xs.length : Int), mk (fun x => (x) % 256) 1 xs.length) := markByteS_from 1 (by omega) xs hn

theorem heldInt32S_loop (s : Int) (hs : 0 ≤ s ∧ s ≤ 9000000) (n : Nat) (hn : n ≤ 9000000) (d : Nat) : ∀ i : Nat, i + d = n →
    Ev (fun k => laws_heldInt32S.l0 k (mk (fun x => wrap32 (x)) s n) (s + i) (i : Int)) (s + (n : Int)) := by
  induction d with
  | zero => intro i hi; refine ev_now fun k => ?_; simp only [laws_heldInt32S.l0]; rw [if_neg (by rw [mk_length]; omega)]; simp; omega
  | succ d ih =>
    intro i hi
    refine Ev.step (f := fun k => laws_heldInt32S.l0 k (mk (fun x => wrap32 (x)) s n) (s + ((i + 1 : Nat) : Int)) ((i + 1 : Nat) : Int)) (fun k => ?_) (ih (i + 1) (by omega))
    simp only [laws_heldInt32S.l0]
    rw [if_pos (by rw [mk_length]; omega), if_pos (by omega), w64 (by omega), w64 (by omega), if_pos (by rw [mk_get _ _ _ _ (by omega)])]
    congr 1
    omega
theorem heldInt32S_from (s : Int) (hs : 0 ≤ s ∧ s ≤ 9000000) (n : Nat) (hn : n ≤ 9000000) : Ev (fun k => laws_heldInt32S.f k (mk (fun x => wrap32 (x)) s n) s) (s + (n : Int)) := by
  unfold laws_heldInt32S.f
  exact Ev.congr (fun k => by simp) (heldInt32S_loop s hs n hn n 0 (by omega))
theorem heldInt32S_ev (n : Nat) (hn : n ≤ 9000000) : Ev (fun k => laws_heldInt32S.f k (mk (fun x => wrap32 (x)) 1 n) 1) (1 + (n : Int)) := heldInt32S_from 1 (by omega) n hn
open Go (IntKind.wrap_u8)
/-- what one rune is written as -/
def badR (r : Int) : Prop := r < 0 ∨ 1114111 < r ∨ (55296 ≤ r ∧ r ≤ 57343)
instance (r : Int) : Decidable (badR r) := by unfold badR; exact inferInstance
def encB (r : Int) : List Int :=
  if badR r then [239, 191, 189] else if r < 128 then [r] else if r < 2048 then [192 + r / 64, 128 + r % 64]
  else if r < 65536 then [224 + r / 4096, 128 + r / 64 % 64, 128 + r % 64]
  else [240 + r / 262144, 128 + r / 4096 % 64, 128 + r / 64 % 64, 128 + r % 64]
theorem encB_length (r : Int) : (encB r).length ≤ 4 := by
  unfold encB; repeat' split
  all_goals simp
theorem l1Bytes_j (k : Nat) (r : Int) (b : Bool) (hb : b = decide (badR r)) : spec_l1Bytes.j0 (k + 1) r b = some (encB r) := by
  simp only [spec_l1Bytes.j0]
  subst hb
  unfold encB
  by_cases h : badR r
  · rw [if_pos (by simpa using h), if_pos h]
  · rw [if_neg (by simpa using h), if_neg h]
    unfold badR at h
    have h0 : 0 ≤ r := by omega
    have t1 : ∀ n : Int, 0 < n → Int.tdiv r n = r / n := fun n _ => Int.tdiv_eq_ediv_of_nonneg h0
    have t2 : ∀ n : Int, 0 < n → Int.tmod r n = r % n := fun n _ => Int.tmod_eq_emod_of_nonneg h0
    by_cases h1 : r < 128
    · rw [if_pos h1, if_pos h1]; simp; omega
    · rw [if_neg h1, if_neg h1]
      by_cases h2 : r < 2048
      · rw [if_pos h2, if_pos h2, t1 _ (by omega), t2 _ (by omega), w64 (x := r / 64) (by omega), w64 (by omega), w64 (by omega)]
        simp; omega
      · rw [if_neg h2, if_neg h2]
        by_cases h3 : r < 65536
        · rw [if_pos h3, if_pos h3, t1 _ (by omega), t1 _ (by omega), t2 _ (by omega), w64 (x := r / 4096) (by omega), w64 (x := r / 64) (by omega), Int.tmod_eq_emod_of_nonneg (by omega), w64 (by omega), w64 (by omega), w64 (by omega)]
          simp; omega
        · rw [if_neg h3, if_neg h3, t1 _ (by omega), t1 _ (by omega), t1 _ (by omega), t2 _ (by omega), w64 (x := r / 262144) (by omega), w64 (x := r / 4096) (by omega), w64 (x := r / 64) (by omega), Int.tmod_eq_emod_of_nonneg (by omega), Int.tmod_eq_emod_of_nonneg (by omega), w64 (by omega), w64 (by omega), w64 (by omega), w64 (by omega)]
          simp; omega
theorem l1Bytes_at (k : Nat) (r : Int) : spec_l1Bytes.f (k + 1) r = some (encB r) := by
  unfold spec_l1Bytes.f
  by_cases h0 : r < 0
  · rw [if_pos h0]; exact l1Bytes_j k r true (decide_eq_true (by unfold badR; omega)).symm
  · rw [if_neg h0]
    by_cases h1 : r > 1114111
    · rw [if_pos h1]; exact l1Bytes_j k r true (decide_eq_true (by unfold badR; omega)).symm
    · rw [if_neg h1]
      by_cases h2 : r ≥ 55296
      · rw [if_pos h2]; exact l1Bytes_j k r _ (decide_eq_decide.2 (by unfold badR; omega))
      · rw [if_neg h2]; exact l1Bytes_j k r false (decide_eq_false (by unfold badR; omega)).symm
theorem ld1 (a b : Int) : ldN a = 1 ∧ snd a b ↔ 194 ≤ a ∧ a ≤ 223 ∧ 128 ≤ b ∧ b ≤ 191 := by unfold ldN snd ldLo ldHi; omega
theorem ld2 (a b : Int) : ldN a = 2 ∧ snd a b ↔ 224 ≤ a ∧ a ≤ 239 ∧ 128 ≤ b ∧ b ≤ 191 ∧ (a = 224 → 160 ≤ b) ∧ (a = 237 → b ≤ 159) := by unfold ldN snd ldLo ldHi; omega
theorem ld3 (a b : Int) : ldN a = 3 ∧ snd a b ↔ 240 ≤ a ∧ a ≤ 244 ∧ 128 ≤ b ∧ b ≤ 191 ∧ (a = 240 → 144 ≤ b) ∧ (a = 244 → b ≤ 143) := by unfold ldN snd ldLo ldHi; omega
theorem ld_le (a : Int) : 0 ≤ ldN a ∧ ldN a ≤ 3 := by unfold ldN; omega
theorem same_is (xs ys : List Int) (hx : bytes xs) (hy : bytes ys) : spec_l1Same.f xs ys = some (decide (xs = ys)) := by
  unfold spec_l1Same.f
  have key : ∀ (xs ys : List Int), bytes xs → bytes ys → xs.map (fun n => UInt8.ofNat n.toNat) = ys.map (fun n => UInt8.ofNat n.toNat) → xs = ys := by
    intro xs
    induction xs with
    | nil => intro ys _ _ h; cases ys <;> simp_all
    | cons a t ih =>
      intro ys hx hy h
      cases ys with
      | nil => simp at h
      | cons b u =>
        simp only [List.map_cons, List.cons.injEq] at h
        have ha := hx a (by simp)
        have hb := hy b (by simp)
        have e := congrArg UInt8.toNat h.1
        simp only [UInt8.toNat_ofNat'] at e
        rw [ih u (fun x hx' => hx x (by simp [hx'])) (fun x hx' => hy x (by simp [hx'])) h.2, show a = b by omega]
  congr 1
  rw [Bool.eq_iff_iff]
  simp only [beq_iff_eq, decide_eq_true_eq]
  constructor
  · intro h
    refine key xs ys hx hy ?_
    have h2 : (strOfNums xs).data.toList = (strOfNums ys).data.toList := by rw [← Lib.toList_data, ← Lib.toList_data]; exact h
    simpa [strOfNums] using h2
  · rintro rfl; rfl
theorem encB_bytes (r : Int) : bytes (encB r) := by
  unfold encB
  intro x hx
  repeat' split at hx
  all_goals (simp only [badR, List.mem_cons, List.not_mem_nil, or_false] at *; omega)
theorem formJ (k : Nat) (q : List Int) (v : Int) (hq : bytes q) : spec_l1Form.j0 (k + 2) q v = some (if v < 0 then (0, false) else (v, decide (encB v = q))) := by
  simp only [spec_l1Form.j0]
  by_cases c : v < 0
  · rw [if_pos c, if_pos c]
  · rw [if_neg c, if_neg c, l1Bytes_at]; simp only [Option.bind_some]; rw [same_is _ _ (encB_bytes v) hq]; rfl
theorem b2 {a b : Int} (ha : 0 ≤ a ∧ a ≤ 255) (hb : 0 ≤ b ∧ b ≤ 255) : bytes [a, b] := by intro x hx; simp at hx; omega
theorem form1 (k : Nat) (a : Int) (h : 128 ≤ a ∧ a ≤ 255) : spec_l1Form.f (k + 2) [a] = some (a, false) := by
  unfold spec_l1Form.f
  rw [if_pos (by simp), if_pos (by simp), formJ _ _ _ (by intro x hx; simp at hx; omega), show rd [a] 0 = a from rfl, w64 (by omega), if_neg (by omega)]
  congr 2
  simp only [decide_eq_false_iff_not]
  unfold encB; repeat' split
  all_goals (simp only [badR, List.cons.injEq, reduceCtorEq, and_false, not_false_eq_true] at *)
  omega
theorem form2 (k : Nat) (a b : Int) (ha : 128 ≤ a ∧ a ≤ 255) (hb : 0 ≤ b ∧ b ≤ 255) :
    ∃ v, spec_l1Form.f (k + 2) [a, b] = some (v, decide (ldN a = 1 ∧ snd a b)) ∧ (ldN a = 1 ∧ snd a b → v = v2 a b) := by
  unfold spec_l1Form.f
  rw [if_neg (by simp), if_pos (by simp), if_pos (by simp), if_pos (by simp), formJ _ _ _ (by intro x hx; simp at hx; omega), show rd [a, b] 0 = a from rfl, show rd [a, b] 1 = b from rfl]
  simp only [w64 (x := a) (by omega), w64 (x := b) (by omega), w64 (x := a - 192) (by omega), w64 (x := (a - 192) * 64) (by omega), w64 (x := (a - 192) * 64 + b) (by omega), w64 (x := (a - 192) * 64 + b - 128) (by omega)]
  by_cases c : (a - 192) * 64 + b - 128 < 0
  · rw [if_pos c]
    have nk : ¬ (ldN a = 1 ∧ snd a b) := by rw [ld1]; omega
    exact ⟨0, congrArg some (Prod.ext rfl (decide_eq_false nk).symm), fun h => absurd h nk⟩
  · rw [if_neg c]
    refine ⟨_, congrArg some (Prod.ext rfl (decide_eq_decide.2 ?_)), fun _ => rfl⟩
    rw [ld1]
    unfold encB; repeat' split
    all_goals (simp only [badR, List.cons.injEq, reduceCtorEq, and_true, and_false, false_iff] at *; omega)
theorem form3 (k : Nat) (a b c : Int) (ha : 128 ≤ a ∧ a ≤ 255) (hb : 0 ≤ b ∧ b ≤ 255) (hc : 0 ≤ c ∧ c ≤ 255) :
    ∃ v, spec_l1Form.f (k + 2) [a, b, c] = some (v, decide ((ldN a = 2 ∧ snd a b) ∧ cont c)) ∧ ((ldN a = 2 ∧ snd a b) ∧ cont c → v = v3 a b c) := by
  unfold spec_l1Form.f
  rw [if_neg (by simp), if_neg (by simp), if_pos (by simp), if_pos (by simp), if_pos (by simp), if_pos (by simp), formJ _ _ _ (by intro x hx; simp at hx; omega), show rd [a, b, c] 0 = a from rfl, show rd [a, b, c] 1 = b from rfl, show rd [a, b, c] 2 = c from rfl]
  simp only [w64 (x := a) (by omega), w64 (x := b) (by omega), w64 (x := c) (by omega), w64 (x := a - 224) (by omega), w64 (x := (a - 224) * 4096) (by omega), w64 (x := b - 128) (by omega), w64 (x := (b - 128) * 64) (by omega), w64 (x := (a - 224) * 4096 + (b - 128) * 64) (by omega), w64 (x := (a - 224) * 4096 + (b - 128) * 64 + c) (by omega), w64 (x := (a - 224) * 4096 + (b - 128) * 64 + c - 128) (by omega)]
  by_cases d : (a - 224) * 4096 + (b - 128) * 64 + c - 128 < 0
  · rw [if_pos d]
    have nk : ¬ ((ldN a = 2 ∧ snd a b) ∧ cont c) := by rw [ld2]; unfold cont; omega
    exact ⟨0, congrArg some (Prod.ext rfl (decide_eq_false nk).symm), fun h => absurd h nk⟩
  · rw [if_neg d]
    refine ⟨_, congrArg some (Prod.ext rfl (decide_eq_decide.2 ?_)), fun _ => rfl⟩
    rw [ld2]; unfold cont
    unfold encB; repeat' split
    all_goals (simp only [badR, List.cons.injEq, reduceCtorEq, and_true, and_false, false_iff] at *; omega)
theorem form4 (k : Nat) (a b c d : Int) (ha : 128 ≤ a ∧ a ≤ 255) (hb : 0 ≤ b ∧ b ≤ 255) (hc : 0 ≤ c ∧ c ≤ 255) (hd : 0 ≤ d ∧ d ≤ 255) :
    ∃ v, spec_l1Form.f (k + 2) [a, b, c, d] = some (v, decide ((ldN a = 3 ∧ snd a b) ∧ cont c ∧ cont d)) ∧ ((ldN a = 3 ∧ snd a b) ∧ cont c ∧ cont d → v = v4 a b c d) := by
  unfold spec_l1Form.f
  rw [if_neg (by simp), if_neg (by simp), if_neg (by simp), if_pos (by simp), if_pos (by simp), if_pos (by simp), if_pos (by simp), if_pos (by simp), formJ _ _ _ (by intro x hx; simp at hx; omega), show rd [a, b, c, d] 0 = a from rfl, show rd [a, b, c, d] 1 = b from rfl, show rd [a, b, c, d] 2 = c from rfl, show rd [a, b, c, d] 3 = d from rfl]
  simp only [w64 (x := a) (by omega), w64 (x := b) (by omega), w64 (x := c) (by omega), w64 (x := d) (by omega), w64 (x := a - 240) (by omega), w64 (x := (a - 240) * 262144) (by omega), w64 (x := b - 128) (by omega), w64 (x := (b - 128) * 4096) (by omega), w64 (x := c - 128) (by omega), w64 (x := (c - 128) * 64) (by omega), w64 (x := (a - 240) * 262144 + (b - 128) * 4096) (by omega), w64 (x := (a - 240) * 262144 + (b - 128) * 4096 + (c - 128) * 64) (by omega), w64 (x := (a - 240) * 262144 + (b - 128) * 4096 + (c - 128) * 64 + d) (by omega), w64 (x := (a - 240) * 262144 + (b - 128) * 4096 + (c - 128) * 64 + d - 128) (by omega)]
  by_cases e : (a - 240) * 262144 + (b - 128) * 4096 + (c - 128) * 64 + d - 128 < 0
  · rw [if_pos e]
    have nk : ¬ ((ldN a = 3 ∧ snd a b) ∧ cont c ∧ cont d) := by rw [ld3]; unfold cont; omega
    exact ⟨0, congrArg some (Prod.ext rfl (decide_eq_false nk).symm), fun h => absurd h nk⟩
  · rw [if_neg e]
    refine ⟨_, congrArg some (Prod.ext rfl (decide_eq_decide.2 ?_)), fun _ => rfl⟩
    rw [ld3]; unfold cont
    unfold encB; repeat' split
    all_goals (simp only [badR, List.cons.injEq, reduceCtorEq, and_true, and_false, false_iff] at *; omega)
theorem ev_form {q : List Int} {v : Int} {b : Bool} (h : ∀ k, spec_l1Form.f (k + 2) q = some (v, b)) : Ev (fun k => spec_l1Form.f k q) (v, b) :=
  ⟨2, fun k hk => by obtain ⟨m, rfl⟩ : ∃ m, k = m + 2 := ⟨k - 2, by omega⟩; exact h m⟩
-- where a whole sequence is asked for
theorem l2_full (x0 x5 : List Int) (T s v : Int) (b R : Bool) (hT : 0 ≤ T ∧ T ≤ 100) (hs : 0 ≤ s ∧ s ≤ 1000) (hl : T ≤ (x5.length : Int)) (hf : Ev (fun k => spec_l1Form.f k x5) (v, b))
    (h : if b = true then R = true else if (x0.length : Int) > 1 then Ev (fun k => spec_l1Begins.l0 k x0 (T + 1)) R else Ev (fun k => spec_l1Begins.l1 k x0 T (s + 1)) R) :
    Ev (fun k => spec_l1Begins.l2 k x0 T s x5) R := by
  refine Ev.step (f := fun k => (spec_l1Form.f k x5).bind fun bt => if bt.2 = true then some true else if (x0.length : Int) > 1 then spec_l1Begins.l0 k x0 (T + 1) else spec_l1Begins.l1 k x0 T (s + 1)) (fun k => ?_) ?_
  · simp only [spec_l1Begins.l2]; rw [if_neg (by omega), w64 (x := T + 1) (by omega), w64 (x := s + 1) (by omega)]
  · refine Ev.bind hf ?_
    dsimp only
    cases b with
    | true => simp only [if_true] at h ⊢; subst h; exact ev_const fun k => rfl
    | false =>
      simp only [Bool.false_eq_true, if_false] at h ⊢
      split at h
      · rename_i c; exact Ev.congr (fun k => if_pos c) h
      · rename_i c; exact Ev.congr (fun k => if_neg c) h
theorem l2_pad (x0 x5 : List Int) (T s : Int) (R : Bool) (hl : (x5.length : Int) < T) (hs : x5.length < 10) (h : Ev (fun k => spec_l1Begins.l2 k x0 T s (x5 ++ [128])) R) : Ev (fun k => spec_l1Begins.l2 k x0 T s x5) R := by
  refine Ev.step (fun k => ?_) h
  simp only [spec_l1Begins.l2]; rw [if_pos hl, if_pos (by omega)]
theorem l1_in (x0 : List Int) (T s : Int) (R : Bool) (hs : 128 ≤ s ∧ s < 192) (hl : x0.length < 5)
    (h : Ev (fun k => spec_l1Begins.l2 k x0 T s (if x0.length = 1 then x0 ++ [s] else x0)) R) : Ev (fun k => spec_l1Begins.l1 k x0 T s) R := by
  refine Ev.step (f := fun k => spec_l1Begins.j2 k x0 T s (if x0.length = 1 then x0 ++ [s] else x0)) (fun k => ?_) (Ev.step (fun k => by simp only [spec_l1Begins.j2]) h)
  simp only [spec_l1Begins.l1]
  rw [if_pos hs.2]
  simp only [Option.bind_some, List.nil_append, List.length_nil]
  rw [if_pos (by omega)]
  by_cases c : x0.length = 1
  · rw [if_pos (by omega), if_pos (by omega), if_pos c, show s % 256 = s by omega]
  · rw [if_neg (by omega), if_neg c]
theorem l1_out (x0 : List Int) (T s : Int) (R : Bool) (hT : 0 ≤ T ∧ T ≤ 100) (hs : 192 ≤ s) (h : Ev (fun k => spec_l1Begins.l0 k x0 (T + 1)) R) : Ev (fun k => spec_l1Begins.l1 k x0 T s) R := by
  refine Ev.step (fun k => ?_) h
  simp only [spec_l1Begins.l1]; rw [if_neg (by omega), w64 (by omega)]
theorem l0_in (x0 : List Int) (T : Int) (R : Bool) (hT : T ≤ 4) (h : Ev (fun k => spec_l1Begins.l1 k x0 T 128) R) : Ev (fun k => spec_l1Begins.l0 k x0 T) R := by
  refine Ev.step (fun k => ?_) h
  simp only [spec_l1Begins.l0]; rw [if_pos hT]
theorem l0_out (x0 : List Int) (T : Int) (hT : 4 < T) : Ev (fun k => spec_l1Begins.l0 k x0 T) false :=
  ev_now fun k => by simp only [spec_l1Begins.l0]; rw [if_neg (by omega)]
theorem form4_ev (a b c d : Int) (ha : 128 ≤ a ∧ a ≤ 255) (hb : 0 ≤ b ∧ b ≤ 255) (hc : 0 ≤ c ∧ c ≤ 255) (hd : 0 ≤ d ∧ d ≤ 255) :
    ∃ v, Ev (fun k => spec_l1Form.f k [a, b, c, d]) (v, decide ((ldN a = 3 ∧ snd a b) ∧ cont c ∧ cont d)) ∧ ((ldN a = 3 ∧ snd a b) ∧ cont c ∧ cont d → v = v4 a b c d) := by
  obtain ⟨v, h, h2⟩ := form4 0 a b c d ha hb hc hd
  exact ⟨v, Ev.of (spec_l1Form.mono _) h, h2⟩
theorem form3_ev (a b c : Int) (ha : 128 ≤ a ∧ a ≤ 255) (hb : 0 ≤ b ∧ b ≤ 255) (hc : 0 ≤ c ∧ c ≤ 255) :
    ∃ v, Ev (fun k => spec_l1Form.f k [a, b, c]) (v, decide ((ldN a = 2 ∧ snd a b) ∧ cont c)) ∧ ((ldN a = 2 ∧ snd a b) ∧ cont c → v = v3 a b c) := by
  obtain ⟨v, h, h2⟩ := form3 0 a b c ha hb hc
  exact ⟨v, Ev.of (spec_l1Form.mono _) h, h2⟩
theorem form2_ev (a b : Int) (ha : 128 ≤ a ∧ a ≤ 255) (hb : 0 ≤ b ∧ b ≤ 255) :
    ∃ v, Ev (fun k => spec_l1Form.f k [a, b]) (v, decide (ldN a = 1 ∧ snd a b)) ∧ (ldN a = 1 ∧ snd a b → v = v2 a b) := by
  obtain ⟨v, h, h2⟩ := form2 0 a b ha hb
  exact ⟨v, Ev.of (spec_l1Form.mono _) h, h2⟩
theorem cont128 : cont 128 := by decide
theorem beg2 (a b : Int) (ha : 128 ≤ a ∧ a ≤ 255) (hb : 0 ≤ b ∧ b ≤ 255) : Ev (fun k => spec_l1Begins.f k [a, b]) (decide (2 ≤ ldN a ∧ snd a b)) := by
  unfold spec_l1Begins.f
  have hle := ld_le a
  refine Ev.congr (f := fun k => spec_l1Begins.l0 k [a, b] 3) (fun k => by rw [w64 (by simp)]; rfl) ?_
  refine l0_in _ _ _ (by decide) (l1_in _ _ _ _ (by decide) (by simp) ?_)
  simp only [List.length_cons, List.length_nil]
  rw [if_neg (by decide)]
  refine l2_pad _ _ _ _ _ (by simp) (by simp) ?_
  obtain ⟨v, hv, _⟩ := form3_ev a b 128 ha hb (by decide)
  refine l2_full _ _ _ _ v _ _ (by decide) (by decide) (by simp) hv ?_
  by_cases g : (ldN a = 2 ∧ snd a b) ∧ cont 128
  · rw [if_pos (by simpa using g)]; simp only [decide_eq_true_eq]; exact ⟨by omega, g.1.2⟩
  · rw [if_neg (by simpa using g), if_pos (by simp)]
    refine l0_in _ _ _ (by decide) (l1_in _ _ _ _ (by decide) (by simp) ?_)
    simp only [List.length_cons, List.length_nil]
    rw [if_neg (by decide)]
    refine l2_pad _ _ _ _ _ (by simp) (by simp) (l2_pad _ _ _ _ _ (by simp) (by simp) ?_)
    obtain ⟨v, hv, _⟩ := form4_ev a b 128 128 ha hb (by decide) (by decide)
    refine l2_full _ _ _ _ v _ _ (by decide) (by decide) (by simp) hv ?_
    by_cases g2 : (ldN a = 3 ∧ snd a b) ∧ cont 128 ∧ cont 128
    · rw [if_pos (by simpa using g2)]; simp only [decide_eq_true_eq]; exact ⟨by omega, g2.1.2⟩
    · rw [if_neg (by simpa using g2), if_pos (by simp), show decide (2 ≤ ldN a ∧ snd a b) = false by
        simp only [decide_eq_false_iff_not]; rintro ⟨h1, h2⟩
        rcases (show ldN a = 2 ∨ ldN a = 3 by omega) with h | h
        · exact g ⟨⟨h, h2⟩, cont128⟩
        · exact g2 ⟨⟨h, h2⟩, cont128, cont128⟩]
      exact l0_out _ _ (by decide)
theorem beg3' (a b c : Int) (ha : 128 ≤ a ∧ a ≤ 255) (hb : 0 ≤ b ∧ b ≤ 255) (hc : 0 ≤ c ∧ c ≤ 255) : Ev (fun k => spec_l1Begins.f k [a, b, c]) (decide ((ldN a = 3 ∧ snd a b) ∧ cont c)) := by
  unfold spec_l1Begins.f
  refine Ev.congr (f := fun k => spec_l1Begins.l0 k [a, b, c] 4) (fun k => by rw [w64 (by simp)]; rfl) ?_
  refine l0_in _ _ _ (by decide) (l1_in _ _ _ _ (by decide) (by simp) ?_)
  simp only [List.length_cons, List.length_nil]
  rw [if_neg (by decide)]
  refine l2_pad _ _ _ _ _ (by simp) (by simp) ?_
  obtain ⟨v, hv, _⟩ := form4_ev a b c 128 ha hb hc (by decide)
  refine l2_full _ _ _ _ v _ _ (by decide) (by decide) (by simp) hv ?_
  by_cases g : (ldN a = 3 ∧ snd a b) ∧ cont c ∧ cont 128
  · rw [if_pos (by simpa using g)]; simp only [decide_eq_true_eq]; exact ⟨g.1, g.2.1⟩
  · rw [if_neg (by simpa using g), if_pos (by simp), show decide ((ldN a = 3 ∧ snd a b) ∧ cont c) = false by
      simp only [decide_eq_false_iff_not]; exact fun h => g ⟨h.1, h.2, cont128⟩]
    exact l0_out _ _ (by decide)
/-- one round of the second bytes that are tried behind one first byte -/
theorem l2_one (a T s : Int) (n : Int) (hT : T = n + 1) (hn : 1 ≤ n ∧ n ≤ 3) (ha : 128 ≤ a ∧ a ≤ 255) (hs : 128 ≤ s ∧ s < 192) (R : Bool)
    (h : if ldN a = n ∧ snd a s then R = true else Ev (fun k => spec_l1Begins.l1 k [a] T (s + 1)) R) : Ev (fun k => spec_l1Begins.l2 k [a] T s [a, s]) R := by
  have e : ∀ (p : Prop) [Decidable p], (p ↔ ldN a = n ∧ snd a s) → (if decide p = true then R = true else if (([a] : List Int).length : Int) > 1 then Ev (fun k => spec_l1Begins.l0 k [a] (T + 1)) R else Ev (fun k => spec_l1Begins.l1 k [a] T (s + 1)) R) := by
    intro p _ hp
    by_cases c : ldN a = n ∧ snd a s
    · rw [if_pos c] at h; rw [if_pos (by simpa using hp.2 c)]; exact h
    · rw [if_neg c] at h; rw [if_neg (by simpa using fun x => c (hp.1 x)), if_neg (by simp)]; exact h
  rcases (show n = 1 ∨ n = 2 ∨ n = 3 by omega) with rfl | rfl | rfl
  · obtain ⟨v, hv, _⟩ := form2_ev a s ha (by omega)
    exact l2_full _ _ _ _ v _ _ (by omega) (by omega) (by simp; omega) hv (e _ Iff.rfl)
  · refine l2_pad _ _ _ _ _ (by simp; omega) (by simp) ?_
    obtain ⟨v, hv, _⟩ := form3_ev a s 128 ha (by omega) (by decide)
    exact l2_full _ _ _ _ v _ _ (by omega) (by omega) (by simp; omega) hv (e _ ⟨fun x => x.1, fun x => ⟨x, cont128⟩⟩)
  · refine l2_pad _ _ _ _ _ (by simp; omega) (by simp) (l2_pad _ _ _ _ _ (by simp; omega) (by simp) ?_)
    obtain ⟨v, hv, _⟩ := form4_ev a s 128 128 ha (by omega) (by decide) (by decide)
    exact l2_full _ _ _ _ v _ _ (by omega) (by omega) (by simp; omega) hv (e _ ⟨fun x => x.1, fun x => ⟨x, cont128, cont128⟩⟩)
theorem l1_one (a T : Int) (n : Int) (hT : T = n + 1) (hn : 1 ≤ n ∧ n ≤ 3) (ha : 128 ≤ a ∧ a ≤ 255) (R : Bool) (d : Nat) : ∀ s : Int, 128 ≤ s → s + d = 192 →
    ((ldN a = n ∧ ∃ s', s ≤ s' ∧ s' < 192 ∧ snd a s') → R = true) → (¬ (ldN a = n ∧ ∃ s', s ≤ s' ∧ s' < 192 ∧ snd a s') → Ev (fun k => spec_l1Begins.l0 k [a] (T + 1)) R) → Ev (fun k => spec_l1Begins.l1 k [a] T s) R := by
  induction d with
  | zero =>
    intro s h0 h1 hy hn'
    exact l1_out _ _ _ _ (by omega) (by omega) (hn' (by rintro ⟨_, s', h2, h3, _⟩; omega))
  | succ d ih =>
    intro s h0 h1 hy hn'
    refine l1_in _ _ _ _ (by omega) (by simp) ?_
    simp only [List.length_cons, List.length_nil]
    rw [if_pos trivial]
    refine l2_one a T s n hT hn ha (by omega) R ?_
    by_cases c : ldN a = n ∧ snd a s
    · rw [if_pos c]; exact hy ⟨c.1, s, by omega, by omega, c.2⟩
    · rw [if_neg c]
      refine ih (s + 1) (by omega) (by omega) (fun h => ?_) (fun h => ?_)
      · obtain ⟨e, s', q1, q2, q3⟩ := h
        exact hy ⟨e, s', by omega, q2, q3⟩
      · refine hn' ?_
        rintro ⟨e, s', q1, q2, q3⟩
        rcases (show s' = s ∨ s + 1 ≤ s' by omega) with rfl | q
        · exact c ⟨e, q3⟩
        · exact h ⟨e, s', q, q2, q3⟩
theorem some_snd (a : Int) (h : 1 ≤ ldN a) : ∃ s', 128 ≤ s' ∧ s' < 192 ∧ snd a s' := by
  by_cases c : a = 237 ∨ a = 244
  · exact ⟨128, by omega, by omega, by unfold snd ldLo ldHi; unfold ldN at h; omega⟩
  · exact ⟨191, by omega, by omega, by unfold snd ldLo ldHi; unfold ldN at h; omega⟩
theorem beg1 (a : Int) (ha : 128 ≤ a ∧ a ≤ 255) : Ev (fun k => spec_l1Begins.f k [a]) (decide (1 ≤ ldN a)) := by
  unfold spec_l1Begins.f
  refine Ev.congr (f := fun k => spec_l1Begins.l0 k [a] (1 + 1)) (fun k => by rw [w64 (by simp)]; rfl) ?_
  have hle := ld_le a
  have step : ∀ n : Int, 1 ≤ n ∧ n ≤ 3 → ∀ R : Bool, (if ldN a = n then R = true else Ev (fun k => spec_l1Begins.l0 k [a] (n + 1 + 1)) R) → Ev (fun k => spec_l1Begins.l0 k [a] (n + 1)) R := by
    intro n hn R h
    refine l0_in _ _ _ (by omega) (l1_one a (n + 1) n rfl hn ha R 64 128 (by omega) (by omega) (fun x => ?_) (fun x => ?_))
    · rw [if_pos x.1] at h; exact h
    · by_cases c : ldN a = n
      · exact absurd ⟨c, some_snd a (by omega)⟩ x
      · rw [if_neg c] at h; exact h
  refine step 1 (by omega) _ ?_
  by_cases c1 : ldN a = 1
  · rw [if_pos c1]; simp; omega
  rw [if_neg c1]
  refine step 2 (by omega) _ ?_
  by_cases c2 : ldN a = 2
  · rw [if_pos c2]; simp; omega
  rw [if_neg c2]
  refine step 3 (by omega) _ ?_
  by_cases c3 : ldN a = 3
  · rw [if_pos c3]; simp; omega
  rw [if_neg c3, show decide (1 ≤ ldN a) = false by simp; omega]
  exact l0_out _ _ (by omega)
-- the step
theorem s0_yes (q : List Int) (n : Nat) (v : Int) (hn : 1 ≤ n ∧ n ≤ 4) (hl : n ≤ q.length) (hv : -2147483648 ≤ v ∧ v ≤ 2147483647)
    (h : Ev (fun k => spec_l1Form.f k (q.take n)) (v, true)) : Ev (fun k => spec_l1Step.l0 k q (n : Int)) (v, (n : Int)) := by
  refine Ev.step (f := fun k => spec_l1Step.j2 k q (n : Int) true) (fun k => by simp only [spec_l1Step.l0]; rw [if_pos (by omega), decide_eq_true (by omega)]) ?_
  refine Ev.step (fun k => by simp only [spec_l1Step.j2]; rw [if_pos (by simp), if_pos (by omega), if_pos (by omega), Int.toNat_natCast]) ?_
  refine Ev.bind h ?_
  exact ev_const fun k => by simp only [if_true]; rw [show wrap32 v = v by unfold wrap32; omega]
theorem s0_no (q : List Int) (n : Nat) (v : Int) (R : Int × Int) (hn : 1 ≤ n ∧ n ≤ 4) (hl : n ≤ q.length)
    (h : Ev (fun k => spec_l1Form.f k (q.take n)) (v, false)) (hR : Ev (fun k => spec_l1Step.l0 k q ((n + 1 : Nat) : Int)) R) : Ev (fun k => spec_l1Step.l0 k q (n : Int)) R := by
  refine Ev.step (f := fun k => spec_l1Step.j2 k q (n : Int) true) (fun k => by simp only [spec_l1Step.l0]; rw [if_pos (by omega), decide_eq_true (by omega)]) ?_
  refine Ev.step (fun k => by simp only [spec_l1Step.j2]; rw [if_pos (by simp), if_pos (by omega), if_pos (by omega), Int.toNat_natCast]) ?_
  refine Ev.bind h ?_
  exact Ev.congr (fun k => by simp only [Bool.false_eq_true, if_false]; rw [w64 (by omega)]; rfl) hR
theorem s0_end (q : List Int) (n : Nat) (R : Int × Int) (hn : 1 ≤ n) (hl : 4 < n ∨ q.length < n) (hR : Ev (fun k => spec_l1Step.l1 k q 1 1) R) : Ev (fun k => spec_l1Step.l0 k q (n : Int)) R := by
  refine Ev.step (f := fun k => spec_l1Step.j2 k q (n : Int) false) (fun k => ?_) (Ev.step (fun k => by simp only [spec_l1Step.j2]; rw [if_neg (by simp)]) hR)
  simp only [spec_l1Step.l0]
  by_cases c : (n : Int) ≤ 4
  · rw [if_pos c, decide_eq_false (by omega)]
  · rw [if_neg c]
theorem s1_in (q : List Int) (t : Int) (n : Nat) (b : Bool) (R : Int × Int) (hn : 1 ≤ n ∧ n ≤ 3) (hl : n ≤ q.length)
    (h : Ev (fun k => spec_l1Begins.f k (q.take n)) b) (hR : Ev (fun k => spec_l1Step.l1 k q (if b = true then (n : Int) else t) ((n + 1 : Nat) : Int)) R) : Ev (fun k => spec_l1Step.l1 k q t (n : Int)) R := by
  refine Ev.step (f := fun k => spec_l1Step.j4 k q t (n : Int) true) (fun k => by simp only [spec_l1Step.l1]; rw [if_pos (by omega), decide_eq_true (by omega)]) ?_
  refine Ev.step (fun k => by simp only [spec_l1Step.j4]; rw [if_pos (by simp), if_pos (by omega), if_pos (by omega), Int.toNat_natCast]) ?_
  refine Ev.bind h ?_
  have e : wrap64 ((n : Int) + 1) = ((n + 1 : Nat) : Int) := by rw [w64 (by omega)]; rfl
  cases b with
  | true => exact Ev.congr (fun k => by rw [if_pos rfl, e]; rfl) hR
  | false => exact Ev.congr (fun k => by rw [if_neg (by simp), e]; rfl) hR
theorem s1_end (q : List Int) (t : Int) (n : Nat) (hn : 1 ≤ n) (hl : 3 < n ∨ q.length < n) : Ev (fun k => spec_l1Step.l1 k q t (n : Int)) (65533, t) := by
  refine Ev.step (f := fun k => spec_l1Step.j4 k q t (n : Int) false) (fun k => ?_) (ev_now fun k => by simp only [spec_l1Step.j4]; rw [if_neg (by simp)])
  simp only [spec_l1Step.l1]
  by_cases c : (n : Int) ≤ 3
  · rw [if_pos c, decide_eq_false (by omega)]
  · rw [if_neg c]
theorem t1 (q : List Int) (h : 1 ≤ q.length) : q.take 1 = [rd q 0] := by match q, h with | a :: t, _ => rfl
theorem t2 (q : List Int) (h : 2 ≤ q.length) : q.take 2 = [rd q 0, rd q 1] := by match q, h with | a :: b :: t, _ => rfl
theorem t3 (q : List Int) (h : 3 ≤ q.length) : q.take 3 = [rd q 0, rd q 1, rd q 2] := by match q, h with | a :: b :: c :: t, _ => rfl
theorem t4 (q : List Int) (h : 4 ≤ q.length) : q.take 4 = [rd q 0, rd q 1, rd q 2, rd q 3] := by match q, h with | a :: b :: c :: d :: t, _ => rfl
theorem v_small (a b c d : Int) (ha : 0 ≤ a ∧ a ≤ 255) (hb : 0 ≤ b ∧ b ≤ 255) (hc : 0 ≤ c ∧ c ≤ 255) (hd : 0 ≤ d ∧ d ≤ 255) :
    (-2147483648 ≤ v2 a b ∧ v2 a b ≤ 2147483647) ∧ (-2147483648 ≤ v3 a b c ∧ v3 a b c ≤ 2147483647) ∧ (-2147483648 ≤ v4 a b c d ∧ v4 a b c d ≤ 2147483647) := by unfold v2 v3 v4; omega
theorem step_is (q : List Int) (hq : bytes q) (h1 : 1 ≤ q.length) : Ev (fun k => spec_l1Step.f k q) (dec1 q) := by
  have b0 : ∀ i : Nat, i < q.length → 0 ≤ rd q i ∧ rd q i ≤ 255 := fun i hi => by rw [rd_at q i hi]; exact hq _ (List.getElem_mem hi)
  have ha := b0 0 h1
  simp only [Int.natCast_zero] at ha
  unfold spec_l1Step.f
  refine Ev.congr (fun k => by rw [if_pos (by omega), if_pos (by omega)]) ?_
  unfold dec1
  dsimp only
  by_cases c0 : rd q 0 < 128
  · rw [if_pos c0]
    exact ev_now fun k => by simp only [spec_l1Step.j0]; rw [if_pos (by simpa using c0), if_pos (by omega), show wrap32 (rd q 0) = rd q 0 by unfold wrap32; omega]
  rw [if_neg c0]
  refine Ev.step (f := fun k => spec_l1Step.l0 k q ((1 : Nat) : Int)) (fun k => by simp only [spec_l1Step.j0]; rw [if_neg (by simpa using c0)]; rfl) ?_
  have ha' : 128 ≤ rd q 0 ∧ rd q 0 ≤ 255 := by omega
  have hle := ld_le (rd q 0)
  refine s0_no q 1 (rd q 0) _ (by omega) h1 (by rw [t1 q h1]; exact ev_form fun k => form1 k _ ha') ?_
  have g1 := beg1 (rd q 0) ha'
  by_cases l2 : q.length < 2
  · rw [if_pos (by omega)]
    refine s0_end _ _ _ (by omega) (by omega) (s1_in q 1 1 _ _ (by omega) h1 (by rw [t1 q h1]; exact g1) ?_)
    simp only [Int.natCast_one, ite_self]
    exact s1_end _ _ _ (by omega) (by omega)
  have hb := b0 1 (by omega)
  simp only [Int.natCast_one] at hb
  have g2 := beg2 (rd q 0) (rd q 1) ha' hb
  obtain ⟨w2, hw2, ew2⟩ := form2_ev (rd q 0) (rd q 1) ha' hb
  rw [← t2 q (by omega)] at hw2
  by_cases y2 : ldN (rd q 0) = 1 ∧ snd (rd q 0) (rd q 1)
  · rw [if_neg (by rintro (h | h | h) <;> first | omega | exact h y2.2), if_pos y2.1]
    rw [show decide (ldN (rd q 0) = 1 ∧ snd (rd q 0) (rd q 1)) = true by simpa using y2, ew2 y2] at hw2
    exact s0_yes q 2 _ (by omega) (by omega) (by unfold v2; omega) hw2
  rw [show decide (ldN (rd q 0) = 1 ∧ snd (rd q 0) (rd q 1)) = false by simpa using y2] at hw2
  refine s0_no q 2 w2 _ (by omega) (by omega) hw2 ?_
  by_cases l3 : q.length < 3
  · refine s0_end _ _ _ (by omega) (by omega) (s1_in q 1 1 _ _ (by omega) h1 (by rw [t1 q h1]; exact g1) ?_)
    simp only [Int.natCast_one, ite_self]
    refine s1_in q 1 2 _ _ (by omega) (by omega) (by rw [t2 q (by omega)]; exact g2) ?_
    by_cases z : ldN (rd q 0) = 0 ∨ q.length < 2 ∨ ¬ snd (rd q 0) (rd q 1)
    · rw [if_pos z, if_neg (show ¬ decide (2 ≤ ldN (rd q 0) ∧ snd (rd q 0) (rd q 1)) = true by simp only [decide_eq_true_eq]; rintro ⟨p1, p2⟩; rcases z with z | z | z <;> first | omega | exact z p2)]
      exact s1_end _ _ _ (by omega) (by omega)
    · have z2 : snd (rd q 0) (rd q 1) := by simp only [not_or, Decidable.not_not] at z; exact z.2.2
      have z1 : ldN (rd q 0) ≠ 1 := fun x => y2 ⟨x, z2⟩
      have z0 : ldN (rd q 0) ≠ 0 := fun x => z (Or.inl x)
      rw [if_neg z, if_neg z1, if_pos (Or.inl l3), if_pos (show decide (2 ≤ ldN (rd q 0) ∧ snd (rd q 0) (rd q 1)) = true by simp only [decide_eq_true_eq]; exact ⟨by omega, z2⟩)]
      exact s1_end _ _ _ (by omega) (by omega)
  have hc := b0 2 (by omega)
  simp only [Int.cast_ofNat_Int] at hc
  have g3 := beg3' (rd q 0) (rd q 1) (rd q 2) ha' hb hc
  obtain ⟨w3, hw3, ew3⟩ := form3_ev (rd q 0) (rd q 1) (rd q 2) ha' hb hc
  rw [← t3 q (by omega)] at hw3
  by_cases y3 : (ldN (rd q 0) = 2 ∧ snd (rd q 0) (rd q 1)) ∧ cont (rd q 2)
  · rw [if_neg (by rintro (h | h | h) <;> first | omega | exact h y3.1.2), if_neg (by omega), if_neg (by rintro (h | h) <;> first | omega | exact h y3.2), if_pos y3.1.1]
    rw [show decide ((ldN (rd q 0) = 2 ∧ snd (rd q 0) (rd q 1)) ∧ cont (rd q 2)) = true by simpa using y3, ew3 y3] at hw3
    exact s0_yes q 3 _ (by omega) (by omega) (by unfold v3; omega) hw3
  rw [show decide ((ldN (rd q 0) = 2 ∧ snd (rd q 0) (rd q 1)) ∧ cont (rd q 2)) = false by simpa using y3] at hw3
  refine s0_no q 3 w3 _ (by omega) (by omega) hw3 ?_
  -- what the second loop tells
  have tail : ∀ R, R = (if decide ((ldN (rd q 0) = 3 ∧ snd (rd q 0) (rd q 1)) ∧ cont (rd q 2)) = true then (3 : Int) else if decide (2 ≤ ldN (rd q 0) ∧ snd (rd q 0) (rd q 1)) = true then 2 else 1) →
      Ev (fun k => spec_l1Step.l1 k q 1 1) (65533, R) := by
    intro R hR
    refine s1_in q 1 1 _ _ (by omega) h1 (by rw [t1 q h1]; exact g1) ?_
    simp only [Int.natCast_one, ite_self]
    refine s1_in q 1 2 _ _ (by omega) (by omega) (by rw [t2 q (by omega)]; exact g2) ?_
    refine s1_in q _ 3 _ _ (by omega) (by omega) (by rw [t3 q (by omega)]; exact g3) ?_
    rw [hR]
    exact s1_end _ _ _ (by omega) (by omega)
  by_cases y4 : 4 ≤ q.length ∧ (ldN (rd q 0) = 3 ∧ snd (rd q 0) (rd q 1)) ∧ cont (rd q 2) ∧ cont (rd q 3)
  · obtain ⟨l4, y4⟩ := y4
    have hd := b0 3 (by omega)
    simp only [Int.cast_ofNat_Int] at hd
    obtain ⟨w4, hw4, ew4⟩ := form4_ev (rd q 0) (rd q 1) (rd q 2) (rd q 3) ha' hb hc hd
    rw [← t4 q (by omega)] at hw4
    rw [if_neg (by rintro (h | h | h) <;> first | omega | exact h y4.1.2), if_neg (by omega), if_neg (by rintro (h | h) <;> first | omega | exact h y4.2.1), if_neg (by omega), if_neg (by rintro (h | h) <;> first | omega | exact h y4.2.2)]
    rw [show decide ((ldN (rd q 0) = 3 ∧ snd (rd q 0) (rd q 1)) ∧ cont (rd q 2) ∧ cont (rd q 3)) = true by simpa using y4, ew4 y4] at hw4
    exact s0_yes q 4 _ (by omega) (by omega) (by unfold v4; omega) hw4
  have fin : Ev (fun k => spec_l1Step.l0 k q ((3 + 1 : Nat) : Int)) (65533, if decide ((ldN (rd q 0) = 3 ∧ snd (rd q 0) (rd q 1)) ∧ cont (rd q 2)) = true then (3 : Int) else if decide (2 ≤ ldN (rd q 0) ∧ snd (rd q 0) (rd q 1)) = true then 2 else 1) := by
    by_cases l4 : 4 ≤ q.length
    · have hd := b0 3 (by omega)
      simp only [Int.cast_ofNat_Int] at hd
      obtain ⟨w4, hw4, _⟩ := form4_ev (rd q 0) (rd q 1) (rd q 2) (rd q 3) ha' hb hc hd
      rw [← t4 q (by omega), show decide ((ldN (rd q 0) = 3 ∧ snd (rd q 0) (rd q 1)) ∧ cont (rd q 2) ∧ cont (rd q 3)) = false by simp only [decide_eq_false_iff_not]; exact fun h => y4 ⟨l4, h⟩] at hw4
      exact s0_no q 4 w4 _ (by omega) (by omega) hw4 (s0_end _ _ _ (by omega) (by omega) (tail _ rfl))
    · exact s0_end _ _ _ (by omega) (by omega) (tail _ rfl)
  by_cases z : ldN (rd q 0) = 0 ∨ q.length < 2 ∨ ¬ snd (rd q 0) (rd q 1)
  · rw [if_pos z]
    have n3 : ¬ ((ldN (rd q 0) = 3 ∧ snd (rd q 0) (rd q 1)) ∧ cont (rd q 2)) := by rintro ⟨⟨p1, p2⟩, _⟩; rcases z with z | z | z <;> first | omega | exact z p2
    have n2 : ¬ (2 ≤ ldN (rd q 0) ∧ snd (rd q 0) (rd q 1)) := by rintro ⟨p1, p2⟩; rcases z with z | z | z <;> first | omega | exact z p2
    rw [if_neg (by simpa using n3), if_neg (by simpa using n2)] at fin
    exact fin
  have z2 : snd (rd q 0) (rd q 1) := by simp only [not_or, Decidable.not_not] at z; exact z.2.2
  have z1 : ldN (rd q 0) ≠ 1 := fun x => y2 ⟨x, z2⟩
  have z0 : ldN (rd q 0) ≠ 0 := fun x => z (Or.inl x)
  have p2 : 2 ≤ ldN (rd q 0) ∧ snd (rd q 0) (rd q 1) := ⟨by omega, z2⟩
  rw [if_pos (show decide (2 ≤ ldN (rd q 0) ∧ snd (rd q 0) (rd q 1)) = true by simpa using p2)] at fin
  rw [if_neg z, if_neg z1]
  by_cases u : q.length < 3 ∨ ¬ cont (rd q 2)
  · have u2 : ¬ cont (rd q 2) := by rcases u with u | u; exact absurd u l3; exact u
    rw [if_pos u]
    rw [if_neg (show ¬ decide ((ldN (rd q 0) = 3 ∧ snd (rd q 0) (rd q 1)) ∧ cont (rd q 2)) = true by simp only [decide_eq_true_eq]; exact fun x => u2 x.2)] at fin
    exact fin
  have u2 : cont (rd q 2) := by simp only [not_or, Decidable.not_not] at u; exact u.2
  have e3 : ldN (rd q 0) = 3 := by have : ldN (rd q 0) ≠ 2 := fun x => y3 ⟨⟨x, z2⟩, u2⟩; omega
  rw [if_pos (show decide ((ldN (rd q 0) = 3 ∧ snd (rd q 0) (rd q 1)) ∧ cont (rd q 2)) = true by simp only [decide_eq_true_eq]; exact ⟨⟨e3, z2⟩, u2⟩)] at fin
  rw [if_neg u, if_neg (by omega), if_pos]
  · exact fin
  · by_cases l4 : q.length < 4
    · exact Or.inl l4
    · exact Or.inr fun x => y4 ⟨by omega, ⟨e3, z2⟩, u2, x⟩
-- the whole
theorem spec_dec_loop (p : List Int) (hp : bytes p) (hn : p.length ≤ 1048576) (n : Nat) : ∀ (i : Nat) (acc : List Int), i ≤ p.length → p.length - i ≤ n → n + acc.length ≤ 2000000 →
    Ev (fun k => spec_DecodeText.l0 k p acc (i : Int)) (acc ++ dec n (p.drop i)) := by
  induction n with
  | zero => intro i acc h h2 _; refine ev_now fun k => ?_; simp only [spec_DecodeText.l0]; rw [if_neg (by omega)]; simp [dec]
  | succ n ih =>
    intro i acc h h2 hs
    unfold dec
    by_cases c : i = p.length
    · rw [if_pos (by simp; omega)]; refine ev_now fun k => ?_; simp only [spec_DecodeText.l0]; rw [if_neg (by omega)]; simp
    rw [if_neg (by simp; omega)]
    have t := dec1_took (p.drop i) (by simp; omega)
    simp only [List.length_drop] at t
    refine Ev.step (fun k => by simp only [spec_DecodeText.l0]; rw [if_pos (by omega), if_pos (by omega), if_pos (by omega), Int.toNat_natCast]) ?_
    refine Ev.bind (step_is (p.drop i) (bytes_drop hp i) (by simp; omega)) ?_
    have e := ih (i + (dec1 (p.drop i)).2.toNat) (acc ++ [(dec1 (p.drop i)).1]) (by omega) (by omega) (by simp; omega)
    refine Ev.congr (fun k => by rw [if_pos (by omega), w64 (by omega)]) ?_
    rw [show ((i + (dec1 (p.drop i)).2.toNat : Nat) : Int) = (i : Int) + (dec1 (p.drop i)).2 by omega] at e
    simpa [List.drop_drop] using e
theorem bytes_of {xs : List Int} (h : ∀ x ∈ xs, (Lit.int .u8 x).wf = true) : bytes xs := fun x hx => bounds_u8 (h x hx)

theorem dec_ev (xs : List Int) (hn : xs.length ≤ 1048576) (hw : bytes xs) : Ev (fun k => spec_DecodeText.f k xs) (dec xs.length xs) := by
  have := spec_dec_loop xs hw hn xs.length 0 [] (by omega) (by omega) (by simp; omega)
  simpa [spec_DecodeText.f] using this
theorem spec_ev (xs bs : List Int) (hn : xs.length ≤ 1048576) (hb : bs.length ≤ 1048576) (hw : bytes bs) : Ev (fun k => spec_StoreAppend.f k xs bs) (storeAppendV xs bs) := by
  unfold spec_StoreAppend.f storeAppendV
  have hl := dec_length bs.length bs (Nat.le_refl _)
  refine Ev.bind (dec_ev bs hb hw) ?_
  generalize dec bs.length bs = rs at hl
  by_cases c : (220000 : Int) < (xs.length : Int) + (rs.length : Int)
  · rw [if_pos c]
    exact ev_const fun k => by rw [if_pos (by rw [w64 (by omega)]; exact c)]
  · rw [if_neg c]
    refine Ev.congr (fun k => if_neg (by rw [w64 (by omega)]; exact c)) ?_
    refine Ev.bind (ev_const (fun _ => rfl)) ?_
    refine Ev.congr (fun k => if_pos (by simp only [List.length_nil]; omega)) ?_
    refine Ev.bind (ev_const (fun _ => rfl)) ?_
    refine Ev.congr (fun k => if_pos (by simp only [List.nil_append]; omega)) ?_
    simp only [List.nil_append]
    exact ev_const fun _ => rfl
theorem sa_len (xs bs : List Int) : (storeAppendV xs bs).1.length ≤ xs.length + bs.length := by
  have hl := dec_length bs.length bs (Nat.le_refl _)
  unfold storeAppendV
  split
  · simp
  · simp only [List.length_append]; omega
theorem eqSpan_is (a b : Int) : laws_eqSpan.f a b a b = some true := by unfold laws_eqSpan.f; rw [if_pos rfl, if_pos rfl]
theorem law (xs bs : List Int) (hw : bytes bs) : ∃ k, laws_FnExactStoreAppend.f k xs bs = some true := by
  refine Ev.rounds (g := fun k => laws_FnExactStoreAppend.f k xs bs) ?_
  unfold laws_FnExactStoreAppend.f
  by_cases hn : (xs.length : Int) > 1048576
  · exact ev_const fun k => by rw [if_pos hn]
  refine Ev.congr (fun k => if_neg hn) ?_
  by_cases hb : (bs.length : Int) > 1048576
  · exact ev_const fun k => by rw [if_pos hb]
  refine Ev.congr (fun k => if_neg hb) ?_
  have hn' : xs.length ≤ 1048576 := by omega
  have hb' : bs.length ≤ 1048576 := by omega
  have hl := sa_len xs bs
  have hs := spec_ev xs bs hn' hb' hw
  have hi : impl_StoreAppend.f xs bs = some (storeAppendV xs bs) := by unfold impl_StoreAppend.f; rw [if_pos ⟨by omega, by omega, hw⟩]
  generalize storeAppendV xs bs = R at hl hs hi
  obtain ⟨ys, o, n, c⟩ := R
  simp only at hl
  refine Ev.bind (toInt32S_ev xs hn') ?_
  refine Ev.bind (toByteS_ev bs hb') ?_
  refine Ev.bind hs ?_
  refine Ev.bind (toInt32S_ev xs hn') ?_
  refine Ev.bind (toByteS_ev bs hb') ?_
  refine Ev.bind (ev_const (fun _ => hi)) ?_
  refine Ev.bind (eqInt32S_ev ys (by omega)) ?_
  refine Ev.congr (fun k => if_pos rfl) ?_
  refine Ev.bind (ev_const (fun _ => eqSpan_is _ _)) ?_
  refine Ev.congr (fun k => if_pos rfl) ?_
  refine Ev.step (fun k => by simp only [laws_FnExactStoreAppend.j0]; rw [if_neg (by simp)]) ?_
  refine Ev.bind (toInt32S_ev xs hn') ?_
  refine Ev.bind (eqInt32S_ev xs (by omega)) ?_
  refine Ev.congr (fun k => if_pos (by first | trivial | rfl)) ?_
  refine Ev.bind (toByteS_ev bs hb') ?_
  refine Ev.bind (eqByteS_ev bs (by omega)) ?_
  refine Ev.congr (fun k => if_pos (by first | trivial | rfl)) ?_
  refine Ev.bind (markInt32S_ev xs (by omega)) ?_
  refine Ev.bind (markByteS_from _ (by dsimp only; omega) bs (by omega)) ?_
  refine Ev.congr (fun k => if_neg (by dsimp only; omega)) ?_
  refine Ev.bind (eqInt32S_ev ys (by omega)) ?_
  refine Ev.congr (fun k => if_pos (by first | trivial | rfl)) ?_
  refine Ev.bind (ev_const (fun _ => eqSpan_is _ _)) ?_
  refine Ev.congr (fun k => if_pos (by first | trivial | rfl)) ?_
  refine Ev.step (fun k => by simp only [laws_FnExactStoreAppend.j1]; rw [if_neg (by simp)]) ?_
  refine Ev.bind (markInt32S_ev ys (by omega)) ?_
  refine Ev.bind (heldInt32S_ev ys.length (by omega)) ?_
  refine Ev.congr (fun k => if_neg (by omega)) ?_
  refine Ev.congr (fun k => if_pos (by first | trivial | rfl)) ?_
  refine Ev.bind (toInt32S_ev xs hn') ?_
  refine Ev.bind (toByteS_ev bs hb') ?_
  refine Ev.bind (ev_const (fun _ => hi)) ?_
  refine Ev.bind (eqInt32S_ev ys (by omega)) ?_
  refine Ev.congr (fun k => if_pos (by first | trivial | rfl)) ?_
  refine Ev.bind (ev_const (fun _ => eqSpan_is _ _)) ?_
  refine Ev.congr (fun k => if_pos (by first | trivial | rfl)) ?_
  refine Ev.step (fun k => by simp only [laws_FnExactStoreAppend.j2]; rw [if_neg (by simp)]) ?_
  refine Ev.bind (heldInt32S_ev ys.length (by omega)) ?_
  refine Ev.congr (fun k => if_neg (by omega)) ?_
  exact ev_const fun k => if_pos (by first | trivial | rfl)
end Go.Proofs.YtohckpdlpadgcaaDoor.PureFnExactStoreAppend
