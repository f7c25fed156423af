/- For every list of bytes the law FnStore tells true. No condition. -/
import Derived.Test.YtefdjajmnkmbgaaDoorQFnStorex7
import Derived.OpenShut
import Derived.Lib.Strings
namespace Go.Proofs.YtefdjajmnkmbgaaDoor.PureFnStore
open Go Go.RowKit Go.Proofs.YtefdjajmnkmbgaaDoor.Dec Go.Proofs.YtefdjajmnkmbgaaDoor.QFnStore Go.Proofs.YtefdjajmnkmbgaaDoorW.PrintWords Go.Proofs.YtefdjajmnkmbgaaDoorW.PrintLast
abbrev bytes := Dec.bytes

theorem w64 {x : Int} (h : -9223372036854775808 ≤ x ∧ x ≤ 9223372036854775807) : wrap64 x = x := by unfold wrap64; omega
theorem ev_now {α : Type} {g : Nat → Option α} {r : α} (h : ∀ k, g (k + 1) = some r) : Ev g r :=
  ⟨1, fun k hk => by obtain ⟨m, rfl⟩ : ∃ m, k = m + 1 := ⟨k - 1, by omega⟩; exact h m⟩
theorem ev_const {α : Type} {g : Nat → Option α} {r : α} (h : ∀ k, g k = some r) : Ev g r := ⟨0, fun k _ => h k⟩
theorem rd_at (xs : List Int) (i : Nat) (h : i < xs.length) : rd xs (i : Int) = xs[i] := by
  unfold rd; simp [List.getD, h]
def mk (f : Int → Int) (k : Int) (n : Nat) : List Int := (List.range n).map fun j => f (k + (j : Nat))
theorem mk_length (f : Int → Int) (k : Int) (n : Nat) : (mk f k n).length = n := by simp [mk]
theorem mk_get (f : Int → Int) (k : Int) (n i : Nat) (h : i < n) : rd (mk f k n) (i : Int) = f (k + i) := by
  rw [rd_at _ _ (by simpa [mk] using h)]; simp [mk]
open Go (IntKind.wrap_u8)
/-- what one rune is written as -/
def badR (r : Int) : Prop := r < 0 ∨ 1114111 < r ∨ (55296 ≤ r ∧ r ≤ 57343)
instance (r : Int) : Decidable (badR r) := by unfold badR; exact inferInstance
def encB (r : Int) : List Int :=
  if badR r then [239, 191, 189] else if r < 128 then [r] else if r < 2048 then [192 + r / 64, 128 + r % 64]
  else if r < 65536 then [224 + r / 4096, 128 + r / 64 % 64, 128 + r % 64]
  else [240 + r / 262144, 128 + r / 4096 % 64, 128 + r / 64 % 64, 128 + r % 64]
theorem encB_length (r : Int) : (encB r).length ≤ 4 := by
  unfold encB; repeat' split
  all_goals simp
theorem l1Bytes_j (k : Nat) (r : Int) (b : Bool) (hb : b = decide (badR r)) : spec_l1Bytes.j0 (k + 1) r b = some (encB r) := by
  simp only [spec_l1Bytes.j0]
  subst hb
  unfold encB
  by_cases h : badR r
  · rw [if_pos (by simpa using h), if_pos h]
  · rw [if_neg (by simpa using h), if_neg h]
    unfold badR at h
    have h0 : 0 ≤ r := by omega
    have t1 : ∀ n : Int, 0 < n → Int.tdiv r n = r / n := fun n _ => Int.tdiv_eq_ediv_of_nonneg h0
    have t2 : ∀ n : Int, 0 < n → Int.tmod r n = r % n := fun n _ => Int.tmod_eq_emod_of_nonneg h0
    by_cases h1 : r < 128
    · rw [if_pos h1, if_pos h1]; simp; omega
    · rw [if_neg h1, if_neg h1]
      by_cases h2 : r < 2048
      · rw [if_pos h2, if_pos h2, t1 _ (by omega), t2 _ (by omega), w64 (x := r / 64) (by omega), w64 (by omega), w64 (by omega)]
        simp; omega
      · rw [if_neg h2, if_neg h2]
        by_cases h3 : r < 65536
        · rw [if_pos h3, if_pos h3, t1 _ (by omega), t1 _ (by omega), t2 _ (by omega), w64 (x := r / 4096) (by omega), w64 (x := r / 64) (by omega), Int.tmod_eq_emod_of_nonneg (by omega), w64 (by omega), w64 (by omega), w64 (by omega)]
          simp; omega
        · rw [if_neg h3, if_neg h3, t1 _ (by omega), t1 _ (by omega), t1 _ (by omega), t2 _ (by omega), w64 (x := r / 262144) (by omega), w64 (x := r / 4096) (by omega), w64 (x := r / 64) (by omega), Int.tmod_eq_emod_of_nonneg (by omega), Int.tmod_eq_emod_of_nonneg (by omega), w64 (by omega), w64 (by omega), w64 (by omega), w64 (by omega)]
          simp; omega
theorem l1Bytes_at (k : Nat) (r : Int) : spec_l1Bytes.f (k + 1) r = some (encB r) := by
  unfold spec_l1Bytes.f
  by_cases h0 : r < 0
  · rw [if_pos h0]; exact l1Bytes_j k r true (decide_eq_true (by unfold badR; omega)).symm
  · rw [if_neg h0]
    by_cases h1 : r > 1114111
    · rw [if_pos h1]; exact l1Bytes_j k r true (decide_eq_true (by unfold badR; omega)).symm
    · rw [if_neg h1]
      by_cases h2 : r ≥ 55296
      · rw [if_pos h2]; exact l1Bytes_j k r _ (decide_eq_decide.2 (by unfold badR; omega))
      · rw [if_neg h2]; exact l1Bytes_j k r false (decide_eq_false (by unfold badR; omega)).symm
theorem ld1 (a b : Int) : ldN a = 1 ∧ snd a b ↔ 194 ≤ a ∧ a ≤ 223 ∧ 128 ≤ b ∧ b ≤ 191 := by unfold ldN snd ldLo ldHi; omega
theorem ld2 (a b : Int) : ldN a = 2 ∧ snd a b ↔ 224 ≤ a ∧ a ≤ 239 ∧ 128 ≤ b ∧ b ≤ 191 ∧ (a = 224 → 160 ≤ b) ∧ (a = 237 → b ≤ 159) := by unfold ldN snd ldLo ldHi; omega
theorem ld3 (a b : Int) : ldN a = 3 ∧ snd a b ↔ 240 ≤ a ∧ a ≤ 244 ∧ 128 ≤ b ∧ b ≤ 191 ∧ (a = 240 → 144 ≤ b) ∧ (a = 244 → b ≤ 143) := by unfold ldN snd ldLo ldHi; omega
theorem ld_le (a : Int) : 0 ≤ ldN a ∧ ldN a ≤ 3 := by unfold ldN; omega
theorem same_is (xs ys : List Int) (hx : bytes xs) (hy : bytes ys) : spec_l1Same.f xs ys = some (decide (xs = ys)) := by
  unfold spec_l1Same.f
  have key : ∀ (xs ys : List Int), bytes xs → bytes ys → xs.map (fun n => UInt8.ofNat n.toNat) = ys.map (fun n => UInt8.ofNat n.toNat) → xs = ys := by
    intro xs
    induction xs with
    | nil => intro ys _ _ h; cases ys <;> simp_all
    | cons a t ih =>
      intro ys hx hy h
      cases ys with
      | nil => simp at h
      | cons b u =>
        simp only [List.map_cons, List.cons.injEq] at h
        have ha := hx a (by simp)
        have hb := hy b (by simp)
        have e := congrArg UInt8.toNat h.1
        simp only [UInt8.toNat_ofNat'] at e
        rw [ih u (fun x hx' => hx x (by simp [hx'])) (fun x hx' => hy x (by simp [hx'])) h.2, show a = b by omega]
  congr 1
  rw [Bool.eq_iff_iff]
  simp only [beq_iff_eq, decide_eq_true_eq]
  constructor
  · intro h
    refine key xs ys hx hy ?_
    have h2 : (strOfNums xs).data.toList = (strOfNums ys).data.toList := by rw [← Lib.toList_data, ← Lib.toList_data]; exact h
    simpa [strOfNums] using h2
  · rintro rfl; rfl
theorem encB_bytes (r : Int) : bytes (encB r) := by
  unfold encB
  intro x hx
  repeat' split at hx
  all_goals (simp only [badR, List.mem_cons, List.not_mem_nil, or_false] at *; omega)
theorem formJ (k : Nat) (q : List Int) (v : Int) (hq : bytes q) : spec_l1Form.j0 (k + 2) q v = some (if v < 0 then (0, false) else (v, decide (encB v = q))) := by
  simp only [spec_l1Form.j0]
  by_cases c : v < 0
  · rw [if_pos c, if_pos c]
  · rw [if_neg c, if_neg c, l1Bytes_at]; simp only [Option.bind_some]; rw [same_is _ _ (encB_bytes v) hq]; rfl
theorem b2 {a b : Int} (ha : 0 ≤ a ∧ a ≤ 255) (hb : 0 ≤ b ∧ b ≤ 255) : bytes [a, b] := by intro x hx; simp at hx; omega
theorem form1 (k : Nat) (a : Int) (h : 128 ≤ a ∧ a ≤ 255) : spec_l1Form.f (k + 2) [a] = some (a, false) := by
  unfold spec_l1Form.f
  rw [if_pos (by simp), if_pos (by simp), formJ _ _ _ (by intro x hx; simp at hx; omega), show rd [a] 0 = a from rfl, w64 (by omega), if_neg (by omega)]
  congr 2
  simp only [decide_eq_false_iff_not]
  unfold encB; repeat' split
  all_goals (simp only [badR, List.cons.injEq, reduceCtorEq, and_false, not_false_eq_true] at *)
  omega
theorem form2 (k : Nat) (a b : Int) (ha : 128 ≤ a ∧ a ≤ 255) (hb : 0 ≤ b ∧ b ≤ 255) :
    ∃ v, spec_l1Form.f (k + 2) [a, b] = some (v, decide (ldN a = 1 ∧ snd a b)) ∧ (ldN a = 1 ∧ snd a b → v = v2 a b) := by
  unfold spec_l1Form.f
  rw [if_neg (by simp), if_pos (by simp), if_pos (by simp), if_pos (by simp), formJ _ _ _ (by intro x hx; simp at hx; omega), show rd [a, b] 0 = a from rfl, show rd [a, b] 1 = b from rfl]
  simp only [w64 (x := a) (by omega), w64 (x := b) (by omega), w64 (x := a - 192) (by omega), w64 (x := (a - 192) * 64) (by omega), w64 (x := (a - 192) * 64 + b) (by omega), w64 (x := (a - 192) * 64 + b - 128) (by omega)]
  by_cases c : (a - 192) * 64 + b - 128 < 0
  · rw [if_pos c]
    have nk : ¬ (ldN a = 1 ∧ snd a b) := by rw [ld1]; omega
    exact ⟨0, congrArg some (Prod.ext rfl (decide_eq_false nk).symm), fun h => absurd h nk⟩
  · rw [if_neg c]
    refine ⟨_, congrArg some (Prod.ext rfl (decide_eq_decide.2 ?_)), fun _ => rfl⟩
    rw [ld1]
    unfold encB; repeat' split
    all_goals (simp only [badR, List.cons.injEq, reduceCtorEq, and_true, and_false, false_iff] at *; omega)
theorem form3 (k : Nat) (a b c : Int) (ha : 128 ≤ a ∧ a ≤ 255) (hb : 0 ≤ b ∧ b ≤ 255) (hc : 0 ≤ c ∧ c ≤ 255) :
    ∃ v, spec_l1Form.f (k + 2) [a, b, c] = some (v, decide ((ldN a = 2 ∧ snd a b) ∧ cont c)) ∧ ((ldN a = 2 ∧ snd a b) ∧ cont c → v = v3 a b c) := by
  unfold spec_l1Form.f
  rw [if_neg (by simp), if_neg (by simp), if_pos (by simp), if_pos (by simp), if_pos (by simp), if_pos (by simp), formJ _ _ _ (by intro x hx; simp at hx; omega), show rd [a, b, c] 0 = a from rfl, show rd [a, b, c] 1 = b from rfl, show rd [a, b, c] 2 = c from rfl]
  simp only [w64 (x := a) (by omega), w64 (x := b) (by omega), w64 (x := c) (by omega), w64 (x := a - 224) (by omega), w64 (x := (a - 224) * 4096) (by omega), w64 (x := b - 128) (by omega), w64 (x := (b - 128) * 64) (by omega), w64 (x := (a - 224) * 4096 + (b - 128) * 64) (by omega), w64 (x := (a - 224) * 4096 + (b - 128) * 64 + c) (by omega), w64 (x := (a - 224) * 4096 + (b - 128) * 64 + c - 128) (by omega)]
  by_cases d : (a - 224) * 4096 + (b - 128) * 64 + c - 128 < 0
  · rw [if_pos d]
    have nk : ¬ ((ldN a = 2 ∧ snd a b) ∧ cont c) := by rw [ld2]; unfold cont; omega
    exact ⟨0, congrArg some (Prod.ext rfl (decide_eq_false nk).symm), fun h => absurd h nk⟩
  · rw [if_neg d]
    refine ⟨_, congrArg some (Prod.ext rfl (decide_eq_decide.2 ?_)), fun _ => rfl⟩
    rw [ld2]; unfold cont
    unfold encB; repeat' split
    all_goals (simp only [badR, List.cons.injEq, reduceCtorEq, and_true, and_false, false_iff] at *; omega)
theorem form4 (k : Nat) (a b c d : Int) (ha : 128 ≤ a ∧ a ≤ 255) (hb : 0 ≤ b ∧ b ≤ 255) (hc : 0 ≤ c ∧ c ≤ 255) (hd : 0 ≤ d ∧ d ≤ 255) :
    ∃ v, spec_l1Form.f (k + 2) [a, b, c, d] = some (v, decide ((ldN a = 3 ∧ snd a b) ∧ cont c ∧ cont d)) ∧ ((ldN a = 3 ∧ snd a b) ∧ cont c ∧ cont d → v = v4 a b c d) := by
  unfold spec_l1Form.f
  rw [if_neg (by simp), if_neg (by simp), if_neg (by simp), if_pos (by simp), if_pos (by simp), if_pos (by simp), if_pos (by simp), if_pos (by simp), formJ _ _ _ (by intro x hx; simp at hx; omega), show rd [a, b, c, d] 0 = a from rfl, show rd [a, b, c, d] 1 = b from rfl, show rd [a, b, c, d] 2 = c from rfl, show rd [a, b, c, d] 3 = d from rfl]
  simp only [w64 (x := a) (by omega), w64 (x := b) (by omega), w64 (x := c) (by omega), w64 (x := d) (by omega), w64 (x := a - 240) (by omega), w64 (x := (a - 240) * 262144) (by omega), w64 (x := b - 128) (by omega), w64 (x := (b - 128) * 4096) (by omega), w64 (x := c - 128) (by omega), w64 (x := (c - 128) * 64) (by omega), w64 (x := (a - 240) * 262144 + (b - 128) * 4096) (by omega), w64 (x := (a - 240) * 262144 + (b - 128) * 4096 + (c - 128) * 64) (by omega), w64 (x := (a - 240) * 262144 + (b - 128) * 4096 + (c - 128) * 64 + d) (by omega), w64 (x := (a - 240) * 262144 + (b - 128) * 4096 + (c - 128) * 64 + d - 128) (by omega)]
  by_cases e : (a - 240) * 262144 + (b - 128) * 4096 + (c - 128) * 64 + d - 128 < 0
  · rw [if_pos e]
    have nk : ¬ ((ldN a = 3 ∧ snd a b) ∧ cont c ∧ cont d) := by rw [ld3]; unfold cont; omega
    exact ⟨0, congrArg some (Prod.ext rfl (decide_eq_false nk).symm), fun h => absurd h nk⟩
  · rw [if_neg e]
    refine ⟨_, congrArg some (Prod.ext rfl (decide_eq_decide.2 ?_)), fun _ => rfl⟩
    rw [ld3]; unfold cont
    unfold encB; repeat' split
    all_goals (simp only [badR, List.cons.injEq, reduceCtorEq, and_true, and_false, false_iff] at *; omega)
theorem ev_form {q : List Int} {v : Int} {b : Bool} (h : ∀ k, spec_l1Form.f (k + 2) q = some (v, b)) : Ev (fun k => spec_l1Form.f k q) (v, b) :=
  ⟨2, fun k hk => by obtain ⟨m, rfl⟩ : ∃ m, k = m + 2 := ⟨k - 2, by omega⟩; exact h m⟩
-- where a whole sequence is asked for
theorem l2_full (x0 x5 : List Int) (T s v : Int) (b R : Bool) (hT : 0 ≤ T ∧ T ≤ 100) (hs : 0 ≤ s ∧ s ≤ 1000) (hl : T ≤ (x5.length : Int)) (hf : Ev (fun k => spec_l1Form.f k x5) (v, b))
    (h : if b = true then R = true else if (x0.length : Int) > 1 then Ev (fun k => spec_l1Begins.l0 k x0 (T + 1)) R else Ev (fun k => spec_l1Begins.l1 k x0 T (s + 1)) R) :
    Ev (fun k => spec_l1Begins.l2 k x0 T s x5) R := by
  refine Ev.step (f := fun k => (spec_l1Form.f k x5).bind fun bt => if bt.2 = true then some true else if (x0.length : Int) > 1 then spec_l1Begins.l0 k x0 (T + 1) else spec_l1Begins.l1 k x0 T (s + 1)) (fun k => ?_) ?_
  · simp only [spec_l1Begins.l2]; rw [if_neg (by omega), w64 (x := T + 1) (by omega), w64 (x := s + 1) (by omega)]
  · refine Ev.bind hf ?_
    dsimp only
    cases b with
    | true => simp only [if_true] at h ⊢; subst h; exact ev_const fun k => rfl
    | false =>
      simp only [Bool.false_eq_true, if_false] at h ⊢
      split at h
      · rename_i c; exact Ev.congr (fun k => if_pos c) h
      · rename_i c; exact Ev.congr (fun k => if_neg c) h
theorem l2_pad (x0 x5 : List Int) (T s : Int) (R : Bool) (hl : (x5.length : Int) < T) (hs : x5.length < 10) (h : Ev (fun k => spec_l1Begins.l2 k x0 T s (x5 ++ [128])) R) : Ev (fun k => spec_l1Begins.l2 k x0 T s x5) R := by
  refine Ev.step (fun k => ?_) h
  simp only [spec_l1Begins.l2]; rw [if_pos hl, if_pos (by omega)]
theorem l1_in (x0 : List Int) (T s : Int) (R : Bool) (hs : 128 ≤ s ∧ s < 192) (hl : x0.length < 5)
    (h : Ev (fun k => spec_l1Begins.l2 k x0 T s (if x0.length = 1 then x0 ++ [s] else x0)) R) : Ev (fun k => spec_l1Begins.l1 k x0 T s) R := by
  refine Ev.step (f := fun k => spec_l1Begins.j2 k x0 T s (if x0.length = 1 then x0 ++ [s] else x0)) (fun k => ?_) (Ev.step (fun k => by simp only [spec_l1Begins.j2]) h)
  simp only [spec_l1Begins.l1]
  rw [if_pos hs.2]
  simp only [Option.bind_some, List.nil_append, List.length_nil]
  rw [if_pos (by omega)]
  by_cases c : x0.length = 1
  · rw [if_pos (by omega), if_pos (by omega), if_pos c, show s % 256 = s by omega]
  · rw [if_neg (by omega), if_neg c]
theorem l1_out (x0 : List Int) (T s : Int) (R : Bool) (hT : 0 ≤ T ∧ T ≤ 100) (hs : 192 ≤ s) (h : Ev (fun k => spec_l1Begins.l0 k x0 (T + 1)) R) : Ev (fun k => spec_l1Begins.l1 k x0 T s) R := by
  refine Ev.step (fun k => ?_) h
  simp only [spec_l1Begins.l1]; rw [if_neg (by omega), w64 (by omega)]
theorem l0_in (x0 : List Int) (T : Int) (R : Bool) (hT : T ≤ 4) (h : Ev (fun k => spec_l1Begins.l1 k x0 T 128) R) : Ev (fun k => spec_l1Begins.l0 k x0 T) R := by
  refine Ev.step (fun k => ?_) h
  simp only [spec_l1Begins.l0]; rw [if_pos hT]
theorem l0_out (x0 : List Int) (T : Int) (hT : 4 < T) : Ev (fun k => spec_l1Begins.l0 k x0 T) false :=
  ev_now fun k => by simp only [spec_l1Begins.l0]; rw [if_neg (by omega)]
theorem form4_ev (a b c d : Int) (ha : 128 ≤ a ∧ a ≤ 255) (hb : 0 ≤ b ∧ b ≤ 255) (hc : 0 ≤ c ∧ c ≤ 255) (hd : 0 ≤ d ∧ d ≤ 255) :
    ∃ v, Ev (fun k => spec_l1Form.f k [a, b, c, d]) (v, decide ((ldN a = 3 ∧ snd a b) ∧ cont c ∧ cont d)) ∧ ((ldN a = 3 ∧ snd a b) ∧ cont c ∧ cont d → v = v4 a b c d) := by
  obtain ⟨v, h, h2⟩ := form4 0 a b c d ha hb hc hd
  exact ⟨v, Ev.of (spec_l1Form.mono _) h, h2⟩
theorem form3_ev (a b c : Int) (ha : 128 ≤ a ∧ a ≤ 255) (hb : 0 ≤ b ∧ b ≤ 255) (hc : 0 ≤ c ∧ c ≤ 255) :
    ∃ v, Ev (fun k => spec_l1Form.f k [a, b, c]) (v, decide ((ldN a = 2 ∧ snd a b) ∧ cont c)) ∧ ((ldN a = 2 ∧ snd a b) ∧ cont c → v = v3 a b c) := by
  obtain ⟨v, h, h2⟩ := form3 0 a b c ha hb hc
  exact ⟨v, Ev.of (spec_l1Form.mono _) h, h2⟩
theorem form2_ev (a b : Int) (ha : 128 ≤ a ∧ a ≤ 255) (hb : 0 ≤ b ∧ b ≤ 255) :
    ∃ v, Ev (fun k => spec_l1Form.f k [a, b]) (v, decide (ldN a = 1 ∧ snd a b)) ∧ (ldN a = 1 ∧ snd a b → v = v2 a b) := by
  obtain ⟨v, h, h2⟩ := form2 0 a b ha hb
  exact ⟨v, Ev.of (spec_l1Form.mono _) h, h2⟩
theorem cont128 : cont 128 := by decide
theorem beg2 (a b : Int) (ha : 128 ≤ a ∧ a ≤ 255) (hb : 0 ≤ b ∧ b ≤ 255) : Ev (fun k => spec_l1Begins.f k [a, b]) (decide (2 ≤ ldN a ∧ snd a b)) := by
  unfold spec_l1Begins.f
  have hle := ld_le a
  refine Ev.congr (f := fun k => spec_l1Begins.l0 k [a, b] 3) (fun k => by rw [w64 (by simp)]; rfl) ?_
  refine l0_in _ _ _ (by decide) (l1_in _ _ _ _ (by decide) (by simp) ?_)
  simp only [List.length_cons, List.length_nil]
  rw [if_neg (by decide)]
  refine l2_pad _ _ _ _ _ (by simp) (by simp) ?_
  obtain ⟨v, hv, _⟩ := form3_ev a b 128 ha hb (by decide)
  refine l2_full _ _ _ _ v _ _ (by decide) (by decide) (by simp) hv ?_
  by_cases g : (ldN a = 2 ∧ snd a b) ∧ cont 128
  · rw [if_pos (by simpa using g)]; simp only [decide_eq_true_eq]; exact ⟨by omega, g.1.2⟩
  · rw [if_neg (by simpa using g), if_pos (by simp)]
    refine l0_in _ _ _ (by decide) (l1_in _ _ _ _ (by decide) (by simp) ?_)
    simp only [List.length_cons, List.length_nil]
    rw [if_neg (by decide)]
    refine l2_pad _ _ _ _ _ (by simp) (by simp) (l2_pad _ _ _ _ _ (by simp) (by simp) ?_)
    obtain ⟨v, hv, _⟩ := form4_ev a b 128 128 ha hb (by decide) (by decide)
    refine l2_full _ _ _ _ v _ _ (by decide) (by decide) (by simp) hv ?_
    by_cases g2 : (ldN a = 3 ∧ snd a b) ∧ cont 128 ∧ cont 128
    · rw [if_pos (by simpa using g2)]; simp only [decide_eq_true_eq]; exact ⟨by omega, g2.1.2⟩
    · rw [if_neg (by simpa using g2), if_pos (by simp), show decide (2 ≤ ldN a ∧ snd a b) = false by
        simp only [decide_eq_false_iff_not]; rintro ⟨h1, h2⟩
        rcases (show ldN a = 2 ∨ ldN a = 3 by omega) with h | h
        · exact g ⟨⟨h, h2⟩, cont128⟩
        · exact g2 ⟨⟨h, h2⟩, cont128, cont128⟩]
      exact l0_out _ _ (by decide)
theorem beg3' (a b c : Int) (ha : 128 ≤ a ∧ a ≤ 255) (hb : 0 ≤ b ∧ b ≤ 255) (hc : 0 ≤ c ∧ c ≤ 255) : Ev (fun k => spec_l1Begins.f k [a, b, c]) (decide ((ldN a = 3 ∧ snd a b) ∧ cont c)) := by
  unfold spec_l1Begins.f
  refine Ev.congr (f := fun k => spec_l1Begins.l0 k [a, b, c] 4) (fun k => by rw [w64 (by simp)]; rfl) ?_
  refine l0_in _ _ _ (by decide) (l1_in _ _ _ _ (by decide) (by simp) ?_)
  simp only [List.length_cons, List.length_nil]
  rw [if_neg (by decide)]
  refine l2_pad _ _ _ _ _ (by simp) (by simp) ?_
  obtain ⟨v, hv, _⟩ := form4_ev a b c 128 ha hb hc (by decide)
  refine l2_full _ _ _ _ v _ _ (by decide) (by decide) (by simp) hv ?_
  by_cases g : (ldN a = 3 ∧ snd a b) ∧ cont c ∧ cont 128
  · rw [if_pos (by simpa using g)]; simp only [decide_eq_true_eq]; exact ⟨g.1, g.2.1⟩
  · rw [if_neg (by simpa using g), if_pos (by simp), show decide ((ldN a = 3 ∧ snd a b) ∧ cont c) = false by
      simp only [decide_eq_false_iff_not]; exact fun h => g ⟨h.1, h.2, cont128⟩]
    exact l0_out _ _ (by decide)
/-- one round of the second bytes that are tried behind one first byte -/
theorem l2_one (a T s : Int) (n : Int) (hT : T = n + 1) (hn : 1 ≤ n ∧ n ≤ 3) (ha : 128 ≤ a ∧ a ≤ 255) (hs : 128 ≤ s ∧ s < 192) (R : Bool)
    (h : if ldN a = n ∧ snd a s then R = true else Ev (fun k => spec_l1Begins.l1 k [a] T (s + 1)) R) : Ev (fun k => spec_l1Begins.l2 k [a] T s [a, s]) R := by
  have e : ∀ (p : Prop) [Decidable p], (p ↔ ldN a = n ∧ snd a s) → (if decide p = true then R = true else if (([a] : List Int).length : Int) > 1 then Ev (fun k => spec_l1Begins.l0 k [a] (T + 1)) R else Ev (fun k => spec_l1Begins.l1 k [a] T (s + 1)) R) := by
    intro p _ hp
    by_cases c : ldN a = n ∧ snd a s
    · rw [if_pos c] at h; rw [if_pos (by simpa using hp.2 c)]; exact h
    · rw [if_neg c] at h; rw [if_neg (by simpa using fun x => c (hp.1 x)), if_neg (by simp)]; exact h
  rcases (show n = 1 ∨ n = 2 ∨ n = 3 by omega) with rfl | rfl | rfl
  · obtain ⟨v, hv, _⟩ := form2_ev a s ha (by omega)
    exact l2_full _ _ _ _ v _ _ (by omega) (by omega) (by simp; omega) hv (e _ Iff.rfl)
  · refine l2_pad _ _ _ _ _ (by simp; omega) (by simp) ?_
    obtain ⟨v, hv, _⟩ := form3_ev a s 128 ha (by omega) (by decide)
    exact l2_full _ _ _ _ v _ _ (by omega) (by omega) (by simp; omega) hv (e _ ⟨fun x => x.1, fun x => ⟨x, cont128⟩⟩)
  · refine l2_pad _ _ _ _ _ (by simp; omega) (by simp) (l2_pad _ _ _ _ _ (by simp; omega) (by simp) ?_)
    obtain ⟨v, hv, _⟩ := form4_ev a s 128 128 ha (by omega) (by decide) (by decide)
    exact l2_full _ _ _ _ v _ _ (by omega) (by omega) (by simp; omega) hv (e _ ⟨fun x => x.1, fun x => ⟨x, cont128, cont128⟩⟩)
theorem l1_one (a T : Int) (n : Int) (hT : T = n + 1) (hn : 1 ≤ n ∧ n ≤ 3) (ha : 128 ≤ a ∧ a ≤ 255) (R : Bool) (d : Nat) : ∀ s : Int, 128 ≤ s → s + d = 192 →
    ((ldN a = n ∧ ∃ s', s ≤ s' ∧ s' < 192 ∧ snd a s') → R = true) → (¬ (ldN a = n ∧ ∃ s', s ≤ s' ∧ s' < 192 ∧ snd a s') → Ev (fun k => spec_l1Begins.l0 k [a] (T + 1)) R) → Ev (fun k => spec_l1Begins.l1 k [a] T s) R := by
  induction d with
  | zero =>
    intro s h0 h1 hy hn'
    exact l1_out _ _ _ _ (by omega) (by omega) (hn' (by rintro ⟨_, s', h2, h3, _⟩; omega))
  | succ d ih =>
    intro s h0 h1 hy hn'
    refine l1_in _ _ _ _ (by omega) (by simp) ?_
    simp only [List.length_cons, List.length_nil]
    rw [if_pos trivial]
    refine l2_one a T s n hT hn ha (by omega) R ?_
    by_cases c : ldN a = n ∧ snd a s
    · rw [if_pos c]; exact hy ⟨c.1, s, by omega, by omega, c.2⟩
    · rw [if_neg c]
      refine ih (s + 1) (by omega) (by omega) (fun h => ?_) (fun h => ?_)
      · obtain ⟨e, s', q1, q2, q3⟩ := h
        exact hy ⟨e, s', by omega, q2, q3⟩
      · refine hn' ?_
        rintro ⟨e, s', q1, q2, q3⟩
        rcases (show s' = s ∨ s + 1 ≤ s' by omega) with rfl | q
        · exact c ⟨e, q3⟩
        · exact h ⟨e, s', q, q2, q3⟩
theorem some_snd (a : Int) (h : 1 ≤ ldN a) : ∃ s', 128 ≤ s' ∧ s' < 192 ∧ snd a s' := by
  by_cases c : a = 237 ∨ a = 244
  · exact ⟨128, by omega, by omega, by unfold snd ldLo ldHi; unfold ldN at h; omega⟩
  · exact ⟨191, by omega, by omega, by unfold snd ldLo ldHi; unfold ldN at h; omega⟩
theorem beg1 (a : Int) (ha : 128 ≤ a ∧ a ≤ 255) : Ev (fun k => spec_l1Begins.f k [a]) (decide (1 ≤ ldN a)) := by
  unfold spec_l1Begins.f
  refine Ev.congr (f := fun k => spec_l1Begins.l0 k [a] (1 + 1)) (fun k => by rw [w64 (by simp)]; rfl) ?_
  have hle := ld_le a
  have step : ∀ n : Int, 1 ≤ n ∧ n ≤ 3 → ∀ R : Bool, (if ldN a = n then R = true else Ev (fun k => spec_l1Begins.l0 k [a] (n + 1 + 1)) R) → Ev (fun k => spec_l1Begins.l0 k [a] (n + 1)) R := by
    intro n hn R h
    refine l0_in _ _ _ (by omega) (l1_one a (n + 1) n rfl hn ha R 64 128 (by omega) (by omega) (fun x => ?_) (fun x => ?_))
    · rw [if_pos x.1] at h; exact h
    · by_cases c : ldN a = n
      · exact absurd ⟨c, some_snd a (by omega)⟩ x
      · rw [if_neg c] at h; exact h
  refine step 1 (by omega) _ ?_
  by_cases c1 : ldN a = 1
  · rw [if_pos c1]; simp; omega
  rw [if_neg c1]
  refine step 2 (by omega) _ ?_
  by_cases c2 : ldN a = 2
  · rw [if_pos c2]; simp; omega
  rw [if_neg c2]
  refine step 3 (by omega) _ ?_
  by_cases c3 : ldN a = 3
  · rw [if_pos c3]; simp; omega
  rw [if_neg c3, show decide (1 ≤ ldN a) = false by simp; omega]
  exact l0_out _ _ (by omega)
-- the step
theorem s0_yes (q : List Int) (n : Nat) (v : Int) (hn : 1 ≤ n ∧ n ≤ 4) (hl : n ≤ q.length) (hv : -2147483648 ≤ v ∧ v ≤ 2147483647)
    (h : Ev (fun k => spec_l1Form.f k (q.take n)) (v, true)) : Ev (fun k => spec_l1Step.l0 k q (n : Int)) (v, (n : Int)) := by
  refine Ev.step (f := fun k => spec_l1Step.j2 k q (n : Int) true) (fun k => by simp only [spec_l1Step.l0]; rw [if_pos (by omega), decide_eq_true (by omega)]) ?_
  refine Ev.step (fun k => by simp only [spec_l1Step.j2]; rw [if_pos (by simp), if_pos (by omega), if_pos (by omega), Int.toNat_natCast]) ?_
  refine Ev.bind h ?_
  exact ev_const fun k => by simp only [if_true]; rw [show wrap32 v = v by unfold wrap32; omega]
theorem s0_no (q : List Int) (n : Nat) (v : Int) (R : Int × Int) (hn : 1 ≤ n ∧ n ≤ 4) (hl : n ≤ q.length)
    (h : Ev (fun k => spec_l1Form.f k (q.take n)) (v, false)) (hR : Ev (fun k => spec_l1Step.l0 k q ((n + 1 : Nat) : Int)) R) : Ev (fun k => spec_l1Step.l0 k q (n : Int)) R := by
  refine Ev.step (f := fun k => spec_l1Step.j2 k q (n : Int) true) (fun k => by simp only [spec_l1Step.l0]; rw [if_pos (by omega), decide_eq_true (by omega)]) ?_
  refine Ev.step (fun k => by simp only [spec_l1Step.j2]; rw [if_pos (by simp), if_pos (by omega), if_pos (by omega), Int.toNat_natCast]) ?_
  refine Ev.bind h ?_
  exact Ev.congr (fun k => by simp only [Bool.false_eq_true, if_false]; rw [w64 (by omega)]; rfl) hR
theorem s0_end (q : List Int) (n : Nat) (R : Int × Int) (hn : 1 ≤ n) (hl : 4 < n ∨ q.length < n) (hR : Ev (fun k => spec_l1Step.l1 k q 1 1) R) : Ev (fun k => spec_l1Step.l0 k q (n : Int)) R := by
  refine Ev.step (f := fun k => spec_l1Step.j2 k q (n : Int) false) (fun k => ?_) (Ev.step (fun k => by simp only [spec_l1Step.j2]; rw [if_neg (by simp)]) hR)
  simp only [spec_l1Step.l0]
  by_cases c : (n : Int) ≤ 4
  · rw [if_pos c, decide_eq_false (by omega)]
  · rw [if_neg c]
theorem s1_in (q : List Int) (t : Int) (n : Nat) (b : Bool) (R : Int × Int) (hn : 1 ≤ n ∧ n ≤ 3) (hl : n ≤ q.length)
    (h : Ev (fun k => spec_l1Begins.f k (q.take n)) b) (hR : Ev (fun k => spec_l1Step.l1 k q (if b = true then (n : Int) else t) ((n + 1 : Nat) : Int)) R) : Ev (fun k => spec_l1Step.l1 k q t (n : Int)) R := by
  refine Ev.step (f := fun k => spec_l1Step.j4 k q t (n : Int) true) (fun k => by simp only [spec_l1Step.l1]; rw [if_pos (by omega), decide_eq_true (by omega)]) ?_
  refine Ev.step (fun k => by simp only [spec_l1Step.j4]; rw [if_pos (by simp), if_pos (by omega), if_pos (by omega), Int.toNat_natCast]) ?_
  refine Ev.bind h ?_
  have e : wrap64 ((n : Int) + 1) = ((n + 1 : Nat) : Int) := by rw [w64 (by omega)]; rfl
  cases b with
  | true => exact Ev.congr (fun k => by rw [if_pos rfl, e]; rfl) hR
  | false => exact Ev.congr (fun k => by rw [if_neg (by simp), e]; rfl) hR
theorem s1_end (q : List Int) (t : Int) (n : Nat) (hn : 1 ≤ n) (hl : 3 < n ∨ q.length < n) : Ev (fun k => spec_l1Step.l1 k q t (n : Int)) (65533, t) := by
  refine Ev.step (f := fun k => spec_l1Step.j4 k q t (n : Int) false) (fun k => ?_) (ev_now fun k => by simp only [spec_l1Step.j4]; rw [if_neg (by simp)])
  simp only [spec_l1Step.l1]
  by_cases c : (n : Int) ≤ 3
  · rw [if_pos c, decide_eq_false (by omega)]
  · rw [if_neg c]
theorem t1 (q : List Int) (h : 1 ≤ q.length) : q.take 1 = [rd q 0] := by match q, h with | a :: t, _ => rfl
theorem t2 (q : List Int) (h : 2 ≤ q.length) : q.take 2 = [rd q 0, rd q 1] := by match q, h with | a :: b :: t, _ => rfl
theorem t3 (q : List Int) (h : 3 ≤ q.length) : q.take 3 = [rd q 0, rd q 1, rd q 2] := by match q, h with | a :: b :: c :: t, _ => rfl
theorem t4 (q : List Int) (h : 4 ≤ q.length) : q.take 4 = [rd q 0, rd q 1, rd q 2, rd q 3] := by match q, h with | a :: b :: c :: d :: t, _ => rfl
theorem v_small (a b c d : Int) (ha : 0 ≤ a ∧ a ≤ 255) (hb : 0 ≤ b ∧ b ≤ 255) (hc : 0 ≤ c ∧ c ≤ 255) (hd : 0 ≤ d ∧ d ≤ 255) :
    (-2147483648 ≤ v2 a b ∧ v2 a b ≤ 2147483647) ∧ (-2147483648 ≤ v3 a b c ∧ v3 a b c ≤ 2147483647) ∧ (-2147483648 ≤ v4 a b c d ∧ v4 a b c d ≤ 2147483647) := by unfold v2 v3 v4; omega
theorem step_is (q : List Int) (hq : bytes q) (h1 : 1 ≤ q.length) : Ev (fun k => spec_l1Step.f k q) (dec1 q) := by
  have b0 : ∀ i : Nat, i < q.length → 0 ≤ rd q i ∧ rd q i ≤ 255 := fun i hi => by rw [rd_at q i hi]; exact hq _ (List.getElem_mem hi)
  have ha := b0 0 h1
  simp only [Int.natCast_zero] at ha
  unfold spec_l1Step.f
  refine Ev.congr (fun k => by rw [if_pos (by omega), if_pos (by omega)]) ?_
  unfold dec1
  dsimp only
  by_cases c0 : rd q 0 < 128
  · rw [if_pos c0]
    exact ev_now fun k => by simp only [spec_l1Step.j0]; rw [if_pos (by simpa using c0), if_pos (by omega), show wrap32 (rd q 0) = rd q 0 by unfold wrap32; omega]
  rw [if_neg c0]
  refine Ev.step (f := fun k => spec_l1Step.l0 k q ((1 : Nat) : Int)) (fun k => by simp only [spec_l1Step.j0]; rw [if_neg (by simpa using c0)]; rfl) ?_
  have ha' : 128 ≤ rd q 0 ∧ rd q 0 ≤ 255 := by omega
  have hle := ld_le (rd q 0)
  refine s0_no q 1 (rd q 0) _ (by omega) h1 (by rw [t1 q h1]; exact ev_form fun k => form1 k _ ha') ?_
  have g1 := beg1 (rd q 0) ha'
  by_cases l2 : q.length < 2
  · rw [if_pos (by omega)]
    refine s0_end _ _ _ (by omega) (by omega) (s1_in q 1 1 _ _ (by omega) h1 (by rw [t1 q h1]; exact g1) ?_)
    simp only [Int.natCast_one, ite_self]
    exact s1_end _ _ _ (by omega) (by omega)
  have hb := b0 1 (by omega)
  simp only [Int.natCast_one] at hb
  have g2 := beg2 (rd q 0) (rd q 1) ha' hb
  obtain ⟨w2, hw2, ew2⟩ := form2_ev (rd q 0) (rd q 1) ha' hb
  rw [← t2 q (by omega)] at hw2
  by_cases y2 : ldN (rd q 0) = 1 ∧ snd (rd q 0) (rd q 1)
  · rw [if_neg (by rintro (h | h | h) <;> first | omega | exact h y2.2), if_pos y2.1]
    rw [show decide (ldN (rd q 0) = 1 ∧ snd (rd q 0) (rd q 1)) = true by simpa using y2, ew2 y2] at hw2
    exact s0_yes q 2 _ (by omega) (by omega) (by unfold v2; omega) hw2
  rw [show decide (ldN (rd q 0) = 1 ∧ snd (rd q 0) (rd q 1)) = false by simpa using y2] at hw2
  refine s0_no q 2 w2 _ (by omega) (by omega) hw2 ?_
  by_cases l3 : q.length < 3
  · refine s0_end _ _ _ (by omega) (by omega) (s1_in q 1 1 _ _ (by omega) h1 (by rw [t1 q h1]; exact g1) ?_)
    simp only [Int.natCast_one, ite_self]
    refine s1_in q 1 2 _ _ (by omega) (by omega) (by rw [t2 q (by omega)]; exact g2) ?_
    by_cases z : ldN (rd q 0) = 0 ∨ q.length < 2 ∨ ¬ snd (rd q 0) (rd q 1)
    · rw [if_pos z, if_neg (show ¬ decide (2 ≤ ldN (rd q 0) ∧ snd (rd q 0) (rd q 1)) = true by simp only [decide_eq_true_eq]; rintro ⟨p1, p2⟩; rcases z with z | z | z <;> first | omega | exact z p2)]
      exact s1_end _ _ _ (by omega) (by omega)
    · have z2 : snd (rd q 0) (rd q 1) := by simp only [not_or, Decidable.not_not] at z; exact z.2.2
      have z1 : ldN (rd q 0) ≠ 1 := fun x => y2 ⟨x, z2⟩
      have z0 : ldN (rd q 0) ≠ 0 := fun x => z (Or.inl x)
      rw [if_neg z, if_neg z1, if_pos (Or.inl l3), if_pos (show decide (2 ≤ ldN (rd q 0) ∧ snd (rd q 0) (rd q 1)) = true by simp only [decide_eq_true_eq]; exact ⟨by omega, z2⟩)]
      exact s1_end _ _ _ (by omega) (by omega)
  have hc := b0 2 (by omega)
  simp only [Int.cast_ofNat_Int] at hc
  have g3 := beg3' (rd q 0) (rd q 1) (rd q 2) ha' hb hc
  obtain ⟨w3, hw3, ew3⟩ := form3_ev (rd q 0) (rd q 1) (rd q 2) ha' hb hc
  rw [← t3 q (by omega)] at hw3
  by_cases y3 : (ldN (rd q 0) = 2 ∧ snd (rd q 0) (rd q 1)) ∧ cont (rd q 2)
  · rw [if_neg (by rintro (h | h | h) <;> first | omega | exact h y3.1.2), if_neg (by omega), if_neg (by rintro (h | h) <;> first | omega | exact h y3.2), if_pos y3.1.1]
    rw [show decide ((ldN (rd q 0) = 2 ∧ snd (rd q 0) (rd q 1)) ∧ cont (rd q 2)) = true by simpa using y3, ew3 y3] at hw3
    exact s0_yes q 3 _ (by omega) (by omega) (by unfold v3; omega) hw3
  rw [show decide ((ldN (rd q 0) = 2 ∧ snd (rd q 0) (rd q 1)) ∧ cont (rd q 2)) = false by simpa using y3] at hw3
  refine s0_no q 3 w3 _ (by omega) (by omega) hw3 ?_
  -- what the second loop tells
  have tail : ∀ R, R = (if decide ((ldN (rd q 0) = 3 ∧ snd (rd q 0) (rd q 1)) ∧ cont (rd q 2)) = true then (3 : Int) else if decide (2 ≤ ldN (rd q 0) ∧ snd (rd q 0) (rd q 1)) = true then 2 else 1) →
      Ev (fun k => spec_l1Step.l1 k q 1 1) (65533, R) := by
    intro R hR
    refine s1_in q 1 1 _ _ (by omega) h1 (by rw [t1 q h1]; exact g1) ?_
    simp only [Int.natCast_one, ite_self]
    refine s1_in q 1 2 _ _ (by omega) (by omega) (by rw [t2 q (by omega)]; exact g2) ?_
    refine s1_in q _ 3 _ _ (by omega) (by omega) (by rw [t3 q (by omega)]; exact g3) ?_
    rw [hR]
    exact s1_end _ _ _ (by omega) (by omega)
  by_cases y4 : 4 ≤ q.length ∧ (ldN (rd q 0) = 3 ∧ snd (rd q 0) (rd q 1)) ∧ cont (rd q 2) ∧ cont (rd q 3)
  · obtain ⟨l4, y4⟩ := y4
    have hd := b0 3 (by omega)
    simp only [Int.cast_ofNat_Int] at hd
    obtain ⟨w4, hw4, ew4⟩ := form4_ev (rd q 0) (rd q 1) (rd q 2) (rd q 3) ha' hb hc hd
    rw [← t4 q (by omega)] at hw4
    rw [if_neg (by rintro (h | h | h) <;> first | omega | exact h y4.1.2), if_neg (by omega), if_neg (by rintro (h | h) <;> first | omega | exact h y4.2.1), if_neg (by omega), if_neg (by rintro (h | h) <;> first | omega | exact h y4.2.2)]
    rw [show decide ((ldN (rd q 0) = 3 ∧ snd (rd q 0) (rd q 1)) ∧ cont (rd q 2) ∧ cont (rd q 3)) = true by simpa using y4, ew4 y4] at hw4
    exact s0_yes q 4 _ (by omega) (by omega) (by unfold v4; omega) hw4
  have fin : Ev (fun k => spec_l1Step.l0 k q ((3 + 1 : Nat) : Int)) (65533, if decide ((ldN (rd q 0) = 3 ∧ snd (rd q 0) (rd q 1)) ∧ cont (rd q 2)) = true then (3 : Int) else if decide (2 ≤ ldN (rd q 0) ∧ snd (rd q 0) (rd q 1)) = true then 2 else 1) := by
    by_cases l4 : 4 ≤ q.length
    · have hd := b0 3 (by omega)
      simp only [Int.cast_ofNat_Int] at hd
      obtain ⟨w4, hw4, _⟩ := form4_ev (rd q 0) (rd q 1) (rd q 2) (rd q 3) ha' hb hc hd
      rw [← t4 q (by omega), show decide ((ldN (rd q 0) = 3 ∧ snd (rd q 0) (rd q 1)) ∧ cont (rd q 2) ∧ cont (rd q 3)) = false by simp only [decide_eq_false_iff_not]; exact fun h => y4 ⟨l4, h⟩] at hw4
      exact s0_no q 4 w4 _ (by omega) (by omega) hw4 (s0_end _ _ _ (by omega) (by omega) (tail _ rfl))
    · exact s0_end _ _ _ (by omega) (by omega) (tail _ rfl)
  by_cases z : ldN (rd q 0) = 0 ∨ q.length < 2 ∨ ¬ snd (rd q 0) (rd q 1)
  · rw [if_pos z]
    have n3 : ¬ ((ldN (rd q 0) = 3 ∧ snd (rd q 0) (rd q 1)) ∧ cont (rd q 2)) := by rintro ⟨⟨p1, p2⟩, _⟩; rcases z with z | z | z <;> first | omega | exact z p2
    have n2 : ¬ (2 ≤ ldN (rd q 0) ∧ snd (rd q 0) (rd q 1)) := by rintro ⟨p1, p2⟩; rcases z with z | z | z <;> first | omega | exact z p2
    rw [if_neg (by simpa using n3), if_neg (by simpa using n2)] at fin
    exact fin
  have z2 : snd (rd q 0) (rd q 1) := by simp only [not_or, Decidable.not_not] at z; exact z.2.2
  have z1 : ldN (rd q 0) ≠ 1 := fun x => y2 ⟨x, z2⟩
  have z0 : ldN (rd q 0) ≠ 0 := fun x => z (Or.inl x)
  have p2 : 2 ≤ ldN (rd q 0) ∧ snd (rd q 0) (rd q 1) := ⟨by omega, z2⟩
  rw [if_pos (show decide (2 ≤ ldN (rd q 0) ∧ snd (rd q 0) (rd q 1)) = true by simpa using p2)] at fin
  rw [if_neg z, if_neg z1]
  by_cases u : q.length < 3 ∨ ¬ cont (rd q 2)
  · have u2 : ¬ cont (rd q 2) := by rcases u with u | u; exact absurd u l3; exact u
    rw [if_pos u]
    rw [if_neg (show ¬ decide ((ldN (rd q 0) = 3 ∧ snd (rd q 0) (rd q 1)) ∧ cont (rd q 2)) = true by simp only [decide_eq_true_eq]; exact fun x => u2 x.2)] at fin
    exact fin
  have u2 : cont (rd q 2) := by simp only [not_or, Decidable.not_not] at u; exact u.2
  have e3 : ldN (rd q 0) = 3 := by have : ldN (rd q 0) ≠ 2 := fun x => y3 ⟨⟨x, z2⟩, u2⟩; omega
  rw [if_pos (show decide ((ldN (rd q 0) = 3 ∧ snd (rd q 0) (rd q 1)) ∧ cont (rd q 2)) = true by simp only [decide_eq_true_eq]; exact ⟨⟨e3, z2⟩, u2⟩)] at fin
  rw [if_neg u, if_neg (by omega), if_pos]
  · exact fin
  · by_cases l4 : q.length < 4
    · exact Or.inl l4
    · exact Or.inr fun x => y4 ⟨by omega, ⟨e3, z2⟩, u2, x⟩
-- the whole
theorem spec_dec_loop (p : List Int) (hp : bytes p) (hn : p.length ≤ 1048576) (n : Nat) : ∀ (i : Nat) (acc : List Int), i ≤ p.length → p.length - i ≤ n → n + acc.length ≤ 2000000 →
    Ev (fun k => spec_DecodeText.l0 k p acc (i : Int)) (acc ++ dec n (p.drop i)) := by
  induction n with
  | zero => intro i acc h h2 _; refine ev_now fun k => ?_; simp only [spec_DecodeText.l0]; rw [if_neg (by omega)]; simp [dec]
  | succ n ih =>
    intro i acc h h2 hs
    unfold dec
    by_cases c : i = p.length
    · rw [if_pos (by simp; omega)]; refine ev_now fun k => ?_; simp only [spec_DecodeText.l0]; rw [if_neg (by omega)]; simp
    rw [if_neg (by simp; omega)]
    have t := dec1_took (p.drop i) (by simp; omega)
    simp only [List.length_drop] at t
    refine Ev.step (fun k => by simp only [spec_DecodeText.l0]; rw [if_pos (by omega), if_pos (by omega), if_pos (by omega), Int.toNat_natCast]) ?_
    refine Ev.bind (step_is (p.drop i) (bytes_drop hp i) (by simp; omega)) ?_
    have e := ih (i + (dec1 (p.drop i)).2.toNat) (acc ++ [(dec1 (p.drop i)).1]) (by omega) (by omega) (by simp; omega)
    refine Ev.congr (fun k => by rw [if_pos (by omega), w64 (by omega)]) ?_
    rw [show ((i + (dec1 (p.drop i)).2.toNat : Nat) : Int) = (i : Int) + (dec1 (p.drop i)).2 by omega] at e
    simpa [List.drop_drop] using e
theorem bytes_of {xs : List Int} (h : ∀ x ∈ xs, (Lit.int .u8 x).wf = true) : bytes xs := fun x hx => bounds_u8 (h x hx)
/-! draws: what a draw ends in, as far as a law needs it -/
def EvP {α : Type} (g : Nat → Option α) (P : α → Prop) : Prop := ∃ r, Ev g r ∧ P r
theorem EvP.bind {α β : Type} {g : Nat → Option α} {f : Nat → α → Option β} {P : α → Prop} {Q : β → Prop} (h : EvP g P) (k : ∀ a, P a → EvP (fun n => f n a) Q) : EvP (fun n => (g n).bind (f n)) Q := by
  obtain ⟨r, h1, h2⟩ := h
  obtain ⟨s, h3, h4⟩ := k r h2
  exact ⟨s, Ev.bind h1 h3, h4⟩
theorem EvP.step {α : Type} {g f : Nat → Option α} {P : α → Prop} (h : ∀ k, g (k + 1) = f k) (k : EvP f P) : EvP g P := by
  obtain ⟨r, h1, h2⟩ := k
  exact ⟨r, Ev.step h h1, h2⟩
theorem EvP.congr {α : Type} {g f : Nat → Option α} {P : α → Prop} (h : ∀ k, g k = f k) (k : EvP f P) : EvP g P := by
  obtain ⟨r, h1, h2⟩ := k
  exact ⟨r, Ev.congr h h1, h2⟩
theorem EvP.now {α : Type} {g : Nat → Option α} {P : α → Prop} {r : α} (h : ∀ k, g (k + 1) = some r) (hp : P r) : EvP g P := ⟨r, ev_now h, hp⟩
theorem EvP.const {α : Type} {g : Nat → Option α} {P : α → Prop} {r : α} (h : ∀ k, g k = some r) (hp : P r) : EvP g P := ⟨r, ev_const h, hp⟩
theorem EvP.of {α : Type} {g : Nat → Option α} {P : α → Prop} {r : α} (h : Ev g r) (hp : P r) : EvP g P := ⟨r, h, hp⟩
theorem EvP.mono {α : Type} {g : Nat → Option α} {P Q : α → Prop} (h : EvP g P) (k : ∀ r, P r → Q r) : EvP g Q := by
  obtain ⟨r, h1, h2⟩ := h
  exact ⟨r, h1, k r h2⟩
/-- a source of draws stands in its bytes -/
def Src (b : List Int) (i : Int) : Prop := 0 ≤ i ∧ i ≤ (b.length : Int) ∧ b.length ≤ 1048576
theorem u64_in (x : Int) : 0 ≤ IntKind.u64.wrap x ∧ IntKind.u64.wrap x < 18446744073709551616 := by rw [IntKind.wrap_u64]; omega
theorem n_p (b : List Int) (i x a : Int) (hs : Src b i) (ha : 1 ≤ a ∧ a ≤ 1099511627776) : EvP (fun _ => spec_l1Src_n.f b i x a) (fun r => 0 ≤ r.1 ∧ r.1 < a ∧ Src b r.2.1) := by
  obtain ⟨h0, h1, h2⟩ := hs
  unfold spec_l1Src_n.f
  have val : ∀ y : Int, 1 < a → 0 ≤ wrap64 (Int.tmod (IntKind.u64.wrap y / 8589934592) (IntKind.u64.wrap a)) ∧ wrap64 (Int.tmod (IntKind.u64.wrap y / 8589934592) (IntKind.u64.wrap a)) < a := by
    intro y h
    have hy := u64_in y
    have e : IntKind.u64.wrap a = a := by rw [IntKind.wrap_u64]; omega
    rw [e, Int.tmod_eq_emod_of_nonneg (by omega)]
    have := Int.emod_nonneg (IntKind.u64.wrap y / 8589934592) (show a ≠ 0 by omega)
    have := Int.emod_lt_of_pos (IntKind.u64.wrap y / 8589934592) (show 0 < a by omega)
    rw [w64 (by omega)]; omega
  have nz : 1 < a → ¬ IntKind.u64.wrap a = 0 := fun h => by rw [IntKind.wrap_u64]; omega
  by_cases c1 : i < (b.length : Int)
  · by_cases c2 : a ≤ 1
    · exact EvP.const (fun k => by rw [if_pos c1, if_pos h0, if_pos c2]) ⟨by simp, by simp; omega, by simp only [Src]; rw [w64 (by omega)]; omega⟩
    · exact EvP.const (fun k => by rw [if_pos c1, if_pos h0, if_neg c2, if_neg (nz (by omega))]) ⟨(val _ (by omega)).1, (val _ (by omega)).2, by simp only [Src]; rw [w64 (by omega)]; omega⟩
  · by_cases c2 : a ≤ 1
    · exact EvP.const (fun k => by rw [if_neg c1, if_pos c2]) ⟨by simp, by simp; omega, h0, h1, h2⟩
    · exact EvP.const (fun k => by rw [if_neg c1, if_neg c2, if_neg (nz (by omega))]) ⟨(val _ (by omega)).1, (val _ (by omega)).2, h0, h1, h2⟩
theorem one_p (b : List Int) (i x a : Int) (hs : Src b i) (ha : 1 ≤ a ∧ a ≤ 1099511627776) : EvP (fun _ => spec_l1Src_one.f b i x a) (fun r => Src b r.2.1) := by
  unfold spec_l1Src_one.f
  refine EvP.bind (n_p b i x a hs ha) fun r hr => ?_
  exact EvP.const (fun _ => rfl) hr.2.2
theorem wild_p (b : List Int) (i x : Int) (hs : Src b i) : EvP (fun _ => spec_l1Src_wild.f b i x) (fun r => Src b r.2.1) := by
  unfold spec_l1Src_wild.f
  refine EvP.bind (n_p b i x 7 hs (by omega)) fun r hr => ?_
  have ht := hr.2.2
  by_cases c0 : r.1 = 0
  · exact EvP.const (fun k => if_pos c0) ht
  refine EvP.congr (fun k => if_neg c0) ?_
  by_cases c1 : r.1 = 1
  · exact EvP.const (fun k => if_pos c1) ht
  refine EvP.congr (fun k => if_neg c1) ?_
  by_cases c2 : r.1 = 2
  · exact EvP.const (fun k => if_pos c2) ht
  refine EvP.congr (fun k => if_neg c2) ?_
  by_cases c3 : r.1 = 3
  · refine EvP.congr (fun k => if_pos c3) ?_
    exact EvP.bind (n_p b _ _ _ ht (by omega)) fun s h => EvP.const (fun _ => rfl) h.2.2
  refine EvP.congr (fun k => if_neg c3) ?_
  by_cases c4 : r.1 = 4
  · refine EvP.congr (fun k => if_pos c4) ?_
    exact EvP.bind (n_p b _ _ _ ht (by omega)) fun s h => EvP.const (fun _ => rfl) h.2.2
  refine EvP.congr (fun k => if_neg c4) ?_
  by_cases c5 : r.1 = 5
  · refine EvP.congr (fun k => if_pos c5) ?_
    exact EvP.bind (n_p b _ _ _ ht (by omega)) fun s h => EvP.const (fun _ => rfl) h.2.2
  refine EvP.congr (fun k => if_neg c5) ?_
  exact EvP.bind (n_p b _ _ _ ht (by omega)) fun s h => EvP.const (fun _ => rfl) h.2.2
theorem charj_p (b : List Int) (i x v : Int) (t : Bool) (hs : Src b i) : EvP (fun k => spec_l1Char.j0 k v t b i x) (fun r => Src b r.2.1) := by
  cases t with
  | true => exact EvP.now (fun k => by simp only [spec_l1Char.j0]; first | exact if_pos rfl | exact if_pos trivial) hs
  | false =>
    refine EvP.step (fun k => by simp only [spec_l1Char.j0]; rw [if_neg (by simp)]) ?_
    by_cases c2 : v = 2
    · refine EvP.congr (fun k => if_pos c2) ?_
      exact EvP.bind (n_p b _ _ _ hs (by omega)) fun s h => EvP.const (fun _ => rfl) h.2.2
    refine EvP.congr (fun k => if_neg c2) ?_
    by_cases c3 : v = 3
    · refine EvP.congr (fun k => if_pos c3) ?_
      exact EvP.bind (n_p b _ _ _ hs (by omega)) fun s h => EvP.const (fun _ => rfl) h.2.2
    refine EvP.congr (fun k => if_neg c3) ?_
    by_cases c4 : v = 4
    · refine EvP.congr (fun k => if_pos c4) ?_
      exact EvP.bind (n_p b _ _ _ hs (by omega)) fun s h => EvP.const (fun _ => rfl) h.2.2
    refine EvP.congr (fun k => if_neg c4) ?_
    by_cases c5 : v = 5
    · refine EvP.congr (fun k => if_pos c5) ?_
      exact EvP.bind (n_p b _ _ _ hs (by omega)) fun s h => EvP.const (fun _ => rfl) h.2.2
    refine EvP.congr (fun k => if_neg c5) ?_
    by_cases c6 : v = 6
    · refine EvP.congr (fun k => if_pos c6) ?_
      exact EvP.bind (n_p b _ _ _ hs (by omega)) fun s h => EvP.const (fun _ => rfl) h.2.2
    refine EvP.congr (fun k => if_neg c6) ?_
    exact EvP.bind (n_p b _ _ _ hs (by omega)) fun s h => EvP.const (fun _ => rfl) h.2.2
theorem char_p (b : List Int) (i x : Int) (hs : Src b i) : EvP (fun k => spec_l1Char.f k b i x) (fun r => Src b r.2.1) := by
  unfold spec_l1Char.f
  refine EvP.bind (n_p b i x 12 hs (by omega)) fun r hr => ?_
  by_cases c : r.1 = 0
  · exact EvP.congr (fun k => if_pos c) (charj_p b _ _ _ _ hr.2.2)
  · exact EvP.congr (fun k => if_neg c) (charj_p b _ _ _ _ hr.2.2)
theorem text_p (b : List Int) (n : Int) (hn : n ≤ 1000000) (d : Nat) : ∀ (j : Int) (acc : List Int) (i x : Int), 0 ≤ j → n - j ≤ d → (acc.length : Int) = j → j ≤ n → Src b i →
    EvP (fun k => spec_l1DrawText.l0 k n acc j b i x) (fun r => (r.1.length : Int) = n ∧ Src b r.2.1) := by
  induction d with
  | zero => intro j acc i x h0 hd hl hj hs; exact EvP.now (fun k => by simp only [spec_l1DrawText.l0]; rw [if_neg (by omega)]) ⟨by simp only; omega, hs⟩
  | succ d ih =>
    intro j acc i x h0 hd hl hj hs
    by_cases c : j < n
    · refine EvP.step (fun k => by simp only [spec_l1DrawText.l0]; rw [if_pos c]) ?_
      refine EvP.bind (one_p b i x 25 hs (by omega)) fun r hr => ?_
      by_cases c1 : r.1 = true
      · refine EvP.congr (fun k => if_pos c1) ?_
        refine EvP.bind (wild_p b _ _ hr) fun s h => ?_
        refine EvP.congr (fun k => by rw [if_pos (by omega), w64 (by omega)]) ?_
        exact ih (j + 1) _ _ _ (by omega) (by omega) (by simp only [List.length_append, List.length_singleton]; omega) (by omega) h
      · refine EvP.congr (fun k => if_neg c1) ?_
        refine EvP.bind (char_p b _ _ hr) fun s h => ?_
        refine EvP.congr (fun k => by rw [if_pos (by omega), w64 (by omega)]) ?_
        exact ih (j + 1) _ _ _ (by omega) (by omega) (by simp only [List.length_append, List.length_singleton]; omega) (by omega) h
    · exact EvP.now (fun k => by simp only [spec_l1DrawText.l0]; rw [if_neg c]) ⟨by simp only; omega, hs⟩
theorem drawText_p (b : List Int) (i x n : Int) (hn : 0 ≤ n ∧ n ≤ 1000000) (hs : Src b i) : EvP (fun k => spec_l1DrawText.f k b i x n) (fun r => (r.1.length : Int) = n ∧ Src b r.2.1) := by
  unfold spec_l1DrawText.f
  exact text_p b n hn.2 n.toNat 0 [] i x (by omega) (by omega) (by simp) hn.1 hs
theorem bytes_app {xs ys : List Int} (h : bytes xs) (k : bytes ys) : bytes (xs ++ ys) := fun x hx => by
  rcases List.mem_append.1 hx with hx | hx
  · exact h x hx
  · exact k x hx
theorem bytes_take {xs : List Int} (h : bytes xs) (n : Nat) : bytes (xs.take n) := fun x hx => h x (List.mem_of_mem_take hx)
theorem bytes_set {xs : List Int} (h : bytes xs) (n : Nat) (v : Int) (hv : 0 ≤ v ∧ v ≤ 255) : bytes (xs.set n v) := fun x hx => by
  rcases List.mem_or_eq_of_mem_set hx with hx | rfl
  · exact h x hx
  · exact hv
theorem mod256 (x : Int) : 0 ≤ x % 256 ∧ x % 256 ≤ 255 := by omega
theorem bs_p (b : List Int) (n : Int) (hn : n ≤ 1000000) (d : Nat) : ∀ (j : Int) (acc : List Int) (i x : Int), 0 ≤ j → n - j ≤ d → (acc.length : Int) ≤ 4 * j → j ≤ n → bytes acc → Src b i →
    EvP (fun k => spec_l1DrawBytes.l0 k n acc j b i x) (fun r => (r.1.length : Int) ≤ 4 * n ∧ bytes r.1 ∧ Src b r.2.1) := by
  induction d with
  | zero => intro j acc i x h0 hd hl hj hb hs; exact EvP.now (fun k => by simp only [spec_l1DrawBytes.l0]; rw [if_neg (by omega)]) ⟨by simp only; omega, hb, hs⟩
  | succ d ih =>
    intro j acc i x h0 hd hl hj hb hs
    by_cases c : j < n
    · refine EvP.step (fun k => by simp only [spec_l1DrawBytes.l0]; rw [if_pos c]) ?_
      refine EvP.bind (char_p b i x hs) fun r hr => ?_
      refine EvP.bind (EvP.now (fun k => l1Bytes_at k r.1) (P := fun q => 1 ≤ q.length ∧ q.length ≤ 4 ∧ bytes q) ⟨by unfold encB; repeat' split
                                                                                                                     all_goals simp, encB_length _, encB_bytes _⟩) fun q hq => ?_
      obtain ⟨q1, q4, qb⟩ := hq
      have go : ∀ (y : List Int) (i' x' : Int), y.length ≤ 4 → bytes y → Src b i' →
          EvP (fun k => if acc.length + y.length < 140737488355328 then spec_l1DrawBytes.l0 k n (acc ++ y) (wrap64 (j + 1)) b i' x' else none) (fun r => (r.1.length : Int) ≤ 4 * n ∧ bytes r.1 ∧ Src b r.2.1) := by
        intro y i' x' hy hyb hs'
        refine EvP.congr (fun k => by rw [if_pos (by omega), w64 (by omega)]) ?_
        exact ih (j + 1) _ _ _ (by omega) (by omega) (by simp only [List.length_append]; omega) (by omega) (bytes_app hb hyb) hs'
      refine EvP.bind (n_p b _ _ 9 hr (by omega)) fun s hs1 => ?_
      by_cases c0 : s.1 = 0
      · refine EvP.congr (fun k => if_pos c0) ?_
        refine EvP.bind (n_p b _ _ (q.length : Int) hs1.2.2 (by omega)) fun u hu => ?_
        refine EvP.congr (fun k => by rw [w64 (by omega), if_pos (by omega), if_pos (by omega)]) ?_
        refine EvP.bind (EvP.const (fun _ => rfl) (P := fun y => y.length ≤ 4 ∧ bytes y) ⟨by simp only [List.length_take]; omega, bytes_take qb _⟩) fun y hy => ?_
        exact go y _ _ hy.1 hy.2 hu.2.2
      refine EvP.congr (fun k => if_neg c0) ?_
      by_cases c1 : s.1 = 1
      · refine EvP.congr (fun k => if_pos c1) ?_
        refine EvP.bind (one_p b _ _ 2 hs1.2.2 (by omega)) fun u hu => ?_
        by_cases d1 : u.1 = true
        · refine EvP.congr (fun k => if_pos d1) ?_
          refine EvP.bind (n_p b _ _ (q.length : Int) hu (by omega)) fun v hv => ?_
          refine EvP.bind (n_p b _ _ 256 hv.2.2 (by omega)) fun t ht => ?_
          refine EvP.congr (fun k => by rw [if_pos (by omega), if_pos (by omega)]) ?_
          refine EvP.bind (EvP.const (fun _ => rfl) (P := fun y => y.length ≤ 4 ∧ bytes y) ⟨by simp only [List.length_set]; omega, bytes_set qb _ _ (mod256 _)⟩) fun y hy => ?_
          exact go y _ _ hy.1 hy.2 ht.2.2
        · exact EvP.congr (fun k => if_neg d1) (go q _ _ q4 qb hu)
      refine EvP.congr (fun k => if_neg c1) ?_
      by_cases c2 : s.1 = 2
      · refine EvP.congr (fun k => if_pos c2) ?_
        refine EvP.bind (one_p b _ _ 3 hs1.2.2 (by omega)) fun u hu => ?_
        by_cases d1 : u.1 = true
        · refine EvP.congr (fun k => if_pos d1) ?_
          refine EvP.bind (n_p b _ _ 64 hu (by omega)) fun v hv => ?_
          refine EvP.bind (n_p b _ _ 64 hv.2.2 (by omega)) fun t ht => ?_
          refine EvP.bind (EvP.const (fun _ => rfl) (P := fun y => y.length ≤ 4 ∧ bytes y) ⟨by simp, fun z hz => by
            simp only [List.mem_cons, List.not_mem_nil, or_false] at hz
            rcases hz with rfl | rfl <;> exact mod256 _⟩) fun y hy => ?_
          exact go y _ _ hy.1 hy.2 ht.2.2
        · exact EvP.congr (fun k => if_neg d1) (go q _ _ q4 qb hu)
      refine EvP.congr (fun k => if_neg c2) ?_
      by_cases c3 : s.1 = 3
      · refine EvP.congr (fun k => if_pos c3) ?_
        refine EvP.bind (one_p b _ _ 3 hs1.2.2 (by omega)) fun u hu => ?_
        by_cases d1 : u.1 = true
        · refine EvP.congr (fun k => if_pos d1) ?_
          refine EvP.bind (EvP.const (fun _ => rfl) (P := fun y => y.length = 6 ∧ bytes y) ⟨rfl, by unfold bytes; decide⟩) fun m hm => ?_
          refine EvP.bind (n_p b _ _ 6 hu (by omega)) fun v hv => ?_
          refine EvP.congr (fun k => by rw [if_pos (by omega), if_pos (by omega)]) ?_
          refine EvP.bind (n_p b _ _ 96 hv.2.2 (by omega)) fun t1 ht1 => ?_
          refine EvP.bind (n_p b _ _ 64 ht1.2.2 (by omega)) fun t2 ht2 => ?_
          refine EvP.bind (n_p b _ _ 64 ht2.2.2 (by omega)) fun t3 ht3 => ?_
          have hm1 : 0 ≤ rd m v.1 ∧ rd m v.1 ≤ 255 := by
            have e := rd_at m v.1.toNat (by omega)
            rw [show ((v.1.toNat : Nat) : Int) = v.1 by omega] at e
            rw [e]; exact hm.2 _ (List.getElem_mem _)
          refine EvP.bind (EvP.const (fun _ => rfl) (P := fun y => y.length ≤ 4 ∧ bytes y) ⟨by simp, fun z hz => by
            simp only [List.mem_cons, List.not_mem_nil, or_false] at hz
            rcases hz with rfl | rfl | rfl | rfl
            · exact hm1
            all_goals exact mod256 _⟩) fun y hy => ?_
          exact go y _ _ hy.1 hy.2 ht3.2.2
        · exact EvP.congr (fun k => if_neg d1) (go q _ _ q4 qb hu)
      · exact EvP.congr (fun k => if_neg c3) (go q _ _ q4 qb hs1.2.2)
    · exact EvP.now (fun k => by simp only [spec_l1DrawBytes.l0]; rw [if_neg c]) ⟨by simp only; omega, hb, hs⟩
theorem drawBytes_p (b : List Int) (i x n : Int) (hn : 0 ≤ n ∧ n ≤ 1000000) (hs : Src b i) : EvP (fun k => spec_l1DrawBytes.f k b i x n) (fun r => (r.1.length : Int) ≤ 4 * n ∧ bytes r.1 ∧ Src b r.2.1) := by
  unfold spec_l1DrawBytes.f
  exact bs_p b n hn.2 n.toNat 0 [] i x (by omega) (by omega) (by simp) hn.1 (fun x hx => by cases hx) hs

theorem N_p (b : List Int) (i x a : Int) (hs : Src b i) (ha : 1 ≤ a ∧ a ≤ 1099511627776) : EvP (fun _ => spec_l1Src_N.f b i x a) (fun r => 0 ≤ r.1 ∧ r.1 < a ∧ Src b r.2.1) := by
  unfold spec_l1Src_N.f
  exact EvP.bind (n_p b i x a hs ha) fun r hr => EvP.const (fun _ => rfl) hr
theorem size_p (code : List Int) (most : Int) (h : code.length ≤ 1048576) (hm : 2 ≤ most ∧ most ≤ 100000) : EvP (fun _ => spec_L1Size.f code most) (fun r => 2 ≤ r ∧ r ≤ most) := by
  unfold spec_L1Size.f spec_l1Size.f
  rw [w64 (x := (code.length : Int) / 2) (by omega), w64 (by omega)]
  by_cases c : 2 + (code.length : Int) / 2 > most
  · exact EvP.const (fun _ => by rw [if_pos c]; rfl) (by omega)
  · exact EvP.const (fun _ => by rw [if_neg c]; rfl) (by omega)
theorem text2_p (b : List Int) (i x n : Int) (hn : 0 ≤ n ∧ n ≤ 1000000) (hs : Src b i) : EvP (fun k => spec_L1Text.f k b i x n) (fun r => (r.1.length : Int) = n ∧ Src b r.2.1) := by
  unfold spec_L1Text.f
  exact EvP.bind (drawText_p b i x n hn hs) fun r hr => EvP.const (fun _ => rfl) hr
theorem bytes2_p (b : List Int) (i x n : Int) (hn : 0 ≤ n ∧ n ≤ 1000000) (hs : Src b i) : EvP (fun k => spec_L1Bytes.f k b i x n) (fun r => (r.1.length : Int) ≤ 4 * n ∧ bytes r.1 ∧ Src b r.2.1) := by
  unfold spec_L1Bytes.f
  exact EvP.bind (drawBytes_p b i x n hn hs) fun r hr => EvP.const (fun _ => rfl) hr
theorem cp_is (xs : List Int) (h : xs.length ≤ 1000000) : laws_cpText.f xs = some xs := by
  unfold laws_cpText.f
  show (if ([] : List Int).length + xs.length < 35184372088832 then some ([] ++ xs) else none) = some xs
  rw [if_pos (by simp only [List.length_nil]; omega), List.nil_append]
theorem sm_loop (xs : List Int) (hn : xs.length ≤ 1048576) (d : Nat) : ∀ i : Nat, i + d = xs.length → Ev (fun k => laws_smText.l0 k xs xs (xs.length : Int) (i : Int)) true := by
  induction d with
  | zero => intro i hi; exact ev_now fun k => by simp only [laws_smText.l0]; rw [if_neg (by omega)]
  | succ d ih =>
    intro i hi
    refine Ev.step (f := fun k => laws_smText.l0 k xs xs (xs.length : Int) ((i + 1 : Nat) : Int)) (fun k => ?_) (ih (i + 1) (by omega))
    simp only [laws_smText.l0]
    rw [if_pos (by omega), if_pos (by omega), if_pos (by omega), if_pos (by omega), if_pos trivial, w64 (by omega)]; rfl
theorem sm_ev (xs : List Int) (hn : xs.length ≤ 1048576) : Ev (fun k => laws_smText.f k xs xs) true := by
  unfold laws_smText.f
  exact Ev.congr (fun k => if_pos rfl) (sm_loop xs hn xs.length 0 (by omega))
theorem dec_ev (xs : List Int) (hn : xs.length ≤ 1048576) (hw : bytes xs) : Ev (fun k => spec_DecodeText.f k xs) (dec xs.length xs) := by
  have := spec_dec_loop xs hw hn xs.length 0 [] (by omega) (by omega) (by simp; omega)
  simpa [spec_DecodeText.f] using this
/-- a span of a store holds the runes of some bytes -/
def SpanOf (st : List Int) (s : S42) (b : List Int) : Prop := ∃ pre post, st = pre ++ dec b.length b ++ post ∧ s = ⟨(pre.length : Int), ((dec b.length b).length : Int)⟩ ∧ bytes b ∧ b.length ≤ 1000
def AllSp (st : List Int) (xs : List S42) (ys : List (List Int)) : Prop := xs.length = ys.length ∧ ∀ i (_ : i < xs.length) (_ : i < ys.length), SpanOf st xs[i] ys[i]
theorem AllSp.snoc {st : List Int} {xs : List S42} {ys : List (List Int)} (h : AllSp st xs ys) (c : List Int) (hb : bytes c) (hl : c.length ≤ 1000) :
    AllSp (st ++ dec c.length c) (xs ++ [⟨(st.length : Int), ((dec c.length c).length : Int)⟩]) (ys ++ [c]) := by
  obtain ⟨h1, h2⟩ := h
  refine ⟨by simp [h1], fun i hi hk => ?_⟩
  by_cases c1 : i < xs.length
  · rw [List.getElem_append_left c1, List.getElem_append_left (by omega)]
    obtain ⟨pre, post, e1, e2, e3, e4⟩ := h2 i c1 (by omega)
    exact ⟨pre, post ++ dec c.length c, by rw [e1]; simp only [List.append_assoc], e2, e3, e4⟩
  · have e : i = xs.length := by simp only [List.length_append, List.length_singleton] at hi; omega
    subst e
    rw [List.getElem_append_right (by omega), List.getElem_append_right (by omega)]
    simp only [h1, Nat.sub_self, List.getElem_singleton]
    exact ⟨st, [], by simp, rfl, hb, hl⟩
theorem read_is (st : List Int) (s : S42) (b : List Int) (h : SpanOf st s b) (hl : st.length ≤ 1000000) : impl_StoreRead.f st s.f0 s.f1 = some (dec b.length b, (brk (dec b.length b) : Int), 0) := by
  obtain ⟨pre, post, e1, rfl, -, -⟩ := h
  unfold impl_StoreRead.f
  rw [if_pos (by omega)]
  generalize dec b.length b = D at e1
  have hlen : st.length = pre.length + D.length + post.length := by rw [e1]; simp only [List.length_append]
  have e2 : wrap64 ((pre.length : Int) + (D.length : Int)) = (pre.length : Int) + (D.length : Int) := w64 (by omega)
  have e3 : ((st.take (wrap64 ((pre.length : Int) + (D.length : Int))).toNat).drop (pre.length : Int).toNat) = D := by
    rw [e2, show ((pre.length : Int) + (D.length : Int)).toNat = (pre ++ D).length by simp only [List.length_append]; omega, e1, List.take_left', Int.toNat_natCast, List.drop_left']
    all_goals rfl
  unfold storeReadV
  simp only
  rw [if_neg (by unfold storeBad; omega), e3]
theorem l2_ev (x4 : List Int) (x6 : List (List Int)) (D : List Int) (x65 : List S42) (x66 x67 : Int) (hD : D.length ≤ 1048576) (hn : Ev (fun k => laws_FnStore.l1 k x4 x6 x65 x66 (wrap64 (x67 + 1))) true) (d : Nat) : ∀ i : Nat, i + d = D.length →
    Ev (fun k => laws_FnStore.l2 k x4 x6 D (brk D : Int) 0 D (brk (D.take i) : Int) x65 x66 x67 D (D.length : Int) (i : Int)) true := by
  induction d with
  | zero =>
    intro i hi
    obtain rfl : i = D.length := by omega
    refine Ev.step (fun k => by simp only [laws_FnStore.l2]; rw [if_neg (by omega), if_pos trivial]) ?_
    refine Ev.bind (sm_ev D hD) ?_
    refine Ev.congr (fun k => if_pos rfl) ?_
    exact Ev.congr (fun k => if_pos (by rw [List.take_length])) hn
  | succ d ih =>
    intro i hi
    have hlt : i < D.length := by omega
    have e : brk (D.take (i + 1)) = brk (D.take i) + (if D[i] = 10 then 1 else 0) := by
      unfold brk; rw [List.take_succ_eq_append_getElem hlt, List.countP_append, List.countP_singleton]; simp
    have hb : brk (D.take i) ≤ 9000000 := by have := brk_le (D.take i); simp at this; omega
    refine Ev.step (f := fun k => laws_FnStore.l2 k x4 x6 D (brk D : Int) 0 D (brk (D.take (i + 1)) : Int) x65 x66 x67 D (D.length : Int) ((i + 1 : Nat) : Int)) (fun k => ?_) (ih (i + 1) (by omega))
    simp only [laws_FnStore.l2]
    rw [if_pos (by omega), if_pos (by omega), if_pos (by omega), rd_at D i hlt]
    by_cases c : D[i] = 10
    · rw [if_pos c, e, if_pos c, w64 (by omega), w64 (by omega)]; rfl
    · rw [if_neg c, e, if_neg c, w64 (by omega)]; rfl
theorem l1_ev (st : List Int) (xs : List S42) (ys : List (List Int)) (h : AllSp st xs ys) (hl : st.length ≤ 1000000) (hx : xs.length ≤ 1000) (d : Nat) : ∀ i : Nat, i + d = xs.length →
    Ev (fun k => laws_FnStore.l1 k st ys xs (xs.length : Int) (i : Int)) true := by
  induction d with
  | zero => intro i hi; exact ev_now fun k => by simp only [laws_FnStore.l1]; rw [if_neg (by omega)]
  | succ d ih =>
    intro i hi
    have hlt : i < xs.length := by omega
    have hlt2 : i < ys.length := by have := h.1; omega
    have e1 : rd_T42 xs (i : Int) = xs[i] := by unfold rd_T42; simp [List.getD, hlt]
    have e2 : rd_L4 ys (i : Int) = ys[i] := by unfold rd_L4; simp [List.getD, hlt2]
    have hs := h.2 i hlt hlt2
    refine Ev.step (fun k => by simp only [laws_FnStore.l1]; rw [if_pos (by omega), if_pos (by omega), if_pos (by omega)]) ?_
    refine Ev.bind (ev_const (fun _ => cp_is st hl)) ?_
    rw [e1, e2]
    refine Ev.bind (ev_const (fun _ => read_is st _ _ hs hl)) ?_
    refine Ev.congr (fun k => if_pos (by have := h.1; omega)) ?_
    obtain ⟨-, -, -, -, hb, hbl⟩ := hs
    have hd := dec_length (ys[i]).length ys[i] (Nat.le_refl _)
    refine Ev.bind (dec_ev _ (by omega) hb) ?_
    have := l2_ev st ys (dec (ys[i]).length ys[i]) xs (xs.length : Int) (i : Int) (by omega) (by rw [w64 (by omega)]; exact ih (i + 1) (by omega)) _ 0 (Nat.zero_add _)
    simpa [brk] using this
theorem l0_ev (code b : List Int) (hc : code.length ≤ 1048576) (d : Nat) : ∀ (st : List Int) (xs : List S42) (ys : List (List Int)) (n i x : Int), n ≤ d → 0 ≤ n → (st.length : Int) + 1000 * n ≤ 100000 → (xs.length : Int) + n ≤ 100 → AllSp st xs ys → Src b i →
    Ev (fun k => laws_FnStore.l0 k code st xs ys n b i x) true := by
  induction d with
  | zero =>
    intro st xs ys n i x hd h0 hst hxs ha hs
    refine Ev.step (fun k => by simp only [laws_FnStore.l0]; rw [if_neg (by omega)]) ?_
    exact l1_ev st xs ys ha (by omega) (by omega) xs.length 0 (by omega)
  | succ d ih =>
    intro st xs ys n i x hd h0 hst hxs ha hs
    by_cases c : n > 0
    · refine Ev.step (fun k => by simp only [laws_FnStore.l0]; rw [if_pos c]) ?_
      have go : EvP (fun k => (spec_L1Size.f code 40).bind fun t348 => ((spec_l1Src_N.f b i x t348).bind fun bt349 => ((spec_L1Bytes.f k b bt349.2.1 bt349.2.2 bt349.1).bind fun bt352 => ((some (([] : List Int) : List Int)).bind fun y357 => (if y357.length + bt352.1.length < 140737488355328 then ((impl_StoreAppend.f st (y357 ++ bt352.1)).bind fun bt363 => (if bt363.2.2.2 = 0 then (if xs.length < 8796093022208 then (if ys.length < 5864062014805 then (laws_FnStore.l0 k code bt363.1 (xs ++ [(⟨bt363.2.1, bt363.2.2.1⟩ : S42)]) (ys ++ [bt352.1]) (wrap64 (n - 1)) b bt352.2.1 bt352.2.2) else (none)) else (none)) else (some false))) else (none)))))) (fun r => r = true) := by
        refine EvP.bind (size_p code 40 hc (by omega)) fun z hz => ?_
        refine EvP.bind (N_p b i x z hs (by omega)) fun r1 h1 => ?_
        refine EvP.bind (bytes2_p b _ _ _ (by omega) h1.2.2) fun r2 h2 => ?_
        obtain ⟨hl2, hb2, hs2⟩ := h2
        refine EvP.bind (EvP.const (fun _ => rfl) (P := fun y => y = []) rfl) fun y hy => ?_
        subst hy
        refine EvP.congr (fun k => if_pos (by simp only [List.length_nil]; omega)) ?_
        have hd := dec_length r2.1.length r2.1 (Nat.le_refl _)
        have e : impl_StoreAppend.f st ([] ++ r2.1) = some (st ++ dec r2.1.length r2.1, (st.length : Int), ((dec r2.1.length r2.1).length : Int), 0) := by
          unfold impl_StoreAppend.f
          rw [List.nil_append, if_pos ⟨by omega, by omega, hb2⟩]
          unfold storeAppendV
          rw [if_neg (by omega)]
        refine EvP.bind (EvP.const (fun _ => e) (P := fun y => y = (st ++ dec r2.1.length r2.1, (st.length : Int), ((dec r2.1.length r2.1).length : Int), 0)) rfl) fun y hy => ?_
        subst hy
        have hyl : ys.length = xs.length := ha.1.symm
        refine EvP.congr (fun k => by simp only; rw [if_pos trivial, if_pos (by omega), if_pos (by omega), w64 (by omega)]) ?_
        exact EvP.of (ih _ _ _ _ _ _ (by omega) (by omega) (by simp only [List.length_append]; omega) (by simp only [List.length_append, List.length_singleton]; omega) (ha.snoc r2.1 hb2 (by omega)) hs2) rfl
      obtain ⟨r, g1, rfl⟩ := go
      exact g1
    · refine Ev.step (fun k => by simp only [laws_FnStore.l0]; rw [if_neg c]) ?_
      exact l1_ev st xs ys ha (by omega) (by omega) xs.length 0 (by omega)
theorem law (l : List Int) : ∃ k, laws_FnStore.f k l = some true := by
  refine Ev.rounds (g := fun k => laws_FnStore.f k l) ?_
  unfold laws_FnStore.f
  by_cases hn : (l.length : Int) > 1048576
  · exact ev_const fun k => by rw [if_pos hn]
  refine Ev.congr (fun k => if_neg hn) ?_
  have go : EvP (fun k => (spec_L1Draw.f l).bind fun bt327 => ((spec_l1Src_N.f bt327.1 bt327.2.1 bt327.2.2 30).bind fun bt331 => ((spec_L1Text.f k bt327.1 bt331.2.1 bt331.2.2 bt331.1).bind fun bt334 => ((spec_l1Src_N.f bt327.1 bt334.2.1 bt334.2.2 8).bind fun bt345 => (laws_FnStore.l0 k l bt334.1 (([] : List (S42))) (([] : List (List Int))) (wrap64 (1 + bt345.1)) bt327.1 bt345.2.1 bt345.2.2))))) (fun r => r = true) := by
    refine EvP.bind (EvP.const (fun _ => rfl) (P := fun r => Src r.1 r.2.1) ⟨Int.le_refl _, Int.natCast_nonneg _, by show l.length ≤ 1048576; omega⟩) fun s hs => ?_
    refine EvP.bind (N_p _ _ _ 30 hs (by omega)) fun r1 h1 => ?_
    refine EvP.bind (text2_p _ _ _ _ (by omega) h1.2.2) fun r2 h2 => ?_
    refine EvP.bind (N_p _ _ _ 8 h2.2 (by omega)) fun r3 h3 => ?_
    rw [w64 (by omega)]
    exact EvP.of (l0_ev l _ (by omega) 9 _ _ _ _ _ _ (by omega) (by omega) (by omega) (by simp; omega) ⟨rfl, fun i h => by simp at h⟩ h3.2.2) rfl
  obtain ⟨r, g1, rfl⟩ := go
  exact g1
end Go.Proofs.YtefdjajmnkmbgaaDoor.PureFnStore
