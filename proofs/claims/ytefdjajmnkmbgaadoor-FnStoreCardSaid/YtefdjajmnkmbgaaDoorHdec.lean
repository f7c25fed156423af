/- What the program's DecodeText answers, plainly, for every list of bytes of at most 2000000. No condition. -/
import Derived.Test.YtefdjajmnkmbgaaDoorQBasex1
import Derived.OpenShut
import Derived.Lib.Strings
namespace Go.Proofs.YtefdjajmnkmbgaaDoor.Dec
open Go Go.RowKit Go.Proofs.YtefdjajmnkmbgaaDoor.QBase Go.Proofs.YtefdjajmnkmbgaaDoorW.PrintWords Go.Proofs.YtefdjajmnkmbgaaDoorW.PrintLast

theorem w64 {x : Int} (h : -9223372036854775808 ≤ x ∧ x ≤ 9223372036854775807) : wrap64 x = x := by unfold wrap64; omega
theorem ev_now {α : Type} {g : Nat → Option α} {r : α} (h : ∀ k, g (k + 1) = some r) : Ev g r :=
  ⟨1, fun k hk => by obtain ⟨m, rfl⟩ : ∃ m, k = m + 1 := ⟨k - 1, by omega⟩; exact h m⟩
theorem ev_const {α : Type} {g : Nat → Option α} {r : α} (h : ∀ k, g k = some r) : Ev g r := ⟨0, fun k _ => h k⟩
theorem rd_at (xs : List Int) (i : Nat) (h : i < xs.length) : rd xs (i : Int) = xs[i] := by
  unfold rd; simp [List.getD, h]
def mk (f : Int → Int) (k : Int) (n : Nat) : List Int := (List.range n).map fun j => f (k + (j : Nat))
theorem mk_length (f : Int → Int) (k : Int) (n : Nat) : (mk f k n).length = n := by simp [mk]
theorem mk_get (f : Int → Int) (k : Int) (n i : Nat) (h : i < n) : rd (mk f k n) (i : Int) = f (k + i) := by
  rw [rd_at _ _ (by simpa [mk] using h)]; simp [mk]
def bytes (xs : List Int) : Prop := ∀ x ∈ xs, 0 ≤ x ∧ x ≤ 255
theorem bytes_drop {xs : List Int} (h : bytes xs) (n : Nat) : bytes (xs.drop n) := fun x hx => h x (List.mem_of_mem_drop hx)
/-- what a first byte leads: how many follow, and between which the second one is -/
def ldN (a : Int) : Int := if 194 ≤ a ∧ a ≤ 223 then 1 else if 224 ≤ a ∧ a ≤ 239 then 2 else if 240 ≤ a ∧ a ≤ 244 then 3 else 0
def ldLo (a : Int) : Int := if a = 224 then 160 else if a = 240 then 144 else if 194 ≤ a ∧ a ≤ 244 then 128 else 0
def ldHi (a : Int) : Int := if a = 237 then 159 else if a = 244 then 143 else if 194 ≤ a ∧ a ≤ 244 then 191 else 0
theorem within_b (a lo hi : Int) : impl_within_byte.f a lo hi = some (decide (lo ≤ a ∧ a ≤ hi)) := by
  unfold impl_within_byte.f; split
  · simp_all
  · simp; omega
theorem lead_is (a : Int) : impl_lead.f a = some (ldN a, ldLo a, ldHi a) := by
  unfold impl_lead.f
  simp only [within_b, Option.bind_some, decide_eq_true_eq]
  unfold ldN ldLo ldHi
  repeat' split
  all_goals simp only [Option.some.injEq, Prod.mk.injEq]
  all_goals omega
def v2 (a b : Int) : Int := (a - 192) * 64 + b - 128
def v3 (a b c : Int) : Int := (a - 224) * 4096 + (b - 128) * 64 + c - 128
def v4 (a b c d : Int) : Int := (a - 240) * 262144 + (b - 128) * 4096 + (c - 128) * 64 + d - 128
def cont (b : Int) : Prop := 128 ≤ b ∧ b ≤ 191
instance (b : Int) : Decidable (cont b) := by unfold cont; exact inferInstance
def snd (a b : Int) : Prop := ldLo a ≤ b ∧ b ≤ ldHi a
instance (a b : Int) : Decidable (snd a b) := by unfold snd; exact inferInstance
/-- one rune at the front, and how many bytes it takes -/
def dec1 (q : List Int) : Int × Int :=
  let a := rd q 0
  if a < 128 then (a, 1)
  else if ldN a = 0 ∨ q.length < 2 ∨ ¬ snd a (rd q 1) then (65533, 1)
  else if ldN a = 1 then (v2 a (rd q 1), 2)
  else if q.length < 3 ∨ ¬ cont (rd q 2) then (65533, 2)
  else if ldN a = 2 then (v3 a (rd q 1) (rd q 2), 3)
  else if q.length < 4 ∨ ¬ cont (rd q 3) then (65533, 3)
  else (v4 a (rd q 1) (rd q 2) (rd q 3), 4)
theorem i32_and (j : Nat) (hj : j ≤ 31) (x : Int) (h₀ : 0 ≤ x) (h₁ : x < 2147483648) : bits .and .i32 x (2 ^ j - 1) = x % 2 ^ j :=
  bits_mask .i32 31 (by decide) wraps_i32 j (by omega) x h₀ h₁
theorem one_is (q : List Int) (hq : bytes q) (h1 : 1 ≤ q.length) : Ev (fun k => impl_one.f k q) (dec1 q) := by
  have b0 : ∀ i : Nat, i < q.length → 0 ≤ rd q i ∧ rd q i ≤ 255 := fun i hi => by rw [rd_at q i hi]; exact hq _ (List.getElem_mem hi)
  have ha := b0 0 h1
  simp only [Int.natCast_zero] at ha
  unfold impl_one.f dec1
  generalize ea : rd q 0 = a at *
  refine Ev.congr (fun k => if_pos (by omega)) ?_
  by_cases c0 : a < 128
  · simp only [if_pos c0]; exact ev_const fun k => by rw [show wrap32 a = a by unfold wrap32; omega]
  simp only [if_neg c0, lead_is, Option.bind_some]
  by_cases cn : ldN a = 0
  · simp only [cn, true_or, if_true]; exact ev_const fun k => rfl
  simp only [cn, if_false, false_or]
  have hn : ldN a = 1 ∧ 194 ≤ a ∧ a ≤ 223 ∨ ldN a = 2 ∧ 224 ≤ a ∧ a ≤ 239 ∨ ldN a = 3 ∧ 240 ≤ a ∧ a ≤ 244 := by
    unfold ldN at cn ⊢; repeat' split at cn
    all_goals first | omega | (simp_all; done) | (simp_all; omega)
  have hlo : 128 ≤ ldLo a ∧ ldHi a ≤ 191 := by
    unfold ldLo ldHi; repeat' split
    all_goals omega
  refine Ev.congr (fun k => if_pos (by omega)) ?_
  have em : bits .and .i32 (wrap32 a) (shr .i32 63 (ldN a)) = if ldN a = 1 then a % 32 else if ldN a = 2 then a % 16 else a % 8 := by
    rw [show wrap32 a = a by unfold wrap32; omega]
    rcases hn with ⟨e, _⟩ | ⟨e, _⟩ | ⟨e, _⟩ <;> rw [e]
    · rw [show shr .i32 63 1 = (2 ^ 5 - 1 : Int) by decide, i32_and 5 (by omega) a (by omega) (by omega)]; rfl
    · rw [show shr .i32 63 2 = (2 ^ 4 - 1 : Int) by decide, i32_and 4 (by omega) a (by omega) (by omega)]; rfl
    · rw [show shr .i32 63 3 = (2 ^ 3 - 1 : Int) by decide, i32_and 3 (by omega) a (by omega) (by omega)]; rfl
  rw [em]
  -- one round
  have round : ∀ (i : Nat) (lo hi r : Int) (R : Int × Int), (i : Int) ≤ ldN a → 1 ≤ i → 0 ≤ r → r < 33554432 →
      (if (q.length : Int) ≤ i ∨ ¬ (lo ≤ rd q i ∧ rd q i ≤ hi) then R = (65533, (i : Int))
       else Ev (fun k => impl_one.l0 k q (ldN a) 128 191 (r * 64 + rd q i % 64) ((i + 1 : Nat) : Int)) R) →
      Ev (fun k => impl_one.l0 k q (ldN a) lo hi r (i : Int)) R := by
    intro i lo hi r R hi1 hi2 hr0 hr1 h
    by_cases c : (q.length : Int) ≤ i
    · rw [if_pos (Or.inl c)] at h; subst h
      exact ev_now fun k => by simp only [impl_one.l0]; rw [if_pos hi1, if_pos c]
    · have hb := b0 i (by omega)
      by_cases c2 : lo ≤ rd q i ∧ rd q i ≤ hi
      · rw [if_neg (by simp only [not_or, Decidable.not_not]; exact ⟨c, c2⟩)] at h
        refine Ev.step (fun k => ?_) h
        simp only [impl_one.l0]
        rw [if_pos hi1, if_neg (by omega), if_pos (by omega), if_pos (by omega), within_b]
        simp only [Option.bind_some]
        rw [if_pos (by simpa using c2), w64 (by omega), u8_and63 _ (by omega) (by omega), show wrap32 (rd q i % 64) = rd q i % 64 by unfold wrap32; omega,
          show wrap32 (r * 64) = r * 64 by unfold wrap32; omega, i32_or6 _ _ (by omega) (by omega) (by omega) (by omega) (by omega)]
        rfl
      · rw [if_pos (Or.inr c2)] at h; subst h
        exact ev_now fun k => by
          simp only [impl_one.l0]
          rw [if_pos hi1, if_neg (by omega), if_pos (by omega), if_pos (by omega), within_b]
          simp only [Option.bind_some]
          rw [if_neg (by simpa using c2)]
  have stop : ∀ (i : Nat) (r lo hi : Int) , (i : Int) = ldN a + 1 → Ev (fun k => impl_one.l0 k q (ldN a) lo hi r (i : Int)) (r, (i : Int)) := fun i r lo hi h =>
    ev_now fun k => by simp only [impl_one.l0]; rw [if_neg (by omega), w64 (by omega), h]
  have r1 := round 1 (ldLo a) (ldHi a)
  have r2 := round 2 128 191
  have r3 := round 3 128 191
  simp only [Nat.reduceAdd, Int.cast_ofNat_Int] at r1 r2 r3
  refine r1 _ _ (by omega) (by omega) (by omega) (by omega) ?_
  unfold snd
  by_cases d1 : q.length < 2 ∨ ¬ (ldLo a ≤ rd q 1 ∧ rd q 1 ≤ ldHi a)
  · rw [if_pos d1, if_pos (by rcases d1 with d | d; exact Or.inl (by omega); exact Or.inr d)]
  rw [if_neg d1, if_neg (fun e => d1 (by rcases e with d | d; exact Or.inl (by omega); exact Or.inr d))]
  have g1 : 2 ≤ q.length ∧ ldLo a ≤ rd q 1 ∧ rd q 1 ≤ ldHi a := ⟨by omega, by simp only [not_or, Decidable.not_not] at d1; exact d1.2⟩
  have hb1 := b0 1 (by omega)
  simp only [Int.natCast_one] at hb1
  by_cases n1 : ldN a = 1
  · rw [if_pos n1]
    have s := stop 2 (a % 32 * 64 + rd q 1 % 64) 128 191 (by omega)
    simp only [if_pos n1]
    rw [show v2 a (rd q 1) = a % 32 * 64 + rd q 1 % 64 by unfold v2; omega]
    exact s
  rw [if_neg n1]
  simp only [if_neg n1]
  refine r2 _ _ (by omega) (by omega) (by omega) (by omega) ?_
  unfold cont
  by_cases d2 : q.length < 3 ∨ ¬ (128 ≤ rd q 2 ∧ rd q 2 ≤ 191)
  · rw [if_pos d2, if_pos (by rcases d2 with d | d; exact Or.inl (by omega); exact Or.inr d)]
  rw [if_neg d2, if_neg (fun e => d2 (by rcases e with d | d; exact Or.inl (by omega); exact Or.inr d))]
  have g2 : 3 ≤ q.length ∧ 128 ≤ rd q 2 ∧ rd q 2 ≤ 191 := ⟨by omega, by simp only [not_or, Decidable.not_not] at d2; exact d2.2⟩
  by_cases n2 : ldN a = 2
  · rw [if_pos n2]
    have s := stop 3 ((a % 16 * 64 + rd q 1 % 64) * 64 + rd q 2 % 64) 128 191 (by omega)
    simp only [if_pos n2]
    rw [show v3 a (rd q 1) (rd q 2) = (a % 16 * 64 + rd q 1 % 64) * 64 + rd q 2 % 64 by unfold v3; omega]
    exact s
  rw [if_neg n2]
  simp only [if_neg n2]
  refine r3 _ _ (by omega) (by omega) (by omega) (by omega) ?_
  by_cases d3 : q.length < 4 ∨ ¬ (128 ≤ rd q 3 ∧ rd q 3 ≤ 191)
  · rw [if_pos d3, if_pos (by rcases d3 with d | d; exact Or.inl (by omega); exact Or.inr d)]
  rw [if_neg d3, if_neg (fun e => d3 (by rcases e with d | d; exact Or.inl (by omega); exact Or.inr d))]
  have g3 : 4 ≤ q.length ∧ 128 ≤ rd q 3 ∧ rd q 3 ≤ 191 := ⟨by omega, by simp only [not_or, Decidable.not_not] at d3; exact d3.2⟩
  have s := stop 4 (((a % 8 * 64 + rd q 1 % 64) * 64 + rd q 2 % 64) * 64 + rd q 3 % 64) 128 191 (by omega)
  rw [show v4 a (rd q 1) (rd q 2) (rd q 3) = ((a % 8 * 64 + rd q 1 % 64) * 64 + rd q 2 % 64) * 64 + rd q 3 % 64 by unfold v4; omega]
  exact s
theorem dec1_took (q : List Int) (h1 : 1 ≤ q.length) : 1 ≤ (dec1 q).2 ∧ (dec1 q).2 ≤ q.length := by
  unfold dec1; dsimp only
  by_cases c0 : rd q 0 < 128
  · rw [if_pos c0]; exact ⟨by simp, by simp; omega⟩
  rw [if_neg c0]
  by_cases c1 : ldN (rd q 0) = 0 ∨ q.length < 2 ∨ ¬ snd (rd q 0) (rd q 1)
  · rw [if_pos c1]; exact ⟨by simp, by simp; omega⟩
  rw [if_neg c1]
  by_cases c2 : ldN (rd q 0) = 1
  · rw [if_pos c2]; exact ⟨by simp, by simp; omega⟩
  rw [if_neg c2]
  by_cases c3 : q.length < 3 ∨ ¬ cont (rd q 2)
  · rw [if_pos c3]; exact ⟨by simp, by simp; omega⟩
  rw [if_neg c3]
  by_cases c4 : ldN (rd q 0) = 2
  · rw [if_pos c4]; exact ⟨by simp, by simp; omega⟩
  rw [if_neg c4]
  by_cases c5 : q.length < 4 ∨ ¬ cont (rd q 3)
  · rw [if_pos c5]; exact ⟨by simp, by simp; omega⟩
  rw [if_neg c5]; exact ⟨by simp, by simp; omega⟩
/-- the runes of some bytes -/
def dec : Nat → List Int → List Int
  | 0, _ => []
  | n + 1, q => if q.length = 0 then [] else (dec1 q).1 :: dec n (q.drop (dec1 q).2.toNat)
theorem dec_length (n : Nat) : ∀ q : List Int, q.length ≤ n → (dec n q).length ≤ q.length := by
  induction n with
  | zero => intro q h; simp [dec]
  | succ n ih =>
    intro q h
    unfold dec
    split
    · simp
    · have t := dec1_took q (by omega)
      have := ih (q.drop (dec1 q).2.toNat) (by simp; omega)
      simp only [List.length_cons, List.length_drop] at this ⊢; omega
theorem impl_dec_loop (n : Nat) : ∀ (q acc : List Int), q.length ≤ n → n + acc.length ≤ 2000000 → bytes q → Ev (fun k => impl_DecodeText.l0 k q acc) (acc ++ dec n q) := by
  induction n with
  | zero => intro q acc h _ _; refine ev_now fun k => ?_; simp only [impl_DecodeText.l0]; rw [if_neg (by omega)]; simp [dec]
  | succ n ih =>
    intro q acc h hs hq
    unfold dec
    by_cases c : q.length = 0
    · rw [if_pos c]; refine ev_now fun k => ?_; simp only [impl_DecodeText.l0]; rw [if_neg (by omega)]; simp
    rw [if_neg c]
    have t := dec1_took q (by omega)
    refine Ev.step (fun k => by simp only [impl_DecodeText.l0]; rw [if_pos (by omega)]) ?_
    refine Ev.bind (one_is q hq (by omega)) ?_
    refine Ev.congr (fun k => by rw [if_pos (by omega), if_pos (by omega), if_pos (by omega)]) ?_
    have e := ih (q.drop (dec1 q).2.toNat) (acc ++ [(dec1 q).1]) (by simp; omega) (by simp; omega) (bytes_drop hq _)
    simpa using e

theorem impl_ev (xs : List Int) (hn : xs.length ≤ 2000000) (hw : bytes xs) : Ev (fun k => impl_DecodeText.f k xs) (dec xs.length xs) := by
  have := impl_dec_loop xs.length xs [] (by omega) (by simp; omega) hw
  simpa [impl_DecodeText.f] using this
end Go.Proofs.YtefdjajmnkmbgaaDoor.Dec
