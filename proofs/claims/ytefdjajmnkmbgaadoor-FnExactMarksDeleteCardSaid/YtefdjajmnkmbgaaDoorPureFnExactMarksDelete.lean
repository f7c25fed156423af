/- The law FnExactMarksDelete tells true, plainly, at every input whose ids are numbers of 64 bits. -/
import Derived.Test.YtefdjajmnkmbgaaDoorQFnExactMarksDeletex5
namespace Go.Proofs.YtefdjajmnkmbgaaDoor.PureFnExactMarksDelete
set_option linter.unusedVariables false
set_option linter.unusedSimpArgs false
open Go Go.RowKit Go.Proofs.YtefdjajmnkmbgaaDoor Go.Proofs.YtefdjajmnkmbgaaDoor.QFnExactMarksDelete Go.Proofs.YtefdjajmnkmbgaaDoorW.PrintWords Go.Proofs.YtefdjajmnkmbgaaDoorW.PrintLast
theorem w64 {x : Int} (h : -9223372036854775808 ≤ x ∧ x ≤ 9223372036854775807) : wrap64 x = x := by unfold wrap64; omega
theorem ev_now {α : Type} {g : Nat → Option α} {r : α} (h : ∀ k, g (k + 1) = some r) : Ev g r :=
  ⟨1, fun k hk => by obtain ⟨m, rfl⟩ : ∃ m, k = m + 1 := ⟨k - 1, by omega⟩; exact h m⟩
theorem ev_const {α : Type} {g : Nat → Option α} {r : α} (h : ∀ k, g k = some r) : Ev g r := ⟨0, fun k _ => h k⟩
theorem rdI (xs : List S53) (i : Nat) (h : i < xs.length) : rd_T53 xs (i : Int) = xs[i] := by unfold rd_T53; simp [List.getD, h]
theorem cbcv (x : S53) : cb (cv x) = x := rfl
theorem map_cbcv (xs : List S53) : (xs.map cv).map cb = xs := by rw [List.map_map]; exact (List.map_congr_left (fun x _ => cbcv x)).trans (List.map_id xs)
theorem map_cvcb (xs : List Mk) : (xs.map cb).map cv = xs := by rw [List.map_map]; exact (List.map_congr_left (fun x _ => rfl)).trans (List.map_id xs)
theorem rdL (xs : List S61) (i : Nat) (h : i < xs.length) : rd_T61 xs (i : Int) = xs[i] := by unfold rd_T61; simp [List.getD, h]
/-- the law's mark, as the program's -/
def tv (x : S61) : S53 := ⟨x.f0, x.f1, x.f2⟩
theorem toMarkS_loop (xs : List S61) (hn : xs.length ≤ 1048576) (d : Nat) : ∀ i : Nat, i + d = xs.length →
    Ev (fun k => laws_toMarkS.l0 k xs ((xs.take i).map tv ++ List.replicate d z53) (i : Int)) (xs.map tv) := by
  induction d with
  | zero =>
    intro i hi
    obtain rfl : i = xs.length := by omega
    refine ev_now fun k => ?_
    simp only [laws_toMarkS.l0]
    rw [if_neg (by omega)]
    simp
  | succ d ih =>
    intro i hi
    have hlt : i < xs.length := by omega
    refine Ev.step (f := fun k => laws_toMarkS.l0 k xs ((xs.take (i + 1)).map tv ++ List.replicate d z53) ((i + 1 : Nat) : Int)) (fun k => ?_) (ih (i + 1) (by omega))
    simp only [laws_toMarkS.l0, laws_toMark.f, Option.bind_some]
    rw [if_pos (by omega), if_pos (by omega), if_pos (by simp; omega), w64 (by omega)]
    congr 1
    rw [rdL xs i hlt, Int.toNat_natCast, List.set_append_right _ _ (by simp; omega)]
    rw [show i - ((xs.take i).map tv).length = 0 by simp; omega, List.replicate_succ, List.set_cons_zero, List.take_succ_eq_append_getElem hlt, List.map_append, List.append_assoc]; rfl
theorem toMarkS_ev (xs : List S61) (hn : xs.length ≤ 1048576) : Ev (fun k => laws_toMarkS.f k xs) (xs.map tv) := by
  unfold laws_toMarkS.f
  refine Ev.congr (fun k => by rw [if_pos (by omega), if_pos (by omega)]) ?_
  have h := toMarkS_loop xs hn xs.length 0 (by omega)
  simpa using h
theorem eqMark_is (x : S53) : laws_eqMark.f x.f0 x.f1 x.f2 x.f0 x.f1 x.f2 = some true := by
  unfold laws_eqMark.f
  simp
theorem eqMarkS_loop (xs : List S53) (hn : xs.length ≤ 9000000) (d : Nat) : ∀ i : Nat, i + d = xs.length →
    Ev (fun k => laws_eqMarkS.l0 k xs xs (i : Int)) true := by
  induction d with
  | zero => intro i hi; refine ev_now fun k => ?_; simp only [laws_eqMarkS.l0]; rw [if_neg (by omega)]
  | succ d ih =>
    intro i hi
    refine Ev.step (f := fun k => laws_eqMarkS.l0 k xs xs ((i + 1 : Nat) : Int)) (fun k => ?_) (ih (i + 1) (by omega))
    simp only [laws_eqMarkS.l0]
    rw [if_pos (by omega), if_pos (by omega), if_pos (by omega), w64 (by omega), eqMark_is]; rfl
theorem eqMarkS_ev (xs : List S53) (hn : xs.length ≤ 9000000) : Ev (fun k => laws_eqMarkS.f k xs xs) true := by
  unfold laws_eqMarkS.f
  exact Ev.congr (fun k => if_pos rfl) (eqMarkS_loop xs hn xs.length 0 (by omega))
theorem szMarkS_is (xs : List S61) (h : xs.length ≤ 1048576) : ∃ v, laws_szMarkS.f xs 1048576 = some v ∧ 0 ≤ v := by
  unfold laws_szMarkS.f
  refine ⟨1048576 - (xs.length : Int), ?_, by omega⟩
  rw [w64 (by omega), if_neg (by omega)]
theorem szMarkS_big (xs : List S61) (h : 1048576 < xs.length) (hm : xs.length ≤ 9223372036854775807) : laws_szMarkS.f xs 1048576 = some (-1) := by
  unfold laws_szMarkS.f
  rw [w64 (by omega), if_pos (by omega)]
/-! marks written into marks, and read back -/
theorem rd_set_self (L : List S53) (i : Nat) (x : S53) (h : i < L.length) : rd_T53 (L.set i x) (i : Int) = x := by
  rw [rdI _ i (by rw [List.length_set]; exact h), List.getElem_set_self]
def mi (s : Int) (n : Nat) : List S53 := (List.range n).map fun (j : Nat) => ⟨s + 3 * (j : Int), s + 3 * (j : Int) + 1, s + 3 * (j : Int) + 2⟩
theorem mi_length (s : Int) (n : Nat) : (mi s n).length = n := by simp [mi]
theorem mi_get (s : Int) (n i : Nat) (h : i < n) : rd_T53 (mi s n) (i : Int) = ⟨s + 3 * (i : Int), s + 3 * (i : Int) + 1, s + 3 * (i : Int) + 2⟩ := by
  rw [rdI _ i (by rw [mi_length]; exact h)]; simp [mi]
theorem mi_succ (s : Int) (n : Nat) : mi s (n + 1) = mi s n ++ [⟨s + 3 * (n : Int), s + 3 * (n : Int) + 1, s + 3 * (n : Int) + 2⟩] := by
  simp [mi, List.range_succ]
theorem markMarkS_loop (s : Int) (hs : 0 ≤ s ∧ s ≤ 9000000) (xs : List S53) (hn : xs.length ≤ 9000000) (d : Nat) : ∀ i : Nat, i + d = xs.length →
    Ev (fun k => laws_markMarkS.l0 k (mi s i ++ xs.drop i) (s + 3 * (i : Int)) (i : Int)) (s + 3 * (xs.length : Int), mi s xs.length) := by
  induction d with
  | zero =>
    intro i hi
    obtain rfl : i = xs.length := by omega
    refine ev_now fun k => ?_
    simp only [laws_markMarkS.l0]
    rw [if_neg (by simp [mi_length])]
    simp
  | succ d ih =>
    intro i hi
    have hlt : i < xs.length := by omega
    have hL : i < (mi s i ++ xs.drop i).length := by rw [List.length_append, mi_length, List.length_drop]; omega
    refine Ev.step (f := fun k => laws_markMarkS.l0 k (mi s (i + 1) ++ xs.drop (i + 1)) (s + 3 * ((i + 1 : Nat) : Int)) ((i + 1 : Nat) : Int)) (fun k => ?_) (ih (i + 1) (by omega))
    simp only [laws_markMarkS.l0]
    rw [if_pos (by omega), if_pos (by omega)]
    simp only [Option.bind_some, Int.toNat_natCast]
    rw [w64 (x := (i : Int) + 1) (by omega), w64 (x := s + 3 * (i : Int) + 1) (by omega), w64 (x := s + 3 * (i : Int) + 1 + 1) (by omega), w64 (x := s + 3 * (i : Int) + 1 + 1 + 1) (by omega)]
    have hset : ∀ x : S53, (mi s i ++ xs.drop i).set i x = mi s i ++ (x :: xs.drop (i + 1)) := fun x => by
      rw [List.set_append_right _ _ (by rw [mi_length]; exact Nat.le_refl _), mi_length, Nat.sub_self, List.drop_eq_getElem_cons hlt, List.set_cons_zero]
    have hget : ∀ x : S53, rd_T53 (mi s i ++ (x :: xs.drop (i + 1))) (i : Int) = x := fun x => by
      rw [← hset x]; exact rd_set_self _ i x hL
    have hset2 : ∀ x y : S53, (mi s i ++ (x :: xs.drop (i + 1))).set i y = mi s i ++ (y :: xs.drop (i + 1)) := fun x y => by
      rw [List.set_append_right _ _ (by rw [mi_length]; exact Nat.le_refl _), mi_length, Nat.sub_self, List.set_cons_zero]
    rw [hset, hget, hset2, hget, hset2, show s + 3 * (i : Int) + 1 + 1 = s + 3 * (i : Int) + 2 by omega, show s + 3 * (i : Int) + 2 + 1 = s + 3 * ((i + 1 : Nat) : Int) by omega, mi_succ, List.append_assoc, List.singleton_append]
    rfl
theorem markMarkS_ev (xs : List S53) (hn : xs.length ≤ 9000000) : Ev (fun k => laws_markMarkS.f k xs 1) (1 + 3 * (xs.length : Int), mi 1 xs.length) := by
  unfold laws_markMarkS.f
  have h := markMarkS_loop 1 (by omega) xs hn xs.length 0 (by omega)
  exact Ev.congr (fun k => by simp [mi]) h
theorem heldMarkS_loop (s : Int) (hs : 0 ≤ s ∧ s ≤ 9000000) (n : Nat) (hn : n ≤ 9000000) (d : Nat) : ∀ i : Nat, i + d = n →
    Ev (fun k => laws_heldMarkS.l0 k (mi s n) (s + 3 * (i : Int)) (i : Int)) (s + 3 * (n : Int)) := by
  induction d with
  | zero =>
    intro i hi
    refine ev_now fun k => ?_
    simp only [laws_heldMarkS.l0]
    rw [if_neg (by rw [mi_length]; omega)]
    congr 1; omega
  | succ d ih =>
    intro i hi
    refine Ev.step (f := fun k => laws_heldMarkS.l0 k (mi s n) (s + 3 * ((i + 1 : Nat) : Int)) ((i + 1 : Nat) : Int)) (fun k => ?_) (ih (i + 1) (by omega))
    simp only [laws_heldMarkS.l0]
    rw [if_pos (by rw [mi_length]; omega), if_pos (by omega), mi_get s n i (by omega), w64 (x := (i : Int) + 1) (by omega), w64 (x := s + 3 * (i : Int) + 1) (by omega), w64 (x := s + 3 * (i : Int) + 1 + 1) (by omega), w64 (x := s + 3 * (i : Int) + 1 + 1 + 1) (by omega)]
    dsimp only
    rw [if_pos rfl, if_pos rfl, if_pos (by omega)]
    congr 1
    omega
theorem heldMarkS_ev (n : Nat) (hn : n ≤ 9000000) : Ev (fun k => laws_heldMarkS.f k (mi 1 n) 1) (1 + 3 * (n : Int)) := by
  unfold laws_heldMarkS.f
  exact Ev.congr (fun k => by simp) (heldMarkS_loop 1 (by omega) n hn n 0 (by omega))
/-! the specification's validity -/
/-- range of a mark, as the specification asks it -/
def rgS (m : S53) : Bool := goodM (cv m)
/-- mark j against mark i behind it -/
def prS (xs : List S53) (j i : Nat) : Bool := decide ((rd_T53 xs (j : Int)).f0 ≠ (rd_T53 xs (i : Int)).f0) && ltB (cv (rd_T53 xs (j : Int))) (cv (rd_T53 xs (i : Int)))
def frS (xs : List S53) (i : Nat) : Nat → Nat → Bool
  | 0, _ => true
  | d + 1, j => (decide (i ≤ j) || prS xs j i) && frS xs i d (j + 1)
def vlS (xs : List S53) : Nat → Nat → Bool
  | 0, _ => true
  | d + 1, i => (rgS (rd_T53 xs (i : Int)) && frS xs i xs.length 0) && vlS xs d (i + 1)
theorem before_is (a b c d e f : Int) : spec_l5Before.f a b c d e f = some (ltB ⟨a, b, c⟩ ⟨d, e, f⟩) := by
  unfold spec_l5Before.f ltB
  by_cases h1 : b < e
  · simp [h1]
  · by_cases h2 : b = e
    · subst h2; simp
    · simp [h1, h2]
theorem inner_ev (xs : List S53) (hn : xs.length ≤ 1048576) (i : Nat) (hi : i < xs.length) (V : Bool) (hV : Ev (fun k => spec_L5Valid.l0 k xs xs (xs.length : Int) ((i + 1 : Nat) : Int)) V) (d : Nat) : ∀ j : Nat, j + d = xs.length →
    Ev (fun k => spec_L5Valid.l1 k xs (i : Int) xs (xs.length : Int) (i : Int) (xs.length : Int) (j : Int) (rd_T53 xs (i : Int)).f0 (rd_T53 xs (i : Int)).f1 (rd_T53 xs (i : Int)).f2) (frS xs i d j && V) := by
  induction d with
  | zero =>
    intro j hj
    simp only [frS, Bool.true_and]
    refine Ev.step (f := fun k => spec_L5Valid.l0 k xs xs (xs.length : Int) ((i + 1 : Nat) : Int)) (fun k => ?_) hV
    simp only [spec_L5Valid.l1]
    rw [if_neg (by omega), w64 (by omega)]
    rfl
  | succ d ih =>
    intro j hj
    have h1 := ih (j + 1) (by omega)
    by_cases c : j < i
    · by_cases c2 : (rd_T53 xs (j : Int)).f0 = (rd_T53 xs (i : Int)).f0
      · have e : (frS xs i (d + 1) j && V) = false := by simp only [frS, prS]; simp [c2]; omega
        rw [e]
        refine ev_now fun k => ?_
        simp only [spec_L5Valid.l1]
        rw [if_pos (by omega), if_pos (by omega), if_pos (by omega), if_pos (by omega), if_pos c2]
      · by_cases c3 : ltB (cv (rd_T53 xs (j : Int))) (cv (rd_T53 xs (i : Int))) = true
        · have e : (frS xs i (d + 1) j && V) = (frS xs i d (j + 1) && V) := by simp only [frS, prS]; simp [c2, c3]
          rw [e]
          refine Ev.step (f := fun k => spec_L5Valid.l1 k xs (i : Int) xs (xs.length : Int) (i : Int) (xs.length : Int) ((j + 1 : Nat) : Int) (rd_T53 xs (i : Int)).f0 (rd_T53 xs (i : Int)).f1 (rd_T53 xs (i : Int)).f2) (fun k => ?_) h1
          simp only [spec_L5Valid.l1]
          rw [if_pos (by omega), if_pos (by omega), if_pos (by omega), if_pos (by omega), if_neg c2, before_is, Option.bind_some]
          refine (if_pos c3).trans ?_
          rw [w64 (by omega)]
          rfl
        · have e : (frS xs i (d + 1) j && V) = false := by simp only [frS, prS]; simp [c3]; omega
          rw [e]
          refine ev_now fun k => ?_
          simp only [spec_L5Valid.l1]
          rw [if_pos (by omega), if_pos (by omega), if_pos (by omega), if_pos (by omega), if_neg c2, before_is, Option.bind_some]
          exact if_neg c3
    · have e : (frS xs i (d + 1) j && V) = (frS xs i d (j + 1) && V) := by simp only [frS]; simp [show i ≤ j by omega]
      rw [e]
      refine Ev.step (f := fun k => spec_L5Valid.l1 k xs (i : Int) xs (xs.length : Int) (i : Int) (xs.length : Int) ((j + 1 : Nat) : Int) (rd_T53 xs (i : Int)).f0 (rd_T53 xs (i : Int)).f1 (rd_T53 xs (i : Int)).f2) (fun k => ?_) h1
      simp only [spec_L5Valid.l1]
      rw [if_pos (by omega), if_neg (by omega), w64 (by omega)]
      rfl
theorem outer_ev (xs : List S53) (hn : xs.length ≤ 1048576) (d : Nat) : ∀ i : Nat, i + d = xs.length → Ev (fun k => spec_L5Valid.l0 k xs xs (xs.length : Int) (i : Int)) (vlS xs d i) := by
  induction d with
  | zero =>
    intro i hi
    refine ev_now fun k => ?_
    simp only [spec_L5Valid.l0]
    rw [if_neg (by omega)]; rfl
  | succ d ih =>
    intro i hi
    have h2 := inner_ev xs hn i (by omega) _ (ih (i + 1) (by omega)) xs.length 0 (by omega)
    have hT : ∀ b : Bool, b = true → Ev (fun k => spec_L5Valid.j1 k xs (i : Int) xs (xs.length : Int) (i : Int) b (rd_T53 xs (i : Int)).f0 (rd_T53 xs (i : Int)).f1 (rd_T53 xs (i : Int)).f2) false := fun b hb => by
      subst hb
      exact ev_now fun k => by simp only [spec_L5Valid.j1]; rw [if_pos trivial]
    have hF : ∀ b : Bool, b = false → Ev (fun k => spec_L5Valid.j1 k xs (i : Int) xs (xs.length : Int) (i : Int) b (rd_T53 xs (i : Int)).f0 (rd_T53 xs (i : Int)).f1 (rd_T53 xs (i : Int)).f2) (frS xs i xs.length 0 && vlS xs d (i + 1)) := fun b hb => by
      subst hb
      refine Ev.step (f := fun k => spec_L5Valid.l1 k xs (i : Int) xs (xs.length : Int) (i : Int) (xs.length : Int) ((0 : Nat) : Int) (rd_T53 xs (i : Int)).f0 (rd_T53 xs (i : Int)).f1 (rd_T53 xs (i : Int)).f2) (fun k => ?_) h2
      simp only [spec_L5Valid.j1]
      rw [if_neg (by decide)]
      rfl
    have hl : ∀ k, spec_L5Valid.l0 (k + 1) xs xs (xs.length : Int) (i : Int) = spec_L5Valid.l0 (k + 1) xs xs (xs.length : Int) (i : Int) := fun _ => rfl
    obtain ⟨m, hm⟩ : ∃ m, m = rd_T53 xs (i : Int) := ⟨_, rfl⟩
    rw [← hm] at hT hF
    have er : rgS (rd_T53 xs (i : Int)) = rgS m := by rw [hm]
    simp only [vlS]
    rw [er]
    unfold rgS goodM
    have go : ∀ (b : Bool) (r : Bool), Ev (fun k => spec_L5Valid.j1 k xs (i : Int) xs (xs.length : Int) (i : Int) b m.f0 m.f1 m.f2) r → (∀ k, spec_L5Valid.l0 (k + 1) xs xs (xs.length : Int) (i : Int) = spec_L5Valid.j1 k xs (i : Int) xs (xs.length : Int) (i : Int) b m.f0 m.f1 m.f2) → Ev (fun k => spec_L5Valid.l0 k xs xs (xs.length : Int) (i : Int)) r := fun b r h1 h2 => Ev.step h2 h1
    have un : ∀ k, spec_L5Valid.l0 (k + 1) xs xs (xs.length : Int) (i : Int) = (if m.f0 < -1000000000 then spec_L5Valid.j1 k xs (i : Int) xs (xs.length : Int) (i : Int) true m.f0 m.f1 m.f2 else if m.f0 > 1000000000 then spec_L5Valid.j1 k xs (i : Int) xs (xs.length : Int) (i : Int) true m.f0 m.f1 m.f2 else if m.f1 < 0 then spec_L5Valid.j1 k xs (i : Int) xs (xs.length : Int) (i : Int) true m.f0 m.f1 m.f2 else if m.f1 > 8192 then spec_L5Valid.j1 k xs (i : Int) xs (xs.length : Int) (i : Int) true m.f0 m.f1 m.f2 else if m.f2 < 0 then spec_L5Valid.j1 k xs (i : Int) xs (xs.length : Int) (i : Int) true m.f0 m.f1 m.f2 else spec_L5Valid.j1 k xs (i : Int) xs (xs.length : Int) (i : Int) (decide (m.f2 > 1)) m.f0 m.f1 m.f2) := fun k => by
      simp only [spec_L5Valid.l0]
      rw [if_pos (by omega), if_pos (by omega), if_pos (by omega), ← hm]
    show Ev _ ((decide (-1000000000 ≤ m.f0 ∧ m.f0 ≤ 1000000000) && (decide (0 ≤ m.f1 ∧ m.f1 ≤ 8192) && decide (0 ≤ m.f2 ∧ m.f2 ≤ 1)) && frS xs i xs.length 0) && vlS xs d (i + 1))
    by_cases c1 : m.f0 < -1000000000
    · rw [decide_eq_false (by omega)]
      exact go true false (hT _ rfl) (fun k => by rw [un, if_pos c1])
    by_cases c2 : m.f0 > 1000000000
    · rw [decide_eq_false (by omega)]
      exact go true false (hT _ rfl) (fun k => by rw [un, if_neg c1, if_pos c2])
    rw [decide_eq_true (by omega : -1000000000 ≤ m.f0 ∧ m.f0 ≤ 1000000000)]
    by_cases c3 : m.f1 < 0
    · rw [decide_eq_false (by omega : ¬ (0 ≤ m.f1 ∧ m.f1 ≤ 8192))]
      exact go true false (hT _ rfl) (fun k => by rw [un, if_neg c1, if_neg c2, if_pos c3])
    by_cases c4 : m.f1 > 8192
    · rw [decide_eq_false (by omega : ¬ (0 ≤ m.f1 ∧ m.f1 ≤ 8192))]
      exact go true false (hT _ rfl) (fun k => by rw [un, if_neg c1, if_neg c2, if_neg c3, if_pos c4])
    rw [decide_eq_true (by omega : 0 ≤ m.f1 ∧ m.f1 ≤ 8192)]
    by_cases c5 : m.f2 < 0
    · rw [decide_eq_false (by omega : ¬ (0 ≤ m.f2 ∧ m.f2 ≤ 1))]
      exact go true false (hT _ rfl) (fun k => by rw [un, if_neg c1, if_neg c2, if_neg c3, if_neg c4, if_pos c5])
    by_cases c6 : m.f2 > 1
    · rw [decide_eq_false (by omega : ¬ (0 ≤ m.f2 ∧ m.f2 ≤ 1))]
      exact go (decide (m.f2 > 1)) false (hT _ (decide_eq_true c6)) (fun k => by rw [un, if_neg c1, if_neg c2, if_neg c3, if_neg c4, if_neg c5])
    rw [decide_eq_true (by omega : 0 ≤ m.f2 ∧ m.f2 ≤ 1)]
    exact go (decide (m.f2 > 1)) _ (hF _ (decide_eq_false c6)) (fun k => by rw [un, if_neg c1, if_neg c2, if_neg c3, if_neg c4, if_neg c5])
theorem frS_iff (xs : List S53) (i d : Nat) : ∀ j, frS xs i d j = true ↔ ∀ j', j ≤ j' → j' < j + d → j' < i → prS xs j' i = true := by
  induction d with
  | zero => intro j; simp only [frS, true_iff]; intro j' h1 h2; omega
  | succ d ih =>
    intro j
    simp only [frS, Bool.and_eq_true, Bool.or_eq_true, decide_eq_true_eq, ih]
    constructor
    · rintro ⟨h1, h2⟩ j' a b c
      by_cases e : j' = j
      · subst e; rcases h1 with h1 | h1; omega; exact h1
      · exact h2 j' (by omega) (by omega) c
    · intro h
      refine ⟨?_, fun j' a b c => h j' (by omega) (by omega) c⟩
      by_cases c : i ≤ j
      · exact .inl c
      · exact .inr (h j (Nat.le_refl _) (by omega) (by omega))
theorem vlS_iff (xs : List S53) (d : Nat) : ∀ i, vlS xs d i = true ↔ ∀ i', i ≤ i' → i' < i + d → rgS (rd_T53 xs (i' : Int)) = true ∧ frS xs i' xs.length 0 = true := by
  induction d with
  | zero => intro i; simp only [vlS, true_iff]; intro j' h1 h2; omega
  | succ d ih =>
    intro i
    simp only [vlS, Bool.and_eq_true, ih]
    constructor
    · rintro ⟨h1, h2⟩ j' a b
      by_cases e : j' = i
      · subst e; exact h1
      · exact h2 j' (by omega) (by omega)
    · intro h
      exact ⟨h i (Nat.le_refl _) (by omega), fun j' a b => h j' (by omega) (by omega)⟩
theorem cvd (xs : List S53) (i : Nat) (h : i < xs.length) : (xs.map cv).getD i default = cv (rd_T53 xs (i : Int)) := by
  rw [rdI _ _ h, List.getD_eq_getElem?_getD, List.getElem?_map, List.getElem?_eq_getElem h]; rfl
theorem cfM_lt (x y : Mk) : decide (cfM x y < 0) = ltB x y := ltM x y
theorem ltB_trans {x y z : Mk} (h1 : ltB x y = true) (h2 : ltB y z = true) : ltB x z = true := by
  unfold ltB at *; simp at *; omega
theorem vl_tab (xs : List S53) : (decide (xs.length ≤ 128) && vlS xs xs.length 0) = okTab (xs.map cv) := by
  unfold okTab
  rw [List.length_map]
  congr 1
  rw [Bool.eq_iff_iff, vlS_iff, List.all_eq_true]
  simp only [List.mem_range]
  constructor
  · intro h i hi
    obtain ⟨h1, h2⟩ := h i (Nat.zero_le _) (by omega)
    rw [frS_iff] at h2
    unfold okAt
    rw [cvd xs i hi, Bool.and_eq_true, Bool.and_eq_true]
    refine ⟨h1, ?_, ?_⟩
    · rw [decide_eq_true_eq, List.count_eq_zero, ← List.map_take, List.map_map]
      intro hm
      obtain ⟨x, hx, e⟩ := List.mem_map.1 hm
      obtain ⟨j, hj, rfl⟩ := List.mem_iff_getElem.1 hx
      simp only [List.length_take] at hj
      have h3 := h2 j (Nat.zero_le _) (by omega) (by omega)
      unfold prS at h3
      rw [Bool.and_eq_true, decide_eq_true_eq, rdI _ _ (by omega : j < xs.length), rdI _ _ hi] at h3
      refine h3.1 ?_
      rw [rdI _ _ hi] at e
      simp only [List.getElem_take] at e
      exact e
    · by_cases c : i = 0
      · simp [c]
      · rw [Bool.or_eq_true]
        right
        rw [cfM_lt, cvd xs (i - 1) (by omega)]
        have h3 := h2 (i - 1) (Nat.zero_le _) (by omega) (by omega)
        unfold prS at h3
        rw [Bool.and_eq_true] at h3
        exact h3.2
  · intro h i _ hi
    have hi' : i < xs.length := by omega
    refine ⟨?_, ?_⟩
    · have := h i hi'
      unfold okAt at this
      rw [cvd xs i hi', Bool.and_eq_true] at this
      exact this.1
    · have st : ∀ d j : Nat, j + d < xs.length → 0 < d → ltB (cv (rd_T53 xs (j : Int))) (cv (rd_T53 xs ((j + d : Nat) : Int))) = true := by
        intro d
        induction d with
        | zero => intro j _ h0; omega
        | succ d ih =>
          intro j hj _
          have h1 := h (j + (d + 1)) hj
          unfold okAt at h1
          rw [cvd xs (j + (d + 1)) hj, cvd xs (j + (d + 1) - 1) (by omega), Bool.and_eq_true, Bool.and_eq_true, Bool.or_eq_true, cfM_lt, decide_eq_true_eq] at h1
          have h2 : ltB (cv (rd_T53 xs ((j + d : Nat) : Int))) (cv (rd_T53 xs ((j + (d + 1) : Nat) : Int))) = true := by
            rcases h1.2.2 with h3 | h3
            · have := of_decide_eq_true h3; omega
            · exact h3
          by_cases c : d = 0
          · subst c; exact h2
          · exact ltB_trans (ih j (by omega) (by omega)) h2
      rw [frS_iff]
      intro j _ _ hji
      unfold prS
      rw [Bool.and_eq_true, decide_eq_true_eq]
      have h3 := st (i - j) j (by omega) (by omega)
      rw [show j + (i - j) = i by omega] at h3
      refine ⟨?_, h3⟩
      have h1 := h i hi'
      unfold okAt at h1
      rw [cvd xs i hi', Bool.and_eq_true, Bool.and_eq_true, decide_eq_true_eq, List.count_eq_zero] at h1
      intro e
      refine h1.2.1 ?_
      rw [← List.map_take, List.map_map]
      refine List.mem_map.2 ⟨xs[j], List.mem_iff_getElem.2 ⟨j, by simp; omega, by simp⟩, ?_⟩
      rw [rdI _ _ (by omega : j < xs.length)] at e
      exact e
theorem valid_ev (xs : List S53) (hn : xs.length ≤ 1048576) : Ev (fun k => spec_L5Valid.f k xs) (okTab (xs.map cv)) := by
  rw [← vl_tab]
  unfold spec_L5Valid.f
  by_cases c : (xs.length : Int) > 128
  · rw [decide_eq_false (by omega)]
    exact ev_const fun k => if_pos c
  · rw [decide_eq_true (by omega), Bool.true_and]
    exact Ev.congr (fun k => if_neg c) (outer_ev xs hn xs.length 0 (by omega))
/-! the specification's sort: again and again the first of what is left -/
def srtS (xs : List S53) : List S53 := (sortM (xs.map cv)).map cb
/-- place p holds the least of the first j -/
def leastTo (xs : List S53) (p j : Nat) : Prop := ∀ q, q < j → ltB (cv (rd_T53 xs (q : Int))) (cv (rd_T53 xs (p : Int))) = false
theorem ltB_ntrans {x y z : Mk} (h1 : ltB x y = false) (h2 : ltB y z = true) : ltB x z = true → ltB y z = true := fun _ => h2
theorem cons_erase_perm {α : Type} : ∀ (xs : List α) (p : Nat) (h : p < xs.length), (xs[p] :: xs.eraseIdx p).Perm xs := by
  intro xs
  induction xs with
  | nil => intro p h; simp at h
  | cons x xs ih =>
    intro p h
    cases p with
    | zero => exact List.Perm.refl _
    | succ p =>
      have h' : p < xs.length := by simpa using h
      exact (List.Perm.swap x xs[p] (xs.eraseIdx p)).trans (List.Perm.cons x (ih p h'))
theorem least_head (xs : List S53) (p : Nat) (hp : p < xs.length) (hl : leastTo xs p xs.length) (hd : (xs.map (·.f0)).Nodup) : srtS xs = (rd_T53 xs (p : Int)) :: srtS (xs.eraseIdx p) := by
  have hperm : (cv xs[p] :: sortM ((xs.eraseIdx p).map cv)).Perm (xs.map cv) := by
    refine (List.Perm.cons _ (sortM_perm _)).trans ?_
    rw [← List.map_cons]
    exact (cons_erase_perm xs p hp).map cv
  have hpw : PW (cv xs[p] :: sortM ((xs.eraseIdx p).map cv)) := by
    refine List.pairwise_cons.2 ⟨fun z hz => ?_, sortM_pw _⟩
    have hz2 := (sortM_perm _).mem_iff.1 hz
    obtain ⟨y, hy, rfl⟩ := List.mem_map.1 hz2
    obtain ⟨q, hq, rfl⟩ := List.mem_iff_getElem.1 (List.mem_of_mem_eraseIdx hy)
    have := hl q hq
    rw [rdI _ _ hq, rdI _ _ hp] at this
    exact this
  have hdm : ((xs.map cv).map (·.f0)).Nodup := by rw [List.map_map]; exact hd
  have e := pw_unique _ _ (hperm.trans (sortM_perm (xs.map cv)).symm) hpw (sortM_pw _) ((hperm.map _).nodup_iff.2 hdm)
  unfold srtS
  rw [← e, List.map_cons, rdI _ _ hp]
  rfl
theorem pick_ev (left out : List S53) (hn : left.length ≤ 1048576) (ho : out.length ≤ 1048576) (R : List S53)
    (hR : ∀ p, p < left.length → leastTo left p left.length → Ev (fun k => spec_l5Sort.l0 k (left.eraseIdx p) (out ++ [rd_T53 left (p : Int)])) R) (h0 : 0 < left.length) (d : Nat) : ∀ j p : Nat, j + d = left.length → p < left.length → leastTo left p j →
    Ev (fun k => spec_l5Sort.l1 k left out (p : Int) (left.length : Int) (j : Int)) R := by
  induction d with
  | zero =>
    intro j p hj hp hl
    obtain rfl : j = left.length := by omega
    refine Ev.step (fun k => ?_) (hR p hp hl)
    simp only [spec_l5Sort.l1]
    rw [if_neg (by omega), if_pos (by omega), if_pos (by omega), if_pos (by omega), if_pos (by omega), w64 (by omega), if_pos (by omega), if_pos (by omega), Int.toNat_natCast]
  | succ d ih =>
    intro j p hj hp hl
    by_cases c : ltB (cv (rd_T53 left (j : Int))) (cv (rd_T53 left (p : Int))) = true
    · refine Ev.step (fun k => ?_) (ih (j + 1) j (by omega) (by omega) (fun q hq => ?_))
      · simp only [spec_l5Sort.l1]
        rw [if_pos (by omega), if_pos (by omega), if_pos (by omega), if_pos (by omega), if_pos (by omega), before_is, Option.bind_some]
        refine (if_pos c).trans ?_
        rw [w64 (by omega)]; rfl
      · by_cases e : q = j
        · subst e; unfold ltB; simp
        · have h1 := hl q (by omega)
          unfold ltB at h1 c ⊢; simp at h1 c ⊢; omega
    · refine Ev.step (fun k => ?_) (ih (j + 1) p (by omega) hp (fun q hq => ?_))
      · simp only [spec_l5Sort.l1]
        rw [if_pos (by omega), if_pos (by omega), if_pos (by omega), if_pos (by omega), if_pos (by omega), before_is, Option.bind_some]
        refine (if_neg c).trans ?_
        rw [w64 (by omega)]; rfl
      · by_cases e : q = j
        · subst e; simpa using c
        · exact hl q (by omega)
theorem sort_loop (n : Nat) : ∀ left out : List S53, left.length = n → left.length + out.length ≤ 1048576 → (left.map (·.f0)).Nodup → Ev (fun k => spec_l5Sort.l0 k left out) (out ++ srtS left) := by
  induction n with
  | zero =>
    intro left out h0 _ _
    have : left = [] := List.eq_nil_of_length_eq_zero h0
    subst this
    refine ev_now fun k => ?_
    simp only [spec_l5Sort.l0]
    rw [if_neg (by simp)]
    simp [srtS, sortM]
  | succ n ih =>
    intro left out h0 hb hd
    refine Ev.step (f := fun k => spec_l5Sort.l1 k left out ((0 : Nat) : Int) (left.length : Int) ((0 : Nat) : Int)) (fun k => ?_) (pick_ev left out (by omega) (by omega) _ (fun p hp hl => ?_) (by omega) left.length 0 0 (by omega) (by omega) (fun q hq => by omega))
    · simp only [spec_l5Sort.l0]
      rw [if_pos (by omega)]
      rfl
    · rw [least_head left p hp hl hd]
      have hl2 : (left.eraseIdx p).length = n := by rw [List.length_eraseIdx_of_lt hp]; omega
      have h := ih (left.eraseIdx p) (out ++ [rd_T53 left (p : Int)]) hl2 (by rw [hl2, List.length_append, List.length_singleton]; omega) (hd.sublist ((List.eraseIdx_sublist left p).map _))
      rw [List.append_assoc, List.singleton_append] at h
      exact h
theorem sort_ev (xs : List S53) (hn : xs.length ≤ 1048576) (hd : (xs.map (·.f0)).Nodup) : Ev (fun k => spec_l5Sort.f k xs) (srtS xs) := by
  unfold spec_l5Sort.f
  simp only [Option.bind_some, List.nil_append, List.length_nil]
  refine Ev.congr (fun k => if_pos (by omega)) ?_
  have h := sort_loop xs.length xs [] rfl (by simp only [List.length_nil]; omega) hd
  simpa using h
def mvE (lo hi : Int) (x : S53) : S53 := cb (mvD lo hi (cv x))
def cntD (lo hi : Int) (j : Nat) : Int := (if (j : Int) ≤ lo then (j : Int) else lo) + (if hi ≤ (j : Int) then (j : Int) - hi else 0)
theorem count_ev (lo hi : Int) (hb : 0 ≤ lo ∧ lo ≤ hi ∧ hi ≤ 8192) (xs : List S53) (i n : Nat) (hi' : i < xs.length) (hn : n ≤ 8192) (hf : xs[i].f1 = (n : Int)) (x15 x16 : Int) (h16 : 0 ≤ x16 ∧ x16 ≤ 1048576) (R : List S53)
    (hR : Ev (fun k => spec_l5Delete.l0 k lo hi (xs.set i (⟨xs[i].f0, cntD lo hi n, xs[i].f2⟩ : S53)) x15 (x16 + 1)) R) (d : Nat) : ∀ j : Nat, j + d = n →
    Ev (fun k => spec_l5Delete.l1 k lo hi xs (i : Int) (cntD lo hi j) (j : Int) x15 x16) R := by
  induction d with
  | zero =>
    intro j hj
    obtain rfl : j = n := by omega
    refine Ev.step (fun k => ?_) hR
    simp only [spec_l5Delete.l1]
    rw [if_pos (by omega), if_pos (by omega), rdI _ _ hi', if_neg (by omega), w64 (by omega), Int.toNat_natCast]
  | succ d ih =>
    intro j hj
    have hc : 0 ≤ cntD lo hi j ∧ cntD lo hi j ≤ 16384 := by unfold cntD; split <;> split <;> omega
    refine Ev.step (f := fun k => spec_l5Delete.l1 k lo hi xs (i : Int) (cntD lo hi (j + 1)) ((j + 1 : Nat) : Int) x15 x16) (fun k => ?_) (ih (j + 1) (by omega))
    simp only [spec_l5Delete.l1]
    rw [if_pos (by omega), if_pos (by omega), rdI _ _ hi', if_pos (by omega), w64 (x := (j : Int) + 1) (by omega), w64 (x := cntD lo hi j + 1) (by omega)]
    by_cases c1 : (j : Int) < lo
    · rw [if_pos c1, show cntD lo hi j + 1 = cntD lo hi (j + 1) by unfold cntD; repeat (first | omega | split)]; rfl
    · rw [if_neg c1]
      by_cases c2 : (j : Int) ≥ hi
      · rw [if_pos c2, show cntD lo hi j + 1 = cntD lo hi (j + 1) by unfold cntD; repeat (first | omega | split)]; rfl
      · rw [if_neg c2, show cntD lo hi j = cntD lo hi (j + 1) by unfold cntD; repeat (first | omega | split)]; rfl
theorem mvE_is (lo hi : Int) (hb : 0 ≤ lo ∧ lo ≤ hi ∧ hi ≤ 8192) (x : S53) (n : Nat) (hf : x.f1 = (n : Int)) : (⟨x.f0, cntD lo hi n, x.f2⟩ : S53) = mvE lo hi x := by
  obtain ⟨p, q, r⟩ := x
  have hf' : q = (n : Int) := hf
  subst hf'
  have e : mvE lo hi ⟨p, (n : Int), r⟩ = cb (if hi < (n : Int) then ⟨p, (n : Int) - (hi - lo), r⟩ else if lo ≤ (n : Int) then ⟨p, lo, r⟩ else ⟨p, (n : Int), r⟩) := rfl
  rw [e]
  by_cases c1 : hi < (n : Int)
  · rw [if_pos c1, show cntD lo hi n = (n : Int) - (hi - lo) by unfold cntD; repeat (first | omega | split)]; rfl
  · rw [if_neg c1]
    by_cases c2 : lo ≤ (n : Int)
    · rw [if_pos c2, show cntD lo hi n = lo by unfold cntD; repeat (first | omega | split)]; rfl
    · rw [if_neg c2, show cntD lo hi n = (n : Int) by unfold cntD; repeat (first | omega | split)]; rfl
theorem delete_loop (lo hi : Int) (hb : 0 ≤ lo ∧ lo ≤ hi ∧ hi ≤ 8192) (xs : List S53) (hn : xs.length ≤ 1048576) (hg : ∀ m ∈ xs, 0 ≤ m.f1 ∧ m.f1 ≤ 8192) (hd : (xs.map (·.f0)).Nodup) (d : Nat) : ∀ i : Nat, i + d = xs.length →
    Ev (fun k => spec_l5Delete.l0 k lo hi ((xs.take i).map (mvE lo hi) ++ xs.drop i) (xs.length : Int) (i : Int)) (srtS (xs.map (mvE lo hi))) := by
  induction d with
  | zero =>
    intro i hi'
    obtain rfl : i = xs.length := by omega
    refine Ev.step (f := fun k => (spec_l5Sort.f k (xs.map (mvE lo hi))).bind fun t => some t) (fun k => ?_) ?_
    · simp only [spec_l5Delete.l0]
      rw [if_neg (by omega), List.take_length, List.drop_length, List.append_nil]
    · refine Ev.bind (sort_ev _ (by rw [List.length_map]; exact hn) ?_) (ev_const fun _ => rfl)
      have e : (xs.map (mvE lo hi)).map (·.f0) = xs.map (·.f0) := by
        rw [List.map_map]; refine List.map_congr_left fun m _ => ?_
        show (mvD lo hi (cv m)).f0 = m.f0
        unfold mvD; split
        · rfl
        · split <;> rfl
      rw [e]; exact hd
  | succ d ih =>
    intro i hi'
    have hlt : i < xs.length := by omega
    have hlen : ((xs.take i).map (mvE lo hi) ++ xs.drop i).length = xs.length := by simp; omega
    have hlt' : i < ((xs.take i).map (mvE lo hi) ++ xs.drop i).length := by omega
    have hat : ((xs.take i).map (mvE lo hi) ++ xs.drop i)[i] = xs[i] := by
      rw [List.getElem_append_right (by simp; omega), List.getElem_drop]
      congr 1; simp; omega
    have hgx := hg xs[i] (List.getElem_mem hlt)
    obtain ⟨n, hf⟩ : ∃ n : Nat, xs[i].f1 = (n : Int) := ⟨xs[i].f1.toNat, by omega⟩
    have next : ((xs.take i).map (mvE lo hi) ++ xs.drop i).set i (mvE lo hi xs[i]) = (xs.take (i + 1)).map (mvE lo hi) ++ xs.drop (i + 1) := by
      have e : ((xs.take i).map (mvE lo hi)).length = i := by simp; omega
      rw [List.set_append_right _ _ (by omega), e, Nat.sub_self, List.drop_eq_getElem_cons hlt, List.set_cons_zero, List.take_succ_eq_append_getElem hlt, List.map_append, List.append_assoc]
      rfl
    refine Ev.step (f := fun k => spec_l5Delete.l1 k lo hi ((xs.take i).map (mvE lo hi) ++ xs.drop i) (i : Int) (cntD lo hi 0) ((0 : Nat) : Int) (xs.length : Int) (i : Int)) (fun k => ?_)
      (count_ev lo hi hb _ i n hlt' (by omega) (by rw [hat]; exact hf) _ _ (by omega) _ ?_ n 0 (by omega))
    · simp only [spec_l5Delete.l0]
      rw [if_pos (by omega), show cntD lo hi 0 = 0 by unfold cntD; split <;> split <;> omega]; rfl
    · rw [hat, mvE_is lo hi hb xs[i] n hf, next]
      exact ih (i + 1) (by omega)
theorem delete_ev (lo hi : Int) (hb : 0 ≤ lo ∧ lo ≤ hi ∧ hi ≤ 8192) (xs : List S53) (hn : xs.length ≤ 1048576) (hg : ∀ m ∈ xs, 0 ≤ m.f1 ∧ m.f1 ≤ 8192) (hd : (xs.map (·.f0)).Nodup) : Ev (fun k => spec_l5Delete.f k xs lo hi) (srtS (xs.map (mvE lo hi))) := by
  unfold spec_l5Delete.f
  simp only [Option.bind_some, List.nil_append, List.length_nil]
  refine Ev.congr (fun k => if_pos (by omega)) ?_
  have h := delete_loop lo hi hb xs hn hg hd xs.length 0 (by omega)
  simpa using h
theorem cv_nd {xs : List S53} (h : okTab (xs.map cv) = true) : (xs.map (·.f0)).Nodup := by
  have := okTab_nd h
  rw [List.map_map] at this
  exact this
theorem cv_good {xs : List S53} (h : okTab (xs.map cv) = true) : ∀ m ∈ xs, 0 ≤ m.f1 ∧ m.f1 ≤ 8192 := fun m hm => good_off h (cv m) (List.mem_map.2 ⟨m, hm, rfl⟩)
theorem spec_ev (xs : List S53) (lo hi : Int) (hn : xs.length ≤ 1048576) : Ev (fun k => spec_MarksDelete.f k xs lo hi) ((marksDeleteV (xs.map cv) lo hi).1.map cb, (marksDeleteV (xs.map cv) lo hi).2) := by
  unfold spec_MarksDelete.f marksDeleteV
  refine Ev.bind (valid_ev xs hn) ?_
  by_cases hv : okTab (xs.map cv) = true
  · rw [if_pos hv]
    refine Ev.congr (fun k => if_pos hv) ?_
    by_cases c1 : lo < 0
    · rw [if_neg (by omega)]; exact ev_const fun k => if_pos c1
    refine Ev.congr (fun k => if_neg c1) ?_
    by_cases c2 : hi < lo
    · rw [if_neg (by omega)]; exact ev_const fun k => if_pos c2
    refine Ev.congr (fun k => if_neg c2) ?_
    by_cases c3 : hi > 8192
    · rw [if_neg (by omega)]; exact ev_const fun k => if_pos c3
    refine Ev.congr (fun k => if_neg c3) ?_
    rw [if_pos (by omega)]
    refine Ev.bind (delete_ev lo hi (by omega) xs hn (cv_good hv) (cv_nd hv)) ?_
    have em : (xs.map (mvE lo hi)).map cv = (xs.map cv).map (mvD lo hi) := by rw [List.map_map, List.map_map]; rfl
    have es : srtS (xs.map (mvE lo hi)) = (sortM ((xs.map cv).map (mvD lo hi))).map cb := by unfold srtS; rw [em]
    rw [es]
    exact ev_const fun _ => rfl
  · rw [if_neg hv]
    exact ev_const fun k => if_neg hv
theorem V_len (xs : List Mk) (lo hi : Int) (h : xs.length ≤ 1048576) : (marksDeleteV xs lo hi).1.length ≤ 1048576 := by
  unfold marksDeleteV
  split
  · split
    · simp only; rw [(sortM_perm _).length_eq, List.length_map]; exact h
    · simp
  · simp
theorem law (xs : List S61) (off n : Int) (hm : xs.length ≤ 9223372036854775807) (hw : ∀ m ∈ xs, -9223372036854775808 ≤ m.f0 ∧ m.f0 ≤ 9223372036854775807) : ∃ k, laws_FnExactMarksDelete.f k xs off n = some true := by
  refine Ev.rounds (g := fun k => laws_FnExactMarksDelete.f k xs off n) ?_
  unfold laws_FnExactMarksDelete.f
  by_cases hn : 1048576 < xs.length
  · exact ev_const fun k => by rw [szMarkS_big xs hn hm, Option.bind_some, if_pos (by omega)]
  obtain ⟨v, hv, hv0⟩ := szMarkS_is xs (by omega)
  have hn' : xs.length ≤ 1048576 := by omega
  have hml : (xs.map tv).length ≤ 1048576 := by rw [List.length_map]; exact hn'
  have hl := V_len ((xs.map tv).map cv) off n (by rw [List.length_map]; exact hml)
  have hs := spec_ev (xs.map tv) off n hml
  have hids : idsOk (xs.map tv) = true := List.all_eq_true.2 fun m h => by
    obtain ⟨q, hq, rfl⟩ := List.mem_map.1 h
    exact decide_eq_true (hw q hq)
  have hi : impl_MarksDelete.f (xs.map tv) off n = some ((marksDeleteV ((xs.map tv).map cv) off n).1.map cb, (marksDeleteV ((xs.map tv).map cv) off n).2) := by unfold impl_MarksDelete.f; rw [if_pos ⟨hml, hids⟩]
  generalize marksDeleteV ((xs.map tv).map cv) off n = R at hl hs hi
  obtain ⟨zs, c⟩ := R
  simp only at hl hs hi
  obtain ⟨ys, hys⟩ : ∃ ys, zs.map cb = ys := ⟨_, rfl⟩
  have hyl : ys.length ≤ 1048576 := by rw [← hys, List.length_map]; exact hl
  rw [hys] at hs hi
  clear hys hl
  refine Ev.bind (ev_const fun _ => hv) ?_
  refine Ev.congr (fun k => if_neg (by omega)) ?_
  refine Ev.bind (toMarkS_ev xs hn') ?_
  refine Ev.bind hs ?_
  refine Ev.bind (toMarkS_ev xs hn') ?_
  refine Ev.bind (ev_const fun _ => hi) ?_
  refine Ev.bind (eqMarkS_ev ys (by omega)) ?_
  refine Ev.congr (fun k => if_pos rfl) ?_
  refine Ev.step (fun k => by simp only [laws_FnExactMarksDelete.j0]; rw [if_neg (by simp)]) ?_
  refine Ev.bind (toMarkS_ev xs hn') ?_
  refine Ev.bind (eqMarkS_ev _ (by omega)) ?_
  refine Ev.congr (fun k => if_pos rfl) ?_
  refine Ev.bind (markMarkS_ev (xs.map tv) (by omega)) ?_
  refine Ev.congr (fun k => if_neg (by dsimp only; omega)) ?_
  refine Ev.bind (eqMarkS_ev ys (by omega)) ?_
  refine Ev.congr (fun k => if_pos rfl) ?_
  refine Ev.step (fun k => by simp only [laws_FnExactMarksDelete.j1]; rw [if_neg (by simp)]) ?_
  refine Ev.bind (markMarkS_ev ys (by omega)) ?_
  refine Ev.bind (heldMarkS_ev ys.length (by omega)) ?_
  refine Ev.congr (fun k => if_neg (by omega)) ?_
  refine Ev.congr (fun k => if_pos rfl) ?_
  refine Ev.bind (toMarkS_ev xs hn') ?_
  refine Ev.bind (ev_const fun _ => hi) ?_
  refine Ev.bind (eqMarkS_ev ys (by omega)) ?_
  refine Ev.congr (fun k => if_pos rfl) ?_
  refine Ev.step (fun k => by simp only [laws_FnExactMarksDelete.j2]; rw [if_neg (by simp)]) ?_
  refine Ev.bind (heldMarkS_ev ys.length (by omega)) ?_
  refine Ev.congr (fun k => if_neg (by omega)) ?_
  exact ev_const fun k => if_pos rfl
end Go.Proofs.YtefdjajmnkmbgaaDoor.PureFnExactMarksDelete
