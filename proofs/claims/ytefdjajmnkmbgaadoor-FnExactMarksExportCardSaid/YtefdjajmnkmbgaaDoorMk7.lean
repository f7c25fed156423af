/- spec.MarksExport, walked and told: it writes the same lines. Condition: at most 1048576 marks. -/
import Derived.Test.YtefdjajmnkmbgaaDoorMk6
import Derived.Test.YtefdjajmnkmbgaaDoorQBaseExx
namespace Go.Proofs.YtefdjajmnkmbgaaDoor.Sx
open Go Go.RowKit Go.Proofs.YtefdjajmnkmbgaaDoorW.PrintWords Go.Proofs.YtefdjajmnkmbgaaDoorW.PrintLast Go.Proofs.YtefdjajmnkmbgaaDoorW.PrintMore Go.Proofs.YtefdjajmnkmbgaaDoor Go.Proofs.YtefdjajmnkmbgaaDoor.QBaseEx
set_option linter.unusedSimpArgs false
set_option linter.unusedVariables false
def cv (x : S53) : Mk := ⟨x.f0, x.f1, x.f2⟩
def cb (x : Mk) : S53 := ⟨x.f0, x.f1, x.f2⟩
theorem C_cb {w : World} {A : Option Addr} {n : Nat} {xs : List Mk} (h : Kd.C kM w A n xs) : Kd.C k53 w A n (xs.map cb) := by
  obtain ⟨h1, h2, h3⟩ := h
  refine ⟨by simpa using h1, h2, fun hn => ?_⟩
  obtain ⟨ad, e, hc⟩ := h3 hn
  refine ⟨ad, e, fun j p hj => ?_⟩
  rw [List.getElem?_map] at hj
  obtain ⟨q, hq, rfl⟩ := Option.map_eq_some_iff.1 hj
  obtain ⟨c, hl, hK, hcell⟩ := hc j q hq
  refine ⟨c, hl, ?_, hcell⟩
  have hc := QBase.k53_open hK
  subst hc
  exact k53_mk w (cb q)
/-- a mark stands before another -/
def ltB (x y : Mk) : Bool := decide (x.f1 < y.f1 ∨ x.f1 = y.f1 ∧ x.f0 < y.f0)
theorem w64 {x : Int} (h : -9223372036854775808 ≤ x ∧ x ≤ 9223372036854775807) : wrap64 x = x := by unfold wrap64; omega
theorem ev_now {α : Type} {g : Nat → Option α} {r : α} (h : ∀ k, g (k + 1) = some r) : Ev g r :=
  ⟨1, fun k hk => by obtain ⟨m, rfl⟩ : ∃ m, k = m + 1 := ⟨k - 1, by omega⟩; exact h m⟩
theorem ev_const {α : Type} {g : Nat → Option α} {r : α} (h : ∀ k, g k = some r) : Ev g r := ⟨0, fun k _ => h k⟩
theorem rdI (xs : List S53) (i : Nat) (h : i < xs.length) : rd_T53 xs (i : Int) = xs[i] := by unfold rd_T53; simp [List.getD, h]
theorem cbcv (x : S53) : cb (cv x) = x := rfl
theorem map_cbcv (xs : List S53) : (xs.map cv).map cb = xs := by rw [List.map_map]; exact (List.map_congr_left (fun x _ => cbcv x)).trans (List.map_id xs)
theorem map_cvcb (xs : List Mk) : (xs.map cb).map cv = xs := by rw [List.map_map]; exact (List.map_congr_left (fun x _ => rfl)).trans (List.map_id xs)
/-! the specification's validity -/
/-- range of a mark, as the specification asks it -/
def rgS (m : S53) : Bool := goodM (cv m)
/-- mark j against mark i behind it -/
def prS (xs : List S53) (j i : Nat) : Bool := decide ((rd_T53 xs (j : Int)).f0 ≠ (rd_T53 xs (i : Int)).f0) && ltB (cv (rd_T53 xs (j : Int))) (cv (rd_T53 xs (i : Int)))
def frS (xs : List S53) (i : Nat) : Nat → Nat → Bool
  | 0, _ => true
  | d + 1, j => (decide (i ≤ j) || prS xs j i) && frS xs i d (j + 1)
def vlS (xs : List S53) : Nat → Nat → Bool
  | 0, _ => true
  | d + 1, i => (rgS (rd_T53 xs (i : Int)) && frS xs i xs.length 0) && vlS xs d (i + 1)
theorem before_is (a b c d e f : Int) : spec_l5Before.f a b c d e f = some (ltB ⟨a, b, c⟩ ⟨d, e, f⟩) := by
  unfold spec_l5Before.f ltB
  by_cases h1 : b < e
  · simp [h1]
  · by_cases h2 : b = e
    · subst h2; simp
    · simp [h1, h2]
theorem inner_ev (xs : List S53) (hn : xs.length ≤ 1048576) (i : Nat) (hi : i < xs.length) (V : Bool) (hV : Ev (fun k => spec_L5Valid.l0 k xs xs (xs.length : Int) ((i + 1 : Nat) : Int)) V) (d : Nat) : ∀ j : Nat, j + d = xs.length →
    Ev (fun k => spec_L5Valid.l1 k xs (i : Int) xs (xs.length : Int) (i : Int) (xs.length : Int) (j : Int) (rd_T53 xs (i : Int)).f0 (rd_T53 xs (i : Int)).f1 (rd_T53 xs (i : Int)).f2) (frS xs i d j && V) := by
  induction d with
  | zero =>
    intro j hj
    simp only [frS, Bool.true_and]
    refine Ev.step (f := fun k => spec_L5Valid.l0 k xs xs (xs.length : Int) ((i + 1 : Nat) : Int)) (fun k => ?_) hV
    simp only [spec_L5Valid.l1]
    rw [if_neg (by omega), w64 (by omega)]
    rfl
  | succ d ih =>
    intro j hj
    have h1 := ih (j + 1) (by omega)
    by_cases c : j < i
    · by_cases c2 : (rd_T53 xs (j : Int)).f0 = (rd_T53 xs (i : Int)).f0
      · have e : (frS xs i (d + 1) j && V) = false := by simp only [frS, prS]; simp [c2]; omega
        rw [e]
        refine ev_now fun k => ?_
        simp only [spec_L5Valid.l1]
        rw [if_pos (by omega), if_pos (by omega), if_pos (by omega), if_pos (by omega), if_pos c2]
      · by_cases c3 : ltB (cv (rd_T53 xs (j : Int))) (cv (rd_T53 xs (i : Int))) = true
        · have e : (frS xs i (d + 1) j && V) = (frS xs i d (j + 1) && V) := by simp only [frS, prS]; simp [c2, c3]
          rw [e]
          refine Ev.step (f := fun k => spec_L5Valid.l1 k xs (i : Int) xs (xs.length : Int) (i : Int) (xs.length : Int) ((j + 1 : Nat) : Int) (rd_T53 xs (i : Int)).f0 (rd_T53 xs (i : Int)).f1 (rd_T53 xs (i : Int)).f2) (fun k => ?_) h1
          simp only [spec_L5Valid.l1]
          rw [if_pos (by omega), if_pos (by omega), if_pos (by omega), if_pos (by omega), if_neg c2, before_is, Option.bind_some]
          refine (if_pos c3).trans ?_
          rw [w64 (by omega)]
          rfl
        · have e : (frS xs i (d + 1) j && V) = false := by simp only [frS, prS]; simp [c3]; omega
          rw [e]
          refine ev_now fun k => ?_
          simp only [spec_L5Valid.l1]
          rw [if_pos (by omega), if_pos (by omega), if_pos (by omega), if_pos (by omega), if_neg c2, before_is, Option.bind_some]
          exact if_neg c3
    · have e : (frS xs i (d + 1) j && V) = (frS xs i d (j + 1) && V) := by simp only [frS]; simp [show i ≤ j by omega]
      rw [e]
      refine Ev.step (f := fun k => spec_L5Valid.l1 k xs (i : Int) xs (xs.length : Int) (i : Int) (xs.length : Int) ((j + 1 : Nat) : Int) (rd_T53 xs (i : Int)).f0 (rd_T53 xs (i : Int)).f1 (rd_T53 xs (i : Int)).f2) (fun k => ?_) h1
      simp only [spec_L5Valid.l1]
      rw [if_pos (by omega), if_neg (by omega), w64 (by omega)]
      rfl
theorem outer_ev (xs : List S53) (hn : xs.length ≤ 1048576) (d : Nat) : ∀ i : Nat, i + d = xs.length → Ev (fun k => spec_L5Valid.l0 k xs xs (xs.length : Int) (i : Int)) (vlS xs d i) := by
  induction d with
  | zero =>
    intro i hi
    refine ev_now fun k => ?_
    simp only [spec_L5Valid.l0]
    rw [if_neg (by omega)]; rfl
  | succ d ih =>
    intro i hi
    have h2 := inner_ev xs hn i (by omega) _ (ih (i + 1) (by omega)) xs.length 0 (by omega)
    have hT : ∀ b : Bool, b = true → Ev (fun k => spec_L5Valid.j1 k xs (i : Int) xs (xs.length : Int) (i : Int) b (rd_T53 xs (i : Int)).f0 (rd_T53 xs (i : Int)).f1 (rd_T53 xs (i : Int)).f2) false := fun b hb => by
      subst hb
      exact ev_now fun k => by simp only [spec_L5Valid.j1]; rw [if_pos trivial]
    have hF : ∀ b : Bool, b = false → Ev (fun k => spec_L5Valid.j1 k xs (i : Int) xs (xs.length : Int) (i : Int) b (rd_T53 xs (i : Int)).f0 (rd_T53 xs (i : Int)).f1 (rd_T53 xs (i : Int)).f2) (frS xs i xs.length 0 && vlS xs d (i + 1)) := fun b hb => by
      subst hb
      refine Ev.step (f := fun k => spec_L5Valid.l1 k xs (i : Int) xs (xs.length : Int) (i : Int) (xs.length : Int) ((0 : Nat) : Int) (rd_T53 xs (i : Int)).f0 (rd_T53 xs (i : Int)).f1 (rd_T53 xs (i : Int)).f2) (fun k => ?_) h2
      simp only [spec_L5Valid.j1]
      rw [if_neg (by decide)]
      rfl
    have hl : ∀ k, spec_L5Valid.l0 (k + 1) xs xs (xs.length : Int) (i : Int) = spec_L5Valid.l0 (k + 1) xs xs (xs.length : Int) (i : Int) := fun _ => rfl
    obtain ⟨m, hm⟩ : ∃ m, m = rd_T53 xs (i : Int) := ⟨_, rfl⟩
    rw [← hm] at hT hF
    have er : rgS (rd_T53 xs (i : Int)) = rgS m := by rw [hm]
    simp only [vlS]
    rw [er]
    unfold rgS goodM
    have go : ∀ (b : Bool) (r : Bool), Ev (fun k => spec_L5Valid.j1 k xs (i : Int) xs (xs.length : Int) (i : Int) b m.f0 m.f1 m.f2) r → (∀ k, spec_L5Valid.l0 (k + 1) xs xs (xs.length : Int) (i : Int) = spec_L5Valid.j1 k xs (i : Int) xs (xs.length : Int) (i : Int) b m.f0 m.f1 m.f2) → Ev (fun k => spec_L5Valid.l0 k xs xs (xs.length : Int) (i : Int)) r := fun b r h1 h2 => Ev.step h2 h1
    have un : ∀ k, spec_L5Valid.l0 (k + 1) xs xs (xs.length : Int) (i : Int) = (if m.f0 < -1000000000 then spec_L5Valid.j1 k xs (i : Int) xs (xs.length : Int) (i : Int) true m.f0 m.f1 m.f2 else if m.f0 > 1000000000 then spec_L5Valid.j1 k xs (i : Int) xs (xs.length : Int) (i : Int) true m.f0 m.f1 m.f2 else if m.f1 < 0 then spec_L5Valid.j1 k xs (i : Int) xs (xs.length : Int) (i : Int) true m.f0 m.f1 m.f2 else if m.f1 > 8192 then spec_L5Valid.j1 k xs (i : Int) xs (xs.length : Int) (i : Int) true m.f0 m.f1 m.f2 else if m.f2 < 0 then spec_L5Valid.j1 k xs (i : Int) xs (xs.length : Int) (i : Int) true m.f0 m.f1 m.f2 else spec_L5Valid.j1 k xs (i : Int) xs (xs.length : Int) (i : Int) (decide (m.f2 > 1)) m.f0 m.f1 m.f2) := fun k => by
      simp only [spec_L5Valid.l0]
      rw [if_pos (by omega), if_pos (by omega), if_pos (by omega), ← hm]
    show Ev _ ((decide (-1000000000 ≤ m.f0 ∧ m.f0 ≤ 1000000000) && (decide (0 ≤ m.f1 ∧ m.f1 ≤ 8192) && decide (0 ≤ m.f2 ∧ m.f2 ≤ 1)) && frS xs i xs.length 0) && vlS xs d (i + 1))
    by_cases c1 : m.f0 < -1000000000
    · rw [decide_eq_false (by omega)]
      exact go true false (hT _ rfl) (fun k => by rw [un, if_pos c1])
    by_cases c2 : m.f0 > 1000000000
    · rw [decide_eq_false (by omega)]
      exact go true false (hT _ rfl) (fun k => by rw [un, if_neg c1, if_pos c2])
    rw [decide_eq_true (by omega : -1000000000 ≤ m.f0 ∧ m.f0 ≤ 1000000000)]
    by_cases c3 : m.f1 < 0
    · rw [decide_eq_false (by omega : ¬ (0 ≤ m.f1 ∧ m.f1 ≤ 8192))]
      exact go true false (hT _ rfl) (fun k => by rw [un, if_neg c1, if_neg c2, if_pos c3])
    by_cases c4 : m.f1 > 8192
    · rw [decide_eq_false (by omega : ¬ (0 ≤ m.f1 ∧ m.f1 ≤ 8192))]
      exact go true false (hT _ rfl) (fun k => by rw [un, if_neg c1, if_neg c2, if_neg c3, if_pos c4])
    rw [decide_eq_true (by omega : 0 ≤ m.f1 ∧ m.f1 ≤ 8192)]
    by_cases c5 : m.f2 < 0
    · rw [decide_eq_false (by omega : ¬ (0 ≤ m.f2 ∧ m.f2 ≤ 1))]
      exact go true false (hT _ rfl) (fun k => by rw [un, if_neg c1, if_neg c2, if_neg c3, if_neg c4, if_pos c5])
    by_cases c6 : m.f2 > 1
    · rw [decide_eq_false (by omega : ¬ (0 ≤ m.f2 ∧ m.f2 ≤ 1))]
      exact go (decide (m.f2 > 1)) false (hT _ (decide_eq_true c6)) (fun k => by rw [un, if_neg c1, if_neg c2, if_neg c3, if_neg c4, if_neg c5])
    rw [decide_eq_true (by omega : 0 ≤ m.f2 ∧ m.f2 ≤ 1)]
    exact go (decide (m.f2 > 1)) _ (hF _ (decide_eq_false c6)) (fun k => by rw [un, if_neg c1, if_neg c2, if_neg c3, if_neg c4, if_neg c5])
theorem frS_iff (xs : List S53) (i d : Nat) : ∀ j, frS xs i d j = true ↔ ∀ j', j ≤ j' → j' < j + d → j' < i → prS xs j' i = true := by
  induction d with
  | zero => intro j; simp only [frS, true_iff]; intro j' h1 h2; omega
  | succ d ih =>
    intro j
    simp only [frS, Bool.and_eq_true, Bool.or_eq_true, decide_eq_true_eq, ih]
    constructor
    · rintro ⟨h1, h2⟩ j' a b c
      by_cases e : j' = j
      · subst e; rcases h1 with h1 | h1; omega; exact h1
      · exact h2 j' (by omega) (by omega) c
    · intro h
      refine ⟨?_, fun j' a b c => h j' (by omega) (by omega) c⟩
      by_cases c : i ≤ j
      · exact .inl c
      · exact .inr (h j (Nat.le_refl _) (by omega) (by omega))
theorem vlS_iff (xs : List S53) (d : Nat) : ∀ i, vlS xs d i = true ↔ ∀ i', i ≤ i' → i' < i + d → rgS (rd_T53 xs (i' : Int)) = true ∧ frS xs i' xs.length 0 = true := by
  induction d with
  | zero => intro i; simp only [vlS, true_iff]; intro j' h1 h2; omega
  | succ d ih =>
    intro i
    simp only [vlS, Bool.and_eq_true, ih]
    constructor
    · rintro ⟨h1, h2⟩ j' a b
      by_cases e : j' = i
      · subst e; exact h1
      · exact h2 j' (by omega) (by omega)
    · intro h
      exact ⟨h i (Nat.le_refl _) (by omega), fun j' a b => h j' (by omega) (by omega)⟩
theorem cvd (xs : List S53) (i : Nat) (h : i < xs.length) : (xs.map cv).getD i default = cv (rd_T53 xs (i : Int)) := by
  rw [rdI _ _ h, List.getD_eq_getElem?_getD, List.getElem?_map, List.getElem?_eq_getElem h]; rfl
theorem cfM_lt (x y : Mk) : decide (cfM x y < 0) = ltB x y := ltM x y
theorem ltB_trans {x y z : Mk} (h1 : ltB x y = true) (h2 : ltB y z = true) : ltB x z = true := by
  unfold ltB at *; simp at *; omega
theorem vl_tab (xs : List S53) : (decide (xs.length ≤ 128) && vlS xs xs.length 0) = okTab (xs.map cv) := by
  unfold okTab
  rw [List.length_map]
  congr 1
  rw [Bool.eq_iff_iff, vlS_iff, List.all_eq_true]
  simp only [List.mem_range]
  constructor
  · intro h i hi
    obtain ⟨h1, h2⟩ := h i (Nat.zero_le _) (by omega)
    rw [frS_iff] at h2
    unfold okAt
    rw [cvd xs i hi, Bool.and_eq_true, Bool.and_eq_true]
    refine ⟨h1, ?_, ?_⟩
    · rw [decide_eq_true_eq, List.count_eq_zero, ← List.map_take, List.map_map]
      intro hm
      obtain ⟨x, hx, e⟩ := List.mem_map.1 hm
      obtain ⟨j, hj, rfl⟩ := List.mem_iff_getElem.1 hx
      simp only [List.length_take] at hj
      have h3 := h2 j (Nat.zero_le _) (by omega) (by omega)
      unfold prS at h3
      rw [Bool.and_eq_true, decide_eq_true_eq, rdI _ _ (by omega : j < xs.length), rdI _ _ hi] at h3
      refine h3.1 ?_
      rw [rdI _ _ hi] at e
      simp only [List.getElem_take] at e
      exact e
    · by_cases c : i = 0
      · simp [c]
      · rw [Bool.or_eq_true]
        right
        rw [cfM_lt, cvd xs (i - 1) (by omega)]
        have h3 := h2 (i - 1) (Nat.zero_le _) (by omega) (by omega)
        unfold prS at h3
        rw [Bool.and_eq_true] at h3
        exact h3.2
  · intro h i _ hi
    have hi' : i < xs.length := by omega
    refine ⟨?_, ?_⟩
    · have := h i hi'
      unfold okAt at this
      rw [cvd xs i hi', Bool.and_eq_true] at this
      exact this.1
    · have st : ∀ d j : Nat, j + d < xs.length → 0 < d → ltB (cv (rd_T53 xs (j : Int))) (cv (rd_T53 xs ((j + d : Nat) : Int))) = true := by
        intro d
        induction d with
        | zero => intro j _ h0; omega
        | succ d ih =>
          intro j hj _
          have h1 := h (j + (d + 1)) hj
          unfold okAt at h1
          rw [cvd xs (j + (d + 1)) hj, cvd xs (j + (d + 1) - 1) (by omega), Bool.and_eq_true, Bool.and_eq_true, Bool.or_eq_true, cfM_lt, decide_eq_true_eq] at h1
          have h2 : ltB (cv (rd_T53 xs ((j + d : Nat) : Int))) (cv (rd_T53 xs ((j + (d + 1) : Nat) : Int))) = true := by
            rcases h1.2.2 with h3 | h3
            · have := of_decide_eq_true h3; omega
            · exact h3
          by_cases c : d = 0
          · subst c; exact h2
          · exact ltB_trans (ih j (by omega) (by omega)) h2
      rw [frS_iff]
      intro j _ _ hji
      unfold prS
      rw [Bool.and_eq_true, decide_eq_true_eq]
      have h3 := st (i - j) j (by omega) (by omega)
      rw [show j + (i - j) = i by omega] at h3
      refine ⟨?_, h3⟩
      have h1 := h i hi'
      unfold okAt at h1
      rw [cvd xs i hi', Bool.and_eq_true, Bool.and_eq_true, decide_eq_true_eq, List.count_eq_zero] at h1
      intro e
      refine h1.2.1 ?_
      rw [← List.map_take, List.map_map]
      refine List.mem_map.2 ⟨xs[j], List.mem_iff_getElem.2 ⟨j, by simp; omega, by simp⟩, ?_⟩
      rw [rdI _ _ (by omega : j < xs.length)] at e
      exact e
theorem valid_ev (xs : List S53) (hn : xs.length ≤ 1048576) : Ev (fun k => spec_L5Valid.f k xs) (okTab (xs.map cv)) := by
  rw [← vl_tab]
  unfold spec_L5Valid.f
  by_cases c : (xs.length : Int) > 128
  · rw [decide_eq_false (by omega)]
    exact ev_const fun k => if_pos c
  · rw [decide_eq_true (by omega), Bool.true_and]
    exact Ev.congr (fun k => if_neg c) (outer_ev xs hn xs.length 0 (by omega))
/-! decimal numerals -/
def dg (u : Nat) : List Int := (Lib.decDigits u).map fun b => (b.toNat : Int)
theorem dg_small (u : Nat) (h : u < 10) : dg u = [48 + (u : Int)] := by
  unfold dg
  rw [Lib.decDigits, dif_pos h]
  simp only [List.map_cons, List.map_nil]
  rw [UInt8.toNat_ofNat']
  congr 1; omega
theorem dg_big (u : Nat) (h : ¬ u < 10) : dg u = dg (u / 10) ++ [48 + ((u % 10 : Nat) : Int)] := by
  unfold dg
  rw [Lib.decDigits, dif_neg h, List.map_append]
  simp only [List.map_cons, List.map_nil]
  rw [UInt8.toNat_ofNat']
  congr 2; omega
theorem wu (x : Int) : IntKind.u64.wrap x = x % 18446744073709551616 := by simp [IntKind.wrap, IntKind.signed, IntKind.bits]
def sg (x : Int) : List Int := if x < 0 then [45] else []
theorem dec_loop (x0 : Int) (d : Nat) : ∀ (u : Nat) (rest : List Int), u < 10 ^ d → u < 18446744073709551616 → rest.length + d ≤ 100 →
    Ev (fun k => spec_l5Dec.l0 k x0 (u : Int) ((48 + ((u % 10 : Nat) : Int)) :: rest)) (sg x0 ++ (dg u ++ rest)) := by
  induction d with
  | zero =>
    intro u rest h1 h2 h3
    have : u = 0 := by simpa using h1
    subst this
    refine ev_now fun k => ?_
    simp only [spec_l5Dec.l0]
    rw [if_neg (by omega), dg_small 0 (by omega)]
    by_cases c : x0 < 0
    · rw [if_pos c, Option.bind_some, if_pos (by simp; omega)]; simp [sg, c]
    · rw [if_neg c]; simp [sg, c]
  | succ d ih =>
    intro u rest h1 h2 h3
    by_cases hu : u < 10
    · refine ev_now fun k => ?_
      simp only [spec_l5Dec.l0]
      rw [if_neg (by omega), dg_small u hu]
      have e : ((u % 10 : Nat) : Int) = (u : Int) := by omega
      rw [e]
      by_cases c : x0 < 0
      · rw [if_pos c, Option.bind_some, if_pos (by simp; omega)]; simp [sg, c]
      · rw [if_neg c]; simp [sg, c]
    · have e1 : IntKind.u64.wrap (Int.tdiv (u : Int) 10) = ((u / 10 : Nat) : Int) := by rw [wu, Int.tdiv_eq_ediv_of_nonneg (by omega)]; omega
      have e2 : IntKind.u64.wrap (48 + Int.tmod ((u / 10 : Nat) : Int) 10) % 256 = 48 + (((u / 10) % 10 : Nat) : Int) := by rw [wu, Int.tmod_eq_emod_of_nonneg (by omega)]; omega
      have h := ih (u / 10) ((48 + ((u % 10 : Nat) : Int)) :: rest) (by rw [Nat.pow_succ] at h1; omega) (by omega) (by simp; omega)
      rw [dg_big u hu, List.append_assoc, List.singleton_append]
      refine Ev.step (fun k => ?_) h
      simp only [spec_l5Dec.l0]
      rw [if_pos (by omega), e1, e2, Option.bind_some, if_pos (by simp; omega)]
      rfl
theorem bytes_itoa (n : Int) (h : -9223372036854775808 ≤ n ∧ n ≤ 9223372036854775807) : bytesOf (itoaS n) = sg n ++ dg n.natAbs := by
  unfold itoaS Lib.itoa bytesOf sg dg
  by_cases c : n < 0
  · rw [if_pos c, if_pos c]; simp
  · rw [if_neg c, if_neg c]; simp [show n.toNat = n.natAbs by omega]
theorem dec_ev (n : Int) (h : -9223372036854775808 ≤ n ∧ n ≤ 9223372036854775807) : Ev (fun k => spec_l5Dec.f k n) (bytesOf (itoaS n)) := by
  rw [bytes_itoa n h]
  have key : Ev (fun k => spec_l5Dec.j0 k n (n.natAbs : Int)) (sg n ++ dg n.natAbs) := by
    have h0 := dec_loop n 20 n.natAbs [] (by omega) (by omega) (by simp)
    rw [List.append_nil] at h0
    refine Ev.step (fun k => ?_) h0
    simp only [spec_l5Dec.j0]
    have e2 : IntKind.u64.wrap (48 + Int.tmod (n.natAbs : Int) 10) % 256 = 48 + ((n.natAbs % 10 : Nat) : Int) := by rw [wu, Int.tmod_eq_emod_of_nonneg (by omega)]; omega
    rw [e2]
  unfold spec_l5Dec.f
  by_cases c : n < 0
  · refine Ev.congr (fun k => if_pos c) ?_
    rw [show IntKind.u64.wrap (-(IntKind.u64.wrap n)) = (n.natAbs : Int) by rw [wu, wu]; omega]
    exact key
  · refine Ev.congr (fun k => if_neg c) ?_
    rw [show IntKind.u64.wrap n = (n.natAbs : Int) by rw [wu]; omega]
    exact key
theorem Ev_some {α : Type} {g : Nat → Option α} {r : α} (h : Ev g r) : ∃ k, g k = some r := by
  obtain ⟨K, hK⟩ := h
  exact ⟨K, hK K (Nat.le_refl _)⟩
theorem dec_any (n : Int) (h : -9223372036854775808 ≤ n ∧ n ≤ 9223372036854775807) (w : World) : Calls Tryd.prog 36 #[.int .i64 n] w fun e w' => ∃ A c, e = .returned (.slice A (bytesOf (itoaS n)).length c) ∧ ReadsInt w' .u8 A (bytesOf (itoaS n)).length (bytesOf (itoaS n)) ∧ Below w.heap.size w w' := by
  obtain ⟨k, hk⟩ := Ev_some (dec_ev n h)
  refine (spec_l5Dec.calls k n _ w hk).mono ?_
  rintro e w' ⟨v, rfl, hR, hb⟩
  obtain ⟨A, c, rfl, hr⟩ := own_reads (k := .u8) (Kd.own_of_R hR)
  exact ⟨A, c, rfl, hr, hb⟩
theorem bytesOf_app (a b : ByteArray) : bytesOf (a ++ b) = bytesOf a ++ bytesOf b := by
  simp [bytesOf, ByteArray.data_append]
theorem lineM_bytes (m : Mk) : bytesOf (lineM m) = bytesOf (itoaS m.f0) ++ [32] ++ bytesOf (itoaS m.f1) ++ bytesOf (if m.f2 = 0 then ⟨#[32, 76, 10]⟩ else ⟨#[32, 82, 10]⟩) := by
  unfold lineM
  rw [bytesOf_app, bytesOf_app, bytesOf_app, bytesOf_app, bytesOf_app]
  unfold letterS
  split <;> simp [bytesOf]
theorem blk_kept {w w1 : World} {g base n : Nat} {t e : TypeId} {cs : Array Value} {v : Value} {xs : List Value} (hb : w.heap[g]? = some (.cells cs t (0, 0))) (ho : w.ownsRow base e 1 v n xs) (hne : t ≠ e) (hg : w.grownBy w1 v.ownBlock) : w1.heap[g]? = some (.cells cs t (0, 0)) := by
  have hlt : g < w.heap.size := (Array.getElem?_eq_some_iff.1 hb).1
  refine (hg.block g hlt fun h => ?_).trans hb
  obtain ⟨hl, ⟨rfl, _⟩ | ⟨g', cap, cur, rfl, hb', hh, r⟩⟩ := ho
  · cases h
  · have h2 : g = g' := by simpa [Value.ownBlock] using h
    subst h2
    rw [hb] at hh
    simp only [Option.some.injEq, Obj.cells.injEq] at hh
    exact hne hh.2.1
structure SpAt (w0 : World) (xs : List Mk) (k : Nat) (v3 v12 : Value) (wr : World) : Prop where
  st : ∃ i : Nat, v12 = .int .i64 i ∧ i + k = xs.length ∧ wr.ownsRow w0.heap.size 5 1 v3 (linesM (xs.take i)).length (nums .u8 (linesM (xs.take i)))
  bel : Below w0.heap.size w0 wr
set_option maxHeartbeats 8000000 in
set_option maxRecDepth 100000 in
theorem specExport_any (w : World) (xs : List Mk) (A : Option Addr) (c : Nat) (hm : xs.length ≤ 1048576) (hr : kM.C w A xs.length xs) (hc : xs.length ≤ c) :
    Calls Tryd.prog 9 #[.slice A xs.length c] w (ExPost w (exportM xs)) := by
  obtain ⟨k, hk⟩ := Ev_some (valid_ev (xs.map cb) (by simpa using hm))
  rw [map_cvcb] at hk
  have OT : Aside0 (∀ W, Below w.heap.size w W → Calls Tryd.prog 35 #[.slice A xs.length c] W fun e w' => e = .returned (.bool (okTab xs)) ∧ Below W.heap.size W w') := ⟨fun W hb => by
    have h := spec_L5Valid.calls k A c (xs.map cb) _ W (by rw [List.length_map]; exact C_cb (Kd.C_below hr hb)) (by rw [List.length_map]; exact hc) hk
    rw [List.length_map] at h
    exact h⟩
  have HR := Aside0.mk hr
  clear hk hr
  obtain ⟨w1, e1⟩ : ∃ y, w.alloc (.cells #[] 5) = y := ⟨_, rfl⟩
  have hb1 : Below w.heap.size w w1 := by subst e1; exact (Below.refl _ w).alloc (Nat.le_refl _) _
  have HB1 := Aside0.mk hb1
  have HO1 : Aside0 (w1.ownsRow w.heap.size 5 1 (.slice (some ⟨w.heap.size, 0, none⟩) 0 0) 0 (nums .u8 [])) := ⟨by subst e1; exact own_lit w w.heap.size 5 .u8 [] (Nat.le_refl _) (by simp)⟩
  clear hb1
  go_enter Tryd.func9, Tryd.ntmps9
  go_wp2_with fail
  refine (OT.out w1 HB1.out).mono ?_
  rintro e w2 ⟨rfl, hb2⟩
  have HB2 := Aside0.mk (below_step HB1.out hb2)
  have HO2 := Aside0.mk (pw_own_below HO1.out hb2)
  clear hb2 OT e1 HO1
  cases hT : okTab xs with
  | false =>
    go_wp2
    go_ret
    have e : exportM xs = [] := by unfold exportM; rw [hT]; rfl
    rw [e]
    exact ⟨_, rfl, own_nil _ _ _ _, HB2.out⟩
  | true =>
    have OK := Aside0.mk hT
    clear hT
    have HN := Aside0.mk (okTab_num OK.out)
    have AT : Aside0 (SpAt w xs xs.length (.slice (some ⟨w.heap.size, 0, none⟩) 0 0) (.int .i64 0) w2) := ⟨⟨⟨0, rfl, by omega, HO2.out⟩, HB2.out⟩⟩
    go_wp2
    go_loopg [3, 12] xs.length (fun k v3 v12 wr => SpAt w xs k v3 v12 wr)
    case atStart => exact AT.out
    case round =>
      clear AT HO2 HB2 HB1
      obtain ⟨⟨i, rfl, hk, hO⟩, hB⟩ := hrel
      have HK := Aside0.mk hk
      have HB := Aside0.mk hB
      have HO := Aside0.mk hO
      clear hk hB hO
      by_cases ci : i < xs.length
      · obtain ⟨ad, ea, hx0, hx1, hx2⟩ := QBase.at_T53 HR.out (i : Int) (by omega) (by omega)
        cases ea
        simp only [Int.toNat_natCast] at hx0 hx1 hx2
        have k0 : ∀ {a : Addr} {v : Value}, w.cell? a = some v → wr.cell? a = some v := fun e => (HB.out.cell (World.block_lt_of_cell? w _ e)).trans e
        replace hx0 := k0 hx0
        replace hx1 := k0 hx1
        replace hx2 := k0 hx2
        clear k0
        have EX := Aside0.mk (show QBase.rd_T53 xs (i : Int) = xs.getD i default by unfold QBase.rd_T53; simp [List.getD, ci])
        have HX := Aside0.mk (HN.out (QBase.rd_T53 xs (i : Int)) (by rw [EX.out, List.getD_eq_getElem?_getD, List.getElem?_eq_getElem ci]; exact List.getElem_mem ci))
        generalize QBase.rd_T53 xs (i : Int) = x at EX HX hx0 hx1 hx2
        have B0 := Aside0.mk (show -9223372036854775808 ≤ x.f0 ∧ x.f0 ≤ 9223372036854775807 by have := HX.out; omega)
        have B1 := Aside0.mk (show -9223372036854775808 ≤ x.f1 ∧ x.f1 ≤ 9223372036854775807 by have := HX.out; omega)
        obtain ⟨out, HOUT⟩ : ∃ out, Aside0 (linesM (xs.take i) = out) := ⟨_, ⟨rfl⟩⟩
        have LL := Aside0.mk (show out.length ≤ 1000000000 by
          have h1 := linesM_len (xs.take i) (fun m hm => HN.out m (List.mem_of_mem_take hm))
          rw [HOUT.out, List.length_take] at h1
          omega)
        rw [HOUT.out] at HO
        have L0 := Aside0.mk (show (bytesOf (itoaS x.f0)).length ≤ 21 by rw [bytesOf_length]; exact itoaS_size x.f0 B0.out)
        have L1 := Aside0.mk (show (bytesOf (itoaS x.f1)).length ≤ 21 by rw [bytesOf_length]; exact itoaS_size x.f1 B1.out)
        obtain ⟨X0, HX0⟩ : ∃ z, Aside0 (bytesOf (itoaS x.f0) = z) := ⟨_, ⟨rfl⟩⟩
        obtain ⟨X1, HX1⟩ : ∃ z, Aside0 (bytesOf (itoaS x.f1) = z) := ⟨_, ⟨rfl⟩⟩
        have D0 : Aside0 (∀ W, Calls Tryd.prog 36 #[.int .i64 x.f0] W fun e w' => ∃ A c, e = .returned (.slice A X0.length c) ∧ ReadsInt w' .u8 A X0.length X0 ∧ Below W.heap.size W w') := ⟨fun W => by rw [← HX0.out]; exact dec_any x.f0 B0.out W⟩
        have D1 : Aside0 (∀ W, Calls Tryd.prog 36 #[.int .i64 x.f1] W fun e w' => ∃ A c, e = .returned (.slice A X1.length c) ∧ ReadsInt w' .u8 A X1.length X1 ∧ Below W.heap.size W w') := ⟨fun W => by rw [← HX1.out]; exact dec_any x.f1 B1.out W⟩
        rw [HX0.out] at L0
        rw [HX1.out] at L1
        go_wp2_with fail
        obtain ⟨gb, hgb⟩ : ∃ g, wr.heap.size = g := ⟨_, rfl⟩
        obtain ⟨w9, e9⟩ : ∃ z, wr.alloc (.cells #[.int .i64 x.f0, .int .i64 x.f1, .int .i64 x.f2] 53) = z := ⟨_, rfl⟩
        have BK9 : Aside0 (w9.heap[gb]? = some (.cells #[.int .i64 x.f0, .int .i64 x.f1, .int .i64 x.f2] 53 (0, 0))) := ⟨by
          subst e9 hgb
          show (wr.heap.push _)[wr.heap.size]? = _
          exact Array.getElem?_push_size⟩
        have hb : Below wr.heap.size wr w9 := by subst e9; exact (Below.refl _ wr).alloc (Nat.le_refl _) _
        have HB9 := Aside0.mk (below_step HB.out hb)
        have HO9 := Aside0.mk (pw_own_below HO.out hb)
        rw [e9, hgb]
        clear e9 hgb hb hx0 hx1 hx2 HB HO
        refine (D0.out w9).mono ?_
        rintro e w10 ⟨A10, c10, rfl, hRa, hba⟩
        have HB10 := Aside0.mk (below_step HB9.out hba)
        have HO10 := Aside0.mk (pw_own_below HO9.out hba)
        have BK10 := Aside0.mk (blk_below BK9.out hba)
        have HR10 := Aside0.mk hRa
        have q10_1 := (blk_cell BK10.out 1).trans rfl
        have q10_2 := (blk_cell BK10.out 2).trans rfl
        clear hRa hba
        go_wp2_with (first
          | ((with_reducible refine gate_builtin (b := .append) (xs := #[.tmp 16, .tmp 19]) rfl ?_); at_builtin; refine print_append_row w.heap.size rfl (.tmp 16) (.tmp 19) 24 5 .u8 1 rfl Tryd.underlying24 infoB (by decide) u3 out X0 A10 X0.length c10 rfl rfl HO10.out HR10.out HB10.out HB10.out.size (by have := LL.out; have := L0.out; have := L1.out; (try simp only [List.length_append, List.length_singleton]); omega) ?_; intro v4 w11 hO hb hg _; have HO11 := Aside0.mk hO; have HB11 := Aside0.mk hb; have BK11 := Aside0.mk (blk_kept BK10.out HO10.out (by decide) hg); have q11_1 := (blk_cell BK11.out 1).trans rfl; have q11_2 := (blk_cell BK11.out 2).trans rfl; clear hO hb hg)
          | ((with_reducible refine gate_builtin (b := .append) (xs := #[.tmp 21, .tmp 22]) rfl ?_); at_builtin; refine print_append_num w.heap.size rfl (.tmp 21) (.tmp 22) 24 5 .u8 1 rfl Tryd.underlying24 infoB (by decide) v4 (out ++ X0) 32 rfl rfl HO11.out HB11.out HB11.out.size (by have := LL.out; have := L0.out; have := L1.out; (try simp only [List.length_append, List.length_singleton]); omega) ?_; intro v5 w12 hO hb hg _; have HO12 := Aside0.mk hO; have HB12 := Aside0.mk hb; have BK12 := Aside0.mk (blk_kept BK11.out HO11.out (by decide) hg); have q12_1 := (blk_cell BK12.out 1).trans rfl; have q12_2 := (blk_cell BK12.out 2).trans rfl; clear hO hb hg))
        refine (D1.out w12).mono ?_
        rintro e w13 ⟨A13, c13, rfl, hRa, hba⟩
        have HB13 := Aside0.mk (below_step HB12.out hba)
        have HO13 := Aside0.mk (pw_own_below HO12.out hba)
        have BK13 := Aside0.mk (blk_below BK12.out hba)
        have HR13 := Aside0.mk hRa
        have q13_1 := (blk_cell BK13.out 1).trans rfl
        have q13_2 := (blk_cell BK13.out 2).trans rfl
        clear hRa hba
        by_cases cx : x.f2 = 0
        · have CX := Aside0.mk cx
          have c2b : (x.f2 == 0) = true := beq_iff_eq.2 cx
          clear cx
          go_wp2_with (first
            | ((with_reducible refine gate_builtin (b := .append) (xs := #[.tmp 24, .tmp 27]) rfl ?_); at_builtin; refine print_append_row w.heap.size rfl (.tmp 24) (.tmp 27) 24 5 .u8 1 rfl Tryd.underlying24 infoB (by decide) v5 (out ++ X0 ++ [32]) X1 A13 X1.length c13 rfl rfl HO13.out HR13.out HB13.out HB13.out.size (by have := LL.out; have := L0.out; have := L1.out; (try simp only [List.length_append, List.length_singleton]); omega) ?_; intro v7 w14 hO hb hg _; have HO14 := Aside0.mk hO; have HB14 := Aside0.mk hb; have BK14 := Aside0.mk (blk_kept BK13.out HO13.out (by decide) hg); have q14_1 := (blk_cell BK14.out 1).trans rfl; have q14_2 := (blk_cell BK14.out 2).trans rfl; clear hO hb hg)
            | ((with_reducible refine gate_builtin (b := .append) (xs := #[.tmp 32, .const (.string ⟨#[32, 76, 10]⟩)]) rfl ?_); at_builtin; refine print_append_str w.heap.size rfl (.tmp 32) (.const (.string ⟨#[32, 76, 10]⟩)) 24 9 5 rfl Tryd.underlying24 Tryd.underlying9 infoB v7 (out ++ X0 ++ [32] ++ X1) ⟨#[32, 76, 10]⟩ rfl rfl HO14.out HB14.out HB14.out.size (by have := LL.out; have := L0.out; have := L1.out; have : (⟨#[32, 76, 10]⟩ : ByteArray).size = 3 := rfl; (try simp only [List.length_append, List.length_singleton]); omega) ?_; intro v8 w15 hO hb hg; have HO15 := Aside0.mk hO; have HB15 := Aside0.mk hb; have BK15 := Aside0.mk (blk_kept BK14.out HO14.out (by decide) hg); have q15_1 := (blk_cell BK15.out 1).trans rfl; have q15_2 := (blk_cell BK15.out 2).trans rfl; clear hO hb hg))
          go_roundg (xs.length - (i + 1))
          case measure => have := HK.out; omega
          case rel =>
            have hO2 : w15.ownsRow w.heap.size 5 1 v8 (linesM (xs.take (i + 1))).length (nums .u8 (linesM (xs.take (i + 1)))) := by
              rw [linesM_snoc xs i ci, ← EX.out, HOUT.out, lineM_bytes, if_pos CX.out, HX0.out, HX1.out]
              simpa only [List.append_assoc] using HO15.out
            exact ⟨⟨i + 1, by first | rfl | go_num, by have := HK.out; omega, hO2⟩, HB15.out⟩
        · have CX := Aside0.mk cx
          have c2b : (x.f2 == 0) = false := beq_eq_false_iff_ne.2 cx
          clear cx
          go_wp2_with (first
            | ((with_reducible refine gate_builtin (b := .append) (xs := #[.tmp 24, .tmp 27]) rfl ?_); at_builtin; refine print_append_row w.heap.size rfl (.tmp 24) (.tmp 27) 24 5 .u8 1 rfl Tryd.underlying24 infoB (by decide) v5 (out ++ X0 ++ [32]) X1 A13 X1.length c13 rfl rfl HO13.out HR13.out HB13.out HB13.out.size (by have := LL.out; have := L0.out; have := L1.out; (try simp only [List.length_append, List.length_singleton]); omega) ?_; intro v7 w14 hO hb hg _; have HO14 := Aside0.mk hO; have HB14 := Aside0.mk hb; have BK14 := Aside0.mk (blk_kept BK13.out HO13.out (by decide) hg); have q14_1 := (blk_cell BK14.out 1).trans rfl; have q14_2 := (blk_cell BK14.out 2).trans rfl; clear hO hb hg)
            | ((with_reducible refine gate_builtin (b := .append) (xs := #[.tmp 34, .const (.string ⟨#[32, 82, 10]⟩)]) rfl ?_); at_builtin; refine print_append_str w.heap.size rfl (.tmp 34) (.const (.string ⟨#[32, 82, 10]⟩)) 24 9 5 rfl Tryd.underlying24 Tryd.underlying9 infoB v7 (out ++ X0 ++ [32] ++ X1) ⟨#[32, 82, 10]⟩ rfl rfl HO14.out HB14.out HB14.out.size (by have := LL.out; have := L0.out; have := L1.out; have : (⟨#[32, 82, 10]⟩ : ByteArray).size = 3 := rfl; (try simp only [List.length_append, List.length_singleton]); omega) ?_; intro v8 w15 hO hb hg; have HO15 := Aside0.mk hO; have HB15 := Aside0.mk hb; have BK15 := Aside0.mk (blk_kept BK14.out HO14.out (by decide) hg); have q15_1 := (blk_cell BK15.out 1).trans rfl; have q15_2 := (blk_cell BK15.out 2).trans rfl; clear hO hb hg))
          go_roundg (xs.length - (i + 1))
          case measure => have := HK.out; omega
          case rel =>
            have hO2 : w15.ownsRow w.heap.size 5 1 v8 (linesM (xs.take (i + 1))).length (nums .u8 (linesM (xs.take (i + 1)))) := by
              rw [linesM_snoc xs i ci, ← EX.out, HOUT.out, lineM_bytes, if_neg CX.out, HX0.out, HX1.out]
              simpa only [List.append_assoc] using HO15.out
            exact ⟨⟨i + 1, by first | rfl | go_num, by have := HK.out; omega, hO2⟩, HB15.out⟩
      · have hil : i = xs.length := by have := HK.out; omega
        subst hil
        go_wp2
        go_ret
        have e : exportM xs = linesM xs := by unfold exportM; rw [if_pos OK.out]
        rw [e]
        have hO := HO.out
        rw [List.take_length] at hO
        exact ⟨_, rfl, hO, HB.out⟩
end Go.Proofs.YtefdjajmnkmbgaaDoor.Sx
