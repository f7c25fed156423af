/- The law FnMarksBack tells true, plainly, at every input whose ids are numbers of 64 bits. -/
import Derived.Test.YtefdjajmnkmbgaaDoorQFnMarksBackx5
namespace Go.Proofs.YtefdjajmnkmbgaaDoor.PureFnMarksBack
set_option linter.unusedVariables false
set_option linter.unusedSimpArgs false
open Go Go.RowKit Go.Proofs.YtefdjajmnkmbgaaDoor Go.Proofs.YtefdjajmnkmbgaaDoor.QFnMarksBack Go.Proofs.YtefdjajmnkmbgaaDoorW.PrintWords Go.Proofs.YtefdjajmnkmbgaaDoorW.PrintLast
theorem w64 {x : Int} (h : -9223372036854775808 ≤ x ∧ x ≤ 9223372036854775807) : wrap64 x = x := by unfold wrap64; omega
theorem ev_now {α : Type} {g : Nat → Option α} {r : α} (h : ∀ k, g (k + 1) = some r) : Ev g r :=
  ⟨1, fun k hk => by obtain ⟨m, rfl⟩ : ∃ m, k = m + 1 := ⟨k - 1, by omega⟩; exact h m⟩
theorem ev_const {α : Type} {g : Nat → Option α} {r : α} (h : ∀ k, g k = some r) : Ev g r := ⟨0, fun k _ => h k⟩
theorem rdI (xs : List S53) (i : Nat) (h : i < xs.length) : rd_T53 xs (i : Int) = xs[i] := by unfold rd_T53; simp [List.getD, h]
theorem cbcv (x : S53) : cb (cv x) = x := rfl
theorem map_cbcv (xs : List S53) : (xs.map cv).map cb = xs := by rw [List.map_map]; exact (List.map_congr_left (fun x _ => cbcv x)).trans (List.map_id xs)
theorem map_cvcb (xs : List Mk) : (xs.map cb).map cv = xs := by rw [List.map_map]; exact (List.map_congr_left (fun x _ => rfl)).trans (List.map_id xs)
/-! draws: what a draw ends in, as far as a law needs it -/
def EvP {α : Type} (g : Nat → Option α) (P : α → Prop) : Prop := ∃ r, Ev g r ∧ P r
theorem EvP.bind {α β : Type} {g : Nat → Option α} {f : Nat → α → Option β} {P : α → Prop} {Q : β → Prop} (h : EvP g P) (k : ∀ a, P a → EvP (fun n => f n a) Q) : EvP (fun n => (g n).bind (f n)) Q := by
  obtain ⟨r, h1, h2⟩ := h
  obtain ⟨s, h3, h4⟩ := k r h2
  exact ⟨s, Ev.bind h1 h3, h4⟩
theorem EvP.step {α : Type} {g f : Nat → Option α} {P : α → Prop} (h : ∀ k, g (k + 1) = f k) (k : EvP f P) : EvP g P := by
  obtain ⟨r, h1, h2⟩ := k
  exact ⟨r, Ev.step h h1, h2⟩
theorem EvP.congr {α : Type} {g f : Nat → Option α} {P : α → Prop} (h : ∀ k, g k = f k) (k : EvP f P) : EvP g P := by
  obtain ⟨r, h1, h2⟩ := k
  exact ⟨r, Ev.congr h h1, h2⟩
theorem EvP.now {α : Type} {g : Nat → Option α} {P : α → Prop} {r : α} (h : ∀ k, g (k + 1) = some r) (hp : P r) : EvP g P := ⟨r, ev_now h, hp⟩
theorem EvP.const {α : Type} {g : Nat → Option α} {P : α → Prop} {r : α} (h : ∀ k, g k = some r) (hp : P r) : EvP g P := ⟨r, ev_const h, hp⟩
theorem EvP.of {α : Type} {g : Nat → Option α} {P : α → Prop} {r : α} (h : Ev g r) (hp : P r) : EvP g P := ⟨r, h, hp⟩
theorem EvP.mono {α : Type} {g : Nat → Option α} {P Q : α → Prop} (h : EvP g P) (k : ∀ r, P r → Q r) : EvP g Q := by
  obtain ⟨r, h1, h2⟩ := h
  exact ⟨r, h1, k r h2⟩
/-- a source of draws stands in its bytes -/
def Src (b : List Int) (i : Int) : Prop := 0 ≤ i ∧ i ≤ (b.length : Int) ∧ b.length ≤ 1048576
theorem u64_in (x : Int) : 0 ≤ IntKind.u64.wrap x ∧ IntKind.u64.wrap x < 18446744073709551616 := by rw [IntKind.wrap_u64]; omega
theorem n_p (b : List Int) (i x a : Int) (hs : Src b i) (ha : 1 ≤ a ∧ a ≤ 1099511627776) : EvP (fun _ => spec_l1Src_n.f b i x a) (fun r => 0 ≤ r.1 ∧ r.1 < a ∧ Src b r.2.1) := by
  obtain ⟨h0, h1, h2⟩ := hs
  unfold spec_l1Src_n.f
  have val : ∀ y : Int, 1 < a → 0 ≤ wrap64 (Int.tmod (IntKind.u64.wrap y / 8589934592) (IntKind.u64.wrap a)) ∧ wrap64 (Int.tmod (IntKind.u64.wrap y / 8589934592) (IntKind.u64.wrap a)) < a := by
    intro y h
    have hy := u64_in y
    have e : IntKind.u64.wrap a = a := by rw [IntKind.wrap_u64]; omega
    rw [e, Int.tmod_eq_emod_of_nonneg (by omega)]
    have := Int.emod_nonneg (IntKind.u64.wrap y / 8589934592) (show a ≠ 0 by omega)
    have := Int.emod_lt_of_pos (IntKind.u64.wrap y / 8589934592) (show 0 < a by omega)
    rw [w64 (by omega)]; omega
  have nz : 1 < a → ¬ IntKind.u64.wrap a = 0 := fun h => by rw [IntKind.wrap_u64]; omega
  by_cases c1 : i < (b.length : Int)
  · by_cases c2 : a ≤ 1
    · exact EvP.const (fun k => by rw [if_pos c1, if_pos h0, if_pos c2]) ⟨by simp, by simp; omega, by simp only [Src]; rw [w64 (by omega)]; omega⟩
    · exact EvP.const (fun k => by rw [if_pos c1, if_pos h0, if_neg c2, if_neg (nz (by omega))]) ⟨(val _ (by omega)).1, (val _ (by omega)).2, by simp only [Src]; rw [w64 (by omega)]; omega⟩
  · by_cases c2 : a ≤ 1
    · exact EvP.const (fun k => by rw [if_neg c1, if_pos c2]) ⟨by simp, by simp; omega, h0, h1, h2⟩
    · exact EvP.const (fun k => by rw [if_neg c1, if_neg c2, if_neg (nz (by omega))]) ⟨(val _ (by omega)).1, (val _ (by omega)).2, h0, h1, h2⟩
theorem one_p (b : List Int) (i x a : Int) (hs : Src b i) (ha : 1 ≤ a ∧ a ≤ 1099511627776) : EvP (fun _ => spec_l1Src_one.f b i x a) (fun r => Src b r.2.1) := by
  unfold spec_l1Src_one.f
  refine EvP.bind (n_p b i x a hs ha) fun r hr => ?_
  exact EvP.const (fun _ => rfl) hr.2.2

theorem N_p (b : List Int) (i x a : Int) (hs : Src b i) (ha : 1 ≤ a ∧ a ≤ 1099511627776) : EvP (fun _ => spec_l1Src_N.f b i x a) (fun r => 0 ≤ r.1 ∧ r.1 < a ∧ Src b r.2.1) := by
  unfold spec_l1Src_N.f
  exact EvP.bind (n_p b i x a hs ha) fun r hr => EvP.const (fun _ => rfl) hr
theorem before_is (a b c d e f : Int) : spec_l5Before.f a b c d e f = some (ltB ⟨a, b, c⟩ ⟨d, e, f⟩) := by
  unfold spec_l5Before.f ltB
  by_cases h1 : b < e
  · simp [h1]
  · by_cases h2 : b = e
    · subst h2; simp
    · simp [h1, h2]
/-! the specification's sort: again and again the first of what is left -/
def srtS (xs : List S53) : List S53 := (sortM (xs.map cv)).map cb
/-- place p holds the least of the first j -/
def leastTo (xs : List S53) (p j : Nat) : Prop := ∀ q, q < j → ltB (cv (rd_T53 xs (q : Int))) (cv (rd_T53 xs (p : Int))) = false
theorem ltB_ntrans {x y z : Mk} (h1 : ltB x y = false) (h2 : ltB y z = true) : ltB x z = true → ltB y z = true := fun _ => h2
theorem cons_erase_perm {α : Type} : ∀ (xs : List α) (p : Nat) (h : p < xs.length), (xs[p] :: xs.eraseIdx p).Perm xs := by
  intro xs
  induction xs with
  | nil => intro p h; simp at h
  | cons x xs ih =>
    intro p h
    cases p with
    | zero => exact List.Perm.refl _
    | succ p =>
      have h' : p < xs.length := by simpa using h
      exact (List.Perm.swap x xs[p] (xs.eraseIdx p)).trans (List.Perm.cons x (ih p h'))
theorem least_head (xs : List S53) (p : Nat) (hp : p < xs.length) (hl : leastTo xs p xs.length) (hd : (xs.map (·.f0)).Nodup) : srtS xs = (rd_T53 xs (p : Int)) :: srtS (xs.eraseIdx p) := by
  have hperm : (cv xs[p] :: sortM ((xs.eraseIdx p).map cv)).Perm (xs.map cv) := by
    refine (List.Perm.cons _ (sortM_perm _)).trans ?_
    rw [← List.map_cons]
    exact (cons_erase_perm xs p hp).map cv
  have hpw : PW (cv xs[p] :: sortM ((xs.eraseIdx p).map cv)) := by
    refine List.pairwise_cons.2 ⟨fun z hz => ?_, sortM_pw _⟩
    have hz2 := (sortM_perm _).mem_iff.1 hz
    obtain ⟨y, hy, rfl⟩ := List.mem_map.1 hz2
    obtain ⟨q, hq, rfl⟩ := List.mem_iff_getElem.1 (List.mem_of_mem_eraseIdx hy)
    have := hl q hq
    rw [rdI _ _ hq, rdI _ _ hp] at this
    exact this
  have hdm : ((xs.map cv).map (·.f0)).Nodup := by rw [List.map_map]; exact hd
  have e := pw_unique _ _ (hperm.trans (sortM_perm (xs.map cv)).symm) hpw (sortM_pw _) ((hperm.map _).nodup_iff.2 hdm)
  unfold srtS
  rw [← e, List.map_cons, rdI _ _ hp]
  rfl
theorem pick_ev (left out : List S53) (hn : left.length ≤ 1048576) (ho : out.length ≤ 1048576) (R : List S53)
    (hR : ∀ p, p < left.length → leastTo left p left.length → Ev (fun k => spec_l5Sort.l0 k (left.eraseIdx p) (out ++ [rd_T53 left (p : Int)])) R) (h0 : 0 < left.length) (d : Nat) : ∀ j p : Nat, j + d = left.length → p < left.length → leastTo left p j →
    Ev (fun k => spec_l5Sort.l1 k left out (p : Int) (left.length : Int) (j : Int)) R := by
  induction d with
  | zero =>
    intro j p hj hp hl
    obtain rfl : j = left.length := by omega
    refine Ev.step (fun k => ?_) (hR p hp hl)
    simp only [spec_l5Sort.l1]
    rw [if_neg (by omega), if_pos (by omega), if_pos (by omega), if_pos (by omega), if_pos (by omega), w64 (by omega), if_pos (by omega), if_pos (by omega), Int.toNat_natCast]
  | succ d ih =>
    intro j p hj hp hl
    by_cases c : ltB (cv (rd_T53 left (j : Int))) (cv (rd_T53 left (p : Int))) = true
    · refine Ev.step (fun k => ?_) (ih (j + 1) j (by omega) (by omega) (fun q hq => ?_))
      · simp only [spec_l5Sort.l1]
        rw [if_pos (by omega), if_pos (by omega), if_pos (by omega), if_pos (by omega), if_pos (by omega), before_is, Option.bind_some]
        refine (if_pos c).trans ?_
        rw [w64 (by omega)]; rfl
      · by_cases e : q = j
        · subst e; unfold ltB; simp
        · have h1 := hl q (by omega)
          unfold ltB at h1 c ⊢; simp at h1 c ⊢; omega
    · refine Ev.step (fun k => ?_) (ih (j + 1) p (by omega) hp (fun q hq => ?_))
      · simp only [spec_l5Sort.l1]
        rw [if_pos (by omega), if_pos (by omega), if_pos (by omega), if_pos (by omega), if_pos (by omega), before_is, Option.bind_some]
        refine (if_neg c).trans ?_
        rw [w64 (by omega)]; rfl
      · by_cases e : q = j
        · subst e; simpa using c
        · exact hl q (by omega)
theorem sort_loop (n : Nat) : ∀ left out : List S53, left.length = n → left.length + out.length ≤ 1048576 → (left.map (·.f0)).Nodup → Ev (fun k => spec_l5Sort.l0 k left out) (out ++ srtS left) := by
  induction n with
  | zero =>
    intro left out h0 _ _
    have : left = [] := List.eq_nil_of_length_eq_zero h0
    subst this
    refine ev_now fun k => ?_
    simp only [spec_l5Sort.l0]
    rw [if_neg (by simp)]
    simp [srtS, sortM]
  | succ n ih =>
    intro left out h0 hb hd
    refine Ev.step (f := fun k => spec_l5Sort.l1 k left out ((0 : Nat) : Int) (left.length : Int) ((0 : Nat) : Int)) (fun k => ?_) (pick_ev left out (by omega) (by omega) _ (fun p hp hl => ?_) (by omega) left.length 0 0 (by omega) (by omega) (fun q hq => by omega))
    · simp only [spec_l5Sort.l0]
      rw [if_pos (by omega)]
      rfl
    · rw [least_head left p hp hl hd]
      have hl2 : (left.eraseIdx p).length = n := by rw [List.length_eraseIdx_of_lt hp]; omega
      have h := ih (left.eraseIdx p) (out ++ [rd_T53 left (p : Int)]) hl2 (by rw [hl2, List.length_append, List.length_singleton]; omega) (hd.sublist ((List.eraseIdx_sublist left p).map _))
      rw [List.append_assoc, List.singleton_append] at h
      exact h
theorem sort_ev (xs : List S53) (hn : xs.length ≤ 1048576) (hd : (xs.map (·.f0)).Nodup) : Ev (fun k => spec_l5Sort.f k xs) (srtS xs) := by
  unfold spec_l5Sort.f
  simp only [Option.bind_some, List.nil_append, List.length_nil]
  refine Ev.congr (fun k => if_pos (by omega)) ?_
  have h := sort_loop xs.length xs [] rfl (by simp only [List.length_nil]; omega) hd
  simpa using h
theorem okTab_of (xs : List Mk) (h1 : xs.length ≤ 128) (hg : ∀ m ∈ xs, goodM m = true) (hn : (xs.map (·.f0)).Nodup) (hp : PW xs) : okTab xs = true := by
  have at_ : ∀ i (h : i < xs.length), xs.getD i default = xs[i] := fun i h => by rw [List.getD_eq_getElem?_getD, List.getElem?_eq_getElem h]; rfl
  have nd : ∀ j i (hj : j < xs.length) (hi : i < xs.length), j < i → xs[j].f0 ≠ xs[i].f0 := fun j i hj hi h => by
    have := List.pairwise_iff_getElem.1 hn j i (by simpa using hj) (by simpa using hi) h
    simpa using this
  unfold okTab
  rw [decide_eq_true h1, Bool.true_and]
  refine List.all_eq_true.2 fun i hi => ?_
  have hi' := List.mem_range.1 hi
  unfold okAt
  rw [at_ i hi', hg _ (List.getElem_mem hi'), Bool.true_and, Bool.and_eq_true]
  constructor
  · refine decide_eq_true (List.count_eq_zero.2 fun hmem => ?_)
    obtain ⟨m, hm, he⟩ := List.mem_map.1 hmem
    obtain ⟨j, hj, rfl⟩ := List.mem_iff_getElem.1 hm
    rw [List.length_take] at hj
    rw [List.getElem_take] at he
    exact nd j i (by omega) hi' (by omega) he
  · by_cases c : i = 0
    · subst c; rfl
    · rw [decide_eq_false c, Bool.false_or, at_ (i - 1) (by omega)]
      have h2 := List.pairwise_iff_getElem.1 hp (i - 1) i (by omega) hi' (by omega)
      have h3 := nd (i - 1) i (by omega) hi' (by omega)
      have h4 : decide (cfM xs[i - 1] xs[i] < 0) = ltB xs[i - 1] xs[i] := ltM _ _
      rw [h4]
      unfold ltB at h2 ⊢
      simp at h2 ⊢
      omega
/-- marks as they are drawn -/
structure GL (X : List S53) : Prop where
  nd : (X.map (·.f0)).Nodup
  good : ∀ m ∈ X, goodM (cv m) = true ∧ m.f1 ≤ 200
theorem at_p (xs : List S53) (z : Int) (hn : xs.length ≤ 1048576) (d : Nat) : ∀ i : Nat, i + d = xs.length → (∀ j (h : j < xs.length), j < i → xs[j].f0 ≠ z) →
    EvP (fun k => spec_l5At.l0 k z xs (xs.length : Int) (i : Int)) (fun r => (r < 0 ∧ ∀ m ∈ xs, m.f0 ≠ z) ∨ (0 ≤ r ∧ 1 ≤ xs.length)) := by
  induction d with
  | zero =>
    intro i hi ha
    refine EvP.now (r := -1) (fun k => ?_) (.inl ⟨by omega, fun m hm => ?_⟩)
    · simp only [spec_l5At.l0]; rw [if_neg (by omega)]
    · obtain ⟨j, hj, rfl⟩ := List.mem_iff_getElem.1 hm
      exact ha j hj (by omega)
  | succ d ih =>
    intro i hi ha
    have hlt : i < xs.length := by omega
    by_cases c : xs[i].f0 = z
    · refine EvP.now (r := (i : Int)) (fun k => ?_) (.inr ⟨by omega, by omega⟩)
      simp only [spec_l5At.l0]
      rw [if_pos (by omega), if_pos (by omega), if_pos (by omega), rdI _ _ hlt, if_pos c]
    · refine EvP.step (f := fun k => spec_l5At.l0 k z xs (xs.length : Int) ((i + 1 : Nat) : Int)) (fun k => ?_) (ih (i + 1) (by omega) fun j h hj => ?_)
      · simp only [spec_l5At.l0]
        rw [if_pos (by omega), if_pos (by omega), if_pos (by omega), rdI _ _ hlt, if_neg c, w64 (by omega)]; rfl
      · by_cases e : j = i
        · subst e; exact c
        · exact ha j h (by omega)
abbrev DrawnT (b : List Int) (r : List S53 × Int × Int) : Prop := Src b r.2.1 ∧ ∃ X, r.1 = srtS X ∧ GL X ∧ X.length ≤ 60 ∧ 1 ≤ X.length
theorem place_p (b : List Int) (x1 x2 x8 x9 g z i x : Int) (x7 : List S53) (hz : -1000000000 ≤ z ∧ z ≤ 1000000000) (h8 : 0 ≤ x8 ∧ x8 ≤ 200) (hg : 0 ≤ g ∧ g ≤ 1) (h9 : 0 ≤ x9 ∧ x9 ≤ 60) (hl : (x7.length : Int) ≤ x9) (hG : GL x7)
    (H : ∀ y : List S53, GL y → (y.length : Int) ≤ x9 + 1 → 1 ≤ y.length → EvP (fun k => spec_L5DrawMarks.l0 k x1 x2 y x8 (x9 + 1) b i x) (DrawnT b)) :
    EvP (fun k => (spec_l5At.f k x7 z).bind fun t => (if t < 0 then (if x7.length < 5864062014805 then (spec_L5DrawMarks.l0 k x1 x2 (x7 ++ [(⟨z, x8, g⟩ : S53)]) x8 (wrap64 (x9 + 1)) b i x) else (none)) else (spec_L5DrawMarks.l0 k x1 x2 x7 x8 (wrap64 (x9 + 1)) b i x))) (DrawnT b) := by
  have ha := at_p x7 z (by omega) x7.length 0 (by omega) (fun j h hj => by omega)
  refine EvP.bind (g := fun k => spec_l5At.f k x7 z) (by unfold spec_l5At.f; exact ha) fun r hr => ?_
  rw [w64 (by omega)]
  rcases hr with ⟨h1, h2⟩ | ⟨h1, h2⟩
  · refine EvP.congr (fun k => by rw [if_pos h1, if_pos (by omega)]) (H (x7 ++ [⟨z, x8, g⟩]) ⟨?_, fun m hm => ?_⟩ (by simp; omega) (by simp))
    · rw [List.map_append]
      refine List.nodup_append.2 ⟨hG.nd, by simp, fun u hu v hv => ?_⟩
      obtain ⟨m, hm, rfl⟩ := List.mem_map.1 hu
      simp only [List.map_cons, List.map_nil, List.mem_singleton] at hv
      subst hv
      exact h2 m hm
    · rcases List.mem_append.1 hm with h | h
      · exact hG.good m h
      · simp only [List.mem_singleton] at h
        subst h
        refine ⟨?_, h8.2⟩
        show goodM ⟨z, x8, g⟩ = true
        unfold goodM
        simp only [Bool.and_eq_true, decide_eq_true_eq]
        omega
  · exact EvP.congr (fun k => if_neg (by omega)) (H x7 hG (by omega) h2)
theorem j1_p (b : List Int) (x1 x2 x8 x9 i x : Int) (x7 : List S53) (h8 : 0 ≤ x8 ∧ x8 ≤ 200) (h9 : 0 ≤ x9 ∧ x9 ≤ 60) (hl : (x7.length : Int) ≤ x9) (hG : GL x7) (hs : Src b i)
    (H : ∀ (y : List S53) (i x : Int), Src b i → GL y → (y.length : Int) ≤ x9 + 1 → 1 ≤ y.length → EvP (fun k => spec_L5DrawMarks.l0 k x1 x2 y x8 (x9 + 1) b i x) (DrawnT b)) :
    EvP (fun k => spec_L5DrawMarks.j1 k x1 x2 x7 x8 x9 b i x) (DrawnT b) := by
  refine EvP.step (fun k => by simp only [spec_L5DrawMarks.j1]; rfl) ?_
  refine EvP.bind (n_p b _ _ 300 hs (by omega)) fun r1 q1 => ?_
  refine EvP.bind (n_p b _ _ 2 q1.2.2 (by omega)) fun r2 q2 => ?_
  refine EvP.bind (one_p b _ _ 30 q2.2.2 (by omega)) fun r3 q3 => ?_
  by_cases c : r3.1 = true
  · refine EvP.congr (fun k => if_pos c) ?_
    refine EvP.bind (n_p b _ _ 2 q3 (by omega)) fun r4 q4 => ?_
    have e : wrap64 (1000000000 * (wrap64 (1 - (wrap64 (2 * r4.1))))) = 1000000000 * (1 - 2 * r4.1) := by rw [w64 (x := 2 * r4.1) (by omega), w64 (x := 1 - 2 * r4.1) (by omega), w64 (by omega)]
    rw [e]
    exact place_p b x1 x2 x8 x9 r2.1 _ _ _ x7 (by omega) h8 (by omega) h9 hl hG (fun y a1 a2 a3 => H y _ _ q4.2.2 a1 a2 a3)
  · refine EvP.congr (fun k => if_neg c) ?_
    have e : wrap64 (r1.1 - 100) = r1.1 - 100 := w64 (by omega)
    rw [e]
    exact place_p b x1 x2 x8 x9 r2.1 _ _ _ x7 (by omega) h8 (by omega) h9 hl hG (fun y a1 a2 a3 => H y _ _ q3 a1 a2 a3)
theorem draw_p (b : List Int) (x1 x2 : Int) (h1 : 1 ≤ x1 ∧ x1 ≤ 60) (h2 : 0 ≤ x2 ∧ x2 ≤ 199) (d : Nat) : ∀ (x7 : List S53) (x8 x9 i x : Int), 0 ≤ x9 → x9 ≤ x1 → x1 - x9 ≤ d → (x7.length : Int) ≤ x9 → (1 ≤ x9 → 1 ≤ x7.length) → GL x7 → 0 ≤ x8 ∧ x8 ≤ 200 → Src b i →
    EvP (fun k => spec_L5DrawMarks.l0 k x1 x2 x7 x8 x9 b i x) (DrawnT b) := by
  induction d with
  | zero =>
    intro x7 x8 x9 i x a1 a2 a3 a4 a5 hG h8 hs
    have hl : x7.length ≤ 60 := by omega
    refine EvP.step (f := fun k => (spec_l5Sort.f k x7).bind fun t => some (t, i, x)) (fun k => by simp only [spec_L5DrawMarks.l0]; rw [if_neg (by omega)]) ?_
    exact EvP.bind (EvP.of (sort_ev x7 (by omega) hG.nd) (P := fun t => t = srtS x7) rfl) fun t ht => EvP.const (fun _ => rfl) ⟨hs, x7, ht, hG, hl, a5 (by omega)⟩
  | succ d ih =>
    intro x7 x8 x9 i x a1 a2 a3 a4 a5 hG h8 hs
    by_cases c : x9 < x1
    · have H : ∀ z8 : Int, 0 ≤ z8 ∧ z8 ≤ 200 → ∀ (y : List S53) (i x : Int), Src b i → GL y → (y.length : Int) ≤ x9 + 1 → 1 ≤ y.length → EvP (fun k => spec_L5DrawMarks.l0 k x1 x2 y z8 (x9 + 1) b i x) (DrawnT b) :=
        fun z8 hz y i x p1 p2 p3 p4 => ih y z8 (x9 + 1) i x (by omega) (by omega) (by omega) p3 (fun _ => p4) p2 hz p1
      refine EvP.step (fun k => by simp only [spec_L5DrawMarks.l0]; rw [if_pos c]) ?_
      refine EvP.bind (one_p b _ _ 3 hs (by omega)) fun r1 q1 => ?_
      by_cases c2 : r1.1 = true
      · exact EvP.congr (fun k => if_pos c2) (j1_p b x1 x2 x8 x9 _ _ x7 h8 (by omega) a4 hG q1 (H x8 h8))
      · refine EvP.congr (fun k => if_neg c2) ?_
        rw [w64 (by omega)]
        refine EvP.bind (n_p b _ _ (x2 + 1) q1 (by omega)) fun r2 q2 => ?_
        exact j1_p b x1 x2 r2.1 x9 _ _ x7 (by omega) (by omega) a4 hG q2.2.2 (H r2.1 (by omega))
    · have hl : x7.length ≤ 60 := by omega
      refine EvP.step (f := fun k => (spec_l5Sort.f k x7).bind fun t => some (t, i, x)) (fun k => by simp only [spec_L5DrawMarks.l0]; rw [if_neg (by omega)]) ?_
      exact EvP.bind (EvP.of (sort_ev x7 (by omega) hG.nd) (P := fun t => t = srtS x7) rfl) fun t ht => EvP.const (fun _ => rfl) ⟨hs, x7, ht, hG, hl, a5 (by omega)⟩
theorem drawMarks_p (b : List Int) (i x c len : Int) (hc : 1 ≤ c ∧ c ≤ 60) (hl : 0 ≤ len ∧ len ≤ 199) (hs : Src b i) : EvP (fun k => spec_L5DrawMarks.f k b i x c len) (DrawnT b) := by
  unfold spec_L5DrawMarks.f
  rw [w64 (by omega)]
  refine EvP.bind (n_p b _ _ (len + 1) hs (by omega)) fun r q => ?_
  exact draw_p b c len hc hl 60 [] r.1 0 _ _ (by omega) (by omega) (by omega) (by simp) (by omega) ⟨by simp, fun m hm => by cases hm⟩ (by omega) q.2.2
theorem drawn_T {X : List S53} (h : GL X) : ∃ T : List Mk, (srtS X).map cv = T ∧ srtS X = T.map cb ∧ T.length = X.length ∧ PW T ∧ (T.map (·.f0)).Nodup ∧ (∀ m ∈ T, goodM m = true) ∧ ∀ m ∈ T, m.f1 ≤ 200 := by
  have hp := sortM_perm (X.map cv)
  refine ⟨sortM (X.map cv), by unfold srtS; rw [map_cvcb], rfl, by rw [hp.length_eq, List.length_map], sortM_pw _, ?_, fun m hm => ?_, fun m hm => ?_⟩
  · rw [(hp.map _).nodup_iff, List.map_map]; exact h.nd
  · obtain ⟨x, hx, rfl⟩ := List.mem_map.1 (hp.mem_iff.1 hm)
    exact (h.good x hx).1
  · obtain ⟨x, hx, rfl⟩ := List.mem_map.1 (hp.mem_iff.1 hm)
    exact (h.good x hx).2
theorem good_num {m : Mk} (h : goodM m = true) : (-1000000000 ≤ m.f0 ∧ m.f0 ≤ 1000000000) ∧ (0 ≤ m.f1 ∧ m.f1 ≤ 8192) ∧ (0 ≤ m.f2 ∧ m.f2 ≤ 1) := by
  unfold goodM at h
  simp only [Bool.and_eq_true, decide_eq_true_eq] at h
  exact ⟨h.1, h.2.1, h.2.2⟩
theorem mvI_good (off n : Int) (hn : 0 ≤ n ∧ n ≤ 300) (m : Mk) (h : goodM m = true) (h2 : m.f1 ≤ 200) : goodM (mvI off n m) = true ∧ (mvI off n m).f1 ≤ 500 := by
  have g := good_num h
  unfold mvI
  split
  · refine ⟨?_, by show m.f1 + n ≤ 500; omega⟩
    unfold goodM
    simp only [Bool.and_eq_true, decide_eq_true_eq]
    omega
  · exact ⟨h, by omega⟩
theorem mvDI (off n : Int) (hn : 0 ≤ n) (m : Mk) : mvD off (off + n) (mvI off n m) = m := by
  obtain ⟨a, b, c⟩ := m
  unfold mvI
  by_cases c1 : off < b ∨ b = off ∧ c = 1
  · rw [if_pos c1]
    unfold mvD
    by_cases c2 : off < b
    · rw [if_pos (show off + n < b + n by omega)]
      show (⟨a, b + n - (off + n - off), c⟩ : Mk) = ⟨a, b, c⟩
      congr 1; omega
    · have e : b = off := by omega
      subst e
      rw [if_neg (show ¬ (b + n < b + n) by omega), if_pos (show b ≤ b + n by omega)]
  · rw [if_neg c1]
    unfold mvD
    by_cases c2 : b = off
    · subst c2
      by_cases c3 : n = 0
      · subst c3; rw [if_neg (show ¬ (b + 0 < b) by omega), if_pos (show b ≤ b by omega)]
      · rw [if_neg (show ¬ (b + n < b) by omega), if_pos (show b ≤ b by omega)]
    · rw [if_neg (show ¬ (off + n < b) by omega), if_neg (show ¬ (off ≤ b) by omega)]
theorem sm_loop (xs : List S53) (hn : xs.length ≤ 1048576) (d : Nat) : ∀ i : Nat, i + d = xs.length → Ev (fun k => laws_smMarks.l0 k xs xs (xs.length : Int) (i : Int)) true := by
  induction d with
  | zero => intro i hi; refine ev_now fun k => ?_; simp only [laws_smMarks.l0]; rw [if_neg (by omega)]
  | succ d ih =>
    intro i hi
    refine Ev.step (f := fun k => laws_smMarks.l0 k xs xs (xs.length : Int) ((i + 1 : Nat) : Int)) (fun k => ?_) (ih (i + 1) (by omega))
    simp only [laws_smMarks.l0]
    rw [if_pos (by omega), if_pos (by omega), if_pos (by omega), if_pos (by omega), if_neg (by simp), w64 (by omega)]; rfl
theorem sm_ev (xs : List S53) (hn : xs.length ≤ 1048576) : Ev (fun k => laws_smMarks.f k xs xs) true := by
  unfold laws_smMarks.f
  exact Ev.congr (fun k => if_pos rfl) (sm_loop xs hn xs.length 0 (by omega))
theorem l1_ev (t th : List S53) (off n : Int) (x67 : List S53) (x68 x69 : Int) (p q r : Int) (hn : th.length ≤ 1048576) (R : Bool) (hR : Ev (fun k => laws_FnMarksBack.l0 k t off n th x67 x68 (wrap64 (x69 + 1))) R) (d : Nat) : ∀ (i : Nat) (b : Bool), i + d = th.length →
    (b = true ∨ ∃ j, ∃ h : j < th.length, i ≤ j ∧ th[j] = (⟨p, q, r⟩ : S53)) → Ev (fun k => laws_FnMarksBack.l1 k t off n th b x67 x68 x69 th (th.length : Int) (i : Int) p q r) R := by
  induction d with
  | zero =>
    intro i b hi hb
    have e : b = true := by rcases hb with h | ⟨j, h, h2, _⟩; exact h; omega
    subst e
    refine Ev.step (fun k => ?_) hR
    simp only [laws_FnMarksBack.l1]
    rw [if_neg (by omega), if_pos trivial]
  | succ d ih =>
    intro i b hi hb
    have hlt : i < th.length := by omega
    by_cases c : th[i] = (⟨p, q, r⟩ : S53)
    · refine Ev.step (f := fun k => laws_FnMarksBack.l1 k t off n th true x67 x68 x69 th (th.length : Int) ((i + 1 : Nat) : Int) p q r) (fun k => ?_) (ih (i + 1) true (by omega) (.inl rfl))
      simp only [laws_FnMarksBack.l1]
      rw [if_pos (by omega), if_pos (by omega), if_pos (by omega), rdI _ _ hlt, c, if_pos (by simp), w64 (by omega)]; rfl
    · refine Ev.step (f := fun k => laws_FnMarksBack.l1 k t off n th b x67 x68 x69 th (th.length : Int) ((i + 1 : Nat) : Int) p q r) (fun k => ?_) (ih (i + 1) b (by omega) ?_)
      · simp only [laws_FnMarksBack.l1]
        rw [if_pos (by omega), if_pos (by omega), if_pos (by omega), rdI _ _ hlt, if_neg, w64 (by omega)]; rfl
        intro h
        simp only [Bool.and_eq_true, beq_iff_eq] at h
        apply c
        rw [show th[i] = (⟨th[i].f0, th[i].f1, th[i].f2⟩ : S53) from rfl, h.1, h.2.1, h.2.2]
      · rcases hb with h | ⟨j, h, h2, h3⟩
        · exact .inl h
        · refine .inr ⟨j, h, ?_, h3⟩
          by_cases e : j = i
          · subst e; exact absurd h3 c
          · omega
theorem back_p (T : List Mk) (hl : T.length ≤ 60) (hp : PW T) (hnd : (T.map (·.f0)).Nodup) (hg : ∀ m ∈ T, goodM m = true) (h2 : ∀ m ∈ T, m.f1 ≤ 200) (off : Int) (ho : 0 ≤ off ∧ off ≤ 200) (b : List Int) (i x : Int) (hs : Src b i) :
    EvP (fun k => laws_FnMarksBack.j0 k (T.map cb) off b i x) (fun r => r = true) := by
  refine EvP.step (fun k => by simp only [laws_FnMarksBack.j0]; rfl) ?_
  refine EvP.bind (N_p b _ _ 300 hs (by omega)) fun rn qn => ?_
  obtain ⟨n, hn⟩ : ∃ n, rn.1 = n := ⟨_, rfl⟩
  rw [hn] at qn ⊢
  have hcp : laws_cpMarks.f (T.map cb) = some (T.map cb) := by
    unfold laws_cpMarks.f
    rw [Option.bind_some, if_pos (by simp; omega), List.nil_append]
  refine EvP.bind (EvP.const (fun _ => hcp) (P := fun t => t = T.map cb) rfl) fun t ht => ?_
  subst ht
  have okT : okTab T = true := okTab_of T (by omega) hg hnd hp
  have ids : ∀ Z : List Mk, (∀ m ∈ Z, goodM m = true) → idsOk (Z.map cb) = true := fun Z hz => List.all_eq_true.2 fun m hm => by
    obtain ⟨y, hy, rfl⟩ := List.mem_map.1 hm
    have := good_num (hz y hy)
    refine decide_eq_true ?_
    show -9223372036854775808 ≤ y.f0 ∧ y.f0 ≤ 9223372036854775807
    omega
  have gI : ∀ m ∈ T.map (mvI off n), goodM m = true ∧ m.f1 ≤ 500 := fun m hm => by
    obtain ⟨y, hy, rfl⟩ := List.mem_map.1 hm
    exact mvI_good off n (by omega) y (hg y hy) (h2 y hy)
  have hall : (T.map (mvI off n)).all (fun m => decide (m.f1 ≤ 8192)) = true := List.all_eq_true.2 fun m hm => decide_eq_true (by have := (gI m hm).2; omega)
  have hins : impl_MarksInsert.f (T.map cb) off n = some ((sortM (T.map (mvI off n))).map cb, 0) := by
    unfold impl_MarksInsert.f
    rw [if_pos ⟨by rw [List.length_map]; omega, ids T hg⟩, map_cvcb]
    unfold marksInsertV
    rw [if_pos okT, if_pos (by omega), if_pos hall]
  refine EvP.bind (EvP.const (fun _ => hins) (P := fun t => t = ((sortM (T.map (mvI off n))).map cb, 0)) rfl) fun t ht => ?_
  subst ht
  obtain ⟨Y, hY⟩ : ∃ Y, sortM (T.map (mvI off n)) = Y := ⟨_, rfl⟩
  have hYp : Y.Perm (T.map (mvI off n)) := by rw [← hY]; exact sortM_perm _
  have hYw : PW Y := by rw [← hY]; exact sortM_pw _
  have hYl : Y.length = T.length := by rw [hYp.length_eq, List.length_map]
  rw [hY]
  refine EvP.congr (fun k => if_pos rfl) ?_
  have hlen : ((((Y.map cb, (0 : Int)).1.length : Int)) != ((T.map cb).length : Int)) = false := by simp [hYl]
  rw [hlen]
  refine EvP.step (fun k => by simp only [laws_FnMarksBack.j1]; rw [if_neg (by decide)]) ?_
  have hYn : (Y.map (·.f0)).Nodup := by
    rw [(hYp.map _).nodup_iff, mvI_f0]; exact hnd
  have hYg : ∀ m ∈ Y, goodM m = true := fun m hm => (gI m (hYp.mem_iff.1 hm)).1
  have okY : okTab Y = true := okTab_of Y (by omega) hYg hYn hYw
  have hdel : impl_MarksDelete.f (Y.map cb) off (wrap64 (off + n)) = some (T.map cb, 0) := by
    unfold impl_MarksDelete.f
    rw [if_pos ⟨by rw [List.length_map]; omega, ids Y hYg⟩, map_cvcb, w64 (by omega)]
    unfold marksDeleteV
    rw [if_pos okY, if_pos (by omega)]
    have e1 : ((T.map (mvI off n)).map (mvD off (off + n))) = T := by
      rw [List.map_map]
      exact (List.map_congr_left (fun m _ => mvDI off n qn.1 m)).trans (List.map_id T)
    have e2 : sortM (Y.map (mvD off (off + n))) = T := by
      have hpp : (sortM (Y.map (mvD off (off + n)))).Perm T := (sortM_perm _).trans (by rw [← e1]; exact hYp.map _)
      exact pw_unique _ _ hpp (sortM_pw _) hp ((hpp.map _).nodup_iff.2 hnd)
    rw [e2]
  have hend : Ev (fun k => laws_FnMarksBack.l0 k (T.map cb) off n (Y.map cb) (T.map cb) ((T.map cb).length : Int) ((T.map cb).length : Int)) true := by
    refine Ev.step (f := fun k => (laws_smMarks.f k (T.map cb) (T.map cb)).bind fun t => some t) (fun k => ?_) ?_
    · simp only [laws_FnMarksBack.l0]
      rw [if_neg (by omega), hdel, Option.bind_some, if_pos rfl]
    · exact Ev.bind (sm_ev _ (by rw [List.length_map]; omega)) (ev_const fun _ => rfl)
  have loop : ∀ d i : Nat, i + d = (T.map cb).length → Ev (fun k => laws_FnMarksBack.l0 k (T.map cb) off n (Y.map cb) (T.map cb) ((T.map cb).length : Int) (i : Int)) true := by
    intro d
    induction d with
    | zero => intro i hi; obtain rfl : i = (T.map cb).length := by omega
              exact hend
    | succ d ih =>
      intro i hi
      have hlt : i < (T.map cb).length := by omega
      have hlt2 : i < T.length := by rw [List.length_map] at hlt; exact hlt
      have hc : (T.map cb)[i] = cb T[i] := by rw [List.getElem_map]
      have hmem : mvI off n T[i] ∈ Y := hYp.mem_iff.2 (List.mem_map.2 ⟨T[i], List.getElem_mem hlt2, rfl⟩)
      have hr2 := h2 T[i] (List.getElem_mem hlt2)
      have hr3 := good_num (hg T[i] (List.getElem_mem hlt2))
      obtain ⟨j, hj, ej⟩ := List.mem_iff_getElem.1 hmem
      have step4 : ∀ p q r : Int, (⟨p, q, r⟩ : Mk) = mvI off n T[i] → Ev (fun k => laws_FnMarksBack.j4 k (T.map cb) off n (Y.map cb) (T.map cb) ((T.map cb).length : Int) (i : Int) p q r) true := fun p q r e => by
        refine Ev.step (f := fun k => laws_FnMarksBack.l1 k (T.map cb) off n (Y.map cb) false (T.map cb) ((T.map cb).length : Int) (i : Int) (Y.map cb) ((Y.map cb).length : Int) ((0 : Nat) : Int) p q r) (fun k => by simp only [laws_FnMarksBack.j4]; rfl) ?_
        refine l1_ev (T.map cb) (Y.map cb) off n (T.map cb) _ _ p q r (by rw [List.length_map]; omega) true ?_ (Y.map cb).length 0 false (by omega) (.inr ⟨j, by rw [List.length_map]; exact hj, Nat.zero_le _, ?_⟩)
        · rw [w64 (by rw [List.length_map] at hlt; omega)]; exact ih (i + 1) (by omega)
        · rw [List.getElem_map, ej, ← e]; rfl
      have step3 : ∀ f : Bool, (f = decide (off < T[i].f1 ∨ T[i].f1 = off ∧ T[i].f2 = 1)) → Ev (fun k => laws_FnMarksBack.j3 k (T.map cb) off n (Y.map cb) (T.map cb) ((T.map cb).length : Int) (i : Int) f T[i].f0 T[i].f1 T[i].f2) true := fun f hf => by
        subst hf
        by_cases c : off < T[i].f1 ∨ T[i].f1 = off ∧ T[i].f2 = 1
        · refine Ev.step (fun k => by simp only [laws_FnMarksBack.j3]; rw [if_pos (decide_eq_true c), w64 (by omega)]) (step4 _ _ _ ?_)
          unfold mvI; rw [if_pos c]
        · refine Ev.step (fun k => by simp only [laws_FnMarksBack.j3]; rw [if_neg (by simpa using c)]) (step4 _ _ _ ?_)
          unfold mvI; rw [if_neg c]
      have hh : ∀ k, laws_FnMarksBack.l0 (k + 1) (T.map cb) off n (Y.map cb) (T.map cb) ((T.map cb).length : Int) (i : Int) = laws_FnMarksBack.j3 k (T.map cb) off n (Y.map cb) (T.map cb) ((T.map cb).length : Int) (i : Int) (decide (off < T[i].f1 ∨ T[i].f1 = off ∧ T[i].f2 = 1)) T[i].f0 T[i].f1 T[i].f2 := fun k => by
        simp only [laws_FnMarksBack.l0]
        rw [if_pos (by omega), if_pos (by omega), if_pos (by omega), rdI _ _ hlt, hc]
        show (if T[i].f1 > off then laws_FnMarksBack.j3 k _ off n _ _ _ _ true T[i].f0 T[i].f1 T[i].f2 else if T[i].f1 = off then laws_FnMarksBack.j3 k _ off n _ _ _ _ (T[i].f2 == 1) T[i].f0 T[i].f1 T[i].f2 else laws_FnMarksBack.j3 k _ off n _ _ _ _ false T[i].f0 T[i].f1 T[i].f2) = _
        by_cases c1 : T[i].f1 > off
        · rw [if_pos c1]; congr 1; symm; exact decide_eq_true (.inl c1)
        · rw [if_neg c1]
          by_cases c2 : T[i].f1 = off
          · rw [if_pos c2]; congr 1
            by_cases c3 : T[i].f2 = 1
            · rw [decide_eq_true (.inr ⟨c2, c3⟩)]; simp [c3]
            · rw [decide_eq_false (by omega)]; simp [c3]
          · rw [if_neg c2]; congr 1; symm; exact decide_eq_false (by omega)
      exact Ev.step hh (step3 _ rfl)
  exact EvP.of (loop (T.map cb).length 0 (by omega)) rfl
theorem law (l : List Int) : ∃ k, laws_FnMarksBack.f k l = some true := by
  refine Ev.rounds (g := fun k => laws_FnMarksBack.f k l) ?_
  unfold laws_FnMarksBack.f
  by_cases hn : (l.length : Int) > 1048576
  · exact ev_const fun k => by rw [if_pos hn]
  refine Ev.congr (fun k => if_neg hn) ?_
  have go : EvP (fun k => (spec_L1Draw.f l).bind fun bt185 => ((spec_l1Src_N.f bt185.1 bt185.2.1 bt185.2.2 200).bind fun bt189 => ((spec_L1Size.f l 60).bind fun t192 => ((spec_l1Src_N.f bt185.1 bt189.2.1 bt189.2.2 t192).bind fun bt193 => ((spec_L5DrawMarks.f k bt185.1 bt193.2.1 bt193.2.2 (wrap64 (1 + bt193.1)) bt189.1).bind fun bt196 => ((spec_l1Src_N.f bt185.1 bt196.2.1 bt196.2.2 (wrap64 (bt189.1 + 1))).bind fun bt201 => ((spec_l1Src_N.f bt185.1 bt201.2.1 bt201.2.2 2).bind fun bt204 => (if bt204.1 = 0 then ((spec_l1Src_N.f bt185.1 bt204.2.1 bt204.2.2 (bt196.1.length : Int)).bind fun bt207 => (if 0 ≤ bt207.1 then (if bt207.1 < (bt196.1.length : Int) then (laws_FnMarksBack.j0 k bt196.1 ((rd_T53 bt196.1 bt207.1).f1) bt185.1 bt207.2.1 bt207.2.2) else (none)) else (none))) else (laws_FnMarksBack.j0 k bt196.1 bt201.1 bt185.1 bt204.2.1 bt204.2.2))))))))) (fun r => r = true) := by
    refine EvP.bind (EvP.const (fun _ => rfl) (P := fun r => Src r.1 r.2.1) ⟨Int.le_refl _, Int.natCast_nonneg _, by show l.length ≤ 1048576; omega⟩) fun s hs => ?_
    refine EvP.bind (N_p _ _ _ 200 hs (by omega)) fun r1 q1 => ?_
    have hsz : ∃ z, spec_L1Size.f l 60 = some z ∧ 2 ≤ z ∧ z ≤ 60 := by
      unfold spec_L1Size.f spec_l1Size.f
      rw [w64 (x := (l.length : Int) / 2) (by omega), w64 (by omega)]
      by_cases c : 2 + (l.length : Int) / 2 > 60
      · rw [if_pos c]; exact ⟨60, rfl, by omega, by omega⟩
      · rw [if_neg c]; exact ⟨_, rfl, by omega, by omega⟩
    obtain ⟨z, hz, hz1, hz2⟩ := hsz
    refine EvP.bind (EvP.const (fun _ => hz) (P := fun t => 2 ≤ t ∧ t ≤ 60) ⟨hz1, hz2⟩) fun z2 q2 => ?_
    refine EvP.bind (N_p _ _ _ z2 q1.2.2 (by omega)) fun r3 q3 => ?_
    rw [w64 (x := 1 + r3.1) (by omega)]
    refine EvP.bind (drawMarks_p _ _ _ (1 + r3.1) r1.1 (by omega) (by omega) q3.2.2) fun r4 q4 => ?_
    obtain ⟨hs4, X, hX, hG, hX1, hX2⟩ := q4
    obtain ⟨T, hT1, hT2, hT3, hT4, hT5, hT6, hT7⟩ := drawn_T hG
    rw [w64 (x := r1.1 + 1) (by omega)]
    refine EvP.bind (N_p _ _ _ (r1.1 + 1) hs4 (by omega)) fun r5 q5 => ?_
    refine EvP.bind (N_p _ _ _ 2 q5.2.2 (by omega)) fun r6 q6 => ?_
    have eT : r4.1 = T.map cb := hX.trans hT2
    rw [eT]
    by_cases c : r6.1 = 0
    · refine EvP.congr (fun k => if_pos c) ?_
      refine EvP.bind (N_p _ _ _ ((T.map cb).length : Int) q6.2.2 (by rw [List.length_map]; omega)) fun r7 q7 => ?_
      refine EvP.congr (fun k => by rw [if_pos q7.1, if_pos q7.2.1]) ?_
      have hj : r7.1.toNat < (T.map cb).length := by omega
      have hj2 : r7.1.toNat < T.length := by rw [List.length_map] at hj; exact hj
      have e7 : (rd_T53 (T.map cb) r7.1).f1 = T[r7.1.toNat].f1 := by
        unfold rd_T53; rw [List.getD_eq_getElem?_getD, List.getElem?_eq_getElem hj, List.getElem_map]; rfl
      rw [e7]
      have g1 := good_num (hT6 _ (List.getElem_mem hj2))
      have g2 := hT7 _ (List.getElem_mem hj2)
      exact back_p T (by omega) hT4 hT5 hT6 hT7 _ (by omega) _ _ _ q7.2.2
    · refine EvP.congr (fun k => if_neg c) ?_
      exact back_p T (by omega) hT4 hT5 hT6 hT7 _ (by omega) _ _ _ q6.2.2
  obtain ⟨r, g1, rfl⟩ := go
  exact g1
end Go.Proofs.YtefdjajmnkmbgaaDoor.PureFnMarksBack
