/- Balanced trees, plainly. -/
namespace Go.Proofs.Ytnomidpnofhjdaa.TP
variable {α : Type}
inductive Tr (α : Type) where
  | nil : Tr α
  | node (l : Tr α) (v : α) (r : Tr α) : Tr α
open Tr
def hgt : Tr α → Nat | nil => 0 | node l _ r => max (hgt l) (hgt r) + 1
def cnt : Tr α → Nat | nil => 0 | node l _ r => cnt l + cnt r + 1
def toL : Tr α → List α | nil => [] | node l v r => toL l ++ v :: toL r
def flat : Tr α → Int → List (α × Int) | nil, _ => [] | node l v r, k => flat l (k + 1) ++ (v, k) :: flat r (k + 1)
def Avl : Tr α → Prop | nil => True | node l _ r => Avl l ∧ Avl r ∧ hgt l ≤ hgt r + 1 ∧ hgt r ≤ hgt l + 1
theorem flat_length (t : Tr α) : ∀ k, (flat t k).length = cnt t := by
  induction t with
  | nil => intro k; rfl
  | node l v r ihl ihr => intro k; simp only [flat, cnt, List.length_append, List.length_cons, ihl, ihr]; omega
theorem flat_toL (t : Tr α) : ∀ k, (flat t k).map Prod.fst = toL t := by
  induction t with
  | nil => intro k; rfl
  | node l v r ihl ihr => intro k; simp [flat, toL, ihl, ihr]
theorem hgt_le (t : Tr α) : hgt t ≤ cnt t := by
  induction t with
  | nil => simp [hgt]
  | node l v r ihl ihr => simp only [hgt, cnt]; omega
theorem flat_lev (t : Tr α) : ∀ k, ∀ x ∈ flat t k, k ≤ x.2 ∧ x.2 < k + hgt t := by
  induction t with
  | nil => intro k x hx; simp [flat] at hx
  | node l v r ihl ihr =>
    intro k x hx
    simp only [flat, List.mem_append, List.mem_cons] at hx
    simp only [hgt]
    rcases hx with h | rfl | h
    · have := ihl _ _ h; omega
    · simp; omega
    · have := ihr _ _ h; omega
-- turns and repair
def turnR : Tr α → Tr α | node (node a x b) v r => node a x (node b v r) | t => t
def turnL : Tr α → Tr α | node l v (node a x b) => node (node l v a) x b | t => t
def inL : Tr α → Tr α | node a x b => if hgt a < hgt b then turnL (node a x b) else node a x b | nil => nil
def inR : Tr α → Tr α | node a x b => if hgt b < hgt a then turnR (node a x b) else node a x b | nil => nil
def repaired : Tr α → Tr α
  | nil => nil
  | node l v r => if hgt l = hgt r + 2 then turnR (node (inL l) v r) else if hgt r = hgt l + 2 then turnL (node l v (inR r)) else node l v r
theorem repaired_ok (l : Tr α) (v : α) (r : Tr α) (hl : Avl l) (hr : Avl r) (h1 : hgt l ≤ hgt r + 2) (h2 : hgt r ≤ hgt l + 2) :
    Avl (repaired (node l v r)) ∧ hgt (repaired (node l v r)) ≤ max (hgt l) (hgt r) + 1 ∧ max (hgt l) (hgt r) ≤ hgt (repaired (node l v r))
      ∧ toL (repaired (node l v r)) = toL (node l v r) ∧ cnt (repaired (node l v r)) = cnt (node l v r) := by
  simp only [repaired]
  by_cases c1 : hgt l = hgt r + 2
  · rw [if_pos c1]
    match l, hl, c1 with
    | node a x b, hl, c1 =>
      obtain ⟨ha, hb, b1, b2⟩ := hl
      simp only [hgt] at c1 h1 h2
      simp only [inL]
      by_cases c2 : hgt a < hgt b
      · rw [if_pos c2]
        match b, hb, b1, b2, c2 with
        | node p y q, hb, b1, b2, c2 =>
          obtain ⟨hp, hq, q1, q2⟩ := hb
          simp only [hgt] at c1 h1 h2 b1 b2 c2
          simp only [turnL, turnR, Avl, hgt, toL, cnt]
          refine ⟨⟨⟨ha, hp, by omega, by omega⟩, ⟨hq, hr, by omega, by omega⟩, by omega, by omega⟩, by omega, by omega, by simp, by omega⟩
      · rw [if_neg c2]
        simp only [turnR, Avl, hgt, toL, cnt]
        refine ⟨⟨ha, ⟨hb, hr, by omega, by omega⟩, by omega, by omega⟩, by omega, by omega, by simp, by omega⟩
  · rw [if_neg c1]
    by_cases c3 : hgt r = hgt l + 2
    · rw [if_pos c3]
      match r, hr, c3 with
      | node a x b, hr, c3 =>
        obtain ⟨ha, hb, b1, b2⟩ := hr
        simp only [hgt] at c1 c3 h1 h2
        simp only [inR]
        by_cases c2 : hgt b < hgt a
        · rw [if_pos c2]
          match a, ha, b1, b2, c2 with
          | node p y q, ha, b1, b2, c2 =>
            obtain ⟨hp, hq, q1, q2⟩ := ha
            simp only [hgt] at c1 c3 h1 h2 b1 b2 c2
            simp only [turnL, turnR, Avl, hgt, toL, cnt]
            refine ⟨⟨⟨hl, hp, by omega, by omega⟩, ⟨hq, hb, by omega, by omega⟩, by omega, by omega⟩, by omega, by omega, by simp, by omega⟩
        · rw [if_neg c2]
          simp only [turnL, Avl, hgt, toL, cnt]
          refine ⟨⟨⟨hl, ha, by omega, by omega⟩, hb, by omega, by omega⟩, by omega, by omega, by simp, by omega⟩
    · rw [if_neg c3]
      simp only [Avl, hgt, toL, cnt]
      exact ⟨⟨hl, hr, by omega, by omega⟩, by omega, by omega, trivial, trivial⟩
-- the height when it was balanced anyway
theorem repaired_id (l : Tr α) (v : α) (r : Tr α) (h1 : hgt l ≤ hgt r + 1) (h2 : hgt r ≤ hgt l + 1) : repaired (node l v r) = node l v r := by
  simp only [repaired]; rw [if_neg (by omega), if_neg (by omega)]
/-- repaired where one side has lost or won at most 1 -/
def insert (v : α) : Tr α → Nat → Tr α
  | nil, _ => node nil v nil
  | node l x r, k => if k ≤ cnt l then repaired (node (insert v l k) x r) else repaired (node l x (insert v r (k - cnt l - 1)))
theorem insert_ok (v : α) (t : Tr α) : ∀ k, Avl t → k ≤ cnt t → Avl (insert v t k) ∧ hgt t ≤ hgt (insert v t k) ∧ hgt (insert v t k) ≤ hgt t + 1 ∧
    toL (insert v t k) = (toL t).take k ++ v :: (toL t).drop k ∧ cnt (insert v t k) = cnt t + 1 := by
  induction t with
  | nil => intro k _ hk; simp [insert, Avl, hgt, toL, cnt]
  | node l x r ihl ihr =>
    intro k ha hk
    obtain ⟨hl, hr, h1, h2⟩ := ha
    have len : ∀ t : Tr α, (toL t).length = cnt t := fun t => by rw [← flat_toL t 0, List.length_map, flat_length]
    simp only [insert]
    by_cases c : k ≤ cnt l
    · rw [if_pos c]
      obtain ⟨i1, i2, i3, i4, i5⟩ := ihl k hl c
      obtain ⟨o1, o2, o3, o4, o5⟩ := repaired_ok (insert v l k) x r i1 hr (by omega) (by omega)
      refine ⟨o1, ?_, ?_, ?_, ?_⟩
      · by_cases e : hgt (insert v l k) ≤ hgt r + 1
        · rw [repaired_id _ _ _ e (by omega)]; simp only [hgt]; omega
        · simp only [hgt]; omega
      · by_cases e : hgt (insert v l k) ≤ hgt r + 1
        · rw [repaired_id _ _ _ e (by omega)]; simp only [hgt]; omega
        · simp only [hgt] at o2 ⊢; omega
      · rw [o4]; simp only [toL, i4]
        rw [List.take_append_of_le_length (by rw [len]; exact c), List.drop_append_of_le_length (by rw [len]; exact c)]; simp
      · rw [o5]; simp only [cnt, i5]; omega
    · rw [if_neg c]
      simp only [cnt] at hk
      obtain ⟨i1, i2, i3, i4, i5⟩ := ihr (k - cnt l - 1) hr (by omega)
      obtain ⟨o1, o2, o3, o4, o5⟩ := repaired_ok l x (insert v r (k - cnt l - 1)) hl i1 (by omega) (by omega)
      refine ⟨o1, ?_, ?_, ?_, ?_⟩
      · by_cases e : hgt (insert v r (k - cnt l - 1)) ≤ hgt l + 1
        · rw [repaired_id _ _ _ (by omega) e]; simp only [hgt]; omega
        · simp only [hgt]; omega
      · by_cases e : hgt (insert v r (k - cnt l - 1)) ≤ hgt l + 1
        · rw [repaired_id _ _ _ (by omega) e]; simp only [hgt]; omega
        · simp only [hgt] at o2 ⊢; omega
      · rw [o4]; simp only [toL, i4]
        have e1 : k = (toL l).length + ((k - cnt l - 1) + 1) := by rw [len]; omega
        rw [show (toL l ++ x :: toL r).take k = toL l ++ x :: (toL r).take (k - cnt l - 1) by
          conv => lhs; rw [e1]
          rw [List.take_length_add_append]; simp]
        rw [show (toL l ++ x :: toL r).drop k = (toL r).drop (k - cnt l - 1) by
          conv => lhs; rw [e1]
          rw [List.drop_length_add_append]; simp]
        simp
      · rw [o5]; simp only [cnt, i5]; omega

theorem toL_length (t : Tr α) : (toL t).length = cnt t := by rw [← flat_toL t 0, List.length_map, flat_length]
def first : Tr α → Option α | nil => none | node nil v _ => some v | node (node a x b) _ _ => first (node a x b)
/-- what becomes of a node that is taken away: its only child, or (big) -/
def pick (l r big : Tr α) : Tr α := match l, r with | nil, r => r | node a x b, nil => node a x b | node _ _ _, node _ _ _ => big
def remove : Tr α → Nat → Tr α
  | nil, _ => nil
  | node l x r, k =>
    if k < cnt l then repaired (node (remove l k) x r)
    else if cnt l < k then repaired (node l x (remove r (k - cnt l - 1)))
    else pick l r ((first r).elim nil fun y => repaired (node l y (remove r 0)))
theorem first_toL (t : Tr α) : first t = (toL t).head? := by
  induction t with
  | nil => rfl
  | node l v r ihl _ =>
    cases l with
    | nil => rfl
    | node a x b =>
      simp only [first]; rw [ihl]
      have : toL (node a x b) ≠ [] := by simp [toL]
      obtain ⟨y, ys, h⟩ := List.exists_cons_of_ne_nil this
      show _ = (toL (node a x b) ++ v :: toL r).head?
      rw [h]; rfl
theorem first_cons (p : Tr α) (z : α) (q : Tr α) : ∃ y ys, first (node p z q) = some y ∧ toL (node p z q) = y :: ys := by
  have : toL (node p z q) ≠ [] := by simp [toL]
  obtain ⟨y, ys, h⟩ := List.exists_cons_of_ne_nil this
  exact ⟨y, ys, by rw [first_toL, h]; rfl, h⟩
theorem cnt_pos_of (a : Tr α) (x : α) (b : Tr α) : 0 < cnt (node a x b) := by simp only [cnt]; omega
theorem repaired_shrink (l : Tr α) (v : α) (r l' : Tr α) (hl : Avl l') (hr : Avl r) (a1 : hgt l ≤ hgt r + 1) (a2 : hgt r ≤ hgt l + 1) (h1 : hgt l' ≤ hgt l) (h2 : hgt l ≤ hgt l' + 1) :
    Avl (repaired (node l' v r)) ∧ hgt (repaired (node l' v r)) ≤ hgt (node l v r) ∧ hgt (node l v r) ≤ hgt (repaired (node l' v r)) + 1 ∧ toL (repaired (node l' v r)) = toL l' ++ v :: toL r ∧ cnt (repaired (node l' v r)) = cnt l' + cnt r + 1 := by
  obtain ⟨o1, o2, o3, o4, o5⟩ := repaired_ok l' v r hl hr (by omega) (by omega)
  refine ⟨o1, ?_, ?_, o4, o5⟩
  · simp only [hgt]; omega
  · by_cases e : hgt r ≤ hgt l' + 1
    · rw [repaired_id _ _ _ (by omega) e]; simp only [hgt]; omega
    · simp only [hgt]; omega
theorem repaired_shrink' (l : Tr α) (v : α) (r r' : Tr α) (hl : Avl l) (hr : Avl r') (a1 : hgt l ≤ hgt r + 1) (a2 : hgt r ≤ hgt l + 1) (h1 : hgt r' ≤ hgt r) (h2 : hgt r ≤ hgt r' + 1) :
    Avl (repaired (node l v r')) ∧ hgt (repaired (node l v r')) ≤ hgt (node l v r) ∧ hgt (node l v r) ≤ hgt (repaired (node l v r')) + 1 ∧ toL (repaired (node l v r')) = toL l ++ v :: toL r' ∧ cnt (repaired (node l v r')) = cnt l + cnt r' + 1 := by
  obtain ⟨o1, o2, o3, o4, o5⟩ := repaired_ok l v r' hl hr (by omega) (by omega)
  refine ⟨o1, ?_, ?_, o4, o5⟩
  · simp only [hgt]; omega
  · by_cases e : hgt l ≤ hgt r' + 1
    · rw [repaired_id _ _ _ e (by omega)]; simp only [hgt]; omega
    · simp only [hgt]; omega
theorem remove_ok (t : Tr α) : ∀ k, Avl t → k < cnt t → Avl (remove t k) ∧ hgt (remove t k) ≤ hgt t ∧ hgt t ≤ hgt (remove t k) + 1 ∧
    toL (remove t k) = (toL t).eraseIdx k ∧ cnt (remove t k) + 1 = cnt t := by
  induction t with
  | nil => intro k _ hk; simp [cnt] at hk
  | node l x r ihl ihr =>
    intro k ha hk
    obtain ⟨hl, hr, h1, h2⟩ := ha
    simp only [remove]
    by_cases c : k < cnt l
    · rw [if_pos c]
      obtain ⟨i1, i2, i3, i4, i5⟩ := ihl k hl c
      obtain ⟨o1, o2, o3, o4, o5⟩ := repaired_shrink l x r (remove l k) i1 hr h1 h2 i2 i3
      refine ⟨o1, o2, o3, ?_, ?_⟩
      · rw [o4, i4]; simp only [toL]; rw [List.eraseIdx_append_of_lt_length (by rw [toL_length]; exact c)]
      · rw [o5]; simp only [cnt]; omega
    · rw [if_neg c]
      by_cases c2 : cnt l < k
      · rw [if_pos c2]
        simp only [cnt] at hk
        obtain ⟨i1, i2, i3, i4, i5⟩ := ihr (k - cnt l - 1) hr (by omega)
        obtain ⟨o1, o2, o3, o4, o5⟩ := repaired_shrink' l x r (remove r (k - cnt l - 1)) hl i1 h1 h2 i2 i3
        refine ⟨o1, o2, o3, ?_, ?_⟩
        · rw [o4, i4]; simp only [toL]
          rw [List.eraseIdx_append_of_length_le (by rw [toL_length]; omega), toL_length]
          obtain ⟨m, hm⟩ : ∃ m, k - cnt l = m + 1 := ⟨k - cnt l - 1, by omega⟩
          rw [hm]; simp
        · rw [o5]; simp only [cnt]; omega
      · rw [if_neg c2]
        have ek : k = cnt l := by omega
        have er : (toL (node l x r)).eraseIdx k = toL l ++ toL r := by
          simp only [toL]; rw [List.eraseIdx_append_of_length_le (by rw [toL_length]; omega), toL_length, ek, Nat.sub_self]; simp
        cases l with
        | nil => rw [er]; simp only [pick]; refine ⟨hr, by simp only [hgt]; omega, by simp only [hgt] at *; omega, by simp [toL], by simp only [cnt]; omega⟩
        | node a y b =>
          cases r with
          | nil =>
            rw [er]; simp only [pick]
            refine ⟨hl, by simp only [hgt]; omega, by simp only [hgt] at *; omega, by simp [toL], by simp only [cnt]⟩
          | node p z q =>
            obtain ⟨f, ys, hf, ht⟩ := first_cons p z q
            simp only [hf, Option.elim_some, pick]
            obtain ⟨i1, i2, i3, i4, i5⟩ := ihr 0 hr (cnt_pos_of _ _ _)
            obtain ⟨o1, o2, o3, o4, o5⟩ := repaired_shrink' (node a y b) f (node p z q) (remove (node p z q) 0) hl i1 h1 h2 i2 i3
            have ex : hgt (node (node a y b) x (node p z q)) = hgt (node (node a y b) f (node p z q)) := rfl
            rw [ex]
            refine ⟨o1, o2, o3, ?_, ?_⟩
            · rw [o4, i4, er, ht]; simp
            · rw [o5]; simp only [cnt] at i5 ⊢; omega
def joined (a : Tr α) (v : α) (b : Tr α) : Tr α :=
  if hgt b + 1 < hgt a then
    match a with
    | node l x r => repaired (node l x (joined r v b))
    | nil => nil
  else if hgt a + 1 < hgt b then
    match b with
    | node l x r => repaired (node (joined a v l) x r)
    | nil => nil
  else node a v b
termination_by cnt a + cnt b
decreasing_by all_goals (simp only [cnt]; omega)
theorem joined_ok (n : Nat) : ∀ (a : Tr α) (v : α) (b : Tr α), cnt a + cnt b ≤ n → Avl a → Avl b → Avl (joined a v b) ∧ hgt (joined a v b) ≤ max (hgt a) (hgt b) + 1 ∧ max (hgt a) (hgt b) ≤ hgt (joined a v b) ∧
    toL (joined a v b) = toL a ++ v :: toL b ∧ cnt (joined a v b) = cnt a + cnt b + 1 := by
  induction n with
  | zero =>
    intro a v b hn ha hb
    cases a with
    | node => simp [cnt] at hn
    | nil => cases b with
      | node => simp [cnt] at hn
      | nil => unfold joined; simp [hgt, Avl, toL, cnt]
  | succ n ih =>
    intro a v b hn ha hb
    unfold joined
    by_cases c : hgt b + 1 < hgt a
    · rw [if_pos c]
      match a, ha, c, hn with
      | node l x r, ha, c, hn =>
        obtain ⟨hl, hr, h1, h2⟩ := ha
        simp only [hgt] at c ⊢
        simp only [cnt] at hn
        obtain ⟨i1, i2, i3, i4, i5⟩ := ih r v b (by omega) hr hb
        obtain ⟨o1, o2, o3, o4, o5⟩ := repaired_ok l x (joined r v b) hl i1 (by omega) (by omega)
        refine ⟨o1, ?_, ?_, ?_, ?_⟩
        · by_cases e : hgt (joined r v b) ≤ hgt l + 1
          · rw [repaired_id _ _ _ (by omega) e]; simp only [hgt]; omega
          · omega
        · by_cases e : hgt (joined r v b) ≤ hgt l + 1
          · rw [repaired_id _ _ _ (by omega) e]; simp only [hgt]; omega
          · omega
        · rw [o4]; simp only [toL, i4]; simp
        · rw [o5]; simp only [cnt, i5]; omega
    · rw [if_neg c]
      by_cases c2 : hgt a + 1 < hgt b
      · rw [if_pos c2]
        match b, hb, c, c2, hn with
        | node l x r, hb, c, c2, hn =>
          obtain ⟨hl, hr, h1, h2⟩ := hb
          simp only [hgt] at c c2 ⊢
          simp only [cnt] at hn
          obtain ⟨i1, i2, i3, i4, i5⟩ := ih a v l (by omega) ha hl
          obtain ⟨o1, o2, o3, o4, o5⟩ := repaired_ok (joined a v l) x r i1 hr (by omega) (by omega)
          refine ⟨o1, ?_, ?_, ?_, ?_⟩
          · by_cases e : hgt (joined a v l) ≤ hgt r + 1
            · rw [repaired_id _ _ _ e (by omega)]; simp only [hgt]; omega
            · omega
          · by_cases e : hgt (joined a v l) ≤ hgt r + 1
            · rw [repaired_id _ _ _ e (by omega)]; simp only [hgt]; omega
            · omega
          · rw [o4]; simp only [toL, i4]; simp
          · rw [o5]; simp only [cnt, i5]; omega
      · rw [if_neg c2]
        refine ⟨⟨ha, hb, by omega, by omega⟩, by simp only [hgt]; omega, by simp only [hgt]; omega, rfl, rfl⟩
def split : Tr α → Nat → Tr α × Tr α
  | nil, _ => (nil, nil)
  | node l v r, k => if k ≤ cnt l then ((split l k).1, joined (split l k).2 v r) else (joined l v (split r (k - cnt l - 1)).1, (split r (k - cnt l - 1)).2)
theorem split_ok (t : Tr α) : ∀ k, Avl t → k ≤ cnt t → Avl (split t k).1 ∧ Avl (split t k).2 ∧ toL (split t k).1 = (toL t).take k ∧ toL (split t k).2 = (toL t).drop k := by
  induction t with
  | nil => intro k _ _; simp [split, Avl, toL]
  | node l v r ihl ihr =>
    intro k ha hk
    obtain ⟨hl, hr, _, _⟩ := ha
    simp only [split]
    by_cases c : k ≤ cnt l
    · rw [if_pos c]
      obtain ⟨i1, i2, i3, i4⟩ := ihl k hl c
      obtain ⟨j1, _, _, j4, _⟩ := joined_ok _ (split l k).2 v r (Nat.le_refl _) i2 hr
      refine ⟨i1, j1, ?_, ?_⟩
      · rw [i3]; simp only [toL]; rw [List.take_append_of_le_length (by rw [toL_length]; exact c)]
      · rw [j4, i4]; simp only [toL]; rw [List.drop_append_of_le_length (by rw [toL_length]; exact c)]
    · rw [if_neg c]
      simp only [cnt] at hk
      obtain ⟨i1, i2, i3, i4⟩ := ihr (k - cnt l - 1) hr (by omega)
      obtain ⟨j1, _, _, j4, _⟩ := joined_ok _ l v (split r (k - cnt l - 1)).1 (Nat.le_refl _) hl i1
      have e1 : k = (toL l).length + ((k - cnt l - 1) + 1) := by rw [toL_length]; omega
      refine ⟨j1, i2, ?_, ?_⟩
      · rw [j4, i3]; simp only [toL]
        conv => rhs; rw [e1]
        rw [List.take_length_add_append]; simp
      · rw [i4]; simp only [toL]
        conv => rhs; rw [e1]
        rw [List.drop_length_add_append]; simp
def together (a b : Tr α) : Tr α := pick a b ((first b).elim nil fun y => joined a y (remove b 0))
theorem together_ok (a b : Tr α) (ha : Avl a) (hb : Avl b) : Avl (together a b) ∧ toL (together a b) = toL a ++ toL b := by
  unfold together
  cases a with
  | nil => simp only [pick]; exact ⟨hb, by simp [toL]⟩
  | node l x r =>
    cases b with
    | nil => simp only [pick]; exact ⟨ha, by simp [toL]⟩
    | node p z q =>
      obtain ⟨f, ys, hf, ht⟩ := first_cons p z q
      simp only [hf, Option.elim_some, pick]
      obtain ⟨i1, _, _, i4, _⟩ := remove_ok (node p z q) 0 hb (cnt_pos_of _ _ _)
      obtain ⟨j1, _, _, j4, _⟩ := joined_ok _ (node l x r) f (remove (node p z q) 0) (Nat.le_refl _) ha i1
      refine ⟨j1, ?_⟩
      rw [j4, i4, ht]; simp
-- places in a tree
inductive Fr (α : Type) where
  | L (v : α) (r : Tr α) : Fr α
  | R (l : Tr α) (v : α) : Fr α
def plug1 : Fr α → Tr α → Tr α | .L v r, t => node t v r | .R l v, t => node l v t
def plug : List (Fr α) → Tr α → Tr α | [], t => t | f :: C, t => plug C (plug1 f t)
def side : Fr α → Tr α | .L _ r => r | .R l _ => l
def Sides (C : List (Fr α)) : Prop := ∀ f ∈ C, Avl (side f)
def pre : List (Fr α) → Int → List (α × Int)
  | [], _ => []
  | .L _ _ :: C, k => pre C (k - 1)
  | .R l v :: C, k => pre C (k - 1) ++ (flat l k ++ [(v, k - 1)])
def post : List (Fr α) → Int → List (α × Int)
  | [], _ => []
  | .L v r :: C, k => (v, k - 1) :: flat r k ++ post C (k - 1)
  | .R _ _ :: C, k => post C (k - 1)
theorem flat_plug (C : List (Fr α)) : ∀ (t : Tr α) (k : Int), flat (plug C t) (k - C.length) = pre C k ++ flat t k ++ post C k := by
  induction C with
  | nil => intro t k; simp [plug, pre, post]
  | cons f C ih =>
    intro t k
    have e : k - ((f :: C).length : Int) = (k - 1) - C.length := by simp; omega
    rw [plug, e, ih]
    have e1 : k - 1 + 1 = k := by omega
    cases f with
    | L v r => simp [plug1, flat, pre, post, e1]
    | R l v => simp [plug1, flat, pre, post, e1]
/-- the item next to a place on the left (right) lies higher up -/
theorem pre_last (C : List (Fr α)) : ∀ (k : Int) (x : α × Int), (pre C k).getLast? = some x → x.2 < k := by
  induction C with
  | nil => intro k x h; simp [pre] at h
  | cons f C ih =>
    intro k x h
    cases f with
    | L v r => have := ih (k - 1) x h; omega
    | R l v => simp only [pre, List.getLast?_append, List.getLast?_singleton, Option.some_or, Option.some.injEq] at h; subst h; simp; omega
theorem post_head (C : List (Fr α)) : ∀ (k : Int) (x : α × Int), (post C k).head? = some x → x.2 < k := by
  induction C with
  | nil => intro k x h; simp [post] at h
  | cons f C ih =>
    intro k x h
    cases f with
    | R v r => have := ih (k - 1) x h; omega
    | L l v => simp only [post, List.cons_append, List.head?_cons, Option.some.injEq] at h; subst h; simp; omega
def Off (l r : Tr α) : Prop := hgt l = hgt r + 2 ∨ hgt r = hgt l + 2
def Step (s s' : Tr α) : Prop := ∃ C l v r, s = plug C (node l v r) ∧ Sides C ∧ Avl l ∧ Avl r ∧ Off l r ∧ s' = plug C (repaired (node l v r))
inductive Chain : Nat → Tr α → Tr α → Prop where
  | refl (s : Tr α) : Chain 0 s s
  | step {n : Nat} {s m e : Tr α} (h : Step s m) (k : Chain n m e) : Chain (n + 1) s e
theorem Chain.trans {n m : Nat} {a b c : Tr α} (h : Chain n a b) (k : Chain m b c) : Chain (n + m) a c := by
  induction h with
  | refl s => simpa using k
  | step st _ ih => rw [Nat.add_right_comm]; exact .step st (ih k)
theorem chain_rep (C : List (Fr α)) (l : Tr α) (v : α) (r : Tr α) (hC : Sides C) (hl : Avl l) (hr : Avl r) (h1 : hgt l ≤ hgt r + 2) (h2 : hgt r ≤ hgt l + 2) :
    ∃ n, n ≤ 1 ∧ Chain n (plug C (node l v r)) (plug C (repaired (node l v r))) := by
  by_cases c : Off l r
  · exact ⟨1, Nat.le_refl _, .step ⟨C, l, v, r, rfl, hC, hl, hr, c, rfl⟩ (.refl _)⟩
  · unfold Off at c
    rw [repaired_id _ _ _ (by omega) (by omega)]
    exact ⟨0, by omega, .refl _⟩
theorem sides_cons {f : Fr α} {C : List (Fr α)} (hf : Avl (side f)) (hC : Sides C) : Sides (f :: C) := by
  intro g hg
  rcases List.mem_cons.1 hg with rfl | h
  · exact hf
  · exact hC g h
def pins (v : α) : Tr α → Nat → Tr α
  | nil, _ => node nil v nil
  | node l x r, k => if k ≤ cnt l then node (pins v l k) x r else node l x (pins v r (k - cnt l - 1))
theorem chain_ins (v : α) (t : Tr α) : ∀ (C : List (Fr α)) (k : Nat), Sides C → Avl t → k ≤ cnt t → ∃ n, n ≤ hgt t ∧ Chain n (plug C (pins v t k)) (plug C (insert v t k)) := by
  induction t with
  | nil => intro C k _ _ _; exact ⟨0, Nat.zero_le _, .refl _⟩
  | node l x r ihl ihr =>
    intro C k hC ha hk
    obtain ⟨hl, hr, h1, h2⟩ := ha
    simp only [pins, insert, hgt]
    by_cases c : k ≤ cnt l
    · rw [if_pos c, if_pos c]
      obtain ⟨i1, i2, i3, _, _⟩ := insert_ok v l k hl c
      obtain ⟨n, hn, hc⟩ := ihl (.L x r :: C) k (sides_cons hr hC) hl c
      obtain ⟨m, hm, hc'⟩ := chain_rep C (insert v l k) x r hC i1 hr (by omega) (by omega)
      exact ⟨n + m, by omega, hc.trans hc'⟩
    · rw [if_neg c, if_neg c]
      simp only [cnt] at hk
      obtain ⟨i1, i2, i3, _, _⟩ := insert_ok v r (k - cnt l - 1) hr (by omega)
      obtain ⟨n, hn, hc⟩ := ihr (.R l x :: C) (k - cnt l - 1) (sides_cons hl hC) hr (by omega)
      obtain ⟨m, hm, hc'⟩ := chain_rep C l x (insert v r (k - cnt l - 1)) hC hl i1 (by omega) (by omega)
      exact ⟨n + m, by omega, hc.trans hc'⟩
def prem : Tr α → Nat → Tr α
  | nil, _ => nil
  | node l x r, k =>
    if k < cnt l then node (prem l k) x r
    else if cnt l < k then node l x (prem r (k - cnt l - 1))
    else pick l r ((first r).elim nil fun y => node l y (prem r 0))
theorem chain_rem (t : Tr α) : ∀ (C : List (Fr α)) (k : Nat), Sides C → Avl t → k < cnt t → ∃ n, n ≤ hgt t ∧ Chain n (plug C (prem t k)) (plug C (remove t k)) := by
  induction t with
  | nil => intro C k _ _ hk; simp [cnt] at hk
  | node l x r ihl ihr =>
    intro C k hC ha hk
    obtain ⟨hl, hr, h1, h2⟩ := ha
    simp only [prem, remove, hgt]
    by_cases c : k < cnt l
    · rw [if_pos c, if_pos c]
      obtain ⟨i1, i2, i3, _, _⟩ := remove_ok l k hl c
      obtain ⟨n, hn, hc⟩ := ihl (.L x r :: C) k (sides_cons hr hC) hl c
      obtain ⟨m, hm, hc'⟩ := chain_rep C (remove l k) x r hC i1 hr (by omega) (by omega)
      exact ⟨n + m, by omega, hc.trans hc'⟩
    · rw [if_neg c, if_neg c]
      by_cases c2 : cnt l < k
      · rw [if_pos c2, if_pos c2]
        simp only [cnt] at hk
        obtain ⟨i1, i2, i3, _, _⟩ := remove_ok r (k - cnt l - 1) hr (by omega)
        obtain ⟨n, hn, hc⟩ := ihr (.R l x :: C) (k - cnt l - 1) (sides_cons hl hC) hr (by omega)
        obtain ⟨m, hm, hc'⟩ := chain_rep C l x (remove r (k - cnt l - 1)) hC hl i1 (by omega) (by omega)
        exact ⟨n + m, by omega, hc.trans hc'⟩
      · rw [if_neg c2, if_neg c2]
        cases l with
        | nil => exact ⟨0, Nat.zero_le _, .refl _⟩
        | node a y b =>
          cases r with
          | nil => exact ⟨0, Nat.zero_le _, .refl _⟩
          | node p z q =>
            obtain ⟨f, _, hf, _⟩ := first_cons p z q
            simp only [hf, Option.elim_some, pick]
            obtain ⟨i1, i2, i3, _, _⟩ := remove_ok (node p z q) 0 hr (cnt_pos_of _ _ _)
            obtain ⟨n, hn, hc⟩ := ihr (.R (node a y b) f :: C) 0 (sides_cons hl hC) hr (cnt_pos_of _ _ _)
            obtain ⟨m, hm, hc'⟩ := chain_rep C (node a y b) f (remove (node p z q) 0) hC hl i1 (by omega) (by omega)
            exact ⟨n + m, by omega, hc.trans hc'⟩
def pjoin (a : Tr α) (v : α) (b : Tr α) : Tr α :=
  if hgt b + 1 < hgt a then
    match a with
    | node l x r => node l x (pjoin r v b)
    | nil => nil
  else if hgt a + 1 < hgt b then
    match b with
    | node l x r => node (pjoin a v l) x r
    | nil => nil
  else node a v b
termination_by cnt a + cnt b
decreasing_by all_goals (simp only [cnt]; omega)
theorem chain_join (n : Nat) : ∀ (C : List (Fr α)) (a : Tr α) (v : α) (b : Tr α), cnt a + cnt b ≤ n → Sides C → Avl a → Avl b → ∃ m, m ≤ cnt a + cnt b ∧ Chain m (plug C (pjoin a v b)) (plug C (joined a v b)) := by
  induction n with
  | zero =>
    intro C a v b hn _ ha hb
    unfold joined pjoin
    rw [if_neg (by have := hgt_le a; omega), if_neg (by have := hgt_le b; omega), if_neg (by have := hgt_le a; omega), if_neg (by have := hgt_le b; omega)]
    exact ⟨0, Nat.zero_le _, .refl _⟩
  | succ n ih =>
    intro C a v b hn hC ha hb
    unfold joined pjoin
    by_cases c : hgt b + 1 < hgt a
    · rw [if_pos c, if_pos c]
      match a, ha, c, hn with
      | node l x r, ha, c, hn =>
        obtain ⟨hl, hr, h1, h2⟩ := ha
        simp only [hgt] at c
        simp only [cnt] at hn ⊢
        obtain ⟨i1, i2, i3, _, _⟩ := joined_ok _ r v b (Nat.le_refl _) hr hb
        obtain ⟨m, hm, hc⟩ := ih (.R l x :: C) r v b (by omega) (sides_cons hl hC) hr hb
        obtain ⟨m', hm', hc'⟩ := chain_rep C l x (joined r v b) hC hl i1 (by omega) (by omega)
        exact ⟨m + m', by omega, hc.trans hc'⟩
    · rw [if_neg c, if_neg c]
      by_cases c2 : hgt a + 1 < hgt b
      · rw [if_pos c2, if_pos c2]
        match b, hb, c, c2, hn with
        | node l x r, hb, c, c2, hn =>
          obtain ⟨hl, hr, h1, h2⟩ := hb
          simp only [hgt] at c c2
          simp only [cnt] at hn ⊢
          obtain ⟨i1, i2, i3, _, _⟩ := joined_ok _ a v l (Nat.le_refl _) ha hl
          obtain ⟨m, hm, hc⟩ := ih (.L x r :: C) a v l (by omega) (sides_cons hr hC) ha hl
          obtain ⟨m', hm', hc'⟩ := chain_rep C (joined a v l) x r hC i1 hr (by omega) (by omega)
          exact ⟨m + m', by omega, hc.trans hc'⟩
      · rw [if_neg c2, if_neg c2]; exact ⟨0, Nat.zero_le _, .refl _⟩
-- the search for the deepest one out of balance
def scan : Tr α → Int → Nat → Option (Nat × Int) → Option (Nat × Int)
  | nil, _, _, w => w
  | node l _ r, k, p, w =>
    let w1 := scan l (k + 1) p w
    let w2 := if hgt l + 1 < hgt r ∨ hgt r + 1 < hgt l then (match w1 with | none => some (p + cnt l, k) | some (q, j) => if j < k then some (p + cnt l, k) else some (q, j)) else w1
    scan r (k + 1) (p + cnt l + 1) w2
theorem scan_avl (t : Tr α) : ∀ (k : Int) (p : Nat) (w : Option (Nat × Int)), Avl t → scan t k p w = w := by
  induction t with
  | nil => intro k p w _; rfl
  | node l v r ihl ihr =>
    intro k p w ha
    obtain ⟨hl, hr, h1, h2⟩ := ha
    simp only [scan]
    rw [ihl _ _ _ hl, if_neg (by omega), ihr _ _ _ hr]
def Low (w : Option (Nat × Int)) (k : Int) : Prop := ∀ q j, w = some (q, j) → j < k
def Hits (t : Tr α) (k : Int) (off : Nat) (k' : Int) : Prop := k ≤ k' ∧ ∀ p w, Low w k → scan t k p w = some (p + off, k')
theorem hits_here (l : Tr α) (v : α) (r : Tr α) (k : Int) (hl : Avl l) (hr : Avl r) (h : Off l r) : Hits (node l v r) k (cnt l) k := by
  refine ⟨Int.le_refl _, fun p w hw => ?_⟩
  simp only [scan]
  rw [scan_avl l _ _ _ hl, scan_avl r _ _ _ hr, if_pos (by unfold Off at h; omega)]
  cases w with
  | none => rfl
  | some x => obtain ⟨q, j⟩ := x; have := hw q j rfl; simp [this]
theorem hits_plug1 (f : Fr α) (t : Tr α) (k : Int) (off : Nat) (k' : Int) (hf : Avl (side f)) (h : Hits t k off k') :
    Hits (plug1 f t) (k - 1) (match f with | .L _ _ => off | .R l _ => cnt l + 1 + off) k' := by
  obtain ⟨h1, h2⟩ := h
  refine ⟨by omega, fun p w hw => ?_⟩
  have e1 : k - 1 + 1 = k := by omega
  cases f with
  | L v r =>
    simp only [plug1, scan, e1]
    rw [h2 p w (fun q j e => by have := hw q j e; omega), scan_avl r _ _ _ hf]
    dsimp only
    rw [if_neg (show ¬ k' < k - 1 by omega)]
    split <;> rfl
  | R l v =>
    simp only [plug1, scan, e1]
    rw [scan_avl l _ _ _ hf, h2]
    · congr 2; omega
    · intro q j e
      split at e
      · cases w with
        | none => simp only [Option.some.injEq, Prod.mk.injEq] at e; omega
        | some x =>
          obtain ⟨q', j'⟩ := x
          have := hw q' j' rfl
          dsimp only at e
          rw [if_pos this] at e
          simp only [Option.some.injEq, Prod.mk.injEq] at e; omega
      · have := hw q j e; omega
theorem hits_plug (C : List (Fr α)) : ∀ (t : Tr α) (k : Int) (off : Nat) (k' : Int), Sides C → Hits t k off k' → Hits (plug C t) (k - C.length) ((pre C k).length + off) k' := by
  induction C with
  | nil => intro t k off k' _ h; simpa [plug, pre] using h
  | cons f C ih =>
    intro t k off k' hC h
    have h1 := hits_plug1 f t k off k' (hC f (by simp)) h
    have h2 := ih (plug1 f t) (k - 1) _ k' (fun g hg => hC g (by simp [hg])) h1
    have e : k - ((f :: C).length : Int) = (k - 1) - C.length := by simp; omega
    rw [plug, e]
    cases f with
    | L v r => simpa [pre] using h2
    | R l v =>
      simp only at h2
      have e2 : (pre C (k - 1)).length + (cnt l + 1 + off) = (pre (.R l v :: C) k).length + off := by simp [pre, flat_length]; omega
      rw [e2] at h2; exact h2

-- the plain changes, told as lists
def lvl : Tr α → Nat → Int → Int
  | nil, _, j => j
  | node l _ r, k, j => if k ≤ cnt l then lvl l k (j + 1) else lvl r (k - cnt l - 1) (j + 1)
theorem lvl_ge (t : Tr α) : ∀ k j, j ≤ lvl t k j := by
  induction t with
  | nil => intro k j; simp [lvl]
  | node l v r ihl ihr =>
    intro k j; simp only [lvl]; split
    · have := ihl k (j + 1); omega
    · have := ihr (k - cnt l - 1) (j + 1); omega
theorem flat_pins (v : α) (t : Tr α) : ∀ k j, k ≤ cnt t → flat (pins v t k) j = (flat t j).take k ++ (v, lvl t k j) :: (flat t j).drop k := by
  induction t with
  | nil => intro k j _; simp [pins, flat, lvl]
  | node l x r ihl ihr =>
    intro k j hk
    simp only [pins, lvl]
    by_cases c : k ≤ cnt l
    · rw [if_pos c, if_pos c]
      simp only [flat]
      rw [ihl k (j + 1) c, List.take_append_of_le_length (by rw [flat_length]; exact c), List.drop_append_of_le_length (by rw [flat_length]; exact c)]
      simp
    · rw [if_neg c, if_neg c]
      simp only [cnt] at hk
      simp only [flat]
      rw [ihr (k - cnt l - 1) (j + 1) (by omega)]
      have e1 : k = (flat l (j + 1)).length + ((k - cnt l - 1) + 1) := by rw [flat_length]; omega
      rw [show (flat l (j + 1) ++ (x, j) :: flat r (j + 1)).take k = flat l (j + 1) ++ (x, j) :: (flat r (j + 1)).take (k - cnt l - 1) by
        conv => lhs; rw [e1]
        rw [List.take_length_add_append]; simp]
      rw [show (flat l (j + 1) ++ (x, j) :: flat r (j + 1)).drop k = (flat r (j + 1)).drop (k - cnt l - 1) by
        conv => lhs; rw [e1]
        rw [List.drop_length_add_append]; simp]
      simp
theorem lvl_right (t : Tr α) : ∀ k j x, (flat t j)[k]? = some x → x.2 + 1 ≤ lvl t k j := by
  induction t with
  | nil => intro k j x h; simp [flat] at h
  | node l v r ihl ihr =>
    intro k j x h
    simp only [flat] at h
    simp only [lvl]
    by_cases c : k ≤ cnt l
    · rw [if_pos c]
      by_cases c2 : k < cnt l
      · rw [List.getElem?_append_left (by rw [flat_length]; exact c2)] at h
        exact ihl k (j + 1) x h
      · rw [List.getElem?_append_right (by rw [flat_length]; omega), flat_length, show k - cnt l = 0 by omega] at h
        simp only [List.getElem?_cons_zero, Option.some.injEq] at h
        subst h
        have := lvl_ge l k (j + 1); dsimp only; omega
    · rw [if_neg c]
      rw [List.getElem?_append_right (by rw [flat_length]; omega), flat_length] at h
      obtain ⟨m, hm⟩ : ∃ m, k - cnt l = m + 1 := ⟨k - cnt l - 1, by omega⟩
      rw [hm, List.getElem?_cons_succ] at h
      rw [show k - cnt l - 1 = m by omega]
      exact ihr m (j + 1) x h
theorem lvl_left (t : Tr α) : ∀ k j x, (flat t j)[k]? = some x → x.2 + 1 ≤ lvl t (k + 1) j := by
  induction t with
  | nil => intro k j x h; simp [flat] at h
  | node l v r ihl ihr =>
    intro k j x h
    simp only [flat] at h
    simp only [lvl]
    by_cases c : k + 1 ≤ cnt l
    · rw [if_pos c]
      rw [List.getElem?_append_left (by rw [flat_length]; omega)] at h
      exact ihl k (j + 1) x h
    · rw [if_neg c]
      rw [List.getElem?_append_right (by rw [flat_length]; omega), flat_length] at h
      by_cases c2 : k = cnt l
      · rw [c2, Nat.sub_self, List.getElem?_cons_zero] at h
        simp only [Option.some.injEq] at h
        subst h
        have := lvl_ge r (k + 1 - cnt l - 1) (j + 1); dsimp only; omega
      · obtain ⟨m, hm⟩ : ∃ m, k - cnt l = m + 1 := ⟨k - cnt l - 1, by omega⟩
        rw [hm, List.getElem?_cons_succ] at h
        rw [show k + 1 - cnt l - 1 = m + 1 by omega]
        exact ihr m (j + 1) x h
theorem lvl_some (t : Tr α) : ∀ k j, k ≤ cnt t → 0 < cnt t → (∃ x, (flat t j)[k]? = some x ∧ x.2 + 1 = lvl t k j) ∨ (∃ m x, k = m + 1 ∧ (flat t j)[m]? = some x ∧ x.2 + 1 = lvl t k j) := by
  induction t with
  | nil => intro k j _ h; simp [cnt] at h
  | node l v r ihl ihr =>
    intro k j hk _
    simp only [flat, lvl]
    by_cases c : k ≤ cnt l
    · rw [if_pos c]
      by_cases cl : 0 < cnt l
      · rcases ihl k (j + 1) c cl with ⟨x, hx, e⟩ | ⟨m, x, rfl, hx, e⟩
        · have hlt : k < cnt l := by have := (List.getElem?_eq_some_iff.1 hx).1; rwa [flat_length] at this
          exact Or.inl ⟨x, by rw [List.getElem?_append_left (by rw [flat_length]; exact hlt)]; exact hx, e⟩
        · exact Or.inr ⟨m, x, rfl, by rw [List.getElem?_append_left (by rw [flat_length]; omega)]; exact hx, e⟩
      · have hl : l = nil := by cases l with | nil => rfl | node a y b => simp [cnt] at cl
        subst hl
        have : k = 0 := by simp only [cnt] at c; omega
        subst this
        exact Or.inl ⟨(v, j), by simp [flat], by simp [lvl]⟩
    · rw [if_neg c]
      simp only [cnt] at hk
      obtain ⟨m, hm⟩ : ∃ m, k = cnt l + 1 + m := ⟨k - cnt l - 1, by omega⟩
      have e1 : k - cnt l - 1 = m := by omega
      rw [e1]
      by_cases cr : 0 < cnt r
      · rcases ihr m (j + 1) (by omega) cr with ⟨x, hx, e⟩ | ⟨q, x, hq, hx, e⟩
        · refine Or.inl ⟨x, ?_, e⟩
          rw [List.getElem?_append_right (by rw [flat_length]; omega), flat_length, show k - cnt l = m + 1 by omega, List.getElem?_cons_succ]; exact hx
        · refine Or.inr ⟨k - 1, x, by omega, ?_, e⟩
          rw [List.getElem?_append_right (by rw [flat_length]; omega), flat_length, show k - 1 - cnt l = q + 1 by omega, List.getElem?_cons_succ]; exact hx
      · have hl : r = nil := by cases r with | nil => rfl | node a y b => simp [cnt] at cr
        subst hl
        have : m = 0 := by simp only [cnt] at hk; omega
        subst this
        refine Or.inr ⟨cnt l, (v, j), by omega, ?_, by simp [lvl]⟩
        rw [List.getElem?_append_right (by rw [flat_length]; omega), flat_length, Nat.sub_self]; rfl
/-- the node of a rank, and what taking it away without repair does -/
def delRoot (l : Tr α) (r : Tr α) : Tr α := pick l r ((first r).elim nil fun y => node l y (prem r 0))
theorem at_rank (t : Tr α) : ∀ (C : List (Fr α)) (k : Nat) (j : Int), k < cnt t → ∃ (D : List (Fr α)) (l : Tr α) (x : α) (r : Tr α) (i : Int), plug C t = plug D (node l x r) ∧ plug C (prem t k) = plug D (delRoot l r) ∧
    (pre D i).length + cnt l = (pre C j).length + k ∧ i - D.length = j - C.length := by
  induction t with
  | nil => intro C k j h; simp [cnt] at h
  | node l x r ihl ihr =>
    intro C k j h
    simp only [prem]
    by_cases c : k < cnt l
    · rw [if_pos c]
      obtain ⟨D, a, y, b, i, h1, h2, h3, h4⟩ := ihl (.L x r :: C) k (j + 1) c
      refine ⟨D, a, y, b, i, h1, h2, ?_, ?_⟩
      · rw [h3]; simp [pre]
      · rw [h4]; simp; omega
    · rw [if_neg c]
      by_cases c2 : cnt l < k
      · rw [if_pos c2]
        simp only [cnt] at h
        obtain ⟨D, a, y, b, i, h1, h2, h3, h4⟩ := ihr (.R l x :: C) (k - cnt l - 1) (j + 1) (by omega)
        refine ⟨D, a, y, b, i, h1, h2, ?_, ?_⟩
        · rw [h3]; simp [pre, flat_length]; omega
        · rw [h4]; simp; omega
      · rw [if_neg c2]
        exact ⟨C, l, x, r, j, rfl, rfl, by omega, rfl⟩
theorem at_first (t : Tr α) : ∀ (C : List (Fr α)) (j : Int), 0 < cnt t → ∃ (D : List (Fr α)) (y : α) (r : Tr α) (i : Int), plug C t = plug D (node nil y r) ∧ plug C (prem t 0) = plug D r ∧ first t = some y ∧
    pre D i = pre C j ∧ i - D.length = j - C.length ∧ j ≤ i := by
  induction t with
  | nil => intro C j h; simp [cnt] at h
  | node l x r ihl _ =>
    intro C j h
    cases l with
    | nil => exact ⟨C, x, r, j, rfl, by simp [prem, cnt, pick], rfl, rfl, rfl, Int.le_refl _⟩
    | node a z b =>
      obtain ⟨D, y, r', i, h1, h2, h3, h4, h5, h6⟩ := ihl (.L x r :: C) (j + 1) (cnt_pos_of _ _ _)
      refine ⟨D, y, r', i, h1, ?_, h3, ?_, ?_, by omega⟩
      · rw [← h2]; simp [prem, cnt, plug, plug1]
      · rw [h4]; simp [pre]
      · rw [h5]; simp; omega

def up (d : Int) (xs : List (α × Int)) : List (α × Int) := xs.map fun x => (x.1, x.2 + d)
theorem up_length (d : Int) (xs : List (α × Int)) : (up d xs).length = xs.length := by simp [up]
theorem flat_up (d : Int) (t : Tr α) : ∀ k, flat t (k + d) = up d (flat t k) := by
  induction t with
  | nil => intro k; rfl
  | node l v r ihl ihr =>
    intro k
    have e : k + d + 1 = k + 1 + d := by omega
    simp only [flat, e, ihl, ihr, up, List.map_append, List.map_cons]
def jr (hb : Nat) : Tr α → Nat × Int
  | nil => (0, 0)
  | node l v r => if hb + 1 < hgt (node l v r) then (cnt l + 1 + (jr hb r).1, 1 + (jr hb r).2) else (0, 0)
theorem flat_pjoin_r (v : α) (b : Tr α) (t : Tr α) : ∀ j, Avl t → hgt b ≤ hgt t + 1 →
    flat (pjoin t v b) j = (flat t j).take (jr (hgt b) t).1 ++ (up 1 ((flat t j).drop (jr (hgt b) t).1) ++ (v, j + (jr (hgt b) t).2) :: flat b (j + (jr (hgt b) t).2 + 1)) := by
  induction t with
  | nil =>
    intro j _ h
    have h0 : hgt (nil : Tr α) = 0 := rfl
    unfold pjoin
    rw [if_neg (by omega), if_neg (by omega)]
    simp [flat, jr, up]
  | node l x r _ ihr =>
    intro j ha h
    obtain ⟨hl, hr, h1, h2⟩ := ha
    unfold pjoin
    simp only [jr]
    by_cases c : hgt b + 1 < hgt (node l x r)
    · rw [if_pos c, if_pos c]
      simp only [flat]
      simp only [hgt] at c h
      rw [ihr (j + 1) hr (by omega)]
      have e1 : cnt l + 1 + (jr (hgt b) r).1 = (flat l (j + 1)).length + ((jr (hgt b) r).1 + 1) := by rw [flat_length]; omega
      rw [e1, List.take_length_add_append, List.drop_length_add_append, List.take_succ_cons, List.drop_succ_cons]
      have e2 : j + (1 + (jr (hgt b) r).2) = j + 1 + (jr (hgt b) r).2 := by omega
      rw [e2]; simp
    · rw [if_neg c, if_neg c, if_neg (by omega)]
      simp only [flat, List.take_zero, List.drop_zero, List.nil_append]
      have e := flat_up 1 (node l x r) j
      simp only [flat] at e
      simp only [Int.add_zero]
      rw [← e]
def jl (ha : Nat) : Tr α → Nat × Int
  | nil => (0, 0)
  | node l v r => if ha + 1 < hgt (node l v r) then ((jl ha l).1, 1 + (jl ha l).2) else (cnt (node l v r), 0)
theorem jl_le (ha : Nat) (t : Tr α) : (jl ha t).1 ≤ cnt t := by
  induction t with
  | nil => simp [jl]
  | node l v r ihl _ => simp only [jl]; split <;> simp only [cnt]; omega; omega
theorem jr_le (hb : Nat) (t : Tr α) : (jr hb t).1 ≤ cnt t := by
  induction t with
  | nil => simp [jr]
  | node l v r _ ihr => simp only [jr]; split <;> simp only [cnt]; omega; omega
theorem flat_pjoin_l (a : Tr α) (v : α) (t : Tr α) : ∀ j, Avl t → hgt a ≤ hgt t + 1 →
    flat (pjoin a v t) j = flat a (j + (jl (hgt a) t).2 + 1) ++ (v, j + (jl (hgt a) t).2) :: (up 1 ((flat t j).take (jl (hgt a) t).1) ++ (flat t j).drop (jl (hgt a) t).1) := by
  induction t with
  | nil =>
    intro j _ h
    have h0 : hgt (nil : Tr α) = 0 := rfl
    unfold pjoin
    rw [if_neg (by omega), if_neg (by omega)]
    simp [flat, jl, up]
  | node l x r ihl _ =>
    intro j ha h
    obtain ⟨hl, hr, h1, h2⟩ := ha
    unfold pjoin
    simp only [jl]
    by_cases c : hgt a + 1 < hgt (node l x r)
    · rw [if_neg (by omega), if_pos c, if_pos c]
      simp only [flat]
      simp only [hgt] at c h
      rw [ihl (j + 1) hl (by omega)]
      have e2 : j + (1 + (jl (hgt a) l).2) = j + 1 + (jl (hgt a) l).2 := by omega
      rw [e2, List.take_append_of_le_length (by rw [flat_length]; exact jl_le _ _), List.drop_append_of_le_length (by rw [flat_length]; exact jl_le _ _)]
      simp
    · rw [if_neg (by omega), if_neg c, if_neg c]
      have e := flat_up 1 (node l x r) j
      rw [List.take_of_length_le (by rw [flat_length]; exact Nat.le_refl _), List.drop_of_length_le (by rw [flat_length]; exact Nat.le_refl _)]
      simp only [Int.add_zero]
      rw [← e]
      simp [flat]
/-- the levels of a stretch that is one subtree fix the tree -/
theorem flat_inj (t : Tr α) : ∀ (s : Tr α) (j : Int), flat t j = flat s j → t = s := by
  induction t with
  | nil => intro s j h; cases s with | nil => rfl | node l v r => simp [flat] at h
  | node l v r ihl ihr =>
    intro s j h
    cases s with
    | nil => simp [flat] at h
    | node l' v' r' =>
      simp only [flat] at h
      have key : ∀ (xs ys xs' ys' : List (α × Int)) (a b : α), (∀ x ∈ xs, j < x.2) → (∀ x ∈ xs', j < x.2) → xs ++ (a, j) :: ys = xs' ++ (b, j) :: ys' → xs = xs' ∧ a = b ∧ ys = ys' := by
        intro xs
        induction xs with
        | nil =>
          intro ys xs' ys' a b _ h2 h
          cases xs' with
          | nil => simp at h; exact ⟨rfl, h.1, h.2⟩
          | cons x t =>
            simp only [List.nil_append, List.cons_append, List.cons.injEq] at h
            have := h2 x (by simp)
            rw [← h.1] at this; dsimp only at this; omega
        | cons x t ih =>
          intro ys xs' ys' a b h1 h2 h
          cases xs' with
          | nil =>
            simp only [List.nil_append, List.cons_append, List.cons.injEq] at h
            have := h1 x (by simp)
            rw [h.1] at this; dsimp only at this; omega
          | cons y u =>
            simp only [List.cons_append, List.cons.injEq] at h
            obtain ⟨e1, e2, e3⟩ := ih ys u ys' a b (fun z hz => h1 z (by simp [hz])) (fun z hz => h2 z (by simp [hz])) h.2
            exact ⟨by rw [h.1, e1], e2, e3⟩
      obtain ⟨e1, e2, e3⟩ := key _ _ _ _ _ _ (fun x hx => by have := flat_lev l (j + 1) x hx; omega) (fun x hx => by have := flat_lev l' (j + 1) x hx; omega) h
      rw [ihl l' (j + 1) e1, ihr r' (j + 1) e3, e2]
-- levels, read by the place
def lv (L : List (α × Int)) (i : Nat) : Int := match L[i]? with | some x => x.2 | none => 0
theorem lv_left (A B : List (α × Int)) (i : Nat) (h : i < A.length) : lv (A ++ B) i = lv A i := by
  unfold lv; rw [List.getElem?_append_left h]
theorem lv_right (A B : List (α × Int)) (i : Nat) (h : A.length ≤ i) : lv (A ++ B) i = lv B (i - A.length) := by
  unfold lv; rw [List.getElem?_append_right h]
theorem lv_cons_zero (x : α × Int) (B : List (α × Int)) : lv (x :: B) 0 = x.2 := rfl
theorem lv_cons_succ (x : α × Int) (B : List (α × Int)) (i : Nat) : lv (x :: B) (i + 1) = lv B i := rfl
theorem lv_mem (L : List (α × Int)) (i : Nat) (h : i < L.length) : ∃ x ∈ L, lv L i = x.2 := ⟨L[i], List.getElem_mem h, by unfold lv; rw [List.getElem?_eq_getElem h]⟩
theorem lv_node (l : Tr α) (v : α) (r : Tr α) (k : Int) (i : Nat) : lv (flat (node l v r) k) i = if i < cnt l then lv (flat l (k + 1)) i else if i = cnt l then k else lv (flat r (k + 1)) (i - cnt l - 1) := by
  simp only [flat]
  by_cases c : i < cnt l
  · rw [if_pos c, lv_left _ _ _ (by rw [flat_length]; exact c)]
  · rw [if_neg c, lv_right _ _ _ (by rw [flat_length]; omega), flat_length]
    by_cases c2 : i = cnt l
    · rw [if_pos c2, c2, Nat.sub_self]; rfl
    · rw [if_neg c2, show i - cnt l = (i - cnt l - 1) + 1 by omega]; rfl
theorem lv_flat_bound (t : Tr α) (k : Int) (i : Nat) (h : i < cnt t) : k ≤ lv (flat t k) i ∧ lv (flat t k) i < k + hgt t := by
  obtain ⟨x, hx, e⟩ := lv_mem (flat t k) i (by rw [flat_length]; exact h)
  rw [e]; exact flat_lev t k x hx
theorem lv_flat_up (t : Tr α) (k d : Int) (i : Nat) (h : i < cnt t) : lv (flat t (k + d)) i = lv (flat t k) i + d := by
  have h' : i < (flat t k).length := by rw [flat_length]; exact h
  rw [flat_up]; unfold lv up; rw [List.getElem?_map, List.getElem?_eq_getElem h']; rfl
theorem lv_flat_max (t : Tr α) : ∀ k, 0 < cnt t → ∃ i, i < cnt t ∧ lv (flat t k) i = k + hgt t - 1 := by
  induction t with
  | nil => intro k h; simp [cnt] at h
  | node l v r ihl ihr =>
    intro k _
    simp only [cnt, hgt]
    by_cases c : hgt r ≤ hgt l
    · by_cases c0 : 0 < cnt l
      · obtain ⟨i, hi, e⟩ := ihl (k + 1) c0
        refine ⟨i, by omega, ?_⟩
        rw [lv_node, if_pos hi, e]; omega
      · have h0 : hgt l = 0 := by have := hgt_le l; omega
        refine ⟨cnt l, by omega, ?_⟩
        rw [lv_node, if_neg (by omega), if_pos rfl]; omega
    · have c0 : 0 < cnt r := by have := hgt_le r; omega
      obtain ⟨i, hi, e⟩ := ihr (k + 1) c0
      refine ⟨cnt l + 1 + i, by omega, ?_⟩
      rw [lv_node, if_neg (by omega), if_neg (by omega), show cnt l + 1 + i - cnt l - 1 = i by omega, e]; omega
/-- a list with one subtree t of level k in it -/
structure Seg (L A : List (α × Int)) (t : Tr α) (k : Int) (B : List (α × Int)) : Prop where
  eq : L = A ++ flat t k ++ B
  pre : ∀ x, A.getLast? = some x → x.2 < k
  post : ∀ x, B.head? = some x → x.2 < k
theorem Seg.len {L A B : List (α × Int)} {t : Tr α} {k : Int} (h : Seg L A t k B) : L.length = A.length + cnt t + B.length := by
  rw [h.eq, List.length_append, List.length_append, flat_length]
theorem Seg.lv {L A B : List (α × Int)} {t : Tr α} {k : Int} (h : Seg L A t k B) (i : Nat) (hi : i < cnt t) : TP.lv L (A.length + i) = TP.lv (flat t k) i := by
  rw [h.eq, lv_left _ _ _ (by rw [List.length_append, flat_length]; omega), lv_right _ _ _ (by omega), Nat.add_sub_cancel_left]
theorem Seg.before {L A B : List (α × Int)} {t : Tr α} {k : Int} (h : Seg L A t k B) (h0 : 0 < A.length) : TP.lv L (A.length - 1) < k := by
  rw [h.eq, List.append_assoc, lv_left _ _ _ (by omega)]
  unfold TP.lv
  have e : A[A.length - 1]? = A.getLast? := by rw [List.getLast?_eq_getElem?]
  rw [e]
  cases hx : A.getLast? with
  | none => rw [List.getLast?_eq_none_iff] at hx; subst hx; simp at h0
  | some x => exact h.pre x hx
theorem Seg.behind {L A B : List (α × Int)} {t : Tr α} {k : Int} (h : Seg L A t k B) (h0 : A.length + cnt t < L.length) : TP.lv L (A.length + cnt t) < k := by
  have hl := h.len
  rw [h.eq, lv_right _ _ _ (by rw [List.length_append, flat_length]; omega), List.length_append, flat_length, Nat.sub_self]
  unfold TP.lv
  cases hB : B with
  | nil => rw [hB] at hl; simp at hl; omega
  | cons x B' => exact h.post x (by rw [hB]; rfl)
theorem Seg.left {L A B : List (α × Int)} {l r : Tr α} {v : α} {k : Int} (h : Seg L A (node l v r) k B) : Seg L A l (k + 1) ((v, k) :: flat r (k + 1) ++ B) :=
  ⟨by rw [h.eq]; simp [flat], fun x hx => by have := h.pre x hx; omega, fun x hx => by simp only [List.cons_append, List.head?_cons, Option.some.injEq] at hx; subst hx; dsimp only; omega⟩
theorem Seg.right {L A B : List (α × Int)} {l r : Tr α} {v : α} {k : Int} (h : Seg L A (node l v r) k B) : Seg L (A ++ (flat l (k + 1) ++ [(v, k)])) r (k + 1) B :=
  ⟨by rw [h.eq]; simp [flat], fun x hx => by simp only [List.getLast?_append, List.getLast?_singleton, Option.some_or, Option.some.injEq] at hx; subst hx; dsimp only; omega, fun x hx => by have := h.post x hx; omega⟩
theorem Seg.of_plug (C : List (Fr α)) (t : Tr α) (k : Int) : Seg (flat (plug C t) (k - C.length)) (TP.pre C k) t k (TP.post C k) :=
  ⟨flat_plug C t k, pre_last C k, post_head C k⟩
theorem Seg.root {L A B : List (α × Int)} {l r : Tr α} {v : α} {k : Int} (h : Seg L A (node l v r) k B) : TP.lv L (A.length + cnt l) = k := by
  rw [h.lv _ (by simp only [cnt]; omega), lv_node, if_neg (by omega), if_pos rfl]
theorem Seg.inL {L A B : List (α × Int)} {l r : Tr α} {v : α} {k : Int} (h : Seg L A (node l v r) k B) (j : Nat) (h1 : A.length ≤ j) (h2 : j < A.length + cnt l) : k < TP.lv L j := by
  have := h.left.lv (j - A.length) (by omega)
  rw [show A.length + (j - A.length) = j by omega] at this
  rw [this]
  have := lv_flat_bound l (k + 1) (j - A.length) (by omega); omega
theorem Seg.inR {L A B : List (α × Int)} {l r : Tr α} {v : α} {k : Int} (h : Seg L A (node l v r) k B) (j : Nat) (h1 : A.length + cnt l < j) (h2 : j < A.length + cnt l + 1 + cnt r) : k < TP.lv L j := by
  have hl : (A ++ (flat l (k + 1) ++ [(v, k)])).length = A.length + cnt l + 1 := by simp [flat_length]; omega
  have := h.right.lv (j - (A.length + cnt l + 1)) (by omega)
  rw [hl, show A.length + cnt l + 1 + (j - (A.length + cnt l + 1)) = j by omega] at this
  rw [this]
  have := lv_flat_bound r (k + 1) (j - (A.length + cnt l + 1)) (by omega); omega
/-- the height of a stretch, by its least and its highest level -/
def Hgt (L : List (α × Int)) (lo hi : Nat) (h : Nat) : Prop := (hi ≤ lo ∧ h = 0) ∨ (lo < hi ∧ 1 ≤ h ∧ ∃ m : Int, (∀ j, lo ≤ j → j < hi → m ≤ lv L j ∧ lv L j ≤ m + h - 1) ∧ (∃ j, lo ≤ j ∧ j < hi ∧ lv L j = m) ∧ (∃ j, lo ≤ j ∧ j < hi ∧ lv L j = m + h - 1))
theorem Seg.hgt {L A B : List (α × Int)} {t : Tr α} {k : Int} (h : Seg L A t k B) : Hgt L A.length (A.length + cnt t) (TP.hgt t) := by
  cases t with
  | nil => exact .inl ⟨by simp [cnt], rfl⟩
  | node l v r =>
    refine .inr ⟨by simp only [cnt]; omega, by simp only [TP.hgt]; omega, k, fun j h1 h2 => ?_, ⟨A.length + cnt l, by omega, by simp only [cnt]; omega, h.root⟩, ?_⟩
    · have e := h.lv (j - A.length) (by omega)
      rw [show A.length + (j - A.length) = j by omega] at e
      have := lv_flat_bound (node l v r) k (j - A.length) (by omega)
      rw [e]; omega
    · obtain ⟨i, hi, e⟩ := lv_flat_max (node l v r) k (by simp only [cnt]; omega)
      exact ⟨A.length + i, by omega, by omega, by rw [h.lv i hi, e]⟩
theorem ext_lv {L L' : List (α × Int)} (h1 : L.map Prod.fst = L'.map Prod.fst) (h2 : ∀ j, j < L.length → lv L j = lv L' j) : L = L' := by
  have hl : L.length = L'.length := by have := congrArg List.length h1; simpa using this
  refine List.ext_getElem hl fun j a b => ?_
  have e1 := h2 j a
  unfold lv at e1
  rw [List.getElem?_eq_getElem a, List.getElem?_eq_getElem b] at e1
  have e2 : (L.map Prod.fst)[j]'(by simpa using a) = (L'.map Prod.fst)[j]'(by simpa using b) := by simp only [h1]
  simp only [List.getElem_map] at e2
  exact Prod.ext e2 e1
/-- a turn to the right, told by the places -/
theorem turn_right {L L' A B : List (α × Int)} {a b r : Tr α} {x v : α} {k : Int} (h : Seg L A (node (node a x b) v r) k B) (h1 : L'.map Prod.fst = L.map Prod.fst)
    (h2 : ∀ j, j < L.length → lv L' j = if j = A.length + cnt a + 1 + cnt b then k + 1 else if j = A.length + cnt a then k else if A.length ≤ j ∧ j < A.length + (cnt a + 1 + cnt b) + 1 + cnt r then lv L j - (if j < A.length + cnt a then 1 else 0) + (if A.length + cnt a + 1 + cnt b < j then 1 else 0) else lv L j) :
    L' = A ++ flat (node a x (node b v r)) k ++ B := by
  have hlen := h.len
  simp only [cnt] at hlen
  have hl' : L'.length = L.length := by have := congrArg List.length h1; simpa using this
  have hT : (A ++ flat (node a x (node b v r)) k ++ B).length = L.length := by simp only [List.length_append, flat_length, cnt]; omega
  refine ext_lv ?_ (fun j hj => ?_)
  · rw [h1, h.eq]; simp [flat]
    have e : ∀ (t : Tr α) (p q : Int), (flat t p).map Prod.fst = (flat t q).map Prod.fst := fun t p q => by rw [flat_toL, flat_toL]
    rw [e a (k + 1 + 1) (k + 1), e b (k + 1 + 1) (k + 1 + 1), e r (k + 1) (k + 1 + 1)]
  · rw [h2 j (by omega)]
    have hs := h.lv (j - A.length)
    by_cases c0 : j < A.length
    · rw [if_neg (by omega), if_neg (by omega), if_neg (by omega), h.eq, List.append_assoc, List.append_assoc, lv_left _ _ _ c0, lv_left _ _ _ c0]
    by_cases c1 : j < A.length + (cnt a + 1 + cnt b) + 1 + cnt r
    · have e : lv (A ++ flat (node a x (node b v r)) k ++ B) j = lv (flat (node a x (node b v r)) k) (j - A.length) := by
        rw [lv_left _ _ _ (by simp only [List.length_append, flat_length, cnt]; omega), lv_right _ _ _ (by omega)]
      rw [e]
      obtain ⟨i, rfl⟩ : ∃ i, j = A.length + i := ⟨j - A.length, by omega⟩
      rw [Nat.add_sub_cancel_left] at hs ⊢
      rw [hs (by simp only [cnt]; omega), if_pos (show A.length ≤ A.length + i ∧ A.length + i < A.length + (cnt a + 1 + cnt b) + 1 + cnt r by omega)]
      rw [lv_node, lv_node, lv_node, lv_node]
      have hcn : cnt (node a x b) = cnt a + cnt b + 1 := rfl
      by_cases d1 : i < cnt a
      · rw [if_neg (by omega), if_neg (by omega), if_pos (show i < cnt (node a x b) by omega), if_pos d1, if_pos d1, if_pos (by omega), if_neg (by omega), lv_flat_up a (k + 1) 1 i d1]; omega
      by_cases d2 : i = cnt a
      · rw [if_neg (by omega), if_pos (by omega), if_neg d1, if_pos d2]
      by_cases d3 : i < cnt a + 1 + cnt b
      · rw [if_neg (by omega), if_neg (by omega), if_pos (show i < cnt (node a x b) by omega), if_neg d1, if_neg d2, if_neg (by omega), if_neg (by omega), if_neg d1, if_neg d2, if_pos (by omega)]; omega
      by_cases d4 : i = cnt a + 1 + cnt b
      · rw [if_pos (by omega), if_neg d1, if_neg d2, if_neg (by omega), if_pos (by omega)]
      · rw [if_neg (by omega), if_neg (by omega), if_neg (show ¬ i < cnt (node a x b) by omega), if_neg (show ¬ i = cnt (node a x b) by omega), if_neg (by omega), if_pos (by omega), if_neg d1, if_neg d2, if_neg (by omega), if_neg (by omega), lv_flat_up r (k + 1) 1 _ (by omega),
          show i - cnt (node a x b) - 1 = i - cnt a - 1 - cnt b - 1 by omega]; omega
    · rw [if_neg (by omega), if_neg (by omega), if_neg (by omega), h.eq, lv_right _ _ _ (by simp only [List.length_append, flat_length, cnt]; omega), lv_right _ _ _ (by simp only [List.length_append, flat_length, cnt]; omega)]
      simp only [List.length_append, flat_length, cnt]
      congr 1; omega
theorem turn_left {L L' A B : List (α × Int)} {a b l : Tr α} {x v : α} {k : Int} (h : Seg L A (node l v (node a x b)) k B) (h1 : L'.map Prod.fst = L.map Prod.fst)
    (h2 : ∀ j, j < L.length → lv L' j = if j = A.length + cnt l then k + 1 else if j = A.length + cnt l + 1 + cnt a then k else if A.length ≤ j ∧ j < A.length + cnt l + 1 + (cnt a + 1 + cnt b) then lv L j - (if A.length + cnt l + 1 + cnt a < j then 1 else 0) + (if j < A.length + cnt l then 1 else 0) else lv L j) :
    L' = A ++ flat (node (node l v a) x b) k ++ B := by
  have hlen := h.len
  simp only [cnt] at hlen
  have hl' : L'.length = L.length := by have := congrArg List.length h1; simpa using this
  have hT : (A ++ flat (node (node l v a) x b) k ++ B).length = L.length := by simp only [List.length_append, flat_length, cnt]; omega
  refine ext_lv ?_ (fun j hj => ?_)
  · rw [h1, h.eq]; simp [flat]
    have e : ∀ (t : Tr α) (p q : Int), (flat t p).map Prod.fst = (flat t q).map Prod.fst := fun t p q => by rw [flat_toL, flat_toL]
    rw [e l (k + 1) (k + 1 + 1), e b (k + 1 + 1) (k + 1)]
  · rw [h2 j (by omega)]
    have hs := h.lv (j - A.length)
    by_cases c0 : j < A.length
    · rw [if_neg (by omega), if_neg (by omega), if_neg (by omega), h.eq, List.append_assoc, List.append_assoc, lv_left _ _ _ c0, lv_left _ _ _ c0]
    by_cases c1 : j < A.length + cnt l + 1 + (cnt a + 1 + cnt b)
    · have e : lv (A ++ flat (node (node l v a) x b) k ++ B) j = lv (flat (node (node l v a) x b) k) (j - A.length) := by
        rw [lv_left _ _ _ (by simp only [List.length_append, flat_length, cnt]; omega), lv_right _ _ _ (by omega)]
      rw [e]
      obtain ⟨i, rfl⟩ : ∃ i, j = A.length + i := ⟨j - A.length, by omega⟩
      rw [Nat.add_sub_cancel_left] at hs ⊢
      rw [hs (by simp only [cnt]; omega), if_pos (show A.length ≤ A.length + i ∧ A.length + i < A.length + cnt l + 1 + (cnt a + 1 + cnt b) by omega)]
      rw [lv_node, lv_node, lv_node, lv_node]
      have hcn : cnt (node l v a) = cnt l + cnt a + 1 := rfl
      by_cases d1 : i < cnt l
      · rw [if_neg (by omega), if_neg (by omega), if_pos d1, if_pos (show i < cnt (node l v a) by omega), if_pos d1, if_neg (by omega), if_pos (by omega), lv_flat_up l (k + 1) 1 i d1]; omega
      by_cases d2 : i = cnt l
      · rw [if_pos (by omega), if_pos (show i < cnt (node l v a) by omega), if_neg d1, if_pos d2]
      by_cases d3 : i < cnt l + 1 + cnt a
      · rw [if_neg (by omega), if_neg (by omega), if_neg d1, if_neg d2, if_pos (by omega), if_neg (by omega), if_neg (by omega), if_pos (show i < cnt (node l v a) by omega), if_neg d1, if_neg d2]; omega
      by_cases d4 : i = cnt l + 1 + cnt a
      · rw [if_neg (by omega), if_pos (by omega), if_neg (show ¬ i < cnt (node l v a) by omega), if_pos (show i = cnt (node l v a) by omega)]
      · rw [if_neg (by omega), if_neg (by omega), if_neg d1, if_neg d2, if_neg (by omega), if_neg (by omega), if_pos (by omega), if_neg (by omega), if_neg (show ¬ i < cnt (node l v a) by omega), if_neg (show ¬ i = cnt (node l v a) by omega), lv_flat_up b (k + 1) 1 _ (by omega),
          show i - cnt (node l v a) - 1 = i - cnt l - 1 - cnt a - 1 by omega]; omega
    · rw [if_neg (by omega), if_neg (by omega), if_neg (by omega), h.eq, lv_right _ _ _ (by simp only [List.length_append, flat_length, cnt]; omega), lv_right _ _ _ (by simp only [List.length_append, flat_length, cnt]; omega)]
      simp only [List.length_append, flat_length, cnt]
      congr 1; omega
theorem map_fst_flat (t : Tr α) (p q : Int) : (flat t p).map Prod.fst = (flat t q).map Prod.fst := by rw [flat_toL, flat_toL]
/-- one node out, all others of its subtree one level up -/
theorem adj_del {L L' A B : List (α × Int)} {l r : Tr α} {v : α} {k : Int} (h : Seg L A (node l v r) k B) (h1 : L'.map Prod.fst = L.map Prod.fst)
    (h2 : ∀ j, j < L.length → lv L' j = if A.length ≤ j ∧ j < A.length + (cnt l + cnt r + 1) ∧ j ≠ A.length + cnt l then lv L j - 1 else lv L j) :
    L' = A ++ (flat l k ++ (v, k) :: flat r k) ++ B := by
  have hlen := h.len
  simp only [cnt] at hlen
  have hl' : L'.length = L.length := by have := congrArg List.length h1; simpa using this
  have hT : (A ++ (flat l k ++ (v, k) :: flat r k) ++ B).length = L.length := by simp only [List.length_append, List.length_cons, flat_length]; omega
  refine ext_lv ?_ (fun j hj => ?_)
  · rw [h1, h.eq]; simp [flat]
    rw [map_fst_flat l (k + 1) k, map_fst_flat r (k + 1) k]
  · rw [h2 j (by omega)]
    have hs := h.lv (j - A.length)
    by_cases c0 : j < A.length
    · rw [if_neg (by omega), h.eq, List.append_assoc, List.append_assoc, lv_left _ _ _ c0, lv_left _ _ _ c0]
    by_cases c1 : j < A.length + (cnt l + cnt r + 1)
    · have e : lv (A ++ (flat l k ++ (v, k) :: flat r k) ++ B) j = lv (flat l k ++ (v, k) :: flat r k) (j - A.length) := by
        rw [lv_left _ _ _ (by simp only [List.length_append, List.length_cons, flat_length]; omega), lv_right _ _ _ (by omega)]
      rw [e]
      obtain ⟨i, rfl⟩ : ∃ i, j = A.length + i := ⟨j - A.length, by omega⟩
      rw [Nat.add_sub_cancel_left] at hs ⊢
      rw [hs (by simp only [cnt]; omega), lv_node]
      by_cases d1 : i < cnt l
      · rw [if_pos (by omega), if_pos d1, lv_left _ _ _ (by rw [flat_length]; exact d1), lv_flat_up l k 1 i d1]; omega
      rw [if_neg d1, lv_right _ _ _ (by rw [flat_length]; omega), flat_length]
      by_cases d2 : i = cnt l
      · rw [if_neg (by omega), if_pos d2, d2, Nat.sub_self]; rfl
      · rw [if_pos (by omega), if_neg d2, show i - cnt l = (i - cnt l - 1) + 1 by omega, lv_cons_succ, lv_flat_up r k 1 _ (by omega)]
        rw [show i - cnt l - 1 + 1 - 1 = i - cnt l - 1 by omega]; omega
    · rw [if_neg (by omega), h.eq, lv_right _ _ _ (by simp only [List.length_append, flat_length, cnt]; omega), lv_right _ _ _ (by simp only [List.length_append, List.length_cons, flat_length]; omega)]
      simp only [List.length_append, List.length_cons, flat_length, cnt]
      congr 1 <;> omega
end Go.Proofs.Ytnomidpnofhjdaa.TP
