/- Balanced trees, plainly. -/
namespace Go.Proofs.YtciabhncmdpeeaaDoor.TP
variable {α : Type}
inductive Tr (α : Type) where
 | nil : Tr α
 | node (l : Tr α) (v : α) (r : Tr α) : Tr α
open Tr
def hgt : Tr α → Nat | nil => 0 | node l _ r => max (hgt l) (hgt r) + 1
def cnt : Tr α → Nat | nil => 0 | node l _ r => cnt l + cnt r + 1
def toL : Tr α → List α | nil => [] | node l v r => toL l ++ v :: toL r
def flat : Tr α → Int → List (α × Int) | nil, _ => [] | node l v r, k => flat l (k + 1) ++ (v, k) :: flat r (k + 1)
def Avl : Tr α → Prop | nil => True | node l _ r => Avl l ∧ Avl r ∧ hgt l ≤ hgt r + 1 ∧ hgt r ≤ hgt l + 1
theorem flat_length (t : Tr α) : ∀ k, (flat t k).length = cnt t := by
 induction t with
 | nil => intro k; rfl
 | node l v r ihl ihr => intro k; simp only [flat, cnt, List.length_append, List.length_cons, ihl, ihr]; omega
theorem flat_toL (t : Tr α) : ∀ k, (flat t k).map Prod.fst = toL t := by
 induction t with
 | nil => intro k; rfl
 | node l v r ihl ihr => intro k; simp [flat, toL, ihl, ihr]
theorem hgt_le (t : Tr α) : hgt t ≤ cnt t := by
 induction t with
 | nil => simp [hgt]
 | node l v r ihl ihr => simp only [hgt, cnt]; omega
theorem flat_lev (t : Tr α) : ∀ k, ∀ x ∈ flat t k, k ≤ x.2 ∧ x.2 < k + hgt t := by
 induction t with
 | nil => intro k x hx; simp [flat] at hx
 | node l v r ihl ihr =>
  intro k x hx
  simp only [flat, List.mem_append, List.mem_cons] at hx
  simp only [hgt]
  rcases hx with h | rfl | h
  ·have := ihl _ _ h; omega
  ·simp; omega
  ·have := ihr _ _ h; omega
-- turns and repair
def turnR : Tr α → Tr α | node (node a x b) v r => node a x (node b v r) | t => t
def turnL : Tr α → Tr α | node l v (node a x b) => node (node l v a) x b | t => t
def inL : Tr α → Tr α | node a x b => if hgt a < hgt b then turnL (node a x b) else node a x b | nil => nil
def inR : Tr α → Tr α | node a x b => if hgt b < hgt a then turnR (node a x b) else node a x b | nil => nil
def repaired : Tr α → Tr α
 | nil => nil
 | node l v r => if hgt l = hgt r + 2 then turnR (node (inL l) v r) else if hgt r = hgt l + 2 then turnL (node l v (inR r)) else node l v r
theorem repaired_ok (l : Tr α) (v : α) (r : Tr α) (hl : Avl l) (hr : Avl r) (h1 : hgt l ≤ hgt r + 2) (h2 : hgt r ≤ hgt l + 2) :
  Avl (repaired (node l v r)) ∧ hgt (repaired (node l v r)) ≤ max (hgt l) (hgt r) + 1 ∧ max (hgt l) (hgt r) ≤ hgt (repaired (node l v r))
   ∧ toL (repaired (node l v r)) = toL (node l v r) ∧ cnt (repaired (node l v r)) = cnt (node l v r) := by
 simp only [repaired]
 by_cases c1 : hgt l = hgt r + 2
 ·rw [if_pos c1]
  match l, hl, c1 with
  | node a x b, hl, c1 =>
   obtain ⟨ha, hb, b1, b2⟩ := hl
   simp only [hgt] at c1 h1 h2
   simp only [inL]
   by_cases c2 : hgt a < hgt b
   ·rw [if_pos c2]
    match b, hb, b1, b2, c2 with
    | node p y q, hb, b1, b2, c2 =>
     obtain ⟨hp, hq, q1, q2⟩ := hb
     simp only [hgt] at c1 h1 h2 b1 b2 c2
     simp only [turnL, turnR, Avl, hgt, toL, cnt]
     refine ⟨⟨⟨ha, hp, by omega, by omega⟩, ⟨hq, hr, by omega, by omega⟩, by omega, by omega⟩, by omega, by omega, by simp, by omega⟩
   ·rw [if_neg c2]
    simp only [turnR, Avl, hgt, toL, cnt]
    refine ⟨⟨ha, ⟨hb, hr, by omega, by omega⟩, by omega, by omega⟩, by omega, by omega, by simp, by omega⟩
 ·rw [if_neg c1]
  by_cases c3 : hgt r = hgt l + 2
  ·rw [if_pos c3]
   match r, hr, c3 with
   | node a x b, hr, c3 =>
    obtain ⟨ha, hb, b1, b2⟩ := hr
    simp only [hgt] at c1 c3 h1 h2
    simp only [inR]
    by_cases c2 : hgt b < hgt a
    ·rw [if_pos c2]
     match a, ha, b1, b2, c2 with
     | node p y q, ha, b1, b2, c2 =>
      obtain ⟨hp, hq, q1, q2⟩ := ha
      simp only [hgt] at c1 c3 h1 h2 b1 b2 c2
      simp only [turnL, turnR, Avl, hgt, toL, cnt]
      refine ⟨⟨⟨hl, hp, by omega, by omega⟩, ⟨hq, hb, by omega, by omega⟩, by omega, by omega⟩, by omega, by omega, by simp, by omega⟩
    ·rw [if_neg c2]
     simp only [turnL, Avl, hgt, toL, cnt]
     refine ⟨⟨⟨hl, ha, by omega, by omega⟩, hb, by omega, by omega⟩, by omega, by omega, by simp, by omega⟩
  ·rw [if_neg c3]
   simp only [Avl, hgt, toL, cnt]
   exact ⟨⟨hl, hr, by omega, by omega⟩, by omega, by omega, trivial, trivial⟩
-- the height when it was balanced anyway
theorem repaired_id (l : Tr α) (v : α) (r : Tr α) (h1 : hgt l ≤ hgt r + 1) (h2 : hgt r ≤ hgt l + 1) : repaired (node l v r) = node l v r := by
 simp only [repaired]; rw [if_neg (by omega), if_neg (by omega)]
def insert (v : α) : Tr α → Nat → Tr α
 | nil, _ => node nil v nil
 | node l x r, k => if k ≤ cnt l then repaired (node (insert v l k) x r) else repaired (node l x (insert v r (k - cnt l - 1)))
theorem insert_ok (v : α) (t : Tr α) : ∀ k, Avl t → k ≤ cnt t → Avl (insert v t k) ∧ hgt t ≤ hgt (insert v t k) ∧ hgt (insert v t k) ≤ hgt t + 1 ∧
  toL (insert v t k) = (toL t).take k ++ v :: (toL t).drop k ∧ cnt (insert v t k) = cnt t + 1 := by
 induction t with
 | nil => intro k _ hk; simp [insert, Avl, hgt, toL, cnt]
 | node l x r ihl ihr =>
  intro k ha hk
  obtain ⟨hl, hr, h1, h2⟩ := ha
  have len : ∀ t : Tr α, (toL t).length = cnt t := fun t => by rw [← flat_toL t 0, List.length_map, flat_length]
  simp only [insert]
  by_cases c : k ≤ cnt l
  ·rw [if_pos c]
   obtain ⟨i1, i2, i3, i4, i5⟩ := ihl k hl c
   obtain ⟨o1, o2, o3, o4, o5⟩ := repaired_ok (insert v l k) x r i1 hr (by omega) (by omega)
   refine ⟨o1, ?_, ?_, ?_, ?_⟩
   ·by_cases e : hgt (insert v l k) ≤ hgt r + 1
    ·rw [repaired_id _ _ _ e (by omega)]; simp only [hgt]; omega
    ·simp only [hgt]; omega
   ·by_cases e : hgt (insert v l k) ≤ hgt r + 1
    ·rw [repaired_id _ _ _ e (by omega)]; simp only [hgt]; omega
    ·simp only [hgt] at o2 ⊢; omega
   ·rw [o4]; simp only [toL, i4]
    rw [List.take_append_of_le_length (by rw [len]; exact c), List.drop_append_of_le_length (by rw [len]; exact c)]; simp
   ·rw [o5]; simp only [cnt, i5]; omega
  ·rw [if_neg c]
   simp only [cnt] at hk
   obtain ⟨i1, i2, i3, i4, i5⟩ := ihr (k - cnt l - 1) hr (by omega)
   obtain ⟨o1, o2, o3, o4, o5⟩ := repaired_ok l x (insert v r (k - cnt l - 1)) hl i1 (by omega) (by omega)
   refine ⟨o1, ?_, ?_, ?_, ?_⟩
   ·by_cases e : hgt (insert v r (k - cnt l - 1)) ≤ hgt l + 1
    ·rw [repaired_id _ _ _ (by omega) e]; simp only [hgt]; omega
    ·simp only [hgt]; omega
   ·by_cases e : hgt (insert v r (k - cnt l - 1)) ≤ hgt l + 1
    ·rw [repaired_id _ _ _ (by omega) e]; simp only [hgt]; omega
    ·simp only [hgt] at o2 ⊢; omega
   ·rw [o4]; simp only [toL, i4]
    have e1 : k = (toL l).length + ((k - cnt l - 1) + 1) := by rw [len]; omega
    rw [show (toL l ++ x :: toL r).take k = toL l ++ x :: (toL r).take (k - cnt l - 1) by
     conv => lhs; rw [e1]
     rw [List.take_length_add_append]; simp]
    rw [show (toL l ++ x :: toL r).drop k = (toL r).drop (k - cnt l - 1) by
     conv => lhs; rw [e1]
     rw [List.drop_length_add_append]; simp]
    simp
   ·rw [o5]; simp only [cnt, i5]; omega

theorem toL_length (t : Tr α) : (toL t).length = cnt t := by rw [← flat_toL t 0, List.length_map, flat_length]
def first : Tr α → Option α | nil => none | node nil v _ => some v | node (node a x b) _ _ => first (node a x b)
def pick (l r big : Tr α) : Tr α := match l, r with | nil, r => r | node a x b, nil => node a x b | node _ _ _, node _ _ _ => big
def remove : Tr α → Nat → Tr α
 | nil, _ => nil
 | node l x r, k =>
  if k < cnt l then repaired (node (remove l k) x r)
  else if cnt l < k then repaired (node l x (remove r (k - cnt l - 1)))
  else pick l r ((first r).elim nil fun y => repaired (node l y (remove r 0)))
theorem first_toL (t : Tr α) : first t = (toL t).head? := by
 induction t with
 | nil => rfl
 | node l v r ihl _ =>
  cases l with
  | nil => rfl
  | node a x b =>
   simp only [first]; rw [ihl]
   have : toL (node a x b) ≠ [] := by simp [toL]
   obtain ⟨y, ys, h⟩ := List.exists_cons_of_ne_nil this
   show _ = (toL (node a x b) ++ v :: toL r).head?
   rw [h]; rfl
theorem first_cons (p : Tr α) (z : α) (q : Tr α) : ∃ y ys, first (node p z q) = some y ∧ toL (node p z q) = y :: ys := by
 have : toL (node p z q) ≠ [] := by simp [toL]
 obtain ⟨y, ys, h⟩ := List.exists_cons_of_ne_nil this
 exact ⟨y, ys, by rw [first_toL, h]; rfl, h⟩
theorem cnt_pos_of (a : Tr α) (x : α) (b : Tr α) : 0 < cnt (node a x b) := by simp only [cnt]; omega
theorem repaired_shrink (l : Tr α) (v : α) (r l' : Tr α) (hl : Avl l') (hr : Avl r) (a1 : hgt l ≤ hgt r + 1) (a2 : hgt r ≤ hgt l + 1) (h1 : hgt l' ≤ hgt l) (h2 : hgt l ≤ hgt l' + 1) :
  Avl (repaired (node l' v r)) ∧ hgt (repaired (node l' v r)) ≤ hgt (node l v r) ∧ hgt (node l v r) ≤ hgt (repaired (node l' v r)) + 1 ∧ toL (repaired (node l' v r)) = toL l' ++ v :: toL r ∧ cnt (repaired (node l' v r)) = cnt l' + cnt r + 1 := by
 obtain ⟨o1, o2, o3, o4, o5⟩ := repaired_ok l' v r hl hr (by omega) (by omega)
 refine ⟨o1, ?_, ?_, o4, o5⟩
 ·simp only [hgt]; omega
 ·by_cases e : hgt r ≤ hgt l' + 1
  ·rw [repaired_id _ _ _ (by omega) e]; simp only [hgt]; omega
  ·simp only [hgt]; omega
theorem repaired_shrink' (l : Tr α) (v : α) (r r' : Tr α) (hl : Avl l) (hr : Avl r') (a1 : hgt l ≤ hgt r + 1) (a2 : hgt r ≤ hgt l + 1) (h1 : hgt r' ≤ hgt r) (h2 : hgt r ≤ hgt r' + 1) :
  Avl (repaired (node l v r')) ∧ hgt (repaired (node l v r')) ≤ hgt (node l v r) ∧ hgt (node l v r) ≤ hgt (repaired (node l v r')) + 1 ∧ toL (repaired (node l v r')) = toL l ++ v :: toL r' ∧ cnt (repaired (node l v r')) = cnt l + cnt r' + 1 := by
 obtain ⟨o1, o2, o3, o4, o5⟩ := repaired_ok l v r' hl hr (by omega) (by omega)
 refine ⟨o1, ?_, ?_, o4, o5⟩
 ·simp only [hgt]; omega
 ·by_cases e : hgt l ≤ hgt r' + 1
  ·rw [repaired_id _ _ _ e (by omega)]; simp only [hgt]; omega
  ·simp only [hgt]; omega
theorem remove_ok (t : Tr α) : ∀ k, Avl t → k < cnt t → Avl (remove t k) ∧ hgt (remove t k) ≤ hgt t ∧ hgt t ≤ hgt (remove t k) + 1 ∧
  toL (remove t k) = (toL t).eraseIdx k ∧ cnt (remove t k) + 1 = cnt t := by
 induction t with
 | nil => intro k _ hk; simp [cnt] at hk
 | node l x r ihl ihr =>
  intro k ha hk
  obtain ⟨hl, hr, h1, h2⟩ := ha
  simp only [remove]
  by_cases c : k < cnt l
  ·rw [if_pos c]
   obtain ⟨i1, i2, i3, i4, i5⟩ := ihl k hl c
   obtain ⟨o1, o2, o3, o4, o5⟩ := repaired_shrink l x r (remove l k) i1 hr h1 h2 i2 i3
   refine ⟨o1, o2, o3, ?_, ?_⟩
   ·rw [o4, i4]; simp only [toL]; rw [List.eraseIdx_append_of_lt_length (by rw [toL_length]; exact c)]
   ·rw [o5]; simp only [cnt]; omega
  ·rw [if_neg c]
   by_cases c2 : cnt l < k
   ·rw [if_pos c2]
    simp only [cnt] at hk
    obtain ⟨i1, i2, i3, i4, i5⟩ := ihr (k - cnt l - 1) hr (by omega)
    obtain ⟨o1, o2, o3, o4, o5⟩ := repaired_shrink' l x r (remove r (k - cnt l - 1)) hl i1 h1 h2 i2 i3
    refine ⟨o1, o2, o3, ?_, ?_⟩
    ·rw [o4, i4]; simp only [toL]
     rw [List.eraseIdx_append_of_length_le (by rw [toL_length]; omega), toL_length]
     obtain ⟨m, hm⟩ : ∃ m, k - cnt l = m + 1 := ⟨k - cnt l - 1, by omega⟩
     rw [hm]; simp
    ·rw [o5]; simp only [cnt]; omega
   ·rw [if_neg c2]
    have ek : k = cnt l := by omega
    have er : (toL (node l x r)).eraseIdx k = toL l ++ toL r := by
     simp only [toL]; rw [List.eraseIdx_append_of_length_le (by rw [toL_length]; omega), toL_length, ek, Nat.sub_self]; simp
    cases l with
    | nil => rw [er]; simp only [pick]; refine ⟨hr, by simp only [hgt]; omega, by simp only [hgt] at *; omega, by simp [toL], by simp only [cnt]; omega⟩
    | node a y b =>
     cases r with
     | nil =>
      rw [er]; simp only [pick]
      refine ⟨hl, by simp only [hgt]; omega, by simp only [hgt] at *; omega, by simp [toL], by simp only [cnt]⟩
     | node p z q =>
      obtain ⟨f, ys, hf, ht⟩ := first_cons p z q
      simp only [hf, Option.elim_some, pick]
      obtain ⟨i1, i2, i3, i4, i5⟩ := ihr 0 hr (cnt_pos_of _ _ _)
      obtain ⟨o1, o2, o3, o4, o5⟩ := repaired_shrink' (node a y b) f (node p z q) (remove (node p z q) 0) hl i1 h1 h2 i2 i3
      have ex : hgt (node (node a y b) x (node p z q)) = hgt (node (node a y b) f (node p z q)) := rfl
      rw [ex]
      refine ⟨o1, o2, o3, ?_, ?_⟩
      ·rw [o4, i4, er, ht]; simp
      ·rw [o5]; simp only [cnt] at i5 ⊢; omega
def joined (a : Tr α) (v : α) (b : Tr α) : Tr α :=
 if hgt b + 1 < hgt a then
  match a with
  | node l x r => repaired (node l x (joined r v b))
  | nil => nil
 else if hgt a + 1 < hgt b then
  match b with
  | node l x r => repaired (node (joined a v l) x r)
  | nil => nil
 else node a v b
termination_by cnt a + cnt b
decreasing_by all_goals (simp only [cnt]; omega)
theorem joined_ok (n : Nat) : ∀ (a : Tr α) (v : α) (b : Tr α), cnt a + cnt b ≤ n → Avl a → Avl b → Avl (joined a v b) ∧ hgt (joined a v b) ≤ max (hgt a) (hgt b) + 1 ∧ max (hgt a) (hgt b) ≤ hgt (joined a v b) ∧
  toL (joined a v b) = toL a ++ v :: toL b ∧ cnt (joined a v b) = cnt a + cnt b + 1 := by
 induction n with
 | zero =>
  intro a v b hn ha hb
  cases a with
  | node => simp [cnt] at hn
  | nil => cases b with
   | node => simp [cnt] at hn
   | nil => unfold joined; simp [hgt, Avl, toL, cnt]
 | succ n ih =>
  intro a v b hn ha hb
  unfold joined
  by_cases c : hgt b + 1 < hgt a
  ·rw [if_pos c]
   match a, ha, c, hn with
   | node l x r, ha, c, hn =>
    obtain ⟨hl, hr, h1, h2⟩ := ha
    simp only [hgt] at c ⊢
    simp only [cnt] at hn
    obtain ⟨i1, i2, i3, i4, i5⟩ := ih r v b (by omega) hr hb
    obtain ⟨o1, o2, o3, o4, o5⟩ := repaired_ok l x (joined r v b) hl i1 (by omega) (by omega)
    refine ⟨o1, ?_, ?_, ?_, ?_⟩
    ·by_cases e : hgt (joined r v b) ≤ hgt l + 1
     ·rw [repaired_id _ _ _ (by omega) e]; simp only [hgt]; omega
     ·omega
    ·by_cases e : hgt (joined r v b) ≤ hgt l + 1
     ·rw [repaired_id _ _ _ (by omega) e]; simp only [hgt]; omega
     ·omega
    ·rw [o4]; simp only [toL, i4]; simp
    ·rw [o5]; simp only [cnt, i5]; omega
  ·rw [if_neg c]
   by_cases c2 : hgt a + 1 < hgt b
   ·rw [if_pos c2]
    match b, hb, c, c2, hn with
    | node l x r, hb, c, c2, hn =>
     obtain ⟨hl, hr, h1, h2⟩ := hb
     simp only [hgt] at c c2 ⊢
     simp only [cnt] at hn
     obtain ⟨i1, i2, i3, i4, i5⟩ := ih a v l (by omega) ha hl
     obtain ⟨o1, o2, o3, o4, o5⟩ := repaired_ok (joined a v l) x r i1 hr (by omega) (by omega)
     refine ⟨o1, ?_, ?_, ?_, ?_⟩
     ·by_cases e : hgt (joined a v l) ≤ hgt r + 1
      ·rw [repaired_id _ _ _ e (by omega)]; simp only [hgt]; omega
      ·omega
     ·by_cases e : hgt (joined a v l) ≤ hgt r + 1
      ·rw [repaired_id _ _ _ e (by omega)]; simp only [hgt]; omega
      ·omega
     ·rw [o4]; simp only [toL, i4]; simp
     ·rw [o5]; simp only [cnt, i5]; omega
   ·rw [if_neg c2]
    refine ⟨⟨ha, hb, by omega, by omega⟩, by simp only [hgt]; omega, by simp only [hgt]; omega, rfl, rfl⟩
def split : Tr α → Nat → Tr α × Tr α
 | nil, _ => (nil, nil)
 | node l v r, k => if k ≤ cnt l then ((split l k).1, joined (split l k).2 v r) else (joined l v (split r (k - cnt l - 1)).1, (split r (k - cnt l - 1)).2)
theorem split_ok (t : Tr α) : ∀ k, Avl t → k ≤ cnt t → Avl (split t k).1 ∧ Avl (split t k).2 ∧ toL (split t k).1 = (toL t).take k ∧ toL (split t k).2 = (toL t).drop k := by
 induction t with
 | nil => intro k _ _; simp [split, Avl, toL]
 | node l v r ihl ihr =>
  intro k ha hk
  obtain ⟨hl, hr, _, _⟩ := ha
  simp only [split]
  by_cases c : k ≤ cnt l
  ·rw [if_pos c]
   obtain ⟨i1, i2, i3, i4⟩ := ihl k hl c
   obtain ⟨j1, _, _, j4, _⟩ := joined_ok _ (split l k).2 v r (Nat.le_refl _) i2 hr
   refine ⟨i1, j1, ?_, ?_⟩
   ·rw [i3]; simp only [toL]; rw [List.take_append_of_le_length (by rw [toL_length]; exact c)]
   ·rw [j4, i4]; simp only [toL]; rw [List.drop_append_of_le_length (by rw [toL_length]; exact c)]
  ·rw [if_neg c]
   simp only [cnt] at hk
   obtain ⟨i1, i2, i3, i4⟩ := ihr (k - cnt l - 1) hr (by omega)
   obtain ⟨j1, _, _, j4, _⟩ := joined_ok _ l v (split r (k - cnt l - 1)).1 (Nat.le_refl _) hl i1
   have e1 : k = (toL l).length + ((k - cnt l - 1) + 1) := by rw [toL_length]; omega
   refine ⟨j1, i2, ?_, ?_⟩
   ·rw [j4, i3]; simp only [toL]
    conv => rhs; rw [e1]
    rw [List.take_length_add_append]; simp
   ·rw [i4]; simp only [toL]
    conv => rhs; rw [e1]
    rw [List.drop_length_add_append]; simp
def together (a b : Tr α) : Tr α := pick a b ((first b).elim nil fun y => joined a y (remove b 0))
theorem together_ok (a b : Tr α) (ha : Avl a) (hb : Avl b) : Avl (together a b) ∧ toL (together a b) = toL a ++ toL b := by
 unfold together
 cases a with
 | nil => simp only [pick]; exact ⟨hb, by simp [toL]⟩
 | node l x r =>
  cases b with
  | nil => simp only [pick]; exact ⟨ha, by simp [toL]⟩
  | node p z q =>
   obtain ⟨f, ys, hf, ht⟩ := first_cons p z q
   simp only [hf, Option.elim_some, pick]
   obtain ⟨i1, _, _, i4, _⟩ := remove_ok (node p z q) 0 hb (cnt_pos_of _ _ _)
   obtain ⟨j1, _, _, j4, _⟩ := joined_ok _ (node l x r) f (remove (node p z q) 0) (Nat.le_refl _) ha i1
   refine ⟨j1, ?_⟩
   rw [j4, i4, ht]; simp
-- places in a tree
inductive Fr (α : Type) where
 | L (v : α) (r : Tr α) : Fr α
 | R (l : Tr α) (v : α) : Fr α
def plug1 : Fr α → Tr α → Tr α | .L v r, t => node t v r | .R l v, t => node l v t
def plug : List (Fr α) → Tr α → Tr α | [], t => t | f :: C, t => plug C (plug1 f t)
def side : Fr α → Tr α | .L _ r => r | .R l _ => l
def Sides (C : List (Fr α)) : Prop := ∀ f ∈ C, Avl (side f)
def pre : List (Fr α) → Int → List (α × Int)
 | [], _ => []
 | .L _ _ :: C, k => pre C (k - 1)
 | .R l v :: C, k => pre C (k - 1) ++ (flat l k ++ [(v, k - 1)])
def post : List (Fr α) → Int → List (α × Int)
 | [], _ => []
 | .L v r :: C, k => (v, k - 1) :: flat r k ++ post C (k - 1)
 | .R _ _ :: C, k => post C (k - 1)
def Off (l r : Tr α) : Prop := hgt l = hgt r + 2 ∨ hgt r = hgt l + 2
def Step (s s' : Tr α) : Prop := ∃ C l v r, s = plug C (node l v r) ∧ Sides C ∧ Avl l ∧ Avl r ∧ Off l r ∧ s' = plug C (repaired (node l v r))
inductive Chain : Nat → Tr α → Tr α → Prop where
 | refl (s : Tr α) : Chain 0 s s
 | step {n : Nat} {s m e : Tr α} (h : Step s m) (k : Chain n m e) : Chain (n + 1) s e
theorem Chain.trans {n m : Nat} {a b c : Tr α} (h : Chain n a b) (k : Chain m b c) : Chain (n + m) a c := by
 induction h with
 | refl s => simpa using k
 | step st _ ih => rw [Nat.add_right_comm]; exact .step st (ih k)
-- the search for the deepest one out of balance
-- the plain changes, told as lists
def up (d : Int) (xs : List (α × Int)) : List (α × Int) := xs.map fun x => (x.1, x.2 + d)
-- levels, read by the place
def lv (L : List (α × Int)) (i : Nat) : Int := match L[i]? with | some x => x.2 | none => 0
theorem lv_left (A B : List (α × Int)) (i : Nat) (h : i < A.length) : lv (A ++ B) i = lv A i := by
 unfold lv; rw [List.getElem?_append_left h]
theorem lv_right (A B : List (α × Int)) (i : Nat) (h : A.length ≤ i) : lv (A ++ B) i = lv B (i - A.length) := by
 unfold lv; rw [List.getElem?_append_right h]
theorem lv_mem (L : List (α × Int)) (i : Nat) (h : i < L.length) : ∃ x ∈ L, lv L i = x.2 := ⟨L[i], List.getElem_mem h, by unfold lv; rw [List.getElem?_eq_getElem h]⟩
theorem lv_node (l : Tr α) (v : α) (r : Tr α) (k : Int) (i : Nat) : lv (flat (node l v r) k) i = if i < cnt l then lv (flat l (k + 1)) i else if i = cnt l then k else lv (flat r (k + 1)) (i - cnt l - 1) := by
 simp only [flat]
 by_cases c : i < cnt l
 ·rw [if_pos c, lv_left _ _ _ (by rw [flat_length]; exact c)]
 ·rw [if_neg c, lv_right _ _ _ (by rw [flat_length]; omega), flat_length]
  by_cases c2 : i = cnt l
  ·rw [if_pos c2, c2, Nat.sub_self]; rfl
  ·rw [if_neg c2, show i - cnt l = (i - cnt l - 1) + 1 by omega]; rfl
theorem lv_flat_bound (t : Tr α) (k : Int) (i : Nat) (h : i < cnt t) : k ≤ lv (flat t k) i ∧ lv (flat t k) i < k + hgt t := by
 obtain ⟨x, hx, e⟩ := lv_mem (flat t k) i (by rw [flat_length]; exact h)
 rw [e]; exact flat_lev t k x hx
theorem lv_flat_max (t : Tr α) : ∀ k, 0 < cnt t → ∃ i, i < cnt t ∧ lv (flat t k) i = k + hgt t - 1 := by
 induction t with
 | nil => intro k h; simp [cnt] at h
 | node l v r ihl ihr =>
  intro k _
  simp only [cnt, hgt]
  by_cases c : hgt r ≤ hgt l
  ·by_cases c0 : 0 < cnt l
   ·obtain ⟨i, hi, e⟩ := ihl (k + 1) c0
    refine ⟨i, by omega, ?_⟩
    rw [lv_node, if_pos hi, e]; omega
   ·have h0 : hgt l = 0 := by have := hgt_le l; omega
    refine ⟨cnt l, by omega, ?_⟩
    rw [lv_node, if_neg (by omega), if_pos rfl]; omega
  ·have c0 : 0 < cnt r := by have := hgt_le r; omega
   obtain ⟨i, hi, e⟩ := ihr (k + 1) c0
   refine ⟨cnt l + 1 + i, by omega, ?_⟩
   rw [lv_node, if_neg (by omega), if_neg (by omega), show cnt l + 1 + i - cnt l - 1 = i by omega, e]; omega
structure Seg (L A : List (α × Int)) (t : Tr α) (k : Int) (B : List (α × Int)) : Prop where
 eq : L = A ++ flat t k ++ B
 pre : ∀ x, A.getLast? = some x → x.2 < k
 post : ∀ x, B.head? = some x → x.2 < k
theorem Seg.len {L A B : List (α × Int)} {t : Tr α} {k : Int} (h : Seg L A t k B) : L.length = A.length + cnt t + B.length := by
 rw [h.eq, List.length_append, List.length_append, flat_length]
theorem Seg.lv {L A B : List (α × Int)} {t : Tr α} {k : Int} (h : Seg L A t k B) (i : Nat) (hi : i < cnt t) : TP.lv L (A.length + i) = TP.lv (flat t k) i := by
 rw [h.eq, lv_left _ _ _ (by rw [List.length_append, flat_length]; omega), lv_right _ _ _ (by omega), Nat.add_sub_cancel_left]
theorem Seg.before {L A B : List (α × Int)} {t : Tr α} {k : Int} (h : Seg L A t k B) (h0 : 0 < A.length) : TP.lv L (A.length - 1) < k := by
 rw [h.eq, List.append_assoc, lv_left _ _ _ (by omega)]
 unfold TP.lv
 have e : A[A.length - 1]? = A.getLast? := by rw [List.getLast?_eq_getElem?]
 rw [e]
 cases hx : A.getLast? with
 | none => rw [List.getLast?_eq_none_iff] at hx; subst hx; simp at h0
 | some x => exact h.pre x hx
theorem Seg.behind {L A B : List (α × Int)} {t : Tr α} {k : Int} (h : Seg L A t k B) (h0 : A.length + cnt t < L.length) : TP.lv L (A.length + cnt t) < k := by
 have hl := h.len
 rw [h.eq, lv_right _ _ _ (by rw [List.length_append, flat_length]; omega), List.length_append, flat_length, Nat.sub_self]
 unfold TP.lv
 cases hB : B with
 | nil => rw [hB] at hl; simp at hl; omega
 | cons x B' => exact h.post x (by rw [hB]; rfl)
theorem Seg.left {L A B : List (α × Int)} {l r : Tr α} {v : α} {k : Int} (h : Seg L A (node l v r) k B) : Seg L A l (k + 1) ((v, k) :: flat r (k + 1) ++ B) :=
 ⟨by rw [h.eq]; simp [flat], fun x hx => by have := h.pre x hx; omega, fun x hx => by simp only [List.cons_append, List.head?_cons, Option.some.injEq] at hx; subst hx; dsimp only; omega⟩
theorem Seg.right {L A B : List (α × Int)} {l r : Tr α} {v : α} {k : Int} (h : Seg L A (node l v r) k B) : Seg L (A ++ (flat l (k + 1) ++ [(v, k)])) r (k + 1) B :=
 ⟨by rw [h.eq]; simp [flat], fun x hx => by simp only [List.getLast?_append, List.getLast?_singleton, Option.some_or, Option.some.injEq] at hx; subst hx; dsimp only; omega, fun x hx => by have := h.post x hx; omega⟩
theorem Seg.root {L A B : List (α × Int)} {l r : Tr α} {v : α} {k : Int} (h : Seg L A (node l v r) k B) : TP.lv L (A.length + cnt l) = k := by
 rw [h.lv _ (by simp only [cnt]; omega), lv_node, if_neg (by omega), if_pos rfl]
theorem Seg.inL {L A B : List (α × Int)} {l r : Tr α} {v : α} {k : Int} (h : Seg L A (node l v r) k B) (j : Nat) (h1 : A.length ≤ j) (h2 : j < A.length + cnt l) : k < TP.lv L j := by
 have := h.left.lv (j - A.length) (by omega)
 rw [show A.length + (j - A.length) = j by omega] at this
 rw [this]
 have := lv_flat_bound l (k + 1) (j - A.length) (by omega); omega
theorem Seg.inR {L A B : List (α × Int)} {l r : Tr α} {v : α} {k : Int} (h : Seg L A (node l v r) k B) (j : Nat) (h1 : A.length + cnt l < j) (h2 : j < A.length + cnt l + 1 + cnt r) : k < TP.lv L j := by
 have hl : (A ++ (flat l (k + 1) ++ [(v, k)])).length = A.length + cnt l + 1 := by simp [flat_length]; omega
 have := h.right.lv (j - (A.length + cnt l + 1)) (by omega)
 rw [hl, show A.length + cnt l + 1 + (j - (A.length + cnt l + 1)) = j by omega] at this
 rw [this]
 have := lv_flat_bound r (k + 1) (j - (A.length + cnt l + 1)) (by omega); omega
def Hgt (L : List (α × Int)) (lo hi : Nat) (h : Nat) : Prop := (hi ≤ lo ∧ h = 0) ∨ (lo < hi ∧ 1 ≤ h ∧ ∃ m : Int, (∀ j, lo ≤ j → j < hi → m ≤ lv L j ∧ lv L j ≤ m + h - 1) ∧ (∃ j, lo ≤ j ∧ j < hi ∧ lv L j = m) ∧ (∃ j, lo ≤ j ∧ j < hi ∧ lv L j = m + h - 1))
theorem Seg.hgt {L A B : List (α × Int)} {t : Tr α} {k : Int} (h : Seg L A t k B) : Hgt L A.length (A.length + cnt t) (TP.hgt t) := by
 cases t with
 | nil => exact .inl ⟨by simp [cnt], rfl⟩
 | node l v r =>
  refine .inr ⟨by simp only [cnt]; omega, by simp only [TP.hgt]; omega, k, fun j h1 h2 => ?_, ⟨A.length + cnt l, by omega, by simp only [cnt]; omega, h.root⟩, ?_⟩
  ·have e := h.lv (j - A.length) (by omega)
   rw [show A.length + (j - A.length) = j by omega] at e
   have := lv_flat_bound (node l v r) k (j - A.length) (by omega)
   rw [e]; omega
  ·obtain ⟨i, hi, e⟩ := lv_flat_max (node l v r) k (by simp only [cnt]; omega)
   exact ⟨A.length + i, by omega, by omega, by rw [h.lv i hi, e]⟩
end Go.Proofs.YtciabhncmdpeeaaDoor.TP
