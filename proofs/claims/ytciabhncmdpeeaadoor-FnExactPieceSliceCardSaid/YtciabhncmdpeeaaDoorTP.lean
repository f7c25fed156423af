/- Balanced trees, plainly. -/
namespace Go.Proofs.YtciabhncmdpeeaaDoor.TP
variable {α : Type}
inductive Tr (α : Type) where
 | nil : Tr α
 | node (l : Tr α) (v : α) (r : Tr α) : Tr α
open Tr
def hgt : Tr α → Nat | nil => 0 | node l _ r => max (hgt l) (hgt r) + 1
def cnt : Tr α → Nat | nil => 0 | node l _ r => cnt l + cnt r + 1
def toL : Tr α → List α | nil => [] | node l v r => toL l ++ v :: toL r
def flat : Tr α → Int → List (α × Int) | nil, _ => [] | node l v r, k => flat l (k + 1) ++ (v, k) :: flat r (k + 1)
def Avl : Tr α → Prop | nil => True | node l _ r => Avl l ∧ Avl r ∧ hgt l ≤ hgt r + 1 ∧ hgt r ≤ hgt l + 1
theorem flat_length (t : Tr α) : ∀ k, (flat t k).length = cnt t := by
 induction t with
 | nil => intro k; rfl
 | node l v r ihl ihr => intro k; simp only [flat, cnt, List.length_append, List.length_cons, ihl, ihr]; omega
theorem flat_toL (t : Tr α) : ∀ k, (flat t k).map Prod.fst = toL t := by
 induction t with
 | nil => intro k; rfl
 | node l v r ihl ihr => intro k; simp [flat, toL, ihl, ihr]
theorem hgt_le (t : Tr α) : hgt t ≤ cnt t := by
 induction t with
 | nil => simp [hgt]
 | node l v r ihl ihr => simp only [hgt, cnt]; omega
theorem flat_lev (t : Tr α) : ∀ k, ∀ x ∈ flat t k, k ≤ x.2 ∧ x.2 < k + hgt t := by
 induction t with
 | nil => intro k x hx; simp [flat] at hx
 | node l v r ihl ihr =>
  intro k x hx
  simp only [flat, List.mem_append, List.mem_cons] at hx
  simp only [hgt]
  rcases hx with h | rfl | h
  ·have := ihl _ _ h; omega
  ·simp; omega
  ·have := ihr _ _ h; omega
-- turns and repair
def turnR : Tr α → Tr α | node (node a x b) v r => node a x (node b v r) | t => t
def turnL : Tr α → Tr α | node l v (node a x b) => node (node l v a) x b | t => t
def inL : Tr α → Tr α | node a x b => if hgt a < hgt b then turnL (node a x b) else node a x b | nil => nil
def inR : Tr α → Tr α | node a x b => if hgt b < hgt a then turnR (node a x b) else node a x b | nil => nil
def repaired : Tr α → Tr α
 | nil => nil
 | node l v r => if hgt l = hgt r + 2 then turnR (node (inL l) v r) else if hgt r = hgt l + 2 then turnL (node l v (inR r)) else node l v r
-- the height when it was balanced anyway
def insert (v : α) : Tr α → Nat → Tr α
 | nil, _ => node nil v nil
 | node l x r, k => if k ≤ cnt l then repaired (node (insert v l k) x r) else repaired (node l x (insert v r (k - cnt l - 1)))
theorem toL_length (t : Tr α) : (toL t).length = cnt t := by rw [← flat_toL t 0, List.length_map, flat_length]
def first : Tr α → Option α | nil => none | node nil v _ => some v | node (node a x b) _ _ => first (node a x b)
def pick (l r big : Tr α) : Tr α := match l, r with | nil, r => r | node a x b, nil => node a x b | node _ _ _, node _ _ _ => big
def remove : Tr α → Nat → Tr α
 | nil, _ => nil
 | node l x r, k =>
  if k < cnt l then repaired (node (remove l k) x r)
  else if cnt l < k then repaired (node l x (remove r (k - cnt l - 1)))
  else pick l r ((first r).elim nil fun y => repaired (node l y (remove r 0)))
def joined (a : Tr α) (v : α) (b : Tr α) : Tr α :=
 if hgt b + 1 < hgt a then
  match a with
  | node l x r => repaired (node l x (joined r v b))
  | nil => nil
 else if hgt a + 1 < hgt b then
  match b with
  | node l x r => repaired (node (joined a v l) x r)
  | nil => nil
 else node a v b
termination_by cnt a + cnt b
decreasing_by all_goals (simp only [cnt]; omega)
def split : Tr α → Nat → Tr α × Tr α
 | nil, _ => (nil, nil)
 | node l v r, k => if k ≤ cnt l then ((split l k).1, joined (split l k).2 v r) else (joined l v (split r (k - cnt l - 1)).1, (split r (k - cnt l - 1)).2)
def together (a b : Tr α) : Tr α := pick a b ((first b).elim nil fun y => joined a y (remove b 0))
-- places in a tree
inductive Fr (α : Type) where
 | L (v : α) (r : Tr α) : Fr α
 | R (l : Tr α) (v : α) : Fr α
def plug1 : Fr α → Tr α → Tr α | .L v r, t => node t v r | .R l v, t => node l v t
def plug : List (Fr α) → Tr α → Tr α | [], t => t | f :: C, t => plug C (plug1 f t)
def side : Fr α → Tr α | .L _ r => r | .R l _ => l
def Sides (C : List (Fr α)) : Prop := ∀ f ∈ C, Avl (side f)
def pre : List (Fr α) → Int → List (α × Int)
 | [], _ => []
 | .L _ _ :: C, k => pre C (k - 1)
 | .R l v :: C, k => pre C (k - 1) ++ (flat l k ++ [(v, k - 1)])
def post : List (Fr α) → Int → List (α × Int)
 | [], _ => []
 | .L v r :: C, k => (v, k - 1) :: flat r k ++ post C (k - 1)
 | .R _ _ :: C, k => post C (k - 1)
def Off (l r : Tr α) : Prop := hgt l = hgt r + 2 ∨ hgt r = hgt l + 2
def Step (s s' : Tr α) : Prop := ∃ C l v r, s = plug C (node l v r) ∧ Sides C ∧ Avl l ∧ Avl r ∧ Off l r ∧ s' = plug C (repaired (node l v r))
inductive Chain : Nat → Tr α → Tr α → Prop where
 | refl (s : Tr α) : Chain 0 s s
 | step {n : Nat} {s m e : Tr α} (h : Step s m) (k : Chain n m e) : Chain (n + 1) s e
theorem Chain.trans {n m : Nat} {a b c : Tr α} (h : Chain n a b) (k : Chain m b c) : Chain (n + m) a c := by
 induction h with
 | refl s => simpa using k
 | step st _ ih => rw [Nat.add_right_comm]; exact .step st (ih k)
-- the search for the deepest one out of balance
-- the plain changes, told as lists
def up (d : Int) (xs : List (α × Int)) : List (α × Int) := xs.map fun x => (x.1, x.2 + d)
-- levels, read by the place
def lv (L : List (α × Int)) (i : Nat) : Int := match L[i]? with | some x => x.2 | none => 0
theorem lv_left (A B : List (α × Int)) (i : Nat) (h : i < A.length) : lv (A ++ B) i = lv A i := by
 unfold lv; rw [List.getElem?_append_left h]
theorem lv_right (A B : List (α × Int)) (i : Nat) (h : A.length ≤ i) : lv (A ++ B) i = lv B (i - A.length) := by
 unfold lv; rw [List.getElem?_append_right h]
theorem lv_mem (L : List (α × Int)) (i : Nat) (h : i < L.length) : ∃ x ∈ L, lv L i = x.2 := ⟨L[i], List.getElem_mem h, by unfold lv; rw [List.getElem?_eq_getElem h]⟩
theorem lv_node (l : Tr α) (v : α) (r : Tr α) (k : Int) (i : Nat) : lv (flat (node l v r) k) i = if i < cnt l then lv (flat l (k + 1)) i else if i = cnt l then k else lv (flat r (k + 1)) (i - cnt l - 1) := by
 simp only [flat]
 by_cases c : i < cnt l
 ·rw [if_pos c, lv_left _ _ _ (by rw [flat_length]; exact c)]
 ·rw [if_neg c, lv_right _ _ _ (by rw [flat_length]; omega), flat_length]
  by_cases c2 : i = cnt l
  ·rw [if_pos c2, c2, Nat.sub_self]; rfl
  ·rw [if_neg c2, show i - cnt l = (i - cnt l - 1) + 1 by omega]; rfl
theorem lv_flat_bound (t : Tr α) (k : Int) (i : Nat) (h : i < cnt t) : k ≤ lv (flat t k) i ∧ lv (flat t k) i < k + hgt t := by
 obtain ⟨x, hx, e⟩ := lv_mem (flat t k) i (by rw [flat_length]; exact h)
 rw [e]; exact flat_lev t k x hx
theorem lv_flat_max (t : Tr α) : ∀ k, 0 < cnt t → ∃ i, i < cnt t ∧ lv (flat t k) i = k + hgt t - 1 := by
 induction t with
 | nil => intro k h; simp [cnt] at h
 | node l v r ihl ihr =>
  intro k _
  simp only [cnt, hgt]
  by_cases c : hgt r ≤ hgt l
  ·by_cases c0 : 0 < cnt l
   ·obtain ⟨i, hi, e⟩ := ihl (k + 1) c0
    refine ⟨i, by omega, ?_⟩
    rw [lv_node, if_pos hi, e]; omega
   ·have h0 : hgt l = 0 := by have := hgt_le l; omega
    refine ⟨cnt l, by omega, ?_⟩
    rw [lv_node, if_neg (by omega), if_pos rfl]; omega
  ·have c0 : 0 < cnt r := by have := hgt_le r; omega
   obtain ⟨i, hi, e⟩ := ihr (k + 1) c0
   refine ⟨cnt l + 1 + i, by omega, ?_⟩
   rw [lv_node, if_neg (by omega), if_neg (by omega), show cnt l + 1 + i - cnt l - 1 = i by omega, e]; omega
structure Seg (L A : List (α × Int)) (t : Tr α) (k : Int) (B : List (α × Int)) : Prop where
 eq : L = A ++ flat t k ++ B
 pre : ∀ x, A.getLast? = some x → x.2 < k
 post : ∀ x, B.head? = some x → x.2 < k
theorem Seg.len {L A B : List (α × Int)} {t : Tr α} {k : Int} (h : Seg L A t k B) : L.length = A.length + cnt t + B.length := by
 rw [h.eq, List.length_append, List.length_append, flat_length]
theorem Seg.lv {L A B : List (α × Int)} {t : Tr α} {k : Int} (h : Seg L A t k B) (i : Nat) (hi : i < cnt t) : TP.lv L (A.length + i) = TP.lv (flat t k) i := by
 rw [h.eq, lv_left _ _ _ (by rw [List.length_append, flat_length]; omega), lv_right _ _ _ (by omega), Nat.add_sub_cancel_left]
theorem Seg.before {L A B : List (α × Int)} {t : Tr α} {k : Int} (h : Seg L A t k B) (h0 : 0 < A.length) : TP.lv L (A.length - 1) < k := by
 rw [h.eq, List.append_assoc, lv_left _ _ _ (by omega)]
 unfold TP.lv
 have e : A[A.length - 1]? = A.getLast? := by rw [List.getLast?_eq_getElem?]
 rw [e]
 cases hx : A.getLast? with
 | none => rw [List.getLast?_eq_none_iff] at hx; subst hx; simp at h0
 | some x => exact h.pre x hx
theorem Seg.behind {L A B : List (α × Int)} {t : Tr α} {k : Int} (h : Seg L A t k B) (h0 : A.length + cnt t < L.length) : TP.lv L (A.length + cnt t) < k := by
 have hl := h.len
 rw [h.eq, lv_right _ _ _ (by rw [List.length_append, flat_length]; omega), List.length_append, flat_length, Nat.sub_self]
 unfold TP.lv
 cases hB : B with
 | nil => rw [hB] at hl; simp at hl; omega
 | cons x B' => exact h.post x (by rw [hB]; rfl)
theorem Seg.left {L A B : List (α × Int)} {l r : Tr α} {v : α} {k : Int} (h : Seg L A (node l v r) k B) : Seg L A l (k + 1) ((v, k) :: flat r (k + 1) ++ B) :=
 ⟨by rw [h.eq]; simp [flat], fun x hx => by have := h.pre x hx; omega, fun x hx => by simp only [List.cons_append, List.head?_cons, Option.some.injEq] at hx; subst hx; dsimp only; omega⟩
theorem Seg.right {L A B : List (α × Int)} {l r : Tr α} {v : α} {k : Int} (h : Seg L A (node l v r) k B) : Seg L (A ++ (flat l (k + 1) ++ [(v, k)])) r (k + 1) B :=
 ⟨by rw [h.eq]; simp [flat], fun x hx => by simp only [List.getLast?_append, List.getLast?_singleton, Option.some_or, Option.some.injEq] at hx; subst hx; dsimp only; omega, fun x hx => by have := h.post x hx; omega⟩
theorem Seg.root {L A B : List (α × Int)} {l r : Tr α} {v : α} {k : Int} (h : Seg L A (node l v r) k B) : TP.lv L (A.length + cnt l) = k := by
 rw [h.lv _ (by simp only [cnt]; omega), lv_node, if_neg (by omega), if_pos rfl]
theorem Seg.inL {L A B : List (α × Int)} {l r : Tr α} {v : α} {k : Int} (h : Seg L A (node l v r) k B) (j : Nat) (h1 : A.length ≤ j) (h2 : j < A.length + cnt l) : k < TP.lv L j := by
 have := h.left.lv (j - A.length) (by omega)
 rw [show A.length + (j - A.length) = j by omega] at this
 rw [this]
 have := lv_flat_bound l (k + 1) (j - A.length) (by omega); omega
theorem Seg.inR {L A B : List (α × Int)} {l r : Tr α} {v : α} {k : Int} (h : Seg L A (node l v r) k B) (j : Nat) (h1 : A.length + cnt l < j) (h2 : j < A.length + cnt l + 1 + cnt r) : k < TP.lv L j := by
 have hl : (A ++ (flat l (k + 1) ++ [(v, k)])).length = A.length + cnt l + 1 := by simp [flat_length]; omega
 have := h.right.lv (j - (A.length + cnt l + 1)) (by omega)
 rw [hl, show A.length + cnt l + 1 + (j - (A.length + cnt l + 1)) = j by omega] at this
 rw [this]
 have := lv_flat_bound r (k + 1) (j - (A.length + cnt l + 1)) (by omega); omega
def Hgt (L : List (α × Int)) (lo hi : Nat) (h : Nat) : Prop := (hi ≤ lo ∧ h = 0) ∨ (lo < hi ∧ 1 ≤ h ∧ ∃ m : Int, (∀ j, lo ≤ j → j < hi → m ≤ lv L j ∧ lv L j ≤ m + h - 1) ∧ (∃ j, lo ≤ j ∧ j < hi ∧ lv L j = m) ∧ (∃ j, lo ≤ j ∧ j < hi ∧ lv L j = m + h - 1))
theorem Seg.hgt {L A B : List (α × Int)} {t : Tr α} {k : Int} (h : Seg L A t k B) : Hgt L A.length (A.length + cnt t) (TP.hgt t) := by
 cases t with
 | nil => exact .inl ⟨by simp [cnt], rfl⟩
 | node l v r =>
  refine .inr ⟨by simp only [cnt]; omega, by simp only [TP.hgt]; omega, k, fun j h1 h2 => ?_, ⟨A.length + cnt l, by omega, by simp only [cnt]; omega, h.root⟩, ?_⟩
  ·have e := h.lv (j - A.length) (by omega)
   rw [show A.length + (j - A.length) = j by omega] at e
   have := lv_flat_bound (node l v r) k (j - A.length) (by omega)
   rw [e]; omega
  ·obtain ⟨i, hi, e⟩ := lv_flat_max (node l v r) k (by simp only [cnt]; omega)
   exact ⟨A.length + i, by omega, by omega, by rw [h.lv i hi, e]⟩
end Go.Proofs.YtciabhncmdpeeaaDoor.TP
