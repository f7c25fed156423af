/- What a balanced tree's items read as: the tree itself. Conditions: as grownV's. -/
import Derived.Test.YtciabhncmdpeeaaDoorTr15a
namespace Go.Proofs.YtciabhncmdpeeaaDoor
open Go.RowKit Go.Proofs.YtciabhncmdpeeaaDoorW.PrintWords Go.Proofs.YtciabhncmdpeeaaDoorW.PrintLast Go.Proofs.YtciabhncmdpeeaaDoorW.PrintMore Er
theorem scanL_skip (level : Int) (A B : List It) : ∀ (i : Nat) (root : Int), (∀ x ∈ A, level < x.f1) → scanL level (A ++ B) i root = scanL level B (i + A.length) root := by
 induction A with
 | nil => intro i root _; rfl
 | cons x A ih =>
  intro i root h
  have hx := h x (by simp)
  rw [List.cons_append]
  simp only [scanL]
  rw [if_neg (by omega), if_neg (by omega), ih _ _ (fun y hy => h y (by simp [hy])), List.length_cons]
  congr 1; omega
theorem avl_hgt (t : Tree) : TP.Avl t → 2 ^ TP.hgt t ≤ (TP.cnt t + 1) * (TP.cnt t + 1) := by
 induction t with
 | nil => intro _; simp [TP.hgt, TP.cnt]
 | node l x r ihl ihr =>
  intro h
  obtain ⟨hl, hr, h1, h2⟩ := h
  have il := ihl hl
  have ir := ihr hr
  simp only [TP.hgt, TP.cnt]
  generalize TP.cnt l = a at il
  generalize TP.cnt r = b at ir
  generalize TP.hgt l = p at il h1 h2
  generalize TP.hgt r = q at ir h1 h2
  have key : ∀ (a b p q : Nat), q ≤ p → p ≤ q + 1 → 2 ^ p ≤ (a + 1) * (a + 1) → 2 ^ q ≤ (b + 1) * (b + 1) → 2 ^ (p + 1) ≤ (a + b + 1 + 1) * (a + b + 1 + 1) := by
   intro a b p q h1 h2 i1 i2
   have e : 2 ^ p ≤ 2 * 2 ^ q := by
    rw [Nat.mul_comm, ← Nat.pow_succ]
    exact Nat.pow_le_pow_right (by omega) (by omega)
   have e2 : (a + b + 1 + 1) * (a + b + 1 + 1) = (a + 1) * (a + 1) + (b + 1) * (b + 1) + 2 * ((a + 1) * (b + 1)) := by
    have := Nat.mul_comm a b
    simp only [Nat.mul_add, Nat.add_mul]; omega
   rw [e2, Nat.pow_succ]
   rcases Nat.le_total b a with c | c
   ·have : (b + 1) * (b + 1) ≤ (a + 1) * (b + 1) := Nat.mul_le_mul_right _ (by omega)
    omega
   ·have : (a + 1) * (a + 1) ≤ (a + 1) * (b + 1) := Nat.mul_le_mul_left _ (by omega)
    omega
  rcases Nat.le_total q p with c | c
  ·rw [Nat.max_eq_left c]; exact key a b p q c (by omega) il ir
  ·rw [Nat.max_eq_right c, show a + b + 1 + 1 = b + a + 1 + 1 by omega]; exact key b a q p c (by omega) ir il
theorem rootedV_of (n : Nat) : ∀ (t : Tree) (level : Int), TP.cnt t < n → TP.Avl t → level + (TP.hgt t : Int) ≤ 41 → rootedV n ((TP.flat t level).map toIt) level = some t := by
 induction n with
 | zero => intro t level h; omega
 | succ n ih =>
  intro t level hc ha hh
  cases t with
  | nil => simp [rootedV, TP.flat]
  | node l x r =>
   obtain ⟨hl, hr, h1, h2⟩ := ha
   simp only [TP.cnt] at hc
   simp only [TP.hgt] at hh
   have il := ih l (level + 1) (by omega) hl (by omega)
   have ir := ih r (level + 1) (by omega) hr (by omega)
   have ll : ((TP.flat l (level + 1)).map toIt).length = TP.cnt l := by rw [List.length_map, TP.flat_length]
   have bl : ∀ y ∈ (TP.flat l (level + 1)).map toIt, level < y.f1 := by
    intro y hy
    obtain ⟨z, hz, rfl⟩ := List.mem_map.1 hy
    have := TP.flat_lev l (level + 1) z hz
    show level < z.2
    omega
   have br : ∀ y ∈ (TP.flat r (level + 1)).map toIt, level < y.f1 := by
    intro y hy
    obtain ⟨z, hz, rfl⟩ := List.mem_map.1 hy
    have := TP.flat_lev r (level + 1) z hz
    show level < z.2
    omega
   have e : (TP.flat (.node l x r) level).map toIt = (TP.flat l (level + 1)).map toIt ++ (toIt (x, level) :: (TP.flat r (level + 1)).map toIt) := by simp [TP.flat]
   have hs : scanL level ((TP.flat (.node l x r) level).map toIt) 0 (-1) = some (TP.cnt l : Int) := by
    rw [e, scanL_skip level _ _ 0 (-1) bl, ll, Nat.zero_add]
    simp only [scanL]
    rw [if_neg (show ¬ ((toIt (x, level)).f1 < level ∨ ((toIt (x, level)).f1 = level ∧ (0 : Int) ≤ -1)) by simp only [toIt]; omega), if_pos (show (toIt (x, level)).f1 = level from rfl)]
    have := scanL_skip level ((TP.flat r (level + 1)).map toIt) [] (TP.cnt l + 1) (TP.cnt l : Int) br
    rw [List.append_nil] at this
    rw [this]; rfl
   generalize hX : (TP.flat (.node l x r) level).map toIt = xs at e hs
   have hlen : xs.length = TP.cnt l + (TP.cnt r + 1) := by rw [e, List.length_append, ll, List.length_cons, List.length_map, TP.flat_length]
   have et : xs.take (TP.cnt l) = (TP.flat l (level + 1)).map toIt := by rw [e]; exact List.take_left' ll
   have ed : xs.drop (TP.cnt l + 1) = (TP.flat r (level + 1)).map toIt := by
    rw [e, List.drop_append, List.drop_eq_nil_of_le (by omega), ll, Nat.add_sub_cancel_left, List.nil_append, List.drop_succ_cons, List.drop_zero]
   have eg : QBase.rd_T54 xs (TP.cnt l : Int) = toIt (x, level) := by
    unfold QBase.rd_T54
    rw [e]
    simp only [Int.toNat_natCast, List.getD]
    rw [List.getElem?_append_right (by omega), ll, Nat.sub_self]
    rfl
   simp only [rootedV]
   rw [if_neg (by omega), if_neg (by omega), hs]
   simp only [Int.toNat_natCast]
   rw [if_neg (by omega), et, ed, il, ir]
   simp only
   rw [if_pos ⟨h1, h2⟩, eg]
   rfl
theorem grownV_of (t : Tree) (ha : TP.Avl t) (hc : TP.cnt t ≤ 8192) (hg : AllGood ((TP.flat t 0).map toIt)) (hs : sumL ((TP.flat t 0).map toIt) ≤ 8192) : grownV ((TP.flat t 0).map toIt) = some t := by
 have hl : ((TP.flat t 0).map toIt).length = TP.cnt t := by rw [List.length_map, TP.flat_length]
 unfold grownV
 rw [if_pos ⟨by omega, hg, hs⟩, hl]
 refine rootedV_of _ t 0 (by omega) ha ?_
 have h1 := avl_hgt t ha
 have h2 : (TP.cnt t + 1) * (TP.cnt t + 1) ≤ 8193 * 8193 := Nat.mul_le_mul (by omega) (by omega)
 have h3 : TP.hgt t < 27 := by
  refine Nat.lt_of_not_le fun h => ?_
  have : 2 ^ 27 ≤ 2 ^ TP.hgt t := Nat.pow_le_pow_right (by omega) h
  have e27 : (2 : Nat) ^ 27 = 134217728 := by decide
  omega
 omega
def GoodPc (p : Pc) : Prop := 0 ≤ p.off ∧ p.off ≤ 220000 ∧ 1 ≤ p.len ∧ p.len ≤ 8192 ∧ p.off + p.len ≤ 220000 ∧ 0 ≤ p.brk ∧ p.brk ≤ p.len
theorem allGood_flat (t : Tree) (h : ∀ p ∈ TP.toL t, GoodPc p) : AllGood ((TP.flat t 0).map toIt) := by
 intro x hx
 obtain ⟨z, hz, rfl⟩ := List.mem_map.1 hx
 have : z.1 ∈ TP.toL t := by rw [← TP.flat_toL t 0]; exact List.mem_map.2 ⟨z, hz, rfl⟩
 exact h z.1 this
theorem sumL_flat (t : Tree) : sumL ((TP.flat t 0).map toIt) = ((TP.toL t).map Pc.len).sum := by
 rw [sumL_map, ← TP.flat_toL t 0, List.map_map, List.map_map, List.map_map]; rfl
theorem len_sum (ps : List Pc) (h : ∀ p ∈ ps, GoodPc p) : (ps.length : Int) ≤ (ps.map Pc.len).sum := by
 induction ps with
 | nil => simp
 | cons p ps ih =>
  have h1 := (h p (by simp)).2.2.1
  have h2 := ih (fun q hq => h q (by simp [hq]))
  simp only [List.map_cons, List.sum_cons, List.length_cons]; omega
theorem grownV_good (t : Tree) (ha : TP.Avl t) (hg : ∀ p ∈ TP.toL t, GoodPc p) (hs : ((TP.toL t).map Pc.len).sum ≤ 8192) : grownV ((TP.flat t 0).map toIt) = some t := by
 have h1 := len_sum _ hg
 rw [TP.toL_length] at h1
 exact grownV_of t ha (by omega) (allGood_flat t hg) (by rw [sumL_flat]; exact hs)
theorem fill (s : TP.Tr Unit) : ∀ (level : Int) (ps : List Pc), ps.length = TP.cnt s → TP.Avl s → ∃ t : Tree, TP.flat t level = ps.zip ((TP.flat s level).map Prod.snd) ∧ TP.Avl t ∧ TP.hgt t = TP.hgt s := by
 induction s with
 | nil => intro level ps h _; exact ⟨.nil, by simp [TP.flat], trivial, rfl⟩
 | node l u r ihl ihr =>
  intro level ps h ha
  simp only [TP.cnt] at h
  obtain ⟨hl, hr, h1, h2⟩ := ha
  obtain ⟨tl, a1, a2, a3⟩ := ihl (level + 1) (ps.take (TP.cnt l)) (by rw [List.length_take]; omega) hl
  obtain ⟨tr, b1, b2, b3⟩ := ihr (level + 1) (ps.drop (TP.cnt l + 1)) (by rw [List.length_drop]; omega) hr
  have hlt : TP.cnt l < ps.length := by omega
  refine ⟨.node tl ps[TP.cnt l] tr, ?_, ⟨a2, b2, by omega, by omega⟩, by simp only [TP.hgt]; rw [a3, b3]⟩
  have e : ps = ps.take (TP.cnt l) ++ (ps[TP.cnt l] :: ps.drop (TP.cnt l + 1)) := by rw [← List.drop_eq_getElem_cons hlt, List.take_append_drop]
  have e2 : (TP.flat (.node l u r) level).map Prod.snd = (TP.flat l (level + 1)).map Prod.snd ++ (level :: (TP.flat r (level + 1)).map Prod.snd) := by simp [TP.flat]
  rw [e2]
  conv => rhs; rw [e]
  rw [List.zip_append (by rw [List.length_take, List.length_map, TP.flat_length]; omega), List.zip_cons_cons, ← a1, ← b1]
  simp [TP.flat]
theorem cnt_pow (s : TP.Tr Unit) : TP.cnt s + 1 ≤ 2 ^ TP.hgt s := by
 induction s with
 | nil => simp [TP.cnt, TP.hgt]
 | node l u r ihl ihr =>
  simp only [TP.cnt, TP.hgt]
  have h1 : 2 ^ TP.hgt l ≤ 2 ^ max (TP.hgt l) (TP.hgt r) := Nat.pow_le_pow_right (by omega) (Nat.le_max_left _ _)
  have h2 : 2 ^ TP.hgt r ≤ 2 ^ max (TP.hgt l) (TP.hgt r) := Nat.pow_le_pow_right (by omega) (Nat.le_max_right _ _)
  rw [Nat.pow_succ]; omega
end Go.Proofs.YtciabhncmdpeeaaDoor
