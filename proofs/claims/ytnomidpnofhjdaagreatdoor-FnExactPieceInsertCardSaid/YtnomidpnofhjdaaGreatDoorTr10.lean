/- TreeFind and TreeFindLine, walked, and what a tree that came in reads as. Conditions: at most 1048576 items; errors.errorType reads as laid. -/
import Derived.Test.YtnomidpnofhjdaaGreatDoorTr9
namespace Go.Proofs.YtnomidpnofhjdaaGreatDoor
open Go.RowKit Go.Proofs.YtnomidpnofhjdaaGreatDoorW.PrintWords Go.Proofs.YtnomidpnofhjdaaGreatDoorW.PrintLast Go.Proofs.YtnomidpnofhjdaaGreatDoorW.PrintMore Er
def itv (x : It) : Pc × Int := (pcOf x, x.f1)
theorem scanL_at (level : Int) (xs : List It) : ∀ (i : Nat) (root : Int) (r : Int), scanL level xs i root = some r → r = root ∨ ∃ j : Nat, j < xs.length ∧ r = (i + j : Nat) ∧ (QBase.rd_T86 xs (j : Int)).f1 = level := by
 induction xs with
 | nil => intro i root r h; simp only [scanL, Option.some.injEq] at h; exact .inl h.symm
 | cons x xs ih =>
  intro i root r h
  simp only [scanL] at h
  split at h
  ·cases h
  ·rcases ih (i + 1) _ r h with h1 | ⟨j, hj, h1, h2⟩
   ·by_cases c : x.f1 = level
    ·rw [if_pos c] at h1
     exact .inr ⟨0, by simp, by rw [h1]; simp, by simpa [QBase.rd_T86] using c⟩
    ·rw [if_neg c] at h1; exact .inl h1
   ·refine .inr ⟨j + 1, by simp; omega, by rw [h1]; congr 1; omega, ?_⟩
    have e : QBase.rd_T86 (x :: xs) ((j + 1 : Nat) : Int) = QBase.rd_T86 xs (j : Int) := by
     unfold QBase.rd_T86; simp only [Int.toNat_natCast, List.getD_cons_succ]
    rw [e]; exact h2
theorem rootedV_flat (n : Nat) : ∀ (xs : List It) (level : Int) (t : Tree), rootedV n xs level = some t → TP.flat t level = xs.map itv ∧ TP.Avl t := by
 induction n with
 | zero => intro xs level t h; cases h
 | succ n ih =>
  intro xs level t h
  simp only [rootedV] at h
  split at h
  ·rename_i h0
   obtain rfl : xs = [] := by simpa using h0
   cases h; exact ⟨rfl, trivial⟩
  ·split at h
   ·cases h
   ·cases hs : scanL level xs 0 (-1) with
    | none => rw [hs] at h; cases h
    | some root =>
     rw [hs] at h
     simp only at h
     split at h
     ·cases h
     ·rename_i hneg
      rcases scanL_at level xs 0 (-1) root hs with h1 | ⟨j, hj, h1, h2⟩
      ·omega
      ·obtain rfl : root = (j : Int) := by rw [h1]; simp
       simp only [Int.toNat_natCast] at h
       split at h
       ·rename_i l r hl hr
        split at h
        ·rename_i hb
         cases h
         obtain ⟨f1, a1⟩ := ih _ _ _ hl
         obtain ⟨f2, a2⟩ := ih _ _ _ hr
         refine ⟨?_, a1, a2, hb.1, hb.2⟩
         simp only [TP.flat, f1, f2]
         have e : xs = xs.take j ++ QBase.rd_T86 xs (j : Int) :: xs.drop (j + 1) := by
          rw [← rd_drop xs j hj, List.take_append_drop]
         conv => rhs; rw [e]
         rw [List.map_append, List.map_cons]
         congr 2
         unfold itv; rw [h2]
        ·cases h
       ·cases h
theorem rl_toL (t : Tree) : rl t = ((TP.toL t).map Pc.len).sum ∧ kl t = ((TP.toL t).map Pc.brk).sum := by
 induction t with
 | nil => exact ⟨rfl, rfl⟩
 | node l v r ihl ihr =>
  simp only [rl, kl, TP.toL, List.map_append, List.map_cons, List.sum_append, List.sum_cons, ihl.1, ihl.2, ihr.1, ihr.2]
  omega
theorem sumL_map (xs : List It) : sumL xs = ((xs.map pcOf).map Pc.len).sum := by
 induction xs with
 | nil => rfl
 | cons x xs ih => simp only [sumL, List.map_cons, List.sum_cons, ih]; rfl
theorem grownV_toL {xs : List It} {t : Tree} (h : grownV xs = some t) : TP.toL t = xs.map pcOf ∧ TP.Avl t ∧ TP.flat t 0 = xs.map itv ∧ xs.length ≤ 8192 ∧ AllGood xs ∧ sumL xs ≤ 8192 := by
 unfold grownV at h
 split at h
 ·rename_i hh
  obtain ⟨f, a⟩ := rootedV_flat _ _ _ _ h
  refine ⟨?_, a, f, hh⟩
  rw [← TP.flat_toL t 0, f, List.map_map]; rfl
 ·cases h
def AllP (t : Tree) : Prop := ∀ v ∈ TP.toL t, 1 ≤ v.len ∧ 0 ≤ v.brk ∧ v.brk ≤ v.len
theorem Fine_of (t : Tree) (h : AllP t) (hb : rl t ≤ 8192) : Fine t := by
 have key : ∀ t : Tree, AllP t → (TP.cnt t : Int) ≤ rl t ∧ 0 ≤ kl t ∧ kl t ≤ rl t := by
  intro t
  induction t with
  | nil => intro _; simp [TP.cnt, rl, kl]
  | node l v r ihl ihr =>
   intro h
   have h1 := ihl (fun x hx => h x (by simp [TP.toL, hx]))
   have h2 := ihr (fun x hx => h x (by simp [TP.toL, hx]))
   have h3 := h v (by simp [TP.toL])
   simp only [TP.cnt, rl, kl]; omega
 induction t with
 | nil => trivial
 | node l v r ihl ihr =>
  have hl : AllP l := fun x hx => h x (by simp [TP.toL, hx])
  have hr : AllP r := fun x hx => h x (by simp [TP.toL, hx])
  have h3 := h v (by simp [TP.toL])
  have k1 := key l hl; have k2 := key r hr; have k3 := key _ h
  simp only [rl] at hb
  refine ⟨ihl hl (by omega), ihr hr (by omega), by omega, by omega, ?_, ?_, ?_⟩
  ·simp only [rl] at k3 ⊢; omega
  ·simp only [kl, rl] at k3 ⊢; omega
  ·simp only [rl] at k3; omega
theorem grownV_fine {xs : List It} {t : Tree} (h : grownV xs = some t) : Fine t ∧ rl t = sumL xs ∧ rl t ≤ 8192 ∧ TP.cnt t = xs.length := by
 obtain ⟨h1, h2, h3, h4, h5, h6⟩ := grownV_toL h
 have e : rl t = sumL xs := by rw [(rl_toL t).1, h1, sumL_map]
 refine ⟨Fine_of t (fun v hv => ?_) (by omega), e, by omega, ?_⟩
 ·rw [h1] at hv
  obtain ⟨x, hx, rfl⟩ := List.mem_map.1 hv
  have := h5 x hx
  unfold goodP at this
  simp only [pcOf]; omega
 ·have := congrArg List.length h3
  rw [TP.flat_length, List.length_map] at this; exact this
theorem errIs_ev {w : World} {v : Value} {c : Int} (h : ErrIs w v c) : ∃ T x, v = ev (some (T, x)) := by
 rcases h with rfl | ⟨pb, rfl, _⟩
 ·exact ⟨_, _, rfl⟩
 ·exact ⟨_, _, rfl⟩
theorem firstOf2 (w : World) (g : Nat) (a b : EV) (h0 : w.cell? ⟨g, 0, none⟩ = some (ev a)) (h1 : w.cell? ⟨g, 1, none⟩ = some (ev b)) :
  Calls Tryz.prog 32 #[.slice (some ⟨g, 0, none⟩) 2 2] w fun e w' => e = .returned (ev (firstE [a, b])) ∧ w' = w :=
 firstOf_any w g [a, b] (by simp) (fun i v h => by
  rcases i with _ | _ | i
  ·cases h; exact h0
  ·cases h; exact h1
  ·simp at h)
end Go.Proofs.YtnomidpnofhjdaaGreatDoor
