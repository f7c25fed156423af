/- What StoreRead answers, plainly; the machine's StoreRead answers so, for every store of at most 2000000 numbers. Condition: errors.errorType reads as laid. -/
import Derived.Test.YtefdjajmnkmbgaaDoorHsto
namespace Go.Proofs.YtefdjajmnkmbgaaDoor
open Go.RowKit Go.Proofs.YtefdjajmnkmbgaaDoorW.PrintWords Go.Proofs.YtefdjajmnkmbgaaDoorW.PrintLast Er
theorem ev_now {α : Type} {g : Nat → Option α} {r : α} (h : ∀ k, g (k + 1) = some r) : Ev g r :=
  ⟨1, fun k hk => by obtain ⟨m, rfl⟩ : ∃ m, k = m + 1 := ⟨k - 1, by omega⟩; exact h m⟩
theorem rd_at (xs : List Int) (i : Nat) (h : i < xs.length) : rd xs (i : Int) = xs[i] := by
  unfold rd; simp [List.getD, h]
/-- how many breaks -/
def brk (l : List Int) : Nat := l.countP (· == 10)
theorem brk_le (l : List Int) : brk l ≤ l.length := List.countP_le_length
theorem brk_loop (xs : List Int) (hn : xs.length ≤ 9000000) (d : Nat) : ∀ i : Nat, i + d = xs.length →
    Ev (fun k => QBase.impl_breaksIn.l0 k (brk (xs.take i) : Int) xs (xs.length : Int) (i : Int)) (brk xs : Int) := by
  induction d with
  | zero =>
    intro i hi
    obtain rfl : i = xs.length := by omega
    refine ev_now fun k => ?_
    simp only [QBase.impl_breaksIn.l0]
    rw [if_neg (by omega)]
    simp
  | succ d ih =>
    intro i hi
    have hlt : i < xs.length := by omega
    have e : brk (xs.take (i + 1)) = brk (xs.take i) + (if xs[i] = 10 then 1 else 0) := by
      unfold brk; rw [List.take_succ_eq_append_getElem hlt, List.countP_append, List.countP_singleton]; simp
    have hb : brk (xs.take i) ≤ 9000000 := by have := brk_le (xs.take i); simp at this; omega
    refine Ev.step (f := fun k => QBase.impl_breaksIn.l0 k (brk (xs.take (i + 1)) : Int) xs (xs.length : Int) ((i + 1 : Nat) : Int)) (fun k => ?_) (ih (i + 1) (by omega))
    simp only [QBase.impl_breaksIn.l0]
    rw [if_pos (by omega), if_pos (by omega), if_pos (by omega), rd_at xs i hlt]
    by_cases c : xs[i] = 10
    · rw [if_pos c, e, if_pos c, w64 (by omega), w64 (by omega)]; rfl
    · rw [if_neg c, e, if_neg c, w64 (by omega)]; rfl
theorem brk_ev (xs : List Int) (hn : xs.length ≤ 9000000) : Ev (fun k => QBase.impl_breaksIn.f k xs) (brk xs : Int) := by
  unfold QBase.impl_breaksIn.f
  exact brk_loop xs hn xs.length 0 (by omega)
def storeReadV (l : List Int) (off len : Int) : List Int × Int × Int :=
  if storeBad l.length off len then ([], 0, 2) else ((l.take (wrap64 (off + len)).toNat).drop off.toNat, brk ((l.take (wrap64 (off + len)).toNat).drop off.toNat), 0)
theorem storeRead_any (A0 : Option Addr) (c0 : Nat) (l0 : List Int) (off len : Int) (r1 : List Int) (r2 r3 : Int) (w : World) (hr0 : Kd.C (Kd.int .i32) w A0 l0.length l0) (hc0 : l0.length ≤ c0) (hg : HG w)
    (h : (if l0.length ≤ 2000000 then some (storeReadV l0 off len) else none) = some (r1, r2, r3)) :
    Calls Tryd.prog 23 #[.slice A0 l0.length c0, .agg #[.int .i64 off, .int .i64 len]] w (fun e w' => ∃ v0_ : Value, e = .returned (.tuple #[v0_, .int .i64 r2, .int .i64 r3]) ∧ Kd.R (Kd.int .i32) 21 w' w.heap.size (fun _ => True) v0_ r1 ∧ Below w.heap.size w w') := by
  by_cases hl : l0.length ≤ 2000000
  · rw [if_pos hl] at h
    simp only [Option.some.injEq, storeReadV] at h
    by_cases hb : storeBad l0.length off len
    · rw [if_pos hb] at h
      simp only [Prod.mk.injEq] at h
      obtain ⟨rfl, rfl, rfl⟩ := h
      exact storeRead_bad A0 c0 l0 off len w (by omega) hg hb
    · rw [if_neg hb] at h
      simp only [Prod.mk.injEq] at h
      obtain ⟨rfl, rfl, rfl⟩ := h
      obtain ⟨k, hk⟩ := brk_ev ((l0.take (wrap64 (off + len)).toNat).drop off.toNat) (by simp only [List.length_drop, List.length_take]; omega)
      exact storeRead_good A0 c0 l0 off len w hr0 hc0 k _ hb (by omega) (hk k (Nat.le_refl _))
  · rw [if_neg hl] at h; cases h
end Go.Proofs.YtefdjajmnkmbgaaDoor
