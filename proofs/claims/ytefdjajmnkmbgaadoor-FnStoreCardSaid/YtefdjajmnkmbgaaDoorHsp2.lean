/- What StoreAppend answers, plainly; the machine's StoreAppend answers so, for lists of at most 2000000. Condition: errors.errorType reads as laid. -/
import Derived.Test.YtefdjajmnkmbgaaDoorHsp
import Derived.Test.YtefdjajmnkmbgaaDoorHdec
namespace Go.Proofs.YtefdjajmnkmbgaaDoor
open Go.RowKit Go.Proofs.YtefdjajmnkmbgaaDoorW.PrintWords Go.Proofs.YtefdjajmnkmbgaaDoorW.PrintLast Er
def storeAppendV (l b : List Int) : List Int × Int × Int × Int :=
  if (220000 : Int) < (l.length : Int) + ((Dec.dec b.length b).length : Int) then ([], 0, 0, 10) else (l ++ Dec.dec b.length b, l.length, (Dec.dec b.length b).length, 0)
instance (b : List Int) : Decidable (Dec.bytes b) := by unfold Dec.bytes; infer_instance
theorem storeAppend_any (A0 A1 : Option Addr) (c0 c1 : Nat) (l0 l1 : List Int) (r1 : List Int) (r2 r3 r4 : Int) (w : World) (hr0 : Kd.C (Kd.int .i32) w A0 l0.length l0) (hr1 : Kd.C (Kd.int .u8) w A1 l1.length l1) (hc1 : l1.length ≤ c1) (hg : HG w)
    (h : (if l0.length ≤ 2000000 ∧ l1.length ≤ 2000000 ∧ Dec.bytes l1 then some (storeAppendV l0 l1) else none) = some (r1, r2, r3, r4)) :
    Calls Tryd.prog 22 #[.slice A0 l0.length c0, .slice A1 l1.length c1] w (fun e w' => ∃ v0_ : Value, e = .returned (.tuple #[v0_, .agg #[.int .i64 r2, .int .i64 r3], .int .i64 r4]) ∧ Kd.R (Kd.int .i32) 21 w' w.heap.size (fun _ => True) v0_ r1 ∧ Below w.heap.size w w') := by
  by_cases hl : l0.length ≤ 2000000 ∧ l1.length ≤ 2000000 ∧ Dec.bytes l1
  · rw [if_pos hl] at h
    obtain ⟨k, hk⟩ := Dec.impl_ev l1 hl.2.1 hl.2.2
    have hk := hk k (Nat.le_refl _)
    have hd := Dec.dec_length l1.length l1 (Nat.le_refl _)
    simp only [Option.some.injEq, storeAppendV] at h
    generalize Dec.dec l1.length l1 = rs at h hk hd
    by_cases hb : (220000 : Int) < (l0.length : Int) + (rs.length : Int)
    · rw [if_pos hb] at h
      simp only [Prod.mk.injEq] at h
      obtain ⟨rfl, rfl, rfl, rfl⟩ := h
      exact storeAppend_bad A0 A1 c0 c1 l0 l1 w hr1 hc1 hg k rs hk (by rw [w64 (by omega)]; exact hb)
    · rw [if_neg hb] at h
      simp only [Prod.mk.injEq] at h
      obtain ⟨rfl, rfl, rfl, rfl⟩ := h
      exact storeAppend_good A0 A1 c0 c1 l0 l1 w hr0 hr1 hc1 k rs hk (by rw [w64 (by omega)]; exact hb) (by omega)
  · rw [if_neg hl] at h; cases h
end Go.Proofs.YtefdjajmnkmbgaaDoor
