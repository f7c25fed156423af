/- For every list of 32-bit numbers and every span the law FnExactStoreRead tells true. No condition. -/
import Derived.Test.YtohckpdlpadgcaaDoorQFnExactStoreReadx2
namespace Go.Proofs.YtohckpdlpadgcaaDoor.PureFnExactStoreRead
open Go Go.RowKit Go.Proofs.YtohckpdlpadgcaaDoor.QFnExactStoreRead Go.Proofs.YtohckpdlpadgcaaDoorW.PrintWords Go.Proofs.YtohckpdlpadgcaaDoorW.PrintLast

theorem ev_const {α : Type} {g : Nat → Option α} {r : α} (h : ∀ k, g k = some r) : Ev g r := ⟨0, fun k _ => h k⟩
def mk (f : Int → Int) (k : Int) (n : Nat) : List Int := (List.range n).map fun j => f (k + (j : Nat))
theorem mk_length (f : Int → Int) (k : Int) (n : Nat) : (mk f k n).length = n := by simp [mk]
theorem mk_get (f : Int → Int) (k : Int) (n i : Nat) (h : i < n) : rd (mk f k n) (i : Int) = f (k + i) := by
  rw [rd_at _ _ (by simpa [mk] using h)]; simp [mk]

theorem toInt32S_loop (xs : List Int) (hn : xs.length ≤ 1048576) (d : Nat) : ∀ i : Nat, i + d = xs.length →
    Ev (fun k => laws_toInt32S.l0 k xs (xs.take i ++ List.replicate d 0) (i : Int)) xs := by
  induction d with
  | zero =>
    intro i hi
    obtain rfl : i = xs.length := by omega
    refine ev_now fun k => ?_
    simp only [laws_toInt32S.l0]
    rw [if_neg (by omega)]
    simp
  | succ d ih =>
    intro i hi
    have hlt : i < xs.length := by omega
    refine Ev.step (f := fun k => laws_toInt32S.l0 k xs (xs.take (i + 1) ++ List.replicate d 0) ((i + 1 : Nat) : Int)) (fun k => ?_) (ih (i + 1) (by omega))
    simp only [laws_toInt32S.l0]
    rw [if_pos (by omega), if_pos (by omega), if_pos (by simp; omega), w64 (by omega)]
    congr 1
    · rw [rd_at xs i hlt, Int.toNat_natCast, List.set_append_right _ _ (by simp; omega)]
      rw [show i - (xs.take i).length = 0 by simp; omega, List.replicate_succ, List.set_cons_zero, List.take_succ_eq_append_getElem hlt, List.append_assoc]; rfl
theorem toInt32S_ev (xs : List Int) (hn : xs.length ≤ 1048576) : Ev (fun k => laws_toInt32S.f k xs) xs := by
  unfold laws_toInt32S.f
  have h := toInt32S_loop xs hn xs.length 0 (by omega)
  simp only [List.take_zero, List.nil_append] at h
  refine Ev.congr (f := fun k => laws_toInt32S.l0 k xs (List.replicate xs.length 0) ((0 : Nat) : Int)) (fun k => ?_) h
  rw [if_pos (by omega), if_pos (by omega)]; rfl

theorem eqInt32S_loop (xs : List Int) (hn : xs.length ≤ 9000000) (d : Nat) : ∀ i : Nat, i + d = xs.length →
    Ev (fun k => laws_eqInt32S.l0 k xs xs (i : Int)) true := by
  induction d with
  | zero => intro i hi; refine ev_now fun k => ?_; simp only [laws_eqInt32S.l0]; rw [if_neg (by omega)]
  | succ d ih =>
    intro i hi
    refine Ev.step (f := fun k => laws_eqInt32S.l0 k xs xs ((i + 1 : Nat) : Int)) (fun k => ?_) (ih (i + 1) (by omega))
    simp only [laws_eqInt32S.l0]
    rw [if_pos (by omega), if_pos (by omega), if_pos (by omega), w64 (by omega), if_pos (by first | rfl | trivial)]; rfl
theorem eqInt32S_ev (xs : List Int) (hn : xs.length ≤ 9000000) : Ev (fun k => laws_eqInt32S.f k xs xs) true := by
  unfold laws_eqInt32S.f
  refine Ev.congr (f := fun k => laws_eqInt32S.l0 k xs xs ((0 : Nat) : Int)) (fun k => ?_) (eqInt32S_loop xs hn xs.length 0 (by omega))
  rw [if_pos rfl]; rfl

theorem markInt32S_loop (xs : List Int) (hn : xs.length ≤ 9000000) (d : Nat) : ∀ i : Nat, i + d = xs.length →
    Ev (fun k => laws_markInt32S.l0 k (mk (fun x => wrap32 (x)) 1 i ++ xs.drop i) (1 + i) (i : Int)) (1 + (xs.length : Int), mk (fun x => wrap32 (x)) 1 xs.length) := by
  induction d with
  | zero =>
    intro i hi
    obtain rfl : i = xs.length := by omega
    refine ev_now fun k => ?_
    simp only [laws_markInt32S.l0]
    rw [if_neg (by simp [mk_length])]
    simp
  | succ d ih =>
    intro i hi
    have hlt : i < xs.length := by omega
    refine Ev.step (f := fun k => laws_markInt32S.l0 k (mk (fun x => wrap32 (x)) 1 (i + 1) ++ xs.drop (i + 1)) (1 + ((i + 1 : Nat) : Int)) ((i + 1 : Nat) : Int)) (fun k => ?_) (ih (i + 1) (by omega))
    simp only [laws_markInt32S.l0]
    rw [if_pos (by simp [mk_length]; omega), if_pos (by omega), w64 (by omega), w64 (by omega)]
    congr 1
    · rw [Int.toNat_natCast, List.set_append_right _ _ (by simp [mk_length]), mk_length, Nat.sub_self, List.drop_eq_getElem_cons hlt, List.set_cons_zero]
      simp [mk, List.range_succ]
theorem markInt32S_ev (xs : List Int) (hn : xs.length ≤ 9000000) : Ev (fun k => laws_markInt32S.f k xs 1) (1 + (xs.length : Int), mk (fun x => wrap32 (x)) 1 xs.length) := by
  unfold laws_markInt32S.f
  have h := markInt32S_loop xs hn xs.length 0 (by omega)
  exact Ev.congr (fun k => by simp [mk]) h

theorem heldInt32S_loop (n : Nat) (hn : n ≤ 9000000) (d : Nat) : ∀ i : Nat, i + d = n →
    Ev (fun k => laws_heldInt32S.l0 k (mk (fun x => wrap32 (x)) 1 n) (1 + i) (i : Int)) (1 + (n : Int)) := by
  induction d with
  | zero => intro i hi; refine ev_now fun k => ?_; simp only [laws_heldInt32S.l0]; rw [if_neg (by rw [mk_length]; omega)]; simp; omega
  | succ d ih =>
    intro i hi
    refine Ev.step (f := fun k => laws_heldInt32S.l0 k (mk (fun x => wrap32 (x)) 1 n) (1 + ((i + 1 : Nat) : Int)) ((i + 1 : Nat) : Int)) (fun k => ?_) (ih (i + 1) (by omega))
    simp only [laws_heldInt32S.l0]
    rw [if_pos (by rw [mk_length]; omega), if_pos (by omega), w64 (by omega), w64 (by omega), if_pos (by rw [mk_get _ _ _ _ (by omega)])]
    congr 1
theorem heldInt32S_ev (n : Nat) (hn : n ≤ 9000000) : Ev (fun k => laws_heldInt32S.f k (mk (fun x => wrap32 (x)) 1 n) 1) (1 + (n : Int)) := by
  unfold laws_heldInt32S.f
  exact Ev.congr (fun k => by simp) (heldInt32S_loop n hn n 0 (by omega))

theorem brkS_loop (xs : List Int) (hn : xs.length ≤ 9000000) (d : Nat) : ∀ i : Nat, i + d = xs.length →
    Ev (fun k => spec_l1Breaks.l0 k (brk (xs.take i) : Int) xs (xs.length : Int) (i : Int)) (brk xs : Int) := by
  induction d with
  | zero =>
    intro i hi
    obtain rfl : i = xs.length := by omega
    refine ev_now fun k => ?_
    simp only [spec_l1Breaks.l0]
    rw [if_neg (by omega)]
    simp
  | succ d ih =>
    intro i hi
    have hlt : i < xs.length := by omega
    have e : brk (xs.take (i + 1)) = brk (xs.take i) + (if xs[i] = 10 then 1 else 0) := by
      unfold brk; rw [List.take_succ_eq_append_getElem hlt, List.countP_append, List.countP_singleton]; simp
    have hb : brk (xs.take i) ≤ 9000000 := by have := brk_le (xs.take i); simp at this; omega
    refine Ev.step (f := fun k => spec_l1Breaks.l0 k (brk (xs.take (i + 1)) : Int) xs (xs.length : Int) ((i + 1 : Nat) : Int)) (fun k => ?_) (ih (i + 1) (by omega))
    simp only [spec_l1Breaks.l0]
    rw [if_pos (by omega), if_pos (by omega), if_pos (by omega), rd_at xs i hlt]
    by_cases c : xs[i] = 10
    · rw [if_pos c, e, if_pos c, w64 (by omega), w64 (by omega)]; rfl
    · rw [if_neg c, e, if_neg c, w64 (by omega)]; rfl
theorem brkS_ev (xs : List Int) (hn : xs.length ≤ 9000000) : Ev (fun k => spec_l1Breaks.f k xs) (brk xs : Int) := by
  unfold spec_l1Breaks.f
  exact brkS_loop xs hn xs.length 0 (by omega)
theorem spec_ev (xs : List Int) (hn : xs.length ≤ 1048576) (a b : Int) : Ev (fun k => spec_StoreRead.f k xs a b) (storeReadV xs a b) := by
  unfold spec_StoreRead.f storeReadV
  by_cases hb : storeBad xs.length a b
  · rw [if_pos hb]
    refine ev_const fun k => ?_
    unfold storeBad at hb
    by_cases c1 : a < 0
    · rw [if_pos c1]
    rw [if_neg c1]
    by_cases c2 : b < 0
    · rw [if_pos c2]
    rw [if_neg c2]
    by_cases c3 : a > (xs.length : Int)
    · rw [if_pos c3]
    rw [if_neg c3, if_pos (by rw [w64 (by omega)]; omega)]
  · rw [if_neg hb]
    unfold storeBad at hb
    have e1 : wrap64 (a + b) = a + b := w64 (by omega)
    refine Ev.congr (fun k => if_neg (by omega)) ?_
    refine Ev.congr (fun k => if_neg (by omega)) ?_
    refine Ev.congr (fun k => if_neg (by omega)) ?_
    refine Ev.congr (fun k => if_neg (by rw [w64 (by omega)]; omega)) ?_
    refine Ev.bind (ev_const (fun _ => rfl)) ?_
    refine Ev.congr (fun k => if_pos (by omega)) ?_
    refine Ev.congr (fun k => if_pos (by omega)) ?_
    refine Ev.congr (fun k => if_pos (by omega)) ?_
    refine Ev.congr (fun k => if_pos (by simp only [List.length_drop, List.length_take, List.length_nil]; omega)) ?_
    refine Ev.bind (ev_const (fun _ => rfl)) ?_
    refine Ev.bind (brkS_ev _ (by simp only [List.nil_append, List.length_drop, List.length_take]; omega)) ?_
    simp only [List.nil_append]
    exact ev_const fun _ => rfl
theorem storeReadV_len (xs : List Int) (a b : Int) : (storeReadV xs a b).1.length ≤ xs.length := by
  unfold storeReadV
  split
  · simp
  · simp only [List.length_drop, List.length_take]; omega
theorem law (xs : List Int) (a b : Int) : ∃ k, laws_FnExactStoreRead.f k xs a b = some true := by
  refine Ev.rounds (g := fun k => laws_FnExactStoreRead.f k xs a b) ?_
  unfold laws_FnExactStoreRead.f
  by_cases hn : (xs.length : Int) > 1048576
  · exact ev_const fun k => by rw [if_pos hn]
  have hn' : xs.length ≤ 1048576 := by omega
  have hl := storeReadV_len xs a b
  have hs := spec_ev xs hn' a b
  have hi : impl_StoreRead.f xs a b = some (storeReadV xs a b) := by unfold impl_StoreRead.f; rw [if_pos (by omega)]
  generalize storeReadV xs a b = R at hl hs hi
  obtain ⟨ys, n, c⟩ := R
  simp only at hl
  refine Ev.congr (fun k => if_neg hn) ?_
  refine Ev.bind (toInt32S_ev xs hn') ?_
  refine Ev.bind (ev_const (fun _ => rfl)) ?_
  refine Ev.bind hs ?_
  refine Ev.bind (toInt32S_ev xs hn') ?_
  refine Ev.bind (ev_const (fun _ => rfl)) ?_
  refine Ev.bind (ev_const (fun _ => hi)) ?_
  refine Ev.bind (eqInt32S_ev ys (by omega)) ?_
  refine Ev.congr (fun k => if_pos (by first | trivial | rfl)) ?_
  refine Ev.congr (fun k => if_pos (by first | trivial | rfl)) ?_
  refine Ev.step (fun k => by simp only [laws_FnExactStoreRead.j0]; rw [if_neg (by simp)]) ?_
  refine Ev.bind (toInt32S_ev xs hn') ?_
  refine Ev.bind (eqInt32S_ev xs (by omega)) ?_
  refine Ev.congr (fun k => if_pos (by first | trivial | rfl)) ?_
  refine Ev.bind (markInt32S_ev xs (by omega)) ?_
  refine Ev.congr (fun k => if_neg (by dsimp only; omega)) ?_
  refine Ev.bind (eqInt32S_ev ys (by omega)) ?_
  refine Ev.congr (fun k => if_pos (by first | trivial | rfl)) ?_
  refine Ev.congr (fun k => if_pos (by first | trivial | rfl)) ?_
  refine Ev.step (fun k => by simp only [laws_FnExactStoreRead.j1]; rw [if_neg (by simp)]) ?_
  refine Ev.bind (markInt32S_ev ys (by omega)) ?_
  refine Ev.bind (heldInt32S_ev ys.length (by omega)) ?_
  refine Ev.congr (fun k => if_neg (by omega)) ?_
  refine Ev.congr (fun k => if_pos (by first | trivial | rfl)) ?_
  refine Ev.bind (toInt32S_ev xs hn') ?_
  refine Ev.bind (ev_const (fun _ => rfl)) ?_
  refine Ev.bind (ev_const (fun _ => hi)) ?_
  refine Ev.bind (eqInt32S_ev ys (by omega)) ?_
  refine Ev.congr (fun k => if_pos (by first | trivial | rfl)) ?_
  refine Ev.congr (fun k => if_pos (by first | trivial | rfl)) ?_
  refine Ev.step (fun k => by simp only [laws_FnExactStoreRead.j2]; rw [if_neg (by simp)]) ?_
  refine Ev.bind (heldInt32S_ev ys.length (by omega)) ?_
  refine Ev.congr (fun k => if_neg (by omega)) ?_
  exact ev_const fun k => if_pos (by first | trivial | rfl)
end Go.Proofs.YtohckpdlpadgcaaDoor.PureFnExactStoreRead
