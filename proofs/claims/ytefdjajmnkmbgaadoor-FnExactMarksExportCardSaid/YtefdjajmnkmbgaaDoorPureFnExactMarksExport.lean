/- The law FnExactMarksExport tells true, plainly, at every input whose ids are numbers of 64 bits. -/
import Derived.Test.YtefdjajmnkmbgaaDoorQFnExactMarksExportx2
namespace Go.Proofs.YtefdjajmnkmbgaaDoor.PureFnExactMarksExport
set_option linter.unusedVariables false
set_option linter.unusedSimpArgs false
open Go Go.RowKit Go.Proofs.YtefdjajmnkmbgaaDoor Go.Proofs.YtefdjajmnkmbgaaDoor.QFnExactMarksExport Go.Proofs.YtefdjajmnkmbgaaDoorW.PrintWords Go.Proofs.YtefdjajmnkmbgaaDoorW.PrintLast
theorem w64 {x : Int} (h : -9223372036854775808 ≤ x ∧ x ≤ 9223372036854775807) : wrap64 x = x := by unfold wrap64; omega
theorem ev_now {α : Type} {g : Nat → Option α} {r : α} (h : ∀ k, g (k + 1) = some r) : Ev g r :=
  ⟨1, fun k hk => by obtain ⟨m, rfl⟩ : ∃ m, k = m + 1 := ⟨k - 1, by omega⟩; exact h m⟩
theorem ev_const {α : Type} {g : Nat → Option α} {r : α} (h : ∀ k, g k = some r) : Ev g r := ⟨0, fun k _ => h k⟩
theorem rdI (xs : List S53) (i : Nat) (h : i < xs.length) : rd_T53 xs (i : Int) = xs[i] := by unfold rd_T53; simp [List.getD, h]
theorem cbcv (x : S53) : cb (cv x) = x := rfl
theorem map_cbcv (xs : List S53) : (xs.map cv).map cb = xs := by rw [List.map_map]; exact (List.map_congr_left (fun x _ => cbcv x)).trans (List.map_id xs)
theorem map_cvcb (xs : List Mk) : (xs.map cb).map cv = xs := by rw [List.map_map]; exact (List.map_congr_left (fun x _ => rfl)).trans (List.map_id xs)
theorem rdL (xs : List S61) (i : Nat) (h : i < xs.length) : rd_T61 xs (i : Int) = xs[i] := by unfold rd_T61; simp [List.getD, h]
/-- the law's mark, as the program's -/
def tv (x : S61) : S53 := ⟨x.f0, x.f1, x.f2⟩
theorem toMarkS_loop (xs : List S61) (hn : xs.length ≤ 1048576) (d : Nat) : ∀ i : Nat, i + d = xs.length →
    Ev (fun k => laws_toMarkS.l0 k xs ((xs.take i).map tv ++ List.replicate d z53) (i : Int)) (xs.map tv) := by
  induction d with
  | zero =>
    intro i hi
    obtain rfl : i = xs.length := by omega
    refine ev_now fun k => ?_
    simp only [laws_toMarkS.l0]
    rw [if_neg (by omega)]
    simp
  | succ d ih =>
    intro i hi
    have hlt : i < xs.length := by omega
    refine Ev.step (f := fun k => laws_toMarkS.l0 k xs ((xs.take (i + 1)).map tv ++ List.replicate d z53) ((i + 1 : Nat) : Int)) (fun k => ?_) (ih (i + 1) (by omega))
    simp only [laws_toMarkS.l0, laws_toMark.f, Option.bind_some]
    rw [if_pos (by omega), if_pos (by omega), if_pos (by simp; omega), w64 (by omega)]
    congr 1
    rw [rdL xs i hlt, Int.toNat_natCast, List.set_append_right _ _ (by simp; omega)]
    rw [show i - ((xs.take i).map tv).length = 0 by simp; omega, List.replicate_succ, List.set_cons_zero, List.take_succ_eq_append_getElem hlt, List.map_append, List.append_assoc]; rfl
theorem toMarkS_ev (xs : List S61) (hn : xs.length ≤ 1048576) : Ev (fun k => laws_toMarkS.f k xs) (xs.map tv) := by
  unfold laws_toMarkS.f
  refine Ev.congr (fun k => by rw [if_pos (by omega), if_pos (by omega)]) ?_
  have h := toMarkS_loop xs hn xs.length 0 (by omega)
  simpa using h
theorem eqMark_is (x : S53) : laws_eqMark.f x.f0 x.f1 x.f2 x.f0 x.f1 x.f2 = some true := by
  unfold laws_eqMark.f
  simp
theorem eqMarkS_loop (xs : List S53) (hn : xs.length ≤ 9000000) (d : Nat) : ∀ i : Nat, i + d = xs.length →
    Ev (fun k => laws_eqMarkS.l0 k xs xs (i : Int)) true := by
  induction d with
  | zero => intro i hi; refine ev_now fun k => ?_; simp only [laws_eqMarkS.l0]; rw [if_neg (by omega)]
  | succ d ih =>
    intro i hi
    refine Ev.step (f := fun k => laws_eqMarkS.l0 k xs xs ((i + 1 : Nat) : Int)) (fun k => ?_) (ih (i + 1) (by omega))
    simp only [laws_eqMarkS.l0]
    rw [if_pos (by omega), if_pos (by omega), if_pos (by omega), w64 (by omega), eqMark_is]; rfl
theorem eqMarkS_ev (xs : List S53) (hn : xs.length ≤ 9000000) : Ev (fun k => laws_eqMarkS.f k xs xs) true := by
  unfold laws_eqMarkS.f
  exact Ev.congr (fun k => if_pos rfl) (eqMarkS_loop xs hn xs.length 0 (by omega))
theorem szMarkS_is (xs : List S61) (h : xs.length ≤ 1048576) : ∃ v, laws_szMarkS.f xs 1048576 = some v ∧ 0 ≤ v := by
  unfold laws_szMarkS.f
  refine ⟨1048576 - (xs.length : Int), ?_, by omega⟩
  rw [w64 (by omega), if_neg (by omega)]
theorem szMarkS_big (xs : List S61) (h : 1048576 < xs.length) (hm : xs.length ≤ 9223372036854775807) : laws_szMarkS.f xs 1048576 = some (-1) := by
  unfold laws_szMarkS.f
  rw [w64 (by omega), if_pos (by omega)]
/-! marks written into marks, and read back -/
theorem rd_set_self (L : List S53) (i : Nat) (x : S53) (h : i < L.length) : rd_T53 (L.set i x) (i : Int) = x := by
  rw [rdI _ i (by rw [List.length_set]; exact h), List.getElem_set_self]
def mi (s : Int) (n : Nat) : List S53 := (List.range n).map fun (j : Nat) => ⟨s + 3 * (j : Int), s + 3 * (j : Int) + 1, s + 3 * (j : Int) + 2⟩
theorem mi_length (s : Int) (n : Nat) : (mi s n).length = n := by simp [mi]
theorem mi_get (s : Int) (n i : Nat) (h : i < n) : rd_T53 (mi s n) (i : Int) = ⟨s + 3 * (i : Int), s + 3 * (i : Int) + 1, s + 3 * (i : Int) + 2⟩ := by
  rw [rdI _ i (by rw [mi_length]; exact h)]; simp [mi]
theorem mi_succ (s : Int) (n : Nat) : mi s (n + 1) = mi s n ++ [⟨s + 3 * (n : Int), s + 3 * (n : Int) + 1, s + 3 * (n : Int) + 2⟩] := by
  simp [mi, List.range_succ]
theorem markMarkS_loop (s : Int) (hs : 0 ≤ s ∧ s ≤ 9000000) (xs : List S53) (hn : xs.length ≤ 9000000) (d : Nat) : ∀ i : Nat, i + d = xs.length →
    Ev (fun k => laws_markMarkS.l0 k (mi s i ++ xs.drop i) (s + 3 * (i : Int)) (i : Int)) (s + 3 * (xs.length : Int), mi s xs.length) := by
  induction d with
  | zero =>
    intro i hi
    obtain rfl : i = xs.length := by omega
    refine ev_now fun k => ?_
    simp only [laws_markMarkS.l0]
    rw [if_neg (by simp [mi_length])]
    simp
  | succ d ih =>
    intro i hi
    have hlt : i < xs.length := by omega
    have hL : i < (mi s i ++ xs.drop i).length := by rw [List.length_append, mi_length, List.length_drop]; omega
    refine Ev.step (f := fun k => laws_markMarkS.l0 k (mi s (i + 1) ++ xs.drop (i + 1)) (s + 3 * ((i + 1 : Nat) : Int)) ((i + 1 : Nat) : Int)) (fun k => ?_) (ih (i + 1) (by omega))
    simp only [laws_markMarkS.l0]
    rw [if_pos (by omega), if_pos (by omega)]
    simp only [Option.bind_some, Int.toNat_natCast]
    rw [w64 (x := (i : Int) + 1) (by omega), w64 (x := s + 3 * (i : Int) + 1) (by omega), w64 (x := s + 3 * (i : Int) + 1 + 1) (by omega), w64 (x := s + 3 * (i : Int) + 1 + 1 + 1) (by omega)]
    have hset : ∀ x : S53, (mi s i ++ xs.drop i).set i x = mi s i ++ (x :: xs.drop (i + 1)) := fun x => by
      rw [List.set_append_right _ _ (by rw [mi_length]; exact Nat.le_refl _), mi_length, Nat.sub_self, List.drop_eq_getElem_cons hlt, List.set_cons_zero]
    have hget : ∀ x : S53, rd_T53 (mi s i ++ (x :: xs.drop (i + 1))) (i : Int) = x := fun x => by
      rw [← hset x]; exact rd_set_self _ i x hL
    have hset2 : ∀ x y : S53, (mi s i ++ (x :: xs.drop (i + 1))).set i y = mi s i ++ (y :: xs.drop (i + 1)) := fun x y => by
      rw [List.set_append_right _ _ (by rw [mi_length]; exact Nat.le_refl _), mi_length, Nat.sub_self, List.set_cons_zero]
    rw [hset, hget, hset2, hget, hset2, show s + 3 * (i : Int) + 1 + 1 = s + 3 * (i : Int) + 2 by omega, show s + 3 * (i : Int) + 2 + 1 = s + 3 * ((i + 1 : Nat) : Int) by omega, mi_succ, List.append_assoc, List.singleton_append]
    rfl
theorem markMarkS_ev (xs : List S53) (hn : xs.length ≤ 9000000) : Ev (fun k => laws_markMarkS.f k xs 1) (1 + 3 * (xs.length : Int), mi 1 xs.length) := by
  unfold laws_markMarkS.f
  have h := markMarkS_loop 1 (by omega) xs hn xs.length 0 (by omega)
  exact Ev.congr (fun k => by simp [mi]) h
theorem rd_at (xs : List Int) (i : Nat) (h : i < xs.length) : rd xs (i : Int) = xs[i] := by
  unfold rd; simp [List.getD, h]
def mk (f : Int → Int) (k : Int) (n : Nat) : List Int := (List.range n).map fun j => f (k + (j : Nat))
theorem mk_length (f : Int → Int) (k : Int) (n : Nat) : (mk f k n).length = n := by simp [mk]
theorem mk_get (f : Int → Int) (k : Int) (n i : Nat) (h : i < n) : rd (mk f k n) (i : Int) = f (k + i) := by
  rw [rd_at _ _ (by simpa [mk] using h)]; simp [mk]

theorem eqByteS_loop (xs : List Int) (hn : xs.length ≤ 9000000) (d : Nat) : ∀ i : Nat, i + d = xs.length →
    Ev (fun k => laws_eqByteS.l0 k xs xs (i : Int)) true := by
  induction d with
  | zero => intro i hi; refine ev_now fun k => ?_; simp only [laws_eqByteS.l0]; rw [if_neg (by omega)]
  | succ d ih =>
    intro i hi
    refine Ev.step (f := fun k => laws_eqByteS.l0 k xs xs ((i + 1 : Nat) : Int)) (fun k => ?_) (ih (i + 1) (by omega))
    simp only [laws_eqByteS.l0]
    rw [if_pos (by omega), if_pos (by omega), if_pos (by omega), w64 (by omega), if_pos (by first | rfl | trivial)]; rfl
theorem eqByteS_ev (xs : List Int) (hn : xs.length ≤ 9000000) : Ev (fun k => laws_eqByteS.f k xs xs) true := by
  unfold laws_eqByteS.f
  refine Ev.congr (f := fun k => laws_eqByteS.l0 k xs xs ((0 : Nat) : Int)) (fun k => ?_) (eqByteS_loop xs hn xs.length 0 (by omega))
  rw [if_pos rfl]; rfl

theorem markByteS_loop (xs : List Int) (hn : xs.length ≤ 9000000) (d : Nat) : ∀ i : Nat, i + d = xs.length →
    Ev (fun k => laws_markByteS.l0 k (mk (fun x => (x) % 256) 1 i ++ xs.drop i) (1 + i) (i : Int)) (1 + (xs.length : Int), mk (fun x => (x) % 256) 1 xs.length) := by
  induction d with
  | zero =>
    intro i hi
    obtain rfl : i = xs.length := by omega
    refine ev_now fun k => ?_
    simp only [laws_markByteS.l0]
    rw [if_neg (by simp [mk_length])]
    simp
  | succ d ih =>
    intro i hi
    have hlt : i < xs.length := by omega
    refine Ev.step (f := fun k => laws_markByteS.l0 k (mk (fun x => (x) % 256) 1 (i + 1) ++ xs.drop (i + 1)) (1 + ((i + 1 : Nat) : Int)) ((i + 1 : Nat) : Int)) (fun k => ?_) (ih (i + 1) (by omega))
    simp only [laws_markByteS.l0]
    rw [if_pos (by simp [mk_length]; omega), if_pos (by omega), w64 (by omega), w64 (by omega)]
    congr 1
    · rw [Int.toNat_natCast, List.set_append_right _ _ (by simp [mk_length]), mk_length, Nat.sub_self, List.drop_eq_getElem_cons hlt, List.set_cons_zero]
      simp [mk, List.range_succ]
theorem markByteS_ev (xs : List Int) (hn : xs.length ≤ 9000000) : Ev (fun k => laws_markByteS.f k xs 1) (1 + (xs.length : Int), mk (fun x => (x) % 256) 1 xs.length) := by
  unfold laws_markByteS.f
  have h := markByteS_loop xs hn xs.length 0 (by omega)
  exact Ev.congr (fun k => by simp [mk]) h

theorem heldByteS_loop (n : Nat) (hn : n ≤ 9000000) (d : Nat) : ∀ i : Nat, i + d = n →
    Ev (fun k => laws_heldByteS.l0 k (mk (fun x => (x) % 256) 1 n) (1 + i) (i : Int)) (1 + (n : Int)) := by
  induction d with
  | zero => intro i hi; refine ev_now fun k => ?_; simp only [laws_heldByteS.l0]; rw [if_neg (by rw [mk_length]; omega)]; simp; omega
  | succ d ih =>
    intro i hi
    refine Ev.step (f := fun k => laws_heldByteS.l0 k (mk (fun x => (x) % 256) 1 n) (1 + ((i + 1 : Nat) : Int)) ((i + 1 : Nat) : Int)) (fun k => ?_) (ih (i + 1) (by omega))
    simp only [laws_heldByteS.l0]
    rw [if_pos (by rw [mk_length]; omega), if_pos (by omega), w64 (by omega), w64 (by omega), if_pos (by rw [mk_get _ _ _ _ (by omega)])]
    congr 1
theorem heldByteS_ev (n : Nat) (hn : n ≤ 9000000) : Ev (fun k => laws_heldByteS.f k (mk (fun x => (x) % 256) 1 n) 1) (1 + (n : Int)) := by
  unfold laws_heldByteS.f
  exact Ev.congr (fun k => by simp) (heldByteS_loop n hn n 0 (by omega))
open Go (IntKind.wrap_u8)
/-- what one rune is written as -/
theorem law (xs : List S61) (hm : xs.length ≤ 9223372036854775807) (hw : ∀ m ∈ xs, -9223372036854775808 ≤ m.f0 ∧ m.f0 ≤ 9223372036854775807) : ∃ k, laws_FnExactMarksExport.f k xs = some true := by
  refine Ev.rounds (g := fun k => laws_FnExactMarksExport.f k xs) ?_
  unfold laws_FnExactMarksExport.f
  by_cases hn : 1048576 < xs.length
  · exact ev_const fun k => by rw [szMarkS_big xs hn hm, Option.bind_some, if_pos (by omega)]
  obtain ⟨v, hv, hv0⟩ := szMarkS_is xs (by omega)
  have hn' : xs.length ≤ 1048576 := by omega
  have hml : (xs.map tv).length ≤ 1048576 := by rw [List.length_map]; exact hn'
  have hids : idsOk (xs.map tv) = true := List.all_eq_true.2 fun m h => by
    obtain ⟨q, hq, rfl⟩ := List.mem_map.1 h
    exact decide_eq_true (hw q hq)
  have hs : spec_MarksExport.f (xs.map tv) = some (exportM ((xs.map tv).map cv)) := by unfold spec_MarksExport.f; rw [if_pos hml]
  have hi : impl_MarksExport.f (xs.map tv) = some (exportM ((xs.map tv).map cv)) := by unfold impl_MarksExport.f; rw [if_pos ⟨hml, hids⟩]
  have hl : (exportM ((xs.map tv).map cv)).length ≤ 9000000 := by
    unfold exportM
    split
    · rename_i hok
      have h1 := linesM_len _ (okTab_num hok)
      have h2 : ((xs.map tv).map cv).length ≤ 128 := by
        unfold okTab at hok
        simp only [Bool.and_eq_true, decide_eq_true_eq] at hok
        exact hok.1
      omega
    · simp
  generalize exportM ((xs.map tv).map cv) = ys at hs hi hl
  refine Ev.bind (ev_const fun _ => hv) ?_
  refine Ev.congr (fun k => if_neg (by omega)) ?_
  refine Ev.bind (toMarkS_ev xs hn') ?_
  refine Ev.bind (ev_const fun _ => hs) ?_
  refine Ev.bind (toMarkS_ev xs hn') ?_
  refine Ev.bind (ev_const fun _ => hi) ?_
  refine Ev.bind (eqByteS_ev ys (by omega)) ?_
  refine Ev.congr (fun k => if_pos rfl) ?_
  refine Ev.bind (toMarkS_ev xs hn') ?_
  refine Ev.bind (eqMarkS_ev _ (by omega)) ?_
  refine Ev.congr (fun k => if_pos rfl) ?_
  refine Ev.bind (markMarkS_ev (xs.map tv) (by omega)) ?_
  refine Ev.congr (fun k => if_neg (by dsimp only; omega)) ?_
  refine Ev.bind (eqByteS_ev ys (by omega)) ?_
  refine Ev.step (fun k => by simp only [laws_FnExactMarksExport.j0]; rw [if_neg (by simp)]) ?_
  refine Ev.bind (markByteS_ev ys (by omega)) ?_
  refine Ev.bind (heldByteS_ev ys.length (by omega)) ?_
  refine Ev.congr (fun k => if_neg (by omega)) ?_
  refine Ev.congr (fun k => if_pos rfl) ?_
  refine Ev.bind (toMarkS_ev xs hn') ?_
  refine Ev.bind (ev_const fun _ => hi) ?_
  refine Ev.bind (eqByteS_ev ys (by omega)) ?_
  refine Ev.congr (fun k => if_pos rfl) ?_
  refine Ev.bind (heldByteS_ev ys.length (by omega)) ?_
  refine Ev.congr (fun k => if_neg (by omega)) ?_
  exact ev_const fun k => if_pos rfl
end Go.Proofs.YtefdjajmnkmbgaaDoor.PureFnExactMarksExport
