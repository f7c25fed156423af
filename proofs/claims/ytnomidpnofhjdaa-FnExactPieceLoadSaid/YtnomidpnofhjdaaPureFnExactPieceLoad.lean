/- The law FnExactPieceLoad tells true, plainly, at every input. No condition. -/
import Derived.Test.YtnomidpnofhjdaaQFnExactPieceLoadx4
namespace Go.Proofs.Ytnomidpnofhjdaa.PureFnExactPieceLoad
open Go Go.RowKit Go.Proofs.Ytnomidpnofhjdaa.QFnExactPieceLoad Go.Proofs.YtnomidpnofhjdaaW.PrintWords Go.Proofs.YtnomidpnofhjdaaW.PrintLast
theorem w64 {x : Int} (h : -9223372036854775808 ≤ x ∧ x ≤ 9223372036854775807) : wrap64 x = x := by unfold wrap64; omega
theorem ev_now {α : Type} {g : Nat → Option α} {r : α} (h : ∀ k, g (k + 1) = some r) : Ev g r :=
  ⟨1, fun k hk => by obtain ⟨m, rfl⟩ : ∃ m, k = m + 1 := ⟨k - 1, by omega⟩; exact h m⟩
theorem ev_const {α : Type} {g : Nat → Option α} {r : α} (h : ∀ k, g k = some r) : Ev g r := ⟨0, fun k _ => h k⟩
theorem rdI (xs : List S50) (i : Nat) (h : i < xs.length) : rd_T50 xs (i : Int) = xs[i] := by unfold rd_T50; simp [List.getD, h]
theorem eqItem_is (x : S50) : laws_eqItem.f x.f0.f0 x.f0.f1 x.f0.f2 x.f1 x.f0.f0 x.f0.f1 x.f0.f2 x.f1 = some true := by
  unfold laws_eqItem.f laws_eqPiece.f
  simp
theorem eqItemS_loop (xs : List S50) (hn : xs.length ≤ 9000000) (d : Nat) : ∀ i : Nat, i + d = xs.length →
    Ev (fun k => laws_eqItemS.l0 k xs xs (i : Int)) true := by
  induction d with
  | zero => intro i hi; refine ev_now fun k => ?_; simp only [laws_eqItemS.l0]; rw [if_neg (by omega)]
  | succ d ih =>
    intro i hi
    refine Ev.step (f := fun k => laws_eqItemS.l0 k xs xs ((i + 1 : Nat) : Int)) (fun k => ?_) (ih (i + 1) (by omega))
    simp only [laws_eqItemS.l0]
    rw [if_pos (by omega), if_pos (by omega), if_pos (by omega), w64 (by omega), eqItem_is]; rfl
theorem eqTree_ev (xs : List S50) (hn : xs.length ≤ 9000000) : Ev (fun k => laws_eqTree.f k xs xs) true := by
  unfold laws_eqTree.f
  refine Ev.bind (a := true) ?_ (ev_const fun _ => if_pos rfl)
  unfold laws_eqItemS.f
  exact Ev.congr (fun k => if_pos rfl) (eqItemS_loop xs hn xs.length 0 (by omega))
theorem toI_loop (xs : List Int) (hn : xs.length ≤ 1048576) (d : Nat) : ∀ i : Nat, i + d = xs.length →
    Ev (fun k => laws_toInt32S.l0 k xs (xs.take i ++ List.replicate d 0) (i : Int)) xs := by
  induction d with
  | zero =>
    intro i hi
    obtain rfl : i = xs.length := by omega
    refine ev_now fun k => ?_
    simp only [laws_toInt32S.l0]
    rw [if_neg (by omega)]
    simp
  | succ d ih =>
    intro i hi
    have hlt : i < xs.length := by omega
    refine Ev.step (f := fun k => laws_toInt32S.l0 k xs (xs.take (i + 1) ++ List.replicate d 0) ((i + 1 : Nat) : Int)) (fun k => ?_) (ih (i + 1) (by omega))
    simp only [laws_toInt32S.l0]
    have e : rd xs (i : Int) = xs[i] := by unfold rd; simp [List.getD, hlt]
    rw [if_pos (by omega), if_pos (by omega), if_pos (by simp; omega), w64 (by omega), e, Int.toNat_natCast, List.set_append_right _ _ (by simp; omega)]
    congr 1
    rw [show i - (xs.take i).length = 0 by simp; omega, List.replicate_succ, List.set_cons_zero, List.take_succ_eq_append_getElem hlt, List.append_assoc]; rfl
theorem toI_ev (xs : List Int) (hn : xs.length ≤ 1048576) : Ev (fun k => laws_toInt32S.f k xs) xs := by
  unfold laws_toInt32S.f
  refine Ev.congr (fun k => by rw [if_pos (by omega), if_pos (by omega)]) ?_
  have h := toI_loop xs hn xs.length 0 (by omega)
  simpa using h
theorem eqI_loop (xs : List Int) (hn : xs.length ≤ 9000000) (d : Nat) : ∀ i : Nat, i + d = xs.length →
    Ev (fun k => laws_eqInt32S.l0 k xs xs (i : Int)) true := by
  induction d with
  | zero => intro i hi; refine ev_now fun k => ?_; simp only [laws_eqInt32S.l0]; rw [if_neg (by omega)]
  | succ d ih =>
    intro i hi
    refine Ev.step (f := fun k => laws_eqInt32S.l0 k xs xs ((i + 1 : Nat) : Int)) (fun k => ?_) (ih (i + 1) (by omega))
    simp only [laws_eqInt32S.l0]
    rw [if_pos (by omega), if_pos (by omega), if_pos (by omega), if_pos (by first | rfl | trivial), w64 (by omega)]; rfl
theorem eqI_ev (xs : List Int) (hn : xs.length ≤ 9000000) : Ev (fun k => laws_eqInt32S.f k xs xs) true := by
  unfold laws_eqInt32S.f
  exact Ev.congr (fun k => if_pos rfl) (eqI_loop xs hn xs.length 0 (by omega))
theorem eqPB_ev (T : List Int) (xs : List S50) (h1 : T.length ≤ 9000000) (h2 : xs.length ≤ 9000000) : Ev (fun k => laws_eqPieceBuf.f k T xs T xs) true := by
  unfold laws_eqPieceBuf.f
  refine Ev.bind (eqI_ev T h1) ?_
  refine Ev.congr (fun k => if_pos rfl) ?_
  refine Ev.bind (eqTree_ev xs h2) ?_
  exact ev_const fun k => if_pos rfl
theorem nl_ev_loop (L : List Int) (hn : L.length ≤ 2000000) (d : Nat) : ∀ i : Nat, i + d = L.length → Ev (fun k => spec_l1Breaks.l0 k (nl (L.take i)) L (L.length : Int) (i : Int)) (nl L) := by
  induction d with
  | zero =>
    intro i hi
    obtain rfl : i = L.length := by omega
    refine ev_now fun k => ?_
    simp only [spec_l1Breaks.l0]
    rw [if_neg (by omega), List.take_length]
  | succ d ih =>
    intro i hi
    have hlt : i < L.length := by omega
    have hb := nl_le (L.take i)
    have hl : (L.take i).length ≤ 2000000 := by rw [List.length_take]; omega
    have e : rd L (i : Int) = L[i] := by unfold rd; simp [List.getD, hlt]
    have e2 : nl (L.take (i + 1)) = nl (L.take i) + (if L[i] = 10 then 1 else 0) := by
      rw [List.take_succ_eq_append_getElem hlt, nl_app]; simp [nl]
    refine Ev.step (f := fun k => spec_l1Breaks.l0 k (nl (L.take (i + 1))) L (L.length : Int) ((i + 1 : Nat) : Int)) (fun k => ?_) (ih (i + 1) (by omega))
    simp only [spec_l1Breaks.l0]
    rw [if_pos (by omega), if_pos (by omega), if_pos (by omega), e, w64 (x := (i : Int) + 1) (by omega), w64 (x := nl (L.take i) + 1) (by omega), e2]
    by_cases c : L[i] = 10
    · rw [if_pos c, if_pos c]; rfl
    · rw [if_neg c, if_neg c, Int.add_zero]; rfl
theorem nl_ev (L : List Int) (hn : L.length ≤ 2000000) : Ev (fun k => spec_l1Breaks.f k L) (nl L) := by
  unfold spec_l1Breaks.f
  exact nl_ev_loop L hn L.length 0 (Nat.zero_add _)
def mkS (x : Pc × Int) : S50 := ⟨⟨x.1.off, x.1.len, x.1.brk⟩, x.2⟩
theorem rd_at (xs : List Int) (i : Nat) (h : i < xs.length) : rd xs (i : Int) = xs[i] := by
  unfold rd; simp [List.getD, h]
def mk (f : Int → Int) (k : Int) (n : Nat) : List Int := (List.range n).map fun j => f (k + (j : Nat))
theorem mk_length (f : Int → Int) (k : Int) (n : Nat) : (mk f k n).length = n := by simp [mk]
theorem mk_get (f : Int → Int) (k : Int) (n i : Nat) (h : i < n) : rd (mk f k n) (i : Int) = f (k + i) := by
  rw [rd_at _ _ (by simpa [mk] using h)]; simp [mk]

theorem markInt32S_loop (s : Int) (hs : 0 ≤ s ∧ s ≤ 9000000) (xs : List Int) (hn : xs.length ≤ 9000000) (d : Nat) : ∀ i : Nat, i + d = xs.length →
    Ev (fun k => laws_markInt32S.l0 k (mk (fun x => wrap32 (x)) s i ++ xs.drop i) (s + i) (i : Int)) (s + (xs.length : Int), mk (fun x => wrap32 (x)) s xs.length) := by
  induction d with
  | zero =>
    intro i hi
    obtain rfl : i = xs.length := by omega
    refine ev_now fun k => ?_
    simp only [laws_markInt32S.l0]
    rw [if_neg (by simp [mk_length])]
    simp
  | succ d ih =>
    intro i hi
    have hlt : i < xs.length := by omega
    refine Ev.step (f := fun k => laws_markInt32S.l0 k (mk (fun x => wrap32 (x)) s (i + 1) ++ xs.drop (i + 1)) (s + ((i + 1 : Nat) : Int)) ((i + 1 : Nat) : Int)) (fun k => ?_) (ih (i + 1) (by omega))
    simp only [laws_markInt32S.l0]
    rw [if_pos (by simp [mk_length]; omega), if_pos (by omega), w64 (by omega), w64 (by omega)]
    congr 1
    · rw [Int.toNat_natCast, List.set_append_right _ _ (by simp [mk_length]), mk_length, Nat.sub_self, List.drop_eq_getElem_cons hlt, List.set_cons_zero]
      simp [mk, List.range_succ]
    · omega
theorem markInt32S_from (s : Int) (hs : 0 ≤ s ∧ s ≤ 9000000) (xs : List Int) (hn : xs.length ≤ 9000000) : Ev (fun k => laws_markInt32S.f k xs s) (s + (xs.length : Int), mk (fun x => wrap32 (x)) s xs.length) := by
  unfold laws_markInt32S.f
  have h := markInt32S_loop s hs xs hn xs.length 0 (by omega)
  exact Ev.congr (fun k => by simp [mk]) h
theorem markInt32S_ev (xs : List Int) (hn : xs.length ≤ 9000000) : Ev (fun k => laws_markInt32S.f k xs 1) (1 + (xs.length : Int), mk (fun x => wrap32 (x)) 1 xs.length) := markInt32S_from 1 (by omega) xs hn

theorem heldInt32S_loop (s : Int) (hs : 0 ≤ s ∧ s ≤ 9000000) (n : Nat) (hn : n ≤ 9000000) (d : Nat) : ∀ i : Nat, i + d = n →
    Ev (fun k => laws_heldInt32S.l0 k (mk (fun x => wrap32 (x)) s n) (s + i) (i : Int)) (s + (n : Int)) := by
  induction d with
  | zero => intro i hi; refine ev_now fun k => ?_; simp only [laws_heldInt32S.l0]; rw [if_neg (by rw [mk_length]; omega)]; simp; omega
  | succ d ih =>
    intro i hi
    refine Ev.step (f := fun k => laws_heldInt32S.l0 k (mk (fun x => wrap32 (x)) s n) (s + ((i + 1 : Nat) : Int)) ((i + 1 : Nat) : Int)) (fun k => ?_) (ih (i + 1) (by omega))
    simp only [laws_heldInt32S.l0]
    rw [if_pos (by rw [mk_length]; omega), if_pos (by omega), w64 (by omega), w64 (by omega), if_pos (by rw [mk_get _ _ _ _ (by omega)])]
    congr 1
    omega
theorem heldInt32S_from (s : Int) (hs : 0 ≤ s ∧ s ≤ 9000000) (n : Nat) (hn : n ≤ 9000000) : Ev (fun k => laws_heldInt32S.f k (mk (fun x => wrap32 (x)) s n) s) (s + (n : Int)) := by
  unfold laws_heldInt32S.f
  exact Ev.congr (fun k => by simp) (heldInt32S_loop s hs n hn n 0 (by omega))
theorem heldInt32S_ev (n : Nat) (hn : n ≤ 9000000) : Ev (fun k => laws_heldInt32S.f k (mk (fun x => wrap32 (x)) 1 n) 1) (1 + (n : Int)) := heldInt32S_from 1 (by omega) n hn
/-! marks written into items, and read back -/
theorem rd_set_self (L : List S50) (i : Nat) (x : S50) (h : i < L.length) : rd_T50 (L.set i x) (i : Int) = x := by
  rw [rdI _ i (by rw [List.length_set]; exact h), List.getElem_set_self]
def mi (s : Int) (n : Nat) : List S50 := (List.range n).map fun (j : Nat) => ⟨⟨s + 4 * (j : Int), s + 4 * (j : Int) + 1, s + 4 * (j : Int) + 2⟩, s + 4 * (j : Int) + 3⟩
theorem mi_length (s : Int) (n : Nat) : (mi s n).length = n := by simp [mi]
theorem mi_get (s : Int) (n i : Nat) (h : i < n) : rd_T50 (mi s n) (i : Int) = ⟨⟨s + 4 * (i : Int), s + 4 * (i : Int) + 1, s + 4 * (i : Int) + 2⟩, s + 4 * (i : Int) + 3⟩ := by
  rw [rdI _ i (by rw [mi_length]; exact h)]; simp [mi]
theorem mi_succ (s : Int) (n : Nat) : mi s (n + 1) = mi s n ++ [⟨⟨s + 4 * (n : Int), s + 4 * (n : Int) + 1, s + 4 * (n : Int) + 2⟩, s + 4 * (n : Int) + 3⟩] := by
  simp [mi, List.range_succ]
theorem markItemS_loop (s : Int) (hs : 0 ≤ s ∧ s ≤ 9000000) (xs : List S50) (hn : xs.length ≤ 9000000) (d : Nat) : ∀ i : Nat, i + d = xs.length →
    Ev (fun k => laws_markItemS.l0 k (mi s i ++ xs.drop i) (s + 4 * (i : Int)) (i : Int)) (s + 4 * (xs.length : Int), mi s xs.length) := by
  induction d with
  | zero =>
    intro i hi
    obtain rfl : i = xs.length := by omega
    refine ev_now fun k => ?_
    simp only [laws_markItemS.l0]
    rw [if_neg (by simp [mi_length])]
    simp
  | succ d ih =>
    intro i hi
    have hlt : i < xs.length := by omega
    have hL : i < (mi s i ++ xs.drop i).length := by rw [List.length_append, mi_length, List.length_drop]; omega
    refine Ev.step (f := fun k => laws_markItemS.l0 k (mi s (i + 1) ++ xs.drop (i + 1)) (s + 4 * ((i + 1 : Nat) : Int)) ((i + 1 : Nat) : Int)) (fun k => ?_) (ih (i + 1) (by omega))
    simp only [laws_markItemS.l0]
    rw [if_pos (by omega), if_pos (by omega)]
    simp only [Option.bind_some, Int.toNat_natCast]
    rw [w64 (x := (i : Int) + 1) (by omega), w64 (x := s + 4 * (i : Int) + 1) (by omega), w64 (x := s + 4 * (i : Int) + 1 + 1) (by omega), w64 (x := s + 4 * (i : Int) + 1 + 1 + 1) (by omega), w64 (x := s + 4 * (i : Int) + 1 + 1 + 1 + 1) (by omega)]
    have hset : ∀ x : S50, (mi s i ++ xs.drop i).set i x = mi s i ++ (x :: xs.drop (i + 1)) := fun x => by
      rw [List.set_append_right _ _ (by rw [mi_length]; exact Nat.le_refl _), mi_length, Nat.sub_self, List.drop_eq_getElem_cons hlt, List.set_cons_zero]
    have hget : ∀ x : S50, rd_T50 (mi s i ++ (x :: xs.drop (i + 1))) (i : Int) = x := fun x => by
      rw [← hset x]; exact rd_set_self _ i x hL
    have hset2 : ∀ x y : S50, (mi s i ++ (x :: xs.drop (i + 1))).set i y = mi s i ++ (y :: xs.drop (i + 1)) := fun x y => by
      rw [List.set_append_right _ _ (by rw [mi_length]; exact Nat.le_refl _), mi_length, Nat.sub_self, List.set_cons_zero]
    rw [hset, hget, hset2, hget, hset2, hget, hset2, show s + 4 * (i : Int) + 1 + 1 = s + 4 * (i : Int) + 2 by omega, show s + 4 * (i : Int) + 2 + 1 = s + 4 * (i : Int) + 3 by omega, show s + 4 * (i : Int) + 3 + 1 = s + 4 * ((i + 1 : Nat) : Int) by omega, mi_succ, List.append_assoc, List.singleton_append]
    rfl
theorem markTree_from (s : Int) (hs : 0 ≤ s ∧ s ≤ 9000000) (xs : List S50) (hn : xs.length ≤ 9000000) : Ev (fun k => laws_markTree.f k xs s) (s + 4 * (xs.length : Int), mi s xs.length) := by
  unfold laws_markTree.f laws_markItemS.f
  refine Ev.bind (a := (s + 4 * (xs.length : Int), mi s xs.length)) ?_ (ev_const fun _ => rfl)
  have h := markItemS_loop s hs xs hn xs.length 0 (by omega)
  exact Ev.congr (fun k => by simp [mi]) h
theorem heldItemS_loop (s : Int) (hs : 0 ≤ s ∧ s ≤ 9000000) (n : Nat) (hn : n ≤ 9000000) (d : Nat) : ∀ i : Nat, i + d = n →
    Ev (fun k => laws_heldItemS.l0 k (mi s n) (s + 4 * (i : Int)) (i : Int)) (s + 4 * (n : Int)) := by
  induction d with
  | zero =>
    intro i hi
    refine ev_now fun k => ?_
    simp only [laws_heldItemS.l0]
    rw [if_neg (by rw [mi_length]; omega)]
    congr 1; omega
  | succ d ih =>
    intro i hi
    refine Ev.step (f := fun k => laws_heldItemS.l0 k (mi s n) (s + 4 * ((i + 1 : Nat) : Int)) ((i + 1 : Nat) : Int)) (fun k => ?_) (ih (i + 1) (by omega))
    simp only [laws_heldItemS.l0]
    rw [if_pos (by rw [mi_length]; omega), if_pos (by omega), mi_get s n i (by omega), w64 (x := (i : Int) + 1) (by omega), w64 (x := s + 4 * (i : Int) + 1) (by omega), w64 (x := s + 4 * (i : Int) + 1 + 1) (by omega), w64 (x := s + 4 * (i : Int) + 1 + 1 + 1) (by omega), w64 (x := s + 4 * (i : Int) + 1 + 1 + 1 + 1) (by omega)]
    dsimp only
    rw [if_pos rfl, if_pos rfl, if_pos (by omega), if_pos (by omega)]
    congr 1
    omega
theorem heldTree_from (s : Int) (hs : 0 ≤ s ∧ s ≤ 9000000) (n : Nat) (hn : n ≤ 9000000) : Ev (fun k => laws_heldTree.f k (mi s n) s) (s + 4 * (n : Int)) := by
  unfold laws_heldTree.f laws_heldItemS.f
  refine Ev.bind (a := s + 4 * (n : Int)) ?_ (ev_const fun _ => if_neg (by omega))
  exact Ev.congr (fun k => by simp) (heldItemS_loop s hs n hn n 0 (by omega))
theorem markPB_ev (T : List Int) (xs : List S50) (h1 : T.length ≤ 1048576) (h2 : xs.length ≤ 1048576) : Ev (fun k => laws_markPieceBuf.f k T xs 1) (1 + (T.length : Int) + 4 * (xs.length : Int), mk (fun x => wrap32 (x)) 1 T.length, mi (1 + (T.length : Int)) xs.length) := by
  unfold laws_markPieceBuf.f
  exact Ev.bind (markInt32S_ev T (by omega)) (Ev.bind (markTree_from _ (by omega) xs (by omega)) (ev_const fun _ => rfl))
theorem heldPB_ev (n m : Nat) (h1 : n ≤ 1048576) (h2 : m ≤ 1048576) : Ev (fun k => laws_heldPieceBuf.f k (mk (fun x => wrap32 (x)) 1 n) (mi (1 + (n : Int)) m) 1) (1 + (n : Int) + 4 * (m : Int)) := by
  unfold laws_heldPieceBuf.f
  refine Ev.bind (heldInt32S_ev n (by omega)) ?_
  refine Ev.congr (fun k => if_neg (by omega)) ?_
  refine Ev.bind (heldTree_from (1 + (n : Int)) (by omega) m (by omega)) ?_
  exact ev_const fun k => if_neg (by omega)
def mkN (x : Pc) : S38 := ⟨x.off, x.len, x.brk⟩
theorem toIt_cb (L : List (Pc × Int)) : (L.map toIt).map cb = L.map mkS := by rw [List.map_map]; rfl
theorem piece_evQ (T : List Int) (o l : Nat) (h : o + l ≤ T.length) (hT : T.length ≤ 1000000) : Ev (fun k => spec_l4Piece.f k T (o : Int) (l : Int)) ((o : Int), (l : Int), nl ((T.take (o + l)).drop o)) := by
  unfold spec_l4Piece.f
  have w : wrap64 ((o : Int) + (l : Int)) = ((o + l : Nat) : Int) := by unfold wrap64; omega
  refine Ev.congr (fun k => by rw [w, if_pos (by omega), if_pos (by omega), if_pos (by omega), Int.toNat_natCast, Int.toNat_natCast]) ?_
  refine Ev.bind (nl_ev ((T.take (o + l)).drop o) (by rw [List.length_drop, List.length_take]; omega)) ?_
  exact ev_const fun _ => rfl
theorem rdN (ps : List Pc) (k : Nat) (v : Pc) (h : ps[k]? = some v) : rd_T38 (ps.map mkN) (k : Int) = mkN v := by
  have hk := (List.getElem?_eq_some_iff.1 h).1
  unfold rd_T38
  rw [Int.toNat_natCast]
  simp [List.getD, h]
theorem mid_ev (n : Nat) : ∀ (ps : List Pc) (lv : Int), ps.length ≤ n → ps.length ≤ 20000 → 0 ≤ lv → lv + ps.length ≤ 100000 → Ev (fun k => spec_l4Middle.f k (ps.map mkN) lv) ((TP.flat (midF n ps) lv).map mkS) := by
  induction n with
  | zero =>
    intro ps lv hn _ _ _
    have h0 : ps = [] := List.eq_nil_of_length_eq_zero (by omega)
    subst h0
    exact ev_now fun k => by simp only [spec_l4Middle.f]; rw [if_pos (by simp)]; rfl
  | succ n ih =>
    intro ps lv hn hm h0 h1
    by_cases he : ps.length = 0
    · have h0 : ps = [] := List.eq_nil_of_length_eq_zero he
      subst h0
      exact ev_now fun k => by simp only [spec_l4Middle.f]; rw [if_pos (by simp)]; rfl
    · have hk : ps.length / 2 < ps.length := by omega
      have hv := List.getElem?_eq_getElem hk
      have em : midF (n + 1) ps = .node (midF n (ps.take (ps.length / 2))) ps[ps.length / 2] (midF n (ps.drop (ps.length / 2 + 1))) := by simp only [midF]; rw [hv]
      have hrd := rdN ps _ _ hv
      have eq1 : wrap64 (((ps.map mkN).length : Int) / 2) = ((ps.length / 2 : Nat) : Int) := by rw [List.length_map]; unfold wrap64; omega
      have eq2 : wrap64 (((ps.length / 2 : Nat) : Int) + 1) = ((ps.length / 2 + 1 : Nat) : Int) := by unfold wrap64; omega
      have eq3 : wrap64 (lv + 1) = lv + 1 := w64 (by omega)
      have hlm : (ps.map mkN).length = ps.length := by simp
      have i1 := ih (ps.take (ps.length / 2)) (lv + 1) (by rw [List.length_take]; omega) (by rw [List.length_take]; omega) (by omega) (by rw [List.length_take]; omega)
      have i2 := ih (ps.drop (ps.length / 2 + 1)) (lv + 1) (by rw [List.length_drop]; omega) (by rw [List.length_drop]; omega) (by omega) (by rw [List.length_drop]; omega)
      have c1 := midF_cnt n (ps.take (ps.length / 2)) (by rw [List.length_take]; omega)
      have c2 := midF_cnt n (ps.drop (ps.length / 2 + 1)) (by rw [List.length_drop]; omega)
      rw [List.length_take] at c1
      rw [List.length_drop] at c2
      rw [List.map_take] at i1
      rw [List.map_drop] at i2
      rw [em]
      generalize ps.length / 2 = k0 at *
      refine Ev.step (fun k => by rw [spec_l4Middle.f, if_neg (by rw [hlm]; omega), eq1, eq2, eq3, if_pos (by omega), if_pos (by rw [hlm]; omega), Int.toNat_natCast]) ?_
      refine Ev.bind i1 ?_
      refine Ev.congr (fun k => by rw [if_pos (by rw [hlm]; omega), if_pos (by rw [List.length_map, TP.flat_length]; omega), hrd, Option.bind_some, if_pos (by omega), if_pos (by rw [hlm]; omega), Int.toNat_natCast]) ?_
      refine Ev.bind i2 ?_
      refine ev_const fun k => ?_
      rw [if_pos (by simp only [List.length_append, List.length_map, TP.flat_length, List.length_cons, List.length_nil]; omega)]
      simp only [TP.flat, List.map_append, List.map_cons, List.append_assoc, List.singleton_append]
      rfl
def CN (T : List Int) (q : Nat) : List S38 := ((chunkQ T q).map pcQ).map mkN
theorem CN_succ (T : List Int) (q : Nat) : CN T (q + 1) = CN T q ++ [(⟨((16 * q : Nat) : Int), ((min 16 (T.length - 16 * q) : Nat) : Int), nl ((T.take (16 * q + min 16 (T.length - 16 * q))).drop (16 * q))⟩ : S38)] := by
  unfold CN; rw [chunkQ_succ]; simp only [List.map_append, List.map_cons, List.map_nil]; rfl
theorem CN_len (T : List Int) (q : Nat) : (CN T q).length = q := by unfold CN; rw [List.length_map, List.length_map, chunkQ_len]
theorem load_loop (T : List Int) (hT : T.length ≤ 8192) (d : Nat) : ∀ q : Nat, q + d = (T.length + 15) / 16 →
    Ev (fun k => spec_PieceLoad.l0 k T (CN T q) ((16 * q : Nat) : Int)) (T, (TP.flat (midF 1000000 ((chunkQ T ((T.length + 15) / 16)).map pcQ)) 0).map mkS, 0) := by
  induction d with
  | zero =>
    intro q hq
    have hq' : q = (T.length + 15) / 16 := by omega
    refine Ev.step (fun k => by rw [spec_PieceLoad.l0, if_neg (by omega)]) ?_
    have hlen : ((chunkQ T q).map pcQ).length = q := by rw [List.length_map, chunkQ_len]
    have m := mid_ev 1000000 ((chunkQ T q).map pcQ) 0 (by omega) (by omega) (by omega) (by omega)
    refine Ev.bind m ?_
    exact ev_const fun _ => by rw [hq']
  | succ d ih =>
    intro q hq
    have hlt : 16 * q < T.length := by omega
    have h := ih (q + 1) (by omega)
    have e0 : wrap64 ((T.length : Int) - ((16 * q : Nat) : Int)) = ((T.length - 16 * q : Nat) : Int) := by unfold wrap64; omega
    have e1 : wrap64 (((16 * q : Nat) : Int) + 16) = ((16 * (q + 1) : Nat) : Int) := by unfold wrap64; omega
    have hc := CN_len T q
    rw [CN_succ] at h
    by_cases c : 16 < T.length - 16 * q
    · have em : min 16 (T.length - 16 * q) = 16 := by omega
      rw [em] at h
      refine Ev.step (fun k => by rw [spec_PieceLoad.l0, if_pos (by omega), e0, e1, if_pos (by omega)]) ?_
      have pe := piece_evQ T (16 * q) 16 (by omega) (by omega)
      refine Ev.bind pe ?_
      exact Ev.congr (fun k => by rw [if_pos (by omega)]) h
    · have em : min 16 (T.length - 16 * q) = T.length - 16 * q := by omega
      rw [em] at h
      refine Ev.step (fun k => by rw [spec_PieceLoad.l0, if_pos (by omega), e0, e1, if_neg (by omega)]) ?_
      have pe := piece_evQ T (16 * q) (T.length - 16 * q) (by omega) (by omega)
      refine Ev.bind pe ?_
      exact Ev.congr (fun k => by rw [if_pos (by omega)]) h
theorem spec_ev (T : List Int) : Ev (fun k => spec_PieceLoad.f k T) ((pieceLoadV T).1, (pieceLoadV T).2.1.map cb, (pieceLoadV T).2.2) := by
  unfold spec_PieceLoad.f pieceLoadV
  by_cases c : T.length ≤ 8192
  · rw [if_pos c]
    have h := load_loop T c ((T.length + 15) / 16) 0 (by omega)
    simp only [toIt_cb]
    refine Ev.congr (fun k => ?_) h
    rw [if_neg (by omega)]
    simp only [Option.bind_some, List.nil_append, List.length_nil]
    rw [if_pos (by omega)]
    rfl
  · rw [if_neg c]
    exact ev_const fun k => by rw [if_pos (by omega)]; rfl
theorem loadV_len (T : List Int) : (pieceLoadV T).1.length ≤ 8192 ∧ (pieceLoadV T).2.1.length ≤ 8192 := by
  unfold pieceLoadV
  by_cases c : T.length ≤ 8192
  · rw [if_pos c]
    refine ⟨c, ?_⟩
    simp only [List.length_map, TP.flat_length]
    rw [midF_cnt _ _ (by rw [List.length_map, chunkQ_len]; omega), List.length_map, chunkQ_len]
    omega
  · rw [if_neg c]; simp
theorem law (T : List Int) (hm : T.length ≤ 9223372036854775807) : ∃ k, laws_FnExactPieceLoad.f k T = some true := by
  refine Ev.rounds (g := fun k => laws_FnExactPieceLoad.f k T) ?_
  unfold laws_FnExactPieceLoad.f
  by_cases hl : (T.length : Int) > 1048576
  · exact ev_const fun k => if_pos hl
  have hT : T.length ≤ 1048576 := by omega
  have hs := spec_ev T
  have hi : impl_PieceLoad.f T = some ((pieceLoadV T).1, (pieceLoadV T).2.1.map cb, (pieceLoadV T).2.2) := by unfold impl_PieceLoad.f; rw [if_pos hT]
  have hv := loadV_len T
  generalize pieceLoadV T = R at hs hi hv
  obtain ⟨Y, zs, r⟩ := R
  simp only at hs hi hv
  obtain ⟨ys, hys⟩ : ∃ ys, zs.map cb = ys := ⟨_, rfl⟩
  have hyl : ys.length ≤ 8192 := by rw [← hys, List.length_map]; exact hv.2
  have hYl := hv.1
  rw [hys] at hs hi
  clear hys hv
  refine Ev.congr (fun k => if_neg hl) ?_
  refine Ev.bind (toI_ev T hT) ?_
  refine Ev.bind hs ?_
  refine Ev.bind (toI_ev T hT) ?_
  refine Ev.bind (ev_const fun _ => hi) ?_
  refine Ev.bind (eqPB_ev Y ys (by omega) (by omega)) ?_
  refine Ev.congr (fun k => if_pos rfl) ?_
  refine Ev.step (fun k => by simp only [laws_FnExactPieceLoad.j0]; rw [if_neg (by simp)]) ?_
  refine Ev.bind (toI_ev T hT) ?_
  refine Ev.bind (eqI_ev T (by omega)) ?_
  refine Ev.congr (fun k => if_pos rfl) ?_
  refine Ev.bind (markInt32S_ev T (by omega)) ?_
  refine Ev.congr (fun k => if_neg (by dsimp only; omega)) ?_
  refine Ev.bind (eqPB_ev Y ys (by omega) (by omega)) ?_
  refine Ev.congr (fun k => if_pos rfl) ?_
  refine Ev.step (fun k => by simp only [laws_FnExactPieceLoad.j1]; rw [if_neg (by simp)]) ?_
  refine Ev.bind (markPB_ev Y ys (by omega) (by omega)) ?_
  refine Ev.bind (heldPB_ev Y.length ys.length (by omega) (by omega)) ?_
  refine Ev.congr (fun k => if_neg (by omega)) ?_
  refine Ev.congr (fun k => if_pos rfl) ?_
  refine Ev.bind (toI_ev T hT) ?_
  refine Ev.bind (ev_const fun _ => hi) ?_
  refine Ev.bind (eqPB_ev Y ys (by omega) (by omega)) ?_
  refine Ev.congr (fun k => if_pos rfl) ?_
  refine Ev.step (fun k => by simp only [laws_FnExactPieceLoad.j2]; rw [if_neg (by simp)]) ?_
  refine Ev.bind (heldPB_ev Y.length ys.length (by omega) (by omega)) ?_
  refine Ev.congr (fun k => if_neg (by omega)) ?_
  exact ev_const fun k => if_pos rfl
end Go.Proofs.Ytnomidpnofhjdaa.PureFnExactPieceLoad
