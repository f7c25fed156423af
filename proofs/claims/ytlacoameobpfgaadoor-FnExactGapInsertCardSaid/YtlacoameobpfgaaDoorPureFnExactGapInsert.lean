/- The law FnExactGapInsert tells true, plainly, at every input. No condition. -/
import Derived.Test.YtlacoameobpfgaaDoorQFnExactGapInsertx4
namespace Go.Proofs.YtlacoameobpfgaaDoor.PureFnExactGapInsert
open Go Go.RowKit Go.Proofs.YtlacoameobpfgaaDoor.QFnExactGapInsert Go.Proofs.YtlacoameobpfgaaDoorW.PrintWords Go.Proofs.YtlacoameobpfgaaDoorW.PrintLast

theorem ev_now {α : Type} {g : Nat → Option α} {r : α} (h : ∀ k, g (k + 1) = some r) : Ev g r :=
  ⟨1, fun k hk => by obtain ⟨m, rfl⟩ : ∃ m, k = m + 1 := ⟨k - 1, by omega⟩; exact h m⟩
theorem ev_const {α : Type} {g : Nat → Option α} {r : α} (h : ∀ k, g k = some r) : Ev g r := ⟨0, fun k _ => h k⟩
theorem rd_at (xs : List Int) (i : Nat) (h : i < xs.length) : rd xs (i : Int) = xs[i] := by
  unfold rd; simp [List.getD, h]
def mk (f : Int → Int) (k : Int) (n : Nat) : List Int := (List.range n).map fun j => f (k + (j : Nat))
theorem mk_length (f : Int → Int) (k : Int) (n : Nat) : (mk f k n).length = n := by simp [mk]
theorem mk_get (f : Int → Int) (k : Int) (n i : Nat) (h : i < n) : rd (mk f k n) (i : Int) = f (k + i) := by
  rw [rd_at _ _ (by simpa [mk] using h)]; simp [mk]

theorem toInt32S_loop (xs : List Int) (hn : xs.length ≤ 1048576) (d : Nat) : ∀ i : Nat, i + d = xs.length →
    Ev (fun k => laws_toInt32S.l0 k xs (xs.take i ++ List.replicate d 0) (i : Int)) xs := by
  induction d with
  | zero =>
    intro i hi
    obtain rfl : i = xs.length := by omega
    refine ev_now fun k => ?_
    simp only [laws_toInt32S.l0]
    rw [if_neg (by omega)]
    simp
  | succ d ih =>
    intro i hi
    have hlt : i < xs.length := by omega
    refine Ev.step (f := fun k => laws_toInt32S.l0 k xs (xs.take (i + 1) ++ List.replicate d 0) ((i + 1 : Nat) : Int)) (fun k => ?_) (ih (i + 1) (by omega))
    simp only [laws_toInt32S.l0]
    rw [if_pos (by omega), if_pos (by omega), if_pos (by simp; omega), w64 (by omega)]
    congr 1
    · rw [rd_at xs i hlt, Int.toNat_natCast, List.set_append_right _ _ (by simp; omega)]
      rw [show i - (xs.take i).length = 0 by simp; omega, List.replicate_succ, List.set_cons_zero, List.take_succ_eq_append_getElem hlt, List.append_assoc]; rfl
theorem toInt32S_ev (xs : List Int) (hn : xs.length ≤ 1048576) : Ev (fun k => laws_toInt32S.f k xs) xs := by
  unfold laws_toInt32S.f
  have h := toInt32S_loop xs hn xs.length 0 (by omega)
  simp only [List.take_zero, List.nil_append] at h
  refine Ev.congr (f := fun k => laws_toInt32S.l0 k xs (List.replicate xs.length 0) ((0 : Nat) : Int)) (fun k => ?_) h
  rw [if_pos (by omega), if_pos (by omega)]; rfl

theorem eqInt32S_loop (xs : List Int) (hn : xs.length ≤ 9000000) (d : Nat) : ∀ i : Nat, i + d = xs.length →
    Ev (fun k => laws_eqInt32S.l0 k xs xs (i : Int)) true := by
  induction d with
  | zero => intro i hi; refine ev_now fun k => ?_; simp only [laws_eqInt32S.l0]; rw [if_neg (by omega)]
  | succ d ih =>
    intro i hi
    refine Ev.step (f := fun k => laws_eqInt32S.l0 k xs xs ((i + 1 : Nat) : Int)) (fun k => ?_) (ih (i + 1) (by omega))
    simp only [laws_eqInt32S.l0]
    rw [if_pos (by omega), if_pos (by omega), if_pos (by omega), w64 (by omega), if_pos (by first | rfl | trivial)]; rfl
theorem eqInt32S_ev (xs : List Int) (hn : xs.length ≤ 9000000) : Ev (fun k => laws_eqInt32S.f k xs xs) true := by
  unfold laws_eqInt32S.f
  refine Ev.congr (f := fun k => laws_eqInt32S.l0 k xs xs ((0 : Nat) : Int)) (fun k => ?_) (eqInt32S_loop xs hn xs.length 0 (by omega))
  rw [if_pos rfl]; rfl

theorem markInt32S_loop (s : Int) (hs : 0 ≤ s ∧ s ≤ 9000000) (xs : List Int) (hn : xs.length ≤ 9000000) (d : Nat) : ∀ i : Nat, i + d = xs.length →
    Ev (fun k => laws_markInt32S.l0 k (mk (fun x => wrap32 (x)) s i ++ xs.drop i) (s + i) (i : Int)) (s + (xs.length : Int), mk (fun x => wrap32 (x)) s xs.length) := by
  induction d with
  | zero =>
    intro i hi
    obtain rfl : i = xs.length := by omega
    refine ev_now fun k => ?_
    simp only [laws_markInt32S.l0]
    rw [if_neg (by simp [mk_length])]
    simp
  | succ d ih =>
    intro i hi
    have hlt : i < xs.length := by omega
    refine Ev.step (f := fun k => laws_markInt32S.l0 k (mk (fun x => wrap32 (x)) s (i + 1) ++ xs.drop (i + 1)) (s + ((i + 1 : Nat) : Int)) ((i + 1 : Nat) : Int)) (fun k => ?_) (ih (i + 1) (by omega))
    simp only [laws_markInt32S.l0]
    rw [if_pos (by simp [mk_length]; omega), if_pos (by omega), w64 (by omega), w64 (by omega)]
    congr 1
    · rw [Int.toNat_natCast, List.set_append_right _ _ (by simp [mk_length]), mk_length, Nat.sub_self, List.drop_eq_getElem_cons hlt, List.set_cons_zero]
      simp [mk, List.range_succ]
    · omega
theorem markInt32S_from (s : Int) (hs : 0 ≤ s ∧ s ≤ 9000000) (xs : List Int) (hn : xs.length ≤ 9000000) : Ev (fun k => laws_markInt32S.f k xs s) (s + (xs.length : Int), mk (fun x => wrap32 (x)) s xs.length) := by
  unfold laws_markInt32S.f
  have h := markInt32S_loop s hs xs hn xs.length 0 (by omega)
  exact Ev.congr (fun k => by simp [mk]) h
theorem markInt32S_ev (xs : List Int) (hn : xs.length ≤ 9000000) : Ev (fun k => laws_markInt32S.f k xs 1) (1 + (xs.length : Int), mk (fun x => wrap32 (x)) 1 xs.length) := markInt32S_from 1 (by omega) xs hn

theorem heldInt32S_loop (s : Int) (hs : 0 ≤ s ∧ s ≤ 9000000) (n : Nat) (hn : n ≤ 9000000) (d : Nat) : ∀ i : Nat, i + d = n →
    Ev (fun k => laws_heldInt32S.l0 k (mk (fun x => wrap32 (x)) s n) (s + i) (i : Int)) (s + (n : Int)) := by
  induction d with
  | zero => intro i hi; refine ev_now fun k => ?_; simp only [laws_heldInt32S.l0]; rw [if_neg (by rw [mk_length]; omega)]; simp; omega
  | succ d ih =>
    intro i hi
    refine Ev.step (f := fun k => laws_heldInt32S.l0 k (mk (fun x => wrap32 (x)) s n) (s + ((i + 1 : Nat) : Int)) ((i + 1 : Nat) : Int)) (fun k => ?_) (ih (i + 1) (by omega))
    simp only [laws_heldInt32S.l0]
    rw [if_pos (by rw [mk_length]; omega), if_pos (by omega), w64 (by omega), w64 (by omega), if_pos (by rw [mk_get _ _ _ _ (by omega)])]
    congr 1
    omega
theorem heldInt32S_from (s : Int) (hs : 0 ≤ s ∧ s ≤ 9000000) (n : Nat) (hn : n ≤ 9000000) : Ev (fun k => laws_heldInt32S.f k (mk (fun x => wrap32 (x)) s n) s) (s + (n : Int)) := by
  unfold laws_heldInt32S.f
  exact Ev.congr (fun k => by simp) (heldInt32S_loop s hs n hn n 0 (by omega))
theorem heldInt32S_ev (n : Nat) (hn : n ≤ 9000000) : Ev (fun k => laws_heldInt32S.f k (mk (fun x => wrap32 (x)) 1 n) 1) (1 + (n : Int)) := heldInt32S_from 1 (by omega) n hn
theorem szGap_is (xs : List Int) (a b : Int) (h : xs.length ≤ 1048576) : ∃ v, laws_szGap.f xs a b 1048576 = some v ∧ 0 ≤ v := by
  unfold laws_szGap.f laws_szInt32S.f
  refine ⟨1048576 - (xs.length : Int), ?_, by omega⟩
  rw [w64 (by omega), if_neg (by omega)]
  simp only [Option.bind_some]
  rw [if_neg (by omega)]
theorem szGap_big (xs : List Int) (a b : Int) (h : 1048576 < xs.length) (hm : xs.length ≤ 9223372036854775807) : laws_szGap.f xs a b 1048576 = some (-1) := by
  unfold laws_szGap.f laws_szInt32S.f
  rw [w64 (by omega), if_pos (by omega)]
  rfl
theorem toGap_ev (xs : List Int) (a b : Int) (h : xs.length ≤ 1048576) : Ev (fun k => laws_toGap.f k xs a b) (xs, a, b) := by
  unfold laws_toGap.f
  exact Ev.bind (toInt32S_ev xs h) (ev_const fun _ => rfl)
theorem eqGap_ev (xs : List Int) (a b : Int) (h : xs.length ≤ 9000000) : Ev (fun k => laws_eqGap.f k xs a b xs a b) true := by
  unfold laws_eqGap.f
  refine Ev.bind (eqInt32S_ev xs h) ?_
  exact ev_const fun k => by simp
theorem markGap_from (s : Int) (hs : 0 ≤ s ∧ s ≤ 9000000) (xs : List Int) (a b : Int) (h : xs.length ≤ 9000000) : Ev (fun k => laws_markGap.f k xs a b s) (s + (xs.length : Int), mk (fun x => wrap32 (x)) s xs.length) := by
  unfold laws_markGap.f
  exact Ev.bind (markInt32S_from s hs xs h) (ev_const fun _ => rfl)
theorem zeros_iff (xs : List Int) (lo hi : Nat) (hh : hi ≤ xs.length) : (∀ z ∈ (xs.take hi).drop lo, z = 0) ↔ ∀ j, lo ≤ j → j < hi → xs.getD j 0 = 0 := by
  constructor
  · intro h j h1 h2
    refine h _ ?_
    rw [List.getD_eq_getElem?_getD, List.getElem?_eq_getElem (by omega), Option.getD_some]
    refine List.mem_iff_getElem.2 ⟨j - lo, by rw [List.length_drop, List.length_take]; omega, ?_⟩
    rw [List.getElem_drop, List.getElem_take]
    congr 1; omega
  · intro h z hz
    obtain ⟨i, hi', rfl⟩ := List.mem_iff_getElem.1 hz
    rw [List.length_drop, List.length_take] at hi'
    rw [List.getElem_drop, List.getElem_take]
    have := h (lo + i) (by omega) (by omega)
    rw [List.getD_eq_getElem?_getD, List.getElem?_eq_getElem (by omega), Option.getD_some] at this
    exact this
theorem valid_loop (xs : List Int) (lo hi : Nat) (hn : xs.length ≤ 65536) (hl : lo ≤ hi) (hh : hi ≤ xs.length) (d : Nat) : ∀ i : Nat, i + d = hi → lo ≤ i → (∀ j, lo ≤ j → j < i → xs.getD j 0 = 0) →
    Ev (fun k => spec_L3Valid.l0 k (i : Int) xs (lo : Int) (hi : Int)) (decide ((∀ z ∈ (xs.take hi).drop lo, z = 0) ∧ (xs.length : Int) - ((hi : Int) - lo) ≤ 8192)) := by
  induction d with
  | zero =>
    intro i hi' hlo hz
    obtain rfl : i = hi := by omega
    refine ev_now fun k => ?_
    simp only [spec_L3Valid.l0]
    rw [if_neg (by omega), w64 (show -9223372036854775808 ≤ (i : Int) - (lo : Int) ∧ (i : Int) - (lo : Int) ≤ 9223372036854775807 by omega), w64 (by omega)]
    exact congrArg some (decide_eq_decide.2 ⟨fun h => ⟨(zeros_iff xs lo i (by omega)).2 hz, by omega⟩, fun h => by have := h.2; omega⟩)
  | succ d ih =>
    intro i hi' hlo hz
    have hlt : i < xs.length := by omega
    have hrd : rd xs (i : Int) = xs.getD i 0 := by unfold rd; simp
    by_cases c : xs.getD i 0 = 0
    · refine Ev.step (fun k => by simp only [spec_L3Valid.l0]; rw [if_pos (by omega), if_pos (by omega), if_pos (by omega), hrd, if_pos c, w64 (by omega)]) ?_
      exact ih (i + 1) (by omega) (by omega) (fun j h1 h2 => by
        by_cases e : j = i
        · subst e; exact c
        · exact hz j h1 (by omega))
    · refine ev_now fun k => ?_
      simp only [spec_L3Valid.l0]
      rw [if_pos (by omega), if_pos (by omega), if_pos (by omega), hrd, if_neg c]
      exact congrArg some (decide_eq_false (fun h => c ((zeros_iff xs lo hi (by omega)).1 h.1 i hlo (by omega)))).symm
theorem valid_ev (xs : List Int) (lo hi : Int) : Ev (fun k => spec_L3Valid.f k xs lo hi) (decide (okGap xs lo hi)) := by
  have bad : ¬ okGap xs lo hi → Ev (fun k => spec_L3Valid.j0 k true xs lo hi) (decide (okGap xs lo hi)) := fun h =>
    ev_now fun k => by simp only [spec_L3Valid.j0]; rw [if_pos trivial]; exact congrArg some (decide_eq_false h).symm
  unfold spec_L3Valid.f
  by_cases c1 : (xs.length : Int) > 65536
  · exact Ev.congr (fun k => if_pos c1) (bad (fun h => by have := h.1; omega))
  refine Ev.congr (fun k => if_neg c1) ?_
  by_cases c2 : lo < 0
  · exact Ev.congr (fun k => if_pos c2) (bad (fun h => by have := h.2.1; omega))
  refine Ev.congr (fun k => if_neg c2) ?_
  by_cases c3 : hi < lo
  · exact Ev.congr (fun k => if_pos c3) (bad (fun h => by have := h.2.2.1; omega))
  refine Ev.congr (fun k => if_neg c3) ?_
  by_cases c4 : hi > (xs.length : Int)
  · rw [decide_eq_true c4]
    exact bad (fun h => by have := h.2.2.2.1; omega)
  rw [decide_eq_false c4]
  refine Ev.step (fun k => by simp only [spec_L3Valid.j0]; rw [if_neg (by simp)]) ?_
  obtain ⟨lo', rfl⟩ : ∃ n : Nat, lo = n := ⟨lo.toNat, by omega⟩
  obtain ⟨hi', rfl⟩ : ∃ n : Nat, hi = n := ⟨hi.toNat, by omega⟩
  have h := valid_loop xs lo' hi' (by omega) (by omega) (by omega) (hi' - lo') lo' (by omega) (Nat.le_refl _) (fun j a b => by omega)
  have e : decide (okGap xs lo' hi') = decide ((∀ z ∈ (xs.take hi').drop lo', z = 0) ∧ (xs.length : Int) - ((hi' : Int) - lo') ≤ 8192) := by
    refine decide_eq_decide.2 ?_
    unfold okGap
    rw [Int.toNat_natCast, Int.toNat_natCast]
    constructor
    · intro h; exact ⟨h.2.2.2.2.1, h.2.2.2.2.2⟩
    · intro h; exact ⟨by omega, by omega, by omega, by omega, h.1, h.2⟩
  rw [e]
  exact h
theorem text_is (xs : List Int) (lo hi : Int) (h : okGap xs lo hi) : spec_L3Text.f xs lo hi = some (txt xs lo hi) := by
  obtain ⟨h1, h2, h3, h4, -, -⟩ := h
  unfold spec_L3Text.f
  exact if_pos ⟨by omega, by omega, by omega, by omega, by omega⟩
theorem txt_len (xs : List Int) (lo hi : Int) (h : okGap xs lo hi) : (txt xs lo hi).length ≤ 8192 := (okGap_lay h).2.2.1
theorem lay_loop (T : List Int) (at_ g : Nat) (ha : at_ ≤ T.length) (hT : T.length + g ≤ 2000000) (d : Nat) : ∀ i : Nat, i + d = g →
    Ev (fun k => spec_l3Lay.l0 k T (at_ : Int) (g : Int) (T.take at_ ++ List.replicate i 0) (i : Int)) (lay T at_ g, (at_ : Int), ((at_ + g : Nat) : Int)) := by
  induction d with
  | zero =>
    intro i hi
    obtain rfl : i = g := by omega
    refine ev_now fun k => ?_
    simp only [spec_l3Lay.l0]
    rw [if_neg (by omega), if_pos (by omega), if_pos (by omega), if_pos (by simp only [Int.toNat_natCast, List.length_append, List.length_take, List.length_replicate, List.length_drop]; omega), w64 (by omega), Int.toNat_natCast]
    unfold lay
    rw [List.append_assoc]
    rfl
  | succ d ih =>
    intro i hi
    refine Ev.step (fun k => by simp only [spec_l3Lay.l0]; rw [if_pos (by omega), if_pos (by simp only [List.length_append, List.length_take, List.length_replicate]; omega), w64 (by omega), List.append_assoc, ← List.replicate_succ']) ?_
    have := ih (i + 1) (by omega)
    rw [show ((i + 1 : Nat) : Int) = (i : Int) + 1 by omega] at this
    exact this
theorem lay_ev (T : List Int) (at_ g : Nat) (ha : at_ ≤ T.length) (hT : T.length + g ≤ 2000000) :
    Ev (fun k => spec_l3Lay.f k T (at_ : Int) ((T.length + g : Nat) : Int)) (lay T at_ g, (at_ : Int), ((at_ + g : Nat) : Int)) := by
  unfold spec_l3Lay.f
  refine Ev.congr (fun k => by simp only [Option.bind_some]; rw [if_pos (by omega), if_pos (by omega), if_pos (by simp only [Int.toNat_natCast, List.length_nil, List.length_take]; omega), w64 (by omega), List.nil_append, Int.toNat_natCast, show (((T.length + g : Nat) : Int) - (T.length : Int)) = (g : Int) by omega]) ?_
  have := lay_loop T at_ g ha hT g 0 (by omega)
  simpa using this
theorem splice_is (T put : List Int) (lo hi : Nat) (h1 : lo ≤ T.length) (h2 : hi ≤ T.length) (hT : T.length ≤ 2000000) (hp : put.length ≤ 2000000) : spec_l3Splice.f T lo hi put = some (T.take lo ++ (put ++ T.drop hi)) := by
  unfold spec_l3Splice.f
  simp only [Option.bind_some, List.nil_append, Int.toNat_natCast]
  rw [if_pos (by omega), if_pos (by omega), if_pos (by simp only [List.length_nil, List.length_take]; omega), if_pos (by simp only [List.length_take]; omega), if_pos (by omega), if_pos (by omega), if_pos (by simp only [List.length_append, List.length_take, List.length_drop]; omega), List.append_assoc]
theorem heldGap_ev (n : Nat) (a b : Int) (hn : n ≤ 9000000) : Ev (fun k => laws_heldGap.f k (mk (fun x => wrap32 (x)) 1 n) a b 1) (1 + (n : Int)) := by
  unfold laws_heldGap.f
  exact Ev.bind (heldInt32S_ev n hn) (ev_const fun _ => if_neg (by omega))
theorem dbl_loop (a1 : Int) (es T : List Int) (hT : T.length + es.length ≤ 1000000) (R : List Int × Int × Int) (m : Nat) : ∀ c : Nat, 1 ≤ c → c ≤ 4000000 → T.length + es.length ≤ 2 ^ m * c →
    Ev (fun k => ((spec_l3Splice.f T a1 a1 es).bind fun t162 => ((spec_l3Lay.f k t162 (wrap64 (a1 + (es.length : Int))) (dbl m c (T.length + es.length) : Nat)).bind fun bt165 => (some (bt165.1, bt165.2.1, bt165.2.2))))) R →
    Ev (fun k => spec_l3Insert.l0 k a1 es T (c : Int)) R := by
  induction m with
  | zero =>
    intro c h1 h2 h3 hR
    refine Ev.step (fun k => by simp only [spec_l3Insert.l0]; rw [w64 (by omega), if_neg (by simp only [Nat.pow_zero, Nat.one_mul] at h3; omega)]) ?_
    exact hR
  | succ m ih =>
    intro c h1 h2 h3 hR
    by_cases cc : c < T.length + es.length
    · refine Ev.step (fun k => by simp only [spec_l3Insert.l0]; rw [w64 (by omega), if_pos (by omega), w64 (by omega), show (c : Int) * 2 = ((2 * c : Nat) : Int) by omega]) ?_
      simp only [dbl, if_pos cc] at hR
      exact ih (2 * c) (by omega) (by omega) (by rw [← Nat.mul_assoc, ← Nat.pow_succ]; exact h3) hR
    · refine Ev.step (fun k => by simp only [spec_l3Insert.l0]; rw [w64 (by omega), if_neg (by omega)]) ?_
      rw [dbl_done _ _ _ cc] at hR
      exact hR
theorem put_ev (T es : List Int) (a n : Nat) (ha : a ≤ T.length) (hT : T.length ≤ 10000) (he : es.length ≤ 10000) (hn : T.length + es.length ≤ n) (hn2 : n ≤ 1000000) :
    Ev (fun k => ((spec_l3Splice.f T (a : Int) (a : Int) es).bind fun t162 => ((spec_l3Lay.f k t162 (wrap64 ((a : Int) + (es.length : Int))) (n : Nat)).bind fun bt165 => (some (bt165.1, bt165.2.1, bt165.2.2)))))
      (lay (withIn T es a) (a + es.length) (n - T.length - es.length), ((a + es.length : Nat) : Int), ((a + es.length + (n - T.length - es.length) : Nat) : Int)) := by
  have hw := withIn_length T es a ha
  refine Ev.bind (ev_const fun _ => splice_is T es a a ha ha (by omega) (by omega)) ?_
  have hl := lay_ev (withIn T es a) (a + es.length) (n - T.length - es.length) (by omega) (by omega)
  rw [show (withIn T es a).length + (n - T.length - es.length) = n by omega] at hl
  refine Ev.congr (f := fun k => ((spec_l3Lay.f k (withIn T es a) ((a + es.length : Nat) : Int) (n : Nat)).bind fun bt165 => (some (bt165.1, bt165.2.1, bt165.2.2)))) (fun k => by rw [w64 (by omega), show ((a : Int) + (es.length : Int)) = ((a + es.length : Nat) : Int) by omega]; rfl) ?_
  exact Ev.bind hl (ev_const fun _ => rfl)
theorem insert_ev (xs : List Int) (glo ghi : Int) (a : Nat) (es : List Int) (ok : okGap xs glo ghi) (h1 : a ≤ (txt xs glo ghi).length) (h2 : (txt xs glo ghi).length + es.length ≤ 8192) :
    Ev (fun k => spec_l3Insert.f k xs glo ghi (a : Int) es) (lay (withIn (txt xs glo ghi) es a) (a + es.length) (gapAfter (txt xs glo ghi).length (ghi - glo).toNat es.length), ((a + es.length : Nat) : Int), ((a + es.length + gapAfter (txt xs glo ghi).length (ghi - glo).toNat es.length : Nat) : Int)) := by
  obtain ⟨-, hk2, hk3, hk4⟩ := okGap_lay ok
  have ht := text_is xs glo ghi ok
  have hx := ok.1
  have hlo := ok.2.1
  have hhi := ok.2.2.1
  have hhx := ok.2.2.2.1
  change (txt xs glo ghi).length ≤ 8192 at hk3
  change (txt xs glo ghi).length + (ghi - glo).toNat = xs.length at hk4
  generalize txt xs glo ghi = T at ht hk3 hk4 h1 h2 ⊢
  unfold spec_l3Insert.f
  refine Ev.bind (ev_const fun _ => ht) ?_
  by_cases cg : es.length ≤ (ghi - glo).toNat
  · refine Ev.congr (fun k => by rw [w64 (by omega), if_neg (by omega)]) ?_
    have h := put_ev T es a xs.length h1 (by omega) (by omega) (by omega) (by omega)
    unfold gapAfter
    rw [if_pos cg]
    rw [show xs.length - T.length - es.length = (ghi - glo).toNat - es.length by omega] at h
    exact h
  · refine Ev.congr (fun k => by rw [w64 (by omega), if_pos (by omega)]) ?_
    unfold gapAfter
    rw [if_neg cg, hk4]
    have hc := cellsFor_ge xs.length T.length es.length (by omega)
    have h := put_ev T es a (cellsFor xs.length T.length es.length) h1 (by omega) (by omega) (by omega) (by omega)
    by_cases c16 : xs.length < 16
    · refine Ev.congr (fun k => if_pos (by omega)) ?_
      refine Ev.step (f := fun k => spec_l3Insert.l0 k (a : Int) es T ((16 : Nat) : Int)) (fun k => by simp only [spec_l3Insert.j0]; rfl) ?_
      refine dbl_loop (a : Int) es T (by omega) _ 40 16 (by omega) (by omega) (by omega) ?_
      unfold cellsFor at h ⊢
      rw [show max xs.length 16 = 16 by omega] at h ⊢
      exact h
    · refine Ev.congr (fun k => if_neg (by omega)) ?_
      refine Ev.step (f := fun k => spec_l3Insert.l0 k (a : Int) es T (xs.length : Int)) (fun k => by simp only [spec_l3Insert.j0]) ?_
      refine dbl_loop (a : Int) es T (by omega) _ 40 xs.length (by omega) (by omega) (by omega) ?_
      unfold cellsFor at h ⊢
      rw [show max xs.length 16 = xs.length by omega] at h ⊢
      exact h
theorem spec_ev (xs : List Int) (glo ghi at_ : Int) (es : List Int) (he : es.length ≤ 1048576) : Ev (fun k => spec_GapInsert.f k xs glo ghi at_ es) (gapInsertV xs glo ghi at_ es) := by
  unfold spec_GapInsert.f gapInsertV
  refine Ev.bind (valid_ev xs glo ghi) ?_
  by_cases ok : okGap xs glo ghi
  · refine Ev.congr (fun k => if_pos (decide_eq_true ok)) ?_
    rw [if_pos ok]
    have hl := txt_len xs glo ghi ok
    refine Ev.bind (ev_const fun _ => text_is xs glo ghi ok) ?_
    by_cases c1 : at_ < 0
    · rw [if_neg (show ¬ (0 ≤ at_ ∧ at_ ≤ ((txt xs glo ghi).length : Int)) by omega)]
      refine Ev.congr (fun k => if_pos c1) ?_
      exact ev_now fun k => by simp only [spec_GapInsert.j0]; rw [if_pos trivial]
    refine Ev.congr (fun k => if_neg c1) ?_
    by_cases c2 : at_ > ((txt xs glo ghi).length : Int)
    · rw [if_neg (show ¬ (0 ≤ at_ ∧ at_ ≤ ((txt xs glo ghi).length : Int)) by omega)]
      exact ev_now fun k => by simp only [spec_GapInsert.j0]; rw [if_pos (decide_eq_true c2)]
    rw [if_pos (show 0 ≤ at_ ∧ at_ ≤ ((txt xs glo ghi).length : Int) by omega)]
    refine Ev.step (fun k => by simp only [spec_GapInsert.j0]; rw [if_neg (by rw [decide_eq_false c2]; simp), w64 (by omega)]) ?_
    by_cases c3 : (txt xs glo ghi).length + es.length ≤ 8192
    · rw [if_pos c3]
      refine Ev.congr (fun k => if_neg (by omega)) ?_
      obtain ⟨a, rfl⟩ : ∃ n : Nat, at_ = n := ⟨at_.toNat, by omega⟩
      refine Ev.bind (insert_ev xs glo ghi a es ok (by omega) c3) ?_
      exact ev_const fun _ => by simp only [Int.toNat_natCast]
    · rw [if_neg c3]
      exact ev_const fun k => if_pos (by omega)
  · refine Ev.congr (fun k => if_neg (by rw [decide_eq_false ok]; simp)) ?_
    rw [if_neg ok]
    exact ev_const fun _ => rfl
theorem gapInsertV_len (xs : List Int) (glo ghi at_ : Int) (es : List Int) : (gapInsertV xs glo ghi at_ es).1.length ≤ 100000 := by
  unfold gapInsertV
  by_cases ok : okGap xs glo ghi
  · rw [if_pos ok]
    obtain ⟨-, hk2, hk3, hk4⟩ := okGap_lay ok
    have hx := ok.1
    change (txt xs glo ghi).length ≤ 8192 at hk3
    change (txt xs glo ghi).length + (ghi - glo).toNat = xs.length at hk4
    split
    · split
      · have hw := withIn_length (txt xs glo ghi) es at_.toNat (by omega)
        have hc := cellsFor_ge xs.length (txt xs glo ghi).length es.length (by omega)
        simp only
        rw [lay_length _ _ _ (by omega)]
        unfold gapAfter
        rw [hk4]
        split <;> omega
      · simp
    · simp
  · rw [if_neg ok]; simp
theorem law (xs : List Int) (glo ghi at_ : Int) (es : List Int) (hm : xs.length ≤ 9223372036854775807) : ∃ k, laws_FnExactGapInsert.f k xs glo ghi at_ es = some true := by
  refine Ev.rounds (g := fun k => laws_FnExactGapInsert.f k xs glo ghi at_ es) ?_
  unfold laws_FnExactGapInsert.f
  by_cases he : 1048576 < es.length
  · exact ev_const fun k => if_pos (by omega)
  refine Ev.congr (fun k => if_neg (by omega)) ?_
  by_cases hn : 1048576 < xs.length
  · exact ev_const fun k => by rw [szGap_big xs glo ghi hn hm, Option.bind_some, if_pos (by omega)]
  have hn' : xs.length ≤ 1048576 := by omega
  have he' : es.length ≤ 1048576 := by omega
  obtain ⟨v, hv, hv0⟩ := szGap_is xs glo ghi hn'
  have hl := gapInsertV_len xs glo ghi at_ es
  have hs := spec_ev xs glo ghi at_ es he'
  have hi' : impl_GapInsert.f xs glo ghi at_ es = some (gapInsertV xs glo ghi at_ es) := by unfold impl_GapInsert.f; rw [if_pos ⟨hn', he'⟩]
  generalize gapInsertV xs glo ghi at_ es = R at hl hs hi'
  obtain ⟨ys, a, b, c⟩ := R
  simp only at hl
  refine Ev.bind (ev_const fun _ => hv) ?_
  refine Ev.congr (fun k => if_neg (by omega)) ?_
  refine Ev.bind (toGap_ev xs glo ghi hn') ?_
  refine Ev.bind (toInt32S_ev es he') ?_
  refine Ev.bind hs ?_
  refine Ev.bind (toGap_ev xs glo ghi hn') ?_
  refine Ev.bind (toInt32S_ev es he') ?_
  refine Ev.bind (ev_const fun _ => hi') ?_
  refine Ev.bind (eqGap_ev ys a b (by omega)) ?_
  refine Ev.congr (fun k => if_pos rfl) ?_
  refine Ev.step (fun k => by simp only [laws_FnExactGapInsert.j0]; rw [if_neg (by simp)]) ?_
  refine Ev.bind (toGap_ev xs glo ghi hn') ?_
  refine Ev.bind (eqGap_ev xs glo ghi (by omega)) ?_
  refine Ev.congr (fun k => if_pos rfl) ?_
  refine Ev.bind (toInt32S_ev es he') ?_
  refine Ev.bind (eqInt32S_ev es (by omega)) ?_
  refine Ev.congr (fun k => if_pos rfl) ?_
  refine Ev.bind (markGap_from 1 (by omega) xs glo ghi (by omega)) ?_
  refine Ev.bind (markInt32S_from (1 + (xs.length : Int)) (by omega) es (by omega)) ?_
  refine Ev.congr (fun k => if_neg (by dsimp only; omega)) ?_
  refine Ev.bind (eqGap_ev ys a b (by omega)) ?_
  refine Ev.congr (fun k => if_pos rfl) ?_
  refine Ev.step (fun k => by simp only [laws_FnExactGapInsert.j1]; rw [if_neg (by simp)]) ?_
  refine Ev.bind (markGap_from 1 (by omega) ys a b (by omega)) ?_
  refine Ev.bind (heldGap_ev ys.length a b (by omega)) ?_
  refine Ev.congr (fun k => if_neg (by omega)) ?_
  refine Ev.congr (fun k => if_pos rfl) ?_
  refine Ev.bind (toGap_ev xs glo ghi hn') ?_
  refine Ev.bind (toInt32S_ev es he') ?_
  refine Ev.bind (ev_const fun _ => hi') ?_
  refine Ev.bind (eqGap_ev ys a b (by omega)) ?_
  refine Ev.congr (fun k => if_pos rfl) ?_
  refine Ev.step (fun k => by simp only [laws_FnExactGapInsert.j2]; rw [if_neg (by simp)]) ?_
  refine Ev.bind (heldGap_ev ys.length a b (by omega)) ?_
  refine Ev.congr (fun k => if_neg (by omega)) ?_
  exact ev_const fun k => if_pos rfl
end Go.Proofs.YtlacoameobpfgaaDoor.PureFnExactGapInsert
