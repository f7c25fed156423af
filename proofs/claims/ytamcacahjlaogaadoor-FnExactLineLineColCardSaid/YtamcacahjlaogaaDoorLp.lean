/- The printed functions of the line laws, plainly. Conditions: the bounds. -/
import Derived.Test.YtamcacahjlaogaaDoorLb
namespace Go.Proofs.YtamcacahjlaogaaDoor.LP
open Go Go.RowKit Go.Proofs.YtamcacahjlaogaaDoor.QBaseL Go.Proofs.YtamcacahjlaogaaDoorW.PrintWords Go.Proofs.YtamcacahjlaogaaDoorW.PrintLast

theorem ev_now {α : Type} {g : Nat → Option α} {r : α} (h : ∀ k, g (k + 1) = some r) : Ev g r :=
 ⟨1, fun k hk => by obtain ⟨m, rfl⟩ : ∃ m, k = m + 1 := ⟨k - 1, by omega⟩; exact h m⟩
theorem ev_const {α : Type} {g : Nat → Option α} {r : α} (h : ∀ k, g k = some r) : Ev g r := ⟨0, fun k _ => h k⟩
theorem rd_at (xs : List Int) (i : Nat) (h : i < xs.length) : rd xs (i : Int) = xs[i] := by
 unfold rd; simp [List.getD, h]
def mk (f : Int → Int) (k : Int) (n : Nat) : List Int := (List.range n).map fun j => f (k + (j : Nat))
theorem mk_length (f : Int → Int) (k : Int) (n : Nat) : (mk f k n).length = n := by simp [mk]
theorem mk_get (f : Int → Int) (k : Int) (n i : Nat) (h : i < n) : rd (mk f k n) (i : Int) = f (k + i) := by
 rw [rd_at _ _ (by simpa [mk] using h)]; simp [mk]

theorem toInt32S_loop (xs : List Int) (hn : xs.length ≤ 1048576) (d : Nat) : ∀ i : Nat, i + d = xs.length →
  Ev (fun k => laws_toInt32S.l0 k xs (xs.take i ++ List.replicate d 0) (i : Int)) xs := by
 induction d with
 | zero =>
  intro i hi
  obtain rfl : i = xs.length := by omega
  refine ev_now fun k => ?_
  simp only [laws_toInt32S.l0]
  rw [if_neg (by omega)]
  simp
 | succ d ih =>
  intro i hi
  have hlt : i < xs.length := by omega
  refine Ev.step (f := fun k => laws_toInt32S.l0 k xs (xs.take (i + 1) ++ List.replicate d 0) ((i + 1 : Nat) : Int)) (fun k => ?_) (ih (i + 1) (by omega))
  simp only [laws_toInt32S.l0]
  rw [if_pos (by omega), if_pos (by omega), if_pos (by simp; omega), w64 (by omega)]
  congr 1
  ·rw [rd_at xs i hlt, Int.toNat_natCast, List.set_append_right _ _ (by simp; omega)]
   rw [show i - (xs.take i).length = 0 by simp; omega, List.replicate_succ, List.set_cons_zero, List.take_succ_eq_append_getElem hlt, List.append_assoc]; rfl
theorem toInt32S_ev (xs : List Int) (hn : xs.length ≤ 1048576) : Ev (fun k => laws_toInt32S.f k xs) xs := by
 unfold laws_toInt32S.f
 have h := toInt32S_loop xs hn xs.length 0 (by omega)
 simp only [List.take_zero, List.nil_append] at h
 refine Ev.congr (f := fun k => laws_toInt32S.l0 k xs (List.replicate xs.length 0) ((0 : Nat) : Int)) (fun k => ?_) h
 rw [if_pos (by omega), if_pos (by omega)]; rfl

theorem eqInt32S_loop (xs : List Int) (hn : xs.length ≤ 9000000) (d : Nat) : ∀ i : Nat, i + d = xs.length →
  Ev (fun k => laws_eqInt32S.l0 k xs xs (i : Int)) true := by
 induction d with
 | zero => intro i hi; refine ev_now fun k => ?_; simp only [laws_eqInt32S.l0]; rw [if_neg (by omega)]
 | succ d ih =>
  intro i hi
  refine Ev.step (f := fun k => laws_eqInt32S.l0 k xs xs ((i + 1 : Nat) : Int)) (fun k => ?_) (ih (i + 1) (by omega))
  simp only [laws_eqInt32S.l0]
  rw [if_pos (by omega), if_pos (by omega), if_pos (by omega), w64 (by omega), if_pos (by first | rfl | trivial)]; rfl
theorem eqInt32S_ev (xs : List Int) (hn : xs.length ≤ 9000000) : Ev (fun k => laws_eqInt32S.f k xs xs) true := by
 unfold laws_eqInt32S.f
 refine Ev.congr (f := fun k => laws_eqInt32S.l0 k xs xs ((0 : Nat) : Int)) (fun k => ?_) (eqInt32S_loop xs hn xs.length 0 (by omega))
 rw [if_pos rfl]; rfl

theorem markInt32S_loop (s : Int) (hs : 0 ≤ s ∧ s ≤ 9000000) (xs : List Int) (hn : xs.length ≤ 9000000) (d : Nat) : ∀ i : Nat, i + d = xs.length →
  Ev (fun k => laws_markInt32S.l0 k (mk (fun x => wrap32 (x)) s i ++ xs.drop i) (s + i) (i : Int)) (s + (xs.length : Int), mk (fun x => wrap32 (x)) s xs.length) := by
 induction d with
 | zero =>
  intro i hi
  obtain rfl : i = xs.length := by omega
  refine ev_now fun k => ?_
  simp only [laws_markInt32S.l0]
  rw [if_neg (by simp [mk_length])]
  simp
 | succ d ih =>
  intro i hi
  have hlt : i < xs.length := by omega
  refine Ev.step (f := fun k => laws_markInt32S.l0 k (mk (fun x => wrap32 (x)) s (i + 1) ++ xs.drop (i + 1)) (s + ((i + 1 : Nat) : Int)) ((i + 1 : Nat) : Int)) (fun k => ?_) (ih (i + 1) (by omega))
  simp only [laws_markInt32S.l0]
  rw [if_pos (by simp [mk_length]; omega), if_pos (by omega), w64 (by omega), w64 (by omega)]
  congr 1
  ·rw [Int.toNat_natCast, List.set_append_right _ _ (by simp [mk_length]), mk_length, Nat.sub_self, List.drop_eq_getElem_cons hlt, List.set_cons_zero]
   simp [mk, List.range_succ]
  ·omega
theorem markInt32S_from (s : Int) (hs : 0 ≤ s ∧ s ≤ 9000000) (xs : List Int) (hn : xs.length ≤ 9000000) : Ev (fun k => laws_markInt32S.f k xs s) (s + (xs.length : Int), mk (fun x => wrap32 (x)) s xs.length) := by
 unfold laws_markInt32S.f
 have h := markInt32S_loop s hs xs hn xs.length 0 (by omega)
 exact Ev.congr (fun k => by simp [mk]) h
theorem heldInt32S_loop (s : Int) (hs : 0 ≤ s ∧ s ≤ 9000000) (n : Nat) (hn : n ≤ 9000000) (d : Nat) : ∀ i : Nat, i + d = n →
  Ev (fun k => laws_heldInt32S.l0 k (mk (fun x => wrap32 (x)) s n) (s + i) (i : Int)) (s + (n : Int)) := by
 induction d with
 | zero => intro i hi; refine ev_now fun k => ?_; simp only [laws_heldInt32S.l0]; rw [if_neg (by rw [mk_length]; omega)]; simp; omega
 | succ d ih =>
  intro i hi
  refine Ev.step (f := fun k => laws_heldInt32S.l0 k (mk (fun x => wrap32 (x)) s n) (s + ((i + 1 : Nat) : Int)) ((i + 1 : Nat) : Int)) (fun k => ?_) (ih (i + 1) (by omega))
  simp only [laws_heldInt32S.l0]
  rw [if_pos (by rw [mk_length]; omega), if_pos (by omega), w64 (by omega), w64 (by omega), if_pos (by rw [mk_get _ _ _ _ (by omega)])]
  congr 1
  omega
theorem heldInt32S_from (s : Int) (hs : 0 ≤ s ∧ s ≤ 9000000) (n : Nat) (hn : n ≤ 9000000) : Ev (fun k => laws_heldInt32S.f k (mk (fun x => wrap32 (x)) s n) s) (s + (n : Int)) := by
 unfold laws_heldInt32S.f
 exact Ev.congr (fun k => by simp) (heldInt32S_loop s hs n hn n 0 (by omega))
theorem toIntS_loop (xs : List Int) (hn : xs.length ≤ 1048576) (d : Nat) : ∀ i : Nat, i + d = xs.length →
  Ev (fun k => laws_toIntS.l0 k xs (xs.take i ++ List.replicate d 0) (i : Int)) xs := by
 induction d with
 | zero =>
  intro i hi
  obtain rfl : i = xs.length := by omega
  refine ev_now fun k => ?_
  simp only [laws_toIntS.l0]
  rw [if_neg (by omega)]
  simp
 | succ d ih =>
  intro i hi
  have hlt : i < xs.length := by omega
  refine Ev.step (f := fun k => laws_toIntS.l0 k xs (xs.take (i + 1) ++ List.replicate d 0) ((i + 1 : Nat) : Int)) (fun k => ?_) (ih (i + 1) (by omega))
  simp only [laws_toIntS.l0]
  rw [if_pos (by omega), if_pos (by omega), if_pos (by simp; omega), w64 (by omega)]
  congr 1
  ·rw [rd_at xs i hlt, Int.toNat_natCast, List.set_append_right _ _ (by simp; omega)]
   rw [show i - (xs.take i).length = 0 by simp; omega, List.replicate_succ, List.set_cons_zero, List.take_succ_eq_append_getElem hlt, List.append_assoc]; rfl
theorem toIntS_ev (xs : List Int) (hn : xs.length ≤ 1048576) : Ev (fun k => laws_toIntS.f k xs) xs := by
 unfold laws_toIntS.f
 have h := toIntS_loop xs hn xs.length 0 (by omega)
 simp only [List.take_zero, List.nil_append] at h
 refine Ev.congr (f := fun k => laws_toIntS.l0 k xs (List.replicate xs.length 0) ((0 : Nat) : Int)) (fun k => ?_) h
 rw [if_pos (by omega), if_pos (by omega)]; rfl

theorem eqIntS_loop (xs : List Int) (hn : xs.length ≤ 9000000) (d : Nat) : ∀ i : Nat, i + d = xs.length →
  Ev (fun k => laws_eqIntS.l0 k xs xs (i : Int)) true := by
 induction d with
 | zero => intro i hi; refine ev_now fun k => ?_; simp only [laws_eqIntS.l0]; rw [if_neg (by omega)]
 | succ d ih =>
  intro i hi
  refine Ev.step (f := fun k => laws_eqIntS.l0 k xs xs ((i + 1 : Nat) : Int)) (fun k => ?_) (ih (i + 1) (by omega))
  simp only [laws_eqIntS.l0]
  rw [if_pos (by omega), if_pos (by omega), if_pos (by omega), w64 (by omega), if_pos (by first | rfl | trivial)]; rfl
theorem eqIntS_ev (xs : List Int) (hn : xs.length ≤ 9000000) : Ev (fun k => laws_eqIntS.f k xs xs) true := by
 unfold laws_eqIntS.f
 refine Ev.congr (f := fun k => laws_eqIntS.l0 k xs xs ((0 : Nat) : Int)) (fun k => ?_) (eqIntS_loop xs hn xs.length 0 (by omega))
 rw [if_pos rfl]; rfl

theorem markIntS_loop (s : Int) (hs : 0 ≤ s ∧ s ≤ 9000000) (xs : List Int) (hn : xs.length ≤ 9000000) (d : Nat) : ∀ i : Nat, i + d = xs.length →
  Ev (fun k => laws_markIntS.l0 k (mk (fun x => x) s i ++ xs.drop i) (s + i) (i : Int)) (s + (xs.length : Int), mk (fun x => x) s xs.length) := by
 induction d with
 | zero =>
  intro i hi
  obtain rfl : i = xs.length := by omega
  refine ev_now fun k => ?_
  simp only [laws_markIntS.l0]
  rw [if_neg (by simp [mk_length])]
  simp
 | succ d ih =>
  intro i hi
  have hlt : i < xs.length := by omega
  refine Ev.step (f := fun k => laws_markIntS.l0 k (mk (fun x => x) s (i + 1) ++ xs.drop (i + 1)) (s + ((i + 1 : Nat) : Int)) ((i + 1 : Nat) : Int)) (fun k => ?_) (ih (i + 1) (by omega))
  simp only [laws_markIntS.l0]
  rw [if_pos (by simp [mk_length]; omega), if_pos (by omega), w64 (by omega), w64 (by omega)]
  congr 1
  ·rw [Int.toNat_natCast, List.set_append_right _ _ (by simp [mk_length]), mk_length, Nat.sub_self, List.drop_eq_getElem_cons hlt, List.set_cons_zero]
   simp [mk, List.range_succ]
  ·omega
theorem markIntS_from (s : Int) (hs : 0 ≤ s ∧ s ≤ 9000000) (xs : List Int) (hn : xs.length ≤ 9000000) : Ev (fun k => laws_markIntS.f k xs s) (s + (xs.length : Int), mk (fun x => x) s xs.length) := by
 unfold laws_markIntS.f
 have h := markIntS_loop s hs xs hn xs.length 0 (by omega)
 exact Ev.congr (fun k => by simp [mk]) h
theorem heldIntS_loop (s : Int) (hs : 0 ≤ s ∧ s ≤ 9000000) (n : Nat) (hn : n ≤ 9000000) (d : Nat) : ∀ i : Nat, i + d = n →
  Ev (fun k => laws_heldIntS.l0 k (mk (fun x => x) s n) (s + i) (i : Int)) (s + (n : Int)) := by
 induction d with
 | zero => intro i hi; refine ev_now fun k => ?_; simp only [laws_heldIntS.l0]; rw [if_neg (by rw [mk_length]; omega)]; simp; omega
 | succ d ih =>
  intro i hi
  refine Ev.step (f := fun k => laws_heldIntS.l0 k (mk (fun x => x) s n) (s + ((i + 1 : Nat) : Int)) ((i + 1 : Nat) : Int)) (fun k => ?_) (ih (i + 1) (by omega))
  simp only [laws_heldIntS.l0]
  rw [if_pos (by rw [mk_length]; omega), if_pos (by omega), w64 (by omega), w64 (by omega), if_pos (by rw [mk_get _ _ _ _ (by omega)])]
  congr 1
  omega
theorem heldIntS_from (s : Int) (hs : 0 ≤ s ∧ s ≤ 9000000) (n : Nat) (hn : n ≤ 9000000) : Ev (fun k => laws_heldIntS.f k (mk (fun x => x) s n) s) (s + (n : Int)) := by
 unfold laws_heldIntS.f
 exact Ev.congr (fun k => by simp) (heldIntS_loop s hs n hn n 0 (by omega))
theorem toGap_ev (xs : List Int) (a b : Int) (h : xs.length ≤ 1048576) : Ev (fun k => laws_toGap.f k xs a b) (xs, a, b) := by
 unfold laws_toGap.f
 exact Ev.bind (toInt32S_ev xs h) (ev_const fun _ => rfl)
theorem eqGap_ev (xs : List Int) (a b : Int) (h : xs.length ≤ 9000000) : Ev (fun k => laws_eqGap.f k xs a b xs a b) true := by
 unfold laws_eqGap.f
 refine Ev.bind (eqInt32S_ev xs h) ?_
 exact ev_const fun k => by simp
theorem zeros_iff (xs : List Int) (lo hi : Nat) (hh : hi ≤ xs.length) : (∀ z ∈ (xs.take hi).drop lo, z = 0) ↔ ∀ j, lo ≤ j → j < hi → xs.getD j 0 = 0 := by
 constructor
 ·intro h j h1 h2
  refine h _ ?_
  rw [List.getD_eq_getElem?_getD, List.getElem?_eq_getElem (by omega), Option.getD_some]
  refine List.mem_iff_getElem.2 ⟨j - lo, by rw [List.length_drop, List.length_take]; omega, ?_⟩
  rw [List.getElem_drop, List.getElem_take]
  congr 1; omega
 ·intro h z hz
  obtain ⟨i, hi', rfl⟩ := List.mem_iff_getElem.1 hz
  rw [List.length_drop, List.length_take] at hi'
  rw [List.getElem_drop, List.getElem_take]
  have := h (lo + i) (by omega) (by omega)
  rw [List.getD_eq_getElem?_getD, List.getElem?_eq_getElem (by omega), Option.getD_some] at this
  exact this
theorem valid_loop (xs : List Int) (lo hi : Nat) (hn : xs.length ≤ 65536) (hl : lo ≤ hi) (hh : hi ≤ xs.length) (d : Nat) : ∀ i : Nat, i + d = hi → lo ≤ i → (∀ j, lo ≤ j → j < i → xs.getD j 0 = 0) →
  Ev (fun k => spec_L3Valid.l0 k (i : Int) xs (lo : Int) (hi : Int)) (decide ((∀ z ∈ (xs.take hi).drop lo, z = 0) ∧ (xs.length : Int) - ((hi : Int) - lo) ≤ 8192)) := by
 induction d with
 | zero =>
  intro i hi' hlo hz
  obtain rfl : i = hi := by omega
  refine ev_now fun k => ?_
  simp only [spec_L3Valid.l0]
  rw [if_neg (by omega), w64 (show -9223372036854775808 ≤ (i : Int) - (lo : Int) ∧ (i : Int) - (lo : Int) ≤ 9223372036854775807 by omega), w64 (by omega)]
  exact congrArg some (decide_eq_decide.2 ⟨fun h => ⟨(zeros_iff xs lo i (by omega)).2 hz, by omega⟩, fun h => by have := h.2; omega⟩)
 | succ d ih =>
  intro i hi' hlo hz
  have hlt : i < xs.length := by omega
  have hrd : rd xs (i : Int) = xs.getD i 0 := by unfold rd; simp
  by_cases c : xs.getD i 0 = 0
  ·refine Ev.step (fun k => by simp only [spec_L3Valid.l0]; rw [if_pos (by omega), if_pos (by omega), if_pos (by omega), hrd, if_pos c, w64 (by omega)]) ?_
   exact ih (i + 1) (by omega) (by omega) (fun j h1 h2 => by
    by_cases e : j = i
    ·subst e; exact c
    ·exact hz j h1 (by omega))
  ·refine ev_now fun k => ?_
   simp only [spec_L3Valid.l0]
   rw [if_pos (by omega), if_pos (by omega), if_pos (by omega), hrd, if_neg c]
   exact congrArg some (decide_eq_false (fun h => c ((zeros_iff xs lo hi (by omega)).1 h.1 i hlo (by omega)))).symm
theorem valid_ev (xs : List Int) (lo hi : Int) : Ev (fun k => spec_L3Valid.f k xs lo hi) (decide (okGap xs lo hi)) := by
 have bad : ¬ okGap xs lo hi → Ev (fun k => spec_L3Valid.j0 k true xs lo hi) (decide (okGap xs lo hi)) := fun h =>
  ev_now fun k => by simp only [spec_L3Valid.j0]; rw [if_pos trivial]; exact congrArg some (decide_eq_false h).symm
 unfold spec_L3Valid.f
 by_cases c1 : (xs.length : Int) > 65536
 ·exact Ev.congr (fun k => if_pos c1) (bad (fun h => by have := h.1; omega))
 refine Ev.congr (fun k => if_neg c1) ?_
 by_cases c2 : lo < 0
 ·exact Ev.congr (fun k => if_pos c2) (bad (fun h => by have := h.2.1; omega))
 refine Ev.congr (fun k => if_neg c2) ?_
 by_cases c3 : hi < lo
 ·exact Ev.congr (fun k => if_pos c3) (bad (fun h => by have := h.2.2.1; omega))
 refine Ev.congr (fun k => if_neg c3) ?_
 by_cases c4 : hi > (xs.length : Int)
 ·rw [decide_eq_true c4]
  exact bad (fun h => by have := h.2.2.2.1; omega)
 rw [decide_eq_false c4]
 refine Ev.step (fun k => by simp only [spec_L3Valid.j0]; rw [if_neg (by simp)]) ?_
 obtain ⟨lo', rfl⟩ : ∃ n : Nat, lo = n := ⟨lo.toNat, by omega⟩
 obtain ⟨hi', rfl⟩ : ∃ n : Nat, hi = n := ⟨hi.toNat, by omega⟩
 have h := valid_loop xs lo' hi' (by omega) (by omega) (by omega) (hi' - lo') lo' (by omega) (Nat.le_refl _) (fun j a b => by omega)
 have e : decide (okGap xs lo' hi') = decide ((∀ z ∈ (xs.take hi').drop lo', z = 0) ∧ (xs.length : Int) - ((hi' : Int) - lo') ≤ 8192) := by
  refine decide_eq_decide.2 ?_
  unfold okGap
  rw [Int.toNat_natCast, Int.toNat_natCast]
  constructor
  ·intro h; exact ⟨h.2.2.2.2.1, h.2.2.2.2.2⟩
  ·intro h; exact ⟨by omega, by omega, by omega, by omega, h.1, h.2⟩
 rw [e]
 exact h
theorem text_is (xs : List Int) (lo hi : Int) (h : okGap xs lo hi) : spec_L3Text.f xs lo hi = some (txt xs lo hi) := by
 obtain ⟨h1, h2, h3, h4, -, -⟩ := h
 unfold spec_L3Text.f
 simp only [Option.bind_some]
 rw [if_pos (by omega), if_pos (by omega), if_pos (by simp only [List.length_nil, List.length_take]; omega), if_pos (by omega), if_pos (by omega), if_pos (by simp only [List.length_append, List.length_nil, List.length_take, List.length_drop]; omega)]
 rfl
theorem txt_len (xs : List Int) (lo hi : Int) (h : okGap xs lo hi) : (txt xs lo hi).length ≤ 8192 := (okGap_lay h).2.2.1
theorem rdG_ (xs : List S76) (i : Nat) (h : i < xs.length) : rd_T76 xs (i : Int) = xs[i] := by unfold rd_T76; simp [List.getD, h]
theorem rdL_ (xs : List S75) (i : Nat) (h : i < xs.length) : rd_T75 xs (i : Int) = xs[i] := by unfold rd_T75; simp [List.getD, h]
def cvG (x : S75) : S76 := ⟨x.f0, x.f1, x.f2⟩
theorem toGapS_loop (xs : List S75) (hn : xs.length ≤ 1048576) (hc : ∀ x ∈ xs, x.f0.length ≤ 1048576) (d : Nat) : ∀ i : Nat, i + d = xs.length →
  Ev (fun k => laws_toGapS.l0 k xs ((xs.take i).map cvG ++ List.replicate d z76) (i : Int)) (xs.map cvG) := by
 induction d with
 | zero =>
  intro i hi
  obtain rfl : i = xs.length := by omega
  refine ev_now fun k => ?_
  simp only [laws_toGapS.l0]
  rw [if_neg (by omega)]
  simp
 | succ d ih =>
  intro i hi
  have hlt : i < xs.length := by omega
  have e : ((xs.take i).map cvG ++ List.replicate (d + 1) z76).set i (⟨xs[i].f0, xs[i].f1, xs[i].f2⟩ : S76) = (xs.take (i + 1)).map cvG ++ List.replicate d z76 := by
   rw [List.set_append_right _ _ (by simp; omega), show i - ((xs.take i).map cvG).length = 0 by simp; omega, List.replicate_succ, List.set_cons_zero, List.take_succ_eq_append_getElem hlt, List.map_append, List.append_assoc]; rfl
  refine Ev.step (f := fun k => (laws_toGap.f k xs[i].f0 xs[i].f1 xs[i].f2).bind fun bt => laws_toGapS.l0 k xs (((xs.take i).map cvG ++ List.replicate (d + 1) z76).set i (⟨bt.1, bt.2.1, bt.2.2⟩ : S76)) ((i + 1 : Nat) : Int)) (fun k => ?_) (Ev.bind (toGap_ev _ _ _ (hc _ (List.getElem_mem hlt))) ?_)
  ·simp only [laws_toGapS.l0]
   rw [if_pos (by omega), if_pos (by omega), rdL_ xs i hlt]
   congr 1; funext bt
   rw [if_pos (by simp; omega), w64 (by omega)]; rfl
  ·show Ev (fun k => laws_toGapS.l0 k xs (((xs.take i).map cvG ++ List.replicate (d + 1) z76).set i (⟨xs[i].f0, xs[i].f1, xs[i].f2⟩ : S76)) ((i + 1 : Nat) : Int)) (xs.map cvG)
   rw [e]
   exact ih (i + 1) (by omega)
theorem toLineBuf_ev (xs : List S75) (st : List Int) (hn : xs.length ≤ 1048576) (hc : ∀ x ∈ xs, x.f0.length ≤ 1048576) (hs : st.length ≤ 1048576) : Ev (fun k => laws_toLineBuf.f k xs st) (xs.map cvG, st) := by
 unfold laws_toLineBuf.f
 refine Ev.bind (a := xs.map cvG) ?_ (Ev.bind (toIntS_ev st hs) (ev_const fun _ => rfl))
 unfold laws_toGapS.f
 refine Ev.congr (fun k => by rw [if_pos (by omega), if_pos (by omega)]) ?_
 have h := toGapS_loop xs hn hc xs.length 0 (by omega)
 simpa using h
theorem eqGapS_loop (xs : List S76) (hn : xs.length ≤ 9000000) (hc : ∀ x ∈ xs, x.f0.length ≤ 9000000) (d : Nat) : ∀ i : Nat, i + d = xs.length →
  Ev (fun k => laws_eqGapS.l0 k xs xs (i : Int)) true := by
 induction d with
 | zero => intro i hi; refine ev_now fun k => ?_; simp only [laws_eqGapS.l0]; rw [if_neg (by omega)]
 | succ d ih =>
  intro i hi
  have hlt : i < xs.length := by omega
  refine Ev.step (f := fun k => (laws_eqGap.f k xs[i].f0 xs[i].f1 xs[i].f2 xs[i].f0 xs[i].f1 xs[i].f2).bind fun t => if t = true then laws_eqGapS.l0 k xs xs ((i + 1 : Nat) : Int) else some false) (fun k => ?_) (Ev.bind (eqGap_ev _ _ _ (hc _ (List.getElem_mem hlt))) (Ev.congr (fun k => if_pos rfl) (ih (i + 1) (by omega))))
  simp only [laws_eqGapS.l0]
  rw [if_pos (by omega), if_pos (by omega), if_pos (by omega), w64 (by omega), rdG_ xs i hlt]; rfl
theorem eqLineBuf_ev (xs : List S76) (st : List Int) (hn : xs.length ≤ 9000000) (hc : ∀ x ∈ xs, x.f0.length ≤ 9000000) (hs : st.length ≤ 9000000) : Ev (fun k => laws_eqLineBuf.f k xs st xs st) true := by
 unfold laws_eqLineBuf.f
 refine Ev.bind (a := true) ?_ (Ev.congr (fun k => if_pos rfl) (Ev.bind (eqIntS_ev st hs) (ev_const fun _ => if_pos rfl)))
 unfold laws_eqGapS.f
 exact Ev.congr (fun k => if_pos rfl) (eqGapS_loop xs hn hc xs.length 0 (by omega))
def cellsL : List S75 → Nat | [] => 0 | x :: l => x.f0.length + cellsL l
theorem cellsL_mem (xs : List S75) (x : S75) (h : x ∈ xs) : x.f0.length ≤ cellsL xs := by
 induction xs with
 | nil => cases h
 | cons y l ih =>
  simp only [cellsL]
  rcases List.mem_cons.1 h with rfl | h
  ·omega
  ·have := ih h; omega
theorem szGapS_loop (xs : List S75) (hn : xs.length ≤ 1048576) (hm : ∀ x ∈ xs, x.f0.length ≤ 9223372036854775807) (d : Nat) : ∀ (i c : Nat) (left : Int), i + d = xs.length → 0 ≤ left → left ≤ 1048576 → cellsL (xs.drop i) = c →
  Ev (fun k => laws_szGapS.l0 k xs left (i : Int)) (if (c : Int) ≤ left then left - (c : Int) else -1) := by
 induction d with
 | zero =>
  intro i c left hi h0 h1 hc
  obtain rfl : i = xs.length := by omega
  rw [List.drop_length] at hc
  simp only [cellsL] at hc
  subst hc
  refine ev_now fun k => ?_
  simp only [laws_szGapS.l0]
  rw [if_neg (by omega), if_pos (by omega)]; simp
 | succ d ih =>
  intro i c left hi h0 h1 hc
  have hlt : i < xs.length := by omega
  have hx := hm _ (List.getElem_mem hlt)
  rw [List.drop_eq_getElem_cons hlt] at hc
  simp only [cellsL] at hc
  have e0 : laws_szGap.f xs[i].f0 xs[i].f1 xs[i].f2 left = some (if left - (xs[i].f0.length : Int) < 0 then -1 else left - (xs[i].f0.length : Int)) := by
   unfold laws_szGap.f laws_szInt32S.f
   rw [w64 (by omega)]
   by_cases c : left - (xs[i].f0.length : Int) < 0
   ·rw [if_pos c, if_pos c]; rfl
   ·rw [if_neg c, if_neg c]; simp only [Option.bind_some]; rw [if_neg c]
  by_cases cc : left - (xs[i].f0.length : Int) < 0
  ·refine ev_now fun k => ?_
   simp only [laws_szGapS.l0]
   rw [if_pos (by omega), if_pos (by omega), rdL_ xs i hlt, e0, if_pos cc, if_neg (show ¬ ((c : Int) ≤ left) by omega)]
   simp only [Option.bind_some]
   rw [if_pos (by omega)]
  ·have h2 := ih (i + 1) _ (left - (xs[i].f0.length : Int)) (by omega) (by omega) (by omega) rfl
   refine Ev.step (f := fun k => laws_szGapS.l0 k xs (left - (xs[i].f0.length : Int)) ((i + 1 : Nat) : Int)) (fun k => ?_) ?_
   ·simp only [laws_szGapS.l0]
    rw [if_pos (by omega), if_pos (by omega), rdL_ xs i hlt, e0, if_neg cc]
    simp only [Option.bind_some]
    rw [if_neg cc, w64 (by omega)]; rfl
   ·by_cases c2 : ((cellsL (xs.drop (i + 1)) : Nat) : Int) ≤ left - (xs[i].f0.length : Int)
    ·rw [if_pos c2] at h2
     rw [if_pos (by omega), show left - (c : Int) = left - (xs[i].f0.length : Int) - ((cellsL (xs.drop (i + 1)) : Nat) : Int) by omega]
     exact h2
    ·rw [if_neg c2] at h2
     rw [if_neg (by omega)]
     exact h2
theorem szLineBuf_ev (xs : List S75) (st : List Int) (hn : xs.length ≤ 9223372036854775807) (hm : ∀ x ∈ xs, x.f0.length ≤ 9223372036854775807) (hs : st.length ≤ 9223372036854775807) :
  ∃ v, Ev (fun k => laws_szLineBuf.f k xs st 1048576) v ∧ -1 ≤ v ∧ v ≤ 1048576 ∧ (0 ≤ v → xs.length + cellsL xs + st.length ≤ 1048576) := by
 unfold laws_szLineBuf.f
 by_cases c : xs.length ≤ 1048576
 ·have h := szGapS_loop xs c hm xs.length 0 (cellsL xs) (1048576 - (xs.length : Int)) (by omega) (by omega) (by omega) (by rw [List.drop_zero])
  have h2 : Ev (fun k => laws_szGapS.f k xs 1048576) (if ((cellsL xs : Nat) : Int) ≤ 1048576 - (xs.length : Int) then 1048576 - (xs.length : Int) - ((cellsL xs : Nat) : Int) else -1) := by
   unfold laws_szGapS.f
   refine Ev.congr (fun k => by rw [w64 (by omega), if_neg (by omega)]) ?_
   exact h
  by_cases c2 : ((cellsL xs : Nat) : Int) ≤ 1048576 - (xs.length : Int)
  ·rw [if_pos c2] at h2
   by_cases c3 : 1048576 - (xs.length : Int) - ((cellsL xs : Nat) : Int) - (st.length : Int) < 0
   ·refine ⟨-1, Ev.bind h2 (ev_const fun k => ?_), by omega, by omega, by omega⟩
    rw [if_neg (by omega)]
    unfold laws_szIntS.f
    rw [w64 (by omega), if_pos c3]; rfl
   ·refine ⟨1048576 - (xs.length : Int) - ((cellsL xs : Nat) : Int) - (st.length : Int), Ev.bind h2 (ev_const fun k => ?_), by omega, by omega, by omega⟩
    rw [if_neg (by omega)]
    unfold laws_szIntS.f
    rw [w64 (by omega), if_neg c3]
    simp only [Option.bind_some]
    rw [if_neg c3]
  ·rw [if_neg c2] at h2
   exact ⟨-1, Ev.bind h2 (ev_const fun k => by rw [if_pos (by omega)]), by omega, by omega, by omega⟩
 ·refine ⟨-1, Ev.bind (a := -1) (ev_const fun k => ?_) (ev_const fun k => by rw [if_pos (by omega)]), by omega, by omega, by omega⟩
  unfold laws_szGapS.f
  rw [w64 (by omega), if_pos (by omega)]
def mkE (x : S76) (s : Int) : S76 := ⟨mk (fun x => wrap32 (x)) s x.f0.length, s + (x.f0.length : Int), s + (x.f0.length : Int) + 1⟩
def mkG : List S76 → Int → List S76 | [], _ => [] | x :: l, s => mkE x s :: mkG l (s + (x.f0.length : Int) + 2)
def szS : List S76 → Int | [] => 0 | x :: l => (x.f0.length : Int) + 2 + szS l
theorem szS_nn (xs : List S76) : 0 ≤ szS xs := by
 induction xs with
 | nil => simp [szS]
 | cons x l ih => simp only [szS]; omega
theorem szS_app (a b : List S76) : szS (a ++ b) = szS a + szS b := by
 induction a with
 | nil => simp [szS]
 | cons x a ih => simp only [List.cons_append, szS, ih]; omega
theorem szS_take (xs : List S76) (i : Nat) (h : i < xs.length) : szS (xs.take (i + 1)) = szS (xs.take i) + (xs[i].f0.length : Int) + 2 := by
 rw [List.take_succ_eq_append_getElem h, szS_app]; simp only [szS]; omega
theorem szS_take_le (xs : List S76) (i : Nat) : szS (xs.take i) ≤ szS xs := by
 have h := szS_app (xs.take i) (xs.drop i)
 rw [List.take_append_drop] at h
 have := szS_nn (xs.drop i)
 omega
theorem mkG_length (xs : List S76) (s : Int) : (mkG xs s).length = xs.length := by
 induction xs generalizing s with
 | nil => rfl
 | cons x l ih => simp only [mkG, List.length_cons, ih]
theorem mkG_app (a b : List S76) (s : Int) : mkG (a ++ b) s = mkG a s ++ mkG b (s + szS a) := by
 induction a generalizing s with
 | nil => simp [mkG, szS]
 | cons x a ih => simp only [List.cons_append, mkG, szS, ih]; congr 3; omega
theorem mkG_get (xs : List S76) (s : Int) (i : Nat) (h : i < xs.length) : rd_T76 (mkG xs s) (i : Int) = mkE xs[i] (s + szS (xs.take i)) := by
 have e : mkG xs s = mkG (xs.take i) s ++ (mkE xs[i] (s + szS (xs.take i)) :: mkG (xs.drop (i + 1)) (s + szS (xs.take i) + (xs[i].f0.length : Int) + 2)) := by
  have h2 := mkG_app (xs.take i) (xs.drop i) s
  rw [List.take_append_drop, List.drop_eq_getElem_cons h] at h2
  rw [h2]; rfl
 rw [rdG_ _ i (by rw [mkG_length]; exact h)]
 simp only [e]
 rw [List.getElem_append_right (by rw [mkG_length, List.length_take]; omega)]
 simp [mkG_length, List.length_take, Nat.min_eq_left (Nat.le_of_lt h)]
theorem mkG_set (xs : List S76) (s : Int) (i : Nat) (h : i < xs.length) : (mkG (xs.take i) s ++ xs.drop i).set i (mkE xs[i] (s + szS (xs.take i))) = mkG (xs.take (i + 1)) s ++ xs.drop (i + 1) := by
 rw [List.set_append_right _ _ (by rw [mkG_length, List.length_take]; omega), mkG_length, List.length_take, Nat.min_eq_left (Nat.le_of_lt h), Nat.sub_self, List.drop_eq_getElem_cons h, List.set_cons_zero, List.take_succ_eq_append_getElem h, mkG_app]
 simp [mkG, List.append_assoc]
theorem heldGapS_loop (xs : List S76) (s : Int) (hs : 0 ≤ s) (hn : s + szS xs ≤ 8000000) (hl : xs.length ≤ 1048576) (d : Nat) : ∀ i : Nat, i + d = xs.length →
  Ev (fun k => laws_heldGapS.l0 k (mkG xs s) (s + szS (xs.take i)) (i : Int)) (s + szS xs) := by
 induction d with
 | zero =>
  intro i hi
  obtain rfl : i = xs.length := by omega
  refine ev_now fun k => ?_
  simp only [laws_heldGapS.l0]
  rw [if_neg (by rw [mkG_length]; omega), List.take_length]
 | succ d ih =>
  intro i hi
  have hlt : i < xs.length := by omega
  have h1 := szS_nn (xs.take i)
  have h2 := szS_take_le xs (i + 1)
  have h3 := szS_take xs i hlt
  have h4 : (xs[i].f0.length : Int) ≤ 8000000 := by omega
  obtain ⟨t, ht⟩ : ∃ t, s + szS (xs.take i) = t := ⟨_, rfl⟩
  have hi2 := ih (i + 1) (by omega)
  rw [h3, show s + (szS (xs.take i) + (xs[i].f0.length : Int) + 2) = t + (xs[i].f0.length : Int) + 2 by omega] at hi2
  have hg := mkG_get xs s i hlt
  rw [ht] at hg ⊢
  refine Ev.step (f := fun k => (laws_heldInt32S.f k (mk (fun x => wrap32 (x)) t xs[i].f0.length) t).bind fun t282 => (if t282 < 0 then (some (-1)) else (if t + (xs[i].f0.length : Int) = t282 then (if t + (xs[i].f0.length : Int) + 1 = (wrap64 (t282 + 1)) then (laws_heldGapS.l0 k (mkG xs s) (wrap64 ((wrap64 (t282 + 1)) + 1)) ((i + 1 : Nat) : Int)) else (some (-1))) else (some (-1))))) (fun k => ?_) (Ev.bind (heldInt32S_from t (by omega) xs[i].f0.length (by omega)) ?_)
  ·simp only [laws_heldGapS.l0]
   rw [if_pos (by rw [mkG_length]; omega), if_pos (by omega), hg, w64 (show -9223372036854775808 ≤ (i : Int) + 1 ∧ (i : Int) + 1 ≤ 9223372036854775807 by omega)]
   rfl
  ·refine Ev.congr (fun k => ?_) hi2
   rw [if_neg (by omega), if_pos rfl, w64 (by omega), if_pos rfl, w64 (by omega), show t + (xs[i].f0.length : Int) + 1 + 1 = t + (xs[i].f0.length : Int) + 2 by omega]
theorem heldLineBuf_ev (xs : List S76) (st : List Int) (hn : szS xs ≤ 5000000) (hl : xs.length ≤ 1048576) (hs : st.length ≤ 2000000) : Ev (fun k => laws_heldLineBuf.f k (mkG xs 1) (mk (fun x => x) (1 + szS xs) st.length) 1) (1 + szS xs + (st.length : Int)) := by
 unfold laws_heldLineBuf.f
 have h0 := szS_nn xs
 refine Ev.bind (a := 1 + szS xs) ?_ (Ev.congr (fun k => if_neg (by omega)) (Ev.bind (heldIntS_from (1 + szS xs) (by omega) st.length (by omega)) (ev_const fun k => if_neg (by omega))))
 unfold laws_heldGapS.f
 have h := heldGapS_loop xs 1 (by omega) (by omega) hl xs.length 0 (by omega)
 simpa [szS] using h
end Go.Proofs.YtamcacahjlaogaaDoor.LP
