/- The law FnGapScript tells true, plainly, at every input. No condition. -/
import Derived.Test.YtlacoameobpfgaaDoorQFnGapScriptx3
namespace Go.Proofs.YtlacoameobpfgaaDoor.PureFnGapScript
open Go Go.RowKit Go.Proofs.YtlacoameobpfgaaDoor.QFnGapScript Go.Proofs.YtlacoameobpfgaaDoorW.PrintWords Go.Proofs.YtlacoameobpfgaaDoorW.PrintLast

theorem ev_now {α : Type} {g : Nat → Option α} {r : α} (h : ∀ k, g (k + 1) = some r) : Ev g r :=
  ⟨1, fun k hk => by obtain ⟨m, rfl⟩ : ∃ m, k = m + 1 := ⟨k - 1, by omega⟩; exact h m⟩
theorem ev_const {α : Type} {g : Nat → Option α} {r : α} (h : ∀ k, g k = some r) : Ev g r := ⟨0, fun k _ => h k⟩
theorem rd_at (xs : List Int) (i : Nat) (h : i < xs.length) : rd xs (i : Int) = xs[i] := by
  unfold rd; simp [List.getD, h]
def mk (f : Int → Int) (k : Int) (n : Nat) : List Int := (List.range n).map fun j => f (k + (j : Nat))
theorem mk_length (f : Int → Int) (k : Int) (n : Nat) : (mk f k n).length = n := by simp [mk]
theorem mk_get (f : Int → Int) (k : Int) (n i : Nat) (h : i < n) : rd (mk f k n) (i : Int) = f (k + i) := by
  rw [rd_at _ _ (by simpa [mk] using h)]; simp [mk]
theorem zeros_iff (xs : List Int) (lo hi : Nat) (hh : hi ≤ xs.length) : (∀ z ∈ (xs.take hi).drop lo, z = 0) ↔ ∀ j, lo ≤ j → j < hi → xs.getD j 0 = 0 := by
  constructor
  · intro h j h1 h2
    refine h _ ?_
    rw [List.getD_eq_getElem?_getD, List.getElem?_eq_getElem (by omega), Option.getD_some]
    refine List.mem_iff_getElem.2 ⟨j - lo, by rw [List.length_drop, List.length_take]; omega, ?_⟩
    rw [List.getElem_drop, List.getElem_take]
    congr 1; omega
  · intro h z hz
    obtain ⟨i, hi', rfl⟩ := List.mem_iff_getElem.1 hz
    rw [List.length_drop, List.length_take] at hi'
    rw [List.getElem_drop, List.getElem_take]
    have := h (lo + i) (by omega) (by omega)
    rw [List.getD_eq_getElem?_getD, List.getElem?_eq_getElem (by omega), Option.getD_some] at this
    exact this
theorem valid_loop (xs : List Int) (lo hi : Nat) (hn : xs.length ≤ 65536) (hl : lo ≤ hi) (hh : hi ≤ xs.length) (d : Nat) : ∀ i : Nat, i + d = hi → lo ≤ i → (∀ j, lo ≤ j → j < i → xs.getD j 0 = 0) →
    Ev (fun k => spec_L3Valid.l0 k (i : Int) xs (lo : Int) (hi : Int)) (decide ((∀ z ∈ (xs.take hi).drop lo, z = 0) ∧ (xs.length : Int) - ((hi : Int) - lo) ≤ 8192)) := by
  induction d with
  | zero =>
    intro i hi' hlo hz
    obtain rfl : i = hi := by omega
    refine ev_now fun k => ?_
    simp only [spec_L3Valid.l0]
    rw [if_neg (by omega), w64 (show -9223372036854775808 ≤ (i : Int) - (lo : Int) ∧ (i : Int) - (lo : Int) ≤ 9223372036854775807 by omega), w64 (by omega)]
    exact congrArg some (decide_eq_decide.2 ⟨fun h => ⟨(zeros_iff xs lo i (by omega)).2 hz, by omega⟩, fun h => by have := h.2; omega⟩)
  | succ d ih =>
    intro i hi' hlo hz
    have hlt : i < xs.length := by omega
    have hrd : rd xs (i : Int) = xs.getD i 0 := by unfold rd; simp
    by_cases c : xs.getD i 0 = 0
    · refine Ev.step (fun k => by simp only [spec_L3Valid.l0]; rw [if_pos (by omega), if_pos (by omega), if_pos (by omega), hrd, if_pos c, w64 (by omega)]) ?_
      exact ih (i + 1) (by omega) (by omega) (fun j h1 h2 => by
        by_cases e : j = i
        · subst e; exact c
        · exact hz j h1 (by omega))
    · refine ev_now fun k => ?_
      simp only [spec_L3Valid.l0]
      rw [if_pos (by omega), if_pos (by omega), if_pos (by omega), hrd, if_neg c]
      exact congrArg some (decide_eq_false (fun h => c ((zeros_iff xs lo hi (by omega)).1 h.1 i hlo (by omega)))).symm
theorem valid_ev (xs : List Int) (lo hi : Int) : Ev (fun k => spec_L3Valid.f k xs lo hi) (decide (okGap xs lo hi)) := by
  have bad : ¬ okGap xs lo hi → Ev (fun k => spec_L3Valid.j0 k true xs lo hi) (decide (okGap xs lo hi)) := fun h =>
    ev_now fun k => by simp only [spec_L3Valid.j0]; rw [if_pos trivial]; exact congrArg some (decide_eq_false h).symm
  unfold spec_L3Valid.f
  by_cases c1 : (xs.length : Int) > 65536
  · exact Ev.congr (fun k => if_pos c1) (bad (fun h => by have := h.1; omega))
  refine Ev.congr (fun k => if_neg c1) ?_
  by_cases c2 : lo < 0
  · exact Ev.congr (fun k => if_pos c2) (bad (fun h => by have := h.2.1; omega))
  refine Ev.congr (fun k => if_neg c2) ?_
  by_cases c3 : hi < lo
  · exact Ev.congr (fun k => if_pos c3) (bad (fun h => by have := h.2.2.1; omega))
  refine Ev.congr (fun k => if_neg c3) ?_
  by_cases c4 : hi > (xs.length : Int)
  · rw [decide_eq_true c4]
    exact bad (fun h => by have := h.2.2.2.1; omega)
  rw [decide_eq_false c4]
  refine Ev.step (fun k => by simp only [spec_L3Valid.j0]; rw [if_neg (by simp)]) ?_
  obtain ⟨lo', rfl⟩ : ∃ n : Nat, lo = n := ⟨lo.toNat, by omega⟩
  obtain ⟨hi', rfl⟩ : ∃ n : Nat, hi = n := ⟨hi.toNat, by omega⟩
  have h := valid_loop xs lo' hi' (by omega) (by omega) (by omega) (hi' - lo') lo' (by omega) (Nat.le_refl _) (fun j a b => by omega)
  have e : decide (okGap xs lo' hi') = decide ((∀ z ∈ (xs.take hi').drop lo', z = 0) ∧ (xs.length : Int) - ((hi' : Int) - lo') ≤ 8192) := by
    refine decide_eq_decide.2 ?_
    unfold okGap
    rw [Int.toNat_natCast, Int.toNat_natCast]
    constructor
    · intro h; exact ⟨h.2.2.2.2.1, h.2.2.2.2.2⟩
    · intro h; exact ⟨by omega, by omega, by omega, by omega, h.1, h.2⟩
  rw [e]
  exact h
theorem txt_len (xs : List Int) (lo hi : Int) (h : okGap xs lo hi) : (txt xs lo hi).length ≤ 8192 := (okGap_lay h).2.2.1
/-! draws: what a draw ends in, as far as a law needs it -/
def EvP {α : Type} (g : Nat → Option α) (P : α → Prop) : Prop := ∃ r, Ev g r ∧ P r
theorem EvP.bind {α β : Type} {g : Nat → Option α} {f : Nat → α → Option β} {P : α → Prop} {Q : β → Prop} (h : EvP g P) (k : ∀ a, P a → EvP (fun n => f n a) Q) : EvP (fun n => (g n).bind (f n)) Q := by
  obtain ⟨r, h1, h2⟩ := h
  obtain ⟨s, h3, h4⟩ := k r h2
  exact ⟨s, Ev.bind h1 h3, h4⟩
theorem EvP.step {α : Type} {g f : Nat → Option α} {P : α → Prop} (h : ∀ k, g (k + 1) = f k) (k : EvP f P) : EvP g P := by
  obtain ⟨r, h1, h2⟩ := k
  exact ⟨r, Ev.step h h1, h2⟩
theorem EvP.congr {α : Type} {g f : Nat → Option α} {P : α → Prop} (h : ∀ k, g k = f k) (k : EvP f P) : EvP g P := by
  obtain ⟨r, h1, h2⟩ := k
  exact ⟨r, Ev.congr h h1, h2⟩
theorem EvP.now {α : Type} {g : Nat → Option α} {P : α → Prop} {r : α} (h : ∀ k, g (k + 1) = some r) (hp : P r) : EvP g P := ⟨r, ev_now h, hp⟩
theorem EvP.const {α : Type} {g : Nat → Option α} {P : α → Prop} {r : α} (h : ∀ k, g k = some r) (hp : P r) : EvP g P := ⟨r, ev_const h, hp⟩
theorem EvP.of {α : Type} {g : Nat → Option α} {P : α → Prop} {r : α} (h : Ev g r) (hp : P r) : EvP g P := ⟨r, h, hp⟩
theorem EvP.mono {α : Type} {g : Nat → Option α} {P Q : α → Prop} (h : EvP g P) (k : ∀ r, P r → Q r) : EvP g Q := by
  obtain ⟨r, h1, h2⟩ := h
  exact ⟨r, h1, k r h2⟩
/-- a source of draws stands in its bytes -/
def Src (b : List Int) (i : Int) : Prop := 0 ≤ i ∧ i ≤ (b.length : Int) ∧ b.length ≤ 1048576
theorem u64_in (x : Int) : 0 ≤ IntKind.u64.wrap x ∧ IntKind.u64.wrap x < 18446744073709551616 := by rw [IntKind.wrap_u64]; omega
theorem n_p (b : List Int) (i x a : Int) (hs : Src b i) (ha : 1 ≤ a ∧ a ≤ 1099511627776) : EvP (fun _ => spec_l1Src_n.f b i x a) (fun r => 0 ≤ r.1 ∧ r.1 < a ∧ Src b r.2.1) := by
  obtain ⟨h0, h1, h2⟩ := hs
  unfold spec_l1Src_n.f
  have val : ∀ y : Int, 1 < a → 0 ≤ wrap64 (Int.tmod (IntKind.u64.wrap y / 8589934592) (IntKind.u64.wrap a)) ∧ wrap64 (Int.tmod (IntKind.u64.wrap y / 8589934592) (IntKind.u64.wrap a)) < a := by
    intro y h
    have hy := u64_in y
    have e : IntKind.u64.wrap a = a := by rw [IntKind.wrap_u64]; omega
    rw [e, Int.tmod_eq_emod_of_nonneg (by omega)]
    have := Int.emod_nonneg (IntKind.u64.wrap y / 8589934592) (show a ≠ 0 by omega)
    have := Int.emod_lt_of_pos (IntKind.u64.wrap y / 8589934592) (show 0 < a by omega)
    rw [w64 (by omega)]; omega
  have nz : 1 < a → ¬ IntKind.u64.wrap a = 0 := fun h => by rw [IntKind.wrap_u64]; omega
  by_cases c1 : i < (b.length : Int)
  · by_cases c2 : a ≤ 1
    · exact EvP.const (fun k => by rw [if_pos c1, if_pos h0, if_pos c2]) ⟨by simp, by simp; omega, by simp only [Src]; rw [w64 (by omega)]; omega⟩
    · exact EvP.const (fun k => by rw [if_pos c1, if_pos h0, if_neg c2, if_neg (nz (by omega))]) ⟨(val _ (by omega)).1, (val _ (by omega)).2, by simp only [Src]; rw [w64 (by omega)]; omega⟩
  · by_cases c2 : a ≤ 1
    · exact EvP.const (fun k => by rw [if_neg c1, if_pos c2]) ⟨by simp, by simp; omega, h0, h1, h2⟩
    · exact EvP.const (fun k => by rw [if_neg c1, if_neg c2, if_neg (nz (by omega))]) ⟨(val _ (by omega)).1, (val _ (by omega)).2, h0, h1, h2⟩
theorem one_p (b : List Int) (i x a : Int) (hs : Src b i) (ha : 1 ≤ a ∧ a ≤ 1099511627776) : EvP (fun _ => spec_l1Src_one.f b i x a) (fun r => Src b r.2.1) := by
  unfold spec_l1Src_one.f
  refine EvP.bind (n_p b i x a hs ha) fun r hr => ?_
  exact EvP.const (fun _ => rfl) hr.2.2
theorem wild_p (b : List Int) (i x : Int) (hs : Src b i) : EvP (fun _ => spec_l1Src_wild.f b i x) (fun r => Src b r.2.1) := by
  unfold spec_l1Src_wild.f
  refine EvP.bind (n_p b i x 7 hs (by omega)) fun r hr => ?_
  have ht := hr.2.2
  by_cases c0 : r.1 = 0
  · exact EvP.const (fun k => if_pos c0) ht
  refine EvP.congr (fun k => if_neg c0) ?_
  by_cases c1 : r.1 = 1
  · exact EvP.const (fun k => if_pos c1) ht
  refine EvP.congr (fun k => if_neg c1) ?_
  by_cases c2 : r.1 = 2
  · exact EvP.const (fun k => if_pos c2) ht
  refine EvP.congr (fun k => if_neg c2) ?_
  by_cases c3 : r.1 = 3
  · refine EvP.congr (fun k => if_pos c3) ?_
    exact EvP.bind (n_p b _ _ _ ht (by omega)) fun s h => EvP.const (fun _ => rfl) h.2.2
  refine EvP.congr (fun k => if_neg c3) ?_
  by_cases c4 : r.1 = 4
  · refine EvP.congr (fun k => if_pos c4) ?_
    exact EvP.bind (n_p b _ _ _ ht (by omega)) fun s h => EvP.const (fun _ => rfl) h.2.2
  refine EvP.congr (fun k => if_neg c4) ?_
  by_cases c5 : r.1 = 5
  · refine EvP.congr (fun k => if_pos c5) ?_
    exact EvP.bind (n_p b _ _ _ ht (by omega)) fun s h => EvP.const (fun _ => rfl) h.2.2
  refine EvP.congr (fun k => if_neg c5) ?_
  exact EvP.bind (n_p b _ _ _ ht (by omega)) fun s h => EvP.const (fun _ => rfl) h.2.2
theorem charj_p (b : List Int) (i x v : Int) (t : Bool) (hs : Src b i) : EvP (fun k => spec_l1Char.j0 k v t b i x) (fun r => Src b r.2.1) := by
  cases t with
  | true => exact EvP.now (fun k => by simp only [spec_l1Char.j0]; first | exact if_pos rfl | exact if_pos trivial) hs
  | false =>
    refine EvP.step (fun k => by simp only [spec_l1Char.j0]; rw [if_neg (by simp)]) ?_
    by_cases c2 : v = 2
    · refine EvP.congr (fun k => if_pos c2) ?_
      exact EvP.bind (n_p b _ _ _ hs (by omega)) fun s h => EvP.const (fun _ => rfl) h.2.2
    refine EvP.congr (fun k => if_neg c2) ?_
    by_cases c3 : v = 3
    · refine EvP.congr (fun k => if_pos c3) ?_
      exact EvP.bind (n_p b _ _ _ hs (by omega)) fun s h => EvP.const (fun _ => rfl) h.2.2
    refine EvP.congr (fun k => if_neg c3) ?_
    by_cases c4 : v = 4
    · refine EvP.congr (fun k => if_pos c4) ?_
      exact EvP.bind (n_p b _ _ _ hs (by omega)) fun s h => EvP.const (fun _ => rfl) h.2.2
    refine EvP.congr (fun k => if_neg c4) ?_
    by_cases c5 : v = 5
    · refine EvP.congr (fun k => if_pos c5) ?_
      exact EvP.bind (n_p b _ _ _ hs (by omega)) fun s h => EvP.const (fun _ => rfl) h.2.2
    refine EvP.congr (fun k => if_neg c5) ?_
    by_cases c6 : v = 6
    · refine EvP.congr (fun k => if_pos c6) ?_
      exact EvP.bind (n_p b _ _ _ hs (by omega)) fun s h => EvP.const (fun _ => rfl) h.2.2
    refine EvP.congr (fun k => if_neg c6) ?_
    exact EvP.bind (n_p b _ _ _ hs (by omega)) fun s h => EvP.const (fun _ => rfl) h.2.2
theorem char_p (b : List Int) (i x : Int) (hs : Src b i) : EvP (fun k => spec_l1Char.f k b i x) (fun r => Src b r.2.1) := by
  unfold spec_l1Char.f
  refine EvP.bind (n_p b i x 12 hs (by omega)) fun r hr => ?_
  by_cases c : r.1 = 0
  · exact EvP.congr (fun k => if_pos c) (charj_p b _ _ _ _ hr.2.2)
  · exact EvP.congr (fun k => if_neg c) (charj_p b _ _ _ _ hr.2.2)
theorem text_p (b : List Int) (n : Int) (hn : n ≤ 1000000) (d : Nat) : ∀ (j : Int) (acc : List Int) (i x : Int), 0 ≤ j → n - j ≤ d → (acc.length : Int) = j → j ≤ n → Src b i →
    EvP (fun k => spec_l1DrawText.l0 k n acc j b i x) (fun r => (r.1.length : Int) = n ∧ Src b r.2.1) := by
  induction d with
  | zero => intro j acc i x h0 hd hl hj hs; exact EvP.now (fun k => by simp only [spec_l1DrawText.l0]; rw [if_neg (by omega)]) ⟨by simp only; omega, hs⟩
  | succ d ih =>
    intro j acc i x h0 hd hl hj hs
    by_cases c : j < n
    · refine EvP.step (fun k => by simp only [spec_l1DrawText.l0]; rw [if_pos c]) ?_
      refine EvP.bind (one_p b i x 25 hs (by omega)) fun r hr => ?_
      by_cases c1 : r.1 = true
      · refine EvP.congr (fun k => if_pos c1) ?_
        refine EvP.bind (wild_p b _ _ hr) fun s h => ?_
        refine EvP.congr (fun k => by rw [if_pos (by omega), w64 (by omega)]) ?_
        exact ih (j + 1) _ _ _ (by omega) (by omega) (by simp only [List.length_append, List.length_singleton]; omega) (by omega) h
      · refine EvP.congr (fun k => if_neg c1) ?_
        refine EvP.bind (char_p b _ _ hr) fun s h => ?_
        refine EvP.congr (fun k => by rw [if_pos (by omega), w64 (by omega)]) ?_
        exact ih (j + 1) _ _ _ (by omega) (by omega) (by simp only [List.length_append, List.length_singleton]; omega) (by omega) h
    · exact EvP.now (fun k => by simp only [spec_l1DrawText.l0]; rw [if_neg c]) ⟨by simp only; omega, hs⟩
theorem drawText_p (b : List Int) (i x n : Int) (hn : 0 ≤ n ∧ n ≤ 1000000) (hs : Src b i) : EvP (fun k => spec_l1DrawText.f k b i x n) (fun r => (r.1.length : Int) = n ∧ Src b r.2.1) := by
  unfold spec_l1DrawText.f
  exact text_p b n hn.2 n.toNat 0 [] i x (by omega) (by omega) (by simp) hn.1 hs
theorem zeros_mid (T : List Int) (l g : Nat) (hl : l ≤ T.length) : ((lay T l g).take (l + g)).drop l = List.replicate g 0 := by
  have e : (T.take l).length = l := by rw [List.length_take]; omega
  have e2 : (lay T l g).take (l + g) = T.take l ++ List.replicate g 0 := by
    unfold lay
    rw [← List.append_assoc]
    exact List.take_left' (by rw [List.length_append, e, List.length_replicate])
  rw [e2]
  exact List.drop_left' e
theorem okGap_lay_of (T : List Int) (l g : Nat) (hl : l ≤ T.length) (h : T.length ≤ 8192) (hg : T.length + g ≤ 65536) : okGap (lay T l g) (l : Int) ((l + g : Nat) : Int) := by
  have hlen := lay_length T l g hl
  refine ⟨by omega, by omega, by omega, by omega, fun z hz => ?_, by omega⟩
  rw [Int.toNat_natCast, Int.toNat_natCast, zeros_mid T l g hl] at hz
  exact (List.mem_replicate.1 hz).2
theorem txt_lay_of (T : List Int) (l g : Nat) (hl : l ≤ T.length) : txt (lay T l g) (l : Int) ((l + g : Nat) : Int) = T := by
  have e : (T.take l).length = l := by rw [List.length_take]; omega
  have e1 : (lay T l g).take l = T.take l := by unfold lay; exact List.take_left' e
  have e2 : (lay T l g).drop (l + g) = T.drop l := by
    unfold lay
    rw [← List.append_assoc]
    exact List.drop_left' (by rw [List.length_append, e, List.length_replicate])
  unfold txt
  rw [Int.toNat_natCast, Int.toNat_natCast, e1, e2, List.take_append_drop]
theorem dbl_ge0 (f : Nat) : ∀ c m, c ≤ dbl f c m := by
  induction f with
  | zero => intro c m; simp [dbl]
  | succ f ih => intro c m; simp only [dbl]; split; have := ih (2 * c) m; omega; omega
theorem N_p (b : List Int) (i x a : Int) (hs : Src b i) (ha : 1 ≤ a ∧ a ≤ 1099511627776) : EvP (fun _ => spec_l1Src_N.f b i x a) (fun r => 0 ≤ r.1 ∧ r.1 < a ∧ Src b r.2.1) := by
  unfold spec_l1Src_N.f
  exact EvP.bind (n_p b i x a hs ha) fun r hr => EvP.const (fun _ => rfl) hr
theorem Text_p (b : List Int) (i x n : Int) (hn : 0 ≤ n ∧ n ≤ 1000000) (hs : Src b i) : EvP (fun k => spec_L1Text.f k b i x n) (fun r => (r.1.length : Int) = n ∧ Src b r.2.1) := by
  unfold spec_L1Text.f
  exact EvP.bind (drawText_p b i x n hn hs) fun r hr => EvP.const (fun _ => rfl) hr
theorem cpText_is (xs : List Int) (h : xs.length ≤ 2000000) : laws_cpText.f xs = some xs := by
  unfold laws_cpText.f
  simp only [Option.bind_some, List.nil_append]
  rw [if_pos (by simp only [List.length_nil]; omega)]
theorem cpGap_is (xs : List Int) (a b : Int) (h : xs.length ≤ 2000000) : laws_cpGap.f xs a b = some (xs, a, b) := by
  unfold laws_cpGap.f
  rw [cpText_is xs h]; rfl
theorem smText_loop (xs : List Int) (hn : xs.length ≤ 9000000) (d : Nat) : ∀ i : Nat, i + d = xs.length →
    Ev (fun k => laws_smText.l0 k xs xs (xs.length : Int) (i : Int)) true := by
  induction d with
  | zero => intro i hi; refine ev_now fun k => ?_; simp only [laws_smText.l0]; rw [if_neg (by omega)]
  | succ d ih =>
    intro i hi
    refine Ev.step (f := fun k => laws_smText.l0 k xs xs (xs.length : Int) ((i + 1 : Nat) : Int)) (fun k => ?_) (ih (i + 1) (by omega))
    simp only [laws_smText.l0]
    rw [if_pos (by omega), if_pos (by omega), if_pos (by omega), if_pos (by omega), w64 (by omega), if_pos (by first | rfl | trivial)]; rfl
theorem smText_ev (xs : List Int) (hn : xs.length ≤ 9000000) : Ev (fun k => laws_smText.f k xs xs) true := by
  unfold laws_smText.f
  exact Ev.congr (fun k => if_pos rfl) (smText_loop xs hn xs.length 0 (by omega))
theorem read_is (xs : List Int) (lo hi : Int) (T : List Int) (ok : okGap xs lo hi) (ht : txt xs lo hi = T) (a : Int) (h0 : 0 ≤ a) (h1 : a ≤ (T.length : Int)) : impl_GapRead.f xs lo hi a (T.length : Int) = some (T.drop a.toNat, 0) := by
  unfold impl_GapRead.f
  rw [if_pos (by have := ok.1; omega)]
  unfold gapReadV
  rw [if_pos ok, ht, if_pos ⟨h0, h1, Int.le_refl _⟩]
  simp only [Int.toNat_natCast, List.take_length]
/-- behind an edit: the questions, and on -/
theorem j1_p (b : List Int) (n : Nat) (hn : n ≤ 1000) (T xs : List Int) (lo hi cells st : Int) (ok : okGap xs lo hi) (ht : txt xs lo hi = T) (hc : cells ≤ (xs.length : Int)) (hst : lo = st)
    (ih : ∀ i x, Src b i → EvP (fun k => laws_FnGapScript.l0 k T (n : Int) b i x xs lo hi) (· = true)) (i x : Int) (hs : Src b i) :
    EvP (fun k => laws_FnGapScript.j1 k T ((n + 1 : Nat) : Int) cells st b i x xs lo hi) (· = true) := by
  have hT : T.length ≤ 8192 := by rw [← ht]; exact txt_len xs lo hi ok
  have hx := ok.1
  refine EvP.step (fun k => by simp only [laws_FnGapScript.j1]; rfl) ?_
  refine EvP.bind (P := (· = true)) (EvP.of (valid_ev xs lo hi) (decide_eq_true ok)) fun r hr => ?_
  refine EvP.congr (fun k => by rw [if_pos hr, if_neg (by omega), hst]) ?_
  refine EvP.step (fun k => by simp only [laws_FnGapScript.j2]; rw [if_neg (by simp)]) ?_
  rw [← hst]
  refine EvP.bind (N_p b i x _ hs (by rw [w64 (by omega)]; omega)) fun r hr => ?_
  rw [w64 (by omega)] at hr
  refine EvP.bind (EvP.const (fun _ => cpGap_is xs lo hi (by omega)) (P := (· = (xs, lo, hi))) rfl) fun q hq => ?_
  subst hq
  refine EvP.bind (EvP.const (fun _ => read_is xs lo hi T ok ht r.1 hr.1 (by omega)) (P := (· = (T.drop r.1.toNat, 0))) rfl) fun q1 hq1 => ?_
  subst hq1
  refine EvP.bind (EvP.const (fun _ => cpGap_is xs lo hi (by omega)) (P := (· = (xs, lo, hi))) rfl) fun q hq => ?_
  subst hq
  refine EvP.bind (EvP.const (fun _ => read_is xs lo hi T ok ht 0 (by omega) (by omega)) (P := (· = (T, 0))) rfl) fun q2 hq2 => ?_
  subst hq2
  refine EvP.congr (fun k => by rw [if_pos rfl, if_pos rfl]) ?_
  refine EvP.bind (P := (· = true)) (EvP.of (smText_ev T (by omega)) rfl) fun t1 ht1 => ?_
  refine EvP.congr (fun k => by rw [if_pos ht1, if_pos hr.1, if_pos (by omega)]) ?_
  refine EvP.bind (P := (· = true)) (EvP.of (smText_ev (T.drop r.1.toNat) (by rw [List.length_drop]; omega)) rfl) fun t2 ht2 => ?_
  refine EvP.congr (fun k => by rw [if_pos ht2, w64 (by omega), show ((n + 1 : Nat) : Int) - 1 = (n : Int) by omega]) ?_
  exact ih _ _ hr.2.2
theorem loop_p (b : List Int) (n : Nat) : ∀ (T xs : List Int) (lo hi i x : Int), Src b i → okGap xs lo hi → txt xs lo hi = T → T.length + 20 * n ≤ 2000 → xs.length ≤ 8000 →
    EvP (fun k => laws_FnGapScript.l0 k T (n : Int) b i x xs lo hi) (· = true) := by
  induction n with
  | zero =>
    intro T xs lo hi i x _ _ _ _ _
    exact EvP.now (fun k => by simp only [laws_FnGapScript.l0]; rw [if_neg (by omega)]) rfl
  | succ n ih =>
    intro T xs lo hi i x hs ok ht hT hx
    obtain ⟨-, hk2, hk3, hk4⟩ := okGap_lay ok
    have hlo := ok.2.1
    have hlh := ok.2.2.1
    change lo.toNat ≤ (txt xs lo hi).length at hk2
    change (txt xs lo hi).length + (hi - lo).toNat = xs.length at hk4
    rw [ht] at hk2 hk4
    refine EvP.step (fun k => by simp only [laws_FnGapScript.l0]; rw [if_pos (by omega)]) ?_
    refine EvP.bind (N_p b i x _ hs (by rw [w64 (by omega)]; omega)) fun r hr => ?_
    rw [w64 (by omega)] at hr
    obtain ⟨r0, r1, r2⟩ := hr
    obtain ⟨a, ha⟩ : ∃ a : Nat, r.1 = a := ⟨r.1.toNat, by omega⟩
    rw [ha] at r0 r1 ⊢
    refine EvP.bind (N_p b _ _ 3 r2 (by omega)) fun s hs3 => ?_
    by_cases c : s.1 > 0
    · refine EvP.congr (fun k => if_pos c) ?_
      refine EvP.bind (N_p b _ _ 20 hs3.2.2 (by omega)) fun m hm => ?_
      refine EvP.bind (Text_p b _ _ m.1 (by omega) hm.2.2) fun e he => ?_
      obtain ⟨es, i2, x2⟩ := e
      obtain ⟨he1, he2⟩ := he
      simp only at he1 he2 ⊢
      have hes : es.length < 20 := by omega
      refine EvP.bind (EvP.const (fun _ => cpText_is es (by omega)) (P := (· = es)) rfl) fun q hq => ?_
      subst hq
      have hw := withIn_length T q a (by omega)
      have hcf := cellsFor_ge xs.length T.length q.length (by omega)
      have hcf0 : xs.length ≤ cellsFor xs.length T.length q.length := by unfold cellsFor; have := dbl_ge0 40 (max xs.length 16) (T.length + q.length); omega
      have hgp : T.length + q.length + gapAfter T.length (hi - lo).toNat q.length ≤ 8000 ∧ xs.length ≤ T.length + q.length + gapAfter T.length (hi - lo).toNat q.length := by
        unfold gapAfter
        rw [hk4]
        split <;> omega
      have hi' : impl_GapInsert.f xs lo hi (a : Int) q = some (lay (withIn T q a) (a + q.length) (gapAfter T.length (hi - lo).toNat q.length), ((a + q.length : Nat) : Int), ((a + q.length + gapAfter T.length (hi - lo).toNat q.length : Nat) : Int), 0) := by
        unfold impl_GapInsert.f
        rw [if_pos ⟨by omega, by omega⟩]
        unfold gapInsertV
        rw [if_pos ok, ht, if_pos ⟨by omega, by omega⟩, if_pos (by omega), Int.toNat_natCast]
      generalize gapAfter T.length (hi - lo).toNat q.length = gp at hgp hi'
      refine EvP.bind (EvP.const (fun _ => hi') (P := (· = _)) rfl) fun g hg => ?_
      subst hg
      refine EvP.congr (fun k => by rw [if_pos rfl, if_pos (by omega), if_pos (by omega)]) ?_
      refine EvP.bind (EvP.const (fun _ => cpText_is (T.take ((a : Int)).toNat) (by rw [List.length_take]; omega)) (P := (· = T.take a)) (by rw [Int.toNat_natCast])) fun t1 ht1 => ?_
      subst ht1
      refine EvP.congr (fun k => by rw [if_pos (by rw [List.length_take]; omega)]) ?_
      refine EvP.bind (EvP.const (fun _ => rfl) (P := (· = T.take a ++ q)) rfl) fun t2 ht2 => ?_
      subst ht2
      refine EvP.bind (EvP.const (fun _ => rfl) (P := (· = T.drop a)) (by rw [Int.toNat_natCast])) fun t3 ht3 => ?_
      subst ht3
      refine EvP.congr (fun k => by rw [if_pos (by simp only [List.length_append, List.length_take, List.length_drop]; omega), w64 (by omega)]) ?_
      have eT : T.take a ++ q ++ T.drop a = withIn T q a := by unfold withIn; rw [List.append_assoc]
      rw [eT]
      have hlay := lay_length (withIn T q a) (a + q.length) gp (by omega)
      refine j1_p b n (by omega) (withIn T q a) _ _ _ _ _ (okGap_lay_of _ _ _ (by omega) (by omega) (by omega)) (txt_lay_of _ _ _ (by omega)) (by omega) (by omega) (fun i' x' hs' => ?_) _ _ he2
      exact ih _ _ _ _ _ _ hs' (okGap_lay_of _ _ _ (by omega) (by omega) (by omega)) (txt_lay_of _ _ _ (by omega)) (by omega) (by omega)
    · refine EvP.congr (fun k => if_neg c) ?_
      refine EvP.bind (N_p b _ _ _ hs3.2.2 (by rw [w64 (x := (T.length : Int) - (a : Int)) (by omega), w64 (by omega)]; omega)) fun m hm => ?_
      rw [w64 (x := (T.length : Int) - (a : Int)) (by omega), w64 (by omega)] at hm
      obtain ⟨d, hd⟩ : ∃ d : Nat, m.1 = d := ⟨m.1.toNat, by omega⟩
      rw [hd] at hm ⊢
      have hw := without_length T a d (by omega)
      have hi' : impl_GapDelete.f xs lo hi (a : Int) (wrap64 ((a : Int) + (d : Int))) = some (lay (without T a d) a ((hi - lo).toNat + d), (a : Int), ((a + ((hi - lo).toNat + d) : Nat) : Int), 0) := by
        unfold impl_GapDelete.f
        rw [w64 (by omega), if_pos (by omega)]
        unfold gapDeleteV
        rw [if_pos ok, ht, if_pos ⟨by omega, by omega, by omega⟩, Int.toNat_natCast, show ((a : Int) + (d : Int)).toNat - a = d by omega]
      refine EvP.bind (EvP.const (fun _ => hi') (P := (· = _)) rfl) fun g hg => ?_
      subst hg
      refine EvP.congr (fun k => by rw [if_pos rfl, if_pos (by omega), if_pos (by omega)]) ?_
      refine EvP.bind (EvP.const (fun _ => cpText_is (T.take ((a : Int)).toNat) (by rw [List.length_take]; omega)) (P := (· = T.take a)) (by rw [Int.toNat_natCast])) fun t1 ht1 => ?_
      subst ht1
      refine EvP.congr (fun k => by rw [w64 (by omega), if_pos (by omega), if_pos (by omega)]) ?_
      refine EvP.bind (EvP.const (fun _ => rfl) (P := (· = T.drop (a + d))) (by rw [show ((a : Int) + (d : Int)).toNat = a + d by omega])) fun t3 ht3 => ?_
      subst ht3
      refine EvP.congr (fun k => by rw [if_pos (by simp only [List.length_take, List.length_drop]; omega)]) ?_
      have eT : T.take a ++ T.drop (a + d) = without T a d := rfl
      rw [eT]
      have hlay := lay_length (without T a d) a ((hi - lo).toNat + d) (by omega)
      refine j1_p b n (by omega) (without T a d) _ _ _ _ _ (okGap_lay_of _ _ _ (by omega) (by omega) (by omega)) (txt_lay_of _ _ _ (by omega)) (by omega) rfl (fun i' x' hs' => ?_) _ _ hm.2.2
      exact ih _ _ _ _ _ _ hs' (okGap_lay_of _ _ _ (by omega) (by omega) (by omega)) (txt_lay_of _ _ _ (by omega)) (by omega) (by omega)
theorem size_p (code : List Int) (most : Int) (h : code.length ≤ 1048576) (hm : 2 ≤ most ∧ most ≤ 100000) : EvP (fun _ => spec_L1Size.f code most) (fun r => 2 ≤ r ∧ r ≤ most) := by
  unfold spec_L1Size.f spec_l1Size.f
  rw [w64 (x := (code.length : Int) / 2) (by omega), w64 (by omega)]
  by_cases c : 2 + (code.length : Int) / 2 > most
  · exact EvP.const (fun _ => by rw [if_pos c]; rfl) (by omega)
  · exact EvP.const (fun _ => by rw [if_neg c]; rfl) (by omega)
theorem law (code : List Int) : ∃ k, laws_FnGapScript.f k code = some true := by
  refine Ev.rounds (g := fun k => laws_FnGapScript.f k code) ?_
  suffices h : EvP (fun k => laws_FnGapScript.f k code) (· = true) by obtain ⟨r, h1, h2⟩ := h; rw [← h2]; exact h1
  unfold laws_FnGapScript.f
  by_cases hc : (code.length : Int) > 1048576
  · exact EvP.const (fun _ => if_pos hc) rfl
  refine EvP.congr (fun k => if_neg hc) ?_
  refine EvP.bind (P := fun r => r.1 = code ∧ r.2.1 = 0) (EvP.const (fun _ => rfl) ⟨rfl, rfl⟩) fun s hs => ?_
  obtain ⟨b, i, x⟩ := s
  obtain ⟨h1, h2⟩ := hs
  simp only at h1 h2
  subst h1
  subst h2
  refine EvP.bind (size_p b 40 (by omega) (by omega)) fun z hz => ?_
  refine EvP.bind (N_p b 0 x z ⟨by omega, by omega, by omega⟩ (by omega)) fun r hr => ?_
  obtain ⟨n, hn⟩ : ∃ n : Nat, wrap64 (2 + r.1) = n := ⟨(2 + r.1).toNat, by rw [w64 (by omega)]; omega⟩
  rw [hn]
  rw [w64 (by omega)] at hn
  exact loop_p b n [] [] 0 0 _ _ hr.2.2 ⟨by simp, by omega, by omega, by simp, by simp, by simp⟩ rfl (by simp only [List.length_nil]; omega) (by simp)
end Go.Proofs.YtlacoameobpfgaaDoor.PureFnGapScript
