/- The rows of a text of lines, in cells with a gap: words; size, get, walked. No condition but the bounds. -/
import Derived.Test.YtamcacahjlaogaaDoorFd
namespace Go.Proofs.YtamcacahjlaogaaDoor.V
open Go.RowKit Go.Proofs.YtamcacahjlaogaaDoorW.PrintWords Go.Proofs.YtamcacahjlaogaaDoorW.PrintLast Go.Proofs.YtamcacahjlaogaaDoorW.PrintMore Er
open F (UpdS Fresh R_upd)
abbrev PV := Option Nat
def pa : PV → Option Addr | none => none | some b => some ⟨b, 0, none⟩
abbrev pv (p : PV) : Value := .pointer (pa p)
abbrev KV : Kd PV := Kd.scalar pv (fun _ => rfl)
theorem rdOf_nat (xs : List PV) (i : Nat) : rdOf none xs (i : Int) = xs.getD i none := by unfold rdOf; simp
theorem Kd.at_ptr {w : World} {A : Option Addr} {n : Nat} {xs : List PV} (h : KV.C w A n xs) (i : Int) (h0 : 0 ≤ i) (hi : i < xs.length) : ∃ ad, A = some ad ∧ w.cell? (ad.add i.toNat) = some (pv (rdOf none xs i)) := by
 obtain ⟨hn_, -, hS⟩ := h
 obtain ⟨i', rfl⟩ : ∃ n : Nat, i = n := ⟨i.toNat, by omega⟩
 have hi_ : i' < xs.length := by omega
 obtain ⟨ad, rfl, hcs⟩ := hS (by omega)
 refine ⟨ad, rfl, ?_⟩
 obtain ⟨c, _, hK, hcell⟩ := hcs i' xs[i'] (List.getElem?_eq_getElem (by omega))
 have hK' : c = [pv xs[i']] := hK
 subst hK'
 have := hcell 0 (pv xs[i']) rfl
 have e : rdOf none xs (i' : Int) = xs[i'] := by rw [rdOf_nat, List.getD_eq_getElem?_getD, List.getElem?_eq_getElem (by omega)]; rfl
 rw [e]
 simpa [KV, Kd.scalar] using this
def lay (T : List PV) (l g : Nat) : List PV := T.take l ++ (List.replicate g none ++ T.drop l)
theorem lay_length (T : List PV) (l g : Nat) (h : l ≤ T.length) : (lay T l g).length = T.length + g := by
 unfold lay; simp only [List.length_append, List.length_take, List.length_replicate, List.length_drop]; omega
theorem lay_lt (T : List PV) (l g i : Nat) (h : i < l) (hl : l ≤ T.length) : (lay T l g).getD i none = T.getD i none := by
 unfold lay
 simp only [List.getD_eq_getElem?_getD]
 rw [List.getElem?_append_left (by rw [List.length_take]; omega), List.getElem?_take, if_pos h]
theorem lay_ge (T : List PV) (l g i : Nat) (h : l ≤ i) (hl : l ≤ T.length) : (lay T l g).getD (i + g) none = T.getD i none := by
 unfold lay
 simp only [List.getD_eq_getElem?_getD]
 rw [List.getElem?_append_right (by rw [List.length_take]; omega), List.getElem?_append_right (by rw [List.length_take, List.length_replicate]; omega), List.length_take, List.length_replicate, List.getElem?_drop]
 congr 2; omega
theorem ext0 {xs ys : List PV} (hl : xs.length = ys.length) (h : ∀ i, i < xs.length → xs.getD i none = ys.getD i none) : xs = ys := by
 refine List.ext_getElem hl fun i h1 h2 => ?_
 have := h i h1
 simp only [List.getD_eq_getElem?_getD, List.getElem?_eq_getElem h1, List.getElem?_eq_getElem h2, Option.getD_some] at this
 exact this
theorem getD_set (xs : List PV) (i j : Nat) (v : PV) (hi : i < xs.length) : (xs.set i v).getD j none = if j = i then v else xs.getD j none := by
 simp only [List.getD_eq_getElem?_getD, List.getElem?_set]
 by_cases h : i = j
 ·subst h; simp [hi]
 ·rw [if_neg h, if_neg (fun e => h e.symm)]
theorem lay_get (T : List PV) (l g i : Nat) (hl : l ≤ T.length) : (lay T l g).getD i none = if i < l then T.getD i none else if i < l + g then none else T.getD (i - g) none := by
 by_cases h : i < l
 ·rw [if_pos h, lay_lt T l g i h hl]
 ·rw [if_neg h]
  by_cases h2 : i < l + g
  ·rw [if_pos h2]
   unfold lay
   simp only [List.getD_eq_getElem?_getD]
   rw [List.getElem?_append_right (by rw [List.length_take]; omega), List.getElem?_append_left (by rw [List.length_take, List.length_replicate]; omega), List.getElem?_replicate]
   split <;> rfl
  ·rw [if_neg h2]
   have := lay_ge T l g (i - g) (by omega) hl
   rw [show i - g + g = i by omega] at this
   exact this
theorem lay_left (T : List PV) (l g : Nat) (h0 : 0 < l) (hl : l ≤ T.length) :
  (if g = 0 then (lay T l g).set (l - 1 + g) ((lay T l g).getD (l - 1) none) else ((lay T l g).set (l - 1 + g) ((lay T l g).getD (l - 1) none)).set (l - 1) none) = lay T (l - 1) g := by
 have hlen := lay_length T l g hl
 have hlen2 := lay_length T (l - 1) g (by omega)
 by_cases hg : g = 0
 ·rw [if_pos hg]
  refine ext0 (by rw [List.length_set]; omega) fun i hi => ?_
  rw [List.length_set] at hi
  rw [getD_set _ _ _ _ (by omega), lay_get _ _ _ _ hl, lay_get _ _ _ _ hl, lay_get _ _ _ _ (by omega)]
  repeat' split
  all_goals first | rfl | (congr 1; omega) | omega
 ·rw [if_neg hg]
  refine ext0 (by rw [List.length_set, List.length_set]; omega) fun i hi => ?_
  rw [List.length_set, List.length_set] at hi
  rw [getD_set _ _ _ _ (by rw [List.length_set]; omega), getD_set _ _ _ _ (by omega), lay_get _ _ _ _ hl, lay_get _ _ _ _ hl, lay_get _ _ _ _ (by omega)]
  repeat' split
  all_goals first | rfl | (congr 1; omega) | omega
theorem lay_right (T : List PV) (l g : Nat) (hl : l < T.length) :
  (if g = 0 then (lay T l g).set l ((lay T l g).getD (l + g) none) else ((lay T l g).set l ((lay T l g).getD (l + g) none)).set (l + g) none) = lay T (l + 1) g := by
 have hlen := lay_length T l g (by omega)
 have hlen2 := lay_length T (l + 1) g (by omega)
 by_cases hg : g = 0
 ·rw [if_pos hg]
  refine ext0 (by rw [List.length_set]; omega) fun i hi => ?_
  rw [List.length_set] at hi
  rw [getD_set _ _ _ _ (by omega), lay_get _ _ _ _ (by omega), lay_get _ _ _ _ (by omega), lay_get _ _ _ _ (by omega)]
  repeat' split
  all_goals first | rfl | (congr 1; omega) | omega
 ·rw [if_neg hg]
  refine ext0 (by rw [List.length_set, List.length_set]; omega) fun i hi => ?_
  rw [List.length_set, List.length_set] at hi
  rw [getD_set _ _ _ _ (by rw [List.length_set]; omega), getD_set _ _ _ _ (by omega), lay_get _ _ _ _ (by omega), lay_get _ _ _ _ (by omega), lay_get _ _ _ _ (by omega)]
  repeat' split
  all_goals first | rfl | (congr 1; omega) | omega
theorem lay_put (T es : List PV) (l g : Nat) (hl : l ≤ T.length) (hg : es.length ≤ g) :
  (lay T l g).take l ++ (es ++ (lay T l g).drop (l + es.length)) = lay (T.take l ++ (es ++ T.drop l)) (l + es.length) (g - es.length) := by
 have e1 : (lay T l g).take l = T.take l := by unfold lay; rw [List.take_append_of_le_length (by rw [List.length_take]; omega), List.take_take, Nat.min_self]
 have e2 : (lay T l g).drop (l + es.length) = List.replicate (g - es.length) none ++ T.drop l := by
  unfold lay
  rw [List.drop_append, List.drop_eq_nil_of_le (by rw [List.length_take]; omega), List.nil_append, List.length_take, Nat.min_eq_left hl, show l + es.length - l = es.length by omega, List.drop_append_of_le_length (by rw [List.length_replicate]; exact hg), List.drop_replicate]
 rw [e1, e2]
 unfold lay
 have e3 : (T.take l ++ (es ++ T.drop l)).take (l + es.length) = T.take l ++ es := by
  rw [← List.append_assoc, List.take_append_of_le_length (by rw [List.length_append, List.length_take]; omega), List.take_of_length_le (by rw [List.length_append, List.length_take]; omega)]
 have e4 : (T.take l ++ (es ++ T.drop l)).drop (l + es.length) = T.drop l := by
  rw [← List.append_assoc, List.drop_append, List.drop_eq_nil_of_le (by rw [List.length_append, List.length_take]; omega), List.nil_append, List.length_append, List.length_take, Nat.min_eq_left hl, Nat.sub_self, List.drop_zero]
 rw [e3, e4, List.append_assoc]
theorem lay_of (cs : List PV) (lo hi : Nat) (h1 : lo ≤ hi) (h2 : hi ≤ cs.length) (hz : ∀ i, lo ≤ i → i < hi → cs.getD i none = none) : cs = lay (cs.take lo ++ cs.drop hi) lo (hi - lo) := by
 have hlt : (cs.take lo ++ cs.drop hi).length = cs.length - (hi - lo) := by rw [List.length_append, List.length_take, List.length_drop]; omega
 have hg : ∀ i, (cs.take lo ++ cs.drop hi).getD i none = if i < lo then cs.getD i none else cs.getD (i - lo + hi) none := by
  intro i
  simp only [List.getD_eq_getElem?_getD]
  by_cases h : i < lo
  ·rw [if_pos h, List.getElem?_append_left (by rw [List.length_take]; omega), List.getElem?_take, if_pos h]
  ·rw [if_neg h, List.getElem?_append_right (by rw [List.length_take]; omega), List.length_take, List.getElem?_drop]
   congr 2; omega
 refine ext0 (by rw [lay_length _ _ _ (by omega)]; omega) fun i hi' => ?_
 rw [lay_get _ _ _ _ (by omega), hg, hg]
 repeat' split
 all_goals first | rfl | (exact hz i (by omega) (by omega)) | (congr 1; omega) | omega
def without (T : List PV) (l i : Nat) : List PV := T.take l ++ T.drop (l + i)
def withIn (T es : List PV) (a : Nat) : List PV := T.take a ++ (es ++ T.drop a)
theorem withIn_length (T es : List PV) (a : Nat) (h : a ≤ T.length) : (withIn T es a).length = T.length + es.length := by
 unfold withIn; simp only [List.length_append, List.length_take, List.length_drop]; omega
def GapAt (sv tv : Value) (w : World) (b : Nat) (v : Value) (lo hi : Int) : Prop := w.heap[b]? = some (.cells #[v, .int .i64 lo, .int .i64 hi, sv, tv] 89 (0, 0))
theorem GapAt.below {sv tv : Value} {w w' : World} {b : Nat} {v : Value} {lo hi : Int} (h : GapAt sv tv w b v lo hi) (hb : Below w.heap.size w w') : GapAt sv tv w' b v lo hi := blk_below h hb
theorem size_any (sv tv : Value) (w : World) (b : Nat) (A : Option Addr) (n c : Nat) (lo hi : Int) (h : GapAt sv tv w b (.slice A n c) lo hi) (hlo : 0 ≤ lo) (hlh : lo ≤ hi) (hh : hi ≤ n) (hn : n ≤ 100000000) :
  Calls Tryd.prog 59 #[gpt b] w fun e w' => e = .returned (.int .i64 (n - (hi - lo))) ∧ Below w.heap.size w w' := by
 have q0 : w.cell? ⟨b, 0, none⟩ = some (.slice A n c) := (blk_cell h 0).trans rfl
 have q1 : w.cell? ⟨b, 1, none⟩ = some (.int .i64 lo) := (blk_cell h 1).trans rfl
 have q2 : w.cell? ⟨b, 2, none⟩ = some (.int .i64 hi) := (blk_cell h 2).trans rfl
 clear h
 simp only [gpt]
 go_enter Tryd.func59, Tryd.ntmps59
 go_wp2
 have s1 : IntKind.i64.wrap (hi - lo) = hi - lo := by rw [IntKind.wrap_i64]; omega
 have s2 : IntKind.i64.wrap ((n : Int) - (hi - lo)) = (n : Int) - (hi - lo) := by rw [IntKind.wrap_i64]; omega
 go_quiet (fail)
 go_wp2
 go_ret
 exact ⟨rfl, below_drewN _⟩
theorem get_any (sv tv : Value) (w : World) (b : Nat) (A : Option Addr) (c : Nat) (lo hi i : Int) (xs : List PV) (h : GapAt sv tv w b (.slice A xs.length c) lo hi) (hr : KV.C w A xs.length xs)
  (_ : 0 ≤ lo) (hlh : lo ≤ hi) (_ : hi ≤ xs.length) (hn : xs.length ≤ 100000000) (hi0 : 0 ≤ i) (hi1 : gi lo hi i < xs.length) :
  Calls Tryd.prog 70 #[gpt b, .int .i64 i] w fun e w' => e = .returned (pv (rdOf none xs (gi lo hi i))) ∧ Below w.heap.size w w' := by
 have q0 : w.cell? ⟨b, 0, none⟩ = some (.slice A xs.length c) := (blk_cell h 0).trans rfl
 have q1 : w.cell? ⟨b, 1, none⟩ = some (.int .i64 lo) := (blk_cell h 1).trans rfl
 have q2 : w.cell? ⟨b, 2, none⟩ = some (.int .i64 hi) := (blk_cell h 2).trans rfl
 have hg0 : 0 ≤ gi lo hi i := by unfold gi; split <;> omega
 obtain ⟨ad, ea, hx⟩ := Kd.at_ptr hr (gi lo hi i) hg0 hi1
 cases ea
 clear h hr
 simp only [gpt]
 by_cases ci : i ≥ lo
 ·have eg : gi lo hi i = i + (hi - lo) := if_pos ci
  rw [eg] at hx hg0 hi1 ⊢
  clear eg
  have s1 : IntKind.i64.wrap (hi - lo) = hi - lo := by rw [IntKind.wrap_i64]; omega
  have s2 : IntKind.i64.wrap (i + (hi - lo)) = i + (hi - lo) := by rw [IntKind.wrap_i64]; omega
  go_enter Tryd.func70, Tryd.ntmps70
  go_wp2
  go_quiet (fail)
  go_wp2
  go_ret
  exact ⟨rfl, below_drewN _⟩
 ·have eg : gi lo hi i = i := if_neg ci
  rw [eg] at hx hg0 hi1 ⊢
  clear eg
  go_enter Tryd.func70, Tryd.ntmps70
  go_wp2
  go_ret
  exact ⟨rfl, Below.refl _ _⟩
def GapF (sv tv : Value) (w : World) (base b : Nat) (T : List PV) (l g : Nat) (S : List Nat) : Prop :=
 base ≤ b ∧ l ≤ T.length ∧ T.length + g ≤ 1000000 ∧ ∃ v, GapAt sv tv w b v (l : Int) ((l + g : Nat) : Int) ∧ Kd.R KV 90 w base (fun k => k ≠ b) v (lay T l g) ∧ S = b :: v.ownBlock.toList
theorem GapF.below {sv tv : Value} {w w' : World} {base b : Nat} {T : List PV} {l g : Nat} {S : List Nat} (h : GapF sv tv w base b T l g S) (hb : Below w.heap.size w w') : GapF sv tv w' base b T l g S := by
 obtain ⟨h1, h2, h3, v, h4, h5, h6⟩ := h
 exact ⟨h1, h2, h3, v, h4.below hb, Kd.R_below h5 hb, h6⟩
theorem GapF.upd {sv tv : Value} {w w' : World} {base b : Nat} {T : List PV} {l g : Nat} {S S' : List Nat} (h : GapF sv tv w base b T l g S) (hu : UpdS S' w w') (hd : ∀ k ∈ S, k ∉ S') : GapF sv tv w' base b T l g S := by
 obtain ⟨h1, h2, h3, v, h4, h5, rfl⟩ := h
 exact ⟨h1, h2, h3, v, (hu.block b (blk_lt h4) (hd b (by simp))).trans h4, R_upd rfl h5 hu (fun k hk => hd k (by simp [hk])), rfl⟩
theorem GapF.lt {sv tv : Value} {w : World} {base b : Nat} {T : List PV} {l g : Nat} {S : List Nat} (h : GapF sv tv w base b T l g S) : ∀ k ∈ S, k < w.heap.size := by
 obtain ⟨h1, h2, h3, v, h4, h5, rfl⟩ := h
 intro k hk
 rcases List.mem_cons.1 hk with rfl | hk
 ·exact blk_lt h4
 ·exact Kd.R_lt h5 k (Option.mem_toList.1 hk)
theorem GapF.nd {sv tv : Value} {w : World} {base b : Nat} {T : List PV} {l g : Nat} {S : List Nat} (h : GapF sv tv w base b T l g S) : S.Nodup := by
 obtain ⟨h1, h2, h3, v, h4, h5, rfl⟩ := h
 rw [List.nodup_cons]
 refine ⟨fun hm => h5.1 b (Option.mem_toList.1 hm) rfl, ?_⟩
 cases v.ownBlock <;> simp
theorem GapF.mem {sv tv : Value} {w : World} {base b : Nat} {T : List PV} {l g : Nat} {S : List Nat} (h : GapF sv tv w base b T l g S) : b ∈ S := by
 obtain ⟨h1, h2, h3, v, h4, h5, rfl⟩ := h
 simp
theorem gsize_any (sv tv : Value) (w : World) (base b : Nat) (T : List PV) (l g : Nat) (S : List Nat) (h : GapF sv tv w base b T l g S) :
  Calls Tryd.prog 59 #[gpt b] w fun e w' => e = .returned (.int .i64 (T.length : Nat)) ∧ Below w.heap.size w w' := by
 obtain ⟨h1, h2, h3, v, h4, h5, h6⟩ := h
 obtain ⟨A, c, rfl⟩ := Kd.R_slice h5
 rw [lay_length T l g h2] at h4
 refine (size_any sv tv w b A _ c l ((l + g : Nat) : Int) h4 (by omega) (by omega) (by omega) (by omega)).mono ?_
 rintro e w' ⟨rfl, hb⟩
 refine ⟨?_, hb⟩
 congr 2; omega
theorem gget_any (sv tv : Value) (w : World) (base b : Nat) (T : List PV) (l g i : Nat) (S : List Nat) (h : GapF sv tv w base b T l g S) (hi : i < T.length) :
  Calls Tryd.prog 70 #[gpt b, .int .i64 i] w fun e w' => e = .returned (pv (T.getD i none)) ∧ Below w.heap.size w w' := by
 obtain ⟨h1, h2, h3, v, h4, h5, h6⟩ := h
 obtain ⟨A, c, rfl⟩ := Kd.R_slice h5
 have hlen := lay_length T l g h2
 obtain ⟨e1, e2, hr⟩ := Kd.R_reads' h5
 have hgi : gi (l : Int) ((l + g : Nat) : Int) (i : Int) = ((if i < l then i else i + g : Nat) : Int) := by
  unfold gi
  by_cases c : i < l
  ·rw [if_neg (by omega), if_pos c]
  ·rw [if_pos (by omega), if_neg c]; omega
 have hlt : (if i < l then i else i + g : Nat) < (lay T l g).length := by split <;> omega
 refine (get_any sv tv w b A c l ((l + g : Nat) : Int) i (lay T l g) h4 hr (by omega) (by omega) (by omega) (by omega) (by omega) (by rw [hgi]; omega)).mono ?_
 rintro e w' ⟨rfl, hb⟩
 refine ⟨?_, hb⟩
 rw [hgi, rdOf_nat]
 congr 2
 by_cases c : i < l
 ·rw [if_pos c]; exact lay_lt T l g i c h2
 ·rw [if_neg c]; exact lay_ge T l g i (by omega) h2
structure FillAt (W0 : World) (b : Nat) (T : List PV) (R : Nat) (vr : Value) (k : Nat) (_ v42 : Value) (wr : World) : Prop where
 st : ∃ i : Nat, v42 = .int .i64 i ∧ i + k = T.length ∧ Kd.R KV 90 wr W0.heap.size (fun k => k ≠ b) vr (T.take i ++ List.replicate (R - i) none)
 bel : Below W0.heap.size W0 wr
theorem fill_step (T : List PV) (R i : Nat) (hi : i < T.length) (hR : T.length ≤ R) : (T.take i ++ List.replicate (R - i) none).set i (T.getD i none) = T.take (i + 1) ++ List.replicate (R - (i + 1)) none := by
 have e : (T.take i).length = i := by rw [List.length_take]; omega
 rw [List.set_append_right _ _ (by omega), e, Nat.sub_self, show R - i = (R - (i + 1)) + 1 by omega, List.replicate_succ, List.set_cons_zero, List.take_succ_eq_append_getElem hi, List.append_assoc, List.getD_eq_getElem?_getD, List.getElem?_eq_getElem hi]
 rfl
end Go.Proofs.YtamcacahjlaogaaDoor.V
