/- Gap buffers of runes: what a block reads as; size, get, read, walked. No condition but the bounds. -/
import Derived.Test.YtamcacahjlaogaaDoorFo0
import Derived.Test.YtamcacahjlaogaaDoorHk
namespace Go.Proofs.YtamcacahjlaogaaDoor
open Go.RowKit Go.Proofs.YtamcacahjlaogaaDoorW.PrintWords Go.Proofs.YtamcacahjlaogaaDoorW.PrintLast Go.Proofs.YtamcacahjlaogaaDoorW.PrintMore Er
def lay (T : List Int) (l g : Nat) : List Int := T.take l ++ (List.replicate g 0 ++ T.drop l)
theorem lay_length (T : List Int) (l g : Nat) (h : l ≤ T.length) : (lay T l g).length = T.length + g := by
 unfold lay; simp only [List.length_append, List.length_take, List.length_replicate, List.length_drop]; omega
theorem lay_lt (T : List Int) (l g i : Nat) (h : i < l) (hl : l ≤ T.length) : (lay T l g).getD i 0 = T.getD i 0 := by
 unfold lay
 simp only [List.getD_eq_getElem?_getD]
 rw [List.getElem?_append_left (by rw [List.length_take]; omega), List.getElem?_take, if_pos h]
theorem lay_ge (T : List Int) (l g i : Nat) (h : l ≤ i) (hl : l ≤ T.length) : (lay T l g).getD (i + g) 0 = T.getD i 0 := by
 unfold lay
 simp only [List.getD_eq_getElem?_getD]
 rw [List.getElem?_append_right (by rw [List.length_take]; omega), List.getElem?_append_right (by rw [List.length_take, List.length_replicate]; omega), List.length_take, List.length_replicate, List.getElem?_drop]
 congr 2; omega
theorem ext0 {xs ys : List Int} (hl : xs.length = ys.length) (h : ∀ i, i < xs.length → xs.getD i 0 = ys.getD i 0) : xs = ys := by
 refine List.ext_getElem hl fun i h1 h2 => ?_
 have := h i h1
 simp only [List.getD_eq_getElem?_getD, List.getElem?_eq_getElem h1, List.getElem?_eq_getElem h2, Option.getD_some] at this
 exact this
theorem getD_set (xs : List Int) (i j : Nat) (v : Int) (hi : i < xs.length) : (xs.set i v).getD j 0 = if j = i then v else xs.getD j 0 := by
 simp only [List.getD_eq_getElem?_getD, List.getElem?_set]
 by_cases h : i = j
 ·subst h; simp [hi]
 ·rw [if_neg h, if_neg (fun e => h e.symm)]
theorem lay_get (T : List Int) (l g i : Nat) (hl : l ≤ T.length) : (lay T l g).getD i 0 = if i < l then T.getD i 0 else if i < l + g then 0 else T.getD (i - g) 0 := by
 by_cases h : i < l
 ·rw [if_pos h, lay_lt T l g i h hl]
 ·rw [if_neg h]
  by_cases h2 : i < l + g
  ·rw [if_pos h2]
   unfold lay
   simp only [List.getD_eq_getElem?_getD]
   rw [List.getElem?_append_right (by rw [List.length_take]; omega), List.getElem?_append_left (by rw [List.length_take, List.length_replicate]; omega), List.getElem?_replicate]
   split <;> rfl
  ·rw [if_neg h2]
   have := lay_ge T l g (i - g) (by omega) hl
   rw [show i - g + g = i by omega] at this
   exact this
theorem lay_left (T : List Int) (l g : Nat) (h0 : 0 < l) (hl : l ≤ T.length) :
  (if g = 0 then (lay T l g).set (l - 1 + g) ((lay T l g).getD (l - 1) 0) else ((lay T l g).set (l - 1 + g) ((lay T l g).getD (l - 1) 0)).set (l - 1) 0) = lay T (l - 1) g := by
 have hlen := lay_length T l g hl
 have hlen2 := lay_length T (l - 1) g (by omega)
 by_cases hg : g = 0
 ·rw [if_pos hg]
  refine ext0 (by rw [List.length_set]; omega) fun i hi => ?_
  rw [List.length_set] at hi
  rw [getD_set _ _ _ _ (by omega), lay_get _ _ _ _ hl, lay_get _ _ _ _ hl, lay_get _ _ _ _ (by omega)]
  repeat' split
  all_goals first | rfl | (congr 1; omega) | omega
 ·rw [if_neg hg]
  refine ext0 (by rw [List.length_set, List.length_set]; omega) fun i hi => ?_
  rw [List.length_set, List.length_set] at hi
  rw [getD_set _ _ _ _ (by rw [List.length_set]; omega), getD_set _ _ _ _ (by omega), lay_get _ _ _ _ hl, lay_get _ _ _ _ hl, lay_get _ _ _ _ (by omega)]
  repeat' split
  all_goals first | rfl | (congr 1; omega) | omega
theorem lay_right (T : List Int) (l g : Nat) (hl : l < T.length) :
  (if g = 0 then (lay T l g).set l ((lay T l g).getD (l + g) 0) else ((lay T l g).set l ((lay T l g).getD (l + g) 0)).set (l + g) 0) = lay T (l + 1) g := by
 have hlen := lay_length T l g (by omega)
 have hlen2 := lay_length T (l + 1) g (by omega)
 by_cases hg : g = 0
 ·rw [if_pos hg]
  refine ext0 (by rw [List.length_set]; omega) fun i hi => ?_
  rw [List.length_set] at hi
  rw [getD_set _ _ _ _ (by omega), lay_get _ _ _ _ (by omega), lay_get _ _ _ _ (by omega), lay_get _ _ _ _ (by omega)]
  repeat' split
  all_goals first | rfl | (congr 1; omega) | omega
 ·rw [if_neg hg]
  refine ext0 (by rw [List.length_set, List.length_set]; omega) fun i hi => ?_
  rw [List.length_set, List.length_set] at hi
  rw [getD_set _ _ _ _ (by rw [List.length_set]; omega), getD_set _ _ _ _ (by omega), lay_get _ _ _ _ (by omega), lay_get _ _ _ _ (by omega), lay_get _ _ _ _ (by omega)]
  repeat' split
  all_goals first | rfl | (congr 1; omega) | omega
theorem lay_put (T es : List Int) (l g : Nat) (hl : l ≤ T.length) (hg : es.length ≤ g) :
  (lay T l g).take l ++ (es ++ (lay T l g).drop (l + es.length)) = lay (T.take l ++ (es ++ T.drop l)) (l + es.length) (g - es.length) := by
 have e1 : (lay T l g).take l = T.take l := by unfold lay; rw [List.take_append_of_le_length (by rw [List.length_take]; omega), List.take_take, Nat.min_self]
 have e2 : (lay T l g).drop (l + es.length) = List.replicate (g - es.length) 0 ++ T.drop l := by
  unfold lay
  rw [List.drop_append, List.drop_eq_nil_of_le (by rw [List.length_take]; omega), List.nil_append, List.length_take, Nat.min_eq_left hl, show l + es.length - l = es.length by omega, List.drop_append_of_le_length (by rw [List.length_replicate]; exact hg), List.drop_replicate]
 rw [e1, e2]
 unfold lay
 have e3 : (T.take l ++ (es ++ T.drop l)).take (l + es.length) = T.take l ++ es := by
  rw [← List.append_assoc, List.take_append_of_le_length (by rw [List.length_append, List.length_take]; omega), List.take_of_length_le (by rw [List.length_append, List.length_take]; omega)]
 have e4 : (T.take l ++ (es ++ T.drop l)).drop (l + es.length) = T.drop l := by
  rw [← List.append_assoc, List.drop_append, List.drop_eq_nil_of_le (by rw [List.length_append, List.length_take]; omega), List.nil_append, List.length_append, List.length_take, Nat.min_eq_left hl, Nat.sub_self, List.drop_zero]
 rw [e3, e4, List.append_assoc]
theorem lay_of (cs : List Int) (lo hi : Nat) (h1 : lo ≤ hi) (h2 : hi ≤ cs.length) (hz : ∀ i, lo ≤ i → i < hi → cs.getD i 0 = 0) : cs = lay (cs.take lo ++ cs.drop hi) lo (hi - lo) := by
 have hlt : (cs.take lo ++ cs.drop hi).length = cs.length - (hi - lo) := by rw [List.length_append, List.length_take, List.length_drop]; omega
 have hg : ∀ i, (cs.take lo ++ cs.drop hi).getD i 0 = if i < lo then cs.getD i 0 else cs.getD (i - lo + hi) 0 := by
  intro i
  simp only [List.getD_eq_getElem?_getD]
  by_cases h : i < lo
  ·rw [if_pos h, List.getElem?_append_left (by rw [List.length_take]; omega), List.getElem?_take, if_pos h]
  ·rw [if_neg h, List.getElem?_append_right (by rw [List.length_take]; omega), List.length_take, List.getElem?_drop]
   congr 2; omega
 refine ext0 (by rw [lay_length _ _ _ (by omega)]; omega) fun i hi' => ?_
 rw [lay_get _ _ _ _ (by omega), hg, hg]
 repeat' split
 all_goals first | rfl | (exact hz i (by omega) (by omega)) | (congr 1; omega) | omega
def okGap (xs : List Int) (lo hi : Int) : Prop := xs.length ≤ 65536 ∧ 0 ≤ lo ∧ lo ≤ hi ∧ hi ≤ xs.length ∧ (∀ z ∈ (xs.take hi.toNat).drop lo.toNat, z = 0) ∧ (xs.length : Int) - (hi - lo) ≤ 8192
instance (xs : List Int) (lo hi : Int) : Decidable (okGap xs lo hi) := by unfold okGap; infer_instance
structure GoodAt (w : World) (ms : List Int) (gb : Nat) (o : Obj) (k : Nat) (v : Value) (wr : World) : Prop where
 st : ∃ i : Nat, v = .int .i64 i ∧ i + k = ms.length ∧ ∀ z ∈ ms.take i, z = 0
 blk : wr.heap[gb]? = some o
 bel : Below w.heap.size w wr
set_option maxHeartbeats 4000000 in
set_option maxRecDepth 100000 in
theorem goodGap_any (w : World) (xs : List Int) (A : Option Addr) (c : Nat) (lo hi : Int) (hr : (Kd.int .i32).C w A xs.length xs) (hc : xs.length ≤ c) (hl : xs.length ≤ 1048576) :
  Calls Tryd.prog 78 #[.agg #[.slice A xs.length c, .int .i64 lo, .int .i64 hi]] w fun e w' => e = .returned (.bool (decide (okGap xs lo hi))) ∧ Below w.heap.size w w' := by
 obtain ⟨w0, e0⟩ : ∃ y, w.alloc (.cells #[.slice A xs.length c, .int .i64 lo, .int .i64 hi] 76) = y := ⟨_, rfl⟩
 have HB0 : Aside0 (Below w.heap.size w w0) := ⟨by subst e0; exact (Below.refl _ w).alloc (Nat.le_refl _) _⟩
 have HX : Aside0 (w0.heap[w.heap.size]? = some (.cells #[.slice A xs.length c, .int .i64 lo, .int .i64 hi] 76 (0, 0))) := ⟨by subst e0; exact blk_new w (.cells #[.slice A xs.length c, .int .i64 lo, .int .i64 hi] 76)⟩
 have q0 : w0.cell? ⟨w.heap.size, 0, none⟩ = some (.slice A xs.length c) := (blk_cell HX.out 0).trans rfl
 have q1 : w0.cell? ⟨w.heap.size, 1, none⟩ = some (.int .i64 lo) := (blk_cell HX.out 1).trans rfl
 have q2 : w0.cell? ⟨w.heap.size, 2, none⟩ = some (.int .i64 hi) := (blk_cell HX.out 2).trans rfl
 have HR := Aside0.mk (Kd.C_below hr HB0.out)
 clear hr
 by_cases cb : 65536 < (xs.length : Int) ∨ lo < 0 ∨ hi < lo ∨ (xs.length : Int) < hi
 ·have no : decide (okGap xs lo hi) = false := decide_eq_false (fun h => by obtain ⟨a1, a2, a3, a4, _⟩ := h; omega)
  rw [no]
  clear no
  by_cases d1 : 65536 < (xs.length : Int)
  ·clear cb
   go_enter Tryd.func78, Tryd.ntmps78
   go_wp2
   go_ret
   exact ⟨rfl, HB0.out⟩
  ·by_cases d2 : lo < 0
   ·clear cb
    go_enter Tryd.func78, Tryd.ntmps78
    go_wp2
    go_ret
    exact ⟨rfl, HB0.out⟩
   ·by_cases d3 : hi < lo
    ·clear cb
     go_enter Tryd.func78, Tryd.ntmps78
     go_wp2
     go_ret
     exact ⟨rfl, HB0.out⟩
    ·have d4 : (xs.length : Int) < hi := by omega
     clear cb
     go_enter Tryd.func78, Tryd.ntmps78
     go_wp2
     go_ret
     exact ⟨rfl, HB0.out⟩
 ·obtain ⟨i0, hi0, _, hsz, _⟩ := info_parts QBase.info21
  obtain ⟨A1, hcut, hA1, hC1⟩ := print_mid_of (P := Tryd.prog) (Value.int .i32) 0 44 21 .i64 .i64 Tryd.underlying44 hi0 hsz A c xs lo hi (by omega) (by omega) (by omega) hc
  have hml : ((xs.take hi.toNat).drop lo.toNat).length = (hi - lo).toNat := by rw [List.length_drop, List.length_take]; omega
  have HM := Aside0.mk (Kd.C_of_reads (h1 := fun _ => rfl) (hA1 _ (Kd.reads_of_C HR.out)))
  have hok : decide (okGap xs lo hi) = decide ((∀ z ∈ (xs.take hi.toNat).drop lo.toNat, z = 0) ∧ (xs.length : Int) - (hi - lo) ≤ 8192) := decide_eq_decide.2 ⟨fun h => ⟨h.2.2.2.2.1, h.2.2.2.2.2⟩, fun h => ⟨by omega, by omega, by omega, by omega, h.1, h.2⟩⟩
  rw [hok]
  clear hok hA1 hC1 hi0 hsz
  generalize (xs.take hi.toNat).drop lo.toNat = ms at hcut hml HM ⊢
  have AT : Aside0 (GoodAt w0 ms w.heap.size (.cells #[.slice A xs.length c, .int .i64 lo, .int .i64 hi] 76 (0, 0)) ms.length (.int .i64 0) w0) := ⟨⟨⟨0, rfl, by omega, by simp⟩, HX.out, Below.refl _ _⟩⟩
  have b1 : 0 ≤ lo ∧ lo ≤ hi ∧ hi ≤ (xs.length : Int) ∧ (xs.length : Int) ≤ 65536 := by omega
  have HML := Aside0.mk hml
  clear cb hml
  obtain ⟨b1, b2, b3, b4⟩ := b1
  have b5 : ¬ (65536 < (xs.length : Int)) := by omega
  have b6 : ¬ lo < 0 := by omega
  have b7 : ¬ hi < lo := by omega
  have b8 : ¬ (xs.length : Int) < hi := by omega
  go_enter Tryd.func78, Tryd.ntmps78
  go_wp2
  go_loopg [37] ms.length (fun k v37 wr => GoodAt w0 ms w.heap.size (.cells #[.slice A xs.length c, .int .i64 lo, .int .i64 hi] 76 (0, 0)) k v37 wr)
  case atStart => exact AT.out
  case round =>
   clear AT q0 q1 q2
   obtain ⟨⟨i, rfl, hk, hz⟩, hblk, hB⟩ := hrel
   have HK := Aside0.mk hk
   have HZ := Aside0.mk hz
   have HB := Aside0.mk hB
   have HBK := Aside0.mk hblk
   clear hz hB hblk
   by_cases ci : i < ms.length
   ·obtain ⟨ad, ea, hx⟩ := Kd.at_int HM.out (i : Int) (by omega) (by omega)
    cases ea
    simp only [Int.toNat_natCast] at hx
    replace hx := (HB.out.cell (World.block_lt_of_cell? w0 _ hx)).trans hx
    have EX := Aside0.mk (show rd ms (i : Int) = ms[i] by unfold rd; simp [List.getD, ci])
    by_cases cz : rd ms (i : Int) = 0
    ·rw [cz] at hx
     clear hk
     go_wp2
     go_roundg (ms.length - (i + 1))
     case measure => have := HK.out; omega
     case rel =>
      have hib : i < 65536 := by have := HML.out; omega
      refine ⟨⟨i + 1, by rw [w64 (by omega)]; rfl, by have := HK.out; omega, ?_⟩, HBK.out, HB.out⟩
      rw [List.take_succ_eq_append_getElem ci]
      intro z hz
      rcases List.mem_append.1 hz with hz | hz
      ·exact HZ.out z hz
      ·rw [List.mem_singleton.1 hz, ← EX.out]; exact cz
    ·have NZ := Aside0.mk cz
     have no : decide ((∀ z ∈ ms, z = 0) ∧ (xs.length : Int) - (hi - lo) ≤ 8192) = false := decide_eq_false (fun h => cz (by rw [EX.out]; exact h.1 _ (List.getElem_mem ci)))
     have NO := Aside0.mk no
     clear hk no
     generalize rd ms (i : Int) = z at hx cz
     go_wp2
     go_ret
     exact ⟨by rw [NO.out]; rfl, below_step HB0.out HB.out⟩
   ·have hil : i = ms.length := by omega
    have q0 : wr.cell? ⟨w.heap.size, 0, none⟩ = some (.slice A xs.length c) := (blk_cell HBK.out 0).trans rfl
    have q1 : wr.cell? ⟨w.heap.size, 1, none⟩ = some (.int .i64 lo) := (blk_cell HBK.out 1).trans rfl
    have q2 : wr.cell? ⟨w.heap.size, 2, none⟩ = some (.int .i64 hi) := (blk_cell HBK.out 2).trans rfl
    have hz := HZ.out
    rw [hil, List.take_length] at hz
    have yes : decide ((∀ z ∈ ms, z = 0) ∧ (xs.length : Int) - (hi - lo) ≤ 8192) = decide ((xs.length : Int) - (hi - lo) ≤ 8192) := decide_eq_decide.2 ⟨fun h => h.2, fun h => ⟨hz, h⟩⟩
    have YES := Aside0.mk yes
    clear hk yes hz
    go_wp2
    go_ret
    exact ⟨by rw [YES.out]; try rfl, below_step HB0.out HB.out⟩
def GapAt (w : World) (b : Nat) (v : Value) (lo hi : Int) : Prop := w.heap[b]? = some (.cells #[v, .int .i64 lo, .int .i64 hi] 94 (0, 0))
theorem GapAt.below {w w' : World} {b : Nat} {v : Value} {lo hi : Int} (h : GapAt w b v lo hi) (hb : Below w.heap.size w w') : GapAt w' b v lo hi := blk_below h hb
abbrev gpt (b : Nat) : Value := .pointer (some ⟨b, 0, none⟩)
theorem below_drewN {w : World} (n : Nat) : Below w.heap.size w (w.drewN n) := pw_below_drewN (Below.refl _ _) n
theorem size_any (w : World) (b : Nat) (A : Option Addr) (n c : Nat) (lo hi : Int) (h : GapAt w b (.slice A n c) lo hi) (hlo : 0 ≤ lo) (hlh : lo ≤ hi) (hh : hi ≤ n) (hn : n ≤ 100000000) :
  Calls Tryd.prog 56 #[gpt b] w fun e w' => e = .returned (.int .i64 (n - (hi - lo))) ∧ Below w.heap.size w w' := by
 have q0 : w.cell? ⟨b, 0, none⟩ = some (.slice A n c) := (blk_cell h 0).trans rfl
 have q1 : w.cell? ⟨b, 1, none⟩ = some (.int .i64 lo) := (blk_cell h 1).trans rfl
 have q2 : w.cell? ⟨b, 2, none⟩ = some (.int .i64 hi) := (blk_cell h 2).trans rfl
 clear h
 simp only [gpt]
 go_enter Tryd.func56, Tryd.ntmps56
 go_wp2
 have s1 : IntKind.i64.wrap (hi - lo) = hi - lo := by rw [IntKind.wrap_i64]; omega
 have s2 : IntKind.i64.wrap ((n : Int) - (hi - lo)) = (n : Int) - (hi - lo) := by rw [IntKind.wrap_i64]; omega
 go_quiet (fail)
 go_wp2
 go_ret
 exact ⟨rfl, below_drewN _⟩
def gi (lo hi i : Int) : Int := if i ≥ lo then i + (hi - lo) else i
theorem get_any (w : World) (b : Nat) (A : Option Addr) (c : Nat) (lo hi i : Int) (xs : List Int) (h : GapAt w b (.slice A xs.length c) lo hi) (hr : (Kd.int .i32).C w A xs.length xs)
  (_ : 0 ≤ lo) (hlh : lo ≤ hi) (_ : hi ≤ xs.length) (hn : xs.length ≤ 100000000) (hi0 : 0 ≤ i) (hi1 : gi lo hi i < xs.length) :
  Calls Tryd.prog 90 #[gpt b, .int .i64 i] w fun e w' => e = .returned (.int .i32 (rd xs (gi lo hi i))) ∧ Below w.heap.size w w' := by
 have q0 : w.cell? ⟨b, 0, none⟩ = some (.slice A xs.length c) := (blk_cell h 0).trans rfl
 have q1 : w.cell? ⟨b, 1, none⟩ = some (.int .i64 lo) := (blk_cell h 1).trans rfl
 have q2 : w.cell? ⟨b, 2, none⟩ = some (.int .i64 hi) := (blk_cell h 2).trans rfl
 have hg0 : 0 ≤ gi lo hi i := by unfold gi; split <;> omega
 obtain ⟨ad, ea, hx⟩ := Kd.at_int hr (gi lo hi i) hg0 hi1
 cases ea
 clear h hr
 simp only [gpt]
 by_cases ci : i ≥ lo
 ·have eg : gi lo hi i = i + (hi - lo) := if_pos ci
  rw [eg] at hx hg0 hi1 ⊢
  clear eg
  have s1 : IntKind.i64.wrap (hi - lo) = hi - lo := by rw [IntKind.wrap_i64]; omega
  have s2 : IntKind.i64.wrap (i + (hi - lo)) = i + (hi - lo) := by rw [IntKind.wrap_i64]; omega
  go_enter Tryd.func90, Tryd.ntmps90
  go_wp2
  go_quiet (fail)
  go_wp2
  go_ret
  exact ⟨rfl, below_drewN _⟩
 ·have eg : gi lo hi i = i := if_neg ci
  rw [eg] at hx hg0 hi1 ⊢
  clear eg
  go_enter Tryd.func90, Tryd.ntmps90
  go_wp2
  go_ret
  exact ⟨rfl, Below.refl _ _⟩
def GapIs (w : World) (base b : Nat) (T : List Int) (l g : Nat) : Prop :=
 base ≤ b ∧ l ≤ T.length ∧ T.length + g ≤ 1000000 ∧ ∃ v, GapAt w b v (l : Int) ((l + g : Nat) : Int) ∧ Kd.R (Kd.int .i32) 21 w base (fun k => k ≠ b) v (lay T l g)
theorem GapIs.below {w w' : World} {base b : Nat} {T : List Int} {l g : Nat} (h : GapIs w base b T l g) (hb : Below w.heap.size w w') : GapIs w' base b T l g := by
 obtain ⟨h1, h2, h3, v, h4, h5⟩ := h
 exact ⟨h1, h2, h3, v, h4.below hb, Kd.R_below h5 hb⟩
theorem gsize_any (w : World) (base b : Nat) (T : List Int) (l g : Nat) (h : GapIs w base b T l g) :
  Calls Tryd.prog 56 #[gpt b] w fun e w' => e = .returned (.int .i64 (T.length : Nat)) ∧ Below w.heap.size w w' := by
 obtain ⟨h1, h2, h3, v, h4, h5⟩ := h
 obtain ⟨A, c, rfl⟩ := Kd.R_slice h5
 rw [lay_length T l g h2] at h4
 refine (size_any w b A _ c l ((l + g : Nat) : Int) h4 (by omega) (by omega) (by omega) (by omega)).mono ?_
 rintro e w' ⟨rfl, hb⟩
 refine ⟨?_, hb⟩
 congr 2; omega
theorem rd_nat (xs : List Int) (i : Nat) : rd xs (i : Int) = xs.getD i 0 := by unfold rd; simp
theorem gget_any (w : World) (base b : Nat) (T : List Int) (l g i : Nat) (h : GapIs w base b T l g) (hi : i < T.length) :
  Calls Tryd.prog 90 #[gpt b, .int .i64 i] w fun e w' => e = .returned (.int .i32 (T.getD i 0)) ∧ Below w.heap.size w w' := by
 obtain ⟨h1, h2, h3, v, h4, h5⟩ := h
 obtain ⟨A, c, rfl⟩ := Kd.R_slice h5
 have hlen := lay_length T l g h2
 obtain ⟨e1, e2, hr⟩ := Kd.R_reads' h5
 have hgi : gi (l : Int) ((l + g : Nat) : Int) (i : Int) = ((if i < l then i else i + g : Nat) : Int) := by
  unfold gi
  by_cases c : i < l
  ·rw [if_neg (by omega), if_pos c]
  ·rw [if_pos (by omega), if_neg c]; omega
 have hlt : (if i < l then i else i + g : Nat) < (lay T l g).length := by split <;> omega
 refine (get_any w b A c l ((l + g : Nat) : Int) i (lay T l g) h4 hr (by omega) (by omega) (by omega) (by omega) (by omega) (by rw [hgi]; omega)).mono ?_
 rintro e w' ⟨rfl, hb⟩
 refine ⟨?_, hb⟩
 rw [hgi, rd_nat]
 congr 2
 by_cases c : i < l
 ·rw [if_pos c]; exact lay_lt T l g i c h2
 ·rw [if_neg c]; exact lay_ge T l g i (by omega) h2
theorem step_app_nil {P : Program} {ops : Array Oper} {o : Oper} {a : Act} {K : Act → World → Prop} {Q : Exit → Act → World → Prop} {E : Prop} (k : IntKind) {W : World} (ok : Nat → Prop) (hgd : o.guard = none) (s x : Operand) (t e : TypeId) (z : Value) (bytes : Nat)
  (ho : o.op = .call { callee := .builtin .append, args := #[s, x], argTypes := #[t, t] })
  (ht : P.underlying t = some (.slice e)) (hinfo : (P.info? e).map (fun i => (i.zero, i.size, i.bytes)) = some (some z, 1, bytes)) (hz : z.cells.size = 1) (hb0 : 0 < bytes)
  (hs : a.eval s = .slice none 0 0) (xs : List Int) (A : Option Addr) (m c : Nat) (hx : a.eval x = .slice A m c) (HR : (Kd.int k).C W A m xs) (hfresh : ∀ k, W.heap.size ≤ k → ok k) (hl : m * bytes ≤ 140737488355328)
  (h : ∀ v1 w1, (Kd.int k).R e w1 W.heap.size ok v1 xs → Below W.heap.size W w1 → K (a.put o.dst v1) w1) :
  if Region.wanted o (yielded ops a.tmps) = true then Oper.wp P o a W K Q else E := by
 have hw : Region.wanted o (yielded ops a.tmps) = true := by simp [Region.wanted, hgd]
 have key := Kd.R_append_rows_step (ops := ops) (Q := Q) (Kc := K) (Kd.int k) (w0 := W) W.heap.size hw s x t e z bytes ho ht hinfo hz Nat.one_pos hb0 (.slice none 0 0) [] xs A m c ok (fun _ => False) hs hx (Kd.R_nil _ _ _ _ _) HR (fun _ _ h => h) (fun _ h => h.elim) hfresh (Below.refl _ _) (Nat.le_refl _) (by simp only [List.length_nil, Nat.zero_add]; exact hl) (fun v1 w1 ho hb _ _ => h v1 w1 ho hb)
 rw [if_pos hw] at key ⊢
 exact key
structure OS (g : Nat) (A : Option Addr) (c : Nat) (lo hi : Int) (xs : List Int) (w w' : World) : Prop where
 c0 : w'.cell? ⟨g, 0, none⟩ = some (.slice A xs.length c)
 c1 : w'.cell? ⟨g, 1, none⟩ = some (.int .i64 lo)
 c2 : w'.cell? ⟨g, 2, none⟩ = some (.int .i64 hi)
 rd : (Kd.int .i32).C w' A xs.length xs
 bel : Below w.heap.size w w'
theorem OS.below {g : Nat} {A : Option Addr} {c : Nat} {lo hi : Int} {xs : List Int} {w w1 w2 : World} (h : OS g A c lo hi xs w w1) (hb : Below w1.heap.size w1 w2) : OS g A c lo hi xs w w2 :=
 ⟨(hb.cell (World.block_lt_of_cell? w1 _ h.c0)).trans h.c0, (hb.cell (World.block_lt_of_cell? w1 _ h.c1)).trans h.c1, (hb.cell (World.block_lt_of_cell? w1 _ h.c2)).trans h.c2, Kd.C_below h.rd hb, below_step h.bel hb⟩
theorem OS.alloc {g : Nat} {A : Option Addr} {c : Nat} {lo hi : Int} {xs : List Int} {w w1 : World} {o : Obj} (h : OS g A c lo hi xs w w1) : OS g A c lo hi xs w (w1.alloc o) := h.below ((Below.refl _ w1).alloc (Nat.le_refl _) _)
theorem OS.drew {g : Nat} {A : Option Addr} {c : Nat} {lo hi : Int} {xs : List Int} {w w1 : World} (h : OS g A c lo hi xs w w1) : OS g A c lo hi xs w w1.drew := h.below (Below.refl _ w1).drew
def OpenedPost (w : World) (xs : List Int) (lo hi : Int) (e : Ending) (w' : World) : Prop :=
 Below w.heap.size w w' ∧
  ((okGap xs lo hi ∧ ∃ b, e = .returned (.tuple #[gpt b, .nilIface]) ∧ GapIs w' w.heap.size b (xs.take lo.toNat ++ xs.drop hi.toNat) lo.toNat (hi - lo).toNat) ∨
   (¬ okGap xs lo hi ∧ ∃ b v, e = .returned (.tuple #[gpt b, v]) ∧ GapIs w' w.heap.size b [] 0 0 ∧ ErrIs w' v 1))
theorem okGap_lay {xs : List Int} {lo hi : Int} (h : okGap xs lo hi) : xs = lay (xs.take lo.toNat ++ xs.drop hi.toNat) lo.toNat (hi - lo).toNat ∧ lo.toNat ≤ (xs.take lo.toNat ++ xs.drop hi.toNat).length ∧ (xs.take lo.toNat ++ xs.drop hi.toNat).length ≤ 8192 ∧ (xs.take lo.toNat ++ xs.drop hi.toNat).length + (hi - lo).toNat = xs.length := by
 obtain ⟨h1, h2, h3, h4, h5, h6⟩ := h
 refine ⟨?_, ?_, ?_, ?_⟩
 ·have := lay_of xs lo.toNat hi.toNat (by omega) (by omega) (fun i a b => ?_)
  ·rw [show hi.toNat - lo.toNat = (hi - lo).toNat by omega] at this
   exact this
  ·refine h5 _ ?_
   have hi' : i < xs.length := by omega
   rw [List.getD_eq_getElem?_getD, List.getElem?_eq_getElem hi', Option.getD_some]
   refine List.mem_iff_getElem.2 ⟨i - lo.toNat, by rw [List.length_drop, List.length_take]; omega, ?_⟩
   rw [List.getElem_drop, List.getElem_take]
   congr 1; omega
 all_goals (rw [List.length_append, List.length_take, List.length_drop]; omega)
set_option maxHeartbeats 4000000 in
set_option maxRecDepth 100000 in
theorem opened_any (w : World) (xs : List Int) (A : Option Addr) (c : Nat) (lo hi : Int) (hr : (Kd.int .i32).C w A xs.length xs) (hc : xs.length ≤ c) (hl : xs.length ≤ 1048576) :
  Calls Tryd.prog 54 #[.agg #[.slice A xs.length c, .int .i64 lo, .int .i64 hi]] w (OpenedPost w xs lo hi) := by
 obtain ⟨w0, e0⟩ : ∃ y, w.alloc (.cells #[.slice A xs.length c, .int .i64 lo, .int .i64 hi] 76) = y := ⟨_, rfl⟩
 have HB0 : Aside0 (Below w.heap.size w w0) := ⟨by subst e0; exact (Below.refl _ w).alloc (Nat.le_refl _) _⟩
 have HX : Aside0 (w0.heap[w.heap.size]? = some (.cells #[.slice A xs.length c, .int .i64 lo, .int .i64 hi] 76 (0, 0))) := ⟨by subst e0; exact blk_new w (.cells #[.slice A xs.length c, .int .i64 lo, .int .i64 hi] 76)⟩
 have q0 : w0.cell? ⟨w.heap.size, 0, none⟩ = some (.slice A xs.length c) := (blk_cell HX.out 0).trans rfl
 have q1 : w0.cell? ⟨w.heap.size, 1, none⟩ = some (.int .i64 lo) := (blk_cell HX.out 1).trans rfl
 have q2 : w0.cell? ⟨w.heap.size, 2, none⟩ = some (.int .i64 hi) := (blk_cell HX.out 2).trans rfl
 have HR := Aside0.mk (Kd.C_below hr HB0.out)
 have hG := goodGap_any w0 xs A c lo hi HR.out hc hl
 clear hr
 by_cases ok : okGap xs lo hi
 ·rw [decide_eq_true ok] at hG
  have HG := Aside0.mk hG
  have OK := Aside0.mk ok
  clear hG ok
  go_enter Tryd.func54, Tryd.ntmps54
  go_wp2_with fail
  refine HG.out.mono ?_
  rintro e w1 ⟨rfl, hb1⟩
  have HB1 := Aside0.mk (below_step HB0.out hb1)
  have HX1 := Aside0.mk (blk_below HX.out hb1)
  have HR1 := Aside0.mk (Kd.C_below HR.out hb1)
  clear q0 q1 q2 hb1
  have q0 : w1.cell? ⟨w.heap.size, 0, none⟩ = some (.slice A xs.length c) := (blk_cell HX1.out 0).trans rfl
  have q1 : w1.cell? ⟨w.heap.size, 1, none⟩ = some (.int .i64 lo) := (blk_cell HX1.out 1).trans rfl
  have q2 : w1.cell? ⟨w.heap.size, 2, none⟩ = some (.int .i64 hi) := (blk_cell HX1.out 2).trans rfl
  go_wp2_with fail
  have os1 : OS w.heap.size A c lo hi xs w w1 := ⟨q0, q1, q2, HR1.out, HB1.out⟩
  clear e0
  go_region_held3 (fun w' => w'.cell? ⟨w.heap.size, 0, none⟩ = some (.slice A xs.length c) ∧ w'.cell? ⟨w.heap.size, 1, none⟩ = some (.int .i64 lo) ∧ w'.cell? ⟨w.heap.size, 2, none⟩ = some (.int .i64 hi) ∧ OS w.heap.size A c lo hi xs w w')
   (first | (refine (fun (x : OS w.heap.size A c lo hi xs w _) => ⟨x.c0, x.c1, x.c2, x⟩) ?_; repeat (first | assumption | (with_reducible apply OS.drew) | (with_reducible apply OS.alloc))))
   (first | (refine step_app_nil .i32 (fun _ => True) (by rfl) (.const (.slice none 0 0)) (.tmp 12) 44 21 (.int .i32 0) 4 (by rfl) Tryd.underlying44 QBase.info21 (by rfl) (by decide) (by rfl) xs A xs.length c (by rfl) (OS.rd (g := w.heap.size) (c := c) (lo := lo) (hi := hi) (w := w) (by first | assumption | exact OS.drew (by assumption) | exact OS.alloc (by assumption))) (fun _ _ => trivial) (by omega) ?_; intro v1 w2 ho hb2; have os2 := OS.below (g := w.heap.size) (A := A) (c := c) (lo := lo) (hi := hi) (xs := xs) (w := w) (by first | assumption | exact OS.drew (by assumption) | exact OS.alloc (by assumption)) hb2; obtain ⟨A2, c2, rfl⟩ := Kd.R_slice ho))
  have hkk := OK.out
  obtain ⟨e1, e2, e3, e4⟩ := okGap_lay hkk
  obtain ⟨k1, k2, k3, k4, -, -⟩ := hkk
  have hR := Kd.R_alloc (Kd.R_lower (Kd.R_mono (ok' := fun k => k ≠ w2.heap.size) (Kd.R_bound ho) (fun k hk => Nat.ne_of_lt hk.2.2.1)) HB1.out.size) (.cells #[.slice A2 xs.length c2, .int .i64 lo, .int .i64 hi] 94)
  have hsz := os2.bel.size
  have hbF := os2.bel.alloc hsz (.cells #[.slice A2 xs.length c2, .int .i64 lo, .int .i64 hi] 94)
  have hG0 : GapAt (w2.alloc (.cells #[.slice A2 xs.length c2, .int .i64 lo, .int .i64 hi] 94)) w2.heap.size (.slice A2 xs.length c2) lo hi := blk_new w2 _
  have HF := Aside0.mk (show OpenedPost w xs lo hi (.returned (.tuple #[gpt w2.heap.size, .nilIface])) (w2.alloc (.cells #[.slice A2 xs.length c2, .int .i64 lo, .int .i64 hi] 94)) from
   ⟨hbF, .inl ⟨OK.out, w2.heap.size, rfl, ⟨hsz, e2, by omega, .slice A2 xs.length c2, by
    rw [show ((lo.toNat : Nat) : Int) = lo by omega, show ((lo.toNat + (hi - lo).toNat : Nat) : Int) = hi by omega]; exact hG0, by rw [← e1]; exact hR⟩⟩⟩)
  clear e1 e2 e3 e4 k1 k2 k3 k4 hR hsz hbF hG0
  go_wp2
  go_ret2
  exact HF.out
 ·rw [decide_eq_false ok] at hG
  have HG := Aside0.mk hG
  have OK := Aside0.mk ok
  clear hG ok
  go_enter Tryd.func54, Tryd.ntmps54
  go_wp2_with fail
  refine HG.out.mono ?_
  rintro e w1 ⟨rfl, hb1⟩
  have HB1 := Aside0.mk (below_step HB0.out hb1)
  clear q0 q1 q2 hb1
  go_wp2_with fail
  refine (in_fault _ 1 _).mono ?_
  rintro e w3 ⟨v, rfl, hE, hb3⟩
  go_wp2
  go_ret2
  have hsz := HB1.out.size
  have hG0 : GapAt (w1.alloc (.cells #[.slice none 0 0, .int .i64 0, .int .i64 0] 94)) w1.heap.size (.slice none 0 0) 0 0 := blk_new w1 _
  have hb1 := HB1.out.alloc HB1.out.size (.cells #[.slice none 0 0, .int .i64 0, .int .i64 0] 94)
  exact ⟨below_step hb1 hb3, .inr ⟨OK.out, w1.heap.size, v, rfl, ⟨hsz, by simp, by simp, .slice none 0 0, hG0.below hb3, by simp only [lay, List.take_nil, List.drop_nil, List.replicate_zero, List.append_nil]; exact Kd.R_nil _ _ _ _ _⟩, hE⟩⟩
theorem one_reads (W : World) (x : Int) (t : TypeId) : (Kd.int .i32).C (W.alloc (.cells #[.int .i32 x] t)) (some ⟨W.heap.size, 0, none⟩) 1 [x] := by
 refine ⟨rfl, by simp, fun _ => ⟨_, rfl, fun j p hj => ?_⟩⟩
 obtain ⟨rfl, rfl⟩ : j = 0 ∧ p = x := by
  rcases j with _ | j
  ·simp at hj; exact ⟨rfl, hj.symm⟩
  ·simp at hj
 refine ⟨[.int .i32 p], rfl, rfl, fun i u hu => ?_⟩
 rcases i with _ | i
 ·simp only [List.getElem?_cons_zero, Option.some.injEq] at hu
  subst hu
  exact (blk_cell (blk_new W (.cells #[.int .i32 p] t)) 0).trans rfl
 ·simp at hu
structure ReadAt (w : World) (T : List Int) (lo hi : Nat) (k : Nat) (v7 v8 : Value) (wr : World) : Prop where
 st : ∃ i : Nat, v8 = .int .i64 i ∧ lo ≤ i ∧ i + k = hi ∧ Kd.R (Kd.int .i32) 21 wr w.heap.size (fun _ => True) v7 ((T.take i).drop lo)
 bel : Below w.heap.size w wr
set_option maxHeartbeats 4000000 in
set_option maxRecDepth 100000 in
theorem read_any (w : World) (base b : Nat) (T : List Int) (l g lo hi : Nat) (h : GapIs w base b T l g) (hlo : lo ≤ hi) (hhi : hi ≤ T.length) :
  Calls Tryd.prog 72 #[gpt b, .int .i64 lo, .int .i64 hi] w fun e w' => ∃ v, e = .returned v ∧ Kd.R (Kd.int .i32) 21 w' w.heap.size (fun _ => True) v ((T.take hi).drop lo) ∧ Below w.heap.size w w' := by
 have HG := Aside0.mk h
 have hT : T.length ≤ 1000000 := by have := h.2.2.1; omega
 have AT : Aside0 (ReadAt w T lo hi (hi - lo) (.slice none 0 0) (.int .i64 lo) w) := ⟨⟨⟨lo, rfl, Nat.le_refl _, by omega, by rw [List.drop_eq_nil_of_le (by rw [List.length_take]; omega)]; exact Kd.R_nil _ _ _ _ _⟩, Below.refl _ _⟩⟩
 have HL := Aside0.mk hlo
 clear h hlo
 simp only [gpt]
 go_enter Tryd.func72, Tryd.ntmps72
 go_wp2
 go_loopg [7, 8] (hi - lo) (fun k v7 v8 wr => ReadAt w T lo hi k v7 v8 wr)
 case atStart => exact AT.out
 case round =>
  clear AT
  obtain ⟨⟨i, rfl, hli, hk, hR⟩, hB⟩ := hrel
  have HB := Aside0.mk hB
  have HR := Aside0.mk hR
  have HK := Aside0.mk hk
  have HLI := Aside0.mk hli
  by_cases ci : i < hi
  ·have hib : i < 1000000 := by omega
   have hget := gget_any wr base b T l g i (HG.out.below hB) (by omega)
   have HGET := Aside0.mk hget
   have hlen : ((T.take i).drop lo).length ≤ 1000000 := by rw [List.length_drop, List.length_take]; omega
   have HLEN := Aside0.mk hlen
   have e1 : (T.take (i + 1)).drop lo = (T.take i).drop lo ++ [T.getD i 0] := by
    rw [List.take_succ_eq_append_getElem (by omega), List.drop_append_of_le_length (by rw [List.length_take]; omega), List.getD_eq_getElem?_getD, List.getElem?_eq_getElem (by omega : i < T.length), Option.getD_some]
   have E1 := Aside0.mk e1
   clear hB hR hk hli hget hlen e1
   generalize T.getD i 0 = x at HGET E1
   go_wp2_with fail
   refine HGET.out.mono ?_
   rintro e w1 ⟨rfl, hb1⟩
   have HB1 := Aside0.mk (below_step HB.out hb1)
   have HR1 := Aside0.mk (Kd.R_below HR.out hb1)
   clear hb1
   go_wp2_with ((with_reducible refine gate_builtin (b := .append) (xs := #[.tmp 15, .tmp 19]) rfl ?_); at_builtin; refine app_own .i32 w (fun _ => True) rfl (.tmp 15) (.tmp 19) 44 21 (.int .i32 0) 4 rfl Tryd.underlying44 QBase.info21 rfl (by decide) _ rfl ((T.take i).drop lo) [x] _ 1 1 rfl rfl (Kd.R_alloc HR1.out _) (one_reads w1 x _) (fun _ _ => trivial) (HB1.out.alloc HB1.out.size _) (by have := HLEN.out; simp only [List.length_cons, List.length_nil]; omega) ?_; intro v1 w2 ho hb2 hg2 hat2; clear hg2 hat2; have HB2 := Aside0.mk hb2; have HR2 := Aside0.mk ho; clear hb2 ho)
   go_roundg (hi - (i + 1))
   case measure => have := HK.out; omega
   case rel => exact ⟨⟨i + 1, by go_num, by have := HLI.out; omega, by have := HK.out; omega, by rw [E1.out]; exact HR2.out⟩, HB2.out⟩
  ·have hil : i = hi := by omega
   subst hil
   clear hB hR hk hli
   obtain ⟨A1, c1, rfl⟩ := Kd.R_slice HR.out
   go_wp2
   go_ret
   exact ⟨_, rfl, HR.out, HB.out⟩
end Go.Proofs.YtamcacahjlaogaaDoor
