/- Marks: a table opened (opensTable), walked. Conditions: at most 1048576 marks, their ids are numbers of 64 bits. -/
import Derived.Maps.OwnOps
import Derived.Maps.Views
import Derived.Deep.RegionHeld3
import Derived.Test.YtefdjajmnkmbgaaDoorMk1
namespace Go.Proofs.YtefdjajmnkmbgaaDoor
open Go.RowKit Go.Maps Go.Proofs.YtefdjajmnkmbgaaDoorW.PrintWords Go.Proofs.YtefdjajmnkmbgaaDoorW.PrintLast Go.Proofs.YtefdjajmnkmbgaaDoorW.PrintMore Er
theorem infoM : (Tryd.prog.info? 53).map (fun i => (i.zero, i.size, i.bytes)) = some (some (.agg #[.int .i64 0, .int .i64 0, .int .i64 0]), 3, 24) := by kernel_rfl
theorem kM_KM {W : World} {base : Nat} {ok : Nat → Prop} (x : Mk) (cs : List Value) (h : kM.K W x cs) : kM.M W base ok x cs := by
  have := QBase.k53_open h
  subst this
  exact QBase.k53_mkM _ _ _ _
theorem R_empty (W : World) (base : Nat) (hb : base ≤ W.heap.size) : Kd.R kM 53 (W.alloc (.cells #[] 53)) base (fun _ => True) (.slice (some ⟨W.heap.size, 0, none⟩) 0 0) [] :=
  R_make (cur := #[]) (g := W.heap.size) (cap := 0) trivial hb (Nat.le_refl _) (by decide) (blk_new W _) rfl ⟨rfl, fun j p h => by simp at h⟩
theorem nil_eq (w : World) (c : Nat) : (binOp .eql 26 (.slice none 0 c) (.slice none 0 0)).run Tryd.prog w = .ok (.bool true) w := by kernel_rfl
theorem some_eq (w : World) (ad : Addr) (n c : Nat) : (binOp .eql 26 (.slice (some ad) n c) (.slice none 0 0)).run Tryd.prog w = .ok (.bool false) w := by kernel_rfl
set_option maxHeartbeats 4000000 in
set_option maxRecDepth 100000 in
theorem clone_any (w : World) (xs : List Mk) (A : Option Addr) (c : Nat) (hr : kM.C w A xs.length xs) (hc : xs.length ≤ c) (hn : xs.length ≤ 1048576) :
    Calls Tryd.prog 66 #[.slice A xs.length c] w fun e w' => ∃ v, e = .returned v ∧ Kd.R kM 53 w' w.heap.size (fun _ => True) v xs ∧ Below w.heap.size w w' := by
  cases A with
  | none =>
    have h0 : xs = [] := by
      rcases Nat.eq_zero_or_pos xs.length with h | h
      · exact List.eq_nil_of_length_eq_zero h
      · obtain ⟨ad, e, _⟩ := hr.2.2 h
        cases e
    subst h0
    clear hr hc hn
    simp only [List.length_nil]
    have hq := nil_eq w c
    go_enter Tryd.func66, Tryd.ntmps66
    go_wp2
    go_ret
    exact ⟨_, rfl, Kd.R_nil _ _ _ _ _, Below.refl _ _⟩
  | some ad =>
    have HR := Aside0.mk hr
    obtain ⟨w1, e1⟩ : ∃ y, w.alloc (.cells #[] 53) = y := ⟨_, rfl⟩
    have hb1 : Below w.heap.size w w1 := by subst e1; exact (Below.refl _ w).alloc (Nat.le_refl _) _
    have HO := Aside0.mk (R_empty w w.heap.size (Nat.le_refl _))
    rw [e1] at HO
    have HB := Aside0.mk hb1
    have HR1 := Aside0.mk (Kd.C_below hr hb1)
    clear hr hb1
    have hq := some_eq w ad xs.length c
    go_enter Tryd.func66, Tryd.ntmps66
    go_wp2_with ((with_reducible refine gate_builtin (b := .append) (xs := #[.tmp 5, .tmp 6]) rfl ?_); at_builtin; refine Kd.R_append_rows kM (Rr := kM.K w1) (w0 := w) w.heap.size rfl (.tmp 5) (.tmp 6) 26 53 (.agg #[.int .i64 0, .int .i64 0, .int .i64 0]) 24 rfl Tryd.underlying26 infoM rfl (by decide) (by decide) (.slice (some ⟨w.heap.size, 0, none⟩) 0 0) [] xs (some ad) xs.length c (fun _ => True) (fun k => k ≠ w.heap.size) rfl rfl HO.out HR1.out kM_KM (fun k hk => ⟨trivial, fun e => hk (by simpa [Value.ownBlock] using e)⟩) (fun _ _ => trivial) HB.out HB.out.size (by simp only [List.length_nil]; omega) ?_; intro v1 w2 ho hb2 _ _; have HO2 := Aside0.mk ho; have HB2 := Aside0.mk hb2; clear ho hb2)
    go_ret
    exact ⟨_, rfl, by simpa using HO2.out, HB2.out⟩
/-- a mark is within the bounds -/
def goodM (m : Mk) : Bool := decide (-1000000000 ≤ m.f0 ∧ m.f0 ≤ 1000000000) && (decide (0 ≤ m.f1 ∧ m.f1 ≤ 8192) && decide (0 ≤ m.f2 ∧ m.f2 ≤ 1))
theorem goodM_f (m : Mk) : QBase.impl_goodMark.f m.f0 m.f1 m.f2 = some (goodM m) := by
  unfold QBase.impl_goodMark.f QBase.impl_within_int.f goodM
  by_cases h1 : -1000000000 ≤ m.f0 <;> by_cases h2 : m.f0 ≤ 1000000000 <;> by_cases h3 : 0 ≤ m.f1 <;> by_cases h4 : m.f1 ≤ 8192 <;> by_cases h5 : 0 ≤ m.f2 <;> by_cases h6 : m.f2 ≤ 1 <;> simp [h1, h2, h3, h4, h5, h6]
theorem goodM_any (m : Mk) (W : World) : Calls Tryd.prog 64 #[.agg #[.int .i64 m.f0, .int .i64 m.f1, .int .i64 m.f2]] W fun e w' => e = .returned (.bool (goodM m)) ∧ Below W.heap.size W w' :=
  QBase.impl_goodMark.calls m.f0 m.f1 m.f2 _ W (goodM_f m)
/-- mark i of a table is good, its id is new, it stands behind the one before it -/
def okAt (xs : List Mk) (i : Nat) : Bool := goodM (xs.getD i default) && (decide (((xs.take i).map (·.f0)).count (xs.getD i default).f0 = 0) && (decide (i = 0) || decide (cfM (xs.getD (i - 1) default) (xs.getD i default) < 0)))
/-- a table that came in is valid -/
def okTab (xs : List Mk) : Bool := decide (xs.length ≤ 128) && (List.range xs.length).all (okAt xs)
def okTo (xs : List Mk) (i : Nat) : Bool := decide (xs.length ≤ 128) && (List.range i).all (okAt xs)
theorem okTo_succ (xs : List Mk) (i : Nat) : okTo xs (i + 1) = (okTo xs i && okAt xs i) := by
  unfold okTo
  rw [List.range_succ, List.all_append]
  simp [Bool.and_assoc]
theorem law3 : Keyed Tryd.prog 3 := int_keyed Tryd.underlying3
theorem zero3 (w : World) : (zeroValue 3).run Tryd.prog w = .ok (.int .i64 0) w := by kernel_rfl
theorem wfI {x : Int} : (Lit.int .i64 x).wf = true ↔ -9223372036854775808 ≤ x ∧ x ≤ 9223372036854775807 := by
  show (decide (IntKind.i64.min ≤ x) && decide (x ≤ IntKind.i64.max)) = true ↔ _
  have h1 : IntKind.i64.min = -9223372036854775808 := by decide
  have h2 : IntKind.i64.max = 9223372036854775807 := by decide
  rw [h1, h2]; simp
/-- the map counts the ids so far -/
structure MapC (w : World) (b n : Nat) (ids : List Int) : Prop where
  ex : ∃ D : DataW Unit, w.ownsMap Tryd.prog 3 (plainElem Tryd.prog 3) b n D ∧ IsMap D ∧ ∀ x : Int, (Lit.int .i64 x).wf = true → D.atKey (.int .i64 x) (.lit (.int .i64 0)) = .lit (.int .i64 ((ids.count x : Nat) : Int))
theorem MapC.below {w w' : World} {b n : Nat} {ids : List Int} (h : MapC w b n ids) (hb : Below w.heap.size w w') : MapC w' b n ids := by
  obtain ⟨D, h1, h2, h3⟩ := h
  exact ⟨D, h1.kept (row := none) ⟨hb.os, hb.tape, hb.output, hb.size, fun k hk _ => hb.block k hk⟩ (by simp), h2, h3⟩
theorem MapC.set {w : World} {b n : Nat} {ids : List Int} (h : MapC w b n ids) {p : Addr} (hp : p.block ≠ b) (u : Value) : MapC (w.setCell p u) b n ids := by
  obtain ⟨D, h1, h2, h3⟩ := h
  exact ⟨D, h1.kept (row := some p.block) ⟨rfl, rfl, rfl, by simp [World.setCell], fun k _ hne => Below.heap_setCell w p u k (fun e => hne (by rw [e]))⟩ (fun e => hp (Option.some.inj e).symm), h2, h3⟩
theorem MapC.lookup {w : World} {b n : Nat} {ids : List Int} (h : MapC w b n ids) (x : Int) (hx : (Lit.int .i64 x).wf = true) : (Instr.lookup 86 (.map (some b)) (.int .i64 x) false).run Tryd.prog w = .ok (.int .i64 ((ids.count x : Nat) : Int)) w := by
  obtain ⟨D, h1, h2, h3⟩ := h
  obtain ⟨c, hrun, hat, -⟩ := h1.lookup_int law3 Tryd.underlying86 Tryd.underlying3 (zero3 w) (keyOf_int_mk Tryd.underlying3 hx)
  rw [h3 x hx] at hat
  have e : ((ids.count x : Nat) : Int) = c := by simpa using hat
  rw [e]; exact hrun
theorem MapC.made (w : World) : MapC (w.alloc (.map #[] 0)) w.heap.size 0 [] :=
  ⟨.map [], World.ownsMap_made _ _ _ _, isMap_empty, fun x _ => by simp [DataW.atKey]⟩
theorem MapC.lt {w : World} {b n : Nat} {ids : List Int} (h : MapC w b n ids) : b < w.heap.size := by
  obtain ⟨D, h1, h2, h3⟩ := h
  exact h1.lt
theorem MapC.update {w : World} {b n : Nat} {ids : List Int} (h : MapC w b n ids) (x : Int) (hx : (Lit.int .i64 x).wf = true) (hn : n < 2000000) (hl : ids.length ≤ 2000000) (c : Int) (hc : c = ((ids.count x : Nat) : Int) + 1) :
    ∃ w', (Instr.mapUpdate 86 (.map (some b)) (.int .i64 x) (.int .i64 c)).run Tryd.prog w = .ok () w' ∧ MapC w' b (n + 1) (ids ++ [x]) ∧ w.grownBy w' (some b) := by
  obtain ⟨D, h1, h2, h3⟩ := h
  have hcl : ids.count x ≤ ids.length := List.count_le_length
  obtain ⟨w', hrun, hown, hg⟩ := h1.update law3 Tryd.underlying86 (by unfold maxLen; omega) (key := .int .i64 x) (val := .int .i64 c) (keyOf_int_mk Tryd.underlying3 hx) (plainElem_int Tryd.underlying3 (wfI.2 (by omega)))
  refine ⟨w', hrun, ⟨_, hown, h2.put _ _, fun y hy => ?_⟩, hg⟩
  by_cases e : y = x
  · subst e
    rw [atKey_put_same h2 (law3.key (keyOf_int_mk Tryd.underlying3 hx)), hc]
    simp [List.count_append]
  · rw [atKey_put_other (by simp only [ne_eq, Lit.int.injEq, true_and]; exact e), h3 y hy]
    simp [List.count_append, Ne.symm e]
theorem lookup_law {ops : Array Oper} {rest : List Oper} {o : Oper} {a : Act} {Q : Exit → Act → World → Prop} {w : World} (hg : o.guard = none) (m x : Operand) (hop : o.op = Op.lookup 86 m x false) {b n : Nat} {ids : List Int} (H : MapC w b n ids) (hm : a.eval m = .map (some b)) (key : Int) (hx : a.eval x = .int .i64 key) (hw : (Lit.int .i64 key).wf = true) (cn : Int) (hcn : ((ids.count key : Nat) : Int) = cn)
    (hK : wpList Tryd.prog ops Q rest (a.put o.dst (.int .i64 cn)) w) : wpList Tryd.prog ops Q (o :: rest) a w := by
  refine wpList_plain hg fun K' hK' => ?_
  have hrun := H.lookup key hw
  rw [hcn] at hrun
  unfold Oper.wp
  simp [execOp, hop, hm, hx, hrun, Result.andThen]
  exact hK' _ _ hK
theorem update_law {ops : Array Oper} {rest : List Oper} {o : Oper} {a : Act} {Q : Exit → Act → World → Prop} {w : World} (hg : o.guard = none) (m x v : Operand) (hop : o.op = Op.mapUpdate 86 m x v) {b n : Nat} {ids : List Int} (H : MapC w b n ids) (hm : a.eval m = .map (some b)) (key : Int) (hx : a.eval x = .int .i64 key) (hw : (Lit.int .i64 key).wf = true) (c : Int) (hv : a.eval v = .int .i64 c) (hn : n < 2000000) (hl : ids.length ≤ 2000000) (hc : c = ((ids.count key : Nat) : Int) + 1)
    (hK : ∀ w', MapC w' b (n + 1) (ids ++ [key]) → w.grownBy w' (some b) → wpList Tryd.prog ops Q rest (a.put o.dst undef) w') : wpList Tryd.prog ops Q (o :: rest) a w := by
  refine wpList_plain hg fun K' hK' => ?_
  obtain ⟨w', hrun, r1, r2⟩ := H.update key hw hn hl c hc
  unfold Oper.wp
  simp [execOp, hop, hm, hx, hv, hrun, Result.andThen]
  exact hK' _ _ (hK w' r1 r2)
/-- the loop's relation -/
structure OpAt (w : World) (xs : List Mk) (mb : Nat) (k : Nat) (v4 v14 : Value) (wr : World) : Prop where
  st : ∃ i : Nat, v14 = .int .i64 i ∧ i + k = xs.length ∧ v4 = .bool (okTo xs i) ∧ MapC wr mb i ((xs.take i).map (·.f0))
  bel : Below w.heap.size w wr
/-- opensTable: a table of its own, and an error of the code 1 where what came in is none -/
def OpenedT (w : World) (xs : List Mk) (e : Ending) (w' : World) : Prop :=
  Below w.heap.size w w' ∧ ∃ tb v E, e = .returned (.tuple #[.pointer (some ⟨tb, 0, none⟩), E]) ∧ TB w' w.heap.size tb v xs ∧ ((okTab xs = true ∧ E = .nilIface) ∨ (okTab xs = false ∧ ErrIs w' E 1))
end Go.Proofs.YtefdjajmnkmbgaaDoor
