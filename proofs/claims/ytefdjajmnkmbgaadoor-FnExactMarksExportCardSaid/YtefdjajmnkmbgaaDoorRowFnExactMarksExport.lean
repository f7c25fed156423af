/- The row of the law FnExactMarksExport: for every input it tells true, and its arguments read as before; and its tied card. Condition: the library's tables read as laid (tied to the program's text). -/
import Derived.Test.YtefdjajmnkmbgaaDoorRows
import Derived.Test.YtefdjajmnkmbgaaDoorTie
import Derived.Test.YtefdjajmnkmbgaaDoorCards
import Derived.Test.YtefdjajmnkmbgaaDoorQFnExactMarksExportx2
import Derived.Test.YtefdjajmnkmbgaaDoorPureFnExactMarksExport
import Derived.Test.YtefdjajmnkmbgaaDoorWSized
import Derived.WalkKit
import Derived.ProofKit
import Derived.OpenShut
import Derived.ShutString
import Derived.ChangeOld
import Derived.Below
import Derived.SizedLaws
import Derived.ChangeSame
import Derived.ChangeVars
import Derived.JoinedOf
import Derived.RowKit
import Derived.RowKitTokens
import Derived.LaidLaws
import Derived.LaidHandle
import Derived.Stop.Joined
import Derived.LaidMore
import Derived.Lib.LaidTab
import Derived.LaidSub
import Derived.Lay
import Derived.MakeChecks
import Derived.SevenTiedAt
import Derived.Lib.SmallJoins
import Derived.Deep.Slices
import Derived.ChangeArms
namespace Go.Proofs.YtefdjajmnkmbgaaDoor.fnExactMarksExport
open Go.ChangeShapes Go.WideShapes Go.ChangeAt Go.RowKit Go.Joins Go.Deep Go.Proofs.YtefdjajmnkmbgaaDoorW.PrintWords
open Go.ChangeMaps (open_string shut_string)
set_option linter.unusedVariables false
set_option linter.unusedSimpArgs false
theorem own : ownKnob Tryd.prog.godebug = none := by kernel_rfl
theorem laidOut : laidOutB Tryd.prog = true := by kernel_rfl
def laid : List (String × DataW Unit) := [("math/bits.deBruijn32tab", Rows.laid_math_bits_deBruijn32tab), ("math/bits.deBruijn64tab", Rows.laid_math_bits_deBruijn64tab), ("internal/strconv.uint64pow10", Rows.laid_internal_strconv_uint64pow10)]
theorem plain : (laid.all fun x => x.2.handleName?.isNone) = true := by kernel_rfl
theorem only : (laid.filter fun x => x.1 == "internal/strconv.uint64pow10") = [("internal/strconv.uint64pow10", Lib.tabData .u64 Lib.pow10Tab)] := by kernel_rfl
theorem hg_of_laid {W : World} (h : laidMetH Tryd.prog laid W) : Ht.HG W := by
  rw [MakeChecks.laidMetH_plain _ _ _ plain] at h
  have h2 := h.filter (fun x => x.1 == "internal/strconv.uint64pow10")
  rw [only] at h2
  exact Lib.tabIs_of_head (g := 1) (t := 145) (e := 85) (n := 20) (by kernel_rfl) (by kernel_rfl) (by kernel_rfl) (by kernel_rfl) (by kernel_rfl) (by kernel_rfl) h2
noncomputable def laidWorld (os : Os) : World := World.laidAll Tryd.prog os laid
theorem laidWorld_met (os : Os) (args : Array Value) : laidMetH Tryd.prog laid ((laidWorld os).forCall (fun _ _ => 0) ⟨#[], args, []⟩).memory := by
  rw [MakeChecks.laidMetH_plain _ _ _ plain]
  exact laidMet_laidAll args (by kernel_rfl) (by kernel_rfl)
def IsRow (k : IntKind) (w : World) (a : Option Addr) (len cap : Nat) (zs : List Int) : Prop :=
  (a = none ∧ len = 0 ∧ cap = 0 ∧ zs = []) ∨
  ∃ x, a = some x ∧ len ≤ cap ∧ cap ≤ maxLen ∧ zs.length = cap ∧ (∀ i, i < zs.length → w.cell? (x.add i) = some (.int k (zs.getD i 0))) ∧ ∀ n ∈ zs, (Lit.int k n).wf = true
def w_ (W : World) (base : Nat) (a : Addr) (n : Nat) (cs : List Value) : Prop := W.cells? base a n = some cs
theorem trodC {α : Type} {H : Type} {enc : TypeId × Value → H} {P : Program} {W : World} {base : Nat} {spare : Nat → Bool} {held : Bool} {fuel : Nat} {t e : TypeId} {cs : List Value} {x : DataW H × List MemPlace} (hu : P.underlying t = some (.slice e)) (d : Kd α) (hC : P.cellsOf e = d.sz)
    (hE : ∀ n cs x, DataW.trod enc P W base spare held n e cs = some x → ∃ p, d.K W p cs) (h : DataW.trod enc P W base spare held fuel t cs = some x) :
    ∃ A_ len c_ xs, cs = [.slice A_ len c_] ∧ len = List.length xs ∧ xs.length ≤ c_ ∧ xs.length ≤ 9223372036854775807 ∧ d.C W A_ xs.length xs := by
  rcases open_slice hu h with ⟨h0, _⟩ | ⟨a, len, cap, m, n, D, Pl, hcs, hb, hl, hm, hmm, hx, hi⟩
  · exact ⟨none, 0, 0, [], h0, rfl, Nat.le_refl _, by simp, Kd.C_nil d W⟩
  · have hlm : len ≤ m := by rw [hmm]; split <;> omega
    have key : ∀ i, i < len → ∃ p : α, ∃ cs', w_ W base (a.add (i * d.sz)) d.sz cs' ∧ d.K W p cs' := by
      intro i hil
      obtain ⟨cs', hc, ht⟩ := hi i (by omega)
      obtain ⟨p, hp⟩ := hE _ _ _ ht
      rw [hC] at hc
      exact ⟨p, cs', hc, hp⟩
    have hmx : len ≤ 9223372036854775807 := by unfold maxLen at hm; omega
    by_cases h0 : len = 0
    · subst h0
      refine ⟨some a, 0, cap, [], hcs, rfl, Nat.zero_le _, by simp, rfl, by simp, fun h => by simp at h⟩
    · obtain ⟨p0, _⟩ := key 0 (by omega)
      haveI : Inhabited α := ⟨p0⟩
      obtain ⟨f, hf⟩ := choose_lt key
      refine ⟨some a, len, cap, (List.range len).map f, hcs, by simp, by simpa using hl, by simpa using hmx, rfl, by simpa using hmx, fun _ => ⟨a, rfl, fun j p hj => ?_⟩⟩
      have hjl : j < len := by
        have := (List.getElem?_eq_some_iff.1 hj).1
        simpa using this
      have hp : p = f j := by
        rw [List.getElem?_map, List.getElem?_range hjl] at hj
        exact (Option.some.inj hj).symm
      obtain ⟨cs', hc, hk⟩ := hf j hjl
      obtain ⟨_, hlen, hat⟩ := World.cells?_some hc
      refine ⟨cs', hlen, by rw [hp]; exact hk, fun i u hu2 => ?_⟩
      have hil : i < d.sz := by
        have := (List.getElem?_eq_some_iff.1 hu2).1
        omega
      rw [← Deep.add_add, hat i hil]; exact hu2
theorem trodQ {α : Type} {H : Type} {enc : TypeId × Value → H} {P : Program} {W : World} {base : Nat} {spare : Nat → Bool} {held : Bool} {fuel : Nat} {t e : TypeId} {cs : List Value} {x : DataW H × List MemPlace} (hu : P.underlying t = some (.slice e)) (d : Kd α) (Q_ : α → Prop) (hC : P.cellsOf e = d.sz)
    (hE : ∀ n cs x, DataW.trod enc P W base spare held n e cs = some x → ∃ p, d.K W p cs ∧ Q_ p) (h : DataW.trod enc P W base spare held fuel t cs = some x) :
    ∃ A_ len c_ xs, cs = [.slice A_ len c_] ∧ len = List.length xs ∧ xs.length ≤ c_ ∧ xs.length ≤ 9223372036854775807 ∧ d.C W A_ xs.length xs ∧ ∀ p ∈ xs, Q_ p := by
  rcases open_slice hu h with ⟨h0, _⟩ | ⟨a, len, cap, m, n, D, Pl, hcs, hb, hl, hm, hmm, hx, hi⟩
  · exact ⟨none, 0, 0, [], h0, rfl, Nat.le_refl _, by simp, Kd.C_nil d W, fun _ h => by cases h⟩
  · have hlm : len ≤ m := by rw [hmm]; split <;> omega
    have key : ∀ i, i < len → ∃ p : α, ∃ cs', w_ W base (a.add (i * d.sz)) d.sz cs' ∧ d.K W p cs' ∧ Q_ p := by
      intro i hil
      obtain ⟨cs', hc, ht⟩ := hi i (by omega)
      obtain ⟨p, hp, hq⟩ := hE _ _ _ ht
      rw [hC] at hc
      exact ⟨p, cs', hc, hp, hq⟩
    have hmx : len ≤ 9223372036854775807 := by unfold maxLen at hm; omega
    by_cases h0 : len = 0
    · subst h0
      refine ⟨some a, 0, cap, [], hcs, rfl, Nat.zero_le _, by simp, ⟨rfl, by simp, fun h => by simp at h⟩, fun _ h => by cases h⟩
    · obtain ⟨p0, _⟩ := key 0 (by omega)
      haveI : Inhabited α := ⟨p0⟩
      obtain ⟨f, hf⟩ := choose_lt key
      refine ⟨some a, len, cap, (List.range len).map f, hcs, by simp, by simpa using hl, by simpa using hmx, ⟨rfl, by simpa using hmx, fun _ => ⟨a, rfl, fun j p hj => ?_⟩⟩, fun p hp => ?_⟩
      · have hjl : j < len := by
          have := (List.getElem?_eq_some_iff.1 hj).1
          simpa using this
        have hp : p = f j := by
          rw [List.getElem?_map, List.getElem?_range hjl] at hj
          exact (Option.some.inj hj).symm
        obtain ⟨cs', hc, hk, _⟩ := hf j hjl
        obtain ⟨_, hlen, hat⟩ := World.cells?_some hc
        refine ⟨cs', hlen, by rw [hp]; exact hk, fun i u hu2 => ?_⟩
        have hil : i < d.sz := by
          have := (List.getElem?_eq_some_iff.1 hu2).1
          omega
        rw [← Deep.add_add, hat i hil]; exact hu2
      · obtain ⟨i, hi2, rfl⟩ := List.mem_map.1 hp
        obtain ⟨_, _, _, hq⟩ := hf i (List.mem_range.1 hi2)
        exact hq
theorem cells61 : Tryd.prog.cellsOf 61 = 3 := by kernel_rfl
theorem list3 {l : List Value} (h : l.length = 3) : ∃ b0 b1 b2, l = [b0, b1, b2] := by
  match l, h with
  | [b0, b1, b2], _ => exact ⟨b0, b1, b2, rfl⟩
def qq61 (p : QFnExactMarksExport.S61) : Prop := (Lit.int .i64 p.f0).wf = true ∧ (Lit.int .i64 p.f1).wf = true ∧ (Lit.int .i64 p.f2).wf = true
theorem cells3 : Tryd.prog.cellsOf 3 = 1 := by kernel_rfl
set_option maxRecDepth 100000 in
theorem trodKQ_61 {H : Type} {enc : TypeId × Value → H} {W : World} {base : Nat} {spare : Nat → Bool} {held : Bool} {fuel : Nat} {cs : List Value} {x : DataW H × List MemPlace} (h : DataW.trod enc Tryd.prog W base spare held fuel 61 cs = some x) : ∃ p : QFnExactMarksExport.S61, QFnExactMarksExport.k61.K W p cs ∧ qq61 p := by
  obtain ⟨xs, n, _, _, hl, hx, hf⟩ := DataW.trod_struct Tryd.underlying61 h
  rw [cells61] at hl
  obtain ⟨c0, c1, c2, rfl⟩ := list3 hl
  have h0 := hf 0 _ rfl
  obtain ⟨y0, hy0⟩ : ∃ y, xs[0]? = some y := ⟨_, List.getElem?_eq_getElem (by rw [hx]; decide)⟩
  rw [hy0] at h0
  try simp only [cells3, List.drop_zero, List.drop_succ_cons, List.take_succ_cons, List.take_zero] at h0
  obtain ⟨p0, k0, _, w0⟩ := DataW.trod_int (cs := [c0]) Tryd.underlying3 h0
  have h1 := hf 1 _ rfl
  obtain ⟨y1, hy1⟩ : ∃ y, xs[1]? = some y := ⟨_, List.getElem?_eq_getElem (by rw [hx]; decide)⟩
  rw [hy1] at h1
  try simp only [cells3, List.drop_zero, List.drop_succ_cons, List.take_succ_cons, List.take_zero] at h1
  obtain ⟨p1, k1, _, w1⟩ := DataW.trod_int (cs := [c1]) Tryd.underlying3 h1
  have h2 := hf 2 _ rfl
  obtain ⟨y2, hy2⟩ : ∃ y, xs[2]? = some y := ⟨_, List.getElem?_eq_getElem (by rw [hx]; decide)⟩
  rw [hy2] at h2
  try simp only [cells3, List.drop_zero, List.drop_succ_cons, List.take_succ_cons, List.take_zero] at h2
  obtain ⟨p2, k2, _, w2⟩ := DataW.trod_int (cs := [c2]) Tryd.underlying3 h2
  exact ⟨⟨p0, p1, p2⟩, ⟨[c0], [c1, c2], rfl, k0, ⟨[c1], [c2], rfl, k1, k2⟩⟩, ⟨w0, w1, w2⟩⟩
set_option maxRecDepth 100000 in
theorem lifted (os : Os) (started : os.Started) (H : Type) (enc : TypeId × Value → H) :
    ReturnsInHanded {} Tryd.checked os 3 .any (fun w args => (Rows.fnExactMarksExportSpec.pre enc Tryd.prog Tryd.f3 [] false w args ∧ laidMetH Tryd.prog laid w) ∧ sizedMet enc Tryd.prog Tryd.f3 (OpenSpec.ofChange Rows.fnExactMarksExportSpec) false w args)
      (Rows.fnExactMarksExportSpec.post enc Tryd.prog Tryd.f3 false true false false) := by
  refine returnsInHanded_of_change_and (C := Tryd.checked) (X := fun w _ => laidMetH Tryd.prog laid w) (fun _ _ _ hh h => h.of_heap hh) own started (by kernel_rfl) Tryd.func3
    (ChangeSpec.witness_at (enc := enc) (C := Tryd.checked) (os := os) (X := fun w _ => laidMetH Tryd.prog laid w) false (laidWorld os) #[.slice none 0 0] 8 rfl (by kernel_rfl) (by kernel_rfl) (by kernel_rfl) (by kernel_rfl) (by kernel_rfl) (laidWorld_met os _)) ?_
  intro W base args ds gs before hval0 hW _ _ hL _
  have hval : ∀ (j : Nat) t v, Tryd.f3.params[j]? = some t → args[j]? = some v → Value.okWide Tryd.prog W .any base t v := hval0
  have hW' := hW
  obtain ⟨p, q, hA0, hV0, rfl, hfz, hnd⟩ := hW
  have hA : DataW.TrodAll enc Tryd.prog W 0 (fun _ => true) true Tryd.f3.params.toList args.toList ds p := hA0
  have hV : DataW.TrodVars enc Tryd.prog W (fun _ => true) [] gs q := hV0
  rw [Tryd.params3] at hA hval
  obtain ⟨v0, vs0, d0, ds0, p0, q0, hargs, rfl, rfl, h0, r0⟩ := trodAll_cons hA
  obtain ⟨rfl, rfl, rfl⟩ := trodAll_nil r0
  obtain rfl : args = #[v0] := by cases args; simp_all
  obtain ⟨rfl, rfl⟩ := trodVars_none hV
  have k0 := h0
  have lt0 : ∀ x ∈ p0, x.block < W.heap.size := by obtain ⟨m, hm⟩ := k0; exact DataW.trod_lt m _ _ _ hm
  obtain ⟨a0, len0, cap0, rfl⟩ := okWide_slice Tryd.underlying22 (hval 0 22 v0 rfl rfl)
  obtain ⟨fu0, hfu0⟩ := h0
  obtain ⟨A0, n0, c0, l0, el0, rfl, hc0, hm0, hr0, hw0⟩ := trodQ (cs := [.slice a0 len0 cap0]) Tryd.underlying22 QFnExactMarksExport.k61 qq61 (cells61.trans rfl) (fun n cs x h => trodKQ_61 h) hfu0
  obtain ⟨rfl, rfl, rfl⟩ : a0 = A0 ∧ len0 = l0.length ∧ cap0 = c0 := by simpa using el0
  have hg := hg_of_laid hL
  obtain ⟨k, hk⟩ := PureFnExactMarksExport.law l0 hm0 (fun m hm => bounds_i64 (hw0 m hm).1)
  clear hA0 hval0
  refine (QFnExactMarksExport.laws_FnExactMarksExport.calls k _ _ l0 true W hr0 hc0 hg hk).mono fun e W' ⟨he, bel⟩ => ?_
  subst he
  exact ⟨_, rfl, _, _, _, [], _, [], hW', trodAll_mk1 (shut_bool Tryd.underlying4 _), (trodAll_cons_mk (Below.trod laidOut (by kernel_rfl) (of_decide_eq_true (by kernel_rfl)) k0 bel lt0) trodAll_mk0), rfl, bel.frame _, fun h => by cases h⟩
theorem over : Rows.fnExactMarksExportRow.holds Tryd.pinned (OpenSpec.ofChange Rows.fnExactMarksExportSpec) :=
  OpenClaim.holds_of_wide 3 Tryd.f3 rfl rfl rfl rfl rfl rfl rfl ⟨rfl, rfl, rfl, rfl, rfl⟩ rfl rfl rfl rfl rfl (by kernel_rfl) Tryd.func3 (by kernel_rfl)
    (of_decide_eq_true (by kernel_rfl)) (by unfold Func.isWrapper; first | (rw [if_pos (by decide +kernel)]; kernel_rfl) | (rw [if_neg (by decide +kernel)]; exact ⟨rfl, rfl⟩))
    (fun os started H enc _ => lifted os started H enc)
theorem card : Rows.FnExactMarksExportCardSaid :=
  Claim7.holds_tied_plain_at .later [] [.data, .data, .data] true (true, "4d6386ec17bb61bb766ad71e4c9e02cf66f233e011bd747acd12ba96528466cc") true
    over (fun _ h => by cases h) (by kernel_rfl) (fun _ h => by cases h) fnExactMarksExport_row_tie rfl ⟨rfl, rfl⟩ (by kernel_rfl) rfl
    (fun f fn hf hfn => by
      obtain rfl : f = 3 := Option.some.inj ((show Tryd.prog.funcNamed "loop.example/s01685/laws.FnExactMarksExport" = some 3 by kernel_rfl).symm.trans hf) |>.symm
      obtain rfl : fn = Tryd.f3 := (Option.some.inj (Tryd.func3.symm.trans hfn)).symm
      exact ⟨by kernel_rfl, fun j t ht => by
        rw [Tryd.params3] at ht
        have hm : t ∈ [22] := by simpa using Array.mem_of_getElem? ht
        have hall : ([22].all fun u => !Tryd.prog.wantsStandIn u) = true := by kernel_rfl
        exact (show Tryd.prog.wantsStandIn t = false by simpa using List.all_eq_true.1 hall t hm)⟩)
    (by kernel_rfl)
#print axioms card
end Go.Proofs.YtefdjajmnkmbgaaDoor.fnExactMarksExport
namespace Go.Proofs.YtefdjajmnkmbgaaDoor
/-- The tied card, under a short name, for the claim. -/
theorem fnExactMarksExport_holds : Rows.FnExactMarksExportCardSaid := fnExactMarksExport.card
end Go.Proofs.YtefdjajmnkmbgaaDoor
