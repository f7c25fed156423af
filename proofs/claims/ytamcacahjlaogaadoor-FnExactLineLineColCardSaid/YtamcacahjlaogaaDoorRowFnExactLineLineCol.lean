/- The row of the law FnExactLineLineCol: for every input it tells true, and its arguments read as before; and its tied card. Condition: errors.errorType reads as laid (tied to the program's text). -/
import Derived.Test.YtamcacahjlaogaaDoorRows
import Derived.Test.YtamcacahjlaogaaDoorTie
import Derived.Test.YtamcacahjlaogaaDoorCards
import Derived.Test.YtamcacahjlaogaaDoorLwC
import Derived.Test.YtamcacahjlaogaaDoorEr0
import Derived.ChangeSlices
import Derived.WalkKit
import Derived.ProofKit
import Derived.OpenShut
import Derived.ShutString
import Derived.ChangeOld
import Derived.Below
import Derived.SizedLaws
import Derived.ChangeSame
import Derived.ChangeVars
import Derived.JoinedOf
import Derived.RowKit
import Derived.RowKitTokens
import Derived.LaidLaws
import Derived.LaidHandle
import Derived.Stop.Joined
import Derived.LaidMore
import Derived.SevenTiedAt
import Derived.Lib.SmallJoins
import Derived.Deep.Slices
import Derived.ChangeArms
namespace Go.Proofs.YtamcacahjlaogaaDoor.fnExactLineLineCol
open Go.ChangeShapes Go.WideShapes Go.ChangeAt Go.RowKit Go.Joins Go.Deep Go.Proofs.YtamcacahjlaogaaDoorW.PrintWords
open Go.ChangeMaps (open_string shut_string)
set_option linter.unusedVariables false
set_option linter.unusedSimpArgs false
theorem own : ownKnob Tryd.prog.godebug = none := by kernel_rfl
theorem laidOut : laidOutB Tryd.prog = true := by kernel_rfl
theorem gv : Tryd.prog.globalNamed "errors.errorType" = some 0 := by kernel_rfl
theorem rt : (Tryd.prog.cutTypes.find? (·.1 == "internal/reflectlite.rtype")).map (·.2) = some 139 := by kernel_rfl
theorem oneRow : ((List.range 183).filter fun t => Tryd.prog.rowNamed t [101, 114, 114, 111, 114]) = [53] := by kernel_rfl
theorem size : Tryd.prog.types.size = 183 := by kernel_rfl
def laid : List (String × DataW Unit) := [("errors.errorType", Rows.laid_errors_errorType)]
theorem hg_of_laid {W : World} (h : laidMetH Tryd.prog laid W) : Er.HG W := by
 have h' : laidMet Tryd.prog [] W ∧ handlesMet Tryd.prog laid W := h
 obtain ⟨name, u, ty, e1, e2, e3, e4, e5⟩ := h'.2 _ (List.mem_singleton.2 rfl)
 have en : name = [101, 114, 114, 111, 114] := (Option.some.inj e1).symm
 subst en
 obtain rfl := Option.some.inj (rt.symm.trans e2)
 have hm : ty ∈ (List.range 183).filter fun t => Tryd.prog.rowNamed t [101, 114, 114, 111, 114] := List.mem_filter.2 ⟨List.mem_range.2 (by rw [← size]; exact e3), e4⟩
 rw [oneRow] at hm
 obtain rfl := List.mem_singleton.1 hm
 have hh : typeHandle Tryd.prog 53 = .pointer (some ⟨1, 53, none⟩) := by kernel_rfl
 rw [hh] at e5
 unfold Er.HG
 simpa using World.var?_cell gv e5 0
noncomputable def laidWorld (os : Os) : World :=
 let w0 := World.holding Tryd.prog os ⟨#[], #[], []⟩
 { w0 with heap := w0.heap.modify 0 fun
   | .cells _ t frozen => .cells #[.iface 139 (.agg #[.pointer (some ⟨1, 53, none⟩)])] t frozen
   | o => o }
theorem laidWorld_met (os : Os) (args : Array Value) : laidMetH Tryd.prog laid ((laidWorld os).forCall (fun _ _ => 0) ⟨#[], args, []⟩).memory :=
 laidMetH_of_parts (laidMet_nil _ _) (by kernel_rfl)
def IsRow (k : IntKind) (w : World) (a : Option Addr) (len cap : Nat) (zs : List Int) : Prop :=
 (a = none ∧ len = 0 ∧ cap = 0 ∧ zs = []) ∨
 ∃ x, a = some x ∧ len ≤ cap ∧ cap ≤ maxLen ∧ zs.length = cap ∧ (∀ i, i < zs.length → w.cell? (x.add i) = some (.int k (zs.getD i 0))) ∧ ∀ n ∈ zs, (Lit.int k n).wf = true
def w_ (W : World) (base : Nat) (a : Addr) (n : Nat) (cs : List Value) : Prop := W.cells? base a n = some cs
theorem trodC {α : Type} {H : Type} {enc : TypeId × Value → H} {P : Program} {W : World} {base : Nat} {spare : Nat → Bool} {held : Bool} {fuel : Nat} {t e : TypeId} {cs : List Value} {x : DataW H × List MemPlace} (hu : P.underlying t = some (.slice e)) (d : Kd α) (hC : P.cellsOf e = d.sz)
  (hE : ∀ n cs x, DataW.trod enc P W base spare held n e cs = some x → ∃ p, d.K W p cs) (h : DataW.trod enc P W base spare held fuel t cs = some x) :
  ∃ A_ len c_ xs, cs = [.slice A_ len c_] ∧ len = List.length xs ∧ xs.length ≤ c_ ∧ xs.length ≤ 9223372036854775807 ∧ d.C W A_ xs.length xs := by
 rcases open_slice hu h with ⟨h0, _⟩ | ⟨a, len, cap, m, n, D, Pl, hcs, hb, hl, hm, hmm, hx, hi⟩
 ·exact ⟨none, 0, 0, [], h0, rfl, Nat.le_refl _, by simp, Kd.C_nil d W⟩
 ·have hlm : len ≤ m := by rw [hmm]; split <;> omega
  have key : ∀ i, i < len → ∃ p : α, ∃ cs', w_ W base (a.add (i * d.sz)) d.sz cs' ∧ d.K W p cs' := by
   intro i hil
   obtain ⟨cs', hc, ht⟩ := hi i (by omega)
   obtain ⟨p, hp⟩ := hE _ _ _ ht
   rw [hC] at hc
   exact ⟨p, cs', hc, hp⟩
  have hmx : len ≤ 9223372036854775807 := by unfold maxLen at hm; omega
  by_cases h0 : len = 0
  ·subst h0
   refine ⟨some a, 0, cap, [], hcs, rfl, Nat.zero_le _, by simp, rfl, by simp, fun h => by simp at h⟩
  ·obtain ⟨p0, _⟩ := key 0 (by omega)
   haveI : Inhabited α := ⟨p0⟩
   obtain ⟨f, hf⟩ := choose_lt key
   refine ⟨some a, len, cap, (List.range len).map f, hcs, by simp, by simpa using hl, by simpa using hmx, rfl, by simpa using hmx, fun _ => ⟨a, rfl, fun j p hj => ?_⟩⟩
   have hjl : j < len := by
    have := (List.getElem?_eq_some_iff.1 hj).1
    simpa using this
   have hp : p = f j := by
    rw [List.getElem?_map, List.getElem?_range hjl] at hj
    exact (Option.some.inj hj).symm
   obtain ⟨cs', hc, hk⟩ := hf j hjl
   obtain ⟨_, hlen, hat⟩ := World.cells?_some hc
   refine ⟨cs', hlen, by rw [hp]; exact hk, fun i u hu2 => ?_⟩
   have hil : i < d.sz := by
    have := (List.getElem?_eq_some_iff.1 hu2).1
    omega
   rw [← Deep.add_add, hat i hil]; exact hu2
theorem trodK_21 {H : Type} {enc : TypeId × Value → H} {W : World} {base : Nat} {spare : Nat → Bool} {held : Bool} {fuel : Nat} {cs : List Value} {x : DataW H × List MemPlace} (h : DataW.trod enc Tryd.prog W base spare held fuel 21 cs = some x) : ∃ p : Int, (Kd.int .i32).K W p cs := by
 obtain ⟨n, e, _⟩ := DataW.trod_int Tryd.underlying21 h
 exact ⟨n, e⟩
theorem cells21 : Tryd.prog.cellsOf 21 = 1 := by kernel_rfl
theorem trodK_44 {H : Type} {enc : TypeId × Value → H} {W : World} {base : Nat} {spare : Nat → Bool} {held : Bool} {fuel : Nat} {cs : List Value} {x : DataW H × List MemPlace} (h : DataW.trod enc Tryd.prog W base spare held fuel 44 cs = some x) : ∃ p : (List Int), (Kd.slice 21 (Kd.int .i32)).K W p cs := by
 obtain ⟨A_, len, c_, xs, rfl, rfl, hc, hm, hC⟩ := trodC Tryd.underlying44 (Kd.int .i32) (cells21.trans rfl) (fun n cs x h => trodK_21 h) h
 exact ⟨xs, A_, c_, rfl, hc, hC⟩
theorem cells44 : Tryd.prog.cellsOf 44 = 1 := by kernel_rfl
theorem trodK_3 {H : Type} {enc : TypeId × Value → H} {W : World} {base : Nat} {spare : Nat → Bool} {held : Bool} {fuel : Nat} {cs : List Value} {x : DataW H × List MemPlace} (h : DataW.trod enc Tryd.prog W base spare held fuel 3 cs = some x) : ∃ p : Int, (Kd.int .i64).K W p cs := by
 obtain ⟨n, e, _⟩ := DataW.trod_int Tryd.underlying3 h
 exact ⟨n, e⟩
theorem cells3 : Tryd.prog.cellsOf 3 = 1 := by kernel_rfl
theorem cells75 : Tryd.prog.cellsOf 75 = 3 := by kernel_rfl
theorem list3 {l : List Value} (h : l.length = 3) : ∃ b0 b1 b2, l = [b0, b1, b2] := by
 match l, h with
 | [b0, b1, b2], _ => exact ⟨b0, b1, b2, rfl⟩
set_option maxRecDepth 100000 in
theorem trodK_75 {H : Type} {enc : TypeId × Value → H} {W : World} {base : Nat} {spare : Nat → Bool} {held : Bool} {fuel : Nat} {cs : List Value} {x : DataW H × List MemPlace} (h : DataW.trod enc Tryd.prog W base spare held fuel 75 cs = some x) : ∃ p : QBaseL.S75, QBaseL.k75.K W p cs := by
 obtain ⟨xs, n, _, _, hl, hx, hf⟩ := DataW.trod_struct Tryd.underlying75 h
 rw [cells75] at hl
 obtain ⟨c0, c1, c2, rfl⟩ := list3 hl
 have h0 := hf 0 _ rfl
 obtain ⟨y0, hy0⟩ : ∃ y, xs[0]? = some y := ⟨_, List.getElem?_eq_getElem (by rw [hx]; decide)⟩
 rw [hy0] at h0
 try simp only [cells44, List.drop_zero, List.drop_succ_cons, List.take_succ_cons, List.take_zero] at h0
 obtain ⟨p0, k0⟩ := trodK_44 (cs := [c0]) h0
 have h1 := hf 1 _ rfl
 obtain ⟨y1, hy1⟩ : ∃ y, xs[1]? = some y := ⟨_, List.getElem?_eq_getElem (by rw [hx]; decide)⟩
 rw [hy1] at h1
 try simp only [cells3, List.drop_zero, List.drop_succ_cons, List.take_succ_cons, List.take_zero] at h1
 obtain ⟨p1, k1⟩ := trodK_3 (cs := [c1]) h1
 have h2 := hf 2 _ rfl
 obtain ⟨y2, hy2⟩ : ∃ y, xs[2]? = some y := ⟨_, List.getElem?_eq_getElem (by rw [hx]; decide)⟩
 rw [hy2] at h2
 try simp only [cells3, List.drop_zero, List.drop_succ_cons, List.take_succ_cons, List.take_zero] at h2
 obtain ⟨p2, k2⟩ := trodK_3 (cs := [c2]) h2
 exact ⟨⟨p0, p1, p2⟩, ⟨[c0], [c1, c2], rfl, k0, ⟨[c1], [c2], rfl, k1, k2⟩⟩⟩
theorem cells22 : Tryd.prog.cellsOf 22 = 1 := by kernel_rfl
theorem cells23 : Tryd.prog.cellsOf 23 = 1 := by kernel_rfl
theorem cells25 : Tryd.prog.cellsOf 25 = 2 := by kernel_rfl
theorem list2 {l : List Value} (h : l.length = 2) : ∃ b0 b1, l = [b0, b1] := by
 match l, h with
 | [b0, b1], _ => exact ⟨b0, b1, rfl⟩
set_option maxRecDepth 100000 in
theorem lifted (os : Os) (started : os.Started) (H : Type) (enc : TypeId × Value → H) :
  ReturnsInHanded {} Tryd.checked os 3 .any (fun w args => (Rows.fnExactLineLineColSpec.pre enc Tryd.prog Tryd.f3 [] false w args ∧ laidMetH Tryd.prog laid w) ∧ sizedMet enc Tryd.prog Tryd.f3 (OpenSpec.ofChange Rows.fnExactLineLineColSpec) false w args)
   (Rows.fnExactLineLineColSpec.post enc Tryd.prog Tryd.f3 false true false false) := by
 refine returnsInHanded_of_change_and (C := Tryd.checked) (X := fun w _ => laidMetH Tryd.prog laid w) (fun _ _ _ hh h => h.of_heap hh) own started (by kernel_rfl) Tryd.func3
  (ChangeSpec.witness_at (enc := enc) (C := Tryd.checked) (os := os) (X := fun w _ => laidMetH Tryd.prog laid w) false (laidWorld os) #[.agg #[.slice none 0 0, .slice none 0 0], .int .i64 0] 8 rfl (by kernel_rfl) (by kernel_rfl) (by kernel_rfl) (by kernel_rfl) (by kernel_rfl) (laidWorld_met os _)) ?_
 intro W base args ds gs before hval0 hW _ _ hL _
 have hval : ∀ (j : Nat) t v, Tryd.f3.params[j]? = some t → args[j]? = some v → Value.okWide Tryd.prog W .any base t v := hval0
 have hW' := hW
 obtain ⟨p, q, hA0, hV0, rfl, hfz, hnd⟩ := hW
 have hA : DataW.TrodAll enc Tryd.prog W 0 (fun _ => true) true Tryd.f3.params.toList args.toList ds p := hA0
 have hV : DataW.TrodVars enc Tryd.prog W (fun _ => true) [] gs q := hV0
 rw [Tryd.params3] at hA hval
 obtain ⟨v0, vs0, d0, ds0, p0, q0, hargs, rfl, rfl, h0, r0⟩ := trodAll_cons hA
 obtain ⟨v1, vs1, d1, ds1, p1, q1, rfl, rfl, rfl, h1, r1⟩ := trodAll_cons r0
 obtain ⟨rfl, rfl, rfl⟩ := trodAll_nil r1
 obtain rfl : args = #[v0, v1] := by cases args; simp_all
 obtain ⟨rfl, rfl⟩ := trodVars_none hV
 have k0 := h0
 have lt0 : ∀ x ∈ p0, x.block < W.heap.size := by obtain ⟨m, hm⟩ := k0; exact DataW.trod_lt m _ _ _ hm
 obtain ⟨cs0, rfl, hcz0⟩ := okWide_struct Tryd.underlying25 (hval 0 25 v0 rfl rfl)
 obtain ⟨fu0, hfu0⟩ := h0
 obtain ⟨xs0, n0, _, _, hll0, hxl0, hff0⟩ := DataW.trod_struct Tryd.underlying25 hfu0
 rw [cells25] at hcz0
 obtain ⟨cl0⟩ := cs0
 obtain ⟨e0_0, e0_1, rfl⟩ := list2 (show cl0.length = 2 by simpa using hcz0)
 have g0_0 := hff0 0 _ rfl
 obtain ⟨yy0_0, hy0_0⟩ : ∃ y, xs0[0]? = some y := ⟨_, List.getElem?_eq_getElem (by rw [hxl0]; decide)⟩
 rw [hy0_0] at g0_0
 try simp only [Value.cells, cells22, List.drop_zero, List.drop_succ_cons, List.take_succ_cons, List.take_zero] at g0_0
 obtain ⟨A0_0, len0_0, c0_0, l0_0, el0_0, rfl, hc0_0, hm0_0, hr0_0⟩ := trodC (cs := [e0_0]) Tryd.underlying22 QBaseL.k75 (cells75.trans rfl) (fun n cs x h => trodK_75 h) g0_0
 obtain rfl : e0_0 = .slice A0_0 l0_0.length c0_0 := by simpa using el0_0
 have g0_1 := hff0 1 _ rfl
 obtain ⟨yy0_1, hy0_1⟩ : ∃ y, xs0[1]? = some y := ⟨_, List.getElem?_eq_getElem (by rw [hxl0]; decide)⟩
 rw [hy0_1] at g0_1
 try simp only [Value.cells, cells23, List.drop_zero, List.drop_succ_cons, List.take_succ_cons, List.take_zero] at g0_1
 obtain ⟨A0_1, len0_1, c0_1, l0_1, el0_1, rfl, hc0_1, hm0_1, hr0_1⟩ := trodC (cs := [e0_1]) Tryd.underlying23 (Kd.int .i64) (cells3.trans rfl) (fun n cs x h => trodK_3 h) g0_1
 obtain rfl : e0_1 = .slice A0_1 l0_1.length c0_1 := by simpa using el0_1
 have k1 := h1
 have lt1 : ∀ x ∈ p1, x.block < W.heap.size := by obtain ⟨m, hm⟩ := k1; exact DataW.trod_lt m _ _ _ hm
 obtain ⟨a1, rfl, rfl, rfl, w1⟩ := open_int Tryd.underlying3 (hval 1 3 v1 rfl rfl) h1
 have hg := hg_of_laid hL
 clear hA0 hval0
 have hin : ∀ x ∈ l0_0, x.f0.length ≤ 9223372036854775807 := fun x hx => by
  obtain ⟨i, hi, rfl⟩ := List.getElem_of_mem hx
  obtain ⟨ad, _, hcs⟩ := hr0_0.2.2 (by omega)
  obtain ⟨cs, _, hK, _⟩ := hcs i _ (List.getElem?_eq_getElem hi)
  obtain ⟨_, _, _, _, hC⟩ := QBaseL.k75_open hK
  exact hC.2.1
 refine (LP.lawLineLineCol_any W l0_0 _ _ l0_1 _ _ a1 hr0_0 hc0_0 hr0_1 hc0_1 hm0_0 hin hm0_1 hg).mono fun e W' ⟨he, bel⟩ => ?_
 subst he
 exact ⟨_, rfl, _, _, _, [], _, [], hW', trodAll_mk1 (shut_bool Tryd.underlying4 _), (trodAll_cons_mk (Below.trod laidOut (by kernel_rfl) (of_decide_eq_true (by kernel_rfl)) k0 bel lt0) (trodAll_cons_mk (Below.trod laidOut (by kernel_rfl) (of_decide_eq_true (by kernel_rfl)) k1 bel lt1) trodAll_mk0)), rfl, bel.frame _, fun h => by cases h⟩
theorem over : Rows.fnExactLineLineColRow.holds Tryd.pinned (OpenSpec.ofChange Rows.fnExactLineLineColSpec) :=
 OpenClaim.holds_of_wide 3 Tryd.f3 rfl rfl rfl rfl rfl rfl rfl ⟨rfl, rfl, rfl, rfl, rfl⟩ rfl rfl rfl rfl rfl (by kernel_rfl) Tryd.func3 (by kernel_rfl)
  (of_decide_eq_true (by kernel_rfl)) (by unfold Func.isWrapper; first | (rw [if_pos (by decide +kernel)]; kernel_rfl) | (rw [if_neg (by decide +kernel)]; exact ⟨rfl, rfl⟩))
  (fun os started H enc _ => lifted os started H enc)
theorem card : Rows.FnExactLineLineColCardSaid :=
 Claim7.holds_tied_plain_at .later [] [.handle] true (true, "b67322ae43d02b6483ae504b522ecfca825ed6cb50842088a3f780651e354649") true
  over (fun _ h => by cases h) (by kernel_rfl) (fun _ h => by cases h) fnExactLineLineCol_row_tie rfl ⟨rfl, rfl⟩ (by kernel_rfl) rfl
  (fun f fn hf hfn => by
   obtain rfl : f = 3 := Option.some.inj ((show Tryd.prog.funcNamed "loop.example/s01685/laws.FnExactLineLineCol" = some 3 by kernel_rfl).symm.trans hf) |>.symm
   obtain rfl : fn = Tryd.f3 := (Option.some.inj (Tryd.func3.symm.trans hfn)).symm
   exact ⟨by kernel_rfl, fun j t ht => by
    rw [Tryd.params3] at ht
    have hm : t ∈ [25, 3] := by simpa using Array.mem_of_getElem? ht
    have hall : ([25, 3].all fun u => !Tryd.prog.wantsStandIn u) = true := by kernel_rfl
    exact (show Tryd.prog.wantsStandIn t = false by simpa using List.all_eq_true.1 hall t hm)⟩)
  (by kernel_rfl)
#print axioms card
end Go.Proofs.YtamcacahjlaogaaDoor.fnExactLineLineCol
namespace Go.Proofs.YtamcacahjlaogaaDoor
theorem fnExactLineLineCol_holds : Rows.FnExactLineLineColCardSaid := fnExactLineLineCol.card
end Go.Proofs.YtamcacahjlaogaaDoor
