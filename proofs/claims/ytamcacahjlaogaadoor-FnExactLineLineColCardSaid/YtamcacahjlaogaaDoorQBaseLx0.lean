/- What the law BaseL reaches: each function as a plain function, and that the machine's call does it (written by a program). The condition, where there is one: errors.errorType reads as laid. -/
import Derived.Test.YtamcacahjlaogaaDoorWMore
import Derived.Test.YtamcacahjlaogaaDoorProg
import Derived.Below
import Derived.Deep.Draws
import Derived.Deep.AppendLies
import Derived.Maps.AppendAt
import Derived.OwnWalk
import Derived.Laws.BytesArg
import Derived.Laws.MakeOwn
import Derived.Laws.OwnMore
import Derived.Deep.OwnRows
import Derived.Tactics
import Derived.Lib.ConvBytes
import Derived.Laws.Slices
import Derived.WalkKit
import Derived.KernelRfl
import Derived.RowKit3
import Derived.Deep.LoopGhost
import Derived.Deep.QuietTactic
import Derived.BigQuiet
import Derived.WideLaws
import Derived.Deep.DeepCutAuto
import Derived.Deep.CutBlock
import Derived.Deep.RegionHeld3
import Derived.Laws.Rows
import Derived.Lib.AppendStr
import Derived.ArgAppend
import Derived.Laws.IdiomCopy
import Derived.OrdersHeld
import Derived.Laws.BitsLemmas
import Derived.RowKit
import Derived.Test.YtamcacahjlaogaaDoorWWords
import Derived.Test.YtamcacahjlaogaaDoorWLast
import Derived.Test.YtamcacahjlaogaaDoorWTab
import Derived.Test.YtamcacahjlaogaaDoorWApart
import Derived.Test.YtamcacahjlaogaaDoorWFoot
import Derived.Test.YtamcacahjlaogaaDoorWKept
import Derived.Test.YtamcacahjlaogaaDoorWShare
import Derived.Test.YtamcacahjlaogaaDoorWN
import Derived.Laws.StructEq
import Derived.Test.YtamcacahjlaogaaDoorWGuard
namespace Go.Proofs.YtamcacahjlaogaaDoor
open Go.RowKit Go.Proofs.YtamcacahjlaogaaDoorW.PrintWords
theorem C_len_ {α : Type} {d : Kd α} {w : World} {A : Option Addr} {m n : Nat} {xs : List α} (h : m = n) (hC : Kd.C d w A m xs) : Kd.C d w A n xs := h ▸ hC
end Go.Proofs.YtamcacahjlaogaaDoor
namespace Go.Proofs.YtamcacahjlaogaaDoor.QBaseL
open Go.RowKit Go.Proofs.YtamcacahjlaogaaDoorW.PrintWords Go.Proofs.YtamcacahjlaogaaDoorW.PrintLast Go.Proofs.YtamcacahjlaogaaDoorW.PrintMore
attribute [local go_sem] max2_int min2_int max_two min_two max_three min_three max_four min_four   -- for this text's walks alone
set_option linter.unusedVariables false
set_option linter.unusedSimpArgs false



def errW : Option Int → Value
 | none => .nilIface
 | some c => .iface 0 (.int .i64 c)
theorem errW_none : errW none = .nilIface := rfl
theorem errW_some (c : Int) : errW (some c) = .iface 0 (.int .i64 c) := rfl

theorem info3 : (Tryd.prog.info? 3).map (fun i => (i.zero, i.size, i.bytes)) = some (some (.int .i64 0), 1, 8) := by kernel_rfl
theorem info21 : (Tryd.prog.info? 21).map (fun i => (i.zero, i.size, i.bytes)) = some (some (.int .i32 0), 1, 4) := by kernel_rfl
theorem info76 : (Tryd.prog.info? 76).map (fun i => (i.zero, i.size, i.bytes)) = some (some (.agg #[(.slice none 0 0), (.int .i64 0), (.int .i64 0)]), 3, 40) := by kernel_rfl
-- the values' own types
/-! #### struct type 75 -/
structure S75 where
 f0 : (List Int)
 f1 : Int
 f2 : Int
def z75 : S75 := ⟨([] : List Int), (0 : Int), (0 : Int)⟩
def k75 : Kd S75 := Kd.iso (Kd.pair (Kd.slice 21 (Kd.int .i32)) (Kd.pair (Kd.int .i64) (Kd.int .i64))) (fun x : S75 => (x.f0, x.f1, x.f2))
theorem k75_open {w : World} {x : S75} {cs : List Value} (h : k75.K w x cs) : ∃ A0 c0, cs = [.slice A0 x.f0.length c0, .int .i64 x.f1, .int .i64 x.f2] ∧ x.f0.length ≤ c0 ∧ (Kd.int .i32).C w A0 x.f0.length x.f0 := by
 obtain ⟨_, _, rfl, ⟨A0, c0, rfl, l0, g0⟩, ⟨_, _, rfl, rfl, rfl⟩⟩ := h
 exact ⟨A0, c0, rfl, l0, g0⟩
def rd_T75 (xs : List S75) (i : Int) : S75 := xs.getD i.toNat z75
theorem at_T75 {w : World} {A : Option Addr} {n : Nat} {xs : List S75} (h : Kd.C k75 w A n xs) (i : Int) (h0 : 0 ≤ i) (h1 : i < n) : ∃ ad A0 c0, A = some ad ∧ w.cell? (ad.add (i.toNat * 3)) = some (.slice A0 (rd_T75 xs i).f0.length c0) ∧ w.cell? ⟨(ad.add (i.toNat * 3)).block, (ad.add (i.toNat * 3)).off + 1, none⟩ = some (.int .i64 (rd_T75 xs i).f1) ∧ w.cell? ⟨(ad.add (i.toNat * 3)).block, (ad.add (i.toNat * 3)).off + 2, none⟩ = some (.int .i64 (rd_T75 xs i).f2) ∧ (rd_T75 xs i).f0.length ≤ c0 ∧ (Kd.int .i32).C w A0 (rd_T75 xs i).f0.length (rd_T75 xs i).f0 := by
 obtain ⟨ad, c, e, _, hK, hc0⟩ := Kd.C_get h z75 i h0 h1
 have hc : ∀ j u, c[j]? = some u → w.cell? (ad.add (i.toNat * 3 + j)) = some u := hc0
 obtain ⟨A0, c0, rfl, l0, g0⟩ := k75_open hK
 exact ⟨ad, A0, c0, e, hc 0 _ rfl, by rw [← add_field _ _ 1 (by omega)]; exact hc 1 _ rfl, by rw [← add_field _ _ 2 (by omega)]; exact hc 2 _ rfl, l0, g0⟩

/-! #### struct type 76 -/
structure S76 where
 f0 : (List Int)
 f1 : Int
 f2 : Int
def z76 : S76 := ⟨([] : List Int), (0 : Int), (0 : Int)⟩
def k76 : Kd S76 := Kd.iso (Kd.pair (Kd.slice 21 (Kd.int .i32)) (Kd.pair (Kd.int .i64) (Kd.int .i64))) (fun x : S76 => (x.f0, x.f1, x.f2))
theorem k76_open {w : World} {x : S76} {cs : List Value} (h : k76.K w x cs) : ∃ A0 c0, cs = [.slice A0 x.f0.length c0, .int .i64 x.f1, .int .i64 x.f2] ∧ x.f0.length ≤ c0 ∧ (Kd.int .i32).C w A0 x.f0.length x.f0 := by
 obtain ⟨_, _, rfl, ⟨A0, c0, rfl, l0, g0⟩, ⟨_, _, rfl, rfl, rfl⟩⟩ := h
 exact ⟨A0, c0, rfl, l0, g0⟩
theorem k76_openM {w : World} {base : Nat} {ok : Nat → Prop} {x : S76} {cs : List Value} (h : k76.M w base ok x cs) : ∃ v0, cs = [v0, .int .i64 x.f1, .int .i64 x.f2] ∧ (Kd.int .i32).R 21 w base ok v0 x.f0 := by
 obtain ⟨_, _, rfl, ⟨v0, rfl, g0⟩, ⟨_, _, rfl, rfl, rfl⟩⟩ := h
 exact ⟨v0, rfl, g0⟩
theorem k76_mkM (w : World) (base : Nat) (ok : Nat → Prop) (x : S76) {v0 : Value} (g0 : (Kd.int .i32).R 21 w base ok v0 x.f0) : k76.M w base ok x [v0, .int .i64 x.f1, .int .i64 x.f2] := ⟨[v0], [.int .i64 x.f1, .int .i64 x.f2], rfl, ⟨v0, rfl, g0⟩, ⟨[.int .i64 x.f1], [.int .i64 x.f2], rfl, rfl, rfl⟩⟩
def rd_T76 (xs : List S76) (i : Int) : S76 := xs.getD i.toNat z76
theorem at_T76 {w : World} {A : Option Addr} {n : Nat} {xs : List S76} (h : Kd.C k76 w A n xs) (i : Int) (h0 : 0 ≤ i) (h1 : i < n) : ∃ ad A0 c0, A = some ad ∧ w.cell? (ad.add (i.toNat * 3)) = some (.slice A0 (rd_T76 xs i).f0.length c0) ∧ w.cell? ⟨(ad.add (i.toNat * 3)).block, (ad.add (i.toNat * 3)).off + 1, none⟩ = some (.int .i64 (rd_T76 xs i).f1) ∧ w.cell? ⟨(ad.add (i.toNat * 3)).block, (ad.add (i.toNat * 3)).off + 2, none⟩ = some (.int .i64 (rd_T76 xs i).f2) ∧ (rd_T76 xs i).f0.length ≤ c0 ∧ (Kd.int .i32).C w A0 (rd_T76 xs i).f0.length (rd_T76 xs i).f0 := by
 obtain ⟨ad, c, e, _, hK, hc0⟩ := Kd.C_get h z76 i h0 h1
 have hc : ∀ j u, c[j]? = some u → w.cell? (ad.add (i.toNat * 3 + j)) = some u := hc0
 obtain ⟨A0, c0, rfl, l0, g0⟩ := k76_open hK
 exact ⟨ad, A0, c0, e, hc 0 _ rfl, by rw [← add_field _ _ 1 (by omega)]; exact hc 1 _ rfl, by rw [← add_field _ _ 2 (by omega)]; exact hc 2 _ rfl, l0, g0⟩

end Go.Proofs.YtamcacahjlaogaaDoor.QBaseL
