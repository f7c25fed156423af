/- Errors: 'in', 'codeOf' and the library's errors.As at a fault, or at a fault that 'in' has wrapped, walked. The condition: the library's variable errors.errorType reads as laid. -/
import Derived.Test.YtamcacahjlaogaaDoorProg
import Derived.WalkKit
import Derived.LaidEql
import Derived.Stop.Asserts
import Derived.RowKitTokens
import Derived.Below
namespace Go.Proofs.YtamcacahjlaogaaDoor.Er
open Go.RowKit Go.Extern.Stop Go.Stop Go.Extern
theorem valueOfP (t : Addr) (w : World) : (ReflectliteValue.unpack (.iface 98 (.pointer (some t)))).run Tryd.prog w
  = .ok (.agg #[.pointer (some ⟨1, 98, none⟩), .pointer (some ⟨w.heap.size, 0, none⟩), .int .u64 150]) (w.alloc (.cells #[.pointer (some t)] 98)) := by kernel_rfl
theorem typeP (a : Addr) (w : World) : (ReflectliteValue.methodAny (ReflectliteValue.valueError "reflectlite.Value.Type" 0) (fun t _ _ _ => ReflectliteType.toType t) #[.agg #[.pointer (some ⟨1, 98, none⟩), .pointer (some a), .int .u64 150]]).run Tryd.prog w
  = .ok (.iface 139 (.agg #[.pointer (some ⟨1, 98, none⟩)])) w := by kernel_rfl
theorem methodKind (h : Value) (w : World) : (Go.method 283 139 (.agg #[h]) "Kind").run Tryd.prog w = .ok (108, h) w := by kernel_rfl
theorem kindP (w : World) : ((ReflectliteType.abiMethod fun t => (fun a : Nat => Value.int IntKind.u8 (a : Int)) <$> Rtype.kind t) #[.pointer (some ⟨1, 98, none⟩)]).run Tryd.prog w = .ok (.int .u8 22) w := by kernel_rfl
theorem kindF (w : World) : ((ReflectliteType.abiMethod fun t => (fun a : Nat => Value.int IntKind.u8 (a : Int)) <$> Rtype.kind t) #[.pointer (some ⟨1, 84, none⟩)]).run Tryd.prog w = .ok (.int .u8 2) w := by kernel_rfl
theorem rlm (z : Sem Value) (f : TypeId → Addr → Nat → Nat → Sem Value) (v : Value) :
  ReflectliteValue.method z f #[v] = (do match ← ReflectliteValue.parts v with | none => z | some (t, a, fl) => f t a fl (fl % 32)) := rfl
theorem partsP (a : Addr) (w : World) : (ReflectliteValue.parts (.agg #[.pointer (some ⟨1, 98, none⟩), .pointer (some a), .int .u64 150])).run Tryd.prog w = .ok (some (98, a, 150)) w := by kernel_rfl
theorem isNilP (a p : Addr) (W : World) (ha : W.cell? a = some (.pointer (some p))) :
  (ReflectliteValue.method (ReflectliteValue.valueError "reflectlite.Value.IsNil" 0) ReflectliteValue.isNil #[.agg #[.pointer (some ⟨1, 98, none⟩), .pointer (some a), .int .u64 150]]).run Tryd.prog W = .ok (.bool false) W := by
 rw [rlm]
 simp only [Sem.run_bind, partsP, Result.andThen]
 simp [ReflectliteValue.isNil, loadVar, isAgg, underlying, Tryd.underlying98, ha, Result.andThen]
theorem methodElem (h : Value) (w : World) : (Go.method 283 139 (.agg #[h]) "Elem").run Tryd.prog w = .ok (122, .agg #[h]) w := by kernel_rfl
theorem methodImplements (h : Value) (w : World) : (Go.method 283 139 (.agg #[h]) "Implements").run Tryd.prog w = .ok (123, .agg #[h]) w := by kernel_rfl
theorem methodAssignableTo (h : Value) (w : World) : (Go.method 283 139 (.agg #[h]) "AssignableTo").run Tryd.prog w = .ok (120, .agg #[h]) w := by kernel_rfl
theorem elemP (w : World) : (ReflectliteType.method ReflectliteType.elem #[.agg #[.pointer (some ⟨1, 98, none⟩)]]).run Tryd.prog w = .ok (.iface 139 (.agg #[.pointer (some ⟨1, 84, none⟩)])) w := by kernel_rfl
theorem implementsF (w : World) : (ReflectliteType.relation "Implements" ReflectliteType.implements_ #[.agg #[.pointer (some ⟨1, 84, none⟩)], .iface 139 (.agg #[.pointer (some ⟨1, 53, none⟩)])]).run Tryd.prog w = .ok (.bool true) w := by kernel_rfl
theorem typeOfF (v : Value) (w : World) : (ReflectliteType.typeOf #[.iface 84 v]).run Tryd.prog w = .ok (.iface 139 (.agg #[.pointer (some ⟨1, 84, none⟩)])) w := by kernel_rfl
theorem typeOfA (v : Value) (w : World) : (ReflectliteType.typeOf #[.iface 114 v]).run Tryd.prog w = .ok (.iface 139 (.agg #[.pointer (some ⟨1, 114, none⟩)])) w := by kernel_rfl
theorem assignableF (w : World) : (ReflectliteType.relation "AssignableTo" ReflectliteType.assignableTo #[.agg #[.pointer (some ⟨1, 84, none⟩)], .iface 139 (.agg #[.pointer (some ⟨1, 84, none⟩)])]).run Tryd.prog w = .ok (.bool true) w := by kernel_rfl
theorem assignableA (w : World) : (ReflectliteType.relation "AssignableTo" ReflectliteType.assignableTo #[.agg #[.pointer (some ⟨1, 114, none⟩)], .iface 139 (.agg #[.pointer (some ⟨1, 84, none⟩)])]).run Tryd.prog w = .ok (.bool false) w := by kernel_rfl
theorem valueOfF (c : Int) (w : World) : (ReflectliteValue.unpack (.iface 84 (.int .i64 c))).run Tryd.prog w
  = .ok (.agg #[.pointer (some ⟨1, 84, none⟩), .pointer (some ⟨w.heap.size, 0, none⟩), .int .u64 130]) (w.alloc (.cells #[.int .i64 c] 84)) := by kernel_rfl
theorem elemOfP (w : World) : (Rtype.elem? 98).run Tryd.prog w = .ok (some 84) w := by kernel_rfl
theorem mkF (p : Addr) (w : World) : (ReflectliteValue.mk 84 p ReflectliteValue.flagAddr).run Tryd.prog w = .ok (.agg #[.pointer (some ⟨1, 84, none⟩), .pointer (some p), .int .u64 386]) w := by kernel_rfl
theorem elemVP (a p : Addr) (W : World) (ha : W.cell? a = some (.pointer (some p))) :
  (ReflectliteValue.method (ReflectliteValue.valueError "reflectlite.Value.Elem" 0) ReflectliteValue.elem #[.agg #[.pointer (some ⟨1, 98, none⟩), .pointer (some a), .int .u64 150]]).run Tryd.prog W
   = .ok (.agg #[.pointer (some ⟨1, 84, none⟩), .pointer (some p), .int .u64 386]) W := by
 rw [rlm]
 simp only [Sem.run_bind, partsP, Result.andThen]
 simp [ReflectliteValue.elem, loadVar, isAgg, underlying, Tryd.underlying98, ha, Result.andThen, elemOfP, mkF]
theorem rls (v x : Value) : ReflectliteValue.set #[v, x] = (do
  let (some (dst, a, fl), some (src, b, _)) := (← ReflectliteValue.parts v, ← ReflectliteValue.parts x)
   | unsupported (.noEntry "extern/(internal/reflectlite.Value).Set.zeroValue")
  if fl / ReflectliteValue.flagAddr % 2 == 0 then unsupported (.noEntry "extern/(internal/reflectlite.Value).Set.unaddressable")
  let val ← loadVar src b
  if ← Rtype.directlyAssignable dst src then storeVar dst a val
  else if ← Rtype.implements dst src then
   if (← Rtype.kind src) == 20 then
    match val with
    | .nilIface => unsupported (.noEntry "extern/reflectlite: a nil value of one interface type handed on as a value of another")
    | _ => storeVar dst a val
   else storeVar dst a (.iface src val)
  else panicString ("reflectlite.Set: value of type " ++ (← Rtype.spelt src) ++ " is not assignable to type " ++ (← Rtype.spelt dst))
  pure (.tuple #[])) := rfl
theorem partsFa (a : Addr) (w : World) : (ReflectliteValue.parts (.agg #[.pointer (some ⟨1, 84, none⟩), .pointer (some a), .int .u64 386])).run Tryd.prog w = .ok (some (84, a, 386)) w := by kernel_rfl
theorem partsF (a : Addr) (w : World) : (ReflectliteValue.parts (.agg #[.pointer (some ⟨1, 84, none⟩), .pointer (some a), .int .u64 130])).run Tryd.prog w = .ok (some (84, a, 130)) w := by kernel_rfl
theorem directF (w : World) : (Rtype.directlyAssignable 84 84).run Tryd.prog w = .ok true w := by kernel_rfl
theorem setF (ta b : Addr) (c : Int) (old : Value) (W : World) (hb : W.cell? b = some (.int .i64 c)) (ht : W.cell? ta = some old) (hf : W.frozen? ta = false) :
  (ReflectliteValue.set #[.agg #[.pointer (some ⟨1, 84, none⟩), .pointer (some ta), .int .u64 386], .agg #[.pointer (some ⟨1, 84, none⟩), .pointer (some b), .int .u64 130]]).run Tryd.prog W
   = .ok (.tuple #[]) (W.setCell ta (.int .i64 c)) := by
 rw [rls]
 simp only [Sem.run_bind, partsFa, partsF, Result.andThen]
 simp [ReflectliteValue.flagAddr, loadVar, isAgg, underlying, Tryd.underlying84, hb, Result.andThen, directF, storeVar, Value.cells, storeCells, Addr.add]
 rw [run_store Tryd.prog W ta _ _ (by rfl)]
 simp [ht, hf]
theorem noAsA (v : Value) (xT : TypeId) (w : World) : (Instr.typeAssert (.iface 114 v) xT 144 true).run Tryd.prog w = .ok (.tuple #[.nilIface, .bool false]) w := run_typeAssert_lacksB Tryd.underlying144 (by kernel_rfl) (by kernel_rfl) v xT w
theorem hasUnwrapA (v : Value) (xT : TypeId) (w : World) : (Instr.typeAssert (.iface 114 v) xT 147 true).run Tryd.prog w = .ok (.tuple #[.iface 114 v, .bool true]) w := run_typeAssert_hasB Tryd.underlying147 (by kernel_rfl) v xT w
theorem methodUnwrap (v : Value) (w : World) : (Go.method 283 114 v "Unwrap").run Tryd.prog w = .ok (115, v) w := by kernel_rfl
def HG (w : World) : Prop := w.cell? ⟨0, 0, none⟩ = some (.iface 139 (.agg #[.pointer (some ⟨1, 53, none⟩)]))
theorem HG.lt {w : World} (h : HG w) : 0 < w.heap.size := by
 rcases Nat.lt_or_ge 0 w.heap.size with h1 | h1
 ·exact h1
 ·unfold HG at h; simp [World.cell?, Array.getElem?_eq_none h1] at h
theorem HG.below {w w' : World} (h : HG w) (b : Below w.heap.size w w') : HG w' := by
 have hl := h.lt
 unfold HG at h ⊢
 rw [World.cell?_of_block (w := w) (a := ⟨0, 0, none⟩) (b.block _ hl)]
 exact h
set_option maxHeartbeats 4000000 in
theorem as_fault (c : Int) (t : Addr) (old : Value) (w : World) (hg : HG w) (ht0 : w.cell? t = some old) (hf0 : w.frozen? t = false) :
  Calls Tryd.prog 58 #[.iface 84 (.int .i64 c), .iface 98 (.pointer (some t))] w fun ev w' => ev = .returned (.bool true) ∧ w' = ((((w.alloc (.cells #[.pointer (some t)] 98)).alloc (.cells #[.pointer (some ⟨1, 98, none⟩), .pointer (some ⟨w.heap.size, 0, none⟩), .int .u64 150] 122)).alloc (.cells #[.pointer (some ⟨1, 98, none⟩), .pointer (some ⟨w.heap.size, 0, none⟩), .int .u64 150] 122)).alloc (.cells #[.int .i64 c] 84)).setCell t (.int .i64 c) := by
 have h6 := @run_callFunc_extern Tryd.prog 80 _ (fun args => ReflectliteValue.unpack (args.getD 0 (.tuple #[]))) Tryd.func80 (by kernel_rfl) (by kernel_rfl) (by kernel_rfl) (by kernel_rfl)
 have h7 := @run_callFunc_extern Tryd.prog 81 _ (ReflectliteValue.methodAny (ReflectliteValue.valueError "reflectlite.Value.Type" 0) (fun t _ _ _ => ReflectliteType.toType t)) Tryd.func81 (by kernel_rfl) (by kernel_rfl) (by kernel_rfl) (by kernel_rfl)
 have h8 := @run_callFunc_extern Tryd.prog 82 _ (ReflectliteValue.method (ReflectliteValue.valueError "reflectlite.Value.IsNil" 0) ReflectliteValue.isNil) Tryd.func82 (by kernel_rfl) (by kernel_rfl) (by kernel_rfl) (by kernel_rfl)
 have h27 := @run_callFunc_extern Tryd.prog 108 _ (ReflectliteType.abiMethod fun t => do pure (.int .u8 (← Rtype.kind t))) Tryd.func108 (by kernel_rfl) (by kernel_rfl) (by kernel_rfl) (by kernel_rfl)
 have h37 := @run_callFunc_extern Tryd.prog 122 _ (ReflectliteType.method ReflectliteType.elem) Tryd.func122 (by kernel_rfl) (by kernel_rfl) (by kernel_rfl) (by kernel_rfl)
 have h38 := @run_callFunc_extern Tryd.prog 123 _ (ReflectliteType.relation "Implements" ReflectliteType.implements_) Tryd.func123 (by kernel_rfl) (by kernel_rfl) (by kernel_rfl) (by kernel_rfl)
 have h10 := @run_callFunc_extern Tryd.prog 91 _ ReflectliteType.typeOf Tryd.func91 (by kernel_rfl) (by kernel_rfl) (by kernel_rfl) (by kernel_rfl)
 have h35 := @run_callFunc_extern Tryd.prog 120 _ (ReflectliteType.relation "AssignableTo" ReflectliteType.assignableTo) Tryd.func120 (by kernel_rfl) (by kernel_rfl) (by kernel_rfl) (by kernel_rfl)
 have h11 := @run_callFunc_extern Tryd.prog 92 _ (ReflectliteValue.method (ReflectliteValue.valueError "reflectlite.Value.Elem" 0) ReflectliteValue.elem) Tryd.func92 (by kernel_rfl) (by kernel_rfl) (by kernel_rfl) (by kernel_rfl)
 have h12 := @run_callFunc_extern Tryd.prog 93 _ ReflectliteValue.set Tryd.func93 (by kernel_rfl) (by kernel_rfl) (by kernel_rfl) (by kernel_rfl)
 have tF := typeOfF
 have tA := typeOfA
 have mA := methodAssignableTo
 have aF := assignableF
 have aA := assignableA
 have vF := valueOfF
 have f6 := valueOfP
 have f7 := typeP
 have mK := methodKind
 have mE := methodElem
 have mI := methodImplements
 have kP := kindP
 have kF := kindF
 have eP := elemP
 have iF := implementsF
 have nA := noAsA
 have uA := hasUnwrapA
 have mU := methodUnwrap
 have n8 := isNilP ⟨w.heap.size, 0, none⟩ t ((w.alloc (.cells #[.pointer (some t)] 98)).alloc (.cells #[.pointer (some ⟨1, 98, none⟩), .pointer (some ⟨w.heap.size, 0, none⟩), .int .u64 150] 122)) (by simp)
 have hlt := HG.lt hg
 have hg2 : ((w.alloc (.cells #[.pointer (some t)] 98)).alloc (.cells #[.pointer (some ⟨1, 98, none⟩), .pointer (some ⟨w.heap.size, 0, none⟩), .int .u64 150] 122)).cell? ⟨0, 0, none⟩ = some (.iface 139 (.agg #[.pointer (some ⟨1, 53, none⟩)])) := by
  rw [World.cell?_alloc_lt _ _ ⟨0, 0, none⟩ (by simp <;> omega), World.cell?_alloc_lt _ _ ⟨0, 0, none⟩ hlt]; exact hg
 have htl : t.block < w.heap.size := by
  rcases Nat.lt_or_ge t.block w.heap.size with h | h
  ·exact h
  ·simp [World.cell?, Array.getElem?_eq_none h] at ht0
 have el := elemVP ⟨w.heap.size, 0, none⟩ t (((w.alloc (.cells #[.pointer (some t)] 98)).alloc (.cells #[.pointer (some ⟨1, 98, none⟩), .pointer (some ⟨w.heap.size, 0, none⟩), .int .u64 150] 122)).alloc (.cells #[.pointer (some ⟨1, 98, none⟩), .pointer (some ⟨w.heap.size, 0, none⟩), .int .u64 150] 122)) (by rw [World.cell?_alloc_lt _ _ ⟨w.heap.size, 0, none⟩ (by simp; omega)]; simp)
 have st := setF t ⟨w.heap.size + 1 + 1 + 1, 0, none⟩ c old ((((w.alloc (.cells #[.pointer (some t)] 98)).alloc (.cells #[.pointer (some ⟨1, 98, none⟩), .pointer (some ⟨w.heap.size, 0, none⟩), .int .u64 150] 122)).alloc (.cells #[.pointer (some ⟨1, 98, none⟩), .pointer (some ⟨w.heap.size, 0, none⟩), .int .u64 150] 122)).alloc (.cells #[.int .i64 c] 84))
  (by rw [World.cell?_alloc_at _ _ _ _ (by simp)]; rfl)
  (by rw [World.cell?_alloc_lt _ _ t (by simp; omega), World.cell?_alloc_lt _ _ t (by simp; omega), World.cell?_alloc_lt _ _ t (by simp; omega), World.cell?_alloc_lt _ _ t htl]; exact ht0)
  (by rw [World.frozen?_alloc_old _ _ t (by simp; omega), World.frozen?_alloc_old _ _ t (by simp; omega), World.frozen?_alloc_old _ _ t (by simp; omega), World.frozen?_alloc_old _ _ t (Nat.ne_of_lt htl)]; exact hf0)
 go_enter Tryd.func58, Tryd.ntmps58
 go_wp2
 refine wp_loop_rounds 1 ?_
 rw [rounds_succ]
 go_wp2
 go_ret
 exact ⟨rfl, rfl⟩
set_option maxHeartbeats 4000000 in
theorem as_at (c : Int) (pb : Nat) (t : Addr) (old : Value) (w : World) (hg : HG w) (ht0 : w.cell? t = some old) (hf0 : w.frozen? t = false)
  (hp : w.cell? ⟨pb, 1, none⟩ = some (.iface 84 (.int .i64 c))) :
  Calls Tryd.prog 58 #[.iface 114 (.pointer (some ⟨pb, 0, none⟩)), .iface 98 (.pointer (some t))] w fun ev w' => ev = .returned (.bool true) ∧ w' = ((((w.alloc (.cells #[.pointer (some t)] 98)).alloc (.cells #[.pointer (some ⟨1, 98, none⟩), .pointer (some ⟨w.heap.size, 0, none⟩), .int .u64 150] 122)).alloc (.cells #[.pointer (some ⟨1, 98, none⟩), .pointer (some ⟨w.heap.size, 0, none⟩), .int .u64 150] 122)).alloc (.cells #[.int .i64 c] 84)).setCell t (.int .i64 c) := by
 have h6 := @run_callFunc_extern Tryd.prog 80 _ (fun args => ReflectliteValue.unpack (args.getD 0 (.tuple #[]))) Tryd.func80 (by kernel_rfl) (by kernel_rfl) (by kernel_rfl) (by kernel_rfl)
 have h7 := @run_callFunc_extern Tryd.prog 81 _ (ReflectliteValue.methodAny (ReflectliteValue.valueError "reflectlite.Value.Type" 0) (fun t _ _ _ => ReflectliteType.toType t)) Tryd.func81 (by kernel_rfl) (by kernel_rfl) (by kernel_rfl) (by kernel_rfl)
 have h8 := @run_callFunc_extern Tryd.prog 82 _ (ReflectliteValue.method (ReflectliteValue.valueError "reflectlite.Value.IsNil" 0) ReflectliteValue.isNil) Tryd.func82 (by kernel_rfl) (by kernel_rfl) (by kernel_rfl) (by kernel_rfl)
 have h27 := @run_callFunc_extern Tryd.prog 108 _ (ReflectliteType.abiMethod fun t => do pure (.int .u8 (← Rtype.kind t))) Tryd.func108 (by kernel_rfl) (by kernel_rfl) (by kernel_rfl) (by kernel_rfl)
 have h37 := @run_callFunc_extern Tryd.prog 122 _ (ReflectliteType.method ReflectliteType.elem) Tryd.func122 (by kernel_rfl) (by kernel_rfl) (by kernel_rfl) (by kernel_rfl)
 have h38 := @run_callFunc_extern Tryd.prog 123 _ (ReflectliteType.relation "Implements" ReflectliteType.implements_) Tryd.func123 (by kernel_rfl) (by kernel_rfl) (by kernel_rfl) (by kernel_rfl)
 have h10 := @run_callFunc_extern Tryd.prog 91 _ ReflectliteType.typeOf Tryd.func91 (by kernel_rfl) (by kernel_rfl) (by kernel_rfl) (by kernel_rfl)
 have h35 := @run_callFunc_extern Tryd.prog 120 _ (ReflectliteType.relation "AssignableTo" ReflectliteType.assignableTo) Tryd.func120 (by kernel_rfl) (by kernel_rfl) (by kernel_rfl) (by kernel_rfl)
 have h11 := @run_callFunc_extern Tryd.prog 92 _ (ReflectliteValue.method (ReflectliteValue.valueError "reflectlite.Value.Elem" 0) ReflectliteValue.elem) Tryd.func92 (by kernel_rfl) (by kernel_rfl) (by kernel_rfl) (by kernel_rfl)
 have h12 := @run_callFunc_extern Tryd.prog 93 _ ReflectliteValue.set Tryd.func93 (by kernel_rfl) (by kernel_rfl) (by kernel_rfl) (by kernel_rfl)
 have tF := typeOfF
 have tA := typeOfA
 have mA := methodAssignableTo
 have aF := assignableF
 have aA := assignableA
 have vF := valueOfF
 have f6 := valueOfP
 have f7 := typeP
 have mK := methodKind
 have mE := methodElem
 have mI := methodImplements
 have kP := kindP
 have kF := kindF
 have eP := elemP
 have iF := implementsF
 have nA := noAsA
 have uA := hasUnwrapA
 have mU := methodUnwrap
 have n8 := isNilP ⟨w.heap.size, 0, none⟩ t ((w.alloc (.cells #[.pointer (some t)] 98)).alloc (.cells #[.pointer (some ⟨1, 98, none⟩), .pointer (some ⟨w.heap.size, 0, none⟩), .int .u64 150] 122)) (by simp)
 have hlt := HG.lt hg
 have hg2 : ((w.alloc (.cells #[.pointer (some t)] 98)).alloc (.cells #[.pointer (some ⟨1, 98, none⟩), .pointer (some ⟨w.heap.size, 0, none⟩), .int .u64 150] 122)).cell? ⟨0, 0, none⟩ = some (.iface 139 (.agg #[.pointer (some ⟨1, 53, none⟩)])) := by
  rw [World.cell?_alloc_lt _ _ ⟨0, 0, none⟩ (by simp <;> omega), World.cell?_alloc_lt _ _ ⟨0, 0, none⟩ hlt]; exact hg
 have htl : t.block < w.heap.size := by
  rcases Nat.lt_or_ge t.block w.heap.size with h | h
  ·exact h
  ·simp [World.cell?, Array.getElem?_eq_none h] at ht0
 have el := elemVP ⟨w.heap.size, 0, none⟩ t (((w.alloc (.cells #[.pointer (some t)] 98)).alloc (.cells #[.pointer (some ⟨1, 98, none⟩), .pointer (some ⟨w.heap.size, 0, none⟩), .int .u64 150] 122)).alloc (.cells #[.pointer (some ⟨1, 98, none⟩), .pointer (some ⟨w.heap.size, 0, none⟩), .int .u64 150] 122)) (by rw [World.cell?_alloc_lt _ _ ⟨w.heap.size, 0, none⟩ (by simp; omega)]; simp)
 have st := setF t ⟨w.heap.size + 1 + 1 + 1, 0, none⟩ c old ((((w.alloc (.cells #[.pointer (some t)] 98)).alloc (.cells #[.pointer (some ⟨1, 98, none⟩), .pointer (some ⟨w.heap.size, 0, none⟩), .int .u64 150] 122)).alloc (.cells #[.pointer (some ⟨1, 98, none⟩), .pointer (some ⟨w.heap.size, 0, none⟩), .int .u64 150] 122)).alloc (.cells #[.int .i64 c] 84))
  (by rw [World.cell?_alloc_at _ _ _ _ (by simp)]; rfl)
  (by rw [World.cell?_alloc_lt _ _ t (by simp; omega), World.cell?_alloc_lt _ _ t (by simp; omega), World.cell?_alloc_lt _ _ t (by simp; omega), World.cell?_alloc_lt _ _ t htl]; exact ht0)
  (by rw [World.frozen?_alloc_old _ _ t (by simp; omega), World.frozen?_alloc_old _ _ t (by simp; omega), World.frozen?_alloc_old _ _ t (by simp; omega), World.frozen?_alloc_old _ _ t (Nat.ne_of_lt htl)]; exact hf0)
 have hpl : pb < w.heap.size := by
  rcases Nat.lt_or_ge pb w.heap.size with h | h
  ·exact h
  ·simp [World.cell?, Array.getElem?_eq_none h] at hp
 have hp2 : (((w.alloc (.cells #[.pointer (some t)] 98)).alloc (.cells #[.pointer (some ⟨1, 98, none⟩), .pointer (some ⟨w.heap.size, 0, none⟩), .int .u64 150] 122)).alloc (.cells #[.pointer (some ⟨1, 98, none⟩), .pointer (some ⟨w.heap.size, 0, none⟩), .int .u64 150] 122)).cell? ⟨pb, 1, none⟩ = some (.iface 84 (.int .i64 c)) := by
  rw [World.cell?_alloc_lt _ _ ⟨pb, 1, none⟩ (by simp; omega), World.cell?_alloc_lt _ _ ⟨pb, 1, none⟩ (by simp; omega), World.cell?_alloc_lt _ _ ⟨pb, 1, none⟩ hpl]; exact hp
 go_enter Tryd.func58, Tryd.ntmps58
 go_wp2
 refine wp_loop_rounds 2 ?_
 rw [rounds_succ]
 go_wp2
 rw [rounds_succ]
 go_wp2
 go_ret
 exact ⟨rfl, rfl⟩
def ErrIs (w : World) (v : Value) (c : Int) : Prop :=
 v = .iface 84 (.int .i64 c) ∨ ∃ pb, v = .iface 114 (.pointer (some ⟨pb, 0, none⟩)) ∧ w.cell? ⟨pb, 1, none⟩ = some (.iface 84 (.int .i64 c))
theorem ErrIs.below {w w' : World} {v : Value} {c : Int} (h : ErrIs w v c) (b : Below w.heap.size w w') : ErrIs w' v c := by
 rcases h with h | ⟨pb, h1, h2⟩
 ·exact .inl h
 ·have hpl : pb < w.heap.size := by
   rcases Nat.lt_or_ge pb w.heap.size with h | h
   ·exact h
   ·simp [World.cell?, Array.getElem?_eq_none h] at h2
  exact .inr ⟨pb, h1, by rw [World.cell?_of_block (w := w) (a := ⟨pb, 1, none⟩) (b.block _ hpl)]; exact h2⟩
set_option maxHeartbeats 4000000 in
theorem codeOf_any (v : Value) (c : Int) (w : World) (hg : HG w) (h : ErrIs w v c) :
  Calls Tryd.prog 30 #[v] w fun e w' => e = .returned (.int .i64 c) ∧ Below w.heap.size w w' := by
 have hgA : HG (w.alloc (.cells #[.int .i64 0] 84)) := hg.below ((Below.refl _ w).alloc (Nat.le_refl _) _)
 have htA : (w.alloc (.cells #[.int .i64 0] 84)).cell? ⟨w.heap.size, 0, none⟩ = some (.int .i64 0) := by simp
 have hfA : (w.alloc (.cells #[.int .i64 0] 84)).frozen? ⟨w.heap.size, 0, none⟩ = false := by simp
 rcases h with rfl | ⟨pb, rfl, hp⟩
 ·go_enter Tryd.func30, Tryd.ntmps30
  go_wp2_with (go_at_call 58; refine (as_fault c _ (.int .i64 0) _ hgA htA hfA).mono ?_; rintro e w' ⟨rfl, rfl⟩)
  go_ret
  refine ⟨rfl, ?_⟩
  repeat (first | exact Below.refl _ _ | (refine Below.setCell ?_ (by simp) _) | (refine Below.alloc ?_ (by simp <;> omega) _))
 ·have hpl : pb < w.heap.size := by
   rcases Nat.lt_or_ge pb w.heap.size with h | h
   ·exact h
   ·simp [World.cell?, Array.getElem?_eq_none h] at hp
  have hpA : (w.alloc (.cells #[.int .i64 0] 84)).cell? ⟨pb, 1, none⟩ = some (.iface 84 (.int .i64 c)) := by
   rw [World.cell?_alloc_lt _ _ ⟨pb, 1, none⟩ hpl]; exact hp
  go_enter Tryd.func30, Tryd.ntmps30
  go_wp2_with (go_at_call 58; refine (as_at c pb _ (.int .i64 0) _ hgA htA hfA hpA).mono ?_; rintro e w' ⟨rfl, rfl⟩)
  go_ret
  refine ⟨rfl, ?_⟩
  repeat (first | exact Below.refl _ _ | (refine Below.setCell ?_ (by simp) _) | (refine Below.alloc ?_ (by simp <;> omega) _))
theorem in_fault (s : ByteArray) (c : Int) (w : World) : Calls Tryd.prog 53 #[.string s, .iface 84 (.int .i64 c)] w fun e w' => ∃ v, e = .returned v ∧ ErrIs w' v c ∧ Below w.heap.size w w' := by
 have hn := run_eql_iface_nil_left (P := Tryd.prog) w 84 (.int .i64 c) Tryd.underlying53
 go_enter Tryd.func53, Tryd.ntmps53
 go_wp2
 go_ret
 refine ⟨_, rfl, .inr ⟨w.heap.size, rfl, ?_⟩, (Below.refl _ w).alloc (Nat.le_refl _) _⟩
 simp
end Go.Proofs.YtamcacahjlaogaaDoor.Er
