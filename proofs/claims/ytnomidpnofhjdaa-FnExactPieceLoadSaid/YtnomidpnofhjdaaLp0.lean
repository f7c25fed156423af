/- Small words for a text that is loaded: items, pieces. No condition. -/
import Derived.Test.YtnomidpnofhjdaaTr3
import Derived.Test.YtnomidpnofhjdaaQBasex1
import Derived.Test.YtnomidpnofhjdaaWLast
import Derived.Test.YtnomidpnofhjdaaWMore
import Derived.Deep.RegionHeld3
import Derived.Deep.LoopGhost
import Derived.Test.YtnomidpnofhjdaaEr0
namespace Go.Proofs.Ytnomidpnofhjdaa
open Go.RowKit Go.Proofs.YtnomidpnofhjdaaW.PrintWords Go.Proofs.YtnomidpnofhjdaaW.PrintLast Go.Proofs.YtnomidpnofhjdaaW.PrintMore
abbrev It := QBase.S50
def pcOf (x : It) : Pc := ⟨x.f0.f0, x.f0.f1, x.f0.f2⟩
theorem info50 : (Try.prog.info? 50).map (fun i => (i.zero, i.size, i.bytes)) = some (some (.agg #[.int .i64 0, .int .i64 0, .int .i64 0, .int .i64 0]), 4, 32) := by kernel_rfl
theorem Rep.below {w w' : World} {t : Tree} {p : Option Nat} {S : List Nat} (h : Rep w t p S) (hb : Below w.heap.size w w') : Rep w' t p S := h.move fun k hk => hb.block k (h.lt k hk)
theorem Rep.alloc {w : World} {t : Tree} {p : Option Nat} {S : List Nat} {o : Obj} (h : Rep w t p S) : Rep (w.alloc o) t p S := h.below ((Below.refl _ w).alloc (Nat.le_refl _) _)
theorem Rep.drew {w : World} {t : Tree} {p : Option Nat} {S : List Nat} (h : Rep w t p S) : Rep w.drew t p S := h.move fun _ _ => rfl
end Go.Proofs.Ytnomidpnofhjdaa
