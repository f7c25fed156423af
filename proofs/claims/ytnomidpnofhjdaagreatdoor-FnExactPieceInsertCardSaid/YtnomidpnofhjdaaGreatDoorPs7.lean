/- PieceLineCol, walked. Conditions: at most 1048576 items and runes; errors.errorType reads as laid. -/
import Derived.Test.YtnomidpnofhjdaaGreatDoorPs5
namespace Go.Proofs.YtnomidpnofhjdaaGreatDoor
open Go.RowKit Go.Proofs.YtnomidpnofhjdaaGreatDoorW.PrintWords Go.Proofs.YtnomidpnofhjdaaGreatDoorW.PrintLast Go.Proofs.YtnomidpnofhjdaaGreatDoorW.PrintMore Er
theorem ptext_len {T : List Int} {x : Pc} (h : InStore T x) : ((ptext T x).length : Int) = x.len := by
 obtain ⟨h1, h2, h3, h4⟩ := h
 unfold ptext; rw [List.length_drop, List.length_take]; omega
end Go.Proofs.YtnomidpnofhjdaaGreatDoor
namespace Go.Proofs.YtnomidpnofhjdaaGreatDoor
open Go.RowKit Go.Proofs.YtnomidpnofhjdaaGreatDoorW.PrintWords Go.Proofs.YtnomidpnofhjdaaGreatDoorW.PrintLast Go.Proofs.YtnomidpnofhjdaaGreatDoorW.PrintMore Er
theorem openV_ok {T : List Int} {xs : List It} {t : Tree} (h : openV T xs = some t) : TxtOk T t ∧ TP.toL t = xs.map pcOf ∧ grownV xs = some t ∧ T.length ≤ 220000 ∧ OkPcs T xs := by
 unfold openV at h
 split at h
 ·rename_i hh
  obtain ⟨h1, h2, h3, h4, h5, h6⟩ := grownV_toL h
  obtain ⟨f1, f2, f3, f4⟩ := grownV_fine h
  refine ⟨⟨fun v hv => ?_, f3, by omega, fun v hv => ?_, fun v hv => ?_⟩, h1, h, hh.1, hh.2⟩
  all_goals
   rw [h1] at hv
   obtain ⟨x, hx, rfl⟩ := List.mem_map.1 hv
   have g := h5 x hx
   have g2 := hh.2 x hx
   unfold goodP at g
   unfold okPc at g2
  ·simp only [pcOf]; omega
  ·unfold InStore; simp only [pcOf]; omega
  ·unfold ptext; simp only [pcOf]; exact g2.2
 ·cases h
end Go.Proofs.YtnomidpnofhjdaaGreatDoor
