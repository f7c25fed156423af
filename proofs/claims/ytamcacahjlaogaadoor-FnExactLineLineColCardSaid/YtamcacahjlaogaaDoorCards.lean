/-
  DERIVED. GIVEN WITH THE SEED: THE CARDS: each row of YtamcacahjlaogaaDoorRows.lean that lists a variable, with what it lists TIED to the program's text (the seventh form; the later family's looks); each row that meets fmt, with fmt's text TOLD by the authors' own Lean function (tested against real Go, not proved from fmt's source: count such statements apart). THE CARD IS WHAT COUNTS. Prove the row's statement (the work); the ties are given (YtamcacahjlaogaaDoorTie.lean); close each card by the builder's one call (the guide's Derived/Test/ToyasCard.lean, 'card_holds'). Laid BY PROGRAM, IN A SANDBOX (cutbox-door.mjs). By AI agents, Wed Nov 11 2026. No macro, syntax, notation, axiom, sorry.
-/
import Derived.Test.YtamcacahjlaogaaDoorRows
import GoSem.ClaimSeven
namespace Go.Proofs.YtamcacahjlaogaaDoor
namespace Rows

/-- THE TIED CARD OF 'laws.FnExactLineLineCol'. -/
def fnExactLineLineColCard : Claim7 := { stood := { row := fnExactLineLineColRow, standIns := [], harness := (true, "b67322ae43d02b6483ae504b522ecfca825ed6cb50842088a3f780651e354649"), looks := true }, kinds := [], alts := [], laidByText := true, laidKinds := [.handle], laidTests := true, laidLooks := .later }
def FnExactLineLineColCardSaid : Prop := Claim7.holds Tryd.pinned (.plain (OpenSpec.ofChange fnExactLineLineColSpec)) fnExactLineLineColCard

/-- THE TIED CARD OF 'laws.FnExactLineDelete'. -/
def fnExactLineDeleteCard : Claim7 := { stood := { row := fnExactLineDeleteRow, standIns := [], harness := (true, "b67322ae43d02b6483ae504b522ecfca825ed6cb50842088a3f780651e354649"), looks := true }, kinds := [], alts := [], laidByText := true, laidKinds := [.handle], laidTests := true, laidLooks := .later }
def FnExactLineDeleteCardSaid : Prop := Claim7.holds Tryd.pinned (.plain (OpenSpec.ofChange fnExactLineDeleteSpec)) fnExactLineDeleteCard

/-- THE TIED CARD OF 'laws.FnExactLineOffset'. -/
def fnExactLineOffsetCard : Claim7 := { stood := { row := fnExactLineOffsetRow, standIns := [], harness := (true, "b67322ae43d02b6483ae504b522ecfca825ed6cb50842088a3f780651e354649"), looks := true }, kinds := [], alts := [], laidByText := true, laidKinds := [.handle], laidTests := true, laidLooks := .later }
def FnExactLineOffsetCardSaid : Prop := Claim7.holds Tryd.pinned (.plain (OpenSpec.ofChange fnExactLineOffsetSpec)) fnExactLineOffsetCard

/-- THE SECOND FORM's CARD OF 'laws.FnExactLineLineCol'. -/
def fnExactLineLineColUptoCard : Claim7 := { stood := { row := fnExactLineLineColUptoRow, standIns := [], harness := (true, "b67322ae43d02b6483ae504b522ecfca825ed6cb50842088a3f780651e354649"), looks := true }, kinds := [], alts := [], laidByText := true, laidKinds := [.handle], laidTests := true, laidLooks := .later }
def FnExactLineLineColUptoCardSaid : Prop := Claim7.holds Tryd.pinned (.plain (OpenSpec.upto fnExactLineLineColSpec)) fnExactLineLineColUptoCard

/-- THE SECOND FORM's CARD OF 'laws.FnExactLineDelete'. -/
def fnExactLineDeleteUptoCard : Claim7 := { stood := { row := fnExactLineDeleteUptoRow, standIns := [], harness := (true, "b67322ae43d02b6483ae504b522ecfca825ed6cb50842088a3f780651e354649"), looks := true }, kinds := [], alts := [], laidByText := true, laidKinds := [.handle], laidTests := true, laidLooks := .later }
def FnExactLineDeleteUptoCardSaid : Prop := Claim7.holds Tryd.pinned (.plain (OpenSpec.upto fnExactLineDeleteSpec)) fnExactLineDeleteUptoCard

/-- THE SECOND FORM's CARD OF 'laws.FnExactLineOffset'. -/
def fnExactLineOffsetUptoCard : Claim7 := { stood := { row := fnExactLineOffsetUptoRow, standIns := [], harness := (true, "b67322ae43d02b6483ae504b522ecfca825ed6cb50842088a3f780651e354649"), looks := true }, kinds := [], alts := [], laidByText := true, laidKinds := [.handle], laidTests := true, laidLooks := .later }
def FnExactLineOffsetUptoCardSaid : Prop := Claim7.holds Tryd.pinned (.plain (OpenSpec.upto fnExactLineOffsetSpec)) fnExactLineOffsetUptoCard
end Rows
end Go.Proofs.YtamcacahjlaogaaDoor
