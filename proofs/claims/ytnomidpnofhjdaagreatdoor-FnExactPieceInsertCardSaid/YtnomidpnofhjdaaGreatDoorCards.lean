/-
  DERIVED. GIVEN WITH THE SEED: THE CARDS: each row of YtnomidpnofhjdaaGreatDoorRows.lean that lists a variable, with what it lists TIED to the program's text (the seventh form; the later family's looks); each row that meets fmt, with fmt's text TOLD by the authors' own Lean function (tested against real Go, not proved from fmt's source: count such statements apart). THE CARD IS WHAT COUNTS. Prove the row's statement (the work); the ties are given (YtnomidpnofhjdaaGreatDoorTie.lean); close each card by the builder's one call (the guide's Derived/Test/ToyasCard.lean, 'card_holds'). Laid BY PROGRAM, IN A SANDBOX (cutbox-door.mjs). By AI agents, Wed Nov 11 2026. No macro, syntax, notation, axiom, sorry.
-/
import Derived.Test.YtnomidpnofhjdaaGreatDoorRows
import GoSem.ClaimSeven
namespace Go.Proofs.YtnomidpnofhjdaaGreatDoor
namespace Rows

/-- THE TIED CARD OF 'laws.FnExactPieceInsert'. -/
def fnExactPieceInsertCard : Claim7 := { stood := { row := fnExactPieceInsertRow, standIns := [], harness := (true, "beb6224556d3bb711ba08317a7b7c236d740ee771db93d1df7466cfba08c5bbe"), looks := true }, kinds := [], alts := [], laidByText := true, laidKinds := [.handle], laidTests := true, laidLooks := .later }
def FnExactPieceInsertCardSaid : Prop := Claim7.holds Tryz.pinned (.plain (OpenSpec.ofChange fnExactPieceInsertSpec)) fnExactPieceInsertCard

/-- THE TIED CARD OF 'laws.FnExactPieceDelete'. -/
def fnExactPieceDeleteCard : Claim7 := { stood := { row := fnExactPieceDeleteRow, standIns := [], harness := (true, "beb6224556d3bb711ba08317a7b7c236d740ee771db93d1df7466cfba08c5bbe"), looks := true }, kinds := [], alts := [], laidByText := true, laidKinds := [.handle], laidTests := true, laidLooks := .later }
def FnExactPieceDeleteCardSaid : Prop := Claim7.holds Tryz.pinned (.plain (OpenSpec.ofChange fnExactPieceDeleteSpec)) fnExactPieceDeleteCard

/-- THE TIED CARD OF 'laws.FnHeal'. -/
def fnHealCard : Claim7 := { stood := { row := fnHealRow, standIns := [], harness := (true, "beb6224556d3bb711ba08317a7b7c236d740ee771db93d1df7466cfba08c5bbe"), looks := true }, kinds := [], alts := [], laidByText := true, laidKinds := [.handle], laidTests := true, laidLooks := .later }
def FnHealCardSaid : Prop := Claim7.holds Tryz.pinned (.plain (OpenSpec.ofChange fnHealSpec)) fnHealCard

/-- THE SECOND FORM's CARD OF 'laws.FnExactPieceInsert'. -/
def fnExactPieceInsertUptoCard : Claim7 := { stood := { row := fnExactPieceInsertUptoRow, standIns := [], harness := (true, "beb6224556d3bb711ba08317a7b7c236d740ee771db93d1df7466cfba08c5bbe"), looks := true }, kinds := [], alts := [], laidByText := true, laidKinds := [.handle], laidTests := true, laidLooks := .later }
def FnExactPieceInsertUptoCardSaid : Prop := Claim7.holds Tryz.pinned (.plain (OpenSpec.upto fnExactPieceInsertSpec)) fnExactPieceInsertUptoCard

/-- THE SECOND FORM's CARD OF 'laws.FnExactPieceDelete'. -/
def fnExactPieceDeleteUptoCard : Claim7 := { stood := { row := fnExactPieceDeleteUptoRow, standIns := [], harness := (true, "beb6224556d3bb711ba08317a7b7c236d740ee771db93d1df7466cfba08c5bbe"), looks := true }, kinds := [], alts := [], laidByText := true, laidKinds := [.handle], laidTests := true, laidLooks := .later }
def FnExactPieceDeleteUptoCardSaid : Prop := Claim7.holds Tryz.pinned (.plain (OpenSpec.upto fnExactPieceDeleteSpec)) fnExactPieceDeleteUptoCard

/-- THE SECOND FORM's CARD OF 'laws.FnHeal'. -/
def fnHealUptoCard : Claim7 := { stood := { row := fnHealUptoRow, standIns := [], harness := (true, "beb6224556d3bb711ba08317a7b7c236d740ee771db93d1df7466cfba08c5bbe"), looks := true }, kinds := [], alts := [], laidByText := true, laidKinds := [.handle], laidTests := true, laidLooks := .later }
def FnHealUptoCardSaid : Prop := Claim7.holds Tryz.pinned (.plain (OpenSpec.upto fnHealSpec)) fnHealUptoCard
end Rows
end Go.Proofs.YtnomidpnofhjdaaGreatDoor
