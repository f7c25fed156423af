/-
  DERIVED. GIVEN WITH THE SEED: THE CARDS: each row of YtefdjajmnkmbgaaDoorRows.lean that lists a variable, with what it lists TIED to the program's text (the seventh form; the later family's looks); each row that meets fmt, with fmt's text TOLD by the authors' own Lean function (tested against real Go, not proved from fmt's source: count such statements apart). THE CARD IS WHAT COUNTS. Prove the row's statement (the work); the ties are given (YtefdjajmnkmbgaaDoorTie.lean); close each card by the builder's one call (the guide's Derived/Test/ToyasCard.lean, 'card_holds'). Laid BY PROGRAM, IN A SANDBOX (cutbox-door.mjs). By AI agents, Wed Nov 11 2026. No macro, syntax, notation, axiom, sorry.
-/
import Derived.Test.YtefdjajmnkmbgaaDoorRows
import GoSem.ClaimSeven
namespace Go.Proofs.YtefdjajmnkmbgaaDoor
namespace Rows

/-- THE TIED CARD OF 'laws.FnExactMarksExport'. -/
def fnExactMarksExportCard : Claim7 := { stood := { row := fnExactMarksExportRow, standIns := [], harness := (true, "4d6386ec17bb61bb766ad71e4c9e02cf66f233e011bd747acd12ba96528466cc"), looks := true }, kinds := [], alts := [], laidByText := true, laidKinds := [.data, .data, .data], laidTests := true, laidLooks := .later }
def FnExactMarksExportCardSaid : Prop := Claim7.holds Tryd.pinned (.plain (OpenSpec.ofChange fnExactMarksExportSpec)) fnExactMarksExportCard

/-- THE TIED CARD OF 'laws.FnStore'. -/
def fnStoreCard : Claim7 := { stood := { row := fnStoreRow, standIns := [], harness := (true, "4d6386ec17bb61bb766ad71e4c9e02cf66f233e011bd747acd12ba96528466cc"), looks := true }, kinds := [], alts := [], laidByText := true, laidKinds := [.handle], laidTests := true, laidLooks := .later }
def FnStoreCardSaid : Prop := Claim7.holds Tryd.pinned (.plain (OpenSpec.ofChange fnStoreSpec)) fnStoreCard

/-- THE TIED CARD OF 'laws.FnMarksBack'. -/
def fnMarksBackCard : Claim7 := { stood := { row := fnMarksBackRow, standIns := [], harness := (true, "4d6386ec17bb61bb766ad71e4c9e02cf66f233e011bd747acd12ba96528466cc"), looks := true }, kinds := [], alts := [], laidByText := true, laidKinds := [.handle], laidTests := true, laidLooks := .later }
def FnMarksBackCardSaid : Prop := Claim7.holds Tryd.pinned (.plain (OpenSpec.ofChange fnMarksBackSpec)) fnMarksBackCard

/-- THE TIED CARD OF 'laws.FnExactMarksDelete'. -/
def fnExactMarksDeleteCard : Claim7 := { stood := { row := fnExactMarksDeleteRow, standIns := [], harness := (true, "4d6386ec17bb61bb766ad71e4c9e02cf66f233e011bd747acd12ba96528466cc"), looks := true }, kinds := [], alts := [], laidByText := true, laidKinds := [.handle], laidTests := true, laidLooks := .later }
def FnExactMarksDeleteCardSaid : Prop := Claim7.holds Tryd.pinned (.plain (OpenSpec.ofChange fnExactMarksDeleteSpec)) fnExactMarksDeleteCard

/-- THE TIED CARD OF 'laws.FnExactMarksInsert'. -/
def fnExactMarksInsertCard : Claim7 := { stood := { row := fnExactMarksInsertRow, standIns := [], harness := (true, "4d6386ec17bb61bb766ad71e4c9e02cf66f233e011bd747acd12ba96528466cc"), looks := true }, kinds := [], alts := [], laidByText := true, laidKinds := [.handle], laidTests := true, laidLooks := .later }
def FnExactMarksInsertCardSaid : Prop := Claim7.holds Tryd.pinned (.plain (OpenSpec.ofChange fnExactMarksInsertSpec)) fnExactMarksInsertCard

/-- THE SECOND FORM's CARD OF 'laws.FnExactMarksExport'. -/
def fnExactMarksExportUptoCard : Claim7 := { stood := { row := fnExactMarksExportUptoRow, standIns := [], harness := (true, "4d6386ec17bb61bb766ad71e4c9e02cf66f233e011bd747acd12ba96528466cc"), looks := true }, kinds := [], alts := [], laidByText := true, laidKinds := [.data, .data, .data], laidTests := true, laidLooks := .later }
def FnExactMarksExportUptoCardSaid : Prop := Claim7.holds Tryd.pinned (.plain (OpenSpec.upto fnExactMarksExportSpec)) fnExactMarksExportUptoCard

/-- THE SECOND FORM's CARD OF 'laws.FnStore'. -/
def fnStoreUptoCard : Claim7 := { stood := { row := fnStoreUptoRow, standIns := [], harness := (true, "4d6386ec17bb61bb766ad71e4c9e02cf66f233e011bd747acd12ba96528466cc"), looks := true }, kinds := [], alts := [], laidByText := true, laidKinds := [.handle], laidTests := true, laidLooks := .later }
def FnStoreUptoCardSaid : Prop := Claim7.holds Tryd.pinned (.plain (OpenSpec.upto fnStoreSpec)) fnStoreUptoCard

/-- THE SECOND FORM's CARD OF 'laws.FnMarksBack'. -/
def fnMarksBackUptoCard : Claim7 := { stood := { row := fnMarksBackUptoRow, standIns := [], harness := (true, "4d6386ec17bb61bb766ad71e4c9e02cf66f233e011bd747acd12ba96528466cc"), looks := true }, kinds := [], alts := [], laidByText := true, laidKinds := [.handle], laidTests := true, laidLooks := .later }
def FnMarksBackUptoCardSaid : Prop := Claim7.holds Tryd.pinned (.plain (OpenSpec.upto fnMarksBackSpec)) fnMarksBackUptoCard

/-- THE SECOND FORM's CARD OF 'laws.FnExactMarksDelete'. -/
def fnExactMarksDeleteUptoCard : Claim7 := { stood := { row := fnExactMarksDeleteUptoRow, standIns := [], harness := (true, "4d6386ec17bb61bb766ad71e4c9e02cf66f233e011bd747acd12ba96528466cc"), looks := true }, kinds := [], alts := [], laidByText := true, laidKinds := [.handle], laidTests := true, laidLooks := .later }
def FnExactMarksDeleteUptoCardSaid : Prop := Claim7.holds Tryd.pinned (.plain (OpenSpec.upto fnExactMarksDeleteSpec)) fnExactMarksDeleteUptoCard

/-- THE SECOND FORM's CARD OF 'laws.FnExactMarksInsert'. -/
def fnExactMarksInsertUptoCard : Claim7 := { stood := { row := fnExactMarksInsertUptoRow, standIns := [], harness := (true, "4d6386ec17bb61bb766ad71e4c9e02cf66f233e011bd747acd12ba96528466cc"), looks := true }, kinds := [], alts := [], laidByText := true, laidKinds := [.handle], laidTests := true, laidLooks := .later }
def FnExactMarksInsertUptoCardSaid : Prop := Claim7.holds Tryd.pinned (.plain (OpenSpec.upto fnExactMarksInsertSpec)) fnExactMarksInsertUptoCard
end Rows
end Go.Proofs.YtefdjajmnkmbgaaDoor
