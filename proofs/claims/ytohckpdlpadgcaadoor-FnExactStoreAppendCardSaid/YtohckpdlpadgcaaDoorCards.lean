/-
  DERIVED. GIVEN WITH THE SEED: THE CARDS: each row of YtohckpdlpadgcaaDoorRows.lean that lists a variable, with what it lists TIED to the program's text (the seventh form; the later family's looks); each row that meets fmt, with fmt's text TOLD by the authors' own Lean function (tested against real Go, not proved from fmt's source: count such statements apart). THE CARD IS WHAT COUNTS. Prove the row's statement (the work); the ties are given (YtohckpdlpadgcaaDoorTie.lean); close each card by the builder's one call (the guide's Derived/Test/ToyasCard.lean, 'card_holds'). Laid BY PROGRAM, IN A SANDBOX (cutbox-door.mjs). By AI agents, Wed Nov 11 2026. No macro, syntax, notation, axiom, sorry.
-/
import Derived.Test.YtohckpdlpadgcaaDoorRows
import GoSem.ClaimSeven
namespace Go.Proofs.YtohckpdlpadgcaaDoor
namespace Rows

/-- THE TIED CARD OF 'laws.FnExactStoreRead'. -/
def fnExactStoreReadCard : Claim7 := { stood := { row := fnExactStoreReadRow, standIns := [], harness := (true, "ba5ed7e585416be7317070ab9fd63e0ffd6df6e9b29b2099142845ba029fd192"), looks := true }, kinds := [], alts := [], laidByText := true, laidKinds := [.handle], laidTests := true, laidLooks := .later }
def FnExactStoreReadCardSaid : Prop := Claim7.holds Tryd.pinned (.plain (OpenSpec.ofChange fnExactStoreReadSpec)) fnExactStoreReadCard

/-- THE TIED CARD OF 'laws.FnExactStoreAppend'. -/
def fnExactStoreAppendCard : Claim7 := { stood := { row := fnExactStoreAppendRow, standIns := [], harness := (true, "ba5ed7e585416be7317070ab9fd63e0ffd6df6e9b29b2099142845ba029fd192"), looks := true }, kinds := [], alts := [], laidByText := true, laidKinds := [.handle], laidTests := true, laidLooks := .later }
def FnExactStoreAppendCardSaid : Prop := Claim7.holds Tryd.pinned (.plain (OpenSpec.ofChange fnExactStoreAppendSpec)) fnExactStoreAppendCard

/-- THE TIED CARD OF 'laws.FnStore'. -/
def fnStoreCard : Claim7 := { stood := { row := fnStoreRow, standIns := [], harness := (true, "ba5ed7e585416be7317070ab9fd63e0ffd6df6e9b29b2099142845ba029fd192"), looks := true }, kinds := [], alts := [], laidByText := true, laidKinds := [.handle], laidTests := true, laidLooks := .later }
def FnStoreCardSaid : Prop := Claim7.holds Tryd.pinned (.plain (OpenSpec.ofChange fnStoreSpec)) fnStoreCard

/-- THE SECOND FORM's CARD OF 'laws.FnExactStoreRead'. -/
def fnExactStoreReadUptoCard : Claim7 := { stood := { row := fnExactStoreReadUptoRow, standIns := [], harness := (true, "ba5ed7e585416be7317070ab9fd63e0ffd6df6e9b29b2099142845ba029fd192"), looks := true }, kinds := [], alts := [], laidByText := true, laidKinds := [.handle], laidTests := true, laidLooks := .later }
def FnExactStoreReadUptoCardSaid : Prop := Claim7.holds Tryd.pinned (.plain (OpenSpec.upto fnExactStoreReadSpec)) fnExactStoreReadUptoCard

/-- THE SECOND FORM's CARD OF 'laws.FnExactStoreAppend'. -/
def fnExactStoreAppendUptoCard : Claim7 := { stood := { row := fnExactStoreAppendUptoRow, standIns := [], harness := (true, "ba5ed7e585416be7317070ab9fd63e0ffd6df6e9b29b2099142845ba029fd192"), looks := true }, kinds := [], alts := [], laidByText := true, laidKinds := [.handle], laidTests := true, laidLooks := .later }
def FnExactStoreAppendUptoCardSaid : Prop := Claim7.holds Tryd.pinned (.plain (OpenSpec.upto fnExactStoreAppendSpec)) fnExactStoreAppendUptoCard

/-- THE SECOND FORM's CARD OF 'laws.FnStore'. -/
def fnStoreUptoCard : Claim7 := { stood := { row := fnStoreUptoRow, standIns := [], harness := (true, "ba5ed7e585416be7317070ab9fd63e0ffd6df6e9b29b2099142845ba029fd192"), looks := true }, kinds := [], alts := [], laidByText := true, laidKinds := [.handle], laidTests := true, laidLooks := .later }
def FnStoreUptoCardSaid : Prop := Claim7.holds Tryd.pinned (.plain (OpenSpec.upto fnStoreSpec)) fnStoreUptoCard
end Rows
end Go.Proofs.YtohckpdlpadgcaaDoor
