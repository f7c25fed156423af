/-
  DERIVED. GIVEN WITH THE SEED: THE CARDS: each row of YtlacoameobpfgaaDoorRows.lean that lists a variable, with what it lists TIED to the program's text (the seventh form; the later family's looks); each row that meets fmt, with fmt's text TOLD by the authors' own Lean function (tested against real Go, not proved from fmt's source: count such statements apart). THE CARD IS WHAT COUNTS. Prove the row's statement (the work); the ties are given (YtlacoameobpfgaaDoorTie.lean); close each card by the builder's one call (the guide's Derived/Test/ToyasCard.lean, 'card_holds'). Laid BY PROGRAM, IN A SANDBOX (cutbox-door.mjs). By AI agents, Wed Nov 11 2026. No macro, syntax, notation, axiom, sorry.
-/
import Derived.Test.YtlacoameobpfgaaDoorRows
import GoSem.ClaimSeven
namespace Go.Proofs.YtlacoameobpfgaaDoor
namespace Rows

/-- THE TIED CARD OF 'laws.FnExactGapRead'. -/
def fnExactGapReadCard : Claim7 := { stood := { row := fnExactGapReadRow, standIns := [], harness := (true, "65f901b7ceb3602692012bd40a204611b92c4f68ceeab9665d12329ba1e867ef"), looks := true }, kinds := [], alts := [], laidByText := true, laidKinds := [.handle], laidTests := true, laidLooks := .later }
def FnExactGapReadCardSaid : Prop := Claim7.holds Tryd.pinned (.plain (OpenSpec.ofChange fnExactGapReadSpec)) fnExactGapReadCard

/-- THE TIED CARD OF 'laws.FnExactGapDelete'. -/
def fnExactGapDeleteCard : Claim7 := { stood := { row := fnExactGapDeleteRow, standIns := [], harness := (true, "65f901b7ceb3602692012bd40a204611b92c4f68ceeab9665d12329ba1e867ef"), looks := true }, kinds := [], alts := [], laidByText := true, laidKinds := [.handle], laidTests := true, laidLooks := .later }
def FnExactGapDeleteCardSaid : Prop := Claim7.holds Tryd.pinned (.plain (OpenSpec.ofChange fnExactGapDeleteSpec)) fnExactGapDeleteCard

/-- THE TIED CARD OF 'laws.FnExactGapInsert'. -/
def fnExactGapInsertCard : Claim7 := { stood := { row := fnExactGapInsertRow, standIns := [], harness := (true, "65f901b7ceb3602692012bd40a204611b92c4f68ceeab9665d12329ba1e867ef"), looks := true }, kinds := [], alts := [], laidByText := true, laidKinds := [.handle], laidTests := true, laidLooks := .later }
def FnExactGapInsertCardSaid : Prop := Claim7.holds Tryd.pinned (.plain (OpenSpec.ofChange fnExactGapInsertSpec)) fnExactGapInsertCard

/-- THE TIED CARD OF 'laws.FnGapScript'. -/
def fnGapScriptCard : Claim7 := { stood := { row := fnGapScriptRow, standIns := [], harness := (true, "65f901b7ceb3602692012bd40a204611b92c4f68ceeab9665d12329ba1e867ef"), looks := true }, kinds := [], alts := [], laidByText := true, laidKinds := [.handle], laidTests := true, laidLooks := .later }
def FnGapScriptCardSaid : Prop := Claim7.holds Tryd.pinned (.plain (OpenSpec.ofChange fnGapScriptSpec)) fnGapScriptCard

/-- THE TIED CARD OF 'laws.FnExactLineLineCol'. -/
def fnExactLineLineColCard : Claim7 := { stood := { row := fnExactLineLineColRow, standIns := [], harness := (true, "65f901b7ceb3602692012bd40a204611b92c4f68ceeab9665d12329ba1e867ef"), looks := true }, kinds := [], alts := [], laidByText := true, laidKinds := [.handle], laidTests := true, laidLooks := .later }
def FnExactLineLineColCardSaid : Prop := Claim7.holds Tryd.pinned (.plain (OpenSpec.ofChange fnExactLineLineColSpec)) fnExactLineLineColCard

/-- THE TIED CARD OF 'laws.FnExactLineDelete'. -/
def fnExactLineDeleteCard : Claim7 := { stood := { row := fnExactLineDeleteRow, standIns := [], harness := (true, "65f901b7ceb3602692012bd40a204611b92c4f68ceeab9665d12329ba1e867ef"), looks := true }, kinds := [], alts := [], laidByText := true, laidKinds := [.handle], laidTests := true, laidLooks := .later }
def FnExactLineDeleteCardSaid : Prop := Claim7.holds Tryd.pinned (.plain (OpenSpec.ofChange fnExactLineDeleteSpec)) fnExactLineDeleteCard

/-- THE TIED CARD OF 'laws.FnExactLineOffset'. -/
def fnExactLineOffsetCard : Claim7 := { stood := { row := fnExactLineOffsetRow, standIns := [], harness := (true, "65f901b7ceb3602692012bd40a204611b92c4f68ceeab9665d12329ba1e867ef"), looks := true }, kinds := [], alts := [], laidByText := true, laidKinds := [.handle], laidTests := true, laidLooks := .later }
def FnExactLineOffsetCardSaid : Prop := Claim7.holds Tryd.pinned (.plain (OpenSpec.ofChange fnExactLineOffsetSpec)) fnExactLineOffsetCard

/-- THE SECOND FORM's CARD OF 'laws.FnExactGapRead'. -/
def fnExactGapReadUptoCard : Claim7 := { stood := { row := fnExactGapReadUptoRow, standIns := [], harness := (true, "65f901b7ceb3602692012bd40a204611b92c4f68ceeab9665d12329ba1e867ef"), looks := true }, kinds := [], alts := [], laidByText := true, laidKinds := [.handle], laidTests := true, laidLooks := .later }
def FnExactGapReadUptoCardSaid : Prop := Claim7.holds Tryd.pinned (.plain (OpenSpec.upto fnExactGapReadSpec)) fnExactGapReadUptoCard

/-- THE SECOND FORM's CARD OF 'laws.FnExactGapDelete'. -/
def fnExactGapDeleteUptoCard : Claim7 := { stood := { row := fnExactGapDeleteUptoRow, standIns := [], harness := (true, "65f901b7ceb3602692012bd40a204611b92c4f68ceeab9665d12329ba1e867ef"), looks := true }, kinds := [], alts := [], laidByText := true, laidKinds := [.handle], laidTests := true, laidLooks := .later }
def FnExactGapDeleteUptoCardSaid : Prop := Claim7.holds Tryd.pinned (.plain (OpenSpec.upto fnExactGapDeleteSpec)) fnExactGapDeleteUptoCard

/-- THE SECOND FORM's CARD OF 'laws.FnExactGapInsert'. -/
def fnExactGapInsertUptoCard : Claim7 := { stood := { row := fnExactGapInsertUptoRow, standIns := [], harness := (true, "65f901b7ceb3602692012bd40a204611b92c4f68ceeab9665d12329ba1e867ef"), looks := true }, kinds := [], alts := [], laidByText := true, laidKinds := [.handle], laidTests := true, laidLooks := .later }
def FnExactGapInsertUptoCardSaid : Prop := Claim7.holds Tryd.pinned (.plain (OpenSpec.upto fnExactGapInsertSpec)) fnExactGapInsertUptoCard

/-- THE SECOND FORM's CARD OF 'laws.FnGapScript'. -/
def fnGapScriptUptoCard : Claim7 := { stood := { row := fnGapScriptUptoRow, standIns := [], harness := (true, "65f901b7ceb3602692012bd40a204611b92c4f68ceeab9665d12329ba1e867ef"), looks := true }, kinds := [], alts := [], laidByText := true, laidKinds := [.handle], laidTests := true, laidLooks := .later }
def FnGapScriptUptoCardSaid : Prop := Claim7.holds Tryd.pinned (.plain (OpenSpec.upto fnGapScriptSpec)) fnGapScriptUptoCard

/-- THE SECOND FORM's CARD OF 'laws.FnExactLineLineCol'. -/
def fnExactLineLineColUptoCard : Claim7 := { stood := { row := fnExactLineLineColUptoRow, standIns := [], harness := (true, "65f901b7ceb3602692012bd40a204611b92c4f68ceeab9665d12329ba1e867ef"), looks := true }, kinds := [], alts := [], laidByText := true, laidKinds := [.handle], laidTests := true, laidLooks := .later }
def FnExactLineLineColUptoCardSaid : Prop := Claim7.holds Tryd.pinned (.plain (OpenSpec.upto fnExactLineLineColSpec)) fnExactLineLineColUptoCard

/-- THE SECOND FORM's CARD OF 'laws.FnExactLineDelete'. -/
def fnExactLineDeleteUptoCard : Claim7 := { stood := { row := fnExactLineDeleteUptoRow, standIns := [], harness := (true, "65f901b7ceb3602692012bd40a204611b92c4f68ceeab9665d12329ba1e867ef"), looks := true }, kinds := [], alts := [], laidByText := true, laidKinds := [.handle], laidTests := true, laidLooks := .later }
def FnExactLineDeleteUptoCardSaid : Prop := Claim7.holds Tryd.pinned (.plain (OpenSpec.upto fnExactLineDeleteSpec)) fnExactLineDeleteUptoCard

/-- THE SECOND FORM's CARD OF 'laws.FnExactLineOffset'. -/
def fnExactLineOffsetUptoCard : Claim7 := { stood := { row := fnExactLineOffsetUptoRow, standIns := [], harness := (true, "65f901b7ceb3602692012bd40a204611b92c4f68ceeab9665d12329ba1e867ef"), looks := true }, kinds := [], alts := [], laidByText := true, laidKinds := [.handle], laidTests := true, laidLooks := .later }
def FnExactLineOffsetUptoCardSaid : Prop := Claim7.holds Tryd.pinned (.plain (OpenSpec.upto fnExactLineOffsetSpec)) fnExactLineOffsetUptoCard
end Rows
end Go.Proofs.YtlacoameobpfgaaDoor
