/-
  DERIVED. GIVEN WITH THE SEED: THE CARDS: each row of YtciabhncmdpeeaaDoorRows.lean that lists a variable, with what it lists TIED to the program's text (the seventh form; the later family's looks); each row that meets fmt, with fmt's text TOLD by the authors' own Lean function (tested against real Go, not proved from fmt's source: count such statements apart). THE CARD IS WHAT COUNTS. Prove the row's statement (the work); the ties are given (YtciabhncmdpeeaaDoorTie.lean); close each card by the builder's one call (the guide's Derived/Test/ToyasCard.lean, 'card_holds'). Laid BY PROGRAM, IN A SANDBOX (cutbox-door.mjs). By AI agents, Wed Nov 11 2026. No macro, syntax, notation, axiom, sorry.
-/
import Derived.Test.YtciabhncmdpeeaaDoorRows
import GoSem.ClaimSeven
namespace Go.Proofs.YtciabhncmdpeeaaDoor
namespace Rows

/-- THE TIED CARD OF 'laws.FnExactTreeFind'. -/
def fnExactTreeFindCard : Claim7 := { stood := { row := fnExactTreeFindRow, standIns := [], harness := (true, "e0454929327e22bd092071c42d39c400e2b17edddf6e3c7cf096c95d0d055bc9"), looks := true }, kinds := [], alts := [], laidByText := true, laidKinds := [.handle], laidTests := true, laidLooks := .later }
def FnExactTreeFindCardSaid : Prop := Claim7.holds Tryd.pinned (.plain (OpenSpec.ofChange fnExactTreeFindSpec)) fnExactTreeFindCard

/-- THE TIED CARD OF 'laws.FnExactTreeFindLine'. -/
def fnExactTreeFindLineCard : Claim7 := { stood := { row := fnExactTreeFindLineRow, standIns := [], harness := (true, "e0454929327e22bd092071c42d39c400e2b17edddf6e3c7cf096c95d0d055bc9"), looks := true }, kinds := [], alts := [], laidByText := true, laidKinds := [.handle], laidTests := true, laidLooks := .later }
def FnExactTreeFindLineCardSaid : Prop := Claim7.holds Tryd.pinned (.plain (OpenSpec.ofChange fnExactTreeFindLineSpec)) fnExactTreeFindLineCard

/-- THE TIED CARD OF 'laws.FnSplitJoin'. -/
def fnSplitJoinCard : Claim7 := { stood := { row := fnSplitJoinRow, standIns := [], harness := (true, "e0454929327e22bd092071c42d39c400e2b17edddf6e3c7cf096c95d0d055bc9"), looks := true }, kinds := [], alts := [], laidByText := true, laidKinds := [.handle], laidTests := true, laidLooks := .later }
def FnSplitJoinCardSaid : Prop := Claim7.holds Tryd.pinned (.plain (OpenSpec.ofChange fnSplitJoinSpec)) fnSplitJoinCard

/-- THE TIED CARD OF 'laws.FnFindPut'. -/
def fnFindPutCard : Claim7 := { stood := { row := fnFindPutRow, standIns := [], harness := (true, "e0454929327e22bd092071c42d39c400e2b17edddf6e3c7cf096c95d0d055bc9"), looks := true }, kinds := [], alts := [], laidByText := true, laidKinds := [.handle], laidTests := true, laidLooks := .later }
def FnFindPutCardSaid : Prop := Claim7.holds Tryd.pinned (.plain (OpenSpec.ofChange fnFindPutSpec)) fnFindPutCard

/-- THE TIED CARD OF 'laws.FnTreeScript'. -/
def fnTreeScriptCard : Claim7 := { stood := { row := fnTreeScriptRow, standIns := [], harness := (true, "e0454929327e22bd092071c42d39c400e2b17edddf6e3c7cf096c95d0d055bc9"), looks := true }, kinds := [], alts := [], laidByText := true, laidKinds := [.handle], laidTests := true, laidLooks := .later }
def FnTreeScriptCardSaid : Prop := Claim7.holds Tryd.pinned (.plain (OpenSpec.ofChange fnTreeScriptSpec)) fnTreeScriptCard

/-- THE TIED CARD OF 'laws.FnExactPieceSlice'. -/
def fnExactPieceSliceCard : Claim7 := { stood := { row := fnExactPieceSliceRow, standIns := [], harness := (true, "e0454929327e22bd092071c42d39c400e2b17edddf6e3c7cf096c95d0d055bc9"), looks := true }, kinds := [], alts := [], laidByText := true, laidKinds := [.handle], laidTests := true, laidLooks := .later }
def FnExactPieceSliceCardSaid : Prop := Claim7.holds Tryd.pinned (.plain (OpenSpec.ofChange fnExactPieceSliceSpec)) fnExactPieceSliceCard

/-- THE TIED CARD OF 'laws.FnExactPieceOffset'. -/
def fnExactPieceOffsetCard : Claim7 := { stood := { row := fnExactPieceOffsetRow, standIns := [], harness := (true, "e0454929327e22bd092071c42d39c400e2b17edddf6e3c7cf096c95d0d055bc9"), looks := true }, kinds := [], alts := [], laidByText := true, laidKinds := [.handle], laidTests := true, laidLooks := .later }
def FnExactPieceOffsetCardSaid : Prop := Claim7.holds Tryd.pinned (.plain (OpenSpec.ofChange fnExactPieceOffsetSpec)) fnExactPieceOffsetCard

/-- THE TIED CARD OF 'laws.FnExactPieceLineCol'. -/
def fnExactPieceLineColCard : Claim7 := { stood := { row := fnExactPieceLineColRow, standIns := [], harness := (true, "e0454929327e22bd092071c42d39c400e2b17edddf6e3c7cf096c95d0d055bc9"), looks := true }, kinds := [], alts := [], laidByText := true, laidKinds := [.handle], laidTests := true, laidLooks := .later }
def FnExactPieceLineColCardSaid : Prop := Claim7.holds Tryd.pinned (.plain (OpenSpec.ofChange fnExactPieceLineColSpec)) fnExactPieceLineColCard

/-- THE TIED CARD OF 'laws.FnExactTreeInsert'. -/
def fnExactTreeInsertCard : Claim7 := { stood := { row := fnExactTreeInsertRow, standIns := [], harness := (true, "e0454929327e22bd092071c42d39c400e2b17edddf6e3c7cf096c95d0d055bc9"), looks := true }, kinds := [], alts := [], laidByText := true, laidKinds := [.handle], laidTests := true, laidLooks := .later }
def FnExactTreeInsertCardSaid : Prop := Claim7.holds Tryd.pinned (.plain (OpenSpec.ofChange fnExactTreeInsertSpec)) fnExactTreeInsertCard

/-- THE TIED CARD OF 'laws.FnExactTreeDelete'. -/
def fnExactTreeDeleteCard : Claim7 := { stood := { row := fnExactTreeDeleteRow, standIns := [], harness := (true, "e0454929327e22bd092071c42d39c400e2b17edddf6e3c7cf096c95d0d055bc9"), looks := true }, kinds := [], alts := [], laidByText := true, laidKinds := [.handle], laidTests := true, laidLooks := .later }
def FnExactTreeDeleteCardSaid : Prop := Claim7.holds Tryd.pinned (.plain (OpenSpec.ofChange fnExactTreeDeleteSpec)) fnExactTreeDeleteCard

/-- THE TIED CARD OF 'laws.FnExactTreeSplit'. -/
def fnExactTreeSplitCard : Claim7 := { stood := { row := fnExactTreeSplitRow, standIns := [], harness := (true, "e0454929327e22bd092071c42d39c400e2b17edddf6e3c7cf096c95d0d055bc9"), looks := true }, kinds := [], alts := [], laidByText := true, laidKinds := [.handle], laidTests := true, laidLooks := .later }
def FnExactTreeSplitCardSaid : Prop := Claim7.holds Tryd.pinned (.plain (OpenSpec.ofChange fnExactTreeSplitSpec)) fnExactTreeSplitCard

/-- THE TIED CARD OF 'laws.FnExactTreeJoin'. -/
def fnExactTreeJoinCard : Claim7 := { stood := { row := fnExactTreeJoinRow, standIns := [], harness := (true, "e0454929327e22bd092071c42d39c400e2b17edddf6e3c7cf096c95d0d055bc9"), looks := true }, kinds := [], alts := [], laidByText := true, laidKinds := [.handle], laidTests := true, laidLooks := .later }
def FnExactTreeJoinCardSaid : Prop := Claim7.holds Tryd.pinned (.plain (OpenSpec.ofChange fnExactTreeJoinSpec)) fnExactTreeJoinCard

/-- THE SECOND FORM's CARD OF 'laws.FnExactTreeFind'. -/
def fnExactTreeFindUptoCard : Claim7 := { stood := { row := fnExactTreeFindUptoRow, standIns := [], harness := (true, "e0454929327e22bd092071c42d39c400e2b17edddf6e3c7cf096c95d0d055bc9"), looks := true }, kinds := [], alts := [], laidByText := true, laidKinds := [.handle], laidTests := true, laidLooks := .later }
def FnExactTreeFindUptoCardSaid : Prop := Claim7.holds Tryd.pinned (.plain (OpenSpec.upto fnExactTreeFindSpec)) fnExactTreeFindUptoCard

/-- THE SECOND FORM's CARD OF 'laws.FnExactTreeFindLine'. -/
def fnExactTreeFindLineUptoCard : Claim7 := { stood := { row := fnExactTreeFindLineUptoRow, standIns := [], harness := (true, "e0454929327e22bd092071c42d39c400e2b17edddf6e3c7cf096c95d0d055bc9"), looks := true }, kinds := [], alts := [], laidByText := true, laidKinds := [.handle], laidTests := true, laidLooks := .later }
def FnExactTreeFindLineUptoCardSaid : Prop := Claim7.holds Tryd.pinned (.plain (OpenSpec.upto fnExactTreeFindLineSpec)) fnExactTreeFindLineUptoCard

/-- THE SECOND FORM's CARD OF 'laws.FnSplitJoin'. -/
def fnSplitJoinUptoCard : Claim7 := { stood := { row := fnSplitJoinUptoRow, standIns := [], harness := (true, "e0454929327e22bd092071c42d39c400e2b17edddf6e3c7cf096c95d0d055bc9"), looks := true }, kinds := [], alts := [], laidByText := true, laidKinds := [.handle], laidTests := true, laidLooks := .later }
def FnSplitJoinUptoCardSaid : Prop := Claim7.holds Tryd.pinned (.plain (OpenSpec.upto fnSplitJoinSpec)) fnSplitJoinUptoCard

/-- THE SECOND FORM's CARD OF 'laws.FnFindPut'. -/
def fnFindPutUptoCard : Claim7 := { stood := { row := fnFindPutUptoRow, standIns := [], harness := (true, "e0454929327e22bd092071c42d39c400e2b17edddf6e3c7cf096c95d0d055bc9"), looks := true }, kinds := [], alts := [], laidByText := true, laidKinds := [.handle], laidTests := true, laidLooks := .later }
def FnFindPutUptoCardSaid : Prop := Claim7.holds Tryd.pinned (.plain (OpenSpec.upto fnFindPutSpec)) fnFindPutUptoCard

/-- THE SECOND FORM's CARD OF 'laws.FnTreeScript'. -/
def fnTreeScriptUptoCard : Claim7 := { stood := { row := fnTreeScriptUptoRow, standIns := [], harness := (true, "e0454929327e22bd092071c42d39c400e2b17edddf6e3c7cf096c95d0d055bc9"), looks := true }, kinds := [], alts := [], laidByText := true, laidKinds := [.handle], laidTests := true, laidLooks := .later }
def FnTreeScriptUptoCardSaid : Prop := Claim7.holds Tryd.pinned (.plain (OpenSpec.upto fnTreeScriptSpec)) fnTreeScriptUptoCard

/-- THE SECOND FORM's CARD OF 'laws.FnExactPieceSlice'. -/
def fnExactPieceSliceUptoCard : Claim7 := { stood := { row := fnExactPieceSliceUptoRow, standIns := [], harness := (true, "e0454929327e22bd092071c42d39c400e2b17edddf6e3c7cf096c95d0d055bc9"), looks := true }, kinds := [], alts := [], laidByText := true, laidKinds := [.handle], laidTests := true, laidLooks := .later }
def FnExactPieceSliceUptoCardSaid : Prop := Claim7.holds Tryd.pinned (.plain (OpenSpec.upto fnExactPieceSliceSpec)) fnExactPieceSliceUptoCard

/-- THE SECOND FORM's CARD OF 'laws.FnExactPieceOffset'. -/
def fnExactPieceOffsetUptoCard : Claim7 := { stood := { row := fnExactPieceOffsetUptoRow, standIns := [], harness := (true, "e0454929327e22bd092071c42d39c400e2b17edddf6e3c7cf096c95d0d055bc9"), looks := true }, kinds := [], alts := [], laidByText := true, laidKinds := [.handle], laidTests := true, laidLooks := .later }
def FnExactPieceOffsetUptoCardSaid : Prop := Claim7.holds Tryd.pinned (.plain (OpenSpec.upto fnExactPieceOffsetSpec)) fnExactPieceOffsetUptoCard

/-- THE SECOND FORM's CARD OF 'laws.FnExactPieceLineCol'. -/
def fnExactPieceLineColUptoCard : Claim7 := { stood := { row := fnExactPieceLineColUptoRow, standIns := [], harness := (true, "e0454929327e22bd092071c42d39c400e2b17edddf6e3c7cf096c95d0d055bc9"), looks := true }, kinds := [], alts := [], laidByText := true, laidKinds := [.handle], laidTests := true, laidLooks := .later }
def FnExactPieceLineColUptoCardSaid : Prop := Claim7.holds Tryd.pinned (.plain (OpenSpec.upto fnExactPieceLineColSpec)) fnExactPieceLineColUptoCard

/-- THE SECOND FORM's CARD OF 'laws.FnExactTreeInsert'. -/
def fnExactTreeInsertUptoCard : Claim7 := { stood := { row := fnExactTreeInsertUptoRow, standIns := [], harness := (true, "e0454929327e22bd092071c42d39c400e2b17edddf6e3c7cf096c95d0d055bc9"), looks := true }, kinds := [], alts := [], laidByText := true, laidKinds := [.handle], laidTests := true, laidLooks := .later }
def FnExactTreeInsertUptoCardSaid : Prop := Claim7.holds Tryd.pinned (.plain (OpenSpec.upto fnExactTreeInsertSpec)) fnExactTreeInsertUptoCard

/-- THE SECOND FORM's CARD OF 'laws.FnExactTreeDelete'. -/
def fnExactTreeDeleteUptoCard : Claim7 := { stood := { row := fnExactTreeDeleteUptoRow, standIns := [], harness := (true, "e0454929327e22bd092071c42d39c400e2b17edddf6e3c7cf096c95d0d055bc9"), looks := true }, kinds := [], alts := [], laidByText := true, laidKinds := [.handle], laidTests := true, laidLooks := .later }
def FnExactTreeDeleteUptoCardSaid : Prop := Claim7.holds Tryd.pinned (.plain (OpenSpec.upto fnExactTreeDeleteSpec)) fnExactTreeDeleteUptoCard

/-- THE SECOND FORM's CARD OF 'laws.FnExactTreeSplit'. -/
def fnExactTreeSplitUptoCard : Claim7 := { stood := { row := fnExactTreeSplitUptoRow, standIns := [], harness := (true, "e0454929327e22bd092071c42d39c400e2b17edddf6e3c7cf096c95d0d055bc9"), looks := true }, kinds := [], alts := [], laidByText := true, laidKinds := [.handle], laidTests := true, laidLooks := .later }
def FnExactTreeSplitUptoCardSaid : Prop := Claim7.holds Tryd.pinned (.plain (OpenSpec.upto fnExactTreeSplitSpec)) fnExactTreeSplitUptoCard

/-- THE SECOND FORM's CARD OF 'laws.FnExactTreeJoin'. -/
def fnExactTreeJoinUptoCard : Claim7 := { stood := { row := fnExactTreeJoinUptoRow, standIns := [], harness := (true, "e0454929327e22bd092071c42d39c400e2b17edddf6e3c7cf096c95d0d055bc9"), looks := true }, kinds := [], alts := [], laidByText := true, laidKinds := [.handle], laidTests := true, laidLooks := .later }
def FnExactTreeJoinUptoCardSaid : Prop := Claim7.holds Tryd.pinned (.plain (OpenSpec.upto fnExactTreeJoinSpec)) fnExactTreeJoinUptoCard
end Rows
end Go.Proofs.YtciabhncmdpeeaaDoor
