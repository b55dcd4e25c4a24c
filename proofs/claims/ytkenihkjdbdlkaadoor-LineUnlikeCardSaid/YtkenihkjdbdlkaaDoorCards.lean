/-
  DERIVED. GIVEN WITH THE SEED: THE CARDS: each row of YtkenihkjdbdlkaaDoorRows.lean that lists a variable, with what it lists TIED to the program's text (the seventh form; the later family's looks); each row that meets fmt, with fmt's text TOLD by the authors' own Lean function (tested against real Go, not proved from fmt's source: count such statements apart). THE CARD IS WHAT COUNTS. Prove the row's statement (the work); the ties are given (YtkenihkjdbdlkaaDoorTie.lean); close each card by the builder's one call (the guide's Derived/Test/ToyasCard.lean, 'card_holds'). Laid BY PROGRAM, IN A SANDBOX (cutbox-door.mjs). By AI agents, Wed Nov 11 2026. No macro, syntax, notation, axiom, sorry.
-/
import Derived.Test.YtkenihkjdbdlkaaDoorRows
import GoSem.ClaimSeven
namespace Go.Proofs.YtkenihkjdbdlkaaDoor
namespace Rows

/-- THE TIED CARD OF 'prebendlaw27.LinePrints'. -/
def linePrintsCard : Claim7 := { stood := { row := linePrintsRow, standIns := [], harness := (true, "c8a6fb925cda7d3e62bd413024c0fb3cfa86bd09cc0f60d1cca1ba551bfc76b0"), looks := true }, kinds := [], alts := [], laidByText := true, laidKinds := [.data, .data, .data, .sentinel, .sentinel], laidTests := true, laidLooks := .later }
def LinePrintsCardSaid : Prop := Claim7.holds Tryd.pinned (.plain (OpenSpec.ofChange linePrintsSpec)) linePrintsCard

/-- THE TIED CARD OF 'prebendlaw27.LineParses'. -/
def lineParsesCard : Claim7 := { stood := { row := lineParsesRow, standIns := [], harness := (true, "c8a6fb925cda7d3e62bd413024c0fb3cfa86bd09cc0f60d1cca1ba551bfc76b0"), looks := true }, kinds := [], alts := [], laidByText := true, laidKinds := [.data, .data, .data, .sentinel, .sentinel], laidTests := true, laidLooks := .later }
def LineParsesCardSaid : Prop := Claim7.holds Tryd.pinned (.plain (OpenSpec.ofChange lineParsesSpec)) lineParsesCard

/-- THE TIED CARD OF 'prebendlaw27.LineBack'. -/
def lineBackCard : Claim7 := { stood := { row := lineBackRow, standIns := [], harness := (true, "c8a6fb925cda7d3e62bd413024c0fb3cfa86bd09cc0f60d1cca1ba551bfc76b0"), looks := true }, kinds := [], alts := [], laidByText := true, laidKinds := [.data, .data, .data, .sentinel, .sentinel], laidTests := true, laidLooks := .later }
def LineBackCardSaid : Prop := Claim7.holds Tryd.pinned (.plain (OpenSpec.ofChange lineBackSpec)) lineBackCard

/-- THE TIED CARD OF 'prebendlaw27.LineUnlike'. -/
def lineUnlikeCard : Claim7 := { stood := { row := lineUnlikeRow, standIns := [], harness := (true, "c8a6fb925cda7d3e62bd413024c0fb3cfa86bd09cc0f60d1cca1ba551bfc76b0"), looks := true }, kinds := [], alts := [], laidByText := true, laidKinds := [.data, .data, .data, .sentinel, .sentinel], laidTests := true, laidLooks := .later }
def LineUnlikeCardSaid : Prop := Claim7.holds Tryd.pinned (.plain (OpenSpec.ofChange lineUnlikeSpec)) lineUnlikeCard

/-- THE TIED CARD OF 'prebendlaw26.TextWords'. -/
def textWordsCard : Claim7 := { stood := { row := textWordsRow, standIns := [], harness := (true, "c8a6fb925cda7d3e62bd413024c0fb3cfa86bd09cc0f60d1cca1ba551bfc76b0"), looks := true }, kinds := [], alts := [], laidByText := true, laidKinds := [.data, .data, .data, .data, .sentinel, .sentinel, .pinned], laidTests := true, laidLooks := .later }
def TextWordsCardSaid : Prop := Claim7.holds Tryd.pinned (.plain (OpenSpec.ofChange textWordsSpec)) textWordsCard

/-- THE TIED CARD OF 'prebendlaw26.TextLines'. -/
def textLinesCard : Claim7 := { stood := { row := textLinesRow, standIns := [], harness := (true, "c8a6fb925cda7d3e62bd413024c0fb3cfa86bd09cc0f60d1cca1ba551bfc76b0"), looks := true }, kinds := [], alts := [], laidByText := true, laidKinds := [.data, .data, .data, .data, .sentinel, .sentinel, .pinned], laidTests := true, laidLooks := .later }
def TextLinesCardSaid : Prop := Claim7.holds Tryd.pinned (.plain (OpenSpec.ofChange textLinesSpec)) textLinesCard

/-- THE TIED CARD OF 'prebendlaw26.TextBack'. -/
def textBackCard : Claim7 := { stood := { row := textBackRow, standIns := [], harness := (true, "c8a6fb925cda7d3e62bd413024c0fb3cfa86bd09cc0f60d1cca1ba551bfc76b0"), looks := true }, kinds := [], alts := [], laidByText := true, laidKinds := [.data, .data, .data, .data, .sentinel, .sentinel, .pinned], laidTests := true, laidLooks := .later }
def TextBackCardSaid : Prop := Claim7.holds Tryd.pinned (.plain (OpenSpec.ofChange textBackSpec)) textBackCard

/-- THE TIED CARD OF 'prebendlaw26.TextUnlike'. -/
def textUnlikeCard : Claim7 := { stood := { row := textUnlikeRow, standIns := [], harness := (true, "c8a6fb925cda7d3e62bd413024c0fb3cfa86bd09cc0f60d1cca1ba551bfc76b0"), looks := true }, kinds := [], alts := [], laidByText := true, laidKinds := [.data, .data, .data, .data, .sentinel, .sentinel, .pinned], laidTests := true, laidLooks := .later }
def TextUnlikeCardSaid : Prop := Claim7.holds Tryd.pinned (.plain (OpenSpec.ofChange textUnlikeSpec)) textUnlikeCard

/-- THE TIED CARD OF 'prebendlaw26.TextCuts'. -/
def textCutsCard : Claim7 := { stood := { row := textCutsRow, standIns := [], harness := (true, "c8a6fb925cda7d3e62bd413024c0fb3cfa86bd09cc0f60d1cca1ba551bfc76b0"), looks := true }, kinds := [], alts := [], laidByText := true, laidKinds := [.data, .data, .data, .data, .sentinel, .sentinel, .pinned], laidTests := true, laidLooks := .later }
def TextCutsCardSaid : Prop := Claim7.holds Tryd.pinned (.plain (OpenSpec.ofChange textCutsSpec)) textCutsCard

/-- THE SECOND FORM's CARD OF 'prebendlaw27.LinePrints'. -/
def linePrintsUptoCard : Claim7 := { stood := { row := linePrintsUptoRow, standIns := [], harness := (true, "c8a6fb925cda7d3e62bd413024c0fb3cfa86bd09cc0f60d1cca1ba551bfc76b0"), looks := true }, kinds := [], alts := [], laidByText := true, laidKinds := [.data, .data, .data, .sentinel, .sentinel], laidTests := true, laidLooks := .later }
def LinePrintsUptoCardSaid : Prop := Claim7.holds Tryd.pinned (.plain (OpenSpec.upto linePrintsSpec)) linePrintsUptoCard

/-- THE SECOND FORM's CARD OF 'prebendlaw27.LineParses'. -/
def lineParsesUptoCard : Claim7 := { stood := { row := lineParsesUptoRow, standIns := [], harness := (true, "c8a6fb925cda7d3e62bd413024c0fb3cfa86bd09cc0f60d1cca1ba551bfc76b0"), looks := true }, kinds := [], alts := [], laidByText := true, laidKinds := [.data, .data, .data, .sentinel, .sentinel], laidTests := true, laidLooks := .later }
def LineParsesUptoCardSaid : Prop := Claim7.holds Tryd.pinned (.plain (OpenSpec.upto lineParsesSpec)) lineParsesUptoCard

/-- THE SECOND FORM's CARD OF 'prebendlaw27.LineBack'. -/
def lineBackUptoCard : Claim7 := { stood := { row := lineBackUptoRow, standIns := [], harness := (true, "c8a6fb925cda7d3e62bd413024c0fb3cfa86bd09cc0f60d1cca1ba551bfc76b0"), looks := true }, kinds := [], alts := [], laidByText := true, laidKinds := [.data, .data, .data, .sentinel, .sentinel], laidTests := true, laidLooks := .later }
def LineBackUptoCardSaid : Prop := Claim7.holds Tryd.pinned (.plain (OpenSpec.upto lineBackSpec)) lineBackUptoCard

/-- THE SECOND FORM's CARD OF 'prebendlaw27.LineUnlike'. -/
def lineUnlikeUptoCard : Claim7 := { stood := { row := lineUnlikeUptoRow, standIns := [], harness := (true, "c8a6fb925cda7d3e62bd413024c0fb3cfa86bd09cc0f60d1cca1ba551bfc76b0"), looks := true }, kinds := [], alts := [], laidByText := true, laidKinds := [.data, .data, .data, .sentinel, .sentinel], laidTests := true, laidLooks := .later }
def LineUnlikeUptoCardSaid : Prop := Claim7.holds Tryd.pinned (.plain (OpenSpec.upto lineUnlikeSpec)) lineUnlikeUptoCard

/-- THE SECOND FORM's CARD OF 'prebendlaw26.TextWords'. -/
def textWordsUptoCard : Claim7 := { stood := { row := textWordsUptoRow, standIns := [], harness := (true, "c8a6fb925cda7d3e62bd413024c0fb3cfa86bd09cc0f60d1cca1ba551bfc76b0"), looks := true }, kinds := [], alts := [], laidByText := true, laidKinds := [.data, .data, .data, .data, .sentinel, .sentinel, .pinned], laidTests := true, laidLooks := .later }
def TextWordsUptoCardSaid : Prop := Claim7.holds Tryd.pinned (.plain (OpenSpec.upto textWordsSpec)) textWordsUptoCard

/-- THE SECOND FORM's CARD OF 'prebendlaw26.TextLines'. -/
def textLinesUptoCard : Claim7 := { stood := { row := textLinesUptoRow, standIns := [], harness := (true, "c8a6fb925cda7d3e62bd413024c0fb3cfa86bd09cc0f60d1cca1ba551bfc76b0"), looks := true }, kinds := [], alts := [], laidByText := true, laidKinds := [.data, .data, .data, .data, .sentinel, .sentinel, .pinned], laidTests := true, laidLooks := .later }
def TextLinesUptoCardSaid : Prop := Claim7.holds Tryd.pinned (.plain (OpenSpec.upto textLinesSpec)) textLinesUptoCard

/-- THE SECOND FORM's CARD OF 'prebendlaw26.TextBack'. -/
def textBackUptoCard : Claim7 := { stood := { row := textBackUptoRow, standIns := [], harness := (true, "c8a6fb925cda7d3e62bd413024c0fb3cfa86bd09cc0f60d1cca1ba551bfc76b0"), looks := true }, kinds := [], alts := [], laidByText := true, laidKinds := [.data, .data, .data, .data, .sentinel, .sentinel, .pinned], laidTests := true, laidLooks := .later }
def TextBackUptoCardSaid : Prop := Claim7.holds Tryd.pinned (.plain (OpenSpec.upto textBackSpec)) textBackUptoCard

/-- THE SECOND FORM's CARD OF 'prebendlaw26.TextUnlike'. -/
def textUnlikeUptoCard : Claim7 := { stood := { row := textUnlikeUptoRow, standIns := [], harness := (true, "c8a6fb925cda7d3e62bd413024c0fb3cfa86bd09cc0f60d1cca1ba551bfc76b0"), looks := true }, kinds := [], alts := [], laidByText := true, laidKinds := [.data, .data, .data, .data, .sentinel, .sentinel, .pinned], laidTests := true, laidLooks := .later }
def TextUnlikeUptoCardSaid : Prop := Claim7.holds Tryd.pinned (.plain (OpenSpec.upto textUnlikeSpec)) textUnlikeUptoCard

/-- THE SECOND FORM's CARD OF 'prebendlaw26.TextCuts'. -/
def textCutsUptoCard : Claim7 := { stood := { row := textCutsUptoRow, standIns := [], harness := (true, "c8a6fb925cda7d3e62bd413024c0fb3cfa86bd09cc0f60d1cca1ba551bfc76b0"), looks := true }, kinds := [], alts := [], laidByText := true, laidKinds := [.data, .data, .data, .data, .sentinel, .sentinel, .pinned], laidTests := true, laidLooks := .later }
def TextCutsUptoCardSaid : Prop := Claim7.holds Tryd.pinned (.plain (OpenSpec.upto textCutsSpec)) textCutsUptoCard
end Rows
end Go.Proofs.YtkenihkjdbdlkaaDoor
