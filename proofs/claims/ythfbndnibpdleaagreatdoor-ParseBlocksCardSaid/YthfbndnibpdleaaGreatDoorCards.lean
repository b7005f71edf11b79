/-
  DERIVED. GIVEN WITH THE SEED: THE CARDS: each row of YthfbndnibpdleaaGreatDoorRows.lean that lists a variable, with what it lists TIED to the program's text (the seventh form; the later family's looks); each row that meets fmt, with fmt's text TOLD by the authors' own Lean function (tested against real Go, not proved from fmt's source: count such statements apart). THE CARD IS WHAT COUNTS. Prove the row's statement (the work); the ties are given (YthfbndnibpdleaaGreatDoorTie.lean); close each card by the builder's one call (the guide's Derived/Test/ToyasCard.lean, 'card_holds'). Laid BY PROGRAM, IN A SANDBOX (cutbox-door.mjs). By AI agents, Wed Nov 11 2026. No macro, syntax, notation, axiom, sorry.
-/
import Derived.Test.YthfbndnibpdleaaGreatDoorRows
import GoSem.ClaimSeven
namespace Go.Proofs.YthfbndnibpdleaaGreatDoor
namespace Rows

/-- THE TIED CARD OF 'ratlinelaw5.ParseShows'. -/
def parseShowsCard : Claim7 := { stood := { row := parseShowsRow, standIns := [], harness := (true, "9ea3e31ca2d11eafaefb0f874a2ee351b4f051be50377bbe1c16549972abcf50"), looks := true }, kinds := [], alts := [], laidByText := true, laidKinds := [.data, .data, .data, .sentinel, .sentinel], laidTests := true, laidLooks := .later }
def ParseShowsCardSaid : Prop := Claim7.holds Tryz.pinned (.plain (OpenSpec.ofChange parseShowsSpec)) parseShowsCard

/-- THE TIED CARD OF 'ratlinelaw5.ParseDeep'. -/
def parseDeepCard : Claim7 := { stood := { row := parseDeepRow, standIns := [], harness := (true, "9ea3e31ca2d11eafaefb0f874a2ee351b4f051be50377bbe1c16549972abcf50"), looks := true }, kinds := [], alts := [], laidByText := true, laidKinds := [.data, .data, .data, .sentinel, .sentinel], laidTests := true, laidLooks := .later }
def ParseDeepCardSaid : Prop := Claim7.holds Tryz.pinned (.plain (OpenSpec.ofChange parseDeepSpec)) parseDeepCard

/-- THE TIED CARD OF 'ratlinelaw5.ParsePrints'. -/
def parsePrintsCard : Claim7 := { stood := { row := parsePrintsRow, standIns := [], harness := (true, "9ea3e31ca2d11eafaefb0f874a2ee351b4f051be50377bbe1c16549972abcf50"), looks := true }, kinds := [], alts := [], laidByText := true, laidKinds := [.data, .data, .data, .sentinel, .sentinel], laidTests := true, laidLooks := .later }
def ParsePrintsCardSaid : Prop := Claim7.holds Tryz.pinned (.plain (OpenSpec.ofChange parsePrintsSpec)) parsePrintsCard

/-- THE TIED CARD OF 'ratlinelaw5.ParseTrees'. -/
def parseTreesCard : Claim7 := { stood := { row := parseTreesRow, standIns := [], harness := (true, "9ea3e31ca2d11eafaefb0f874a2ee351b4f051be50377bbe1c16549972abcf50"), looks := true }, kinds := [], alts := [], laidByText := true, laidKinds := [.data, .data, .data, .sentinel, .sentinel], laidTests := true, laidLooks := .later }
def ParseTreesCardSaid : Prop := Claim7.holds Tryz.pinned (.plain (OpenSpec.ofChange parseTreesSpec)) parseTreesCard

/-- THE TIED CARD OF 'ratlinelaw5.ParseBlocks'. -/
def parseBlocksCard : Claim7 := { stood := { row := parseBlocksRow, standIns := [], harness := (true, "9ea3e31ca2d11eafaefb0f874a2ee351b4f051be50377bbe1c16549972abcf50"), looks := true }, kinds := [], alts := [], laidByText := true, laidKinds := [.data, .data, .data, .sentinel, .sentinel], laidTests := true, laidLooks := .later }
def ParseBlocksCardSaid : Prop := Claim7.holds Tryz.pinned (.plain (OpenSpec.ofChange parseBlocksSpec)) parseBlocksCard

/-- THE SECOND FORM's CARD OF 'ratlinelaw5.ParseShows'. -/
def parseShowsUptoCard : Claim7 := { stood := { row := parseShowsUptoRow, standIns := [], harness := (true, "9ea3e31ca2d11eafaefb0f874a2ee351b4f051be50377bbe1c16549972abcf50"), looks := true }, kinds := [], alts := [], laidByText := true, laidKinds := [.data, .data, .data, .sentinel, .sentinel], laidTests := true, laidLooks := .later }
def ParseShowsUptoCardSaid : Prop := Claim7.holds Tryz.pinned (.plain (OpenSpec.upto parseShowsSpec)) parseShowsUptoCard

/-- THE SECOND FORM's CARD OF 'ratlinelaw5.ParseDeep'. -/
def parseDeepUptoCard : Claim7 := { stood := { row := parseDeepUptoRow, standIns := [], harness := (true, "9ea3e31ca2d11eafaefb0f874a2ee351b4f051be50377bbe1c16549972abcf50"), looks := true }, kinds := [], alts := [], laidByText := true, laidKinds := [.data, .data, .data, .sentinel, .sentinel], laidTests := true, laidLooks := .later }
def ParseDeepUptoCardSaid : Prop := Claim7.holds Tryz.pinned (.plain (OpenSpec.upto parseDeepSpec)) parseDeepUptoCard

/-- THE SECOND FORM's CARD OF 'ratlinelaw5.ParsePrints'. -/
def parsePrintsUptoCard : Claim7 := { stood := { row := parsePrintsUptoRow, standIns := [], harness := (true, "9ea3e31ca2d11eafaefb0f874a2ee351b4f051be50377bbe1c16549972abcf50"), looks := true }, kinds := [], alts := [], laidByText := true, laidKinds := [.data, .data, .data, .sentinel, .sentinel], laidTests := true, laidLooks := .later }
def ParsePrintsUptoCardSaid : Prop := Claim7.holds Tryz.pinned (.plain (OpenSpec.upto parsePrintsSpec)) parsePrintsUptoCard

/-- THE SECOND FORM's CARD OF 'ratlinelaw5.ParseTrees'. -/
def parseTreesUptoCard : Claim7 := { stood := { row := parseTreesUptoRow, standIns := [], harness := (true, "9ea3e31ca2d11eafaefb0f874a2ee351b4f051be50377bbe1c16549972abcf50"), looks := true }, kinds := [], alts := [], laidByText := true, laidKinds := [.data, .data, .data, .sentinel, .sentinel], laidTests := true, laidLooks := .later }
def ParseTreesUptoCardSaid : Prop := Claim7.holds Tryz.pinned (.plain (OpenSpec.upto parseTreesSpec)) parseTreesUptoCard

/-- THE SECOND FORM's CARD OF 'ratlinelaw5.ParseBlocks'. -/
def parseBlocksUptoCard : Claim7 := { stood := { row := parseBlocksUptoRow, standIns := [], harness := (true, "9ea3e31ca2d11eafaefb0f874a2ee351b4f051be50377bbe1c16549972abcf50"), looks := true }, kinds := [], alts := [], laidByText := true, laidKinds := [.data, .data, .data, .sentinel, .sentinel], laidTests := true, laidLooks := .later }
def ParseBlocksUptoCardSaid : Prop := Claim7.holds Tryz.pinned (.plain (OpenSpec.upto parseBlocksSpec)) parseBlocksUptoCard
end Rows
end Go.Proofs.YthfbndnibpdleaaGreatDoor
