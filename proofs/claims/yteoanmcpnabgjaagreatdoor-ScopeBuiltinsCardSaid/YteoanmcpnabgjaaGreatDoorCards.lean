/-
  DERIVED. GIVEN WITH THE SEED: THE CARDS: each row of YteoanmcpnabgjaaGreatDoorRows.lean that lists a variable, with what it lists TIED to the program's text (the seventh form; the later family's looks); each row that meets fmt, with fmt's text TOLD by the authors' own Lean function (tested against real Go, not proved from fmt's source: count such statements apart). THE CARD IS WHAT COUNTS. Prove the row's statement (the work); the ties are given (YteoanmcpnabgjaaGreatDoorTie.lean); close each card by the builder's one call (the guide's Derived/Test/ToyasCard.lean, 'card_holds'). Laid BY PROGRAM, IN A SANDBOX (cutbox-door.mjs). By AI agents, Wed Nov 11 2026. No macro, syntax, notation, axiom, sorry.
-/
import Derived.Test.YteoanmcpnabgjaaGreatDoorRows
import GoSem.ClaimSeven
namespace Go.Proofs.YteoanmcpnabgjaaGreatDoor
namespace Rows

/-- THE TIED CARD OF 'ratlinelaw6.ScopeBuiltins'. -/
def scopeBuiltinsCard : Claim7 := { stood := { row := scopeBuiltinsRow, standIns := [], harness := (true, "5e88d8edb866e8d58cd6eae1518524aaef1ba15376814f24def156df9961b4e6"), looks := true }, kinds := [], alts := [], laidByText := true, laidKinds := [.data, .data, .data, .sentinel, .sentinel], laidTests := true, laidLooks := .later }
def ScopeBuiltinsCardSaid : Prop := Claim7.holds Tryz.pinned (.plain (OpenSpec.ofChange scopeBuiltinsSpec)) scopeBuiltinsCard

/-- THE TIED CARD OF 'ratlinelaw6.ScopeBlocks'. -/
def scopeBlocksCard : Claim7 := { stood := { row := scopeBlocksRow, standIns := [], harness := (true, "5e88d8edb866e8d58cd6eae1518524aaef1ba15376814f24def156df9961b4e6"), looks := true }, kinds := [], alts := [], laidByText := true, laidKinds := [.data, .data, .data, .sentinel, .sentinel], laidTests := true, laidLooks := .later }
def ScopeBlocksCardSaid : Prop := Claim7.holds Tryz.pinned (.plain (OpenSpec.ofChange scopeBlocksSpec)) scopeBlocksCard

/-- THE SECOND FORM's CARD OF 'ratlinelaw6.ScopeBuiltins'. -/
def scopeBuiltinsUptoCard : Claim7 := { stood := { row := scopeBuiltinsUptoRow, standIns := [], harness := (true, "5e88d8edb866e8d58cd6eae1518524aaef1ba15376814f24def156df9961b4e6"), looks := true }, kinds := [], alts := [], laidByText := true, laidKinds := [.data, .data, .data, .sentinel, .sentinel], laidTests := true, laidLooks := .later }
def ScopeBuiltinsUptoCardSaid : Prop := Claim7.holds Tryz.pinned (.plain (OpenSpec.upto scopeBuiltinsSpec)) scopeBuiltinsUptoCard

/-- THE SECOND FORM's CARD OF 'ratlinelaw6.ScopeBlocks'. -/
def scopeBlocksUptoCard : Claim7 := { stood := { row := scopeBlocksUptoRow, standIns := [], harness := (true, "5e88d8edb866e8d58cd6eae1518524aaef1ba15376814f24def156df9961b4e6"), looks := true }, kinds := [], alts := [], laidByText := true, laidKinds := [.data, .data, .data, .sentinel, .sentinel], laidTests := true, laidLooks := .later }
def ScopeBlocksUptoCardSaid : Prop := Claim7.holds Tryz.pinned (.plain (OpenSpec.upto scopeBlocksSpec)) scopeBlocksUptoCard
end Rows
end Go.Proofs.YteoanmcpnabgjaaGreatDoor
