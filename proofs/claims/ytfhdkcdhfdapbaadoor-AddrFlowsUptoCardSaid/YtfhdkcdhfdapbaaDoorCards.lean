/-
  DERIVED. GIVEN WITH THE SEED: THE CARDS: each row of YtfhdkcdhfdapbaaDoorRows.lean that lists a variable, with what it lists TIED to the program's text (the seventh form; the later family's looks); each row that meets fmt, with fmt's text TOLD by the authors' own Lean function (tested against real Go, not proved from fmt's source: count such statements apart). THE CARD IS WHAT COUNTS. Prove the row's statement (the work); the ties are given (YtfhdkcdhfdapbaaDoorTie.lean); close each card by the builder's one call (the guide's Derived/Test/ToyasCard.lean, 'card_holds'). Laid BY PROGRAM, IN A SANDBOX (cutbox-door.mjs). By AI agents, Wed Nov 11 2026. No macro, syntax, notation, axiom, sorry.
-/
import Derived.Test.YtfhdkcdhfdapbaaDoorRows
import GoSem.ClaimSeven
namespace Go.Proofs.YtfhdkcdhfdapbaaDoor
namespace Rows

/-- THE TIED CARD OF 'towpathlaw01.AddrTexts'. -/
def addrTextsCard : Claim7 := { stood := { row := addrTextsRow, standIns := [], harness := (true, "c71effb86ff5fa095992490ac7d936d1e00851505728043d9025401163bf93ea"), looks := true }, kinds := [], alts := [], laidByText := true, laidKinds := [.data, .data, .data, .data, .sentinel, .sentinel, .pinned], laidTests := true, laidLooks := .later }
def AddrTextsCardSaid : Prop := Claim7.holds Tryd.pinned (.plain (OpenSpec.ofChange addrTextsSpec)) addrTextsCard

/-- THE TIED CARD OF 'towpathlaw01.AddrMachines'. -/
def addrMachinesCard : Claim7 := { stood := { row := addrMachinesRow, standIns := [], harness := (true, "c71effb86ff5fa095992490ac7d936d1e00851505728043d9025401163bf93ea"), looks := true }, kinds := [], alts := [], laidByText := true, laidKinds := [.data, .data, .data, .data, .sentinel, .sentinel, .pinned], laidTests := true, laidLooks := .later }
def AddrMachinesCardSaid : Prop := Claim7.holds Tryd.pinned (.plain (OpenSpec.ofChange addrMachinesSpec)) addrMachinesCard

/-- THE TIED CARD OF 'towpathlaw01.AddrPlaces'. -/
def addrPlacesCard : Claim7 := { stood := { row := addrPlacesRow, standIns := [], harness := (true, "c71effb86ff5fa095992490ac7d936d1e00851505728043d9025401163bf93ea"), looks := true }, kinds := [], alts := [], laidByText := true, laidKinds := [.data, .data, .data, .data, .sentinel, .sentinel, .pinned], laidTests := true, laidLooks := .later }
def AddrPlacesCardSaid : Prop := Claim7.holds Tryd.pinned (.plain (OpenSpec.ofChange addrPlacesSpec)) addrPlacesCard

/-- THE TIED CARD OF 'towpathlaw01.AddrBack'. -/
def addrBackCard : Claim7 := { stood := { row := addrBackRow, standIns := [], harness := (true, "c71effb86ff5fa095992490ac7d936d1e00851505728043d9025401163bf93ea"), looks := true }, kinds := [], alts := [], laidByText := true, laidKinds := [.data, .data, .data, .data, .sentinel, .sentinel, .pinned], laidTests := true, laidLooks := .later }
def AddrBackCardSaid : Prop := Claim7.holds Tryd.pinned (.plain (OpenSpec.ofChange addrBackSpec)) addrBackCard

/-- THE TIED CARD OF 'towpathlaw01.AddrOrders'. -/
def addrOrdersCard : Claim7 := { stood := { row := addrOrdersRow, standIns := [], harness := (true, "c71effb86ff5fa095992490ac7d936d1e00851505728043d9025401163bf93ea"), looks := true }, kinds := [], alts := [], laidByText := true, laidKinds := [.data, .data, .data, .data, .sentinel, .sentinel, .pinned], laidTests := true, laidLooks := .later }
def AddrOrdersCardSaid : Prop := Claim7.holds Tryd.pinned (.plain (OpenSpec.ofChange addrOrdersSpec)) addrOrdersCard

/-- THE TIED CARD OF 'towpathlaw01.AddrFlows'. -/
def addrFlowsCard : Claim7 := { stood := { row := addrFlowsRow, standIns := [], harness := (true, "c71effb86ff5fa095992490ac7d936d1e00851505728043d9025401163bf93ea"), looks := true }, kinds := [], alts := [], laidByText := true, laidKinds := [.data, .data, .data, .data, .sentinel, .sentinel, .pinned], laidTests := true, laidLooks := .later }
def AddrFlowsCardSaid : Prop := Claim7.holds Tryd.pinned (.plain (OpenSpec.ofChange addrFlowsSpec)) addrFlowsCard

/-- THE SECOND FORM's CARD OF 'towpathlaw01.AddrTexts'. -/
def addrTextsUptoCard : Claim7 := { stood := { row := addrTextsUptoRow, standIns := [], harness := (true, "c71effb86ff5fa095992490ac7d936d1e00851505728043d9025401163bf93ea"), looks := true }, kinds := [], alts := [], laidByText := true, laidKinds := [.data, .data, .data, .data, .sentinel, .sentinel, .pinned], laidTests := true, laidLooks := .later }
def AddrTextsUptoCardSaid : Prop := Claim7.holds Tryd.pinned (.plain (OpenSpec.upto addrTextsSpec)) addrTextsUptoCard

/-- THE SECOND FORM's CARD OF 'towpathlaw01.AddrMachines'. -/
def addrMachinesUptoCard : Claim7 := { stood := { row := addrMachinesUptoRow, standIns := [], harness := (true, "c71effb86ff5fa095992490ac7d936d1e00851505728043d9025401163bf93ea"), looks := true }, kinds := [], alts := [], laidByText := true, laidKinds := [.data, .data, .data, .data, .sentinel, .sentinel, .pinned], laidTests := true, laidLooks := .later }
def AddrMachinesUptoCardSaid : Prop := Claim7.holds Tryd.pinned (.plain (OpenSpec.upto addrMachinesSpec)) addrMachinesUptoCard

/-- THE SECOND FORM's CARD OF 'towpathlaw01.AddrPlaces'. -/
def addrPlacesUptoCard : Claim7 := { stood := { row := addrPlacesUptoRow, standIns := [], harness := (true, "c71effb86ff5fa095992490ac7d936d1e00851505728043d9025401163bf93ea"), looks := true }, kinds := [], alts := [], laidByText := true, laidKinds := [.data, .data, .data, .data, .sentinel, .sentinel, .pinned], laidTests := true, laidLooks := .later }
def AddrPlacesUptoCardSaid : Prop := Claim7.holds Tryd.pinned (.plain (OpenSpec.upto addrPlacesSpec)) addrPlacesUptoCard

/-- THE SECOND FORM's CARD OF 'towpathlaw01.AddrBack'. -/
def addrBackUptoCard : Claim7 := { stood := { row := addrBackUptoRow, standIns := [], harness := (true, "c71effb86ff5fa095992490ac7d936d1e00851505728043d9025401163bf93ea"), looks := true }, kinds := [], alts := [], laidByText := true, laidKinds := [.data, .data, .data, .data, .sentinel, .sentinel, .pinned], laidTests := true, laidLooks := .later }
def AddrBackUptoCardSaid : Prop := Claim7.holds Tryd.pinned (.plain (OpenSpec.upto addrBackSpec)) addrBackUptoCard

/-- THE SECOND FORM's CARD OF 'towpathlaw01.AddrOrders'. -/
def addrOrdersUptoCard : Claim7 := { stood := { row := addrOrdersUptoRow, standIns := [], harness := (true, "c71effb86ff5fa095992490ac7d936d1e00851505728043d9025401163bf93ea"), looks := true }, kinds := [], alts := [], laidByText := true, laidKinds := [.data, .data, .data, .data, .sentinel, .sentinel, .pinned], laidTests := true, laidLooks := .later }
def AddrOrdersUptoCardSaid : Prop := Claim7.holds Tryd.pinned (.plain (OpenSpec.upto addrOrdersSpec)) addrOrdersUptoCard

/-- THE SECOND FORM's CARD OF 'towpathlaw01.AddrFlows'. -/
def addrFlowsUptoCard : Claim7 := { stood := { row := addrFlowsUptoRow, standIns := [], harness := (true, "c71effb86ff5fa095992490ac7d936d1e00851505728043d9025401163bf93ea"), looks := true }, kinds := [], alts := [], laidByText := true, laidKinds := [.data, .data, .data, .data, .sentinel, .sentinel, .pinned], laidTests := true, laidLooks := .later }
def AddrFlowsUptoCardSaid : Prop := Claim7.holds Tryd.pinned (.plain (OpenSpec.upto addrFlowsSpec)) addrFlowsUptoCard
end Rows
end Go.Proofs.YtfhdkcdhfdapbaaDoor
