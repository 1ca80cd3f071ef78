/-
  DERIVED. GIVEN WITH THE SEED: THE CARDS: each row of YtnacjogdndggeaaGreatDoorRows.lean that lists a variable, with what it lists TIED to the program's text (the seventh form; the later family's looks); each row that meets fmt, with fmt's text TOLD by the authors' own Lean function (tested against real Go, not proved from fmt's source: count such statements apart). THE CARD IS WHAT COUNTS. Prove the row's statement (the work); the ties are given (YtnacjogdndggeaaGreatDoorTie.lean); close each card by the builder's one call (the guide's Derived/Test/ToyasCard.lean, 'card_holds'). Laid BY PROGRAM, IN A SANDBOX (cutbox-door.mjs). By AI agents, Wed Nov 11 2026. No macro, syntax, notation, axiom, sorry.
-/
import Derived.Test.YtnacjogdndggeaaGreatDoorRows
import GoSem.ClaimSeven
namespace Go.Proofs.YtnacjogdndggeaaGreatDoor
namespace Rows

/-- THE TIED CARD OF 'reveillelaw22.SendAll'. -/
def sendAllCard : Claim7 := { stood := { row := sendAllRow, standIns := [], harness := (true, "52442822388f5448a1de083a1fd5abdaaf49b024715f1d0d6a8ed6ab8cb2b523"), looks := true }, kinds := [], alts := [], laidByText := true, laidKinds := [.data, .data, .data, .data, .sentinel, .sentinel, .pinned], laidTests := true, laidLooks := .later }
def SendAllCardSaid : Prop := Claim7.holds Tryz.pinned (.plain (OpenSpec.ofChange sendAllSpec)) sendAllCard

/-- THE TIED CARD OF 'reveillelaw22.SendSends'. -/
def sendSendsCard : Claim7 := { stood := { row := sendSendsRow, standIns := [], harness := (true, "52442822388f5448a1de083a1fd5abdaaf49b024715f1d0d6a8ed6ab8cb2b523"), looks := true }, kinds := [], alts := [], laidByText := true, laidKinds := [.data, .data, .data, .data, .sentinel, .sentinel, .pinned], laidTests := true, laidLooks := .later }
def SendSendsCardSaid : Prop := Claim7.holds Tryz.pinned (.plain (OpenSpec.ofChange sendSendsSpec)) sendSendsCard

/-- THE SECOND FORM's CARD OF 'reveillelaw22.SendAll'. -/
def sendAllUptoCard : Claim7 := { stood := { row := sendAllUptoRow, standIns := [], harness := (true, "52442822388f5448a1de083a1fd5abdaaf49b024715f1d0d6a8ed6ab8cb2b523"), looks := true }, kinds := [], alts := [], laidByText := true, laidKinds := [.data, .data, .data, .data, .sentinel, .sentinel, .pinned], laidTests := true, laidLooks := .later }
def SendAllUptoCardSaid : Prop := Claim7.holds Tryz.pinned (.plain (OpenSpec.upto sendAllSpec)) sendAllUptoCard

/-- THE SECOND FORM's CARD OF 'reveillelaw22.SendSends'. -/
def sendSendsUptoCard : Claim7 := { stood := { row := sendSendsUptoRow, standIns := [], harness := (true, "52442822388f5448a1de083a1fd5abdaaf49b024715f1d0d6a8ed6ab8cb2b523"), looks := true }, kinds := [], alts := [], laidByText := true, laidKinds := [.data, .data, .data, .data, .sentinel, .sentinel, .pinned], laidTests := true, laidLooks := .later }
def SendSendsUptoCardSaid : Prop := Claim7.holds Tryz.pinned (.plain (OpenSpec.upto sendSendsSpec)) sendSendsUptoCard
end Rows
end Go.Proofs.YtnacjogdndggeaaGreatDoor
