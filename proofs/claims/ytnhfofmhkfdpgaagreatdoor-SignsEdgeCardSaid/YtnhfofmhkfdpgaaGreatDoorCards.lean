/-
  DERIVED. GIVEN WITH THE SEED: THE CARDS: each row of YtnhfofmhkfdpgaaGreatDoorRows.lean that lists a variable, with what it lists TIED to the program's text (the seventh form; the later family's looks); each row that meets fmt, with fmt's text TOLD by the authors' own Lean function (tested against real Go, not proved from fmt's source: count such statements apart). THE CARD IS WHAT COUNTS. Prove the row's statement (the work); the ties are given (YtnhfofmhkfdpgaaGreatDoorTie.lean); close each card by the builder's one call (the guide's Derived/Test/ToyasCard.lean, 'card_holds'). Laid BY PROGRAM, IN A SANDBOX (cutbox-door.mjs). By AI agents, Wed Nov 11 2026. No macro, syntax, notation, axiom, sorry.
-/
import Derived.Test.YtnhfofmhkfdpgaaGreatDoorRows
import GoSem.ClaimSeven
namespace Go.Proofs.YtnhfofmhkfdpgaaGreatDoor
namespace Rows

/-- THE TIED CARD OF 'bywashlaw21.SignsRun'. -/
def signsRunCard : Claim7 := { stood := { row := signsRunRow, standIns := [], harness := (true, "4defa697eff80580cef024bb1874b0e5e15ca43f30a6288ee79569458aa0ece6"), looks := true }, kinds := [], alts := [], laidByText := true, laidKinds := [.handle, .listed, .data], laidTests := true, laidLooks := .later }
def SignsRunCardSaid : Prop := Claim7.holds Tryz.pinned (.plain (OpenSpec.ofChange signsRunSpec)) signsRunCard

/-- THE TIED CARD OF 'bywashlaw21.SignsEquations'. -/
def signsEquationsCard : Claim7 := { stood := { row := signsEquationsRow, standIns := [], harness := (true, "4defa697eff80580cef024bb1874b0e5e15ca43f30a6288ee79569458aa0ece6"), looks := true }, kinds := [], alts := [], laidByText := true, laidKinds := [.handle, .listed, .data], laidTests := true, laidLooks := .later }
def SignsEquationsCardSaid : Prop := Claim7.holds Tryz.pinned (.plain (OpenSpec.ofChange signsEquationsSpec)) signsEquationsCard

/-- THE TIED CARD OF 'bywashlaw21.SignsCalled'. -/
def signsCalledCard : Claim7 := { stood := { row := signsCalledRow, standIns := [], harness := (true, "4defa697eff80580cef024bb1874b0e5e15ca43f30a6288ee79569458aa0ece6"), looks := true }, kinds := [], alts := [], laidByText := true, laidKinds := [.handle, .listed, .data], laidTests := true, laidLooks := .later }
def SignsCalledCardSaid : Prop := Claim7.holds Tryz.pinned (.plain (OpenSpec.ofChange signsCalledSpec)) signsCalledCard

/-- THE TIED CARD OF 'bywashlaw21.SignsConsts'. -/
def signsConstsCard : Claim7 := { stood := { row := signsConstsRow, standIns := [], harness := (true, "4defa697eff80580cef024bb1874b0e5e15ca43f30a6288ee79569458aa0ece6"), looks := true }, kinds := [], alts := [], laidByText := true, laidKinds := [.handle, .listed, .data], laidTests := true, laidLooks := .later }
def SignsConstsCardSaid : Prop := Claim7.holds Tryz.pinned (.plain (OpenSpec.ofChange signsConstsSpec)) signsConstsCard

/-- THE TIED CARD OF 'bywashlaw21.SignsEdge'. -/
def signsEdgeCard : Claim7 := { stood := { row := signsEdgeRow, standIns := [], harness := (true, "4defa697eff80580cef024bb1874b0e5e15ca43f30a6288ee79569458aa0ece6"), looks := true }, kinds := [], alts := [], laidByText := true, laidKinds := [.handle, .listed, .data], laidTests := true, laidLooks := .later }
def SignsEdgeCardSaid : Prop := Claim7.holds Tryz.pinned (.plain (OpenSpec.ofChange signsEdgeSpec)) signsEdgeCard

/-- THE SECOND FORM's CARD OF 'bywashlaw21.SignsRun'. -/
def signsRunUptoCard : Claim7 := { stood := { row := signsRunUptoRow, standIns := [], harness := (true, "4defa697eff80580cef024bb1874b0e5e15ca43f30a6288ee79569458aa0ece6"), looks := true }, kinds := [], alts := [], laidByText := true, laidKinds := [.handle, .listed, .data], laidTests := true, laidLooks := .later }
def SignsRunUptoCardSaid : Prop := Claim7.holds Tryz.pinned (.plain (OpenSpec.upto signsRunSpec)) signsRunUptoCard

/-- THE SECOND FORM's CARD OF 'bywashlaw21.SignsEquations'. -/
def signsEquationsUptoCard : Claim7 := { stood := { row := signsEquationsUptoRow, standIns := [], harness := (true, "4defa697eff80580cef024bb1874b0e5e15ca43f30a6288ee79569458aa0ece6"), looks := true }, kinds := [], alts := [], laidByText := true, laidKinds := [.handle, .listed, .data], laidTests := true, laidLooks := .later }
def SignsEquationsUptoCardSaid : Prop := Claim7.holds Tryz.pinned (.plain (OpenSpec.upto signsEquationsSpec)) signsEquationsUptoCard

/-- THE SECOND FORM's CARD OF 'bywashlaw21.SignsCalled'. -/
def signsCalledUptoCard : Claim7 := { stood := { row := signsCalledUptoRow, standIns := [], harness := (true, "4defa697eff80580cef024bb1874b0e5e15ca43f30a6288ee79569458aa0ece6"), looks := true }, kinds := [], alts := [], laidByText := true, laidKinds := [.handle, .listed, .data], laidTests := true, laidLooks := .later }
def SignsCalledUptoCardSaid : Prop := Claim7.holds Tryz.pinned (.plain (OpenSpec.upto signsCalledSpec)) signsCalledUptoCard

/-- THE SECOND FORM's CARD OF 'bywashlaw21.SignsConsts'. -/
def signsConstsUptoCard : Claim7 := { stood := { row := signsConstsUptoRow, standIns := [], harness := (true, "4defa697eff80580cef024bb1874b0e5e15ca43f30a6288ee79569458aa0ece6"), looks := true }, kinds := [], alts := [], laidByText := true, laidKinds := [.handle, .listed, .data], laidTests := true, laidLooks := .later }
def SignsConstsUptoCardSaid : Prop := Claim7.holds Tryz.pinned (.plain (OpenSpec.upto signsConstsSpec)) signsConstsUptoCard

/-- THE SECOND FORM's CARD OF 'bywashlaw21.SignsEdge'. -/
def signsEdgeUptoCard : Claim7 := { stood := { row := signsEdgeUptoRow, standIns := [], harness := (true, "4defa697eff80580cef024bb1874b0e5e15ca43f30a6288ee79569458aa0ece6"), looks := true }, kinds := [], alts := [], laidByText := true, laidKinds := [.handle, .listed, .data], laidTests := true, laidLooks := .later }
def SignsEdgeUptoCardSaid : Prop := Claim7.holds Tryz.pinned (.plain (OpenSpec.upto signsEdgeSpec)) signsEdgeUptoCard
end Rows
end Go.Proofs.YtnhfofmhkfdpgaaGreatDoor
