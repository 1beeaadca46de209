/-
  DERIVED. GIVEN WITH THE SEED: THE CARDS: each row of YtbhkamemheaajaaGreatDoorRows.lean that lists a variable, with what it lists TIED to the program's text (the seventh form; the later family's looks); each row that meets fmt, with fmt's text TOLD by the authors' own Lean function (tested against real Go, not proved from fmt's source: count such statements apart). THE CARD IS WHAT COUNTS. Prove the row's statement (the work); the ties are given (YtbhkamemheaajaaGreatDoorTie.lean); close each card by the builder's one call (the guide's Derived/Test/ToyasCard.lean, 'card_holds'). Laid BY PROGRAM, IN A SANDBOX (cutbox-door.mjs). By AI agents, Wed Nov 11 2026. No macro, syntax, notation, axiom, sorry.
-/
import Derived.Test.YtbhkamemheaajaaGreatDoorRows
import GoSem.ClaimSeven
namespace Go.Proofs.YtbhkamemheaajaaGreatDoor
namespace Rows

/-- THE TIED CARD OF 'bywashlaw18.DefsWay'. -/
def defsWayCard : Claim7 := { stood := { row := defsWayRow, standIns := [], harness := (true, "685a3a304511d219d12953d0ba43172aea3500d3c4a321a080571d6e3d1ef68e"), looks := true }, kinds := [], alts := [], laidByText := true, laidKinds := [.data, .handle, .listed, .data], laidTests := true, laidLooks := .later }
def DefsWayCardSaid : Prop := Claim7.holds Tryz.pinned (.plain (OpenSpec.ofChange defsWaySpec)) defsWayCard

/-- THE TIED CARD OF 'bywashlaw18.DefsWalk'. -/
def defsWalkCard : Claim7 := { stood := { row := defsWalkRow, standIns := [], harness := (true, "685a3a304511d219d12953d0ba43172aea3500d3c4a321a080571d6e3d1ef68e"), looks := true }, kinds := [], alts := [], laidByText := true, laidKinds := [.data, .handle, .listed, .data], laidTests := true, laidLooks := .later }
def DefsWalkCardSaid : Prop := Claim7.holds Tryz.pinned (.plain (OpenSpec.ofChange defsWalkSpec)) defsWalkCard

/-- THE TIED CARD OF 'bywashlaw18.DefsFar'. -/
def defsFarCard : Claim7 := { stood := { row := defsFarRow, standIns := [], harness := (true, "685a3a304511d219d12953d0ba43172aea3500d3c4a321a080571d6e3d1ef68e"), looks := true }, kinds := [], alts := [], laidByText := true, laidKinds := [.data, .handle, .listed, .data], laidTests := true, laidLooks := .later }
def DefsFarCardSaid : Prop := Claim7.holds Tryz.pinned (.plain (OpenSpec.ofChange defsFarSpec)) defsFarCard

/-- THE TIED CARD OF 'bywashlaw18.DefsOwn'. -/
def defsOwnCard : Claim7 := { stood := { row := defsOwnRow, standIns := [], harness := (true, "685a3a304511d219d12953d0ba43172aea3500d3c4a321a080571d6e3d1ef68e"), looks := true }, kinds := [], alts := [], laidByText := true, laidKinds := [.data, .handle, .listed, .data], laidTests := true, laidLooks := .later }
def DefsOwnCardSaid : Prop := Claim7.holds Tryz.pinned (.plain (OpenSpec.ofChange defsOwnSpec)) defsOwnCard

/-- THE TIED CARD OF 'bywashlaw20.ConstsEdge'. -/
def constsEdgeCard : Claim7 := { stood := { row := constsEdgeRow, standIns := [], harness := (true, "685a3a304511d219d12953d0ba43172aea3500d3c4a321a080571d6e3d1ef68e"), looks := true }, kinds := [], alts := [], laidByText := true, laidKinds := [.handle, .listed, .data], laidTests := true, laidLooks := .later }
def ConstsEdgeCardSaid : Prop := Claim7.holds Tryz.pinned (.plain (OpenSpec.ofChange constsEdgeSpec)) constsEdgeCard

/-- THE SECOND FORM's CARD OF 'bywashlaw18.DefsWay'. -/
def defsWayUptoCard : Claim7 := { stood := { row := defsWayUptoRow, standIns := [], harness := (true, "685a3a304511d219d12953d0ba43172aea3500d3c4a321a080571d6e3d1ef68e"), looks := true }, kinds := [], alts := [], laidByText := true, laidKinds := [.data, .handle, .listed, .data], laidTests := true, laidLooks := .later }
def DefsWayUptoCardSaid : Prop := Claim7.holds Tryz.pinned (.plain (OpenSpec.upto defsWaySpec)) defsWayUptoCard

/-- THE SECOND FORM's CARD OF 'bywashlaw18.DefsWalk'. -/
def defsWalkUptoCard : Claim7 := { stood := { row := defsWalkUptoRow, standIns := [], harness := (true, "685a3a304511d219d12953d0ba43172aea3500d3c4a321a080571d6e3d1ef68e"), looks := true }, kinds := [], alts := [], laidByText := true, laidKinds := [.data, .handle, .listed, .data], laidTests := true, laidLooks := .later }
def DefsWalkUptoCardSaid : Prop := Claim7.holds Tryz.pinned (.plain (OpenSpec.upto defsWalkSpec)) defsWalkUptoCard

/-- THE SECOND FORM's CARD OF 'bywashlaw18.DefsFar'. -/
def defsFarUptoCard : Claim7 := { stood := { row := defsFarUptoRow, standIns := [], harness := (true, "685a3a304511d219d12953d0ba43172aea3500d3c4a321a080571d6e3d1ef68e"), looks := true }, kinds := [], alts := [], laidByText := true, laidKinds := [.data, .handle, .listed, .data], laidTests := true, laidLooks := .later }
def DefsFarUptoCardSaid : Prop := Claim7.holds Tryz.pinned (.plain (OpenSpec.upto defsFarSpec)) defsFarUptoCard

/-- THE SECOND FORM's CARD OF 'bywashlaw18.DefsOwn'. -/
def defsOwnUptoCard : Claim7 := { stood := { row := defsOwnUptoRow, standIns := [], harness := (true, "685a3a304511d219d12953d0ba43172aea3500d3c4a321a080571d6e3d1ef68e"), looks := true }, kinds := [], alts := [], laidByText := true, laidKinds := [.data, .handle, .listed, .data], laidTests := true, laidLooks := .later }
def DefsOwnUptoCardSaid : Prop := Claim7.holds Tryz.pinned (.plain (OpenSpec.upto defsOwnSpec)) defsOwnUptoCard

/-- THE SECOND FORM's CARD OF 'bywashlaw20.ConstsEdge'. -/
def constsEdgeUptoCard : Claim7 := { stood := { row := constsEdgeUptoRow, standIns := [], harness := (true, "685a3a304511d219d12953d0ba43172aea3500d3c4a321a080571d6e3d1ef68e"), looks := true }, kinds := [], alts := [], laidByText := true, laidKinds := [.handle, .listed, .data], laidTests := true, laidLooks := .later }
def ConstsEdgeUptoCardSaid : Prop := Claim7.holds Tryz.pinned (.plain (OpenSpec.upto constsEdgeSpec)) constsEdgeUptoCard
end Rows
end Go.Proofs.YtbhkamemheaajaaGreatDoor
