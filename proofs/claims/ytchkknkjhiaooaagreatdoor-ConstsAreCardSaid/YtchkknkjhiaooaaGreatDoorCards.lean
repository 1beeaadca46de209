/-
  DERIVED. GIVEN WITH THE SEED: THE CARDS: each row of YtchkknkjhiaooaaGreatDoorRows.lean that lists a variable, with what it lists TIED to the program's text (the seventh form; the later family's looks); each row that meets fmt, with fmt's text TOLD by the authors' own Lean function (tested against real Go, not proved from fmt's source: count such statements apart). THE CARD IS WHAT COUNTS. Prove the row's statement (the work); the ties are given (YtchkknkjhiaooaaGreatDoorTie.lean); close each card by the builder's one call (the guide's Derived/Test/ToyasCard.lean, 'card_holds'). Laid BY PROGRAM, IN A SANDBOX (cutbox-door.mjs). By AI agents, Wed Nov 11 2026. No macro, syntax, notation, axiom, sorry.
-/
import Derived.Test.YtchkknkjhiaooaaGreatDoorRows
import GoSem.ClaimSeven
namespace Go.Proofs.YtchkknkjhiaooaaGreatDoor
namespace Rows

/-- THE TIED CARD OF 'bywashlaw19.LiveWay'. -/
def liveWayCard : Claim7 := { stood := { row := liveWayRow, standIns := [], harness := (true, "5baea4f5d8c941935c9e774d243bfe95e714a0135eff11ba45757c137dd879c8"), looks := true }, kinds := [], alts := [], laidByText := true, laidKinds := [.handle, .listed, .data], laidTests := true, laidLooks := .later }
def LiveWayCardSaid : Prop := Claim7.holds Tryz.pinned (.plain (OpenSpec.ofChange liveWaySpec)) liveWayCard

/-- THE TIED CARD OF 'bywashlaw19.LiveWalk'. -/
def liveWalkCard : Claim7 := { stood := { row := liveWalkRow, standIns := [], harness := (true, "5baea4f5d8c941935c9e774d243bfe95e714a0135eff11ba45757c137dd879c8"), looks := true }, kinds := [], alts := [], laidByText := true, laidKinds := [.handle, .listed, .data], laidTests := true, laidLooks := .later }
def LiveWalkCardSaid : Prop := Claim7.holds Tryz.pinned (.plain (OpenSpec.ofChange liveWalkSpec)) liveWalkCard

/-- THE TIED CARD OF 'bywashlaw20.ConstsAre'. -/
def constsAreCard : Claim7 := { stood := { row := constsAreRow, standIns := [], harness := (true, "5baea4f5d8c941935c9e774d243bfe95e714a0135eff11ba45757c137dd879c8"), looks := true }, kinds := [], alts := [], laidByText := true, laidKinds := [.handle, .listed, .data], laidTests := true, laidLooks := .later }
def ConstsAreCardSaid : Prop := Claim7.holds Tryz.pinned (.plain (OpenSpec.ofChange constsAreSpec)) constsAreCard

/-- THE TIED CARD OF 'bywashlaw20.ConstsStart'. -/
def constsStartCard : Claim7 := { stood := { row := constsStartRow, standIns := [], harness := (true, "5baea4f5d8c941935c9e774d243bfe95e714a0135eff11ba45757c137dd879c8"), looks := true }, kinds := [], alts := [], laidByText := true, laidKinds := [.handle, .listed, .data], laidTests := true, laidLooks := .later }
def ConstsStartCardSaid : Prop := Claim7.holds Tryz.pinned (.plain (OpenSpec.ofChange constsStartSpec)) constsStartCard

/-- THE TIED CARD OF 'bywashlaw20.ConstsTell'. -/
def constsTellCard : Claim7 := { stood := { row := constsTellRow, standIns := [], harness := (true, "5baea4f5d8c941935c9e774d243bfe95e714a0135eff11ba45757c137dd879c8"), looks := true }, kinds := [], alts := [], laidByText := true, laidKinds := [.handle, .listed, .data], laidTests := true, laidLooks := .later }
def ConstsTellCardSaid : Prop := Claim7.holds Tryz.pinned (.plain (OpenSpec.ofChange constsTellSpec)) constsTellCard

/-- THE TIED CARD OF 'bywashlaw20.ConstsLeast'. -/
def constsLeastCard : Claim7 := { stood := { row := constsLeastRow, standIns := [], harness := (true, "5baea4f5d8c941935c9e774d243bfe95e714a0135eff11ba45757c137dd879c8"), looks := true }, kinds := [], alts := [], laidByText := true, laidKinds := [.handle, .listed, .data], laidTests := true, laidLooks := .later }
def ConstsLeastCardSaid : Prop := Claim7.holds Tryz.pinned (.plain (OpenSpec.ofChange constsLeastSpec)) constsLeastCard

/-- THE TIED CARD OF 'bywashlaw20.ConstsSteps'. -/
def constsStepsCard : Claim7 := { stood := { row := constsStepsRow, standIns := [], harness := (true, "5baea4f5d8c941935c9e774d243bfe95e714a0135eff11ba45757c137dd879c8"), looks := true }, kinds := [], alts := [], laidByText := true, laidKinds := [.handle, .listed, .data], laidTests := true, laidLooks := .later }
def ConstsStepsCardSaid : Prop := Claim7.holds Tryz.pinned (.plain (OpenSpec.ofChange constsStepsSpec)) constsStepsCard

/-- THE TIED CARD OF 'bywashlaw19.LiveDead'. -/
def liveDeadCard : Claim7 := { stood := { row := liveDeadRow, standIns := [], harness := (true, "5baea4f5d8c941935c9e774d243bfe95e714a0135eff11ba45757c137dd879c8"), looks := true }, kinds := [], alts := [], laidByText := true, laidKinds := [.handle, .listed, .data], laidTests := true, laidLooks := .later }
def LiveDeadCardSaid : Prop := Claim7.holds Tryz.pinned (.plain (OpenSpec.ofChange liveDeadSpec)) liveDeadCard

/-- THE TIED CARD OF 'bywashlaw20.ConstsReached'. -/
def constsReachedCard : Claim7 := { stood := { row := constsReachedRow, standIns := [], harness := (true, "5baea4f5d8c941935c9e774d243bfe95e714a0135eff11ba45757c137dd879c8"), looks := true }, kinds := [], alts := [], laidByText := true, laidKinds := [.handle, .listed, .data], laidTests := true, laidLooks := .later }
def ConstsReachedCardSaid : Prop := Claim7.holds Tryz.pinned (.plain (OpenSpec.ofChange constsReachedSpec)) constsReachedCard

/-- THE TIED CARD OF 'bywashlaw19.LiveRead'. -/
def liveReadCard : Claim7 := { stood := { row := liveReadRow, standIns := [], harness := (true, "5baea4f5d8c941935c9e774d243bfe95e714a0135eff11ba45757c137dd879c8"), looks := true }, kinds := [], alts := [], laidByText := true, laidKinds := [.handle, .listed, .data], laidTests := true, laidLooks := .later }
def LiveReadCardSaid : Prop := Claim7.holds Tryz.pinned (.plain (OpenSpec.ofChange liveReadSpec)) liveReadCard

/-- THE TIED CARD OF 'bywashlaw20.ConstsEdge'. -/
def constsEdgeCard : Claim7 := { stood := { row := constsEdgeRow, standIns := [], harness := (true, "5baea4f5d8c941935c9e774d243bfe95e714a0135eff11ba45757c137dd879c8"), looks := true }, kinds := [], alts := [], laidByText := true, laidKinds := [.handle, .listed, .data], laidTests := true, laidLooks := .later }
def ConstsEdgeCardSaid : Prop := Claim7.holds Tryz.pinned (.plain (OpenSpec.ofChange constsEdgeSpec)) constsEdgeCard

/-- THE SECOND FORM's CARD OF 'bywashlaw19.LiveWay'. -/
def liveWayUptoCard : Claim7 := { stood := { row := liveWayUptoRow, standIns := [], harness := (true, "5baea4f5d8c941935c9e774d243bfe95e714a0135eff11ba45757c137dd879c8"), looks := true }, kinds := [], alts := [], laidByText := true, laidKinds := [.handle, .listed, .data], laidTests := true, laidLooks := .later }
def LiveWayUptoCardSaid : Prop := Claim7.holds Tryz.pinned (.plain (OpenSpec.upto liveWaySpec)) liveWayUptoCard

/-- THE SECOND FORM's CARD OF 'bywashlaw19.LiveWalk'. -/
def liveWalkUptoCard : Claim7 := { stood := { row := liveWalkUptoRow, standIns := [], harness := (true, "5baea4f5d8c941935c9e774d243bfe95e714a0135eff11ba45757c137dd879c8"), looks := true }, kinds := [], alts := [], laidByText := true, laidKinds := [.handle, .listed, .data], laidTests := true, laidLooks := .later }
def LiveWalkUptoCardSaid : Prop := Claim7.holds Tryz.pinned (.plain (OpenSpec.upto liveWalkSpec)) liveWalkUptoCard

/-- THE SECOND FORM's CARD OF 'bywashlaw20.ConstsAre'. -/
def constsAreUptoCard : Claim7 := { stood := { row := constsAreUptoRow, standIns := [], harness := (true, "5baea4f5d8c941935c9e774d243bfe95e714a0135eff11ba45757c137dd879c8"), looks := true }, kinds := [], alts := [], laidByText := true, laidKinds := [.handle, .listed, .data], laidTests := true, laidLooks := .later }
def ConstsAreUptoCardSaid : Prop := Claim7.holds Tryz.pinned (.plain (OpenSpec.upto constsAreSpec)) constsAreUptoCard

/-- THE SECOND FORM's CARD OF 'bywashlaw20.ConstsStart'. -/
def constsStartUptoCard : Claim7 := { stood := { row := constsStartUptoRow, standIns := [], harness := (true, "5baea4f5d8c941935c9e774d243bfe95e714a0135eff11ba45757c137dd879c8"), looks := true }, kinds := [], alts := [], laidByText := true, laidKinds := [.handle, .listed, .data], laidTests := true, laidLooks := .later }
def ConstsStartUptoCardSaid : Prop := Claim7.holds Tryz.pinned (.plain (OpenSpec.upto constsStartSpec)) constsStartUptoCard

/-- THE SECOND FORM's CARD OF 'bywashlaw20.ConstsTell'. -/
def constsTellUptoCard : Claim7 := { stood := { row := constsTellUptoRow, standIns := [], harness := (true, "5baea4f5d8c941935c9e774d243bfe95e714a0135eff11ba45757c137dd879c8"), looks := true }, kinds := [], alts := [], laidByText := true, laidKinds := [.handle, .listed, .data], laidTests := true, laidLooks := .later }
def ConstsTellUptoCardSaid : Prop := Claim7.holds Tryz.pinned (.plain (OpenSpec.upto constsTellSpec)) constsTellUptoCard

/-- THE SECOND FORM's CARD OF 'bywashlaw20.ConstsLeast'. -/
def constsLeastUptoCard : Claim7 := { stood := { row := constsLeastUptoRow, standIns := [], harness := (true, "5baea4f5d8c941935c9e774d243bfe95e714a0135eff11ba45757c137dd879c8"), looks := true }, kinds := [], alts := [], laidByText := true, laidKinds := [.handle, .listed, .data], laidTests := true, laidLooks := .later }
def ConstsLeastUptoCardSaid : Prop := Claim7.holds Tryz.pinned (.plain (OpenSpec.upto constsLeastSpec)) constsLeastUptoCard

/-- THE SECOND FORM's CARD OF 'bywashlaw20.ConstsSteps'. -/
def constsStepsUptoCard : Claim7 := { stood := { row := constsStepsUptoRow, standIns := [], harness := (true, "5baea4f5d8c941935c9e774d243bfe95e714a0135eff11ba45757c137dd879c8"), looks := true }, kinds := [], alts := [], laidByText := true, laidKinds := [.handle, .listed, .data], laidTests := true, laidLooks := .later }
def ConstsStepsUptoCardSaid : Prop := Claim7.holds Tryz.pinned (.plain (OpenSpec.upto constsStepsSpec)) constsStepsUptoCard

/-- THE SECOND FORM's CARD OF 'bywashlaw19.LiveDead'. -/
def liveDeadUptoCard : Claim7 := { stood := { row := liveDeadUptoRow, standIns := [], harness := (true, "5baea4f5d8c941935c9e774d243bfe95e714a0135eff11ba45757c137dd879c8"), looks := true }, kinds := [], alts := [], laidByText := true, laidKinds := [.handle, .listed, .data], laidTests := true, laidLooks := .later }
def LiveDeadUptoCardSaid : Prop := Claim7.holds Tryz.pinned (.plain (OpenSpec.upto liveDeadSpec)) liveDeadUptoCard

/-- THE SECOND FORM's CARD OF 'bywashlaw20.ConstsReached'. -/
def constsReachedUptoCard : Claim7 := { stood := { row := constsReachedUptoRow, standIns := [], harness := (true, "5baea4f5d8c941935c9e774d243bfe95e714a0135eff11ba45757c137dd879c8"), looks := true }, kinds := [], alts := [], laidByText := true, laidKinds := [.handle, .listed, .data], laidTests := true, laidLooks := .later }
def ConstsReachedUptoCardSaid : Prop := Claim7.holds Tryz.pinned (.plain (OpenSpec.upto constsReachedSpec)) constsReachedUptoCard

/-- THE SECOND FORM's CARD OF 'bywashlaw19.LiveRead'. -/
def liveReadUptoCard : Claim7 := { stood := { row := liveReadUptoRow, standIns := [], harness := (true, "5baea4f5d8c941935c9e774d243bfe95e714a0135eff11ba45757c137dd879c8"), looks := true }, kinds := [], alts := [], laidByText := true, laidKinds := [.handle, .listed, .data], laidTests := true, laidLooks := .later }
def LiveReadUptoCardSaid : Prop := Claim7.holds Tryz.pinned (.plain (OpenSpec.upto liveReadSpec)) liveReadUptoCard

/-- THE SECOND FORM's CARD OF 'bywashlaw20.ConstsEdge'. -/
def constsEdgeUptoCard : Claim7 := { stood := { row := constsEdgeUptoRow, standIns := [], harness := (true, "5baea4f5d8c941935c9e774d243bfe95e714a0135eff11ba45757c137dd879c8"), looks := true }, kinds := [], alts := [], laidByText := true, laidKinds := [.handle, .listed, .data], laidTests := true, laidLooks := .later }
def ConstsEdgeUptoCardSaid : Prop := Claim7.holds Tryz.pinned (.plain (OpenSpec.upto constsEdgeSpec)) constsEdgeUptoCard
end Rows
end Go.Proofs.YtchkknkjhiaooaaGreatDoor
