/-
  DERIVED. GIVEN WITH THE SEED: THE CARDS: each row of YtoglbebcdjdkiaaGreatDoorRows.lean that lists a variable, with what it lists TIED to the program's text (the seventh form; the later family's looks); each row that meets fmt, with fmt's text TOLD by the authors' own Lean function (tested against real Go, not proved from fmt's source: count such statements apart). THE CARD IS WHAT COUNTS. Prove the row's statement (the work); the ties are given (YtoglbebcdjdkiaaGreatDoorTie.lean); close each card by the builder's one call (the guide's Derived/Test/ToyasCard.lean, 'card_holds'). Laid BY PROGRAM, IN A SANDBOX (cutbox-door.mjs). By AI agents, Wed Nov 11 2026. No macro, syntax, notation, axiom, sorry.
-/
import Derived.Test.YtoglbebcdjdkiaaGreatDoorRows
import GoSem.ClaimSeven
namespace Go.Proofs.YtoglbebcdjdkiaaGreatDoor
namespace Rows

/-- THE TIED CARD OF 'logboomlaw13.StoreOnce'. -/
def storeOnceCard : Claim7 := { stood := { row := storeOnceRow, standIns := [], harness := (true, "7566accb91250ad7ad8a355c5dd1883a9c6d59d484cc4d01abdad8656c4d99d4"), looks := true }, kinds := [], alts := [], laidByText := true, laidKinds := [.data, .data, .data, .data, .sentinel, .sentinel, .pinned], laidTests := true, laidLooks := .later }
def StoreOnceCardSaid : Prop := Claim7.holds Tryz.pinned (.plain (OpenSpec.ofChange storeOnceSpec)) storeOnceCard

/-- THE TIED CARD OF 'logboomlaw13.StoreAnswers'. -/
def storeAnswersCard : Claim7 := { stood := { row := storeAnswersRow, standIns := [], harness := (true, "7566accb91250ad7ad8a355c5dd1883a9c6d59d484cc4d01abdad8656c4d99d4"), looks := true }, kinds := [], alts := [], laidByText := true, laidKinds := [.data, .data, .data, .data, .sentinel, .sentinel, .pinned], laidTests := true, laidLooks := .later }
def StoreAnswersCardSaid : Prop := Claim7.holds Tryz.pinned (.plain (OpenSpec.ofChange storeAnswersSpec)) storeAnswersCard

/-- THE TIED CARD OF 'logboomlaw13.StoreAgain'. -/
def storeAgainCard : Claim7 := { stood := { row := storeAgainRow, standIns := [], harness := (true, "7566accb91250ad7ad8a355c5dd1883a9c6d59d484cc4d01abdad8656c4d99d4"), looks := true }, kinds := [], alts := [], laidByText := true, laidKinds := [.data, .data, .data, .data, .sentinel, .sentinel, .pinned], laidTests := true, laidLooks := .later }
def StoreAgainCardSaid : Prop := Claim7.holds Tryz.pinned (.plain (OpenSpec.ofChange storeAgainSpec)) storeAgainCard

/-- THE TIED CARD OF 'logboomlaw13.StoreEpochs'. -/
def storeEpochsCard : Claim7 := { stood := { row := storeEpochsRow, standIns := [], harness := (true, "7566accb91250ad7ad8a355c5dd1883a9c6d59d484cc4d01abdad8656c4d99d4"), looks := true }, kinds := [], alts := [], laidByText := true, laidKinds := [.data, .data, .data, .data, .sentinel, .sentinel, .pinned], laidTests := true, laidLooks := .later }
def StoreEpochsCardSaid : Prop := Claim7.holds Tryz.pinned (.plain (OpenSpec.ofChange storeEpochsSpec)) storeEpochsCard

/-- THE SECOND FORM's CARD OF 'logboomlaw13.StoreOnce'. -/
def storeOnceUptoCard : Claim7 := { stood := { row := storeOnceUptoRow, standIns := [], harness := (true, "7566accb91250ad7ad8a355c5dd1883a9c6d59d484cc4d01abdad8656c4d99d4"), looks := true }, kinds := [], alts := [], laidByText := true, laidKinds := [.data, .data, .data, .data, .sentinel, .sentinel, .pinned], laidTests := true, laidLooks := .later }
def StoreOnceUptoCardSaid : Prop := Claim7.holds Tryz.pinned (.plain (OpenSpec.upto storeOnceSpec)) storeOnceUptoCard

/-- THE SECOND FORM's CARD OF 'logboomlaw13.StoreAnswers'. -/
def storeAnswersUptoCard : Claim7 := { stood := { row := storeAnswersUptoRow, standIns := [], harness := (true, "7566accb91250ad7ad8a355c5dd1883a9c6d59d484cc4d01abdad8656c4d99d4"), looks := true }, kinds := [], alts := [], laidByText := true, laidKinds := [.data, .data, .data, .data, .sentinel, .sentinel, .pinned], laidTests := true, laidLooks := .later }
def StoreAnswersUptoCardSaid : Prop := Claim7.holds Tryz.pinned (.plain (OpenSpec.upto storeAnswersSpec)) storeAnswersUptoCard

/-- THE SECOND FORM's CARD OF 'logboomlaw13.StoreAgain'. -/
def storeAgainUptoCard : Claim7 := { stood := { row := storeAgainUptoRow, standIns := [], harness := (true, "7566accb91250ad7ad8a355c5dd1883a9c6d59d484cc4d01abdad8656c4d99d4"), looks := true }, kinds := [], alts := [], laidByText := true, laidKinds := [.data, .data, .data, .data, .sentinel, .sentinel, .pinned], laidTests := true, laidLooks := .later }
def StoreAgainUptoCardSaid : Prop := Claim7.holds Tryz.pinned (.plain (OpenSpec.upto storeAgainSpec)) storeAgainUptoCard

/-- THE SECOND FORM's CARD OF 'logboomlaw13.StoreEpochs'. -/
def storeEpochsUptoCard : Claim7 := { stood := { row := storeEpochsUptoRow, standIns := [], harness := (true, "7566accb91250ad7ad8a355c5dd1883a9c6d59d484cc4d01abdad8656c4d99d4"), looks := true }, kinds := [], alts := [], laidByText := true, laidKinds := [.data, .data, .data, .data, .sentinel, .sentinel, .pinned], laidTests := true, laidLooks := .later }
def StoreEpochsUptoCardSaid : Prop := Claim7.holds Tryz.pinned (.plain (OpenSpec.upto storeEpochsSpec)) storeEpochsUptoCard
end Rows
end Go.Proofs.YtoglbebcdjdkiaaGreatDoor
