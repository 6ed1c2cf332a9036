/-
  DERIVED. GIVEN WITH THE SEED: THE CARDS: each row of YtglhoenjflpibaaGreatDoorRows.lean that lists a variable, with what it lists TIED to the program's text (the seventh form; the later family's looks); each row that meets fmt, with fmt's text TOLD by the authors' own Lean function (tested against real Go, not proved from fmt's source: count such statements apart). THE CARD IS WHAT COUNTS. Prove the row's statement (the work); the ties are given (YtglhoenjflpibaaGreatDoorTie.lean); close each card by the builder's one call (the guide's Derived/Test/ToyasCard.lean, 'card_holds'). Laid BY PROGRAM, IN A SANDBOX (cutbox-door.mjs). By AI agents, Wed Nov 11 2026. No macro, syntax, notation, axiom, sorry.
-/
import Derived.Test.YtglhoenjflpibaaGreatDoorRows
import GoSem.ClaimSeven
namespace Go.Proofs.YtglhoenjflpibaaGreatDoor
namespace Rows

/-- THE TIED CARD OF 'logboomlaw6.PlogWhole'. -/
def plogWholeCard : Claim7 := { stood := { row := plogWholeRow, standIns := [], harness := (true, "ae8fec2aa79deb5b37aaa238999d7b71c8acbd15fe227920149b23582c5a1083"), looks := true }, kinds := [], alts := [], laidByText := true, laidKinds := [.data, .data, .data, .data, .sentinel, .sentinel, .pinned], laidTests := true, laidLooks := .later }
def PlogWholeCardSaid : Prop := Claim7.holds Tryz.pinned (.plain (OpenSpec.ofChange plogWholeSpec)) plogWholeCard

/-- THE TIED CARD OF 'logboomlaw6.PlogDeletes'. -/
def plogDeletesCard : Claim7 := { stood := { row := plogDeletesRow, standIns := [], harness := (true, "ae8fec2aa79deb5b37aaa238999d7b71c8acbd15fe227920149b23582c5a1083"), looks := true }, kinds := [], alts := [], laidByText := true, laidKinds := [.data, .data, .data, .data, .sentinel, .sentinel, .pinned], laidTests := true, laidLooks := .later }
def PlogDeletesCardSaid : Prop := Claim7.holds Tryz.pinned (.plain (OpenSpec.ofChange plogDeletesSpec)) plogDeletesCard

/-- THE TIED CARD OF 'logboomlaw6.PlogCuts'. -/
def plogCutsCard : Claim7 := { stood := { row := plogCutsRow, standIns := [], harness := (true, "ae8fec2aa79deb5b37aaa238999d7b71c8acbd15fe227920149b23582c5a1083"), looks := true }, kinds := [], alts := [], laidByText := true, laidKinds := [.data, .data, .data, .data, .sentinel, .sentinel, .pinned], laidTests := true, laidLooks := .later }
def PlogCutsCardSaid : Prop := Claim7.holds Tryz.pinned (.plain (OpenSpec.ofChange plogCutsSpec)) plogCutsCard

/-- THE TIED CARD OF 'logboomlaw6.PlogSaves'. -/
def plogSavesCard : Claim7 := { stood := { row := plogSavesRow, standIns := [], harness := (true, "ae8fec2aa79deb5b37aaa238999d7b71c8acbd15fe227920149b23582c5a1083"), looks := true }, kinds := [], alts := [], laidByText := true, laidKinds := [.data, .data, .data, .data, .sentinel, .sentinel, .pinned], laidTests := true, laidLooks := .later }
def PlogSavesCardSaid : Prop := Claim7.holds Tryz.pinned (.plain (OpenSpec.ofChange plogSavesSpec)) plogSavesCard

/-- THE TIED CARD OF 'logboomlaw6.PlogSurvives'. -/
def plogSurvivesCard : Claim7 := { stood := { row := plogSurvivesRow, standIns := [], harness := (true, "ae8fec2aa79deb5b37aaa238999d7b71c8acbd15fe227920149b23582c5a1083"), looks := true }, kinds := [], alts := [], laidByText := true, laidKinds := [.data, .data, .data, .data, .sentinel, .sentinel, .pinned], laidTests := true, laidLooks := .later }
def PlogSurvivesCardSaid : Prop := Claim7.holds Tryz.pinned (.plain (OpenSpec.ofChange plogSurvivesSpec)) plogSurvivesCard

/-- THE SECOND FORM's CARD OF 'logboomlaw6.PlogWhole'. -/
def plogWholeUptoCard : Claim7 := { stood := { row := plogWholeUptoRow, standIns := [], harness := (true, "ae8fec2aa79deb5b37aaa238999d7b71c8acbd15fe227920149b23582c5a1083"), looks := true }, kinds := [], alts := [], laidByText := true, laidKinds := [.data, .data, .data, .data, .sentinel, .sentinel, .pinned], laidTests := true, laidLooks := .later }
def PlogWholeUptoCardSaid : Prop := Claim7.holds Tryz.pinned (.plain (OpenSpec.upto plogWholeSpec)) plogWholeUptoCard

/-- THE SECOND FORM's CARD OF 'logboomlaw6.PlogDeletes'. -/
def plogDeletesUptoCard : Claim7 := { stood := { row := plogDeletesUptoRow, standIns := [], harness := (true, "ae8fec2aa79deb5b37aaa238999d7b71c8acbd15fe227920149b23582c5a1083"), looks := true }, kinds := [], alts := [], laidByText := true, laidKinds := [.data, .data, .data, .data, .sentinel, .sentinel, .pinned], laidTests := true, laidLooks := .later }
def PlogDeletesUptoCardSaid : Prop := Claim7.holds Tryz.pinned (.plain (OpenSpec.upto plogDeletesSpec)) plogDeletesUptoCard

/-- THE SECOND FORM's CARD OF 'logboomlaw6.PlogCuts'. -/
def plogCutsUptoCard : Claim7 := { stood := { row := plogCutsUptoRow, standIns := [], harness := (true, "ae8fec2aa79deb5b37aaa238999d7b71c8acbd15fe227920149b23582c5a1083"), looks := true }, kinds := [], alts := [], laidByText := true, laidKinds := [.data, .data, .data, .data, .sentinel, .sentinel, .pinned], laidTests := true, laidLooks := .later }
def PlogCutsUptoCardSaid : Prop := Claim7.holds Tryz.pinned (.plain (OpenSpec.upto plogCutsSpec)) plogCutsUptoCard

/-- THE SECOND FORM's CARD OF 'logboomlaw6.PlogSaves'. -/
def plogSavesUptoCard : Claim7 := { stood := { row := plogSavesUptoRow, standIns := [], harness := (true, "ae8fec2aa79deb5b37aaa238999d7b71c8acbd15fe227920149b23582c5a1083"), looks := true }, kinds := [], alts := [], laidByText := true, laidKinds := [.data, .data, .data, .data, .sentinel, .sentinel, .pinned], laidTests := true, laidLooks := .later }
def PlogSavesUptoCardSaid : Prop := Claim7.holds Tryz.pinned (.plain (OpenSpec.upto plogSavesSpec)) plogSavesUptoCard

/-- THE SECOND FORM's CARD OF 'logboomlaw6.PlogSurvives'. -/
def plogSurvivesUptoCard : Claim7 := { stood := { row := plogSurvivesUptoRow, standIns := [], harness := (true, "ae8fec2aa79deb5b37aaa238999d7b71c8acbd15fe227920149b23582c5a1083"), looks := true }, kinds := [], alts := [], laidByText := true, laidKinds := [.data, .data, .data, .data, .sentinel, .sentinel, .pinned], laidTests := true, laidLooks := .later }
def PlogSurvivesUptoCardSaid : Prop := Claim7.holds Tryz.pinned (.plain (OpenSpec.upto plogSurvivesSpec)) plogSurvivesUptoCard
end Rows
end Go.Proofs.YtglhoenjflpibaaGreatDoor
