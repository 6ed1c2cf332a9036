/-
  DERIVED. GIVEN WITH THE SEED: THE CARDS: each row of YtankogdnhgmkhaaDoorRows.lean that lists a variable, with what it lists TIED to the program's text (the seventh form; the later family's looks); each row that meets fmt, with fmt's text TOLD by the authors' own Lean function (tested against real Go, not proved from fmt's source: count such statements apart). THE CARD IS WHAT COUNTS. Prove the row's statement (the work); the ties are given (YtankogdnhgmkhaaDoorTie.lean); close each card by the builder's one call (the guide's Derived/Test/ToyasCard.lean, 'card_holds'). Laid BY PROGRAM, IN A SANDBOX (cutbox-door.mjs). By AI agents, Wed Nov 11 2026. No macro, syntax, notation, axiom, sorry.
-/
import Derived.Test.YtankogdnhgmkhaaDoorRows
import GoSem.ClaimSeven
namespace Go.Proofs.YtankogdnhgmkhaaDoor
namespace Rows

/-- THE TIED CARD OF 'logboomlaw19.ConsumerEnds'. -/
def consumerEndsCard : Claim7 := { stood := { row := consumerEndsRow, standIns := [], harness := (true, "12d5bd15960033585c5edb70dbde0442020a77a450550341aa8c180343d9cea7"), looks := true }, kinds := [], alts := [], laidByText := true, laidKinds := [.data, .data, .data, .data, .sentinel, .sentinel, .pinned], laidTests := true, laidLooks := .later }
def ConsumerEndsCardSaid : Prop := Claim7.holds Tryd.pinned (.plain (OpenSpec.ofChange consumerEndsSpec)) consumerEndsCard

/-- THE TIED CARD OF 'logboomlaw19.ConsumerOnce'. -/
def consumerOnceCard : Claim7 := { stood := { row := consumerOnceRow, standIns := [], harness := (true, "12d5bd15960033585c5edb70dbde0442020a77a450550341aa8c180343d9cea7"), looks := true }, kinds := [], alts := [], laidByText := true, laidKinds := [.data, .data, .data, .data, .sentinel, .sentinel, .pinned], laidTests := true, laidLooks := .later }
def ConsumerOnceCardSaid : Prop := Claim7.holds Tryd.pinned (.plain (OpenSpec.ofChange consumerOnceSpec)) consumerOnceCard

/-- THE TIED CARD OF 'logboomlaw19.ConsumerFinds'. -/
def consumerFindsCard : Claim7 := { stood := { row := consumerFindsRow, standIns := [], harness := (true, "12d5bd15960033585c5edb70dbde0442020a77a450550341aa8c180343d9cea7"), looks := true }, kinds := [], alts := [], laidByText := true, laidKinds := [.data, .data, .data, .data, .sentinel, .sentinel, .pinned], laidTests := true, laidLooks := .later }
def ConsumerFindsCardSaid : Prop := Claim7.holds Tryd.pinned (.plain (OpenSpec.ofChange consumerFindsSpec)) consumerFindsCard

/-- THE SECOND FORM's CARD OF 'logboomlaw19.ConsumerEnds'. -/
def consumerEndsUptoCard : Claim7 := { stood := { row := consumerEndsUptoRow, standIns := [], harness := (true, "12d5bd15960033585c5edb70dbde0442020a77a450550341aa8c180343d9cea7"), looks := true }, kinds := [], alts := [], laidByText := true, laidKinds := [.data, .data, .data, .data, .sentinel, .sentinel, .pinned], laidTests := true, laidLooks := .later }
def ConsumerEndsUptoCardSaid : Prop := Claim7.holds Tryd.pinned (.plain (OpenSpec.upto consumerEndsSpec)) consumerEndsUptoCard

/-- THE SECOND FORM's CARD OF 'logboomlaw19.ConsumerOnce'. -/
def consumerOnceUptoCard : Claim7 := { stood := { row := consumerOnceUptoRow, standIns := [], harness := (true, "12d5bd15960033585c5edb70dbde0442020a77a450550341aa8c180343d9cea7"), looks := true }, kinds := [], alts := [], laidByText := true, laidKinds := [.data, .data, .data, .data, .sentinel, .sentinel, .pinned], laidTests := true, laidLooks := .later }
def ConsumerOnceUptoCardSaid : Prop := Claim7.holds Tryd.pinned (.plain (OpenSpec.upto consumerOnceSpec)) consumerOnceUptoCard

/-- THE SECOND FORM's CARD OF 'logboomlaw19.ConsumerFinds'. -/
def consumerFindsUptoCard : Claim7 := { stood := { row := consumerFindsUptoRow, standIns := [], harness := (true, "12d5bd15960033585c5edb70dbde0442020a77a450550341aa8c180343d9cea7"), looks := true }, kinds := [], alts := [], laidByText := true, laidKinds := [.data, .data, .data, .data, .sentinel, .sentinel, .pinned], laidTests := true, laidLooks := .later }
def ConsumerFindsUptoCardSaid : Prop := Claim7.holds Tryd.pinned (.plain (OpenSpec.upto consumerFindsSpec)) consumerFindsUptoCard
end Rows
end Go.Proofs.YtankogdnhgmkhaaDoor
