/-
  DERIVED. GIVEN WITH THE SEED: THE CARDS: each row of YtlfoaaeelcmhiaaDoorRows.lean that lists a variable, with what it lists TIED to the program's text (the seventh form; the later family's looks); each row that meets fmt, with fmt's text TOLD by the authors' own Lean function (tested against real Go, not proved from fmt's source: count such statements apart). THE CARD IS WHAT COUNTS. Prove the row's statement (the work); the ties are given (YtlfoaaeelcmhiaaDoorTie.lean); close each card by the builder's one call (the guide's Derived/Test/ToyasCard.lean, 'card_holds'). Laid BY PROGRAM, IN A SANDBOX (cutbox-door.mjs). By AI agents, Wed Nov 11 2026. No macro, syntax, notation, axiom, sorry.
-/
import Derived.Test.YtlfoaaeelcmhiaaDoorRows
import GoSem.ClaimSeven
namespace Go.Proofs.YtlfoaaeelcmhiaaDoor
namespace Rows

/-- THE TIED CARD OF 'inclinelaw21.ScriptParses'. -/
def scriptParsesCard : Claim7 := { stood := { row := scriptParsesRow, standIns := [], harness := (true, "3182da813c6a891e6eeb268bd1be68e2393d5aef28b43defbe381fea8c80d47e"), looks := false }, kinds := [], alts := [], laidByText := true, laidKinds := [.data, .data, .data, .data, .pinned], laidTests := true, laidLooks := .later }
def ScriptParsesCardSaid : Prop := Claim7.holds Tryd.pinned (.plain (OpenSpec.ofChange scriptParsesSpec)) scriptParsesCard

/-- THE TIED CARD OF 'inclinelaw21.ScriptPrints'. -/
def scriptPrintsCard : Claim7 := { stood := { row := scriptPrintsRow, standIns := [], harness := (true, "3182da813c6a891e6eeb268bd1be68e2393d5aef28b43defbe381fea8c80d47e"), looks := false }, kinds := [], alts := [], laidByText := true, laidKinds := [.data, .data, .data, .data, .pinned], laidTests := true, laidLooks := .later }
def ScriptPrintsCardSaid : Prop := Claim7.holds Tryd.pinned (.plain (OpenSpec.ofChange scriptPrintsSpec)) scriptPrintsCard

/-- THE TIED CARD OF 'inclinelaw21.ScriptOps'. -/
def scriptOpsCard : Claim7 := { stood := { row := scriptOpsRow, standIns := [], harness := (true, "3182da813c6a891e6eeb268bd1be68e2393d5aef28b43defbe381fea8c80d47e"), looks := false }, kinds := [], alts := [], laidByText := true, laidKinds := [.data, .data, .data, .data, .pinned], laidTests := true, laidLooks := .later }
def ScriptOpsCardSaid : Prop := Claim7.holds Tryd.pinned (.plain (OpenSpec.ofChange scriptOpsSpec)) scriptOpsCard

/-- THE TIED CARD OF 'inclinelaw21.ScriptTells'. -/
def scriptTellsCard : Claim7 := { stood := { row := scriptTellsRow, standIns := [], harness := (true, "3182da813c6a891e6eeb268bd1be68e2393d5aef28b43defbe381fea8c80d47e"), looks := false }, kinds := [], alts := [], laidByText := true, laidKinds := [.data, .data, .data, .data, .pinned], laidTests := true, laidLooks := .later }
def ScriptTellsCardSaid : Prop := Claim7.holds Tryd.pinned (.plain (OpenSpec.ofChange scriptTellsSpec)) scriptTellsCard

/-- THE TIED CARD OF 'inclinelaw21.ScriptBack'. -/
def scriptBackCard : Claim7 := { stood := { row := scriptBackRow, standIns := [], harness := (true, "3182da813c6a891e6eeb268bd1be68e2393d5aef28b43defbe381fea8c80d47e"), looks := false }, kinds := [], alts := [], laidByText := true, laidKinds := [.data, .data, .data, .data, .pinned], laidTests := true, laidLooks := .later }
def ScriptBackCardSaid : Prop := Claim7.holds Tryd.pinned (.plain (OpenSpec.ofChange scriptBackSpec)) scriptBackCard

/-- THE TIED CARD OF 'inclinelaw21.ScriptAgain'. -/
def scriptAgainCard : Claim7 := { stood := { row := scriptAgainRow, standIns := [], harness := (true, "3182da813c6a891e6eeb268bd1be68e2393d5aef28b43defbe381fea8c80d47e"), looks := false }, kinds := [], alts := [], laidByText := true, laidKinds := [.data, .data, .data, .data, .pinned], laidTests := true, laidLooks := .later }
def ScriptAgainCardSaid : Prop := Claim7.holds Tryd.pinned (.plain (OpenSpec.ofChange scriptAgainSpec)) scriptAgainCard

/-- THE TIED CARD OF 'inclinelaw21.ScriptBlank'. -/
def scriptBlankCard : Claim7 := { stood := { row := scriptBlankRow, standIns := [], harness := (true, "3182da813c6a891e6eeb268bd1be68e2393d5aef28b43defbe381fea8c80d47e"), looks := false }, kinds := [], alts := [], laidByText := true, laidKinds := [.data, .data, .data, .data, .pinned], laidTests := true, laidLooks := .later }
def ScriptBlankCardSaid : Prop := Claim7.holds Tryd.pinned (.plain (OpenSpec.ofChange scriptBlankSpec)) scriptBlankCard

/-- THE TIED CARD OF 'inclinelaw21.ScriptJoined'. -/
def scriptJoinedCard : Claim7 := { stood := { row := scriptJoinedRow, standIns := [], harness := (true, "3182da813c6a891e6eeb268bd1be68e2393d5aef28b43defbe381fea8c80d47e"), looks := false }, kinds := [], alts := [], laidByText := true, laidKinds := [.data, .data, .data, .data, .pinned], laidTests := true, laidLooks := .later }
def ScriptJoinedCardSaid : Prop := Claim7.holds Tryd.pinned (.plain (OpenSpec.ofChange scriptJoinedSpec)) scriptJoinedCard

/-- THE SECOND FORM's CARD OF 'inclinelaw21.ScriptParses'. -/
def scriptParsesUptoCard : Claim7 := { stood := { row := scriptParsesUptoRow, standIns := [], harness := (true, "3182da813c6a891e6eeb268bd1be68e2393d5aef28b43defbe381fea8c80d47e"), looks := false }, kinds := [], alts := [], laidByText := true, laidKinds := [.data, .data, .data, .data, .pinned], laidTests := true, laidLooks := .later }
def ScriptParsesUptoCardSaid : Prop := Claim7.holds Tryd.pinned (.plain (OpenSpec.upto scriptParsesSpec)) scriptParsesUptoCard

/-- THE SECOND FORM's CARD OF 'inclinelaw21.ScriptPrints'. -/
def scriptPrintsUptoCard : Claim7 := { stood := { row := scriptPrintsUptoRow, standIns := [], harness := (true, "3182da813c6a891e6eeb268bd1be68e2393d5aef28b43defbe381fea8c80d47e"), looks := false }, kinds := [], alts := [], laidByText := true, laidKinds := [.data, .data, .data, .data, .pinned], laidTests := true, laidLooks := .later }
def ScriptPrintsUptoCardSaid : Prop := Claim7.holds Tryd.pinned (.plain (OpenSpec.upto scriptPrintsSpec)) scriptPrintsUptoCard

/-- THE SECOND FORM's CARD OF 'inclinelaw21.ScriptOps'. -/
def scriptOpsUptoCard : Claim7 := { stood := { row := scriptOpsUptoRow, standIns := [], harness := (true, "3182da813c6a891e6eeb268bd1be68e2393d5aef28b43defbe381fea8c80d47e"), looks := false }, kinds := [], alts := [], laidByText := true, laidKinds := [.data, .data, .data, .data, .pinned], laidTests := true, laidLooks := .later }
def ScriptOpsUptoCardSaid : Prop := Claim7.holds Tryd.pinned (.plain (OpenSpec.upto scriptOpsSpec)) scriptOpsUptoCard

/-- THE SECOND FORM's CARD OF 'inclinelaw21.ScriptTells'. -/
def scriptTellsUptoCard : Claim7 := { stood := { row := scriptTellsUptoRow, standIns := [], harness := (true, "3182da813c6a891e6eeb268bd1be68e2393d5aef28b43defbe381fea8c80d47e"), looks := false }, kinds := [], alts := [], laidByText := true, laidKinds := [.data, .data, .data, .data, .pinned], laidTests := true, laidLooks := .later }
def ScriptTellsUptoCardSaid : Prop := Claim7.holds Tryd.pinned (.plain (OpenSpec.upto scriptTellsSpec)) scriptTellsUptoCard

/-- THE SECOND FORM's CARD OF 'inclinelaw21.ScriptBack'. -/
def scriptBackUptoCard : Claim7 := { stood := { row := scriptBackUptoRow, standIns := [], harness := (true, "3182da813c6a891e6eeb268bd1be68e2393d5aef28b43defbe381fea8c80d47e"), looks := false }, kinds := [], alts := [], laidByText := true, laidKinds := [.data, .data, .data, .data, .pinned], laidTests := true, laidLooks := .later }
def ScriptBackUptoCardSaid : Prop := Claim7.holds Tryd.pinned (.plain (OpenSpec.upto scriptBackSpec)) scriptBackUptoCard

/-- THE SECOND FORM's CARD OF 'inclinelaw21.ScriptAgain'. -/
def scriptAgainUptoCard : Claim7 := { stood := { row := scriptAgainUptoRow, standIns := [], harness := (true, "3182da813c6a891e6eeb268bd1be68e2393d5aef28b43defbe381fea8c80d47e"), looks := false }, kinds := [], alts := [], laidByText := true, laidKinds := [.data, .data, .data, .data, .pinned], laidTests := true, laidLooks := .later }
def ScriptAgainUptoCardSaid : Prop := Claim7.holds Tryd.pinned (.plain (OpenSpec.upto scriptAgainSpec)) scriptAgainUptoCard

/-- THE SECOND FORM's CARD OF 'inclinelaw21.ScriptBlank'. -/
def scriptBlankUptoCard : Claim7 := { stood := { row := scriptBlankUptoRow, standIns := [], harness := (true, "3182da813c6a891e6eeb268bd1be68e2393d5aef28b43defbe381fea8c80d47e"), looks := false }, kinds := [], alts := [], laidByText := true, laidKinds := [.data, .data, .data, .data, .pinned], laidTests := true, laidLooks := .later }
def ScriptBlankUptoCardSaid : Prop := Claim7.holds Tryd.pinned (.plain (OpenSpec.upto scriptBlankSpec)) scriptBlankUptoCard

/-- THE SECOND FORM's CARD OF 'inclinelaw21.ScriptJoined'. -/
def scriptJoinedUptoCard : Claim7 := { stood := { row := scriptJoinedUptoRow, standIns := [], harness := (true, "3182da813c6a891e6eeb268bd1be68e2393d5aef28b43defbe381fea8c80d47e"), looks := false }, kinds := [], alts := [], laidByText := true, laidKinds := [.data, .data, .data, .data, .pinned], laidTests := true, laidLooks := .later }
def ScriptJoinedUptoCardSaid : Prop := Claim7.holds Tryd.pinned (.plain (OpenSpec.upto scriptJoinedSpec)) scriptJoinedUptoCard
end Rows
end Go.Proofs.YtlfoaaeelcmhiaaDoor
