/-
  DERIVED. GIVEN WITH THE SEED: THE CARDS: each row of YtcccjpahikgibaaDoorRows.lean that lists a variable, with what it lists TIED to the program's text (the seventh form; the later family's looks); each row that meets fmt, with fmt's text TOLD by the authors' own Lean function (tested against real Go, not proved from fmt's source: count such statements apart). THE CARD IS WHAT COUNTS. Prove the row's statement (the work); the ties are given (YtcccjpahikgibaaDoorTie.lean); close each card by the builder's one call (the guide's Derived/Test/ToyasCard.lean, 'card_holds'). Laid BY PROGRAM, IN A SANDBOX (cutbox-door.mjs). By AI agents, Wed Nov 11 2026. No macro, syntax, notation, axiom, sorry.
-/
import Derived.Test.YtcccjpahikgibaaDoorRows
import GoSem.ClaimSeven
namespace Go.Proofs.YtcccjpahikgibaaDoor
namespace Rows

/-- THE TIED CARD OF 'gabionlaw18.PathParses'. -/
def pathParsesCard : Claim7 := { stood := { row := pathParsesRow, standIns := [], harness := (true, "7d38452d88b03a32c579de485d8237651618c55d3a8606884839339dd8f6f06d"), looks := false }, kinds := [], alts := [], laidByText := true, laidKinds := [.data, .pinned], laidTests := true, laidLooks := .later }
def PathParsesCardSaid : Prop := Claim7.holds Tryd.pinned (.plain (OpenSpec.ofChange pathParsesSpec)) pathParsesCard

/-- THE TIED CARD OF 'gabionlaw18.PathBack'. -/
def pathBackCard : Claim7 := { stood := { row := pathBackRow, standIns := [], harness := (true, "7d38452d88b03a32c579de485d8237651618c55d3a8606884839339dd8f6f06d"), looks := false }, kinds := [], alts := [], laidByText := true, laidKinds := [.data, .pinned], laidTests := true, laidLooks := .later }
def PathBackCardSaid : Prop := Claim7.holds Tryd.pinned (.plain (OpenSpec.ofChange pathBackSpec)) pathBackCard

/-- THE TIED CARD OF 'gabionlaw18.PathNames'. -/
def pathNamesCard : Claim7 := { stood := { row := pathNamesRow, standIns := [], harness := (true, "7d38452d88b03a32c579de485d8237651618c55d3a8606884839339dd8f6f06d"), looks := false }, kinds := [], alts := [], laidByText := true, laidKinds := [.data, .pinned], laidTests := true, laidLooks := .later }
def PathNamesCardSaid : Prop := Claim7.holds Tryd.pinned (.plain (OpenSpec.ofChange pathNamesSpec)) pathNamesCard

/-- THE TIED CARD OF 'gabionlaw18.PathJoins'. -/
def pathJoinsCard : Claim7 := { stood := { row := pathJoinsRow, standIns := [], harness := (true, "7d38452d88b03a32c579de485d8237651618c55d3a8606884839339dd8f6f06d"), looks := false }, kinds := [], alts := [], laidByText := true, laidKinds := [.data, .pinned], laidTests := true, laidLooks := .later }
def PathJoinsCardSaid : Prop := Claim7.holds Tryd.pinned (.plain (OpenSpec.ofChange pathJoinsSpec)) pathJoinsCard

/-- THE TIED CARD OF 'gabionlaw12.RecBytes'. -/
def recBytesCard : Claim7 := { stood := { row := recBytesRow, standIns := [], harness := (true, "7d38452d88b03a32c579de485d8237651618c55d3a8606884839339dd8f6f06d"), looks := false }, kinds := [], alts := [], laidByText := true, laidKinds := [.data, .pinned], laidTests := true, laidLooks := .later }
def RecBytesCardSaid : Prop := Claim7.holds Tryd.pinned (.plain (OpenSpec.ofChange recBytesSpec)) recBytesCard

/-- THE TIED CARD OF 'gabionlaw12.RecFollows'. -/
def recFollowsCard : Claim7 := { stood := { row := recFollowsRow, standIns := [], harness := (true, "7d38452d88b03a32c579de485d8237651618c55d3a8606884839339dd8f6f06d"), looks := false }, kinds := [], alts := [], laidByText := true, laidKinds := [.data, .pinned], laidTests := true, laidLooks := .later }
def RecFollowsCardSaid : Prop := Claim7.holds Tryd.pinned (.plain (OpenSpec.ofChange recFollowsSpec)) recFollowsCard

/-- THE TIED CARD OF 'gabionlaw12.RecBack'. -/
def recBackCard : Claim7 := { stood := { row := recBackRow, standIns := [], harness := (true, "7d38452d88b03a32c579de485d8237651618c55d3a8606884839339dd8f6f06d"), looks := false }, kinds := [], alts := [], laidByText := true, laidKinds := [.data, .pinned], laidTests := true, laidLooks := .later }
def RecBackCardSaid : Prop := Claim7.holds Tryd.pinned (.plain (OpenSpec.ofChange recBackSpec)) recBackCard

/-- THE TIED CARD OF 'gabionlaw12.RecWords'. -/
def recWordsCard : Claim7 := { stood := { row := recWordsRow, standIns := [], harness := (true, "7d38452d88b03a32c579de485d8237651618c55d3a8606884839339dd8f6f06d"), looks := false }, kinds := [], alts := [], laidByText := true, laidKinds := [.data, .pinned], laidTests := true, laidLooks := .later }
def RecWordsCardSaid : Prop := Claim7.holds Tryd.pinned (.plain (OpenSpec.ofChange recWordsSpec)) recWordsCard

/-- THE SECOND FORM's CARD OF 'gabionlaw18.PathParses'. -/
def pathParsesUptoCard : Claim7 := { stood := { row := pathParsesUptoRow, standIns := [], harness := (true, "7d38452d88b03a32c579de485d8237651618c55d3a8606884839339dd8f6f06d"), looks := false }, kinds := [], alts := [], laidByText := true, laidKinds := [.data, .pinned], laidTests := true, laidLooks := .later }
def PathParsesUptoCardSaid : Prop := Claim7.holds Tryd.pinned (.plain (OpenSpec.upto pathParsesSpec)) pathParsesUptoCard

/-- THE SECOND FORM's CARD OF 'gabionlaw18.PathBack'. -/
def pathBackUptoCard : Claim7 := { stood := { row := pathBackUptoRow, standIns := [], harness := (true, "7d38452d88b03a32c579de485d8237651618c55d3a8606884839339dd8f6f06d"), looks := false }, kinds := [], alts := [], laidByText := true, laidKinds := [.data, .pinned], laidTests := true, laidLooks := .later }
def PathBackUptoCardSaid : Prop := Claim7.holds Tryd.pinned (.plain (OpenSpec.upto pathBackSpec)) pathBackUptoCard

/-- THE SECOND FORM's CARD OF 'gabionlaw18.PathNames'. -/
def pathNamesUptoCard : Claim7 := { stood := { row := pathNamesUptoRow, standIns := [], harness := (true, "7d38452d88b03a32c579de485d8237651618c55d3a8606884839339dd8f6f06d"), looks := false }, kinds := [], alts := [], laidByText := true, laidKinds := [.data, .pinned], laidTests := true, laidLooks := .later }
def PathNamesUptoCardSaid : Prop := Claim7.holds Tryd.pinned (.plain (OpenSpec.upto pathNamesSpec)) pathNamesUptoCard

/-- THE SECOND FORM's CARD OF 'gabionlaw18.PathJoins'. -/
def pathJoinsUptoCard : Claim7 := { stood := { row := pathJoinsUptoRow, standIns := [], harness := (true, "7d38452d88b03a32c579de485d8237651618c55d3a8606884839339dd8f6f06d"), looks := false }, kinds := [], alts := [], laidByText := true, laidKinds := [.data, .pinned], laidTests := true, laidLooks := .later }
def PathJoinsUptoCardSaid : Prop := Claim7.holds Tryd.pinned (.plain (OpenSpec.upto pathJoinsSpec)) pathJoinsUptoCard

/-- THE SECOND FORM's CARD OF 'gabionlaw12.RecBytes'. -/
def recBytesUptoCard : Claim7 := { stood := { row := recBytesUptoRow, standIns := [], harness := (true, "7d38452d88b03a32c579de485d8237651618c55d3a8606884839339dd8f6f06d"), looks := false }, kinds := [], alts := [], laidByText := true, laidKinds := [.data, .pinned], laidTests := true, laidLooks := .later }
def RecBytesUptoCardSaid : Prop := Claim7.holds Tryd.pinned (.plain (OpenSpec.upto recBytesSpec)) recBytesUptoCard

/-- THE SECOND FORM's CARD OF 'gabionlaw12.RecFollows'. -/
def recFollowsUptoCard : Claim7 := { stood := { row := recFollowsUptoRow, standIns := [], harness := (true, "7d38452d88b03a32c579de485d8237651618c55d3a8606884839339dd8f6f06d"), looks := false }, kinds := [], alts := [], laidByText := true, laidKinds := [.data, .pinned], laidTests := true, laidLooks := .later }
def RecFollowsUptoCardSaid : Prop := Claim7.holds Tryd.pinned (.plain (OpenSpec.upto recFollowsSpec)) recFollowsUptoCard

/-- THE SECOND FORM's CARD OF 'gabionlaw12.RecBack'. -/
def recBackUptoCard : Claim7 := { stood := { row := recBackUptoRow, standIns := [], harness := (true, "7d38452d88b03a32c579de485d8237651618c55d3a8606884839339dd8f6f06d"), looks := false }, kinds := [], alts := [], laidByText := true, laidKinds := [.data, .pinned], laidTests := true, laidLooks := .later }
def RecBackUptoCardSaid : Prop := Claim7.holds Tryd.pinned (.plain (OpenSpec.upto recBackSpec)) recBackUptoCard

/-- THE SECOND FORM's CARD OF 'gabionlaw12.RecWords'. -/
def recWordsUptoCard : Claim7 := { stood := { row := recWordsUptoRow, standIns := [], harness := (true, "7d38452d88b03a32c579de485d8237651618c55d3a8606884839339dd8f6f06d"), looks := false }, kinds := [], alts := [], laidByText := true, laidKinds := [.data, .pinned], laidTests := true, laidLooks := .later }
def RecWordsUptoCardSaid : Prop := Claim7.holds Tryd.pinned (.plain (OpenSpec.upto recWordsSpec)) recWordsUptoCard
end Rows
end Go.Proofs.YtcccjpahikgibaaDoor
