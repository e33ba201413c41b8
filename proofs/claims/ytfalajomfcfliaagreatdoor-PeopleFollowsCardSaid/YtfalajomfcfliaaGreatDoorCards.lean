/-
  DERIVED. GIVEN WITH THE SEED: THE CARDS: each row of YtfalajomfcfliaaGreatDoorRows.lean that lists a variable, with what it lists TIED to the program's text (the seventh form; the later family's looks); each row that meets fmt, with fmt's text TOLD by the authors' own Lean function (tested against real Go, not proved from fmt's source: count such statements apart). THE CARD IS WHAT COUNTS. Prove the row's statement (the work); the ties are given (YtfalajomfcfliaaGreatDoorTie.lean); close each card by the builder's one call (the guide's Derived/Test/ToyasCard.lean, 'card_holds'). Laid BY PROGRAM, IN A SANDBOX (cutbox-door.mjs). By AI agents, Wed Nov 11 2026. No macro, syntax, notation, axiom, sorry.
-/
import Derived.Test.YtfalajomfcfliaaGreatDoorRows
import GoSem.ClaimSeven
namespace Go.Proofs.YtfalajomfcfliaaGreatDoor
namespace Rows

/-- THE TIED CARD OF 'restantelaw03.PeopleChecks'. -/
def peopleChecksCard : Claim7 := { stood := { row := peopleChecksRow, standIns := [], harness := (true, "6031424d8f960615d644f3deb90f16154c403d1124be86676ca94bb50484da58"), looks := true }, kinds := [], alts := [], laidByText := true, laidKinds := [.data, .data, .data, .sentinel, .sentinel], laidTests := true, laidLooks := .later }
def PeopleChecksCardSaid : Prop := Claim7.holds Tryz.pinned (.plain (OpenSpec.ofChange peopleChecksSpec)) peopleChecksCard

/-- THE TIED CARD OF 'restantelaw03.PeopleAppends'. -/
def peopleAppendsCard : Claim7 := { stood := { row := peopleAppendsRow, standIns := [], harness := (true, "6031424d8f960615d644f3deb90f16154c403d1124be86676ca94bb50484da58"), looks := true }, kinds := [], alts := [], laidByText := true, laidKinds := [.data, .data, .data, .sentinel, .sentinel], laidTests := true, laidLooks := .later }
def PeopleAppendsCardSaid : Prop := Claim7.holds Tryz.pinned (.plain (OpenSpec.ofChange peopleAppendsSpec)) peopleAppendsCard

/-- THE TIED CARD OF 'restantelaw03.PeopleValid'. -/
def peopleValidCard : Claim7 := { stood := { row := peopleValidRow, standIns := [], harness := (true, "6031424d8f960615d644f3deb90f16154c403d1124be86676ca94bb50484da58"), looks := true }, kinds := [], alts := [], laidByText := true, laidKinds := [.data, .data, .data, .sentinel, .sentinel], laidTests := true, laidLooks := .later }
def PeopleValidCardSaid : Prop := Claim7.holds Tryz.pinned (.plain (OpenSpec.ofChange peopleValidSpec)) peopleValidCard

/-- THE TIED CARD OF 'restantelaw03.PeopleWrites'. -/
def peopleWritesCard : Claim7 := { stood := { row := peopleWritesRow, standIns := [], harness := (true, "6031424d8f960615d644f3deb90f16154c403d1124be86676ca94bb50484da58"), looks := true }, kinds := [], alts := [], laidByText := true, laidKinds := [.data, .data, .data, .sentinel, .sentinel], laidTests := true, laidLooks := .later }
def PeopleWritesCardSaid : Prop := Claim7.holds Tryz.pinned (.plain (OpenSpec.ofChange peopleWritesSpec)) peopleWritesCard

/-- THE TIED CARD OF 'restantelaw03.PeopleLines'. -/
def peopleLinesCard : Claim7 := { stood := { row := peopleLinesRow, standIns := [], harness := (true, "6031424d8f960615d644f3deb90f16154c403d1124be86676ca94bb50484da58"), looks := true }, kinds := [], alts := [], laidByText := true, laidKinds := [.data, .data, .data, .sentinel, .sentinel], laidTests := true, laidLooks := .later }
def PeopleLinesCardSaid : Prop := Claim7.holds Tryz.pinned (.plain (OpenSpec.ofChange peopleLinesSpec)) peopleLinesCard

/-- THE TIED CARD OF 'restantelaw03.PeopleOrders'. -/
def peopleOrdersCard : Claim7 := { stood := { row := peopleOrdersRow, standIns := [], harness := (true, "6031424d8f960615d644f3deb90f16154c403d1124be86676ca94bb50484da58"), looks := true }, kinds := [], alts := [], laidByText := true, laidKinds := [.data, .data, .data, .sentinel, .sentinel], laidTests := true, laidLooks := .later }
def PeopleOrdersCardSaid : Prop := Claim7.holds Tryz.pinned (.plain (OpenSpec.ofChange peopleOrdersSpec)) peopleOrdersCard

/-- THE TIED CARD OF 'restantelaw03.PeopleSupersedes'. -/
def peopleSupersedesCard : Claim7 := { stood := { row := peopleSupersedesRow, standIns := [], harness := (true, "6031424d8f960615d644f3deb90f16154c403d1124be86676ca94bb50484da58"), looks := true }, kinds := [], alts := [], laidByText := true, laidKinds := [.data, .data, .data, .sentinel, .sentinel], laidTests := true, laidLooks := .later }
def PeopleSupersedesCardSaid : Prop := Claim7.holds Tryz.pinned (.plain (OpenSpec.ofChange peopleSupersedesSpec)) peopleSupersedesCard

/-- THE TIED CARD OF 'restantelaw03.PeopleFollows'. -/
def peopleFollowsCard : Claim7 := { stood := { row := peopleFollowsRow, standIns := [], harness := (true, "6031424d8f960615d644f3deb90f16154c403d1124be86676ca94bb50484da58"), looks := true }, kinds := [], alts := [], laidByText := true, laidKinds := [.data, .data, .data, .sentinel, .sentinel], laidTests := true, laidLooks := .later }
def PeopleFollowsCardSaid : Prop := Claim7.holds Tryz.pinned (.plain (OpenSpec.ofChange peopleFollowsSpec)) peopleFollowsCard

/-- THE TIED CARD OF 'restantelaw03.PeopleEnds'. -/
def peopleEndsCard : Claim7 := { stood := { row := peopleEndsRow, standIns := [], harness := (true, "6031424d8f960615d644f3deb90f16154c403d1124be86676ca94bb50484da58"), looks := true }, kinds := [], alts := [], laidByText := true, laidKinds := [.data, .data, .data, .sentinel, .sentinel], laidTests := true, laidLooks := .later }
def PeopleEndsCardSaid : Prop := Claim7.holds Tryz.pinned (.plain (OpenSpec.ofChange peopleEndsSpec)) peopleEndsCard

/-- THE TIED CARD OF 'restantelaw03.PeopleHouses'. -/
def peopleHousesCard : Claim7 := { stood := { row := peopleHousesRow, standIns := [], harness := (true, "6031424d8f960615d644f3deb90f16154c403d1124be86676ca94bb50484da58"), looks := true }, kinds := [], alts := [], laidByText := true, laidKinds := [.data, .data, .data, .sentinel, .sentinel], laidTests := true, laidLooks := .later }
def PeopleHousesCardSaid : Prop := Claim7.holds Tryz.pinned (.plain (OpenSpec.ofChange peopleHousesSpec)) peopleHousesCard

/-- THE SECOND FORM's CARD OF 'restantelaw03.PeopleChecks'. -/
def peopleChecksUptoCard : Claim7 := { stood := { row := peopleChecksUptoRow, standIns := [], harness := (true, "6031424d8f960615d644f3deb90f16154c403d1124be86676ca94bb50484da58"), looks := true }, kinds := [], alts := [], laidByText := true, laidKinds := [.data, .data, .data, .sentinel, .sentinel], laidTests := true, laidLooks := .later }
def PeopleChecksUptoCardSaid : Prop := Claim7.holds Tryz.pinned (.plain (OpenSpec.upto peopleChecksSpec)) peopleChecksUptoCard

/-- THE SECOND FORM's CARD OF 'restantelaw03.PeopleAppends'. -/
def peopleAppendsUptoCard : Claim7 := { stood := { row := peopleAppendsUptoRow, standIns := [], harness := (true, "6031424d8f960615d644f3deb90f16154c403d1124be86676ca94bb50484da58"), looks := true }, kinds := [], alts := [], laidByText := true, laidKinds := [.data, .data, .data, .sentinel, .sentinel], laidTests := true, laidLooks := .later }
def PeopleAppendsUptoCardSaid : Prop := Claim7.holds Tryz.pinned (.plain (OpenSpec.upto peopleAppendsSpec)) peopleAppendsUptoCard

/-- THE SECOND FORM's CARD OF 'restantelaw03.PeopleValid'. -/
def peopleValidUptoCard : Claim7 := { stood := { row := peopleValidUptoRow, standIns := [], harness := (true, "6031424d8f960615d644f3deb90f16154c403d1124be86676ca94bb50484da58"), looks := true }, kinds := [], alts := [], laidByText := true, laidKinds := [.data, .data, .data, .sentinel, .sentinel], laidTests := true, laidLooks := .later }
def PeopleValidUptoCardSaid : Prop := Claim7.holds Tryz.pinned (.plain (OpenSpec.upto peopleValidSpec)) peopleValidUptoCard

/-- THE SECOND FORM's CARD OF 'restantelaw03.PeopleWrites'. -/
def peopleWritesUptoCard : Claim7 := { stood := { row := peopleWritesUptoRow, standIns := [], harness := (true, "6031424d8f960615d644f3deb90f16154c403d1124be86676ca94bb50484da58"), looks := true }, kinds := [], alts := [], laidByText := true, laidKinds := [.data, .data, .data, .sentinel, .sentinel], laidTests := true, laidLooks := .later }
def PeopleWritesUptoCardSaid : Prop := Claim7.holds Tryz.pinned (.plain (OpenSpec.upto peopleWritesSpec)) peopleWritesUptoCard

/-- THE SECOND FORM's CARD OF 'restantelaw03.PeopleLines'. -/
def peopleLinesUptoCard : Claim7 := { stood := { row := peopleLinesUptoRow, standIns := [], harness := (true, "6031424d8f960615d644f3deb90f16154c403d1124be86676ca94bb50484da58"), looks := true }, kinds := [], alts := [], laidByText := true, laidKinds := [.data, .data, .data, .sentinel, .sentinel], laidTests := true, laidLooks := .later }
def PeopleLinesUptoCardSaid : Prop := Claim7.holds Tryz.pinned (.plain (OpenSpec.upto peopleLinesSpec)) peopleLinesUptoCard

/-- THE SECOND FORM's CARD OF 'restantelaw03.PeopleOrders'. -/
def peopleOrdersUptoCard : Claim7 := { stood := { row := peopleOrdersUptoRow, standIns := [], harness := (true, "6031424d8f960615d644f3deb90f16154c403d1124be86676ca94bb50484da58"), looks := true }, kinds := [], alts := [], laidByText := true, laidKinds := [.data, .data, .data, .sentinel, .sentinel], laidTests := true, laidLooks := .later }
def PeopleOrdersUptoCardSaid : Prop := Claim7.holds Tryz.pinned (.plain (OpenSpec.upto peopleOrdersSpec)) peopleOrdersUptoCard

/-- THE SECOND FORM's CARD OF 'restantelaw03.PeopleSupersedes'. -/
def peopleSupersedesUptoCard : Claim7 := { stood := { row := peopleSupersedesUptoRow, standIns := [], harness := (true, "6031424d8f960615d644f3deb90f16154c403d1124be86676ca94bb50484da58"), looks := true }, kinds := [], alts := [], laidByText := true, laidKinds := [.data, .data, .data, .sentinel, .sentinel], laidTests := true, laidLooks := .later }
def PeopleSupersedesUptoCardSaid : Prop := Claim7.holds Tryz.pinned (.plain (OpenSpec.upto peopleSupersedesSpec)) peopleSupersedesUptoCard

/-- THE SECOND FORM's CARD OF 'restantelaw03.PeopleFollows'. -/
def peopleFollowsUptoCard : Claim7 := { stood := { row := peopleFollowsUptoRow, standIns := [], harness := (true, "6031424d8f960615d644f3deb90f16154c403d1124be86676ca94bb50484da58"), looks := true }, kinds := [], alts := [], laidByText := true, laidKinds := [.data, .data, .data, .sentinel, .sentinel], laidTests := true, laidLooks := .later }
def PeopleFollowsUptoCardSaid : Prop := Claim7.holds Tryz.pinned (.plain (OpenSpec.upto peopleFollowsSpec)) peopleFollowsUptoCard

/-- THE SECOND FORM's CARD OF 'restantelaw03.PeopleEnds'. -/
def peopleEndsUptoCard : Claim7 := { stood := { row := peopleEndsUptoRow, standIns := [], harness := (true, "6031424d8f960615d644f3deb90f16154c403d1124be86676ca94bb50484da58"), looks := true }, kinds := [], alts := [], laidByText := true, laidKinds := [.data, .data, .data, .sentinel, .sentinel], laidTests := true, laidLooks := .later }
def PeopleEndsUptoCardSaid : Prop := Claim7.holds Tryz.pinned (.plain (OpenSpec.upto peopleEndsSpec)) peopleEndsUptoCard

/-- THE SECOND FORM's CARD OF 'restantelaw03.PeopleHouses'. -/
def peopleHousesUptoCard : Claim7 := { stood := { row := peopleHousesUptoRow, standIns := [], harness := (true, "6031424d8f960615d644f3deb90f16154c403d1124be86676ca94bb50484da58"), looks := true }, kinds := [], alts := [], laidByText := true, laidKinds := [.data, .data, .data, .sentinel, .sentinel], laidTests := true, laidLooks := .later }
def PeopleHousesUptoCardSaid : Prop := Claim7.holds Tryz.pinned (.plain (OpenSpec.upto peopleHousesSpec)) peopleHousesUptoCard
end Rows
end Go.Proofs.YtfalajomfcfliaaGreatDoor
