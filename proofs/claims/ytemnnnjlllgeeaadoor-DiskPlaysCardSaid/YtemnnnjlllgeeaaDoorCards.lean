/-
  DERIVED. GIVEN WITH THE SEED: THE CARDS: each row of YtemnnnjlllgeeaaDoorRows.lean that lists a variable, with what it lists TIED to the program's text (the seventh form; the later family's looks); each row that meets fmt, with fmt's text TOLD by the authors' own Lean function (tested against real Go, not proved from fmt's source: count such statements apart). THE CARD IS WHAT COUNTS. Prove the row's statement (the work); the ties are given (YtemnnnjlllgeeaaDoorTie.lean); close each card by the builder's one call (the guide's Derived/Test/ToyasCard.lean, 'card_holds'). Laid BY PROGRAM, IN A SANDBOX (cutbox-door.mjs). By AI agents, Wed Nov 11 2026. No macro, syntax, notation, axiom, sorry.
-/
import Derived.Test.YtemnnnjlllgeeaaDoorRows
import GoSem.ClaimSeven
namespace Go.Proofs.YtemnnnjlllgeeaaDoor
namespace Rows

/-- THE TIED CARD OF 'tributarylaw7.DiskKeeps'. -/
def diskKeepsCard : Claim7 := { stood := { row := diskKeepsRow, standIns := [], harness := (true, "71ca956f7b06f143d336d5af7412bc9d7f9b7c7ee96262a78b3ca1944c90e87d"), looks := true }, kinds := [], alts := [], laidByText := true, laidKinds := [.handle], laidTests := true, laidLooks := .later }
def DiskKeepsCardSaid : Prop := Claim7.holds Tryd.pinned (.plain (OpenSpec.ofChange diskKeepsSpec)) diskKeepsCard

/-- THE TIED CARD OF 'tributarylaw7.DiskArms'. -/
def diskArmsCard : Claim7 := { stood := { row := diskArmsRow, standIns := [], harness := (true, "71ca956f7b06f143d336d5af7412bc9d7f9b7c7ee96262a78b3ca1944c90e87d"), looks := true }, kinds := [], alts := [], laidByText := true, laidKinds := [.handle], laidTests := true, laidLooks := .later }
def DiskArmsCardSaid : Prop := Claim7.holds Tryd.pinned (.plain (OpenSpec.ofChange diskArmsSpec)) diskArmsCard

/-- THE TIED CARD OF 'tributarylaw7.DiskApart'. -/
def diskApartCard : Claim7 := { stood := { row := diskApartRow, standIns := [], harness := (true, "71ca956f7b06f143d336d5af7412bc9d7f9b7c7ee96262a78b3ca1944c90e87d"), looks := true }, kinds := [], alts := [], laidByText := true, laidKinds := [.handle], laidTests := true, laidLooks := .later }
def DiskApartCardSaid : Prop := Claim7.holds Tryd.pinned (.plain (OpenSpec.ofChange diskApartSpec)) diskApartCard

/-- THE TIED CARD OF 'tributarylaw7.DiskPlays'. -/
def diskPlaysCard : Claim7 := { stood := { row := diskPlaysRow, standIns := [], harness := (true, "71ca956f7b06f143d336d5af7412bc9d7f9b7c7ee96262a78b3ca1944c90e87d"), looks := true }, kinds := [], alts := [], laidByText := true, laidKinds := [.handle], laidTests := true, laidLooks := .later }
def DiskPlaysCardSaid : Prop := Claim7.holds Tryd.pinned (.plain (OpenSpec.ofChange diskPlaysSpec)) diskPlaysCard

/-- THE TIED CARD OF 'tributarylaw3.OpsRight'. -/
def opsRightCard : Claim7 := { stood := { row := opsRightRow, standIns := [], harness := (true, "71ca956f7b06f143d336d5af7412bc9d7f9b7c7ee96262a78b3ca1944c90e87d"), looks := true }, kinds := [], alts := [], laidByText := true, laidKinds := [.handle], laidTests := true, laidLooks := .later }
def OpsRightCardSaid : Prop := Claim7.holds Tryd.pinned (.plain (OpenSpec.ofChange opsRightSpec)) opsRightCard

/-- THE TIED CARD OF 'tributarylaw3.OpsApply'. -/
def opsApplyCard : Claim7 := { stood := { row := opsApplyRow, standIns := [], harness := (true, "71ca956f7b06f143d336d5af7412bc9d7f9b7c7ee96262a78b3ca1944c90e87d"), looks := true }, kinds := [], alts := [], laidByText := true, laidKinds := [.handle], laidTests := true, laidLooks := .later }
def OpsApplyCardSaid : Prop := Claim7.holds Tryd.pinned (.plain (OpenSpec.ofChange opsApplySpec)) opsApplyCard

/-- THE TIED CARD OF 'tributarylaw3.OpsJoins'. -/
def opsJoinsCard : Claim7 := { stood := { row := opsJoinsRow, standIns := [], harness := (true, "71ca956f7b06f143d336d5af7412bc9d7f9b7c7ee96262a78b3ca1944c90e87d"), looks := true }, kinds := [], alts := [], laidByText := true, laidKinds := [.handle], laidTests := true, laidLooks := .later }
def OpsJoinsCardSaid : Prop := Claim7.holds Tryd.pinned (.plain (OpenSpec.ofChange opsJoinsSpec)) opsJoinsCard

/-- THE TIED CARD OF 'tributarylaw3.OpsShapes'. -/
def opsShapesCard : Claim7 := { stood := { row := opsShapesRow, standIns := [], harness := (true, "71ca956f7b06f143d336d5af7412bc9d7f9b7c7ee96262a78b3ca1944c90e87d"), looks := true }, kinds := [], alts := [], laidByText := true, laidKinds := [.handle], laidTests := true, laidLooks := .later }
def OpsShapesCardSaid : Prop := Claim7.holds Tryd.pinned (.plain (OpenSpec.ofChange opsShapesSpec)) opsShapesCard

/-- THE TIED CARD OF 'tributarylaw3.OpsBack'. -/
def opsBackCard : Claim7 := { stood := { row := opsBackRow, standIns := [], harness := (true, "71ca956f7b06f143d336d5af7412bc9d7f9b7c7ee96262a78b3ca1944c90e87d"), looks := true }, kinds := [], alts := [], laidByText := true, laidKinds := [.handle], laidTests := true, laidLooks := .later }
def OpsBackCardSaid : Prop := Claim7.holds Tryd.pinned (.plain (OpenSpec.ofChange opsBackSpec)) opsBackCard

/-- THE TIED CARD OF 'tributarylaw3.OpsUnion'. -/
def opsUnionCard : Claim7 := { stood := { row := opsUnionRow, standIns := [], harness := (true, "71ca956f7b06f143d336d5af7412bc9d7f9b7c7ee96262a78b3ca1944c90e87d"), looks := true }, kinds := [], alts := [], laidByText := true, laidKinds := [.handle], laidTests := true, laidLooks := .later }
def OpsUnionCardSaid : Prop := Claim7.holds Tryd.pinned (.plain (OpenSpec.ofChange opsUnionSpec)) opsUnionCard

/-- THE SECOND FORM's CARD OF 'tributarylaw7.DiskKeeps'. -/
def diskKeepsUptoCard : Claim7 := { stood := { row := diskKeepsUptoRow, standIns := [], harness := (true, "71ca956f7b06f143d336d5af7412bc9d7f9b7c7ee96262a78b3ca1944c90e87d"), looks := true }, kinds := [], alts := [], laidByText := true, laidKinds := [.handle], laidTests := true, laidLooks := .later }
def DiskKeepsUptoCardSaid : Prop := Claim7.holds Tryd.pinned (.plain (OpenSpec.upto diskKeepsSpec)) diskKeepsUptoCard

/-- THE SECOND FORM's CARD OF 'tributarylaw7.DiskArms'. -/
def diskArmsUptoCard : Claim7 := { stood := { row := diskArmsUptoRow, standIns := [], harness := (true, "71ca956f7b06f143d336d5af7412bc9d7f9b7c7ee96262a78b3ca1944c90e87d"), looks := true }, kinds := [], alts := [], laidByText := true, laidKinds := [.handle], laidTests := true, laidLooks := .later }
def DiskArmsUptoCardSaid : Prop := Claim7.holds Tryd.pinned (.plain (OpenSpec.upto diskArmsSpec)) diskArmsUptoCard

/-- THE SECOND FORM's CARD OF 'tributarylaw7.DiskApart'. -/
def diskApartUptoCard : Claim7 := { stood := { row := diskApartUptoRow, standIns := [], harness := (true, "71ca956f7b06f143d336d5af7412bc9d7f9b7c7ee96262a78b3ca1944c90e87d"), looks := true }, kinds := [], alts := [], laidByText := true, laidKinds := [.handle], laidTests := true, laidLooks := .later }
def DiskApartUptoCardSaid : Prop := Claim7.holds Tryd.pinned (.plain (OpenSpec.upto diskApartSpec)) diskApartUptoCard

/-- THE SECOND FORM's CARD OF 'tributarylaw7.DiskPlays'. -/
def diskPlaysUptoCard : Claim7 := { stood := { row := diskPlaysUptoRow, standIns := [], harness := (true, "71ca956f7b06f143d336d5af7412bc9d7f9b7c7ee96262a78b3ca1944c90e87d"), looks := true }, kinds := [], alts := [], laidByText := true, laidKinds := [.handle], laidTests := true, laidLooks := .later }
def DiskPlaysUptoCardSaid : Prop := Claim7.holds Tryd.pinned (.plain (OpenSpec.upto diskPlaysSpec)) diskPlaysUptoCard

/-- THE SECOND FORM's CARD OF 'tributarylaw3.OpsRight'. -/
def opsRightUptoCard : Claim7 := { stood := { row := opsRightUptoRow, standIns := [], harness := (true, "71ca956f7b06f143d336d5af7412bc9d7f9b7c7ee96262a78b3ca1944c90e87d"), looks := true }, kinds := [], alts := [], laidByText := true, laidKinds := [.handle], laidTests := true, laidLooks := .later }
def OpsRightUptoCardSaid : Prop := Claim7.holds Tryd.pinned (.plain (OpenSpec.upto opsRightSpec)) opsRightUptoCard

/-- THE SECOND FORM's CARD OF 'tributarylaw3.OpsApply'. -/
def opsApplyUptoCard : Claim7 := { stood := { row := opsApplyUptoRow, standIns := [], harness := (true, "71ca956f7b06f143d336d5af7412bc9d7f9b7c7ee96262a78b3ca1944c90e87d"), looks := true }, kinds := [], alts := [], laidByText := true, laidKinds := [.handle], laidTests := true, laidLooks := .later }
def OpsApplyUptoCardSaid : Prop := Claim7.holds Tryd.pinned (.plain (OpenSpec.upto opsApplySpec)) opsApplyUptoCard

/-- THE SECOND FORM's CARD OF 'tributarylaw3.OpsJoins'. -/
def opsJoinsUptoCard : Claim7 := { stood := { row := opsJoinsUptoRow, standIns := [], harness := (true, "71ca956f7b06f143d336d5af7412bc9d7f9b7c7ee96262a78b3ca1944c90e87d"), looks := true }, kinds := [], alts := [], laidByText := true, laidKinds := [.handle], laidTests := true, laidLooks := .later }
def OpsJoinsUptoCardSaid : Prop := Claim7.holds Tryd.pinned (.plain (OpenSpec.upto opsJoinsSpec)) opsJoinsUptoCard

/-- THE SECOND FORM's CARD OF 'tributarylaw3.OpsShapes'. -/
def opsShapesUptoCard : Claim7 := { stood := { row := opsShapesUptoRow, standIns := [], harness := (true, "71ca956f7b06f143d336d5af7412bc9d7f9b7c7ee96262a78b3ca1944c90e87d"), looks := true }, kinds := [], alts := [], laidByText := true, laidKinds := [.handle], laidTests := true, laidLooks := .later }
def OpsShapesUptoCardSaid : Prop := Claim7.holds Tryd.pinned (.plain (OpenSpec.upto opsShapesSpec)) opsShapesUptoCard

/-- THE SECOND FORM's CARD OF 'tributarylaw3.OpsBack'. -/
def opsBackUptoCard : Claim7 := { stood := { row := opsBackUptoRow, standIns := [], harness := (true, "71ca956f7b06f143d336d5af7412bc9d7f9b7c7ee96262a78b3ca1944c90e87d"), looks := true }, kinds := [], alts := [], laidByText := true, laidKinds := [.handle], laidTests := true, laidLooks := .later }
def OpsBackUptoCardSaid : Prop := Claim7.holds Tryd.pinned (.plain (OpenSpec.upto opsBackSpec)) opsBackUptoCard

/-- THE SECOND FORM's CARD OF 'tributarylaw3.OpsUnion'. -/
def opsUnionUptoCard : Claim7 := { stood := { row := opsUnionUptoRow, standIns := [], harness := (true, "71ca956f7b06f143d336d5af7412bc9d7f9b7c7ee96262a78b3ca1944c90e87d"), looks := true }, kinds := [], alts := [], laidByText := true, laidKinds := [.handle], laidTests := true, laidLooks := .later }
def OpsUnionUptoCardSaid : Prop := Claim7.holds Tryd.pinned (.plain (OpenSpec.upto opsUnionSpec)) opsUnionUptoCard
end Rows
end Go.Proofs.YtemnnnjlllgeeaaDoor
