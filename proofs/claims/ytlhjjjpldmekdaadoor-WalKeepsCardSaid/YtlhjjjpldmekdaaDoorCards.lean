/-
  DERIVED. GIVEN WITH THE SEED: THE CARDS: each row of YtlhjjjpldmekdaaDoorRows.lean that lists a variable, with what it lists TIED to the program's text (the seventh form; the later family's looks); each row that meets fmt, with fmt's text TOLD by the authors' own Lean function (tested against real Go, not proved from fmt's source: count such statements apart). THE CARD IS WHAT COUNTS. Prove the row's statement (the work); the ties are given (YtlhjjjpldmekdaaDoorTie.lean); close each card by the builder's one call (the guide's Derived/Test/ToyasCard.lean, 'card_holds'). Laid BY PROGRAM, IN A SANDBOX (cutbox-door.mjs). By AI agents, Wed Nov 11 2026. No macro, syntax, notation, axiom, sorry.
-/
import Derived.Test.YtlhjjjpldmekdaaDoorRows
import GoSem.ClaimSeven
namespace Go.Proofs.YtlhjjjpldmekdaaDoor
namespace Rows

/-- THE TIED CARD OF 'tributarylaw8.LogReads'. -/
def logReadsCard : Claim7 := { stood := { row := logReadsRow, standIns := [], harness := (true, "62e2f3eb6952362bbc5b20e1c266848f52aa4e60aa7baed7c0c6df882f5a3021"), looks := true }, kinds := [], alts := [], laidByText := true, laidKinds := [.handle], laidTests := true, laidLooks := .later }
def LogReadsCardSaid : Prop := Claim7.holds Tryd.pinned (.plain (OpenSpec.ofChange logReadsSpec)) logReadsCard

/-- THE TIED CARD OF 'tributarylaw8.LogKeeps'. -/
def logKeepsCard : Claim7 := { stood := { row := logKeepsRow, standIns := [], harness := (true, "62e2f3eb6952362bbc5b20e1c266848f52aa4e60aa7baed7c0c6df882f5a3021"), looks := true }, kinds := [], alts := [], laidByText := true, laidKinds := [.handle], laidTests := true, laidLooks := .later }
def LogKeepsCardSaid : Prop := Claim7.holds Tryd.pinned (.plain (OpenSpec.ofChange logKeepsSpec)) logKeepsCard

/-- THE TIED CARD OF 'tributarylaw8.LogEach'. -/
def logEachCard : Claim7 := { stood := { row := logEachRow, standIns := [], harness := (true, "62e2f3eb6952362bbc5b20e1c266848f52aa4e60aa7baed7c0c6df882f5a3021"), looks := true }, kinds := [], alts := [], laidByText := true, laidKinds := [.handle], laidTests := true, laidLooks := .later }
def LogEachCardSaid : Prop := Claim7.holds Tryd.pinned (.plain (OpenSpec.ofChange logEachSpec)) logEachCard

/-- THE TIED CARD OF 'tributarylaw8.LogAgain'. -/
def logAgainCard : Claim7 := { stood := { row := logAgainRow, standIns := [], harness := (true, "62e2f3eb6952362bbc5b20e1c266848f52aa4e60aa7baed7c0c6df882f5a3021"), looks := true }, kinds := [], alts := [], laidByText := true, laidKinds := [.handle], laidTests := true, laidLooks := .later }
def LogAgainCardSaid : Prop := Claim7.holds Tryd.pinned (.plain (OpenSpec.ofChange logAgainSpec)) logAgainCard

/-- THE TIED CARD OF 'tributarylaw8.LogPlays'. -/
def logPlaysCard : Claim7 := { stood := { row := logPlaysRow, standIns := [], harness := (true, "62e2f3eb6952362bbc5b20e1c266848f52aa4e60aa7baed7c0c6df882f5a3021"), looks := true }, kinds := [], alts := [], laidByText := true, laidKinds := [.handle], laidTests := true, laidLooks := .later }
def LogPlaysCardSaid : Prop := Claim7.holds Tryd.pinned (.plain (OpenSpec.ofChange logPlaysSpec)) logPlaysCard

/-- THE TIED CARD OF 'tributarylaw9.WalReads'. -/
def walReadsCard : Claim7 := { stood := { row := walReadsRow, standIns := [], harness := (true, "62e2f3eb6952362bbc5b20e1c266848f52aa4e60aa7baed7c0c6df882f5a3021"), looks := true }, kinds := [], alts := [], laidByText := true, laidKinds := [.handle], laidTests := true, laidLooks := .later }
def WalReadsCardSaid : Prop := Claim7.holds Tryd.pinned (.plain (OpenSpec.ofChange walReadsSpec)) walReadsCard

/-- THE TIED CARD OF 'tributarylaw9.WalKeeps'. -/
def walKeepsCard : Claim7 := { stood := { row := walKeepsRow, standIns := [], harness := (true, "62e2f3eb6952362bbc5b20e1c266848f52aa4e60aa7baed7c0c6df882f5a3021"), looks := true }, kinds := [], alts := [], laidByText := true, laidKinds := [.handle], laidTests := true, laidLooks := .later }
def WalKeepsCardSaid : Prop := Claim7.holds Tryd.pinned (.plain (OpenSpec.ofChange walKeepsSpec)) walKeepsCard

/-- THE TIED CARD OF 'tributarylaw9.WalRow'. -/
def walRowCard : Claim7 := { stood := { row := walRowRow, standIns := [], harness := (true, "62e2f3eb6952362bbc5b20e1c266848f52aa4e60aa7baed7c0c6df882f5a3021"), looks := true }, kinds := [], alts := [], laidByText := true, laidKinds := [.handle], laidTests := true, laidLooks := .later }
def WalRowCardSaid : Prop := Claim7.holds Tryd.pinned (.plain (OpenSpec.ofChange walRowSpec)) walRowCard

/-- THE TIED CARD OF 'tributarylaw15.TableReads'. -/
def tableReadsCard : Claim7 := { stood := { row := tableReadsRow, standIns := [], harness := (true, "62e2f3eb6952362bbc5b20e1c266848f52aa4e60aa7baed7c0c6df882f5a3021"), looks := true }, kinds := [], alts := [], laidByText := true, laidKinds := [.handle], laidTests := true, laidLooks := .later }
def TableReadsCardSaid : Prop := Claim7.holds Tryd.pinned (.plain (OpenSpec.ofChange tableReadsSpec)) tableReadsCard

/-- THE TIED CARD OF 'tributarylaw15.TableEnds'. -/
def tableEndsCard : Claim7 := { stood := { row := tableEndsRow, standIns := [], harness := (true, "62e2f3eb6952362bbc5b20e1c266848f52aa4e60aa7baed7c0c6df882f5a3021"), looks := true }, kinds := [], alts := [], laidByText := true, laidKinds := [.handle], laidTests := true, laidLooks := .later }
def TableEndsCardSaid : Prop := Claim7.holds Tryd.pinned (.plain (OpenSpec.ofChange tableEndsSpec)) tableEndsCard

/-- THE TIED CARD OF 'tributarylaw15.TableOnce'. -/
def tableOnceCard : Claim7 := { stood := { row := tableOnceRow, standIns := [], harness := (true, "62e2f3eb6952362bbc5b20e1c266848f52aa4e60aa7baed7c0c6df882f5a3021"), looks := true }, kinds := [], alts := [], laidByText := true, laidKinds := [.handle], laidTests := true, laidLooks := .later }
def TableOnceCardSaid : Prop := Claim7.holds Tryd.pinned (.plain (OpenSpec.ofChange tableOnceSpec)) tableOnceCard

/-- THE TIED CARD OF 'tributarylaw15.TableParts'. -/
def tablePartsCard : Claim7 := { stood := { row := tablePartsRow, standIns := [], harness := (true, "62e2f3eb6952362bbc5b20e1c266848f52aa4e60aa7baed7c0c6df882f5a3021"), looks := true }, kinds := [], alts := [], laidByText := true, laidKinds := [.handle], laidTests := true, laidLooks := .later }
def TablePartsCardSaid : Prop := Claim7.holds Tryd.pinned (.plain (OpenSpec.ofChange tablePartsSpec)) tablePartsCard

/-- THE TIED CARD OF 'tributarylaw15.TablePlays'. -/
def tablePlaysCard : Claim7 := { stood := { row := tablePlaysRow, standIns := [], harness := (true, "62e2f3eb6952362bbc5b20e1c266848f52aa4e60aa7baed7c0c6df882f5a3021"), looks := true }, kinds := [], alts := [], laidByText := true, laidKinds := [.handle], laidTests := true, laidLooks := .later }
def TablePlaysCardSaid : Prop := Claim7.holds Tryd.pinned (.plain (OpenSpec.ofChange tablePlaysSpec)) tablePlaysCard

/-- THE SECOND FORM's CARD OF 'tributarylaw8.LogReads'. -/
def logReadsUptoCard : Claim7 := { stood := { row := logReadsUptoRow, standIns := [], harness := (true, "62e2f3eb6952362bbc5b20e1c266848f52aa4e60aa7baed7c0c6df882f5a3021"), looks := true }, kinds := [], alts := [], laidByText := true, laidKinds := [.handle], laidTests := true, laidLooks := .later }
def LogReadsUptoCardSaid : Prop := Claim7.holds Tryd.pinned (.plain (OpenSpec.upto logReadsSpec)) logReadsUptoCard

/-- THE SECOND FORM's CARD OF 'tributarylaw8.LogKeeps'. -/
def logKeepsUptoCard : Claim7 := { stood := { row := logKeepsUptoRow, standIns := [], harness := (true, "62e2f3eb6952362bbc5b20e1c266848f52aa4e60aa7baed7c0c6df882f5a3021"), looks := true }, kinds := [], alts := [], laidByText := true, laidKinds := [.handle], laidTests := true, laidLooks := .later }
def LogKeepsUptoCardSaid : Prop := Claim7.holds Tryd.pinned (.plain (OpenSpec.upto logKeepsSpec)) logKeepsUptoCard

/-- THE SECOND FORM's CARD OF 'tributarylaw8.LogEach'. -/
def logEachUptoCard : Claim7 := { stood := { row := logEachUptoRow, standIns := [], harness := (true, "62e2f3eb6952362bbc5b20e1c266848f52aa4e60aa7baed7c0c6df882f5a3021"), looks := true }, kinds := [], alts := [], laidByText := true, laidKinds := [.handle], laidTests := true, laidLooks := .later }
def LogEachUptoCardSaid : Prop := Claim7.holds Tryd.pinned (.plain (OpenSpec.upto logEachSpec)) logEachUptoCard

/-- THE SECOND FORM's CARD OF 'tributarylaw8.LogAgain'. -/
def logAgainUptoCard : Claim7 := { stood := { row := logAgainUptoRow, standIns := [], harness := (true, "62e2f3eb6952362bbc5b20e1c266848f52aa4e60aa7baed7c0c6df882f5a3021"), looks := true }, kinds := [], alts := [], laidByText := true, laidKinds := [.handle], laidTests := true, laidLooks := .later }
def LogAgainUptoCardSaid : Prop := Claim7.holds Tryd.pinned (.plain (OpenSpec.upto logAgainSpec)) logAgainUptoCard

/-- THE SECOND FORM's CARD OF 'tributarylaw8.LogPlays'. -/
def logPlaysUptoCard : Claim7 := { stood := { row := logPlaysUptoRow, standIns := [], harness := (true, "62e2f3eb6952362bbc5b20e1c266848f52aa4e60aa7baed7c0c6df882f5a3021"), looks := true }, kinds := [], alts := [], laidByText := true, laidKinds := [.handle], laidTests := true, laidLooks := .later }
def LogPlaysUptoCardSaid : Prop := Claim7.holds Tryd.pinned (.plain (OpenSpec.upto logPlaysSpec)) logPlaysUptoCard

/-- THE SECOND FORM's CARD OF 'tributarylaw9.WalReads'. -/
def walReadsUptoCard : Claim7 := { stood := { row := walReadsUptoRow, standIns := [], harness := (true, "62e2f3eb6952362bbc5b20e1c266848f52aa4e60aa7baed7c0c6df882f5a3021"), looks := true }, kinds := [], alts := [], laidByText := true, laidKinds := [.handle], laidTests := true, laidLooks := .later }
def WalReadsUptoCardSaid : Prop := Claim7.holds Tryd.pinned (.plain (OpenSpec.upto walReadsSpec)) walReadsUptoCard

/-- THE SECOND FORM's CARD OF 'tributarylaw9.WalKeeps'. -/
def walKeepsUptoCard : Claim7 := { stood := { row := walKeepsUptoRow, standIns := [], harness := (true, "62e2f3eb6952362bbc5b20e1c266848f52aa4e60aa7baed7c0c6df882f5a3021"), looks := true }, kinds := [], alts := [], laidByText := true, laidKinds := [.handle], laidTests := true, laidLooks := .later }
def WalKeepsUptoCardSaid : Prop := Claim7.holds Tryd.pinned (.plain (OpenSpec.upto walKeepsSpec)) walKeepsUptoCard

/-- THE SECOND FORM's CARD OF 'tributarylaw9.WalRow'. -/
def walRowUptoCard : Claim7 := { stood := { row := walRowUptoRow, standIns := [], harness := (true, "62e2f3eb6952362bbc5b20e1c266848f52aa4e60aa7baed7c0c6df882f5a3021"), looks := true }, kinds := [], alts := [], laidByText := true, laidKinds := [.handle], laidTests := true, laidLooks := .later }
def WalRowUptoCardSaid : Prop := Claim7.holds Tryd.pinned (.plain (OpenSpec.upto walRowSpec)) walRowUptoCard

/-- THE SECOND FORM's CARD OF 'tributarylaw15.TableReads'. -/
def tableReadsUptoCard : Claim7 := { stood := { row := tableReadsUptoRow, standIns := [], harness := (true, "62e2f3eb6952362bbc5b20e1c266848f52aa4e60aa7baed7c0c6df882f5a3021"), looks := true }, kinds := [], alts := [], laidByText := true, laidKinds := [.handle], laidTests := true, laidLooks := .later }
def TableReadsUptoCardSaid : Prop := Claim7.holds Tryd.pinned (.plain (OpenSpec.upto tableReadsSpec)) tableReadsUptoCard

/-- THE SECOND FORM's CARD OF 'tributarylaw15.TableEnds'. -/
def tableEndsUptoCard : Claim7 := { stood := { row := tableEndsUptoRow, standIns := [], harness := (true, "62e2f3eb6952362bbc5b20e1c266848f52aa4e60aa7baed7c0c6df882f5a3021"), looks := true }, kinds := [], alts := [], laidByText := true, laidKinds := [.handle], laidTests := true, laidLooks := .later }
def TableEndsUptoCardSaid : Prop := Claim7.holds Tryd.pinned (.plain (OpenSpec.upto tableEndsSpec)) tableEndsUptoCard

/-- THE SECOND FORM's CARD OF 'tributarylaw15.TableOnce'. -/
def tableOnceUptoCard : Claim7 := { stood := { row := tableOnceUptoRow, standIns := [], harness := (true, "62e2f3eb6952362bbc5b20e1c266848f52aa4e60aa7baed7c0c6df882f5a3021"), looks := true }, kinds := [], alts := [], laidByText := true, laidKinds := [.handle], laidTests := true, laidLooks := .later }
def TableOnceUptoCardSaid : Prop := Claim7.holds Tryd.pinned (.plain (OpenSpec.upto tableOnceSpec)) tableOnceUptoCard

/-- THE SECOND FORM's CARD OF 'tributarylaw15.TableParts'. -/
def tablePartsUptoCard : Claim7 := { stood := { row := tablePartsUptoRow, standIns := [], harness := (true, "62e2f3eb6952362bbc5b20e1c266848f52aa4e60aa7baed7c0c6df882f5a3021"), looks := true }, kinds := [], alts := [], laidByText := true, laidKinds := [.handle], laidTests := true, laidLooks := .later }
def TablePartsUptoCardSaid : Prop := Claim7.holds Tryd.pinned (.plain (OpenSpec.upto tablePartsSpec)) tablePartsUptoCard

/-- THE SECOND FORM's CARD OF 'tributarylaw15.TablePlays'. -/
def tablePlaysUptoCard : Claim7 := { stood := { row := tablePlaysUptoRow, standIns := [], harness := (true, "62e2f3eb6952362bbc5b20e1c266848f52aa4e60aa7baed7c0c6df882f5a3021"), looks := true }, kinds := [], alts := [], laidByText := true, laidKinds := [.handle], laidTests := true, laidLooks := .later }
def TablePlaysUptoCardSaid : Prop := Claim7.holds Tryd.pinned (.plain (OpenSpec.upto tablePlaysSpec)) tablePlaysUptoCard
end Rows
end Go.Proofs.YtlhjjjpldmekdaaDoor
