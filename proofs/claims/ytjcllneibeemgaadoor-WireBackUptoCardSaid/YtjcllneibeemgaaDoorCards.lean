/-
  DERIVED. GIVEN WITH THE SEED: THE CARDS: each row of YtjcllneibeemgaaDoorRows.lean that lists a variable, with what it lists TIED to the program's text (the seventh form; the later family's looks); each row that meets fmt, with fmt's text TOLD by the authors' own Lean function (tested against real Go, not proved from fmt's source: count such statements apart). THE CARD IS WHAT COUNTS. Prove the row's statement (the work); the ties are given (YtjcllneibeemgaaDoorTie.lean); close each card by the builder's one call (the guide's Derived/Test/ToyasCard.lean, 'card_holds'). Laid BY PROGRAM, IN A SANDBOX (cutbox-door.mjs). By AI agents, Wed Nov 11 2026. No macro, syntax, notation, axiom, sorry.
-/
import Derived.Test.YtjcllneibeemgaaDoorRows
import GoSem.ClaimSeven
namespace Go.Proofs.YtjcllneibeemgaaDoor
namespace Rows

/-- THE TIED CARD OF 'tributarylaw1.WireInts'. -/
def wireIntsCard : Claim7 := { stood := { row := wireIntsRow, standIns := [], harness := (true, "518232de307b9791e1656176b18b05e0db109c8a48347e1f39ed4941090de8d1"), looks := true }, kinds := [], alts := [], laidByText := true, laidKinds := [.handle], laidTests := true, laidLooks := .later }
def WireIntsCardSaid : Prop := Claim7.holds Tryd.pinned (.plain (OpenSpec.ofChange wireIntsSpec)) wireIntsCard

/-- THE TIED CARD OF 'tributarylaw1.WireShort'. -/
def wireShortCard : Claim7 := { stood := { row := wireShortRow, standIns := [], harness := (true, "518232de307b9791e1656176b18b05e0db109c8a48347e1f39ed4941090de8d1"), looks := true }, kinds := [], alts := [], laidByText := true, laidKinds := [.handle], laidTests := true, laidLooks := .later }
def WireShortCardSaid : Prop := Claim7.holds Tryd.pinned (.plain (OpenSpec.ofChange wireShortSpec)) wireShortCard

/-- THE TIED CARD OF 'tributarylaw1.WireIDs'. -/
def wireIDsCard : Claim7 := { stood := { row := wireIDsRow, standIns := [], harness := (true, "518232de307b9791e1656176b18b05e0db109c8a48347e1f39ed4941090de8d1"), looks := true }, kinds := [], alts := [], laidByText := true, laidKinds := [.handle], laidTests := true, laidLooks := .later }
def WireIDsCardSaid : Prop := Claim7.holds Tryd.pinned (.plain (OpenSpec.ofChange wireIDsSpec)) wireIDsCard

/-- THE TIED CARD OF 'tributarylaw1.WireBack'. -/
def wireBackCard : Claim7 := { stood := { row := wireBackRow, standIns := [], harness := (true, "518232de307b9791e1656176b18b05e0db109c8a48347e1f39ed4941090de8d1"), looks := true }, kinds := [], alts := [], laidByText := true, laidKinds := [.handle], laidTests := true, laidLooks := .later }
def WireBackCardSaid : Prop := Claim7.holds Tryd.pinned (.plain (OpenSpec.ofChange wireBackSpec)) wireBackCard

/-- THE TIED CARD OF 'tributarylaw1.WireForth'. -/
def wireForthCard : Claim7 := { stood := { row := wireForthRow, standIns := [], harness := (true, "518232de307b9791e1656176b18b05e0db109c8a48347e1f39ed4941090de8d1"), looks := true }, kinds := [], alts := [], laidByText := true, laidKinds := [.handle], laidTests := true, laidLooks := .later }
def WireForthCardSaid : Prop := Claim7.holds Tryd.pinned (.plain (OpenSpec.ofChange wireForthSpec)) wireForthCard

/-- THE SECOND FORM's CARD OF 'tributarylaw1.WireInts'. -/
def wireIntsUptoCard : Claim7 := { stood := { row := wireIntsUptoRow, standIns := [], harness := (true, "518232de307b9791e1656176b18b05e0db109c8a48347e1f39ed4941090de8d1"), looks := true }, kinds := [], alts := [], laidByText := true, laidKinds := [.handle], laidTests := true, laidLooks := .later }
def WireIntsUptoCardSaid : Prop := Claim7.holds Tryd.pinned (.plain (OpenSpec.upto wireIntsSpec)) wireIntsUptoCard

/-- THE SECOND FORM's CARD OF 'tributarylaw1.WireShort'. -/
def wireShortUptoCard : Claim7 := { stood := { row := wireShortUptoRow, standIns := [], harness := (true, "518232de307b9791e1656176b18b05e0db109c8a48347e1f39ed4941090de8d1"), looks := true }, kinds := [], alts := [], laidByText := true, laidKinds := [.handle], laidTests := true, laidLooks := .later }
def WireShortUptoCardSaid : Prop := Claim7.holds Tryd.pinned (.plain (OpenSpec.upto wireShortSpec)) wireShortUptoCard

/-- THE SECOND FORM's CARD OF 'tributarylaw1.WireIDs'. -/
def wireIDsUptoCard : Claim7 := { stood := { row := wireIDsUptoRow, standIns := [], harness := (true, "518232de307b9791e1656176b18b05e0db109c8a48347e1f39ed4941090de8d1"), looks := true }, kinds := [], alts := [], laidByText := true, laidKinds := [.handle], laidTests := true, laidLooks := .later }
def WireIDsUptoCardSaid : Prop := Claim7.holds Tryd.pinned (.plain (OpenSpec.upto wireIDsSpec)) wireIDsUptoCard

/-- THE SECOND FORM's CARD OF 'tributarylaw1.WireBack'. -/
def wireBackUptoCard : Claim7 := { stood := { row := wireBackUptoRow, standIns := [], harness := (true, "518232de307b9791e1656176b18b05e0db109c8a48347e1f39ed4941090de8d1"), looks := true }, kinds := [], alts := [], laidByText := true, laidKinds := [.handle], laidTests := true, laidLooks := .later }
def WireBackUptoCardSaid : Prop := Claim7.holds Tryd.pinned (.plain (OpenSpec.upto wireBackSpec)) wireBackUptoCard

/-- THE SECOND FORM's CARD OF 'tributarylaw1.WireForth'. -/
def wireForthUptoCard : Claim7 := { stood := { row := wireForthUptoRow, standIns := [], harness := (true, "518232de307b9791e1656176b18b05e0db109c8a48347e1f39ed4941090de8d1"), looks := true }, kinds := [], alts := [], laidByText := true, laidKinds := [.handle], laidTests := true, laidLooks := .later }
def WireForthUptoCardSaid : Prop := Claim7.holds Tryd.pinned (.plain (OpenSpec.upto wireForthSpec)) wireForthUptoCard
end Rows
end Go.Proofs.YtjcllneibeemgaaDoor
